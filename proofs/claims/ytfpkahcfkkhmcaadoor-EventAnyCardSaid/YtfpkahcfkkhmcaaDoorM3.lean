/- The walks of the document's events: one line is read, all are. No condition. -/
import Derived.Test.YtfpkahcfkkhmcaaDoorM2
import Derived.Lib.SplitLaws
import Derived.Test.YtfpkahcfkkhmcaaDoorM1
import Derived.Shelf.Vars
set_option linter.unusedVariables false
set_option linter.unusedSimpArgs false
namespace Go.Eng
open Go Go.Proofs Go.RowKit
def refE (t : List UInt8) : Nat → Int
  | 0 => 0
  | k + 1 => if evT ((k + 1 : Nat) : Int) = t then ((k + 1 : Nat) : Int) else refE t k
theorem evT_mem {k : Int} (h : 1 ≤ k ∧ k ≤ 14) : evT k ∈ evW := by
  rcases ev_cases h with rfl | rfl | rfl | rfl | rfl | rfl | rfl | rfl | rfl | rfl | rfl | rfl | rfl | rfl <;> decide +kernel
theorem refE_no {t : List UInt8} (h : t ∉ evW) : ∀ k, k ≤ 14 → refE t k = 0
  | 0, _ => rfl
  | k + 1, hk => by
    rw [refE, if_neg (fun q => h (by rw [← q]; exact evT_mem (by omega))), refE_no h k (by omega)]
theorem kindEv_no {t : List UInt8} (h : t ∉ evW) : kindEv t = -1 := by
  unfold kindEv
  exact fix_miss (by rw [List.any_eq_false]; intro y hy; simp only [decide_eq_true_eq]; rintro rfl; exact h hy)
theorem refE_eq (t : List UInt8) : refE t 14 = if evOk (kindEv t) then kindEv t else 0 := by
  by_cases h : t ∈ evW
  · simp only [evW, List.mem_cons, List.not_mem_nil, or_false] at h
    rcases h with rfl | rfl | rfl | rfl | rfl | rfl | rfl | rfl | rfl | rfl | rfl | rfl | rfl | rfl | rfl <;> decide +kernel
  · rw [refE_no h 14 (Nat.le_refl _), kindEv_no h]; rfl
def evR (w : List (List UInt8)) : Evt := ⟨BitVec.ofInt 64 (numO (w.getD 0 [])), refE (w.getD 1 []) 14, numO (w.getD 2 []), lockN (w.getD 3 []), numO (w.getD 4 [])⟩
theorem evR_may (w : List (List UInt8)) : mayEv (evR w) = (decide (w.getD 1 [] ≠ []) && mayEv (evOf w)) := by
  have h := refE_eq (w.getD 1 [])
  by_cases h2 : evOk (kindEv (w.getD 1 [])) = true
  · rw [if_pos h2] at h
    have h3 : evR w = evOf w := by unfold evR evOf; rw [h]
    rw [h3, decide_eq_true (show w.getD 1 [] ≠ [] by intro q; rw [q] at h2; revert h2; decide +kernel), Bool.true_and]
  · rw [if_neg h2] at h
    have e1 : mayEv (evR w) = false := by
      unfold mayEv evR; simp only [h]; simp [evOk]
    have e2 : mayEv (evOf w) = false := by
      unfold mayEv evOf; simp only [show evOk (kindEv (w.getD 1 [])) = false by simpa using h2]; simp
    rw [e1, e2, Bool.and_false]
theorem evR_eq {w : List (List UInt8)} (h : mayEv (evR w) = true) : evR w = evOf w := by
  have h1 := refE_eq (w.getD 1 [])
  by_cases h2 : evOk (kindEv (w.getD 1 [])) = true
  · rw [if_pos h2] at h1; unfold evR evOf; rw [h1]
  · rw [if_neg h2] at h1
    exfalso
    unfold mayEv evR at h; simp only [h1] at h; simp [evOk] at h
theorem isEv_len {s : List UInt8} (h : (splW s).length ≠ 5) : isEv s = false := by unfold isEv; rw [decide_eq_false h]; simp
theorem isEv_lock {s : List UInt8} (h : (splW s).getD 3 [] ≠ [45]) (h2 : numO ((splW s).getD 3 []) < 0) : isEv s = false := by
  unfold isEv; rw [decide_eq_false h, decide_eq_false (show ¬ 0 ≤ numO ((splW s).getD 3 []) by omega)]; simp
theorem isEv_num {s : List UInt8} (h : numO ((splW s).getD 0 []) < 0 ∨ numO ((splW s).getD 2 []) < 0 ∨ numO ((splW s).getD 4 []) < 0) : isEv s = false := by
  rcases h with h | h | h
  · unfold isEv; rw [decide_eq_false (show ¬ 0 ≤ numO ((splW s).getD 0 []) by omega)]; simp
  · have : mayEv (evOf (splW s)) = false := by
      unfold mayEv evOf inB; simp only [decide_eq_false (show ¬ 0 ≤ numO ((splW s).getD 2 []) by omega)]; simp
    unfold isEv; rw [this]; simp
  · have : mayEv (evOf (splW s)) = false := by
      unfold mayEv evOf inB; simp only [decide_eq_false (show ¬ 0 ≤ numO ((splW s).getD 4 []) by omega)]; simp
    unfold isEv; rw [this]; simp
theorem isEv_yes {s : List UInt8} (h : (splW s).length = 5) (h3 : (splW s).getD 3 [] = [45] ∨ 0 ≤ numO ((splW s).getD 3 [])) (h0 : 0 ≤ numO ((splW s).getD 0 [])) : isEv s = mayEv (evR (splW s)) := by
  unfold isEv
  rw [evR_may, decide_eq_true h, decide_eq_true h0]
  rcases h3 with h3 | h3
  · rw [decide_eq_true h3]; simp
  · rw [decide_eq_true h3]; simp
theorem splW_len : ∀ (s : List UInt8), ∀ x ∈ splW s, x.length ≤ s.length
  | [], x, h => by simp [splW] at h; subst h; exact Nat.le_refl _
  | c :: l, x, h => by
    have ih := splW_len l
    unfold splW at h
    split at h
    · rcases List.mem_cons.1 h with rfl | h
      · exact Nat.zero_le _
      · exact Nat.le_succ_of_le (ih x h)
    · split at h
      · rename_i q; exact absurd q (splW_ne l)
      · rename_i w r q
        rcases List.mem_cons.1 h with rfl | h
        · have := ih w (by rw [q]; exact List.mem_cons_self ..); simp; omega
        · exact Nat.le_succ_of_le (ih x (by rw [q]; exact List.mem_cons_of_mem _ h))
theorem spl_len (s : List UInt8) (i : Nat) : ((splW s).getD i []).length ≤ s.length := by
  by_cases h : i < (splW s).length
  · exact splW_len s _ (List.mem_of_getElem? (getq [] h))
  · rw [List.getD_eq_getElem?_getD, List.getElem?_eq_none (by omega)]; exact Nat.zero_le _
def OneT (s : List UInt8) (n0 : Nat) (v : Value) (m : Mem0) : Prop := (∃ e, v = .tuple #[.agg (fE e).toArray, .bool (isEv s)] ∧ (isEv s = true → e = evOf (splW s))) ∧ m = []
theorem OneT.mono {s : List UInt8} : ∀ (k k' : Nat) u m, k' ≤ k → OneT s k u m → OneT s k' u m := fun k k' u m h q => q
theorem OneT.no {s : List UInt8} {n0 : Nat} (h : isEv s = false) : OneT s n0 (.tuple #[.agg #[U 0#64, .int .i64 0, .int .i64 0, .int .i64 0, .int .i64 0], .bool false]) [] :=
  ⟨⟨default, by rw [h]; rfl, fun q => by rw [h] at q; cases q⟩, rfl⟩
theorem OneT.yes {s : List UInt8} {n0 : Nat} (h : isEv s = mayEv (evR (splW s))) : OneT s n0 (.tuple #[.agg (fE (evR (splW s))).toArray, .bool (mayEv (evR (splW s)))]) [] :=
  ⟨⟨_, by rw [h], fun q => evR_eq (by rw [← h]; exact q)⟩, rfl⟩
theorem nl_eq {c : UInt8} (h : ¬ ((c.toNat : Nat) : Int) ≠ 10) : notNlB c = false := by
  unfold notNlB; rw [decide_eq_false]; intro q; apply q; apply UInt8.toNat_inj.1; show c.toNat = 10; omega
theorem nl_ne {c : UInt8} (h : ((c.toNat : Nat) : Int) ≠ 10) : notNlB c = true := by
  unfold notNlB; rw [decide_eq_true]; intro q; apply h; rw [q]; rfl
theorem endL_go {s : List UInt8} {j : Nat} (h : j < s.length) (h2 : ((((s.getD j 0).toNat : Nat)) : Int) ≠ 10) : endL s j = endL s (j + 1) + 1 := runL_step h (nl_ne h2)
theorem endL_at {s : List UInt8} {j : Nat} (h : j < s.length) (h2 : ¬ ((((s.getD j 0).toNat : Nat)) : Int) ≠ 10) : endL s j = 0 := runL_stop h (nl_eq h2)
theorem endL_end {s : List UInt8} {j : Nat} (h : s.length ≤ j) : endL s j = 0 := runL_end h
theorem parO_big {s : List UInt8} (h : (1000000 : Int) < (s.length : Int)) : parO s = ([], 1000000, 6) := by unfold parO; rw [if_pos (by omega)]
theorem parO_small {s : List UInt8} (h : ¬ (1000000 : Int) < (s.length : Int)) : parO s = parL s 0 [] := by unfold parO; rw [if_neg (by omega)]
theorem EvT.no {r : List Evt × Int × Int} {n0 : Nat} {p e : Int} (h : r = ([], p, e)) : EvT r n0 (.tuple #[.slice none 0 0, .int .i64 p, .int .i64 e]) [] := by
  subst h; exact ⟨none, 0, 0, rfl, rfl, .nil _ _ _ _⟩
set_option maxRecDepth 100000 in
set_option maxHeartbeats 2000000 in
theorem reone_spec (s : List UInt8) (w : World) (hs : s.length ≤ 1000000000) : Ret Tryd.prog 31 #[vS s] w (fun v w' => Ext w w' ∧ ∃ m, OneT s w.heap.size v m ∧ Mem w' m ∧ ∀ p ∈ m, w.heap.size ≤ p.1) := by
 refine Ret.enterM (l := [vS s]) Tryd.func31 rfl Tryd.ntmps31 rfl ([]) (no) (Mem.nil w) ?_
 refine wpM.seq (wpM.region ?_)
 refine LM.alloc Tryd.zeroValue39 rfl (fun b2 hb2 => ?_)
 refine LM.as rfl ?_
 refine LM.nil (QM.sub (e' := [(0, _), (2, _)]) au9 (QM.then (wpM.seq (wpM.region ?_))))
 refine LM.mv rfl ?_
 refine LM.cS (oc_call (enters_fn Tryd.func65 (by kernel_rfl) rfl) rfl) (fun w hm hc hg => rewords_spec s w hs) (fun ad10 n10 cap10 m10 hn10 hs10 => ?_)
 refine LM.as rfl ?_
 refine LM.nil (QM.sub (e' := [(2, _), (4, _)]) au9 (QM.then ?_))
 refine wpM.seq ?_
 refine wpM.seq (wpM.region ?_)
 refine LM.mv rfl ?_
 refine LM.val (ov_len Tryd.underlying119 rfl) ?_
 refine LM.val (ov_neq rfl rfl) ?_
 refine LM.nil (QM.sub (e' := [(2, _), (4, _), (13, _)]) au9 (QM.then ?_))
 refine wpM.condD rfl (fun h1 => ?_) (fun h1 => ?_)
 ·
  refine wpM.seq (wpM.region ?_)
  refine LM.val (ov_build (cs := #[_, _, _, _, _]) rfl (by first | rfl | kernel_rfl)) ?_
  refine LM.stW Tryd.sizeOf39 rfl rfl rfl rfl au7 au8 ?_
  refine LM.as rfl ?_
  refine LM.nil (QM.sub (e' := [(2, _), (3, _)]) au9 (QM.then ?_))
  refine wpM.ret ?_
  refine QM.then_ret ?_
  refine QM.leaveCs (ds := ([])) (.inl rfl) [.cell 2 39, .tmp 3] Tryd.results31 hd_nil (rc_w rfl Tryd.isAgg39 Tryd.sizeOf39 rfl (rc_tmp rfl rc_nil)) ?_
  intro w' hm' hc'
  exact ⟨hc', [], OneT.no (isEv_len (by omega)), Mem.nil _, fun p hp => by cases hp⟩
 have hln5 : (splW s).length = 5 := (by omega); have hw0 : ((splW s).getD 0 default).length ≤ s.length := spl_len s 0; have hw2 : ((splW s).getD 2 default).length ≤ s.length := spl_len s 2; have hw3 : ((splW s).getD 3 default).length ≤ s.length := spl_len s 3; have hw4 : ((splW s).getD 4 default).length ≤ s.length := spl_len s 4
 refine wpM.skip ?_
 refine QM.then (wpM.seq (wpM.region ?_))
 refine LM.as rfl ?_
 refine LM.nil (QM.sub (e' := [(2, _), (4, _), (5, _)]) au9 (QM.then ?_))
 refine wpM.seq ?_
 refine wpM.seq (wpM.region ?_)
 refine LM.as rfl ?_
 refine LM.nil (QM.sub (e' := [(2, _), (4, _), (5, _), (6, _)]) au9 (QM.then ?_))
 refine wpM.block ?_
 refine wpM.loopK0 (α := Nat × Int) (fun ⟨k, kd⟩ => [(5, .int .i64 kd), (6, .int .i64 (k : Nat))]) [(2, _), (4, _)] (fun ⟨k, kd⟩ => (b2, .cells #[U 0#64, .int .i64 0, .int .i64 0, .int .i64 0, .int .i64 0] 39 (0, 0)) :: (m10 ++ [])) (fun ⟨k, kd⟩ => (1 ≤ k ∧ k ≤ 15) ∧ kd = refE ((splW s).getD 1 default) (k - 1)) (fun ⟨k, kd⟩ => 15 - k) ((1, 0)) ⟨au2, au2, rfl, rfl, trivial⟩ au1 ⟨⟨Nat.le_refl _, by decide⟩, rfl⟩ ?_
 rintro ⟨k, kd⟩ ⟨⟨hk1, hk⟩, hkd⟩
 change wpM _ _ _ _ _ _ _ ((b2, .cells #[U 0#64, .int .i64 0, .int .i64 0, .int .i64 0, .int .i64 0] 39 (0, 0)) :: (m10 ++ [])) _ _ _
 refine wpM.seq ?_
 refine wpM.seq (wpM.region ?_)
 refine LM.mv rfl ?_
 refine LM.val (ov_leq rfl rfl) ?_
 refine LM.nil (QM.sub (e' := [(2, _), (4, _), (5, _), (6, _), (16, _)]) au9 (QM.then ?_))
 refine wpM.condD rfl (fun h2 => ?_) (fun h2 => ?_)
 ·
  refine wpM.skip ?_
  refine QM.then ?_
  refine wpM.seq ?_
  refine wpM.block ?_
  refine wpM.seq ?_
  refine wpM.draw [(0, 0), (2, 0), (3, 0), (4, 1), (1, 2), (5, 0)] (by kernel_rfl) (by kernel_rfl) ?_
  refine LD.val rfl rfl (ov_move rfl) ?_
  refine LD.val rfl rfl (ov_move rfl) ?_
  refine LD.val rfl rfl (ov_idxSN (i := 1) au6 Tryd.underlying119 Tryd.sizeOf9 rfl rfl (by omega)) ?_
  refine LD.rd rfl rfl (om_sl1 (by assumption) (by intro _; rfl) Tryd.isAgg9 rfl rfl au3 (by rfl)) ?_
  refine LD.callE rfl rfl (oc_call (enters_fn Tryd.func66 (by kernel_rfl) rfl) rfl) (fun w hm hc hg => rename_spec (k : Nat) w) ?_
  refine LD.val rfl rfl (ov_seqlL rfl rfl) ?_
  refine LD.nil ?_
  refine QM.sub (e' := [(2, _), (4, _), (5, _), (6, _), (24, _)]) au9 (QM.then ?_)
  refine wpM.condD rfl (fun h3 => ?_) (fun h3 => ?_)
  ·
   refine wpM.region ?_
   refine LM.mv rfl (LM.as rfl ?_)
   refine LM.nil (QM.sub (e' := [(2, _), (4, _), (5, _), (6, _)]) au9 ?_)
   refine QM.block_normal ?_
   refine QM.then (wpM.region ?_)
   refine LM.mv rfl ?_
   refine LM.val (ov_add64 rfl rfl (by omega)) ?_
   refine LM.as rfl ?_
   refine LM.nil (QM.sub (e' := [(2, _), (4, _), (5, _), (6, _)]) au9 ?_)
   refine QM.againK ((k + 1, (k : Int))) ⟨au2, au2, rfl, rfl, trivial⟩ au1 (fun _ h => h) ?_ ?_
   · exact ⟨by omega, by obtain ⟨j, rfl⟩ : ∃ j, k = j + 1 := ⟨k - 1, by omega⟩; rw [Nat.add_sub_cancel, refE, if_pos h3]⟩
   · first | omega | (dsimp only; omega)
  refine wpM.skip ?_
  refine QM.block_normal ?_
  refine QM.then (wpM.region ?_)
  refine LM.mv rfl ?_
  refine LM.val (ov_add64 rfl rfl (by omega)) ?_
  refine LM.as rfl ?_
  refine LM.nil (QM.sub (e' := [(2, _), (4, _), (5, _), (6, _)]) au9 ?_)
  refine QM.againK ((k + 1, kd)) ⟨au2, au2, rfl, rfl, trivial⟩ au1 (fun _ h => h) ?_ ?_
  · exact ⟨by omega, by obtain ⟨j, rfl⟩ : ∃ j, k = j + 1 := ⟨k - 1, by omega⟩; rw [Nat.add_sub_cancel, refE, if_neg h3, hkd, Nat.add_sub_cancel]⟩
  · first | omega | (dsimp only; omega)
 refine wpM.exit ?_
 refine QM.then_exit ?_
 refine QM.then_exit ?_
 refine QM.block_hit ?_
 refine QM.then (wpM.seq (wpM.region ?_))
 refine LM.as rfl ?_
 refine LM.nil (QM.sub (e' := [(2, _), (4, _), (5, _), (7, _)]) au9 (QM.then ?_))
 refine wpM.seq ?_
 refine wpM.seq (wpM.region ?_)
 refine LM.mv rfl ?_
 refine LM.val (ov_idxSN (i := 3) au6 Tryd.underlying119 Tryd.sizeOf9 rfl rfl (by omega)) ?_
 refine LM.rd (om_sl1 (by assumption) (by intro _; rfl) Tryd.isAgg9 rfl rfl au3 (by rfl)) ?_
 refine LM.val (ov_sneqL rfl rfl) ?_
 refine LM.nil (QM.sub (e' := [(2, _), (4, _), (5, _), (7, _), (29, _)]) au9 (QM.then ?_))
 refine wpM.joinK (α := Int) (fun lk => [(7, .int .i64 lk)]) [(2, _), (4, _), (5, _)] (fun lk => (b2, .cells #[U 0#64, .int .i64 0, .int .i64 0, .int .i64 0, .int .i64 0] 39 (0, 0)) :: (m10 ++ [])) (fun lk => lk = lockN ((splW s).getD 3 default) ∧ ((splW s).getD 3 default = [45] ∨ 0 ≤ numO ((splW s).getD 3 default))) ⟨rfl, rfl, rfl, trivial⟩ ?_ ?_
 ·
  refine wpM.condD rfl (fun h4 => ?_) (fun h4 => ?_)
  ·
   refine wpM.seq (wpM.region ?_)
   refine LM.mv rfl ?_
   refine LM.val (ov_idxSN (i := 3) au6 Tryd.underlying119 Tryd.sizeOf9 rfl rfl (by omega)) ?_
   refine LM.rd (om_sl1 (by assumption) (by intro _; rfl) Tryd.isAgg9 rfl rfl au3 (by rfl)) ?_
   refine LM.callE (oc_call (enters_fn Tryd.func67 (by kernel_rfl) rfl) rfl) (fun w hm hc hg => renum_spec _ w (by omega)) ?_
   refine LM.as rfl ?_
   refine LM.nil (QM.sub (e' := [(2, _), (4, _), (5, _), (7, _)]) au9 (QM.then (wpM.seq (wpM.region ?_))))
   refine LM.mv rfl ?_
   refine LM.val (ov_lss rfl rfl) ?_
   refine LM.nil (QM.sub (e' := [(2, _), (4, _), (5, _), (7, _), (35, _)]) au9 (QM.then ?_))
   refine wpM.condD rfl (fun h5 => ?_) (fun h5 => ?_)
   ·
    refine wpM.seq (wpM.region ?_)
    refine LM.val (ov_build (cs := #[_, _, _, _, _]) rfl (by first | rfl | kernel_rfl)) ?_
    refine LM.stW Tryd.sizeOf39 rfl rfl rfl rfl au7 au8 ?_
    refine LM.as rfl ?_
    refine LM.nil (QM.sub (e' := [(2, _), (3, _)]) au9 (QM.then ?_))
    refine wpM.ret ?_
    refine QM.join_ret ?_
    refine QM.then_ret ?_
    refine QM.leaveCs (ds := ([])) (.inl rfl) [.cell 2 39, .tmp 3] Tryd.results31 hd_nil (rc_w rfl Tryd.isAgg39 Tryd.sizeOf39 rfl (rc_tmp rfl rc_nil)) ?_
    intro w' hm' hc'
    exact ⟨hc', [], OneT.no (isEv_lock h4 h5), Mem.nil _, fun p hp => by cases hp⟩
   refine wpM.skip ?_
   refine QM.meetK (_) ⟨au2, rfl, rfl, rfl, trivial⟩ au1 ?_
   · exact ⟨by unfold lockN; rw [if_neg h4], .inr (by omega)⟩
  refine wpM.skip ?_
  refine QM.meetK (_) ⟨au2, rfl, rfl, rfl, trivial⟩ au1 ?_
  · exact ⟨by unfold lockN; rw [if_pos (Classical.not_not.1 h4)], .inl (Classical.not_not.1 h4)⟩
 rintro lk ⟨hlk, hl3⟩
 change QM _ _ _ _ _ ((b2, .cells #[U 0#64, .int .i64 0, .int .i64 0, .int .i64 0, .int .i64 0] 39 (0, 0)) :: (m10 ++ [])) _ _ _
 refine QM.then ?_
 refine wpM.seq ?_
 refine wpM.seq (wpM.region ?_)
 refine LM.mv rfl ?_
 refine LM.val (ov_idxSN (i := 0) au6 Tryd.underlying119 Tryd.sizeOf9 rfl rfl (by omega)) ?_
 refine LM.rd (om_sl1 (by assumption) (by intro _; rfl) Tryd.isAgg9 rfl rfl au3 (by rfl)) ?_
 refine LM.callE (oc_call (enters_fn Tryd.func67 (by kernel_rfl) rfl) rfl) (fun w hm hc hg => renum_spec _ w (by omega)) ?_
 refine LM.val (ov_lss rfl rfl) ?_
 refine LM.mv rfl ?_
 refine LM.splitD (t := 42) rfl (fun h6 => ?_) (fun h6 => ?_)
 ·
  refine LM.dr 42 rfl rfl rfl (LM.dr 42 rfl rfl rfl (LM.dr 42 rfl rfl rfl (LM.dr 42 rfl rfl rfl (LM.dr 42 rfl rfl rfl ?_))))
  refine LM.val (ov_pickT rfl rfl) ?_
  refine LM.mv rfl (LM.dr 49 rfl rfl rfl (LM.dr 49 rfl rfl rfl (LM.dr 49 rfl rfl rfl (LM.dr 49 rfl rfl rfl (LM.dr 49 rfl rfl rfl ?_)))))
  refine LM.val (ov_pickT rfl rfl) ?_
  refine LM.nil (QM.sub (e' := [(2, _), (4, _), (5, _), (7, _), (55, _)]) au9 (QM.then ?_))
  refine wpM.condT rfl ?_
  refine wpM.seq (wpM.region ?_)
  refine LM.val (ov_build (cs := #[_, _, _, _, _]) rfl (by first | rfl | kernel_rfl)) ?_
  refine LM.stW Tryd.sizeOf39 rfl rfl rfl rfl au7 au8 ?_
  refine LM.as rfl ?_
  refine LM.nil (QM.sub (e' := [(2, _), (3, _)]) au9 (QM.then ?_))
  refine wpM.ret ?_
  refine QM.then_ret ?_
  refine QM.leaveCs (ds := ([])) (.inl rfl) [.cell 2 39, .tmp 3] Tryd.results31 hd_nil (rc_w rfl Tryd.isAgg39 Tryd.sizeOf39 rfl (rc_tmp rfl rc_nil)) ?_
  intro w' hm' hc'
  exact ⟨hc', [], OneT.no (isEv_num (.inl h6)), Mem.nil _, fun p hp => by cases hp⟩
 refine LM.sp 42 rfl rfl rfl (LM.mv rfl (LM.sp 42 rfl rfl rfl ?_))
 refine LM.val (ov_idxSN (i := 2) au6 Tryd.underlying119 Tryd.sizeOf9 rfl rfl (by omega)) ?_
 refine LM.sp 42 rfl rfl rfl ?_
 refine LM.rd (om_sl1 (by assumption) (by intro _; rfl) Tryd.isAgg9 rfl rfl au3 (by rfl)) ?_
 refine LM.sp 42 rfl rfl rfl ?_
 refine LM.callE (oc_call (enters_fn Tryd.func67 (by kernel_rfl) rfl) rfl) (fun w hm hc hg => renum_spec _ w (by omega)) ?_
 refine LM.sp 42 rfl rfl rfl ?_
 refine LM.val (ov_lss rfl rfl) ?_
 refine LM.val (ov_pickF rfl rfl) ?_
 refine LM.mv rfl ?_
 refine LM.splitD (t := 49) rfl (fun h7 => ?_) (fun h7 => ?_)
 ·
  refine LM.dr 49 rfl rfl rfl (LM.dr 49 rfl rfl rfl (LM.dr 49 rfl rfl rfl (LM.dr 49 rfl rfl rfl (LM.dr 49 rfl rfl rfl ?_))))
  refine LM.val (ov_pickT rfl rfl) ?_
  refine LM.nil (QM.sub (e' := [(2, _), (4, _), (5, _), (7, _), (55, _)]) au9 (QM.then ?_))
  refine wpM.condT rfl ?_
  refine wpM.seq (wpM.region ?_)
  refine LM.val (ov_build (cs := #[_, _, _, _, _]) rfl (by first | rfl | kernel_rfl)) ?_
  refine LM.stW Tryd.sizeOf39 rfl rfl rfl rfl au7 au8 ?_
  refine LM.as rfl ?_
  refine LM.nil (QM.sub (e' := [(2, _), (3, _)]) au9 (QM.then ?_))
  refine wpM.ret ?_
  refine QM.then_ret ?_
  refine QM.leaveCs (ds := ([])) (.inl rfl) [.cell 2 39, .tmp 3] Tryd.results31 hd_nil (rc_w rfl Tryd.isAgg39 Tryd.sizeOf39 rfl (rc_tmp rfl rc_nil)) ?_
  intro w' hm' hc'
  exact ⟨hc', [], OneT.no (isEv_num (.inr (.inl h7))), Mem.nil _, fun p hp => by cases hp⟩
 refine LM.sp 49 rfl rfl rfl (LM.mv rfl (LM.sp 49 rfl rfl rfl ?_))
 refine LM.val (ov_idxSN (i := 4) au6 Tryd.underlying119 Tryd.sizeOf9 rfl rfl (by omega)) ?_
 refine LM.sp 49 rfl rfl rfl ?_
 refine LM.rd (om_sl1 (by assumption) (by intro _; rfl) Tryd.isAgg9 rfl rfl au3 (by rfl)) ?_
 refine LM.sp 49 rfl rfl rfl ?_
 refine LM.callE (oc_call (enters_fn Tryd.func67 (by kernel_rfl) rfl) rfl) (fun w hm hc hg => renum_spec _ w (by omega)) ?_
 refine LM.sp 49 rfl rfl rfl ?_
 refine LM.val (ov_lss rfl rfl) ?_
 refine LM.val (ov_pickF rfl rfl) ?_
 refine LM.nil (QM.sub (e' := [(2, _), (4, _), (5, _), (7, _), (55, _)]) au9 (QM.then ?_))
 refine wpM.condD rfl (fun h8 => ?_) (fun h8 => ?_)
 ·
  refine wpM.seq (wpM.region ?_)
  refine LM.val (ov_build (cs := #[_, _, _, _, _]) rfl (by first | rfl | kernel_rfl)) ?_
  refine LM.stW Tryd.sizeOf39 rfl rfl rfl rfl au7 au8 ?_
  refine LM.as rfl ?_
  refine LM.nil (QM.sub (e' := [(2, _), (3, _)]) au9 (QM.then ?_))
  refine wpM.ret ?_
  refine QM.then_ret ?_
  refine QM.leaveCs (ds := ([])) (.inl rfl) [.cell 2 39, .tmp 3] Tryd.results31 hd_nil (rc_w rfl Tryd.isAgg39 Tryd.sizeOf39 rfl (rc_tmp rfl rc_nil)) ?_
  intro w' hm' hc'
  exact ⟨hc', [], OneT.no (isEv_num (.inr (.inr h8))), Mem.nil _, fun p hp => by cases hp⟩
 refine wpM.skip ?_
 refine QM.then ?_
 refine wpM.seq ?_
 refine wpM.keep (m10 ++ []) (fun _ => True) (.one 0 0 (.one 1 0 (.one 2 1 (.one 5 0 (.one 6 0 (.one 7 0 (.one 8 1 (.one 10 0 (.one 11 0 (.one 12 0 (.one 13 1 (.fork 3 (.one 4 0 (.fork 9 (.fork 14 (.one 15 0 (.one 16 2 (.one 17 2 .nil))) 16 (.one 14 2 (.one 15 0 (.one 17 2 .nil)))) 16 (.one 9 2 (.one 14 2 (.one 15 0 (.one 17 2 .nil)))))) 16 (.one 3 2 (.one 4 0 (.one 9 2 (.one 14 2 (.one 15 0 (.one 17 2 .nil)))))))))))))))))) (by kernel_rfl) (by kernel_rfl) au1 (fun _ _ => trivial) ?_
 refine KD.val rfl rfl (ov_move rfl) ?_
 refine KD.val rfl rfl (ov_idxSN (i := 0) au6 Tryd.underlying119 Tryd.sizeOf9 rfl rfl (by omega)) ?_
 refine KD.rd rfl rfl (om_sl1 (by assumption) (by intro _; rfl) Tryd.isAgg9 rfl rfl au3 (by rfl)) ?_
 refine KD.val rfl rfl (ov_move rfl) ?_
 refine KD.val rfl rfl (ov_move rfl) ?_
 refine KD.val rfl rfl (ov_idxSN (i := 2) au6 Tryd.underlying119 Tryd.sizeOf9 rfl rfl (by omega)) ?_
 refine KD.rd rfl rfl (om_sl1 (by assumption) (by intro _; rfl) Tryd.isAgg9 rfl rfl au3 (by rfl)) ?_
 refine KD.val rfl rfl (ov_move rfl) ?_
 refine KD.val rfl rfl (ov_move rfl) ?_
 refine KD.val rfl rfl (ov_idxSN (i := 4) au6 Tryd.underlying119 Tryd.sizeOf9 rfl rfl (by omega)) ?_
 refine KD.rd rfl rfl (om_sl1 (by assumption) (by intro _; rfl) Tryd.isAgg9 rfl rfl au3 (by rfl)) ?_
 refine KD.fork rfl rfl ?_ ?_
 ·
  refine LM.callE (oc_call (enters_fn Tryd.func67 (by kernel_rfl) rfl) rfl) (fun w hm hc hg => renum_spec _ w (by omega)) ?_
  refine LM.nil ?_
  refine QM.one au1 (fun _ _ => trivial) ?_
  refine KD.val rfl rfl (ov_toU Tryd.underlying3 Tryd.underlying37 rfl) ?_
  refine KD.fork rfl rfl ?_ ?_
  ·
   refine LM.callE (oc_call (enters_fn Tryd.func67 (by kernel_rfl) rfl) rfl) (fun w hm hc hg => renum_spec _ w (by omega)) ?_
   refine LM.nil ?_
   refine QM.one au1 (fun _ _ => trivial) ?_
   refine KD.fork rfl rfl ?_ ?_
   ·
    refine LM.callE (oc_call (enters_fn Tryd.func67 (by kernel_rfl) rfl) rfl) (fun w hm hc hg => renum_spec _ w (by omega)) ?_
    refine LM.nil ?_
    refine QM.one au1 (fun _ _ => trivial) ?_
    refine KD.val rfl rfl (ov_build (cs := #[U (BitVec.ofInt 64 (numO ((splW s).getD 0 default))), .int .i64 kd, .int .i64 (numO ((splW s).getD 2 default)), .int .i64 lk, .int .i64 (numO ((splW s).getD 4 default))]) rfl (by kernel_rfl)) ?_
    refine KD.one rfl ?_
    refine LM.alloc Tryd.zeroValue39 rfl (fun b8 hb8 => ?_)
    refine LM.nil ?_
    refine QM.one au1 (fun _ _ => trivial) ?_
    refine KD.one rfl ?_
    refine LM.stW Tryd.sizeOf39 rfl rfl rfl rfl au7 au8 ?_
    refine LM.nil ?_
    refine QM.one au1 (fun _ _ => trivial) ?_
    refine KD.nil ?_
    refine QM.sub (e' := [(2, _), (8, _)]) au9 (QM.then ?_)
    refine wpM.seq ?_
    refine wpM.keep ((b8, _) :: []) (fun _ => True) (.one 0 1 (.one 1 1 (.one 2 2 (.one 3 2 (.one 4 0 .nil))))) (by kernel_rfl) (by kernel_rfl) au1 (fun _ _ => trivial) ?_
    refine KD.rd rfl rfl (om_ldW Tryd.isAgg39 Tryd.sizeOf39 rfl rfl) ?_
    refine KD.rd rfl rfl (om_ldW Tryd.isAgg39 Tryd.sizeOf39 rfl rfl) ?_
    refine KD.one rfl ?_
    refine LM.callE (oc_call (enters_fn Tryd.func68 (by kernel_rfl) rfl) rfl) (fun w hm hc hg => remay_spec (⟨BitVec.ofInt 64 (numO ((splW s).getD 0 default)), kd, numO ((splW s).getD 2 default), lk, numO ((splW s).getD 4 default)⟩ : Evt) w) ?_
    refine LM.nil ?_
    refine QM.one au1 (fun _ _ => trivial) ?_
    refine KD.one rfl ?_
    refine LM.stW Tryd.sizeOf39 rfl rfl rfl rfl au7 au8 ?_
    refine LM.nil ?_
    refine QM.one au1 (fun _ _ => trivial) ?_
    refine KD.val rfl rfl (ov_assign rfl) ?_
    refine KD.nil ?_
    refine QM.sub (e' := [(2, _), (3, _)]) au9 (QM.then ?_)
    refine wpM.ret ?_
    refine QM.leaveCs (ds := ([])) (.inl rfl) [.cell 2 39, .tmp 3] Tryd.results31 hd_nil (rc_w rfl Tryd.isAgg39 Tryd.sizeOf39 rfl (rc_tmp rfl rc_nil)) ?_
    intro w' hm' hc'
    have he : evR (splW s) = (⟨BitVec.ofInt 64 (numO ((splW s).getD 0 default)), kd, numO ((splW s).getD 2 default), lk, numO ((splW s).getD 4 default)⟩ : Evt) := (by unfold evR; rw [hkd, hlk, show k - 1 = 14 by omega]; rfl); have hO := OneT.yes (n0 := w.heap.size) (s := s) (isEv_yes hln5 hl3 (Int.not_lt.1 h6)); rw [he] at hO; exact ⟨hc', [], hO, Mem.nil _, fun p hp => by cases hp⟩
   refine LM.alloc Tryd.zeroValue39 rfl (fun b8 hb8 => ?_)
   refine LM.nil ?_
   refine QM.one au1 (fun _ _ => trivial) ?_
   refine KD.one rfl ?_
   refine LM.callE (oc_call (enters_fn Tryd.func67 (by kernel_rfl) rfl) rfl) (fun w hm hc hg => renum_spec _ w (by omega)) ?_
   refine LM.nil ?_
   refine QM.one au1 (fun _ _ => trivial) ?_
   refine KD.val rfl rfl (ov_build (cs := #[U (BitVec.ofInt 64 (numO ((splW s).getD 0 default))), .int .i64 kd, .int .i64 (numO ((splW s).getD 2 default)), .int .i64 lk, .int .i64 (numO ((splW s).getD 4 default))]) rfl (by kernel_rfl)) ?_
   refine KD.one rfl ?_
   refine LM.stW Tryd.sizeOf39 rfl rfl rfl rfl au7 au8 ?_
   refine LM.nil ?_
   refine QM.one au1 (fun _ _ => trivial) ?_
   refine KD.nil ?_
   refine QM.sub (e' := [(2, _), (8, _)]) au9 (QM.then ?_)
   refine wpM.seq ?_
   refine wpM.keep ((b8, _) :: []) (fun _ => True) (.one 0 1 (.one 1 1 (.one 2 2 (.one 3 2 (.one 4 0 .nil))))) (by kernel_rfl) (by kernel_rfl) au1 (fun _ _ => trivial) ?_
   refine KD.rd rfl rfl (om_ldW Tryd.isAgg39 Tryd.sizeOf39 rfl rfl) ?_
   refine KD.rd rfl rfl (om_ldW Tryd.isAgg39 Tryd.sizeOf39 rfl rfl) ?_
   refine KD.one rfl ?_
   refine LM.callE (oc_call (enters_fn Tryd.func68 (by kernel_rfl) rfl) rfl) (fun w hm hc hg => remay_spec (⟨BitVec.ofInt 64 (numO ((splW s).getD 0 default)), kd, numO ((splW s).getD 2 default), lk, numO ((splW s).getD 4 default)⟩ : Evt) w) ?_
   refine LM.nil ?_
   refine QM.one au1 (fun _ _ => trivial) ?_
   refine KD.one rfl ?_
   refine LM.stW Tryd.sizeOf39 rfl rfl rfl rfl au7 au8 ?_
   refine LM.nil ?_
   refine QM.one au1 (fun _ _ => trivial) ?_
   refine KD.val rfl rfl (ov_assign rfl) ?_
   refine KD.nil ?_
   refine QM.sub (e' := [(2, _), (3, _)]) au9 (QM.then ?_)
   refine wpM.ret ?_
   refine QM.leaveCs (ds := ([])) (.inl rfl) [.cell 2 39, .tmp 3] Tryd.results31 hd_nil (rc_w rfl Tryd.isAgg39 Tryd.sizeOf39 rfl (rc_tmp rfl rc_nil)) ?_
   intro w' hm' hc'
   have he : evR (splW s) = (⟨BitVec.ofInt 64 (numO ((splW s).getD 0 default)), kd, numO ((splW s).getD 2 default), lk, numO ((splW s).getD 4 default)⟩ : Evt) := (by unfold evR; rw [hkd, hlk, show k - 1 = 14 by omega]; rfl); have hO := OneT.yes (n0 := w.heap.size) (s := s) (isEv_yes hln5 hl3 (Int.not_lt.1 h6)); rw [he] at hO; exact ⟨hc', [], hO, Mem.nil _, fun p hp => by cases hp⟩
  refine LM.alloc Tryd.zeroValue39 rfl (fun b8 hb8 => ?_)
  refine LM.nil ?_
  refine QM.one au1 (fun _ _ => trivial) ?_
  refine KD.one rfl ?_
  refine LM.callE (oc_call (enters_fn Tryd.func67 (by kernel_rfl) rfl) rfl) (fun w hm hc hg => renum_spec _ w (by omega)) ?_
  refine LM.nil ?_
  refine QM.one au1 (fun _ _ => trivial) ?_
  refine KD.one rfl ?_
  refine LM.callE (oc_call (enters_fn Tryd.func67 (by kernel_rfl) rfl) rfl) (fun w hm hc hg => renum_spec _ w (by omega)) ?_
  refine LM.nil ?_
  refine QM.one au1 (fun _ _ => trivial) ?_
  refine KD.val rfl rfl (ov_build (cs := #[U (BitVec.ofInt 64 (numO ((splW s).getD 0 default))), .int .i64 kd, .int .i64 (numO ((splW s).getD 2 default)), .int .i64 lk, .int .i64 (numO ((splW s).getD 4 default))]) rfl (by kernel_rfl)) ?_
  refine KD.one rfl ?_
  refine LM.stW Tryd.sizeOf39 rfl rfl rfl rfl au7 au8 ?_
  refine LM.nil ?_
  refine QM.one au1 (fun _ _ => trivial) ?_
  refine KD.nil ?_
  refine QM.sub (e' := [(2, _), (8, _)]) au9 (QM.then ?_)
  refine wpM.seq ?_
  refine wpM.keep ((b8, _) :: []) (fun _ => True) (.one 0 1 (.one 1 1 (.one 2 2 (.one 3 2 (.one 4 0 .nil))))) (by kernel_rfl) (by kernel_rfl) au1 (fun _ _ => trivial) ?_
  refine KD.rd rfl rfl (om_ldW Tryd.isAgg39 Tryd.sizeOf39 rfl rfl) ?_
  refine KD.rd rfl rfl (om_ldW Tryd.isAgg39 Tryd.sizeOf39 rfl rfl) ?_
  refine KD.one rfl ?_
  refine LM.callE (oc_call (enters_fn Tryd.func68 (by kernel_rfl) rfl) rfl) (fun w hm hc hg => remay_spec (⟨BitVec.ofInt 64 (numO ((splW s).getD 0 default)), kd, numO ((splW s).getD 2 default), lk, numO ((splW s).getD 4 default)⟩ : Evt) w) ?_
  refine LM.nil ?_
  refine QM.one au1 (fun _ _ => trivial) ?_
  refine KD.one rfl ?_
  refine LM.stW Tryd.sizeOf39 rfl rfl rfl rfl au7 au8 ?_
  refine LM.nil ?_
  refine QM.one au1 (fun _ _ => trivial) ?_
  refine KD.val rfl rfl (ov_assign rfl) ?_
  refine KD.nil ?_
  refine QM.sub (e' := [(2, _), (3, _)]) au9 (QM.then ?_)
  refine wpM.ret ?_
  refine QM.leaveCs (ds := ([])) (.inl rfl) [.cell 2 39, .tmp 3] Tryd.results31 hd_nil (rc_w rfl Tryd.isAgg39 Tryd.sizeOf39 rfl (rc_tmp rfl rc_nil)) ?_
  intro w' hm' hc'
  have he : evR (splW s) = (⟨BitVec.ofInt 64 (numO ((splW s).getD 0 default)), kd, numO ((splW s).getD 2 default), lk, numO ((splW s).getD 4 default)⟩ : Evt) := (by unfold evR; rw [hkd, hlk, show k - 1 = 14 by omega]; rfl); have hO := OneT.yes (n0 := w.heap.size) (s := s) (isEv_yes hln5 hl3 (Int.not_lt.1 h6)); rw [he] at hO; exact ⟨hc', [], hO, Mem.nil _, fun p hp => by cases hp⟩
 refine LM.alloc Tryd.zeroValue39 rfl (fun b8 hb8 => ?_)
 refine LM.nil ?_
 refine QM.one au1 (fun _ _ => trivial) ?_
 refine KD.one rfl ?_
 refine LM.callE (oc_call (enters_fn Tryd.func67 (by kernel_rfl) rfl) rfl) (fun w hm hc hg => renum_spec _ w (by omega)) ?_
 refine LM.nil ?_
 refine QM.one au1 (fun _ _ => trivial) ?_
 refine KD.val rfl rfl (ov_toU Tryd.underlying3 Tryd.underlying37 rfl) ?_
 refine KD.one rfl ?_
 refine LM.callE (oc_call (enters_fn Tryd.func67 (by kernel_rfl) rfl) rfl) (fun w hm hc hg => renum_spec _ w (by omega)) ?_
 refine LM.nil ?_
 refine QM.one au1 (fun _ _ => trivial) ?_
 refine KD.one rfl ?_
 refine LM.callE (oc_call (enters_fn Tryd.func67 (by kernel_rfl) rfl) rfl) (fun w hm hc hg => renum_spec _ w (by omega)) ?_
 refine LM.nil ?_
 refine QM.one au1 (fun _ _ => trivial) ?_
 refine KD.val rfl rfl (ov_build (cs := #[U (BitVec.ofInt 64 (numO ((splW s).getD 0 default))), .int .i64 kd, .int .i64 (numO ((splW s).getD 2 default)), .int .i64 lk, .int .i64 (numO ((splW s).getD 4 default))]) rfl (by kernel_rfl)) ?_
 refine KD.one rfl ?_
 refine LM.stW Tryd.sizeOf39 rfl rfl rfl rfl au7 au8 ?_
 refine LM.nil ?_
 refine QM.one au1 (fun _ _ => trivial) ?_
 refine KD.nil ?_
 refine QM.sub (e' := [(2, _), (8, _)]) au9 (QM.then ?_)
 refine wpM.seq ?_
 refine wpM.keep ((b8, _) :: []) (fun _ => True) (.one 0 1 (.one 1 1 (.one 2 2 (.one 3 2 (.one 4 0 .nil))))) (by kernel_rfl) (by kernel_rfl) au1 (fun _ _ => trivial) ?_
 refine KD.rd rfl rfl (om_ldW Tryd.isAgg39 Tryd.sizeOf39 rfl rfl) ?_
 refine KD.rd rfl rfl (om_ldW Tryd.isAgg39 Tryd.sizeOf39 rfl rfl) ?_
 refine KD.one rfl ?_
 refine LM.callE (oc_call (enters_fn Tryd.func68 (by kernel_rfl) rfl) rfl) (fun w hm hc hg => remay_spec (⟨BitVec.ofInt 64 (numO ((splW s).getD 0 default)), kd, numO ((splW s).getD 2 default), lk, numO ((splW s).getD 4 default)⟩ : Evt) w) ?_
 refine LM.nil ?_
 refine QM.one au1 (fun _ _ => trivial) ?_
 refine KD.one rfl ?_
 refine LM.stW Tryd.sizeOf39 rfl rfl rfl rfl au7 au8 ?_
 refine LM.nil ?_
 refine QM.one au1 (fun _ _ => trivial) ?_
 refine KD.val rfl rfl (ov_assign rfl) ?_
 refine KD.nil ?_
 refine QM.sub (e' := [(2, _), (3, _)]) au9 (QM.then ?_)
 refine wpM.ret ?_
 refine QM.leaveCs (ds := ([])) (.inl rfl) [.cell 2 39, .tmp 3] Tryd.results31 hd_nil (rc_w rfl Tryd.isAgg39 Tryd.sizeOf39 rfl (rc_tmp rfl rc_nil)) ?_
 intro w' hm' hc'
 have he : evR (splW s) = (⟨BitVec.ofInt 64 (numO ((splW s).getD 0 default)), kd, numO ((splW s).getD 2 default), lk, numO ((splW s).getD 4 default)⟩ : Evt) := (by unfold evR; rw [hkd, hlk, show k - 1 = 14 by omega]; rfl); have hO := OneT.yes (n0 := w.heap.size) (s := s) (isEv_yes hln5 hl3 (Int.not_lt.1 h6)); rw [he] at hO; exact ⟨hc', [], hO, Mem.nil _, fun p hp => by cases hp⟩
set_option maxRecDepth 100000 in
set_option maxHeartbeats 2000000 in
theorem reparse_spec (s : List UInt8) (w : World) : Ret Tryd.prog 9 #[vS s] w (fun v w' => Ext w w' ∧ ∃ m, EvT (parO s) w.heap.size v m ∧ Mem w' m ∧ ∀ p ∈ m, w.heap.size ≤ p.1) := by
 refine Ret.enterM (l := [vS s]) Tryd.func9 rfl Tryd.ntmps9 rfl ([]) (no) (Mem.nil w) ?_
 refine wpM.seq (wpM.region ?_)
 refine LM.as rfl (LM.as rfl (LM.as rfl ?_))
 refine LM.nil (QM.sub (e' := [(0, _)]) ⟨rfl, trivial⟩ (QM.then ?_))
 refine wpM.seq ?_
 refine wpM.seq (wpM.region ?_)
 refine LM.mv rfl ?_
 refine LM.val (ov_slenL Tryd.underlying9 rfl) ?_
 refine LM.val (ov_gtr rfl rfl) ?_
 refine LM.nil (QM.sub (e' := [(0, _), (12, _)]) au9 (QM.then ?_))
 refine wpM.condD rfl (fun h1 => ?_) (fun h1 => ?_)
 ·
  refine wpM.seq (wpM.region ?_)
  refine LM.as rfl (LM.as rfl (LM.as rfl ?_))
  refine LM.nil (QM.sub (e' := [(2, _), (3, _), (4, _)]) au9 (QM.then ?_))
  refine wpM.ret ?_
  refine QM.then_ret ?_
  refine QM.leave (.inl rfl) [.tmp 2, .tmp 3, .tmp 4] Tryd.results9 rfl ?_
  intro w' hm' hc' hg'
  exact ⟨hc', [], EvT.no (parO_big h1), Mem.nil _, fun p hp => by cases hp⟩
 refine wpM.skip ?_
 refine QM.then (wpM.seq (wpM.region ?_))
 refine LM.as rfl ?_
 refine LM.nil (QM.sub (e' := [(0, _), (5, _)]) au9 (QM.then (wpM.seq (wpM.region ?_))))
 refine LM.as rfl ?_
 refine LM.nil (QM.sub (e' := [(0, _), (5, _), (6, _)]) au9 (QM.then ?_))
 refine wpM.seq ?_
 refine wpM.block ?_
 refine wpM.loopK0 (α := Nat × List Evt × Option Addr × Nat × Nat × Mem0) (fun ⟨i, out, ad5, n5, cap5, m5⟩ => [(5, .slice ad5 n5 cap5), (6, .int .i64 (i : Nat))]) [(0, _)] (fun ⟨i, out, ad5, n5, cap5, m5⟩ => m5 ++ []) (fun ⟨i, out, ad5, n5, cap5, m5⟩ => i ≤ s.length ∧ parL s 0 [] = parL s i out ∧ out.length ≤ i ∧ n5 = out.length ∧ Sl fE 39 5 w.heap.size out (.slice ad5 n5 cap5) m5) (fun ⟨i, out, ad5, n5, cap5, m5⟩ => s.length - i) ((0, [], none, 0, 0, [])) ⟨au2, au2, rfl, trivial⟩ au1 ⟨Nat.zero_le _, rfl, Nat.le_refl _, rfl, .nil _ _ _ _⟩ ?_
 rintro ⟨i, out, ad5, n5, cap5, m5⟩ ⟨hi, hp, hlo, hn5, hs5⟩
 change wpM _ _ _ _ _ _ _ (m5 ++ []) _ _ _
 refine wpM.seq ?_
 refine wpM.seq (wpM.region ?_)
 refine LM.mv rfl (LM.mv rfl ?_)
 refine LM.val (ov_slenL Tryd.underlying9 rfl) ?_
 refine LM.val (ov_lss rfl rfl) ?_
 refine LM.nil (QM.sub (e' := [(0, _), (5, _), (6, _), (16, _)]) au9 (QM.then ?_))
 refine wpM.condD rfl (fun h2 => ?_) (fun h2 => ?_)
 ·
  refine wpM.skip ?_
  refine QM.then ?_
  refine wpM.block ?_
  refine wpM.seq (wpM.region ?_)
  refine LM.mv rfl (LM.as rfl ?_)
  refine LM.nil (QM.sub (e' := [(0, _), (5, _), (6, _), (7, _)]) au9 (QM.then ?_))
  refine wpM.seq ?_
  refine wpM.block ?_
  refine wpM.loopK0 (α := Nat) (fun j => [(7, .int .i64 (j : Nat))]) [(0, _), (5, _), (6, _)] (fun j => m5 ++ []) (fun j => i ≤ j ∧ j ≤ s.length ∧ i + endL s i = j + endL s j) (fun j => s.length - j) (i) ⟨au2, rfl, rfl, rfl, trivial⟩ au1 ⟨Nat.le_refl _, by omega, rfl⟩ ?_
  rintro j ⟨hij, hj, hej⟩
  change wpM _ _ _ _ _ _ _ (m5 ++ []) _ _ _
  refine wpM.seq ?_
  refine wpM.seq (wpM.region ?_)
  refine LM.mv rfl (LM.mv rfl ?_)
  refine LM.val (ov_slenL Tryd.underlying9 rfl) ?_
  refine LM.val (ov_lss rfl rfl) ?_
  refine LM.mv rfl ?_
  refine LM.splitD (t := 22) rfl (fun h3 => ?_) (fun h3 => ?_)
  ·
   refine LM.sp 22 rfl rfl rfl (LM.mv rfl (LM.sp 22 rfl rfl rfl (LM.mv rfl (LM.sp 22 rfl rfl rfl ?_))))
   refine LM.val (ov_sidxN Tryd.underlying9 rfl rfl (by omega)) ?_
   refine LM.sp 22 rfl rfl rfl ?_
   refine LM.val (ov_neq rfl rfl) ?_
   refine LM.val (ov_pickT rfl rfl) ?_
   refine LM.nil (QM.sub (e' := [(0, _), (5, _), (6, _), (7, _), (27, _)]) au9 (QM.then ?_))
   refine wpM.condD rfl (fun h4 => ?_) (fun h4 => ?_)
   ·
    refine wpM.skip ?_
    refine QM.then ?_
    refine wpM.block ?_
    refine wpM.region ?_
    refine LM.mv rfl ?_
    refine LM.val (ov_add64 rfl rfl (by omega)) ?_
    refine LM.as rfl ?_
    refine LM.nil (QM.sub (e' := [(0, _), (5, _), (6, _), (7, _)]) au9 ?_)
    refine QM.block_normal ?_
    refine QM.againK (j + 1) ⟨au2, rfl, rfl, rfl, trivial⟩ au1 (fun _ h => h) ?_ ?_
    · have := endL_go (s := s) (j := j) (by omega) h4; exact ⟨by omega, by omega, by omega⟩
    · omega
   have hz : i + endL s i = j := (by have := endL_at (s := s) (j := j) (by omega) h4; omega); have hpc : (s.drop i).take (j - i) = (s.drop i).take (endL s i) := (by congr 1; omega)
   refine wpM.exit ?_
   refine QM.then_exit ?_
   refine QM.then_exit ?_
   refine QM.block_hit ?_
   refine QM.then ?_
   refine wpM.seq ?_
   refine wpM.seq (wpM.region ?_)
   refine LM.mv rfl (LM.mv rfl ?_)
   refine LM.val (ov_slenL Tryd.underlying9 rfl) ?_
   refine LM.val (ov_eql rfl rfl) ?_
   refine LM.nil (QM.sub (e' := [(0, _), (5, _), (6, _), (7, _), (33, _)]) au9 (QM.then ?_))
   refine wpM.condD rfl (fun h5 => ?_) (fun h5 => ?_)
   ·
    refine wpM.seq (wpM.region ?_)
    refine LM.mv rfl (LM.as rfl (LM.as rfl (LM.as rfl ?_)))
    refine LM.nil (QM.sub (e' := [(2, _), (3, _), (4, _)]) au9 (QM.then ?_))
    refine wpM.ret ?_
    refine QM.then_ret ?_
    refine QM.block_ret ?_
    refine QM.then_ret ?_
    refine QM.block_ret ?_
    refine QM.then_ret ?_
    refine QM.leave (.inl rfl) [.tmp 2, .tmp 3, .tmp 4] Tryd.results9 rfl ?_
    intro w' hm' hc' hg'
    exact ⟨hc', [], EvT.no (by rw [parO_small h1, hp, parL_noend (by omega) (by omega)]), Mem.nil _, fun p hp => by cases hp⟩
   refine wpM.skip ?_
   refine QM.then (wpM.seq (wpM.region ?_))
   refine LM.mv rfl (LM.mv rfl (LM.mv rfl ?_))
   refine LM.val (ov_sslcL Tryd.underlying9 rfl rfl rfl (by omega) (by omega) (by omega)) ?_
   refine LM.callT (oc_call (enters_fn Tryd.func31 (by kernel_rfl) rfl) rfl) OneT.mono (fun w hm hc hg => reone_spec ((s.drop i).take (j - i)) w (by rw [List.length_take]; omega)) ?_
   rintro u40 m40 ⟨⟨e, rfl, he⟩, rfl⟩ -
   refine LM.mv rfl ?_
   refine LM.val (ov_extract rfl rfl) ?_
   refine LM.val (ov_extract rfl rfl) ?_
   refine LM.alloc Tryd.zeroValue39 rfl (fun b8 hb8 => ?_)
   refine LM.stW Tryd.sizeOf39 rfl rfl rfl rfl au7 au8 ?_
   refine LM.as rfl ?_
   refine LM.nil (QM.sub (e' := [(0, _), (5, _), (6, _), (7, _), (8, _), (9, _)]) au9 (QM.then ?_))
   refine wpM.seq ?_
   refine wpM.seq (wpM.region ?_)
   refine LM.mv rfl ?_
   first | refine LM.val (ov_notD rfl) ?_ | refine LM.val (ov_not rfl) ?_
   refine LM.nil (QM.sub (e' := [(0, _), (5, _), (6, _), (7, _), (8, _), (44, _)]) au9 (QM.then ?_))
   first | refine wpM.condD rfl (fun h6 => ?_) (fun h6 => ?_) | refine wpM.condB rfl (fun h6 => ?_) (fun h6 => ?_)
   ·
    refine wpM.seq (wpM.region ?_)
    refine LM.mv rfl (LM.as rfl (LM.as rfl (LM.as rfl ?_)))
    refine LM.nil (QM.sub (e' := [(2, _), (3, _), (4, _)]) au9 (QM.then ?_))
    refine wpM.ret ?_
    refine QM.then_ret ?_
    refine QM.block_ret ?_
    refine QM.then_ret ?_
    refine QM.block_ret ?_
    refine QM.then_ret ?_
    refine QM.leave (.inl rfl) [.tmp 2, .tmp 3, .tmp 4] Tryd.results9 rfl ?_
    intro w' hm' hc' hg'
    exact ⟨hc', [], EvT.no (by rw [parO_small h1, hp, parL_bad (by omega) (by rw [← hpc]; simpa using h6)]), Mem.nil _, fun p hp => by cases hp⟩
   refine wpM.skip ?_
   refine QM.then (wpM.seq (wpM.region ?_))
   refine LM.mv rfl ?_
   refine LM.rd (om_ldW Tryd.isAgg39 Tryd.sizeOf39 rfl rfl) ?_
   refine LM.single Tryd.underlying23 Tryd.sizeOf39 Tryd.zeroValue39 rfl rfl rfl rfl rfl (fun b48 hb48 => ?_)
   refine LM.app (a := e) Tryd.underlying23 Tryd.typeInfo39 rfl rfl rfl rfl rfl rfl rfl (by assumption) (by rfl) (by intro _; rfl) (by intro _ u hu; simp [fE] at hu; (repeat (first | (rcases hu with rfl | hu) | subst hu | rfl))) (by first | exact Nat.le_refl _ | omega) au10 (by first | omega | (unfold maxLen; omega)) (by simp only [Tryd.t39]; omega) (fun ad49 n49 cap49 m49 hn49 hs49 hin49 => ?_)
   refine LM.as rfl ?_
   refine LM.nil (QM.sub (e' := [(0, _), (5, _), (7, _)]) au9 (QM.then (wpM.region ?_)))
   refine LM.mv rfl ?_
   refine LM.val (ov_add64 rfl rfl (by omega)) ?_
   refine LM.as rfl ?_
   refine LM.nil (QM.sub (e' := [(0, _), (5, _), (6, _)]) au9 ?_)
   refine QM.block_normal ?_
   refine QM.againK ((j + 1, out ++ [e], ad49, n49, cap49, m49)) ⟨au2, au2, rfl, trivial⟩ au1 (fun _ h => h) ?_ ?_
   · exact ⟨by omega, by rw [hp, parL_next (by omega) (by omega) (by rw [← hpc]; simpa using h6), ← hpc, ← he (by simpa using h6), hz], by rw [List.length_append, List.length_singleton]; omega, by rw [List.length_append, List.length_singleton]; exact hn49, hs49⟩
   · first | omega | (dsimp only; omega)
  have hz : i + endL s i = j := (by have := endL_end (s := s) (j := j) (by omega); omega); have hpc : (s.drop i).take (j - i) = (s.drop i).take (endL s i) := (by congr 1; omega)
  refine LM.dr 22 rfl rfl rfl (LM.dr 22 rfl rfl rfl (LM.dr 22 rfl rfl rfl (LM.dr 22 rfl rfl rfl ?_)))
  refine LM.val (ov_pickF rfl rfl) ?_
  refine LM.nil (QM.sub (e' := [(0, _), (5, _), (6, _), (7, _), (27, _)]) au9 (QM.then ?_))
  refine wpM.condF rfl ?_
  refine wpM.exit ?_
  refine QM.then_exit ?_
  refine QM.then_exit ?_
  refine QM.block_hit ?_
  refine QM.then ?_
  refine wpM.seq ?_
  refine wpM.seq (wpM.region ?_)
  refine LM.mv rfl (LM.mv rfl ?_)
  refine LM.val (ov_slenL Tryd.underlying9 rfl) ?_
  refine LM.val (ov_eql rfl rfl) ?_
  refine LM.nil (QM.sub (e' := [(0, _), (5, _), (6, _), (7, _), (33, _)]) au9 (QM.then ?_))
  refine wpM.condD rfl (fun h7 => ?_) (fun h7 => ?_)
  ·
   refine wpM.seq (wpM.region ?_)
   refine LM.mv rfl (LM.as rfl (LM.as rfl (LM.as rfl ?_)))
   refine LM.nil (QM.sub (e' := [(2, _), (3, _), (4, _)]) au9 (QM.then ?_))
   refine wpM.ret ?_
   refine QM.then_ret ?_
   refine QM.block_ret ?_
   refine QM.then_ret ?_
   refine QM.block_ret ?_
   refine QM.then_ret ?_
   refine QM.leave (.inl rfl) [.tmp 2, .tmp 3, .tmp 4] Tryd.results9 rfl ?_
   intro w' hm' hc' hg'
   exact ⟨hc', [], EvT.no (by rw [parO_small h1, hp, parL_noend (by omega) (by omega)]), Mem.nil _, fun p hp => by cases hp⟩
  exfalso; omega
 refine wpM.exit ?_
 refine QM.then_exit ?_
 refine QM.then_exit ?_
 refine QM.block_hit ?_
 refine QM.then (wpM.seq (wpM.region ?_))
 refine LM.mv rfl (LM.as rfl (LM.as rfl (LM.as rfl ?_)))
 refine LM.nil (QM.sub (e' := [(2, _), (3, _), (4, _)]) au9 (QM.then ?_))
 refine wpM.ret ?_
 refine QM.leave (.inl rfl) [.tmp 2, .tmp 3, .tmp 4] Tryd.results9 rfl ?_
 intro w' hm' hc' hg'
 refine ⟨hc', m5, ?_, hm'.pick _, Sl.ge hs5⟩; rw [parO_small h1, hp, parL_end (by omega)]; exact ⟨ad5, n5, cap5, rfl, hn5, hs5⟩
end Go.Eng
namespace Go.Eng
open Go Go.Proofs Go.RowKit
theorem trim_digits (t : List UInt8) : decide (Lib.trimS t digitL = []) = t.all digB := by
  have hp : (fun c => digitL.contains c) = digB := funext digits_dig
  unfold Lib.trimS Lib.trimLeftS Lib.trimRightS
  rw [hp]
  have key : (List.dropWhile digB (List.dropWhile digB t.reverse).reverse = []) ↔ t.all digB = true := by
    rw [dropWhile_nil]
    have h1 : t.reverse = t.reverse.takeWhile digB ++ t.reverse.dropWhile digB := (List.takeWhile_append_dropWhile ..).symm
    have h2 : (t.reverse.takeWhile digB).all digB = true := all_tw _ _
    have h3 : t.reverse.all digB = (t.reverse.dropWhile digB).all digB := by
      conv => lhs; rw [h1]
      rw [List.all_append, h2, Bool.true_and]
    rw [List.all_reverse, ← h3, List.all_reverse]
  rw [Bool.eq_iff_iff, decide_eq_true_eq]; exact key
theorem trim_ne (t : List UInt8) : decide (Lib.trimS t digitL ≠ []) = !t.all digB := by
  rw [← trim_digits]; exact decide_not
theorem numF_all {s : List UInt8} (ha : s.all digB = true) (hl : s.length ≤ 9) : numF 9 s 0 = valD 0 s := by
  have := numF_app s [] 9 0 ha hl
  rw [List.append_nil] at this
  rw [this, numF_off (rest := []) (show offB digB [] from trivial)]
theorem badN_ne {s : List UInt8} (h : badN s = false) : s ≠ [] := by
  unfold badN at h; simp only [Bool.or_eq_false_iff, decide_eq_false_iff_not] at h; exact h.1.1
theorem trimd_ret (t : List UInt8) (hx : t.length ≤ 9223372036854775807) (w : World) : Ret Tryd.prog 94 #[vS t, vS digitL] w (fun v w' => v = vS (Lib.trimS t digitL) ∧ Ext w w') :=
  (Any.strings_Trim_laid l160 l160set (bs t) (bs digitL) w (by rw [bs_size]; exact hx) (by decide) (ascii_of_all (by decide))).mono (fun e w' ⟨he, hb⟩ => ⟨_, he, rfl, Ext.of_below hb⟩)
set_option maxRecDepth 100000 in
theorem enum_spec (s : List UInt8) (w : World) (hs : s.length ≤ 1000000000) : Ret Tryd.prog 62 #[vS s] w (fun v w' => v = .int .i64 (numO s) ∧ Ext w w') := by
 refine Ret.enterM (l := [vS s]) Tryd.func62 rfl Tryd.ntmps62 rfl ([]) (no) (Mem.nil w) ?_
 refine wpM.seq (wpM.region ?_)
 refine LM.as rfl ?_
 refine LM.nil (QM.sub (e' := [(0, _)]) ⟨rfl, trivial⟩ (QM.then ?_))
 refine wpM.seq ?_
 refine wpM.seq ?_
 refine wpM.joinK (α := Bool) (fun qb => [(26, .bool qb)]) [(0, _)] (fun qb => []) (fun qb => qb = (badN s || !s.all digB)) ⟨rfl, trivial⟩ ?_ ?_
 ·
  refine wpM.region ?_
  refine LM.mv rfl ?_
  refine LM.val (ov_seqlL rfl rfl) ?_
  refine LM.mv rfl ?_
  refine LM.splitD (t := 7) rfl (fun h1 => ?_) (fun h1 => ?_)
  ·
   refine LM.dr 7 rfl rfl rfl (LM.dr 7 rfl rfl rfl (LM.dr 7 rfl rfl rfl ?_))
   refine LM.val (ov_pickT rfl rfl) ?_
   refine LM.mv rfl (LM.dr 12 rfl rfl rfl (LM.dr 12 rfl rfl rfl (LM.dr 12 rfl rfl rfl ?_)))
   refine LM.dropU (t := 12) rfl rfl rfl ?_
   refine LM.dropX (t := 16) rfl rfl ?_
   refine LM.dropX (t := 16) rfl rfl ?_
   refine LM.dropX (t := 16) rfl rfl ?_
   refine LM.dr 12 rfl rfl rfl ?_
   refine LM.val (ov_pickT rfl rfl) ?_
   refine LM.mv rfl (LM.dr 22 rfl rfl rfl (LM.dr 22 rfl rfl rfl (LM.dr 22 rfl rfl rfl ?_)))
   refine LM.val (ov_pickT rfl rfl) ?_
   refine LM.nil (QM.sub (e' := [(0, _), (26, _)]) au9 ?_)
   refine QM.meetK (_) ⟨au2, rfl, trivial⟩ au1 ?_
   · (try rw [trim_ne]); simp only [badN, h1, decide_true, decide_false, Bool.true_and, Bool.false_and, Bool.and_true, Bool.and_false, Bool.not_true, Bool.not_false, Bool.true_or, Bool.false_or, Bool.or_true, Bool.or_false, ne_eq, not_true_eq_false, not_false_eq_true, Bool.and_self]
  refine LM.sp 7 rfl rfl rfl (LM.mv rfl (LM.sp 7 rfl rfl rfl ?_))
  refine LM.val (ov_slenL Tryd.underlying9 rfl) ?_
  refine LM.sp 7 rfl rfl rfl ?_
  refine LM.val (ov_gtr rfl rfl) ?_
  refine LM.val (ov_pickF rfl rfl) ?_
  refine LM.mv rfl ?_
  refine LM.splitD (t := 12) rfl (fun h2 => ?_) (fun h2 => ?_)
  ·
   refine LM.dr 12 rfl rfl rfl (LM.dr 12 rfl rfl rfl (LM.dr 12 rfl rfl rfl ?_))
   refine LM.dropU (t := 12) rfl rfl rfl ?_
   refine LM.dropX (t := 16) rfl rfl ?_
   refine LM.dropX (t := 16) rfl rfl ?_
   refine LM.dropX (t := 16) rfl rfl ?_
   refine LM.dr 12 rfl rfl rfl ?_
   refine LM.val (ov_pickT rfl rfl) ?_
   refine LM.mv rfl (LM.dr 22 rfl rfl rfl (LM.dr 22 rfl rfl rfl (LM.dr 22 rfl rfl rfl ?_)))
   refine LM.val (ov_pickT rfl rfl) ?_
   refine LM.nil (QM.sub (e' := [(0, _), (26, _)]) au9 ?_)
   refine QM.meetK (_) ⟨au2, rfl, trivial⟩ au1 ?_
   · (try rw [trim_ne]); simp only [badN, h1, h2, decide_true, decide_false, Bool.true_and, Bool.false_and, Bool.and_true, Bool.and_false, Bool.not_true, Bool.not_false, Bool.true_or, Bool.false_or, Bool.or_true, Bool.or_false, ne_eq, not_true_eq_false, not_false_eq_true, Bool.and_self]
  refine LM.sp 12 rfl rfl rfl (LM.mv rfl (LM.sp 12 rfl rfl rfl ?_))
  refine LM.val (ov_slenL Tryd.underlying9 rfl) ?_
  refine LM.sp 12 rfl rfl rfl ?_
  refine LM.val (ov_gtr rfl rfl) ?_
  refine LM.sp 12 rfl rfl rfl (LM.mv rfl ?_)
  refine LM.splitD (t := 16) rfl (fun h3 => ?_) (fun h3 => ?_)
  ·
   refine LM.sp 16 rfl rfl rfl (LM.mv rfl (LM.sp 16 rfl rfl rfl ?_))
   first | refine LM.val (ov_sidxN Tryd.underlying9 rfl rfl (by omega)) ?_ | refine LM.val (ov_sidxL Tryd.underlying9 rfl rfl (by omega)) ?_
   refine LM.sp 16 rfl rfl rfl ?_
   refine LM.val (ov_eql rfl rfl) ?_
   refine LM.sp 12 rfl rfl rfl ?_
   refine LM.val (ov_pickT rfl rfl) ?_
   refine LM.val (ov_pickF rfl rfl) ?_
   refine LM.mv rfl ?_
   refine LM.splitD (t := 22) rfl (fun h4 => ?_) (fun h4 => ?_)
   ·
    refine LM.dr 22 rfl rfl rfl (LM.dr 22 rfl rfl rfl (LM.dr 22 rfl rfl rfl ?_))
    refine LM.val (ov_pickT rfl rfl) ?_
    refine LM.nil (QM.sub (e' := [(0, _), (26, _)]) au9 ?_)
    refine QM.meetK (_) ⟨au2, rfl, trivial⟩ au1 ?_
    · (try rw [trim_ne]); simp only [badN, h1, h2, h3, h4, decide_true, decide_false, Bool.true_and, Bool.false_and, Bool.and_true, Bool.and_false, Bool.not_true, Bool.not_false, Bool.true_or, Bool.false_or, Bool.or_true, Bool.or_false, ne_eq, not_true_eq_false, not_false_eq_true, Bool.and_self]
   refine LM.sp 22 rfl rfl rfl (LM.mv rfl (LM.sp 22 rfl rfl rfl ?_))
   refine LM.callE (oc_call (enters_fn Tryd.func94 (by kernel_rfl) rfl) rfl) (fun w hm hc hg => trimd_ret s (by omega) w) ?_
   refine LM.sp 22 rfl rfl rfl ?_
   refine LM.val (ov_sneqL rfl rfl) ?_
   refine LM.val (ov_pickF rfl rfl) ?_
   refine LM.nil (QM.sub (e' := [(0, _), (26, _)]) au9 ?_)
   refine QM.meetK (_) ⟨au2, rfl, trivial⟩ au1 ?_
   · (try rw [trim_ne]); simp only [badN, h1, h2, h3, h4, decide_true, decide_false, Bool.true_and, Bool.false_and, Bool.and_true, Bool.and_false, Bool.not_true, Bool.not_false, Bool.true_or, Bool.false_or, Bool.or_true, Bool.or_false, ne_eq, not_true_eq_false, not_false_eq_true, Bool.and_self]
  refine LM.dr 16 rfl rfl rfl (LM.dr 16 rfl rfl rfl (LM.dr 16 rfl rfl rfl (LM.sp 12 rfl rfl rfl ?_)))
  refine LM.val (ov_pickF rfl rfl) ?_
  refine LM.val (ov_pickF rfl rfl) ?_
  refine LM.mv rfl (LM.sp 22 rfl rfl rfl (LM.mv rfl (LM.sp 22 rfl rfl rfl ?_)))
  refine LM.callE (oc_call (enters_fn Tryd.func94 (by kernel_rfl) rfl) rfl) (fun w hm hc hg => trimd_ret s (by omega) w) ?_
  refine LM.sp 22 rfl rfl rfl ?_
  refine LM.val (ov_sneqL rfl rfl) ?_
  refine LM.val (ov_pickF rfl rfl) ?_
  refine LM.nil (QM.sub (e' := [(0, _), (26, _)]) au9 ?_)
  refine QM.meetK (_) ⟨au2, rfl, trivial⟩ au1 ?_
  · (try rw [trim_ne]); simp only [badN, h1, h2, h3, decide_true, decide_false, Bool.true_and, Bool.false_and, Bool.and_true, Bool.and_false, Bool.not_true, Bool.not_false, Bool.true_or, Bool.false_or, Bool.or_true, Bool.or_false, ne_eq, not_true_eq_false, not_false_eq_true, Bool.and_self]
 rintro qb hqb
 change QM _ _ _ _ _ ([]) _ _ _
 refine QM.then ?_
 first | refine wpM.condD rfl (fun h5 => ?_) (fun h5 => ?_) | refine wpM.condB rfl (fun h5 => ?_) (fun h5 => ?_)
 ·
  refine wpM.seq (wpM.region ?_)
  refine LM.as rfl ?_
  refine LM.nil (QM.sub (e' := [(2, _)]) ⟨rfl, trivial⟩ (QM.then ?_))
  refine wpM.ret ?_
  refine QM.then_ret ?_
  refine QM.leave (.inl rfl) [.tmp 2] Tryd.results62 rfl ?_
  intro w' hm' hc' hg'
  refine ⟨?_, hc'⟩; rw [numO_eq, ← hqb, h5]; rfl
 have hz : badN s = false ∧ s.all digB = true := (by rw [h5] at hqb; have := hqb.symm; simpa using this)
 refine wpM.skip ?_
 refine QM.then (wpM.seq (wpM.region ?_))
 refine LM.mv rfl ?_
 refine LM.callE (oc_call (enters_fn Tryd.func95 (by kernel_rfl) rfl) rfl) (fun w hm hc hg => atoi_ret (badN_ne hz.1) (by have := badN_len hz.1; omega) hz.2 w) ?_
 refine LM.mv rfl ?_
 refine LM.val (ov_extract rfl rfl) ?_
 refine LM.val (ov_extract rfl rfl) ?_
 refine LM.as rfl (LM.as rfl ?_)
 refine LM.nil (QM.sub (e' := [(3, _)]) ⟨rfl, trivial⟩ (QM.then (wpM.seq (wpM.region ?_))))
 refine LM.mv rfl (LM.as rfl ?_)
 refine LM.nil (QM.sub (e' := [(2, _)]) ⟨rfl, trivial⟩ (QM.then ?_))
 refine wpM.ret ?_
 refine QM.leave (.inl rfl) [.tmp 2] Tryd.results62 rfl ?_
 intro w' hm' hc' hg'
 refine ⟨?_, hc'⟩; rw [numO_eq, ← hqb, h5]; show Value.int .i64 (numF 9 s 0) = _; rw [numF_all hz.2 (by have := badN_len hz.1; omega)]; rfl
end Go.Eng
namespace Go.Eng
open Go Go.Proofs Go.RowKit
theorem splK_sp : ∀ (s : List UInt8), Lib.splitK [32] 0 (Lib.count s [32]) s = splW s
  | [] => by rw [Lib.count_one]; rfl
  | c :: l => by
    have ih := splK_sp l
    by_cases hc : c = 32
    · subst hc
      have hi : Lib.index (32 :: l) [32] = 0 := by rw [Lib.index]; simp [List.isPrefixOf]
      rw [Lib.count_cons_eq, Nat.add_comm, Lib.splitK, hi, if_neg (by decide), splW, if_pos rfl, ← ih]
      simp
    · rw [Lib.count_cons_ne c 32 l hc, splW, if_neg hc]
      have hp : ([32] : List UInt8).isPrefixOf (c :: l) = false := by simp [List.isPrefixOf, Ne.symm hc]
      have hix : Lib.index (c :: l) [32] = if Lib.index l [32] == -1 then -1 else Lib.index l [32] + 1 := by rw [Lib.index, hp]; simp
      cases hk : Lib.count l [32] with
      | zero =>
        rw [hk] at ih
        rw [← ih]; rfl
      | succ k =>
        rw [hk] at ih
        have hm : Lib.index l [32] ≠ -1 := fun q => by rw [Lib.count_miss q] at hk; cases hk
        have hge := Lib.index_ge l [32]
        obtain ⟨j, hj⟩ : ∃ j : Nat, Lib.index l [32] = j := ⟨(Lib.index l [32]).toNat, by omega⟩
        have hix' : Lib.index (c :: l) [32] = ((j + 1 : Nat) : Int) := by rw [hix, if_neg (fun e => hm (beq_iff_eq.1 e)), hj]; omega
        rw [Lib.splitK, hj, if_neg (by simp <;> omega)] at ih
        rw [Lib.splitK, hix', if_neg (by simp <;> omega), ← ih]
        simp
def MaxI (w : World) : Prop := ∃ m, w.cell? ⟨rn.g 1, 0, none⟩ = some (.int .i64 m)
theorem MaxI.ext {w w' : World} (h : MaxI w) (k : Ext w w') : MaxI w' := by
  obtain ⟨m, hm⟩ := h
  refine ⟨m, ?_⟩
  unfold World.cell? at hm ⊢
  cases ho : w.heap[(⟨rn.g 1, 0, none⟩ : Addr).block]? with
  | none => rw [ho] at hm; simp at hm
  | some o => rw [ho] at hm; rw [k.get ho]; exact hm
theorem split_ret (s : List UInt8) (hs : s.length < 4294967281) (w : World) (hX : MaxI w) : Ret Tryd.prog 61 #[vS s, vS [32]] w (New fB 9 1 (splW s) w) := by
  obtain ⟨m, hm⟩ := hX
  have hd := Lib.splitB_data (bs [32]) 0 (Lib.countB (bs s) (bs [32])) (bs s)
  have hk : Lib.splitK (bs [32]).data.toList 0 (Lib.countB (bs s) (bs [32])) (bs s).data.toList = splW s := splK_sp s
  rw [hk] at hd
  have hl : (splW s).length = Lib.countB (bs s) (bs [32]) + 1 := by
    rw [← hd, List.length_map]; exact Lib.splitB_all (bs [32]) (by decide) 0 _ _ rfl
  have hc : ((Lib.splitB (bs [32]) 0 (Lib.countB (bs s) (bs [32])) (bs s)).map Value.string).toArray = arr fB (splW s) [] := by
    rw [← hd]
    generalize Lib.splitB (bs [32]) 0 (Lib.countB (bs s) (bs [32])) (bs s) = L
    unfold arr
    rw [List.append_nil]
    congr 1
    induction L with
    | nil => rfl
    | cons a L ih => rw [List.map_cons, List.map_cons, List.flatMap_cons, ih]; rfl
  have hsz : Lib.countB (bs s) (bs [32]) ≤ s.length := by
    have := Lib.countB_le (bs [32]) (by decide) s.length (bs s) (by rw [bs_size]; exact Nat.le_refl _); rwa [bs_size] at this
  refine (Any.strings_Split l146 (by kernel_rfl) (bs s) (bs [32]) m w (by rw [bs_size]; exact hs) hm (by decide)).mono (fun e w' ⟨he, hw⟩ => ⟨_, he, ?_, ?_⟩)
  · subst hw; exact chg_alloc w _
  · subst hw
    rw [hc]
    refine ⟨[(w.heap.size, .cells (arr fB (splW s) []) 9 (0, 0))], .inr ⟨w.heap.size, _, [], Nat.le_refl _, by rw [← hl], rfl, Nat.le_of_eq hl, by unfold maxLen; omega, by rw [hl]; rfl⟩, ?_⟩
    exact (Mem.nil w).alloc _
theorem isEv_empty {s : List UInt8} (h : (splW s).getD 1 [] = []) : isEv s = false := by unfold isEv; rw [decide_eq_false (show ¬ (splW s).getD 1 [] ≠ [] from fun q => q h)]; simp
theorem isEv_may {s : List UInt8} (h : (splW s).length = 5) (h1 : (splW s).getD 1 [] ≠ []) (h3 : (splW s).getD 3 [] = [45] ∨ 0 ≤ numO ((splW s).getD 3 [])) (h0 : 0 ≤ numO ((splW s).getD 0 [])) : isEv s = mayEv (evOf (splW s)) := by
  unfold isEv
  rw [decide_eq_true h, decide_eq_true h1, decide_eq_true h0]
  rcases h3 with h3 | h3
  · rw [decide_eq_true h3]; simp
  · rw [decide_eq_true h3]; simp
theorem OneT.may {s : List UInt8} {n0 : Nat} (h : isEv s = mayEv (evOf (splW s))) : OneT s n0 (.tuple #[.agg (fE (evOf (splW s))).toArray, .bool (mayEv (evOf (splW s)))]) [] :=
  ⟨⟨_, by rw [h], fun q => rfl⟩, rfl⟩
set_option maxRecDepth 100000 in
set_option maxHeartbeats 2000000 in
theorem eone_spec (s : List UInt8) (w : World) (hs : s.length ≤ 1000000000) (hX : MaxI w) : Ret Tryd.prog 30 #[vS s] w (fun v w' => Ext w w' ∧ ∃ m, OneT s w.heap.size v m ∧ Mem w' m ∧ ∀ p ∈ m, w.heap.size ≤ p.1) := by
 refine Ret.enterM (l := [vS s]) Tryd.func30 rfl Tryd.ntmps30 rfl ([]) (no) (Mem.nil w) ?_
 refine wpM.seq (wpM.region ?_)
 refine LM.alloc Tryd.zeroValue39 rfl (fun b2 hb2 => ?_)
 refine LM.as rfl ?_
 refine LM.nil (QM.sub (e' := [(0, _), (2, _)]) au9 (QM.then (wpM.seq (wpM.region ?_))))
 refine LM.mv rfl ?_
 refine LM.cS (oc_call (enters_fn Tryd.func61 (by kernel_rfl) rfl) rfl) (fun w hm hc hg => split_ret s (by omega) w (hX.ext hc)) (fun ad9 n9 cap9 m9 hn9 hs9 => ?_)
 refine LM.as rfl ?_
 refine LM.nil (QM.sub (e' := [(2, _), (4, _)]) au9 (QM.then ?_))
 refine wpM.seq ?_
 refine wpM.seq (wpM.region ?_)
 refine LM.mv rfl ?_
 refine LM.val (ov_len Tryd.underlying119 rfl) ?_
 refine LM.val (ov_neq rfl rfl) ?_
 refine LM.mv rfl ?_
 refine LM.splitD (t := 13) rfl (fun h1 => ?_) (fun h1 => ?_)
 ·
  refine LM.dr 13 rfl rfl rfl (LM.dr 13 rfl rfl rfl (LM.dr 13 rfl rfl rfl (LM.dr 13 rfl rfl rfl ?_)))
  refine LM.val (ov_pickT rfl rfl) ?_
  refine LM.nil (QM.sub (e' := [(2, _), (4, _), (18, _)]) au9 (QM.then ?_))
  refine wpM.condT rfl ?_
  refine wpM.seq (wpM.region ?_)
  refine LM.val (ov_build (cs := #[_, _, _, _, _]) rfl (by first | rfl | kernel_rfl)) ?_
  refine LM.stW Tryd.sizeOf39 rfl rfl rfl rfl au7 au8 ?_
  refine LM.as rfl ?_
  refine LM.nil (QM.sub (e' := [(2, _), (3, _)]) au9 (QM.then ?_))
  refine wpM.ret ?_
  refine QM.then_ret ?_
  refine QM.leaveCs (ds := ([])) (.inl rfl) [.cell 2 39, .tmp 3] Tryd.results30 hd_nil (rc_w rfl Tryd.isAgg39 Tryd.sizeOf39 rfl (rc_tmp rfl rc_nil)) ?_
  intro w' hm' hc'
  exact ⟨hc', [], OneT.no (isEv_len (by omega)), Mem.nil _, fun p hp => by cases hp⟩
 have hln5 : (splW s).length = 5 := (by omega); have hw0 : ((splW s).getD 0 default).length ≤ s.length := spl_len s 0; have hw1 : ((splW s).getD 1 default).length ≤ s.length := spl_len s 1; have hw2 : ((splW s).getD 2 default).length ≤ s.length := spl_len s 2; have hw3 : ((splW s).getD 3 default).length ≤ s.length := spl_len s 3; have hw4 : ((splW s).getD 4 default).length ≤ s.length := spl_len s 4
 refine LM.sp 13 rfl rfl rfl (LM.mv rfl (LM.sp 13 rfl rfl rfl ?_))
 refine LM.val (ov_idxSN (i := 1) au6 Tryd.underlying119 Tryd.sizeOf9 rfl rfl (by omega)) ?_
 refine LM.sp 13 rfl rfl rfl ?_
 refine LM.rd (om_sl1 (by assumption) (by intro _; rfl) Tryd.isAgg9 rfl rfl au3 (by rfl)) ?_
 refine LM.sp 13 rfl rfl rfl ?_
 refine LM.val (ov_seqlL rfl rfl) ?_
 refine LM.val (ov_pickF rfl rfl) ?_
 refine LM.nil (QM.sub (e' := [(2, _), (4, _), (18, _)]) au9 (QM.then ?_))
 refine wpM.condD rfl (fun h2 => ?_) (fun h2 => ?_)
 ·
  refine wpM.seq (wpM.region ?_)
  refine LM.val (ov_build (cs := #[_, _, _, _, _]) rfl (by first | rfl | kernel_rfl)) ?_
  refine LM.stW Tryd.sizeOf39 rfl rfl rfl rfl au7 au8 ?_
  refine LM.as rfl ?_
  refine LM.nil (QM.sub (e' := [(2, _), (3, _)]) au9 (QM.then ?_))
  refine wpM.ret ?_
  refine QM.then_ret ?_
  refine QM.leaveCs (ds := ([])) (.inl rfl) [.cell 2 39, .tmp 3] Tryd.results30 hd_nil (rc_w rfl Tryd.isAgg39 Tryd.sizeOf39 rfl (rc_tmp rfl rc_nil)) ?_
  intro w' hm' hc'
  exact ⟨hc', [], OneT.no (isEv_empty h2), Mem.nil _, fun p hp => by cases hp⟩
 refine wpM.skip ?_
 refine QM.then ?_
 refine wpM.seq ?_
 refine wpM.draw [(0, 0), (1, 0), (2, 1), (4, 0), (5, 0), (6, 1), (3, 2), (7, 2), (8, 0), (9, 0)] (by kernel_rfl) (by kernel_rfl) ?_
 refine LD.val rfl rfl (ov_move rfl) ?_
 refine LD.val rfl rfl (ov_idxSN (i := 0) au6 Tryd.underlying119 Tryd.sizeOf9 rfl rfl (by omega)) ?_
 refine LD.rd rfl rfl (om_sl1 (by assumption) (by intro _; rfl) Tryd.isAgg9 rfl rfl au3 (by rfl)) ?_
 refine LD.val rfl rfl (ov_move rfl) ?_
 refine LD.val rfl rfl (ov_idxSN (i := 3) au6 Tryd.underlying119 Tryd.sizeOf9 rfl rfl (by omega)) ?_
 refine LD.rd rfl rfl (om_sl1 (by assumption) (by intro _; rfl) Tryd.isAgg9 rfl rfl au3 (by rfl)) ?_
 refine LD.callE rfl rfl (oc_call (enters_fn Tryd.func62 (by kernel_rfl) rfl) rfl) (fun w hm hc hg => enum_spec _ w (by omega)) ?_
 refine LD.callE rfl rfl (oc_call (enters_fn Tryd.func62 (by kernel_rfl) rfl) rfl) (fun w hm hc hg => enum_spec _ w (by omega)) ?_
 refine LD.val rfl rfl (ov_assign rfl) ?_
 refine LD.val rfl rfl (ov_assign rfl) ?_
 refine LD.nil ?_
 refine QM.sub (e' := [(2, _), (4, _), (5, _), (6, _)]) au9 (QM.then ?_)
 refine wpM.seq ?_
 refine wpM.joinK (α := Int) (fun lk => [(6, .int .i64 lk)]) [(2, _), (4, _), (5, _)] (fun lk => (b2, .cells #[U 0#64, .int .i64 0, .int .i64 0, .int .i64 0, .int .i64 0] 39 (0, 0)) :: (m9 ++ [])) (fun lk => lk = lockN ((splW s).getD 3 default) ∧ (((splW s).getD 3 default) = [45] ∨ 0 ≤ numO ((splW s).getD 3 default))) ⟨rfl, rfl, rfl, trivial⟩ ?_ ?_
 ·
  refine wpM.block ?_
  refine wpM.seq (wpM.region ?_)
  refine LM.mv rfl ?_
  refine LM.val (ov_idxSN (i := 3) au6 Tryd.underlying119 Tryd.sizeOf9 rfl rfl (by omega)) ?_
  refine LM.rd (om_sl1 (by assumption) (by intro _; rfl) Tryd.isAgg9 rfl rfl au3 (by rfl)) ?_
  refine LM.val (ov_seqlL rfl rfl) ?_
  refine LM.as rfl ?_
  refine LM.nil (QM.sub (e' := [(2, _), (4, _), (5, _), (6, _), (28, _)]) au9 (QM.then ?_))
  refine wpM.condD rfl (fun h3 => ?_) (fun h3 => ?_)
  ·
   refine wpM.region ?_
   refine LM.as rfl ?_
   refine LM.nil (QM.sub (e' := [(2, _), (4, _), (5, _), (6, _)]) au9 ?_)
   refine QM.block_normal ?_
   refine QM.meetK (_) ⟨au2, rfl, rfl, rfl, trivial⟩ au1 ?_
   · exact ⟨by unfold lockN; rw [if_pos h3], .inl h3⟩
  refine wpM.seq (wpM.region ?_)
  refine LM.mv rfl ?_
  refine LM.val (ov_lss rfl rfl) ?_
  refine LM.as rfl ?_
  refine LM.nil (QM.sub (e' := [(2, _), (4, _), (5, _), (6, _), (33, _)]) au9 (QM.then ?_))
  refine wpM.condD rfl (fun h4 => ?_) (fun h4 => ?_)
  ·
   refine wpM.seq (wpM.region ?_)
   refine LM.val (ov_build (cs := #[_, _, _, _, _]) rfl (by first | rfl | kernel_rfl)) ?_
   refine LM.stW Tryd.sizeOf39 rfl rfl rfl rfl au7 au8 ?_
   refine LM.as rfl ?_
   refine LM.nil (QM.sub (e' := [(2, _), (3, _)]) au9 (QM.then ?_))
   refine wpM.ret ?_
   refine QM.block_ret ?_
   refine QM.join_ret ?_
   refine QM.then_ret ?_
   refine QM.leaveCs (ds := ([])) (.inl rfl) [.cell 2 39, .tmp 3] Tryd.results30 hd_nil (rc_w rfl Tryd.isAgg39 Tryd.sizeOf39 rfl (rc_tmp rfl rc_nil)) ?_
   intro w' hm' hc'
   exact ⟨hc', [], OneT.no (isEv_lock h3 h4), Mem.nil _, fun p hp => by cases hp⟩
  refine wpM.skip ?_
  refine QM.block_normal ?_
  refine QM.meetK (_) ⟨au2, rfl, rfl, rfl, trivial⟩ au1 ?_
  · exact ⟨by unfold lockN; rw [if_neg h3], .inr (by omega)⟩
 rintro lk ⟨hlk, hl3⟩
 change QM _ _ _ _ _ ((b2, .cells #[U 0#64, .int .i64 0, .int .i64 0, .int .i64 0, .int .i64 0] 39 (0, 0)) :: (m9 ++ [])) _ _ _
 refine QM.then ?_
 refine wpM.seq ?_
 refine wpM.seq (wpM.region ?_)
 refine LM.mv rfl ?_
 refine LM.val (ov_lss rfl rfl) ?_
 refine LM.nil (QM.sub (e' := [(2, _), (4, _), (5, _), (6, _), (38, _)]) au9 (QM.then ?_))
 refine wpM.condD rfl (fun h5 => ?_) (fun h5 => ?_)
 ·
  refine wpM.seq (wpM.region ?_)
  refine LM.val (ov_build (cs := #[_, _, _, _, _]) rfl (by first | rfl | kernel_rfl)) ?_
  refine LM.stW Tryd.sizeOf39 rfl rfl rfl rfl au7 au8 ?_
  refine LM.as rfl ?_
  refine LM.nil (QM.sub (e' := [(2, _), (3, _)]) au9 (QM.then ?_))
  refine wpM.ret ?_
  refine QM.then_ret ?_
  refine QM.leaveCs (ds := ([])) (.inl rfl) [.cell 2 39, .tmp 3] Tryd.results30 hd_nil (rc_w rfl Tryd.isAgg39 Tryd.sizeOf39 rfl (rc_tmp rfl rc_nil)) ?_
  intro w' hm' hc'
  exact ⟨hc', [], OneT.no (isEv_num (.inl h5)), Mem.nil _, fun p hp => by cases hp⟩
 refine wpM.skip ?_
 refine QM.then ?_
 refine wpM.seq ?_
 refine wpM.keep (m9 ++ []) (fun _ => True) (.one 0 0 (.one 1 0 (.one 3 0 (.one 4 0 (.one 5 1 (.one 7 0 (.one 8 0 (.one 9 1 (.one 11 0 (.one 12 0 (.one 13 0 (.one 14 1 (.fork 2 (.fork 6 (.fork 10 (.fork 15 (.one 16 0 (.one 17 2 (.one 18 2 .nil))) 17 (.one 15 2 (.one 16 0 (.one 18 2 .nil)))) 17 (.one 10 2 (.one 15 2 (.one 16 0 (.one 18 2 .nil))))) 17 (.one 6 2 (.one 10 2 (.one 15 2 (.one 16 0 (.one 18 2 .nil)))))) 17 (.one 2 2 (.one 6 2 (.one 10 2 (.one 15 2 (.one 16 0 (.one 18 2 .nil))))))))))))))))))) (by kernel_rfl) (by kernel_rfl) au1 (fun _ _ => trivial) ?_
 refine KD.val rfl rfl (ov_move rfl) ?_
 refine KD.val rfl rfl (ov_toU Tryd.underlying3 Tryd.underlying37 rfl) ?_
 refine KD.val rfl rfl (ov_move rfl) ?_
 refine KD.val rfl rfl (ov_idxSN (i := 1) au6 Tryd.underlying119 Tryd.sizeOf9 rfl rfl (by omega)) ?_
 refine KD.rd rfl rfl (om_sl1 (by assumption) (by intro _; rfl) Tryd.isAgg9 rfl rfl au3 (by rfl)) ?_
 refine KD.val rfl rfl (ov_move rfl) ?_
 refine KD.val rfl rfl (ov_idxSN (i := 2) au6 Tryd.underlying119 Tryd.sizeOf9 rfl rfl (by omega)) ?_
 refine KD.rd rfl rfl (om_sl1 (by assumption) (by intro _; rfl) Tryd.isAgg9 rfl rfl au3 (by rfl)) ?_
 refine KD.val rfl rfl (ov_move rfl) ?_
 refine KD.val rfl rfl (ov_move rfl) ?_
 refine KD.val rfl rfl (ov_idxSN (i := 4) au6 Tryd.underlying119 Tryd.sizeOf9 rfl rfl (by omega)) ?_
 refine KD.rd rfl rfl (om_sl1 (by assumption) (by intro _; rfl) Tryd.isAgg9 rfl rfl au3 (by rfl)) ?_
 refine KD.fork rfl rfl ?_ ?_
 ·
  refine LM.cS (oc_call (enters_fn Tryd.func64 (by kernel_rfl) rfl) rfl) (fun w hm hc hg => enames_spec w) (fun ad42 n42 cap42 m42 hn42 hs42 => ?_)
  refine LM.nil ?_
  refine QM.one au1 (fun _ _ => trivial) ?_
  refine KD.fork rfl rfl ?_ ?_
  ·
   refine LM.callE (oc_call (enters_fn Tryd.func63 (by kernel_rfl) rfl) rfl) (fun w hm hc hg => index_str ((splW s).getD 1 default) w hn42 (hs42.srM (by intro _; rfl) hm) (by decide)) ?_
   refine LM.nil ?_
   refine QM.one au1 (fun _ _ => trivial) ?_
   refine KD.fork rfl rfl ?_ ?_
   ·
    refine LM.callE (oc_call (enters_fn Tryd.func62 (by kernel_rfl) rfl) rfl) (fun w hm hc hg => enum_spec _ w (by omega)) ?_
    refine LM.nil ?_
    refine QM.one au1 (fun _ _ => trivial) ?_
    refine KD.fork rfl rfl ?_ ?_
    ·
     refine LM.callE (oc_call (enters_fn Tryd.func62 (by kernel_rfl) rfl) rfl) (fun w hm hc hg => enum_spec _ w (by omega)) ?_
     refine LM.nil ?_
     refine QM.one au1 (fun _ _ => trivial) ?_
     refine KD.val rfl rfl (ov_build (cs := #[U (BitVec.ofInt 64 (numO ((splW s).getD 0 default))), .int .i64 (kindEv ((splW s).getD 1 default)), .int .i64 (numO ((splW s).getD 2 default)), .int .i64 lk, .int .i64 (numO ((splW s).getD 4 default))]) rfl (by kernel_rfl)) ?_
     refine KD.one rfl ?_
     refine LM.alloc Tryd.zeroValue39 rfl (fun b7 hb7 => ?_)
     refine LM.nil ?_
     refine QM.one au1 (fun _ _ => trivial) ?_
     refine KD.one rfl ?_
     refine LM.stW Tryd.sizeOf39 rfl rfl rfl rfl au7 au8 ?_
     refine LM.nil ?_
     refine QM.one au1 (fun _ _ => trivial) ?_
     refine KD.nil ?_
     refine QM.sub (e' := [(2, _), (7, _)]) au9 (QM.then ?_)
     refine wpM.seq ?_
     refine wpM.keep ((b7, _) :: []) (fun _ => True) (.one 0 1 (.one 1 1 (.one 2 2 (.one 3 2 (.one 4 0 .nil))))) (by kernel_rfl) (by kernel_rfl) au1 (fun _ _ => trivial) ?_
     refine KD.rd rfl rfl (om_ldW Tryd.isAgg39 Tryd.sizeOf39 rfl rfl) ?_
     refine KD.rd rfl rfl (om_ldW Tryd.isAgg39 Tryd.sizeOf39 rfl rfl) ?_
     refine KD.one rfl ?_
     refine LM.callE (oc_call (enters_fn Tryd.func55 (by kernel_rfl) rfl) rfl) (fun w hm hc hg => emay_spec (⟨BitVec.ofInt 64 (numO ((splW s).getD 0 default)), kindEv ((splW s).getD 1 default), numO ((splW s).getD 2 default), lk, numO ((splW s).getD 4 default)⟩ : Evt) w) ?_
     refine LM.nil ?_
     refine QM.one au1 (fun _ _ => trivial) ?_
     refine KD.one rfl ?_
     refine LM.stW Tryd.sizeOf39 rfl rfl rfl rfl au7 au8 ?_
     refine LM.nil ?_
     refine QM.one au1 (fun _ _ => trivial) ?_
     refine KD.val rfl rfl (ov_assign rfl) ?_
     refine KD.nil ?_
     refine QM.sub (e' := [(2, _), (3, _)]) au9 (QM.then ?_)
     refine wpM.ret ?_
     refine QM.leaveCs (ds := ([])) (.inl rfl) [.cell 2 39, .tmp 3] Tryd.results30 hd_nil (rc_w rfl Tryd.isAgg39 Tryd.sizeOf39 rfl (rc_tmp rfl rc_nil)) ?_
     intro w' hm' hc'
     have he : evOf (splW s) = (⟨BitVec.ofInt 64 (numO ((splW s).getD 0 default)), kindEv ((splW s).getD 1 default), numO ((splW s).getD 2 default), lk, numO ((splW s).getD 4 default)⟩ : Evt) := (by unfold evOf; rw [hlk]; rfl); have hO := OneT.may (n0 := w.heap.size) (s := s) (isEv_may hln5 h2 hl3 (Int.not_lt.1 h5)); rw [he] at hO; exact ⟨hc', [], hO, Mem.nil _, fun p hp => by cases hp⟩
    refine LM.alloc Tryd.zeroValue39 rfl (fun b7 hb7 => ?_)
    refine LM.nil ?_
    refine QM.one au1 (fun _ _ => trivial) ?_
    refine KD.one rfl ?_
    refine LM.callE (oc_call (enters_fn Tryd.func62 (by kernel_rfl) rfl) rfl) (fun w hm hc hg => enum_spec _ w (by omega)) ?_
    refine LM.nil ?_
    refine QM.one au1 (fun _ _ => trivial) ?_
    refine KD.val rfl rfl (ov_build (cs := #[U (BitVec.ofInt 64 (numO ((splW s).getD 0 default))), .int .i64 (kindEv ((splW s).getD 1 default)), .int .i64 (numO ((splW s).getD 2 default)), .int .i64 lk, .int .i64 (numO ((splW s).getD 4 default))]) rfl (by kernel_rfl)) ?_
    refine KD.one rfl ?_
    refine LM.stW Tryd.sizeOf39 rfl rfl rfl rfl au7 au8 ?_
    refine LM.nil ?_
    refine QM.one au1 (fun _ _ => trivial) ?_
    refine KD.nil ?_
    refine QM.sub (e' := [(2, _), (7, _)]) au9 (QM.then ?_)
    refine wpM.seq ?_
    refine wpM.keep ((b7, _) :: []) (fun _ => True) (.one 0 1 (.one 1 1 (.one 2 2 (.one 3 2 (.one 4 0 .nil))))) (by kernel_rfl) (by kernel_rfl) au1 (fun _ _ => trivial) ?_
    refine KD.rd rfl rfl (om_ldW Tryd.isAgg39 Tryd.sizeOf39 rfl rfl) ?_
    refine KD.rd rfl rfl (om_ldW Tryd.isAgg39 Tryd.sizeOf39 rfl rfl) ?_
    refine KD.one rfl ?_
    refine LM.callE (oc_call (enters_fn Tryd.func55 (by kernel_rfl) rfl) rfl) (fun w hm hc hg => emay_spec (⟨BitVec.ofInt 64 (numO ((splW s).getD 0 default)), kindEv ((splW s).getD 1 default), numO ((splW s).getD 2 default), lk, numO ((splW s).getD 4 default)⟩ : Evt) w) ?_
    refine LM.nil ?_
    refine QM.one au1 (fun _ _ => trivial) ?_
    refine KD.one rfl ?_
    refine LM.stW Tryd.sizeOf39 rfl rfl rfl rfl au7 au8 ?_
    refine LM.nil ?_
    refine QM.one au1 (fun _ _ => trivial) ?_
    refine KD.val rfl rfl (ov_assign rfl) ?_
    refine KD.nil ?_
    refine QM.sub (e' := [(2, _), (3, _)]) au9 (QM.then ?_)
    refine wpM.ret ?_
    refine QM.leaveCs (ds := ([])) (.inl rfl) [.cell 2 39, .tmp 3] Tryd.results30 hd_nil (rc_w rfl Tryd.isAgg39 Tryd.sizeOf39 rfl (rc_tmp rfl rc_nil)) ?_
    intro w' hm' hc'
    have he : evOf (splW s) = (⟨BitVec.ofInt 64 (numO ((splW s).getD 0 default)), kindEv ((splW s).getD 1 default), numO ((splW s).getD 2 default), lk, numO ((splW s).getD 4 default)⟩ : Evt) := (by unfold evOf; rw [hlk]; rfl); have hO := OneT.may (n0 := w.heap.size) (s := s) (isEv_may hln5 h2 hl3 (Int.not_lt.1 h5)); rw [he] at hO; exact ⟨hc', [], hO, Mem.nil _, fun p hp => by cases hp⟩
   refine LM.alloc Tryd.zeroValue39 rfl (fun b7 hb7 => ?_)
   refine LM.nil ?_
   refine QM.one au1 (fun _ _ => trivial) ?_
   refine KD.one rfl ?_
   refine LM.callE (oc_call (enters_fn Tryd.func62 (by kernel_rfl) rfl) rfl) (fun w hm hc hg => enum_spec _ w (by omega)) ?_
   refine LM.nil ?_
   refine QM.one au1 (fun _ _ => trivial) ?_
   refine KD.one rfl ?_
   refine LM.callE (oc_call (enters_fn Tryd.func62 (by kernel_rfl) rfl) rfl) (fun w hm hc hg => enum_spec _ w (by omega)) ?_
   refine LM.nil ?_
   refine QM.one au1 (fun _ _ => trivial) ?_
   refine KD.val rfl rfl (ov_build (cs := #[U (BitVec.ofInt 64 (numO ((splW s).getD 0 default))), .int .i64 (kindEv ((splW s).getD 1 default)), .int .i64 (numO ((splW s).getD 2 default)), .int .i64 lk, .int .i64 (numO ((splW s).getD 4 default))]) rfl (by kernel_rfl)) ?_
   refine KD.one rfl ?_
   refine LM.stW Tryd.sizeOf39 rfl rfl rfl rfl au7 au8 ?_
   refine LM.nil ?_
   refine QM.one au1 (fun _ _ => trivial) ?_
   refine KD.nil ?_
   refine QM.sub (e' := [(2, _), (7, _)]) au9 (QM.then ?_)
   refine wpM.seq ?_
   refine wpM.keep ((b7, _) :: []) (fun _ => True) (.one 0 1 (.one 1 1 (.one 2 2 (.one 3 2 (.one 4 0 .nil))))) (by kernel_rfl) (by kernel_rfl) au1 (fun _ _ => trivial) ?_
   refine KD.rd rfl rfl (om_ldW Tryd.isAgg39 Tryd.sizeOf39 rfl rfl) ?_
   refine KD.rd rfl rfl (om_ldW Tryd.isAgg39 Tryd.sizeOf39 rfl rfl) ?_
   refine KD.one rfl ?_
   refine LM.callE (oc_call (enters_fn Tryd.func55 (by kernel_rfl) rfl) rfl) (fun w hm hc hg => emay_spec (⟨BitVec.ofInt 64 (numO ((splW s).getD 0 default)), kindEv ((splW s).getD 1 default), numO ((splW s).getD 2 default), lk, numO ((splW s).getD 4 default)⟩ : Evt) w) ?_
   refine LM.nil ?_
   refine QM.one au1 (fun _ _ => trivial) ?_
   refine KD.one rfl ?_
   refine LM.stW Tryd.sizeOf39 rfl rfl rfl rfl au7 au8 ?_
   refine LM.nil ?_
   refine QM.one au1 (fun _ _ => trivial) ?_
   refine KD.val rfl rfl (ov_assign rfl) ?_
   refine KD.nil ?_
   refine QM.sub (e' := [(2, _), (3, _)]) au9 (QM.then ?_)
   refine wpM.ret ?_
   refine QM.leaveCs (ds := ([])) (.inl rfl) [.cell 2 39, .tmp 3] Tryd.results30 hd_nil (rc_w rfl Tryd.isAgg39 Tryd.sizeOf39 rfl (rc_tmp rfl rc_nil)) ?_
   intro w' hm' hc'
   have he : evOf (splW s) = (⟨BitVec.ofInt 64 (numO ((splW s).getD 0 default)), kindEv ((splW s).getD 1 default), numO ((splW s).getD 2 default), lk, numO ((splW s).getD 4 default)⟩ : Evt) := (by unfold evOf; rw [hlk]; rfl); have hO := OneT.may (n0 := w.heap.size) (s := s) (isEv_may hln5 h2 hl3 (Int.not_lt.1 h5)); rw [he] at hO; exact ⟨hc', [], hO, Mem.nil _, fun p hp => by cases hp⟩
  refine LM.alloc Tryd.zeroValue39 rfl (fun b7 hb7 => ?_)
  refine LM.nil ?_
  refine QM.one au1 (fun _ _ => trivial) ?_
  refine KD.one rfl ?_
  refine LM.callE (oc_call (enters_fn Tryd.func63 (by kernel_rfl) rfl) rfl) (fun w hm hc hg => index_str ((splW s).getD 1 default) w hn42 (hs42.srM (by intro _; rfl) hm) (by decide)) ?_
  refine LM.nil ?_
  refine QM.one au1 (fun _ _ => trivial) ?_
  refine KD.one rfl ?_
  refine LM.callE (oc_call (enters_fn Tryd.func62 (by kernel_rfl) rfl) rfl) (fun w hm hc hg => enum_spec _ w (by omega)) ?_
  refine LM.nil ?_
  refine QM.one au1 (fun _ _ => trivial) ?_
  refine KD.one rfl ?_
  refine LM.callE (oc_call (enters_fn Tryd.func62 (by kernel_rfl) rfl) rfl) (fun w hm hc hg => enum_spec _ w (by omega)) ?_
  refine LM.nil ?_
  refine QM.one au1 (fun _ _ => trivial) ?_
  refine KD.val rfl rfl (ov_build (cs := #[U (BitVec.ofInt 64 (numO ((splW s).getD 0 default))), .int .i64 (kindEv ((splW s).getD 1 default)), .int .i64 (numO ((splW s).getD 2 default)), .int .i64 lk, .int .i64 (numO ((splW s).getD 4 default))]) rfl (by kernel_rfl)) ?_
  refine KD.one rfl ?_
  refine LM.stW Tryd.sizeOf39 rfl rfl rfl rfl au7 au8 ?_
  refine LM.nil ?_
  refine QM.one au1 (fun _ _ => trivial) ?_
  refine KD.nil ?_
  refine QM.sub (e' := [(2, _), (7, _)]) au9 (QM.then ?_)
  refine wpM.seq ?_
  refine wpM.keep ((b7, _) :: []) (fun _ => True) (.one 0 1 (.one 1 1 (.one 2 2 (.one 3 2 (.one 4 0 .nil))))) (by kernel_rfl) (by kernel_rfl) au1 (fun _ _ => trivial) ?_
  refine KD.rd rfl rfl (om_ldW Tryd.isAgg39 Tryd.sizeOf39 rfl rfl) ?_
  refine KD.rd rfl rfl (om_ldW Tryd.isAgg39 Tryd.sizeOf39 rfl rfl) ?_
  refine KD.one rfl ?_
  refine LM.callE (oc_call (enters_fn Tryd.func55 (by kernel_rfl) rfl) rfl) (fun w hm hc hg => emay_spec (⟨BitVec.ofInt 64 (numO ((splW s).getD 0 default)), kindEv ((splW s).getD 1 default), numO ((splW s).getD 2 default), lk, numO ((splW s).getD 4 default)⟩ : Evt) w) ?_
  refine LM.nil ?_
  refine QM.one au1 (fun _ _ => trivial) ?_
  refine KD.one rfl ?_
  refine LM.stW Tryd.sizeOf39 rfl rfl rfl rfl au7 au8 ?_
  refine LM.nil ?_
  refine QM.one au1 (fun _ _ => trivial) ?_
  refine KD.val rfl rfl (ov_assign rfl) ?_
  refine KD.nil ?_
  refine QM.sub (e' := [(2, _), (3, _)]) au9 (QM.then ?_)
  refine wpM.ret ?_
  refine QM.leaveCs (ds := ([])) (.inl rfl) [.cell 2 39, .tmp 3] Tryd.results30 hd_nil (rc_w rfl Tryd.isAgg39 Tryd.sizeOf39 rfl (rc_tmp rfl rc_nil)) ?_
  intro w' hm' hc'
  have he : evOf (splW s) = (⟨BitVec.ofInt 64 (numO ((splW s).getD 0 default)), kindEv ((splW s).getD 1 default), numO ((splW s).getD 2 default), lk, numO ((splW s).getD 4 default)⟩ : Evt) := (by unfold evOf; rw [hlk]; rfl); have hO := OneT.may (n0 := w.heap.size) (s := s) (isEv_may hln5 h2 hl3 (Int.not_lt.1 h5)); rw [he] at hO; exact ⟨hc', [], hO, Mem.nil _, fun p hp => by cases hp⟩
 refine LM.alloc Tryd.zeroValue39 rfl (fun b7 hb7 => ?_)
 refine LM.nil ?_
 refine QM.one au1 (fun _ _ => trivial) ?_
 refine KD.one rfl ?_
 refine LM.cS (oc_call (enters_fn Tryd.func64 (by kernel_rfl) rfl) rfl) (fun w hm hc hg => enames_spec w) (fun ad42 n42 cap42 m42 hn42 hs42 => ?_)
 refine LM.nil ?_
 refine QM.one au1 (fun _ _ => trivial) ?_
 refine KD.one rfl ?_
 refine LM.callE (oc_call (enters_fn Tryd.func63 (by kernel_rfl) rfl) rfl) (fun w hm hc hg => index_str ((splW s).getD 1 default) w hn42 (hs42.srM (by intro _; rfl) hm) (by decide)) ?_
 refine LM.nil ?_
 refine QM.one au1 (fun _ _ => trivial) ?_
 refine KD.one rfl ?_
 refine LM.callE (oc_call (enters_fn Tryd.func62 (by kernel_rfl) rfl) rfl) (fun w hm hc hg => enum_spec _ w (by omega)) ?_
 refine LM.nil ?_
 refine QM.one au1 (fun _ _ => trivial) ?_
 refine KD.one rfl ?_
 refine LM.callE (oc_call (enters_fn Tryd.func62 (by kernel_rfl) rfl) rfl) (fun w hm hc hg => enum_spec _ w (by omega)) ?_
 refine LM.nil ?_
 refine QM.one au1 (fun _ _ => trivial) ?_
 refine KD.val rfl rfl (ov_build (cs := #[U (BitVec.ofInt 64 (numO ((splW s).getD 0 default))), .int .i64 (kindEv ((splW s).getD 1 default)), .int .i64 (numO ((splW s).getD 2 default)), .int .i64 lk, .int .i64 (numO ((splW s).getD 4 default))]) rfl (by kernel_rfl)) ?_
 refine KD.one rfl ?_
 refine LM.stW Tryd.sizeOf39 rfl rfl rfl rfl au7 au8 ?_
 refine LM.nil ?_
 refine QM.one au1 (fun _ _ => trivial) ?_
 refine KD.nil ?_
 refine QM.sub (e' := [(2, _), (7, _)]) au9 (QM.then ?_)
 refine wpM.seq ?_
 refine wpM.keep ((b7, _) :: []) (fun _ => True) (.one 0 1 (.one 1 1 (.one 2 2 (.one 3 2 (.one 4 0 .nil))))) (by kernel_rfl) (by kernel_rfl) au1 (fun _ _ => trivial) ?_
 refine KD.rd rfl rfl (om_ldW Tryd.isAgg39 Tryd.sizeOf39 rfl rfl) ?_
 refine KD.rd rfl rfl (om_ldW Tryd.isAgg39 Tryd.sizeOf39 rfl rfl) ?_
 refine KD.one rfl ?_
 refine LM.callE (oc_call (enters_fn Tryd.func55 (by kernel_rfl) rfl) rfl) (fun w hm hc hg => emay_spec (⟨BitVec.ofInt 64 (numO ((splW s).getD 0 default)), kindEv ((splW s).getD 1 default), numO ((splW s).getD 2 default), lk, numO ((splW s).getD 4 default)⟩ : Evt) w) ?_
 refine LM.nil ?_
 refine QM.one au1 (fun _ _ => trivial) ?_
 refine KD.one rfl ?_
 refine LM.stW Tryd.sizeOf39 rfl rfl rfl rfl au7 au8 ?_
 refine LM.nil ?_
 refine QM.one au1 (fun _ _ => trivial) ?_
 refine KD.val rfl rfl (ov_assign rfl) ?_
 refine KD.nil ?_
 refine QM.sub (e' := [(2, _), (3, _)]) au9 (QM.then ?_)
 refine wpM.ret ?_
 refine QM.leaveCs (ds := ([])) (.inl rfl) [.cell 2 39, .tmp 3] Tryd.results30 hd_nil (rc_w rfl Tryd.isAgg39 Tryd.sizeOf39 rfl (rc_tmp rfl rc_nil)) ?_
 intro w' hm' hc'
 have he : evOf (splW s) = (⟨BitVec.ofInt 64 (numO ((splW s).getD 0 default)), kindEv ((splW s).getD 1 default), numO ((splW s).getD 2 default), lk, numO ((splW s).getD 4 default)⟩ : Evt) := (by unfold evOf; rw [hlk]; rfl); have hO := OneT.may (n0 := w.heap.size) (s := s) (isEv_may hln5 h2 hl3 (Int.not_lt.1 h5)); rw [he] at hO; exact ⟨hc', [], hO, Mem.nil _, fun p hp => by cases hp⟩
theorem idx_nlE : ∀ (l : List UInt8), Lib.indexByte l 10 = if (l.takeWhile notNlB).length < l.length then (((l.takeWhile notNlB).length : Nat) : Int) else -1
  | [] => rfl
  | c :: l => by
    have ih := idx_nlE l
    by_cases hc : c = 10
    · subst hc
      have h1 : ((10 : UInt8) :: l).takeWhile notNlB = [] := by rw [List.takeWhile_cons, if_neg (by decide)]
      rw [Lib.indexByte, h1]; simp
    · have h1 : (c :: l).takeWhile notNlB = c :: l.takeWhile notNlB := by rw [List.takeWhile_cons, if_pos (by unfold notNlB; simpa using hc)]
      rw [Lib.indexByte, if_neg (by simpa using hc), h1, ih, List.length_cons, List.length_cons]
      by_cases hq : (l.takeWhile notNlB).length < l.length
      · rw [if_pos hq, if_neg (show ¬ ((((l.takeWhile notNlB).length : Nat) : Int) == -1) = true by rw [beq_iff_eq]; omega), if_pos (by omega)]; omega
      · rw [if_neg hq, if_pos (by rfl), if_neg (by omega)]
theorem idx_end {s : List UInt8} {i : Nat} (hi : i ≤ s.length) : (Lib.indexByte (s.drop i) 10 < 0 → s.length ≤ i + endL s i) ∧ (¬ Lib.indexByte (s.drop i) 10 < 0 → Lib.indexByte (s.drop i) 10 = ((endL s i : Nat) : Int) ∧ i + endL s i < s.length) := by
  have h := idx_nlE (s.drop i)
  rw [List.length_drop] at h
  have he : endL s i = ((s.drop i).takeWhile notNlB).length := rfl
  rw [← he] at h
  rw [h]
  split <;> constructor <;> intro q <;> omega
set_option maxRecDepth 100000 in
set_option maxHeartbeats 2000000 in
theorem eparse_spec (s : List UInt8) (w : World) (hX : MaxI w) : Ret Tryd.prog 8 #[vS s] w (fun v w' => Ext w w' ∧ ∃ m, EvT (parO s) w.heap.size v m ∧ Mem w' m ∧ ∀ p ∈ m, w.heap.size ≤ p.1) := by
 refine Ret.enterM (l := [vS s]) Tryd.func8 rfl Tryd.ntmps8 rfl ([]) (no) (Mem.nil w) ?_
 refine wpM.seq (wpM.region ?_)
 refine LM.as rfl (LM.as rfl (LM.as rfl ?_))
 refine LM.nil (QM.sub (e' := [(0, _)]) ⟨rfl, trivial⟩ (QM.then ?_))
 refine wpM.seq ?_
 refine wpM.seq (wpM.region ?_)
 refine LM.mv rfl ?_
 refine LM.val (ov_slenL Tryd.underlying9 rfl) ?_
 refine LM.val (ov_gtr rfl rfl) ?_
 refine LM.nil (QM.sub (e' := [(0, _), (12, _)]) au9 (QM.then ?_))
 refine wpM.condD rfl (fun h1 => ?_) (fun h1 => ?_)
 ·
  refine wpM.seq (wpM.region ?_)
  refine LM.as rfl (LM.as rfl (LM.as rfl ?_))
  refine LM.nil (QM.sub (e' := [(2, _), (3, _), (4, _)]) au9 (QM.then ?_))
  refine wpM.ret ?_
  refine QM.then_ret ?_
  refine QM.leave (.inl rfl) [.tmp 2, .tmp 3, .tmp 4] Tryd.results8 rfl ?_
  intro w' hm' hc' hg'
  exact ⟨hc', [], EvT.no (parO_big h1), Mem.nil _, fun p hp => by cases hp⟩
 refine wpM.skip ?_
 refine QM.then (wpM.seq (wpM.region ?_))
 refine LM.as rfl ?_
 refine LM.nil (QM.sub (e' := [(0, _), (5, _)]) au9 (QM.then ?_))
 refine wpM.seq ?_
 refine wpM.seq (wpM.region ?_)
 refine LM.as rfl ?_
 refine LM.nil (QM.sub (e' := [(0, _), (5, _), (6, _)]) au9 (QM.then ?_))
 refine wpM.block ?_
 refine wpM.loopK0 (α := Nat × List Evt × Option Addr × Nat × Nat × Mem0) (fun ⟨i, out, ad5, n5, cap5, m5⟩ => [(5, .slice ad5 n5 cap5), (6, .int .i64 (i : Nat))]) [(0, _)] (fun ⟨i, out, ad5, n5, cap5, m5⟩ => m5 ++ []) (fun ⟨i, out, ad5, n5, cap5, m5⟩ => i ≤ s.length ∧ parL s 0 [] = parL s i out ∧ out.length ≤ i ∧ n5 = out.length ∧ Sl fE 39 5 w.heap.size out (.slice ad5 n5 cap5) m5) (fun ⟨i, out, ad5, n5, cap5, m5⟩ => s.length - i) ((0, [], none, 0, 0, [])) ⟨au2, au2, rfl, trivial⟩ au1 ⟨Nat.zero_le _, rfl, Nat.le_refl _, rfl, .nil _ _ _ _⟩ ?_
 rintro ⟨i, out, ad5, n5, cap5, m5⟩ ⟨hi, hp, hlo, hn5, hs5⟩
 change wpM _ _ _ _ _ _ _ (m5 ++ []) _ _ _
 refine wpM.seq ?_
 refine wpM.seq (wpM.region ?_)
 refine LM.mv rfl (LM.mv rfl ?_)
 refine LM.val (ov_slenL Tryd.underlying9 rfl) ?_
 refine LM.val (ov_lss rfl rfl) ?_
 refine LM.nil (QM.sub (e' := [(0, _), (5, _), (6, _), (16, _)]) au9 (QM.then ?_))
 refine wpM.condD rfl (fun h2 => ?_) (fun h2 => ?_)
 ·
  refine wpM.skip ?_
  refine QM.then ?_
  refine wpM.block ?_
  refine wpM.seq (wpM.region ?_)
  refine LM.mv rfl (LM.mv rfl ?_)
  refine LM.val (ov_sslcLo Tryd.underlying9 rfl rfl (by omega) (by omega)) ?_
  refine LM.callE (oc_call (enters_fn Tryd.func29 (by kernel_rfl) rfl) rfl) (fun w hm hc hg => idx_ret (s.drop i) 10 w) ?_
  refine LM.as rfl ?_
  refine LM.nil (QM.sub (e' := [(0, _), (5, _), (6, _), (7, _)]) au9 (QM.then ?_))
  refine wpM.seq ?_
  refine wpM.seq (wpM.region ?_)
  have hidx := idx_end (s := s) (i := i) (by omega); change (Lib.indexByte (s.drop i) (Int.toNat 10).toUInt8 < 0 → _) ∧ (¬ Lib.indexByte (s.drop i) (Int.toNat 10).toUInt8 < 0 → Lib.indexByte (s.drop i) (Int.toNat 10).toUInt8 = _ ∧ _) at hidx; generalize Lib.indexByte (s.drop i) (Int.toNat 10).toUInt8 = q at hidx ⊢
  refine LM.mv rfl ?_
  refine LM.val (ov_lss rfl rfl) ?_
  refine LM.nil (QM.sub (e' := [(0, _), (5, _), (6, _), (7, _), (22, _)]) au9 (QM.then ?_))
  refine wpM.condD rfl (fun h3 => ?_) (fun h3 => ?_)
  ·
   refine wpM.seq (wpM.region ?_)
   refine LM.mv rfl (LM.as rfl (LM.as rfl (LM.as rfl ?_)))
   refine LM.nil (QM.sub (e' := [(2, _), (3, _), (4, _)]) au9 (QM.then ?_))
   refine wpM.ret ?_
   refine QM.then_ret ?_
   refine QM.block_ret ?_
   refine QM.then_ret ?_
   refine QM.block_ret ?_
   refine QM.then_ret ?_
   refine QM.leave (.inl rfl) [.tmp 2, .tmp 3, .tmp 4] Tryd.results8 rfl ?_
   intro w' hm' hc' hg'
   exact ⟨hc', [], EvT.no (by rw [parO_small h1, hp, parL_noend (by omega) (hidx.1 h3)]), Mem.nil _, fun p hp => by cases hp⟩
  obtain ⟨rfl, hlt⟩ := hidx.2 h3
  refine wpM.skip ?_
  refine QM.then (wpM.seq (wpM.region ?_))
  refine LM.mv rfl (LM.mv rfl (LM.mv rfl (LM.mv rfl ?_)))
  refine LM.val (ov_add64 rfl rfl (by omega)) ?_
  refine LM.val (ov_sslcL Tryd.underlying9 rfl rfl rfl (by omega) (by omega) (by omega)) ?_
  refine LM.callT (oc_call (enters_fn Tryd.func30 (by kernel_rfl) rfl) rfl) OneT.mono (fun w hm hc hg => eone_spec ((s.drop i).take (((i : Int) + ((endL s i : Nat) : Int)).toNat - ((i : Nat) : Int).toNat)) w (by rw [List.length_take]; omega) (hX.ext hc)) ?_
  rintro u31 m31 ⟨⟨e, rfl, he⟩, rfl⟩ -; have hpc : (s.drop i).take (((i : Int) + ((endL s i : Nat) : Int)).toNat - ((i : Nat) : Int).toNat) = (s.drop i).take (endL s i) := (by congr 1; omega)
  refine LM.mv rfl ?_
  refine LM.val (ov_extract rfl rfl) ?_
  refine LM.val (ov_extract rfl rfl) ?_
  refine LM.alloc Tryd.zeroValue39 rfl (fun b8 hb8 => ?_)
  refine LM.stW Tryd.sizeOf39 rfl rfl rfl rfl au7 au8 ?_
  refine LM.as rfl ?_
  refine LM.nil (QM.sub (e' := [(0, _), (5, _), (6, _), (7, _), (8, _), (9, _)]) au9 (QM.then ?_))
  refine wpM.seq ?_
  refine wpM.seq (wpM.region ?_)
  refine LM.mv rfl ?_
  first | refine LM.val (ov_notD rfl) ?_ | refine LM.val (ov_not rfl) ?_
  refine LM.nil (QM.sub (e' := [(0, _), (5, _), (6, _), (7, _), (8, _), (35, _)]) au9 (QM.then ?_))
  first | refine wpM.condD rfl (fun h4 => ?_) (fun h4 => ?_) | refine wpM.condB rfl (fun h4 => ?_) (fun h4 => ?_)
  ·
   refine wpM.seq (wpM.region ?_)
   refine LM.mv rfl (LM.as rfl (LM.as rfl (LM.as rfl ?_)))
   refine LM.nil (QM.sub (e' := [(2, _), (3, _), (4, _)]) au9 (QM.then ?_))
   refine wpM.ret ?_
   refine QM.then_ret ?_
   refine QM.block_ret ?_
   refine QM.then_ret ?_
   refine QM.block_ret ?_
   refine QM.then_ret ?_
   refine QM.leave (.inl rfl) [.tmp 2, .tmp 3, .tmp 4] Tryd.results8 rfl ?_
   intro w' hm' hc' hg'
   exact ⟨hc', [], EvT.no (by rw [parO_small h1, hp, parL_bad (by omega) (by rw [← hpc]; simpa using h4)]), Mem.nil _, fun p hp => by cases hp⟩
  refine wpM.skip ?_
  refine QM.then (wpM.seq (wpM.region ?_))
  refine LM.mv rfl ?_
  refine LM.rd (om_ldW Tryd.isAgg39 Tryd.sizeOf39 rfl rfl) ?_
  refine LM.single Tryd.underlying23 Tryd.sizeOf39 Tryd.zeroValue39 rfl rfl rfl rfl rfl (fun b39 hb39 => ?_)
  refine LM.app (a := e) Tryd.underlying23 Tryd.typeInfo39 rfl rfl rfl rfl rfl rfl rfl (by assumption) (by rfl) (by intro _; rfl) (by intro _ u hu; simp [fE] at hu; (repeat (first | (rcases hu with rfl | hu) | subst hu | rfl))) (by first | exact Nat.le_refl _ | omega) au10 (by first | omega | (unfold maxLen; omega)) (by simp only [Tryd.t39]; omega) (fun ad40 n40 cap40 m40 hn40 hs40 hin40 => ?_)
  refine LM.as rfl ?_
  refine LM.nil (QM.sub (e' := [(0, _), (5, _), (6, _), (7, _)]) au9 (QM.then (wpM.region ?_)))
  refine LM.mv rfl (LM.mv rfl ?_)
  refine LM.val (ov_add64 rfl rfl (by omega)) ?_
  refine LM.val (ov_add64 rfl rfl (by omega)) ?_
  refine LM.as rfl ?_
  refine LM.nil (QM.sub (e' := [(0, _), (5, _), (6, _)]) au9 ?_)
  refine QM.block_normal ?_
  refine QM.againK ((i + endL s i + 1, out ++ [e], ad40, n40, cap40, m40)) ⟨au2, au2, rfl, trivial⟩ au1 (fun _ h => h) ?_ ?_
  · exact ⟨by omega, by rw [hp, parL_next (by omega) (by omega) (by rw [← hpc]; simpa using h4), ← hpc, ← he (by simpa using h4)], by rw [List.length_append, List.length_singleton]; omega, by rw [List.length_append, List.length_singleton]; exact hn40, hs40⟩
  · first | omega | (dsimp only; omega)
 refine wpM.exit ?_
 refine QM.then_exit ?_
 refine QM.then_exit ?_
 refine QM.block_hit ?_
 refine QM.then (wpM.seq (wpM.region ?_))
 refine LM.mv rfl (LM.as rfl (LM.as rfl (LM.as rfl ?_)))
 refine LM.nil (QM.sub (e' := [(2, _), (3, _), (4, _)]) au9 (QM.then ?_))
 refine wpM.ret ?_
 refine QM.leave (.inl rfl) [.tmp 2, .tmp 3, .tmp 4] Tryd.results8 rfl ?_
 intro w' hm' hc' hg'
 refine ⟨hc', m5, ?_, hm'.pick _, Sl.ge hs5⟩; rw [parO_small h1, hp, parL_end (by omega)]; exact ⟨ad5, n5, cap5, rfl, hn5, hs5⟩
end Go.Eng
namespace Go.Eng
open Go Go.Proofs Go.RowKit
def aw24E : Evt := ⟨5#64, 4, 3, 0, 1⟩
def aw24L : List UInt8 := [53, 32, 97, 99, 113, 117, 105, 114, 101, 32, 51, 32, 48, 32, 49, 10]
def aw24M : List UInt8 := [55, 32, 119, 97, 107, 101, 32, 48, 32, 45, 32, 50, 10]
theorem aw24_line : lineO aw24E = (aw24L, 0) := by decide +kernel
theorem aw24_par : parO aw24M = ([⟨7#64, 7, 0, -1, 2⟩], 0, 0) := by decide +kernel
set_option maxRecDepth 100000 in
set_option maxHeartbeats 2000000 in
theorem awake24_spec (w : World) (hT : Tb w) (hX : MaxI w) : Ret Tryd.prog 7 #[] w (fun v w' => v = .bool true ∧ Ext w w') := by
 refine Ret.enterM (l := []) Tryd.func7 rfl Tryd.ntmps7 rfl ([]) (no) (Mem.nil w) ?_
 refine wpM.seq (wpM.region ?_)
 refine LM.as rfl ?_
 refine LM.nil (QM.sub (e' := []) trivial (QM.then (wpM.seq (wpM.region ?_))))
 refine LM.val (ov_build (cs := #[_, _, _, _, _]) rfl (by first | rfl | kernel_rfl)) ?_
 refine LM.alloc Tryd.zeroValue39 rfl (fun b1 hb1 => ?_)
 refine LM.stW Tryd.sizeOf39 rfl rfl rfl rfl au7 au8 ?_
 refine LM.nil (QM.sub (e' := [(1, _)]) ⟨rfl, trivial⟩ (QM.then (wpM.seq (wpM.region ?_))))
 refine LM.rd (om_ldW Tryd.isAgg39 Tryd.sizeOf39 rfl rfl) ?_
 refine LM.callE (oc_call (enters_fn Tryd.func28 (by kernel_rfl) rfl) rfl) (fun w hm hc hg => aw24_line ▸ eline_spec aw24E w (hT.ext hc)) ?_
 refine LM.mv rfl ?_
 refine LM.val (ov_extract rfl rfl) ?_
 refine LM.val (ov_extract rfl rfl) ?_
 refine LM.as rfl (LM.as rfl ?_)
 refine LM.nil (QM.sub (e' := [(2, _), (3, _)]) au9 (QM.then (wpM.seq (wpM.region ?_))))
 refine LM.callT (oc_call (enters_fn Tryd.func8 (by kernel_rfl) rfl) rfl) EvT.mono (fun w hm hc hg => eparse_spec aw24M w (hX.ext hc)) ?_
 rw [aw24_par]; rintro u14 m14 ⟨ad14, n14, cap14, rfl, hn14, hs14⟩ -; have hn14' : n14 = 1 := hn14
 refine LM.mv rfl ?_
 refine LM.val (ov_extract rfl rfl) ?_
 refine LM.val (ov_extract rfl rfl) ?_
 refine LM.val (ov_extract rfl rfl) ?_
 refine LM.as rfl (LM.as rfl (LM.as rfl ?_))
 refine LM.nil (QM.sub (e' := [(2, _), (3, _), (4, _), (5, _), (6, _)]) au9 (QM.then (wpM.seq (wpM.region ?_))))
 refine LM.mv rfl ?_
 refine LM.val (ov_seqlL rfl rfl) ?_
 refine LM.mv rfl ?_
 refine LM.splitD (t := 20) rfl (fun h1 => ?_) (fun h1 => ?_)
 ·
  refine LM.sp 20 rfl rfl rfl (LM.mv rfl (LM.sp 20 rfl rfl rfl ?_))
  refine LM.val (ov_eql rfl rfl) ?_
  refine LM.val (ov_pickT rfl rfl) ?_
  refine LM.mv rfl ?_
  refine LM.splitD (t := 24) rfl (fun h2 => ?_) (fun h2 => ?_)
  ·
   refine LM.sp 24 rfl rfl rfl (LM.mv rfl (LM.sp 24 rfl rfl rfl ?_))
   refine LM.val (ov_len Tryd.underlying23 rfl) ?_
   refine LM.sp 24 rfl rfl rfl ?_
   refine LM.val (ov_eql rfl rfl) ?_
   refine LM.val (ov_pickT rfl rfl) ?_
   refine LM.mv rfl ?_
   refine LM.splitD (t := 29) rfl (fun h3 => ?_) (fun h3 => ?_)
   ·
    refine LM.sp 29 rfl rfl rfl (LM.mv rfl (LM.sp 29 rfl rfl rfl ?_))
    refine LM.val (ov_eql rfl rfl) ?_
    refine LM.val (ov_pickT rfl rfl) ?_
    refine LM.mv rfl ?_
    refine LM.splitD (t := 33) rfl (fun h4 => ?_) (fun h4 => ?_)
    ·
     refine LM.sp 33 rfl rfl rfl (LM.mv rfl (LM.sp 33 rfl rfl rfl ?_))
     refine LM.val (ov_eql rfl rfl) ?_
     refine LM.val (ov_pickT rfl rfl) ?_
     refine LM.mv rfl ?_
     refine LM.splitD (t := 37) rfl (fun h5 => ?_) (fun h5 => ?_)
     ·
      refine LM.sp 37 rfl rfl rfl (LM.mv rfl (LM.sp 37 rfl rfl rfl ?_))
      refine LM.val (ov_idxSN (i := 0) au6 Tryd.underlying23 Tryd.sizeOf39 rfl rfl (by omega)) ?_
      refine LM.sp 37 rfl rfl rfl ?_
      refine LM.rd (om_slA (by assumption) (by intro _; rfl) Tryd.isAgg39 Tryd.sizeOf39 rfl au3) ?_
      refine LM.sp 37 rfl rfl rfl ?_
      refine LM.val (ov_build (cs := #[_, _, _, _, _]) rfl (by first | rfl | kernel_rfl)) ?_
      refine LM.sp 37 rfl rfl rfl ?_
      refine LM.val (ov_aeql Tryd.underlying39 (by kernel_rfl) (by kernel_rfl) (by decide) rfl rfl (by rfl) ⟨(by first | rfl | trivial), (by first | rfl | trivial), (by first | rfl | trivial), (by first | rfl | trivial), (by first | rfl | trivial), trivial⟩) ?_
      refine LM.val (ov_pickT rfl rfl) ?_
      refine LM.as rfl ?_
      refine LM.nil (QM.sub (e' := [(0, _)]) ⟨rfl, trivial⟩ (QM.then ?_))
      refine wpM.ret ?_
      refine QM.leave (.inl rfl) [.tmp 0] Tryd.results7 rfl ?_
      intro w' hm' hc' hg'
      exact ⟨rfl, hc'⟩
     refine LM.dr 37 rfl rfl rfl (LM.dr 37 rfl rfl rfl (LM.dr 37 rfl rfl rfl (LM.dr 37 rfl rfl rfl (LM.dr 37 rfl rfl rfl ?_))))
     refine LM.val (ov_pickF rfl rfl) ?_
     refine LM.as rfl ?_
     refine LM.nil (QM.sub (e' := [(0, _)]) ⟨rfl, trivial⟩ (QM.then ?_))
     refine wpM.ret ?_
     refine QM.leave (.inl rfl) [.tmp 0] Tryd.results7 rfl ?_
     intro w' hm' hc' hg'
     first | exact ⟨rfl, hc'⟩ | (exfalso; first | omega | (simp at *; done) | (simp_all; done))
    refine LM.dr 33 rfl rfl rfl (LM.dr 33 rfl rfl rfl ?_)
    refine LM.val (ov_pickF rfl rfl) ?_
    refine LM.mv rfl (LM.dr 37 rfl rfl rfl (LM.dr 37 rfl rfl rfl (LM.dr 37 rfl rfl rfl (LM.dr 37 rfl rfl rfl (LM.dr 37 rfl rfl rfl ?_)))))
    refine LM.val (ov_pickF rfl rfl) ?_
    refine LM.as rfl ?_
    refine LM.nil (QM.sub (e' := [(0, _)]) ⟨rfl, trivial⟩ (QM.then ?_))
    refine wpM.ret ?_
    refine QM.leave (.inl rfl) [.tmp 0] Tryd.results7 rfl ?_
    intro w' hm' hc' hg'
    first | exact ⟨rfl, hc'⟩ | (exfalso; first | omega | (simp at *; done) | (simp_all; done))
   refine LM.dr 29 rfl rfl rfl (LM.dr 29 rfl rfl rfl ?_)
   refine LM.val (ov_pickF rfl rfl) ?_
   refine LM.mv rfl (LM.dr 33 rfl rfl rfl (LM.dr 33 rfl rfl rfl ?_))
   refine LM.val (ov_pickF rfl rfl) ?_
   refine LM.mv rfl (LM.dr 37 rfl rfl rfl (LM.dr 37 rfl rfl rfl (LM.dr 37 rfl rfl rfl (LM.dr 37 rfl rfl rfl (LM.dr 37 rfl rfl rfl ?_)))))
   refine LM.val (ov_pickF rfl rfl) ?_
   refine LM.as rfl ?_
   refine LM.nil (QM.sub (e' := [(0, _)]) ⟨rfl, trivial⟩ (QM.then ?_))
   refine wpM.ret ?_
   refine QM.leave (.inl rfl) [.tmp 0] Tryd.results7 rfl ?_
   intro w' hm' hc' hg'
   first | exact ⟨rfl, hc'⟩ | (exfalso; first | omega | (simp at *; done) | (simp_all; done))
  refine LM.dr 24 rfl rfl rfl (LM.dr 24 rfl rfl rfl (LM.dr 24 rfl rfl rfl ?_))
  refine LM.val (ov_pickF rfl rfl) ?_
  refine LM.mv rfl (LM.dr 29 rfl rfl rfl (LM.dr 29 rfl rfl rfl ?_))
  refine LM.val (ov_pickF rfl rfl) ?_
  refine LM.mv rfl (LM.dr 33 rfl rfl rfl (LM.dr 33 rfl rfl rfl ?_))
  refine LM.val (ov_pickF rfl rfl) ?_
  refine LM.mv rfl (LM.dr 37 rfl rfl rfl (LM.dr 37 rfl rfl rfl (LM.dr 37 rfl rfl rfl (LM.dr 37 rfl rfl rfl (LM.dr 37 rfl rfl rfl ?_)))))
  refine LM.val (ov_pickF rfl rfl) ?_
  refine LM.as rfl ?_
  refine LM.nil (QM.sub (e' := [(0, _)]) ⟨rfl, trivial⟩ (QM.then ?_))
  refine wpM.ret ?_
  refine QM.leave (.inl rfl) [.tmp 0] Tryd.results7 rfl ?_
  intro w' hm' hc' hg'
  first | exact ⟨rfl, hc'⟩ | (exfalso; first | omega | (simp at *; done) | (simp_all; done))
 refine LM.dr 20 rfl rfl rfl (LM.dr 20 rfl rfl rfl ?_)
 refine LM.val (ov_pickF rfl rfl) ?_
 refine LM.mv rfl (LM.dr 24 rfl rfl rfl (LM.dr 24 rfl rfl rfl (LM.dr 24 rfl rfl rfl ?_)))
 refine LM.val (ov_pickF rfl rfl) ?_
 refine LM.mv rfl (LM.dr 29 rfl rfl rfl (LM.dr 29 rfl rfl rfl ?_))
 refine LM.val (ov_pickF rfl rfl) ?_
 refine LM.mv rfl (LM.dr 33 rfl rfl rfl (LM.dr 33 rfl rfl rfl ?_))
 refine LM.val (ov_pickF rfl rfl) ?_
 refine LM.mv rfl (LM.dr 37 rfl rfl rfl (LM.dr 37 rfl rfl rfl (LM.dr 37 rfl rfl rfl (LM.dr 37 rfl rfl rfl (LM.dr 37 rfl rfl rfl ?_)))))
 refine LM.val (ov_pickF rfl rfl) ?_
 refine LM.as rfl ?_
 refine LM.nil (QM.sub (e' := [(0, _)]) ⟨rfl, trivial⟩ (QM.then ?_))
 refine wpM.ret ?_
 refine QM.leave (.inl rfl) [.tmp 0] Tryd.results7 rfl ?_
 intro w' hm' hc' hg'
 exact absurd rfl h1
end Go.Eng
namespace Go.Eng
open Go Go.Proofs Go.RowKit
end Go.Eng
namespace Go.Eng
open Go Go.Proofs Go.RowKit
def fY (c : UInt8) : List Value := [.int .u8 ((c.toNat : Nat) : Int)]
theorem arrY (n : Nat) : ∀ j (hj : j < (List.replicate n (0 : UInt8)).length), (arr fY (List.replicate n 0) [])[j]? = some (.int .u8 ((((List.replicate n (0 : UInt8))[j]).toNat : Nat) : Int)) := fun j hj => by
  have hj' : j < n := by simpa using hj
  have := arr_get (f := fY) (show ∀ a, (fY a).length = 1 from fun _ => rfl) (xs := List.replicate n 0) (junk := []) (i := j) (j := 0) (a := 0) (by simp [hj']) (by omega)
  simpa [fY] using this
theorem par_len (s : List UInt8) : (parO s).1.length ≤ s.length := by
  have key : ∀ (f i : Nat) (out : List Evt), s.length - i ≤ f → out.length ≤ i → (parF f s i out).1.length ≤ s.length ∨ (parF f s i out).1.length ≤ out.length := by
    intro f
    induction f with
    | zero => intro i out _ _; exact .inr (Nat.le_refl _)
    | succ f ih =>
      intro i out h1 h2
      rw [parF]
      split
      · exact .inr (Nat.le_refl _)
      split
      · exact .inl (Nat.zero_le _)
      split
      · rcases ih (i + endL s i + 1) (out ++ [evOf (splW ((s.drop i).take (endL s i)))]) (by omega) (by rw [List.length_append, List.length_singleton]; omega) with h | h
        · exact .inl h
        · rename_i q1 q2 q3; rw [List.length_append, List.length_singleton] at h; exact .inl (by omega)
      · exact .inl (Nat.zero_le _)
  unfold parO
  split
  · exact Nat.zero_le _
  · rcases key (s.length - 0) 0 [] (by omega) (Nat.le_refl _) with h | h
    · exact h
    · exact Nat.le_trans h (Nat.zero_le _)
set_option maxRecDepth 100000 in
set_option maxHeartbeats 4000000 in
theorem eventAny (s : List UInt8) (more : Int) (w : World) (hT : Tb w) (hX : MaxI w) (hsx : s.length ≤ 9223372036854775807) (hmo : 0 ≤ more ∧ more ≤ 255) : Ret Tryd.prog 3 #[vS s, .int .u8 more] w (fun v w' => v = .bool true ∧ Ext w w') := by
 refine Ret.enterM (l := [vS s, .int .u8 more]) Tryd.func3 rfl Tryd.ntmps3 rfl ([]) (no) (Mem.nil w) ?_
 refine wpM.seq (wpM.region ?_)
 refine LM.as rfl ?_
 refine LM.nil (QM.sub (e' := [(0, _), (1, _)]) au9 (QM.then ?_))
 refine wpM.seq ?_
 refine wpM.seq (wpM.region ?_)
 refine LM.callE (oc_call (enters_fn Tryd.func7 (by kernel_rfl) rfl) rfl) (fun w hm hc hg => awake24_spec w (hT.ext hc) (hX.ext hc)) ?_
 first | refine LM.val (ov_notD rfl) ?_ | refine LM.val (ov_not rfl) ?_
 refine LM.nil (QM.sub (e' := [(0, _), (1, _), (17, _)]) au9 (QM.then ?_))
 first | refine wpM.condD rfl (fun h1 => ?_) (fun h1 => ?_) | refine wpM.condB rfl (fun h1 => ?_) (fun h1 => ?_)
 ·
  refine wpM.seq (wpM.region ?_)
  refine LM.as rfl ?_
  refine LM.nil (QM.sub (e' := [(4, _)]) ⟨rfl, trivial⟩ (QM.then ?_))
  refine wpM.ret ?_
  refine QM.then_ret ?_
  refine QM.leave (.inl rfl) [.tmp 4] Tryd.results3 rfl ?_
  intro w' hm' hc' hg'
  first | exact ⟨rfl, hc'⟩ | (exfalso; first | omega | (simp at *; done) | (simp_all; done))
 refine wpM.skip ?_
 refine QM.then ?_
 refine wpM.seq ?_
 refine wpM.seq (wpM.region ?_)
 refine LM.mv rfl ?_
 refine LM.val (ov_slenL Tryd.underlying9 rfl) ?_
 refine LM.val (ov_gtr rfl rfl) ?_
 refine LM.nil (QM.sub (e' := [(0, _), (1, _), (20, _)]) au9 (QM.then ?_))
 refine wpM.condD rfl (fun h2 => ?_) (fun h2 => ?_)
 ·
  refine wpM.seq (wpM.region ?_)
  refine LM.as rfl ?_
  refine LM.nil (QM.sub (e' := [(4, _)]) ⟨rfl, trivial⟩ (QM.then ?_))
  refine wpM.ret ?_
  refine QM.then_ret ?_
  refine QM.leave (.inl rfl) [.tmp 4] Tryd.results3 rfl ?_
  intro w' hm' hc' hg'
  exact ⟨rfl, hc'⟩
 refine wpM.skip ?_
 refine QM.then ?_
 refine wpM.seq ?_
 refine wpM.seq (wpM.region ?_)
 refine LM.mv rfl ?_
 refine LM.val (ov_eql rfl rfl) ?_
 refine LM.nil (QM.sub (e' := [(0, _), (22, _)]) au9 (QM.then ?_))
 refine wpM.condD rfl (fun h3 => ?_) (fun h3 => ?_)
 ·
  refine wpM.seq (wpM.region ?_)
  refine LM.mv rfl (LM.mv rfl ?_)
  refine LM.val (ov_slenL Tryd.underlying9 rfl) ?_
  refine LM.val (ov_sub64 rfl rfl (by omega)) ?_
  refine LM.make (f := fY) (a0 := 0) Tryd.underlying27 Tryd.typeInfo5 rfl rfl rfl rfl (by intro _; rfl) rfl rfl rfl (by omega) (by simp only [Tryd.t5]; omega) (by omega) (fun b28 hb28 => ?_)
  refine LM.rd (om_bytes (l := List.replicate ((1000001 : Int) - ((s.length : Nat) : Int)).toNat 0) Tryd.underlying27 Tryd.underlying5 Tryd.underlying9 rfl (by simp) (arrY _)) ?_
  have hrl : (List.replicate ((1000001 : Int) - ((s.length : Nat) : Int)).toNat (0 : UInt8)).length = ((1000001 : Int) - ((s.length : Nat) : Int)).toNat := List.length_replicate
  refine LM.val (ov_saddL rfl rfl (by first | omega | (simp only [List.length_append, List.length_cons, List.length_nil]; omega))) ?_
  refine LM.callT (oc_call (enters_fn Tryd.func8 (by kernel_rfl) rfl) rfl) EvT.mono (fun w hm hc hg => eparse_spec (s ++ List.replicate ((1000001 : Int) - ((s.length : Nat) : Int)).toNat 0) w (hX.ext hc)) ?_
  rw [parO_big (by simp only [List.length_append, List.length_replicate]; omega)]; rintro u31 m31 ⟨ad31, n31, cap31, rfl, hn31, hs31⟩ -
  refine LM.mv rfl ?_
  refine LM.val (ov_extract rfl rfl) ?_
  refine LM.val (ov_extract rfl rfl) ?_
  refine LM.val (ov_extract rfl rfl) ?_
  refine LM.as rfl (LM.as rfl (LM.as rfl ?_))
  refine LM.nil (QM.sub (e' := [(6, _), (7, _)]) au9 (QM.then (wpM.seq (wpM.region ?_))))
  refine LM.mv rfl ?_
  refine LM.val (ov_eql rfl rfl) ?_
  refine LM.mv rfl ?_
  refine LM.splitD (t := 37) rfl (fun h4 => ?_) (fun h4 => ?_)
  ·
   refine LM.sp 37 rfl rfl rfl (LM.mv rfl (LM.sp 37 rfl rfl rfl ?_))
   refine LM.val (ov_eql rfl rfl) ?_
   refine LM.val (ov_pickT rfl rfl) ?_
   refine LM.as rfl ?_
   refine LM.nil (QM.sub (e' := [(4, _)]) ⟨rfl, trivial⟩ (QM.then ?_))
   refine wpM.ret ?_
   refine QM.then_ret ?_
   refine QM.leave (.inl rfl) [.tmp 4] Tryd.results3 rfl ?_
   intro w' hm' hc' hg'
   exact ⟨rfl, hc'⟩
  refine LM.dr 37 rfl rfl rfl (LM.dr 37 rfl rfl rfl ?_)
  refine LM.val (ov_pickF rfl rfl) ?_
  refine LM.as rfl ?_
  refine LM.nil (QM.sub (e' := [(4, _)]) ⟨rfl, trivial⟩ (QM.then ?_))
  refine wpM.ret ?_
  refine QM.then_ret ?_
  refine QM.leave (.inl rfl) [.tmp 4] Tryd.results3 rfl ?_
  intro w' hm' hc' hg'
  exact absurd rfl h4
 refine wpM.skip ?_
 refine QM.then (wpM.seq (wpM.region ?_))
 refine LM.mv rfl ?_
 refine LM.callT (oc_call (enters_fn Tryd.func8 (by kernel_rfl) rfl) rfl) EvT.mono (fun w hm hc hg => eparse_spec s w (hX.ext hc)) ?_
 rintro u43 m43 ⟨ad43, n43, cap43, rfl, hn43, hs43⟩ -; have hpl := par_len s
 refine LM.mv rfl ?_
 refine LM.val (ov_extract rfl rfl) ?_
 refine LM.val (ov_extract rfl rfl) ?_
 refine LM.val (ov_extract rfl rfl) ?_
 refine LM.as rfl (LM.as rfl (LM.as rfl ?_))
 refine LM.nil (QM.sub (e' := [(0, _), (8, _), (9, _), (10, _)]) au9 (QM.then (wpM.seq (wpM.region ?_))))
 refine LM.mv rfl ?_
 refine LM.callT (oc_call (enters_fn Tryd.func9 (by kernel_rfl) rfl) rfl) EvT.mono (fun w hm hc hg => reparse_spec s w) ?_
 rintro u49 m49 ⟨ad49, n49, cap49, rfl, hn49, hs49⟩ -
 refine LM.mv rfl ?_
 refine LM.val (ov_extract rfl rfl) ?_
 refine LM.val (ov_extract rfl rfl) ?_
 refine LM.val (ov_extract rfl rfl) ?_
 refine LM.as rfl (LM.as rfl (LM.as rfl ?_))
 refine LM.nil (QM.sub (e' := [(0, _), (8, _), (9, _), (10, _), (11, _), (12, _), (13, _)]) au9 (QM.then ?_))
 refine wpM.seq ?_
 refine wpM.seq (wpM.region ?_)
 refine LM.mv rfl (LM.mv rfl ?_)
 refine LM.callE (oc_call (enters_fn Tryd.func10 (by kernel_rfl) rfl) rfl) (fun w hm hc hg => resame_spec w hn43 (hs43.srM (by intro _; rfl) hm) hn49 (hs49.srM (by intro _; rfl) hm) (by omega)) ?_
 refine LM.val (ov_notD rfl) ?_
 refine LM.mv rfl ?_
 refine LM.splitD (t := 57) rfl (fun h5 => ?_) (fun h5 => ?_)
 ·
  refine LM.dr 57 rfl rfl rfl (LM.dr 57 rfl rfl rfl (LM.dr 57 rfl rfl rfl ?_))
  refine LM.val (ov_pickT rfl rfl) ?_
  refine LM.mv rfl (LM.dr 62 rfl rfl rfl (LM.dr 62 rfl rfl rfl (LM.dr 62 rfl rfl rfl ?_)))
  refine LM.val (ov_pickT rfl rfl) ?_
  refine LM.nil (QM.sub (e' := [(0, _), (8, _), (13, _), (66, _)]) au9 (QM.then ?_))
  refine wpM.condT rfl ?_
  refine wpM.seq (wpM.region ?_)
  refine LM.as rfl ?_
  refine LM.nil (QM.sub (e' := [(4, _)]) ⟨rfl, trivial⟩ (QM.then ?_))
  refine wpM.ret ?_
  refine QM.then_ret ?_
  refine QM.leave (.inl rfl) [.tmp 4] Tryd.results3 rfl ?_
  intro w' hm' hc' hg'
  exact absurd rfl h5
 refine LM.sp 57 rfl rfl rfl (LM.mv rfl (LM.sp 57 rfl rfl rfl (LM.mv rfl (LM.sp 57 rfl rfl rfl ?_))))
 refine LM.val (ov_neq rfl rfl) ?_
 refine LM.val (ov_pickF rfl rfl) ?_
 refine LM.mv rfl ?_
 refine LM.splitD (t := 62) rfl (fun h6 => ?_) (fun h6 => ?_)
 ·
  refine LM.dr 62 rfl rfl rfl (LM.dr 62 rfl rfl rfl (LM.dr 62 rfl rfl rfl ?_))
  refine LM.val (ov_pickT rfl rfl) ?_
  refine LM.nil (QM.sub (e' := [(0, _), (8, _), (13, _), (66, _)]) au9 (QM.then ?_))
  refine wpM.condT rfl ?_
  refine wpM.seq (wpM.region ?_)
  refine LM.as rfl ?_
  refine LM.nil (QM.sub (e' := [(4, _)]) ⟨rfl, trivial⟩ (QM.then ?_))
  refine wpM.ret ?_
  refine QM.then_ret ?_
  refine QM.leave (.inl rfl) [.tmp 4] Tryd.results3 rfl ?_
  intro w' hm' hc' hg'
  exact absurd rfl h6
 refine LM.sp 62 rfl rfl rfl (LM.mv rfl (LM.sp 62 rfl rfl rfl (LM.mv rfl (LM.sp 62 rfl rfl rfl ?_))))
 refine LM.val (ov_neq rfl rfl) ?_
 refine LM.val (ov_pickF rfl rfl) ?_
 refine LM.nil (QM.sub (e' := [(0, _), (8, _), (13, _), (66, _)]) au9 (QM.then ?_))
 refine wpM.condD rfl (fun h7 => ?_) (fun h7 => ?_)
 ·
  refine wpM.seq (wpM.region ?_)
  refine LM.as rfl ?_
  refine LM.nil (QM.sub (e' := [(4, _)]) ⟨rfl, trivial⟩ (QM.then ?_))
  refine wpM.ret ?_
  refine QM.then_ret ?_
  refine QM.leave (.inl rfl) [.tmp 4] Tryd.results3 rfl ?_
  intro w' hm' hc' hg'
  exact absurd rfl h7
 refine wpM.skip ?_
 refine QM.then (wpM.seq (wpM.region ?_))
 refine LM.mv rfl ?_
 refine LM.callE (oc_call (enters_fn Tryd.func11 (by kernel_rfl) rfl) rfl) (fun w hm hc hg => eprint_spec w hn43 (hs43.srM (by intro _; rfl) hm) (by omega) (hT.ext hc)) ?_
 refine LM.mv rfl ?_
 refine LM.val (ov_extract rfl rfl) ?_
 refine LM.val (ov_extract rfl rfl) ?_
 refine LM.as rfl (LM.as rfl ?_)
 refine LM.nil (QM.sub (e' := [(0, _), (13, _), (14, _)]) au9 (QM.then (wpM.seq (wpM.region ?_))))
 refine LM.mv rfl ?_
 refine LM.val (ov_neq rfl rfl) ?_
 refine LM.mv rfl ?_
 refine LM.splitD (t := 74) rfl (fun h8 => ?_) (fun h8 => ?_)
 ·
  refine LM.dr 74 rfl rfl rfl (LM.dr 74 rfl rfl rfl (LM.dr 74 rfl rfl rfl ?_))
  refine LM.val (ov_pickT rfl rfl) ?_
  refine LM.as rfl ?_
  refine LM.nil (QM.sub (e' := [(4, _)]) ⟨rfl, trivial⟩ (QM.then ?_))
  refine wpM.ret ?_
  refine QM.leave (.inl rfl) [.tmp 4] Tryd.results3 rfl ?_
  intro w' hm' hc' hg'
  exact ⟨rfl, hc'⟩
 refine LM.sp 74 rfl rfl rfl (LM.mv rfl (LM.sp 74 rfl rfl rfl (LM.mv rfl (LM.sp 74 rfl rfl rfl ?_))))
 refine LM.val (ov_seqlL rfl rfl) ?_
 refine LM.val (ov_pickF rfl rfl) ?_
 refine LM.as rfl ?_
 refine LM.nil (QM.sub (e' := [(4, _)]) ⟨rfl, trivial⟩ (QM.then ?_))
 refine wpM.ret ?_
 refine QM.leave (.inl rfl) [.tmp 4] Tryd.results3 rfl ?_
 intro w' hm' hc' hg'
 refine ⟨?_, hc'⟩; show Value.bool (decide ((printEv (parO s).1).1 = s)) = _; rw [par_back (Classical.not_not.1 h8), decide_eq_true rfl]
end Go.Eng
namespace Go.Eng
open Go Go.Proofs Go.RowKit
abbrev evS (b : Nat) (ad : Option Addr) (n cap : Nat) : Nat × Obj := (b, .cells #[.slice ad n cap] 23 (0, 0))
abbrev evI (b : Nat) (i : Int) : Nat × Obj := (b, .cells #[.int .i64 i] 3 (0, 0))
def OfT (ad : Option Addr) (n cap : Nat) (task : Int) (n0 : Nat) (v : Value) (m : Mem0) : Prop := ∃ c2 c3, v = .func (.func 34) #[] #[.pointer (some ⟨c2, 0, none⟩), .pointer (some ⟨c3, 0, none⟩)] ∧ m = [evI c3 task, evS c2 ad n cap] ∧ n0 ≤ c2 ∧ n0 ≤ c3
theorem OfT.mono {ad : Option Addr} {n cap : Nat} {task : Int} : ∀ (k k' : Nat) u m, k' ≤ k → OfT ad n cap task k u m → OfT ad n cap task k' u m := fun k k' u m h ⟨b1, b2, h1, h2, h3, h4⟩ => ⟨b1, b2, h1, h2, by omega, by omega⟩
end Go.Eng
namespace Go.Eng
open Go Go.Proofs Go.RowKit Go.ChangeShapes Go.WideShapes
set_option maxRecDepth 100000 in
theorem maxI_of {W : World} (h : W.ShapedOpen Tryd.prog) : MaxI W :=
  cell_of_shapedOpen_int (zero := #[.int .i64 0]) (t := 3) h (of_decide_eq_true (by kernel_rfl)) (by kernel_rfl) (by kernel_rfl) (by kernel_rfl) (by kernel_rfl) Tryd.underlying3
end Go.Eng
