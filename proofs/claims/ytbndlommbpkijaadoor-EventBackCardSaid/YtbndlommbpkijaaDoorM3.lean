/- strings.Split at a blank, and the walk of one line of events. No condition. -/
import Derived.Test.YtbndlommbpkijaaDoorM2
import Derived.Lib.SplitLaws
import Derived.Test.YtbndlommbpkijaaDoorM1
import Derived.Shelf.Vars
set_option linter.unusedVariables false
set_option linter.unusedSimpArgs false
namespace Go.Eng
open Go Go.Proofs Go.RowKit
theorem splK_sp : ∀ (s : List UInt8), Lib.splitK [32] 0 (Lib.count s [32]) s = splW s
  | [] => by rw [Lib.count_one]; rfl
  | c :: l => by
    have ih := splK_sp l
    by_cases hc : c = 32
    · subst hc
      have hi : Lib.index (32 :: l) [32] = 0 := by rw [Lib.index]; simp [List.isPrefixOf]
      rw [Lib.count_cons_eq, Nat.add_comm, Lib.splitK, hi, if_neg (by decide), splW, if_pos rfl, ← ih]
      simp
    · rw [Lib.count_cons_ne c 32 l hc, splW, if_neg hc]
      have hp : ([32] : List UInt8).isPrefixOf (c :: l) = false := by simp [List.isPrefixOf, Ne.symm hc]
      have hix : Lib.index (c :: l) [32] = if Lib.index l [32] == -1 then -1 else Lib.index l [32] + 1 := by rw [Lib.index, hp]; simp
      cases hk : Lib.count l [32] with
      | zero =>
        rw [hk] at ih
        rw [← ih]; rfl
      | succ k =>
        rw [hk] at ih
        have hm : Lib.index l [32] ≠ -1 := fun q => by rw [Lib.count_miss q] at hk; cases hk
        have hge := Lib.index_ge l [32]
        obtain ⟨j, hj⟩ : ∃ j : Nat, Lib.index l [32] = j := ⟨(Lib.index l [32]).toNat, by omega⟩
        have hix' : Lib.index (c :: l) [32] = ((j + 1 : Nat) : Int) := by rw [hix, if_neg (fun e => hm (beq_iff_eq.1 e)), hj]; omega
        rw [Lib.splitK, hj, if_neg (by simp <;> omega)] at ih
        rw [Lib.splitK, hix', if_neg (by simp <;> omega), ← ih]
        simp
def MaxI (w : World) : Prop := ∃ m, w.cell? ⟨rn.g 1, 0, none⟩ = some (.int .i64 m)
theorem MaxI.ext {w w' : World} (h : MaxI w) (k : Ext w w') : MaxI w' := by
  obtain ⟨m, hm⟩ := h
  refine ⟨m, ?_⟩
  unfold World.cell? at hm ⊢
  cases ho : w.heap[(⟨rn.g 1, 0, none⟩ : Addr).block]? with
  | none => rw [ho] at hm; simp at hm
  | some o => rw [ho] at hm; rw [k.get ho]; exact hm
theorem split_ret (s : List UInt8) (hs : s.length < 4294967281) (w : World) (hX : MaxI w) : Ret Tryd.prog 92 #[vS s, vS [32]] w (New fB 9 1 (splW s) w) := by
  obtain ⟨m, hm⟩ := hX
  have hd := Lib.splitB_data (bs [32]) 0 (Lib.countB (bs s) (bs [32])) (bs s)
  have hk : Lib.splitK (bs [32]).data.toList 0 (Lib.countB (bs s) (bs [32])) (bs s).data.toList = splW s := splK_sp s
  rw [hk] at hd
  have hl : (splW s).length = Lib.countB (bs s) (bs [32]) + 1 := by
    rw [← hd, List.length_map]; exact Lib.splitB_all (bs [32]) (by decide) 0 _ _ rfl
  have hc : ((Lib.splitB (bs [32]) 0 (Lib.countB (bs s) (bs [32])) (bs s)).map Value.string).toArray = arr fB (splW s) [] := by
    rw [← hd]
    generalize Lib.splitB (bs [32]) 0 (Lib.countB (bs s) (bs [32])) (bs s) = L
    unfold arr
    rw [List.append_nil]
    congr 1
    induction L with
    | nil => rfl
    | cons a L ih => rw [List.map_cons, List.map_cons, List.flatMap_cons, ih]; rfl
  have hsz : Lib.countB (bs s) (bs [32]) ≤ s.length := by
    have := Lib.countB_le (bs [32]) (by decide) s.length (bs s) (by rw [bs_size]; exact Nat.le_refl _); rwa [bs_size] at this
  refine (Any.strings_Split l146 (by kernel_rfl) (bs s) (bs [32]) m w (by rw [bs_size]; exact hs) hm (by decide)).mono (fun e w' ⟨he, hw⟩ => ⟨_, he, ?_, ?_⟩)
  · subst hw; exact chg_alloc w _
  · subst hw
    rw [hc]
    refine ⟨[(w.heap.size, .cells (arr fB (splW s) []) 9 (0, 0))], .inr ⟨w.heap.size, _, [], Nat.le_refl _, by rw [← hl], rfl, Nat.le_of_eq hl, by unfold maxLen; omega, by rw [hl]; rfl⟩, ?_⟩
    exact (Mem.nil w).alloc _
theorem isEv_empty {s : List UInt8} (h : (splW s).getD 1 [] = []) : isEv s = false := by unfold isEv; rw [decide_eq_false (show ¬ (splW s).getD 1 [] ≠ [] from fun q => q h)]; simp
theorem isEv_may {s : List UInt8} (h : (splW s).length = 5) (h1 : (splW s).getD 1 [] ≠ []) (h3 : (splW s).getD 3 [] = [45] ∨ 0 ≤ numO ((splW s).getD 3 [])) (h0 : 0 ≤ numO ((splW s).getD 0 [])) : isEv s = mayEv (evOf (splW s)) := by
  unfold isEv
  rw [decide_eq_true h, decide_eq_true h1, decide_eq_true h0]
  rcases h3 with h3 | h3
  · rw [decide_eq_true h3]; simp
  · rw [decide_eq_true h3]; simp
theorem OneT.may {s : List UInt8} {n0 : Nat} (h : isEv s = mayEv (evOf (splW s))) : OneT s n0 (.tuple #[.agg (fE (evOf (splW s))).toArray, .bool (mayEv (evOf (splW s)))]) [] :=
  ⟨⟨_, by rw [h], fun q => rfl⟩, rfl⟩
set_option maxRecDepth 100000 in
set_option maxHeartbeats 2000000 in
theorem eone_spec (s : List UInt8) (w : World) (hs : s.length ≤ 1000000000) (hX : MaxI w) : Ret Tryd.prog 56 #[vS s] w (fun v w' => Ext w w' ∧ ∃ m, OneT s w.heap.size v m ∧ Mem w' m ∧ ∀ p ∈ m, w.heap.size ≤ p.1) := by
 refine Ret.enterM (l := [vS s]) Tryd.func56 rfl Tryd.ntmps56 rfl ([]) (no) (Mem.nil w) ?_
 refine wpM.seq (wpM.region ?_)
 refine LM.alloc Tryd.zeroValue39 rfl (fun b2 hb2 => ?_)
 refine LM.as rfl ?_
 refine LM.nil (QM.sub (e' := [(0, _), (2, _)]) au9 (QM.then (wpM.seq (wpM.region ?_))))
 refine LM.mv rfl ?_
 refine LM.cS (oc_call (enters_fn Tryd.func92 (by kernel_rfl) rfl) rfl) (fun w hm hc hg => split_ret s (by omega) w (hX.ext hc)) (fun ad9 n9 cap9 m9 hn9 hs9 => ?_)
 refine LM.as rfl ?_
 refine LM.nil (QM.sub (e' := [(2, _), (4, _)]) au9 (QM.then ?_))
 refine wpM.seq ?_
 refine wpM.seq (wpM.region ?_)
 refine LM.mv rfl ?_
 refine LM.val (ov_len Tryd.underlying99 rfl) ?_
 refine LM.val (ov_neq rfl rfl) ?_
 refine LM.mv rfl ?_
 refine LM.splitD (t := 13) rfl (fun h1 => ?_) (fun h1 => ?_)
 ·
  refine LM.dr 13 rfl rfl rfl (LM.dr 13 rfl rfl rfl (LM.dr 13 rfl rfl rfl (LM.dr 13 rfl rfl rfl ?_)))
  refine LM.val (ov_pickT rfl rfl) ?_
  refine LM.nil (QM.sub (e' := [(2, _), (4, _), (18, _)]) au9 (QM.then ?_))
  refine wpM.condT rfl ?_
  refine wpM.seq (wpM.region ?_)
  refine LM.val (ov_build (cs := #[_, _, _, _, _]) rfl (by first | rfl | kernel_rfl)) ?_
  refine LM.stW Tryd.sizeOf39 rfl rfl rfl rfl au7 au8 ?_
  refine LM.as rfl ?_
  refine LM.nil (QM.sub (e' := [(2, _), (3, _)]) au9 (QM.then ?_))
  refine wpM.ret ?_
  refine QM.then_ret ?_
  refine QM.leaveCs (ds := ([])) (.inl rfl) [.cell 2 39, .tmp 3] Tryd.results56 hd_nil (rc_w rfl Tryd.isAgg39 Tryd.sizeOf39 rfl (rc_tmp rfl rc_nil)) ?_
  intro w' hm' hc'
  exact ⟨hc', [], OneT.no (isEv_len (by omega)), Mem.nil _, fun p hp => by cases hp⟩
 have hln5 : (splW s).length = 5 := (by omega); have hw0 : ((splW s).getD 0 default).length ≤ s.length := spl_len s 0; have hw1 : ((splW s).getD 1 default).length ≤ s.length := spl_len s 1; have hw2 : ((splW s).getD 2 default).length ≤ s.length := spl_len s 2; have hw3 : ((splW s).getD 3 default).length ≤ s.length := spl_len s 3; have hw4 : ((splW s).getD 4 default).length ≤ s.length := spl_len s 4
 refine LM.sp 13 rfl rfl rfl (LM.mv rfl (LM.sp 13 rfl rfl rfl ?_))
 refine LM.val (ov_idxSN (i := 1) au6 Tryd.underlying99 Tryd.sizeOf9 rfl rfl (by omega)) ?_
 refine LM.sp 13 rfl rfl rfl ?_
 refine LM.rd (om_sl1 (by assumption) (by intro _; rfl) Tryd.isAgg9 rfl rfl au3 (by rfl)) ?_
 refine LM.sp 13 rfl rfl rfl ?_
 refine LM.val (ov_seqlL rfl rfl) ?_
 refine LM.val (ov_pickF rfl rfl) ?_
 refine LM.nil (QM.sub (e' := [(2, _), (4, _), (18, _)]) au9 (QM.then ?_))
 refine wpM.condD rfl (fun h2 => ?_) (fun h2 => ?_)
 ·
  refine wpM.seq (wpM.region ?_)
  refine LM.val (ov_build (cs := #[_, _, _, _, _]) rfl (by first | rfl | kernel_rfl)) ?_
  refine LM.stW Tryd.sizeOf39 rfl rfl rfl rfl au7 au8 ?_
  refine LM.as rfl ?_
  refine LM.nil (QM.sub (e' := [(2, _), (3, _)]) au9 (QM.then ?_))
  refine wpM.ret ?_
  refine QM.then_ret ?_
  refine QM.leaveCs (ds := ([])) (.inl rfl) [.cell 2 39, .tmp 3] Tryd.results56 hd_nil (rc_w rfl Tryd.isAgg39 Tryd.sizeOf39 rfl (rc_tmp rfl rc_nil)) ?_
  intro w' hm' hc'
  exact ⟨hc', [], OneT.no (isEv_empty h2), Mem.nil _, fun p hp => by cases hp⟩
 refine wpM.skip ?_
 refine QM.then ?_
 refine wpM.seq ?_
 refine wpM.draw [(0, 0), (1, 0), (2, 1), (4, 0), (5, 0), (6, 1), (3, 2), (7, 2), (8, 0), (9, 0)] (by kernel_rfl) (by kernel_rfl) ?_
 refine LD.val rfl rfl (ov_move rfl) ?_
 refine LD.val rfl rfl (ov_idxSN (i := 0) au6 Tryd.underlying99 Tryd.sizeOf9 rfl rfl (by omega)) ?_
 refine LD.rd rfl rfl (om_sl1 (by assumption) (by intro _; rfl) Tryd.isAgg9 rfl rfl au3 (by rfl)) ?_
 refine LD.val rfl rfl (ov_move rfl) ?_
 refine LD.val rfl rfl (ov_idxSN (i := 3) au6 Tryd.underlying99 Tryd.sizeOf9 rfl rfl (by omega)) ?_
 refine LD.rd rfl rfl (om_sl1 (by assumption) (by intro _; rfl) Tryd.isAgg9 rfl rfl au3 (by rfl)) ?_
 refine LD.callE rfl rfl (oc_call (enters_fn Tryd.func93 (by kernel_rfl) rfl) rfl) (fun w hm hc hg => enum_spec _ w (by omega)) ?_
 refine LD.callE rfl rfl (oc_call (enters_fn Tryd.func93 (by kernel_rfl) rfl) rfl) (fun w hm hc hg => enum_spec _ w (by omega)) ?_
 refine LD.val rfl rfl (ov_assign rfl) ?_
 refine LD.val rfl rfl (ov_assign rfl) ?_
 refine LD.nil ?_
 refine QM.sub (e' := [(2, _), (4, _), (5, _), (6, _)]) au9 (QM.then ?_)
 refine wpM.seq ?_
 refine wpM.joinK (α := Int) (fun lk => [(6, .int .i64 lk)]) [(2, _), (4, _), (5, _)] (fun lk => (b2, .cells #[U 0#64, .int .i64 0, .int .i64 0, .int .i64 0, .int .i64 0] 39 (0, 0)) :: (m9 ++ [])) (fun lk => lk = lockN ((splW s).getD 3 default) ∧ (((splW s).getD 3 default) = [45] ∨ 0 ≤ numO ((splW s).getD 3 default))) ⟨rfl, rfl, rfl, trivial⟩ ?_ ?_
 ·
  refine wpM.block ?_
  refine wpM.seq (wpM.region ?_)
  refine LM.mv rfl ?_
  refine LM.val (ov_idxSN (i := 3) au6 Tryd.underlying99 Tryd.sizeOf9 rfl rfl (by omega)) ?_
  refine LM.rd (om_sl1 (by assumption) (by intro _; rfl) Tryd.isAgg9 rfl rfl au3 (by rfl)) ?_
  refine LM.val (ov_seqlL rfl rfl) ?_
  refine LM.as rfl ?_
  refine LM.nil (QM.sub (e' := [(2, _), (4, _), (5, _), (6, _), (28, _)]) au9 (QM.then ?_))
  refine wpM.condD rfl (fun h3 => ?_) (fun h3 => ?_)
  ·
   refine wpM.region ?_
   refine LM.as rfl ?_
   refine LM.nil (QM.sub (e' := [(2, _), (4, _), (5, _), (6, _)]) au9 ?_)
   refine QM.block_normal ?_
   refine QM.meetK (_) ⟨au2, rfl, rfl, rfl, trivial⟩ au1 ?_
   · exact ⟨by unfold lockN; rw [if_pos h3], .inl h3⟩
  refine wpM.seq (wpM.region ?_)
  refine LM.mv rfl ?_
  refine LM.val (ov_lss rfl rfl) ?_
  refine LM.as rfl ?_
  refine LM.nil (QM.sub (e' := [(2, _), (4, _), (5, _), (6, _), (33, _)]) au9 (QM.then ?_))
  refine wpM.condD rfl (fun h4 => ?_) (fun h4 => ?_)
  ·
   refine wpM.seq (wpM.region ?_)
   refine LM.val (ov_build (cs := #[_, _, _, _, _]) rfl (by first | rfl | kernel_rfl)) ?_
   refine LM.stW Tryd.sizeOf39 rfl rfl rfl rfl au7 au8 ?_
   refine LM.as rfl ?_
   refine LM.nil (QM.sub (e' := [(2, _), (3, _)]) au9 (QM.then ?_))
   refine wpM.ret ?_
   refine QM.block_ret ?_
   refine QM.join_ret ?_
   refine QM.then_ret ?_
   refine QM.leaveCs (ds := ([])) (.inl rfl) [.cell 2 39, .tmp 3] Tryd.results56 hd_nil (rc_w rfl Tryd.isAgg39 Tryd.sizeOf39 rfl (rc_tmp rfl rc_nil)) ?_
   intro w' hm' hc'
   exact ⟨hc', [], OneT.no (isEv_lock h3 h4), Mem.nil _, fun p hp => by cases hp⟩
  refine wpM.skip ?_
  refine QM.block_normal ?_
  refine QM.meetK (_) ⟨au2, rfl, rfl, rfl, trivial⟩ au1 ?_
  · exact ⟨by unfold lockN; rw [if_neg h3], .inr (by omega)⟩
 rintro lk ⟨hlk, hl3⟩
 change QM _ _ _ _ _ ((b2, .cells #[U 0#64, .int .i64 0, .int .i64 0, .int .i64 0, .int .i64 0] 39 (0, 0)) :: (m9 ++ [])) _ _ _
 refine QM.then ?_
 refine wpM.seq ?_
 refine wpM.seq (wpM.region ?_)
 refine LM.mv rfl ?_
 refine LM.val (ov_lss rfl rfl) ?_
 refine LM.nil (QM.sub (e' := [(2, _), (4, _), (5, _), (6, _), (38, _)]) au9 (QM.then ?_))
 refine wpM.condD rfl (fun h5 => ?_) (fun h5 => ?_)
 ·
  refine wpM.seq (wpM.region ?_)
  refine LM.val (ov_build (cs := #[_, _, _, _, _]) rfl (by first | rfl | kernel_rfl)) ?_
  refine LM.stW Tryd.sizeOf39 rfl rfl rfl rfl au7 au8 ?_
  refine LM.as rfl ?_
  refine LM.nil (QM.sub (e' := [(2, _), (3, _)]) au9 (QM.then ?_))
  refine wpM.ret ?_
  refine QM.then_ret ?_
  refine QM.leaveCs (ds := ([])) (.inl rfl) [.cell 2 39, .tmp 3] Tryd.results56 hd_nil (rc_w rfl Tryd.isAgg39 Tryd.sizeOf39 rfl (rc_tmp rfl rc_nil)) ?_
  intro w' hm' hc'
  exact ⟨hc', [], OneT.no (isEv_num (.inl h5)), Mem.nil _, fun p hp => by cases hp⟩
 refine wpM.skip ?_
 refine QM.then ?_
 refine wpM.seq ?_
 refine wpM.keep (m9 ++ []) (fun _ => True) (.one 0 0 (.one 1 0 (.one 3 0 (.one 4 0 (.one 5 1 (.one 7 0 (.one 8 0 (.one 9 1 (.one 11 0 (.one 12 0 (.one 13 0 (.one 14 1 (.fork 2 (.fork 6 (.fork 10 (.fork 15 (.one 16 0 (.one 17 2 (.one 18 2 .nil))) 17 (.one 15 2 (.one 16 0 (.one 18 2 .nil)))) 17 (.one 10 2 (.one 15 2 (.one 16 0 (.one 18 2 .nil))))) 17 (.one 6 2 (.one 10 2 (.one 15 2 (.one 16 0 (.one 18 2 .nil)))))) 17 (.one 2 2 (.one 6 2 (.one 10 2 (.one 15 2 (.one 16 0 (.one 18 2 .nil))))))))))))))))))) (by kernel_rfl) (by kernel_rfl) au1 (fun _ _ => trivial) ?_
 refine KD.val rfl rfl (ov_move rfl) ?_
 refine KD.val rfl rfl (ov_toU Tryd.underlying3 Tryd.underlying37 rfl) ?_
 refine KD.val rfl rfl (ov_move rfl) ?_
 refine KD.val rfl rfl (ov_idxSN (i := 1) au6 Tryd.underlying99 Tryd.sizeOf9 rfl rfl (by omega)) ?_
 refine KD.rd rfl rfl (om_sl1 (by assumption) (by intro _; rfl) Tryd.isAgg9 rfl rfl au3 (by rfl)) ?_
 refine KD.val rfl rfl (ov_move rfl) ?_
 refine KD.val rfl rfl (ov_idxSN (i := 2) au6 Tryd.underlying99 Tryd.sizeOf9 rfl rfl (by omega)) ?_
 refine KD.rd rfl rfl (om_sl1 (by assumption) (by intro _; rfl) Tryd.isAgg9 rfl rfl au3 (by rfl)) ?_
 refine KD.val rfl rfl (ov_move rfl) ?_
 refine KD.val rfl rfl (ov_move rfl) ?_
 refine KD.val rfl rfl (ov_idxSN (i := 4) au6 Tryd.underlying99 Tryd.sizeOf9 rfl rfl (by omega)) ?_
 refine KD.rd rfl rfl (om_sl1 (by assumption) (by intro _; rfl) Tryd.isAgg9 rfl rfl au3 (by rfl)) ?_
 refine KD.fork rfl rfl ?_ ?_
 ·
  refine LM.cS (oc_call (enters_fn Tryd.func54 (by kernel_rfl) rfl) rfl) (fun w hm hc hg => enames_spec w) (fun ad42 n42 cap42 m42 hn42 hs42 => ?_)
  refine LM.nil ?_
  refine QM.one au1 (fun _ _ => trivial) ?_
  refine KD.fork rfl rfl ?_ ?_
  ·
   refine LM.callE (oc_call (enters_fn Tryd.func94 (by kernel_rfl) rfl) rfl) (fun w hm hc hg => index_str ((splW s).getD 1 default) w hn42 (hs42.srM (by intro _; rfl) hm) (by decide)) ?_
   refine LM.nil ?_
   refine QM.one au1 (fun _ _ => trivial) ?_
   refine KD.fork rfl rfl ?_ ?_
   ·
    refine LM.callE (oc_call (enters_fn Tryd.func93 (by kernel_rfl) rfl) rfl) (fun w hm hc hg => enum_spec _ w (by omega)) ?_
    refine LM.nil ?_
    refine QM.one au1 (fun _ _ => trivial) ?_
    refine KD.fork rfl rfl ?_ ?_
    ·
     refine LM.callE (oc_call (enters_fn Tryd.func93 (by kernel_rfl) rfl) rfl) (fun w hm hc hg => enum_spec _ w (by omega)) ?_
     refine LM.nil ?_
     refine QM.one au1 (fun _ _ => trivial) ?_
     refine KD.val rfl rfl (ov_build (cs := #[U (BitVec.ofInt 64 (numO ((splW s).getD 0 default))), .int .i64 (kindEv ((splW s).getD 1 default)), .int .i64 (numO ((splW s).getD 2 default)), .int .i64 lk, .int .i64 (numO ((splW s).getD 4 default))]) rfl (by kernel_rfl)) ?_
     refine KD.one rfl ?_
     refine LM.alloc Tryd.zeroValue39 rfl (fun b7 hb7 => ?_)
     refine LM.nil ?_
     refine QM.one au1 (fun _ _ => trivial) ?_
     refine KD.one rfl ?_
     refine LM.stW Tryd.sizeOf39 rfl rfl rfl rfl au7 au8 ?_
     refine LM.nil ?_
     refine QM.one au1 (fun _ _ => trivial) ?_
     refine KD.nil ?_
     refine QM.sub (e' := [(2, _), (7, _)]) au9 (QM.then ?_)
     refine wpM.seq ?_
     refine wpM.keep ((b7, _) :: []) (fun _ => True) (.one 0 1 (.one 1 1 (.one 2 2 (.one 3 2 (.one 4 0 .nil))))) (by kernel_rfl) (by kernel_rfl) au1 (fun _ _ => trivial) ?_
     refine KD.rd rfl rfl (om_ldW Tryd.isAgg39 Tryd.sizeOf39 rfl rfl) ?_
     refine KD.rd rfl rfl (om_ldW Tryd.isAgg39 Tryd.sizeOf39 rfl rfl) ?_
     refine KD.one rfl ?_
     refine LM.callE (oc_call (enters_fn Tryd.func19 (by kernel_rfl) rfl) rfl) (fun w hm hc hg => emay_spec (⟨BitVec.ofInt 64 (numO ((splW s).getD 0 default)), kindEv ((splW s).getD 1 default), numO ((splW s).getD 2 default), lk, numO ((splW s).getD 4 default)⟩ : Evt) w) ?_
     refine LM.nil ?_
     refine QM.one au1 (fun _ _ => trivial) ?_
     refine KD.one rfl ?_
     refine LM.stW Tryd.sizeOf39 rfl rfl rfl rfl au7 au8 ?_
     refine LM.nil ?_
     refine QM.one au1 (fun _ _ => trivial) ?_
     refine KD.val rfl rfl (ov_assign rfl) ?_
     refine KD.nil ?_
     refine QM.sub (e' := [(2, _), (3, _)]) au9 (QM.then ?_)
     refine wpM.ret ?_
     refine QM.leaveCs (ds := ([])) (.inl rfl) [.cell 2 39, .tmp 3] Tryd.results56 hd_nil (rc_w rfl Tryd.isAgg39 Tryd.sizeOf39 rfl (rc_tmp rfl rc_nil)) ?_
     intro w' hm' hc'
     have he : evOf (splW s) = (⟨BitVec.ofInt 64 (numO ((splW s).getD 0 default)), kindEv ((splW s).getD 1 default), numO ((splW s).getD 2 default), lk, numO ((splW s).getD 4 default)⟩ : Evt) := (by unfold evOf; rw [hlk]; rfl); have hO := OneT.may (n0 := w.heap.size) (s := s) (isEv_may hln5 h2 hl3 (Int.not_lt.1 h5)); rw [he] at hO; exact ⟨hc', [], hO, Mem.nil _, fun p hp => by cases hp⟩
    refine LM.alloc Tryd.zeroValue39 rfl (fun b7 hb7 => ?_)
    refine LM.nil ?_
    refine QM.one au1 (fun _ _ => trivial) ?_
    refine KD.one rfl ?_
    refine LM.callE (oc_call (enters_fn Tryd.func93 (by kernel_rfl) rfl) rfl) (fun w hm hc hg => enum_spec _ w (by omega)) ?_
    refine LM.nil ?_
    refine QM.one au1 (fun _ _ => trivial) ?_
    refine KD.val rfl rfl (ov_build (cs := #[U (BitVec.ofInt 64 (numO ((splW s).getD 0 default))), .int .i64 (kindEv ((splW s).getD 1 default)), .int .i64 (numO ((splW s).getD 2 default)), .int .i64 lk, .int .i64 (numO ((splW s).getD 4 default))]) rfl (by kernel_rfl)) ?_
    refine KD.one rfl ?_
    refine LM.stW Tryd.sizeOf39 rfl rfl rfl rfl au7 au8 ?_
    refine LM.nil ?_
    refine QM.one au1 (fun _ _ => trivial) ?_
    refine KD.nil ?_
    refine QM.sub (e' := [(2, _), (7, _)]) au9 (QM.then ?_)
    refine wpM.seq ?_
    refine wpM.keep ((b7, _) :: []) (fun _ => True) (.one 0 1 (.one 1 1 (.one 2 2 (.one 3 2 (.one 4 0 .nil))))) (by kernel_rfl) (by kernel_rfl) au1 (fun _ _ => trivial) ?_
    refine KD.rd rfl rfl (om_ldW Tryd.isAgg39 Tryd.sizeOf39 rfl rfl) ?_
    refine KD.rd rfl rfl (om_ldW Tryd.isAgg39 Tryd.sizeOf39 rfl rfl) ?_
    refine KD.one rfl ?_
    refine LM.callE (oc_call (enters_fn Tryd.func19 (by kernel_rfl) rfl) rfl) (fun w hm hc hg => emay_spec (⟨BitVec.ofInt 64 (numO ((splW s).getD 0 default)), kindEv ((splW s).getD 1 default), numO ((splW s).getD 2 default), lk, numO ((splW s).getD 4 default)⟩ : Evt) w) ?_
    refine LM.nil ?_
    refine QM.one au1 (fun _ _ => trivial) ?_
    refine KD.one rfl ?_
    refine LM.stW Tryd.sizeOf39 rfl rfl rfl rfl au7 au8 ?_
    refine LM.nil ?_
    refine QM.one au1 (fun _ _ => trivial) ?_
    refine KD.val rfl rfl (ov_assign rfl) ?_
    refine KD.nil ?_
    refine QM.sub (e' := [(2, _), (3, _)]) au9 (QM.then ?_)
    refine wpM.ret ?_
    refine QM.leaveCs (ds := ([])) (.inl rfl) [.cell 2 39, .tmp 3] Tryd.results56 hd_nil (rc_w rfl Tryd.isAgg39 Tryd.sizeOf39 rfl (rc_tmp rfl rc_nil)) ?_
    intro w' hm' hc'
    have he : evOf (splW s) = (⟨BitVec.ofInt 64 (numO ((splW s).getD 0 default)), kindEv ((splW s).getD 1 default), numO ((splW s).getD 2 default), lk, numO ((splW s).getD 4 default)⟩ : Evt) := (by unfold evOf; rw [hlk]; rfl); have hO := OneT.may (n0 := w.heap.size) (s := s) (isEv_may hln5 h2 hl3 (Int.not_lt.1 h5)); rw [he] at hO; exact ⟨hc', [], hO, Mem.nil _, fun p hp => by cases hp⟩
   refine LM.alloc Tryd.zeroValue39 rfl (fun b7 hb7 => ?_)
   refine LM.nil ?_
   refine QM.one au1 (fun _ _ => trivial) ?_
   refine KD.one rfl ?_
   refine LM.callE (oc_call (enters_fn Tryd.func93 (by kernel_rfl) rfl) rfl) (fun w hm hc hg => enum_spec _ w (by omega)) ?_
   refine LM.nil ?_
   refine QM.one au1 (fun _ _ => trivial) ?_
   refine KD.one rfl ?_
   refine LM.callE (oc_call (enters_fn Tryd.func93 (by kernel_rfl) rfl) rfl) (fun w hm hc hg => enum_spec _ w (by omega)) ?_
   refine LM.nil ?_
   refine QM.one au1 (fun _ _ => trivial) ?_
   refine KD.val rfl rfl (ov_build (cs := #[U (BitVec.ofInt 64 (numO ((splW s).getD 0 default))), .int .i64 (kindEv ((splW s).getD 1 default)), .int .i64 (numO ((splW s).getD 2 default)), .int .i64 lk, .int .i64 (numO ((splW s).getD 4 default))]) rfl (by kernel_rfl)) ?_
   refine KD.one rfl ?_
   refine LM.stW Tryd.sizeOf39 rfl rfl rfl rfl au7 au8 ?_
   refine LM.nil ?_
   refine QM.one au1 (fun _ _ => trivial) ?_
   refine KD.nil ?_
   refine QM.sub (e' := [(2, _), (7, _)]) au9 (QM.then ?_)
   refine wpM.seq ?_
   refine wpM.keep ((b7, _) :: []) (fun _ => True) (.one 0 1 (.one 1 1 (.one 2 2 (.one 3 2 (.one 4 0 .nil))))) (by kernel_rfl) (by kernel_rfl) au1 (fun _ _ => trivial) ?_
   refine KD.rd rfl rfl (om_ldW Tryd.isAgg39 Tryd.sizeOf39 rfl rfl) ?_
   refine KD.rd rfl rfl (om_ldW Tryd.isAgg39 Tryd.sizeOf39 rfl rfl) ?_
   refine KD.one rfl ?_
   refine LM.callE (oc_call (enters_fn Tryd.func19 (by kernel_rfl) rfl) rfl) (fun w hm hc hg => emay_spec (⟨BitVec.ofInt 64 (numO ((splW s).getD 0 default)), kindEv ((splW s).getD 1 default), numO ((splW s).getD 2 default), lk, numO ((splW s).getD 4 default)⟩ : Evt) w) ?_
   refine LM.nil ?_
   refine QM.one au1 (fun _ _ => trivial) ?_
   refine KD.one rfl ?_
   refine LM.stW Tryd.sizeOf39 rfl rfl rfl rfl au7 au8 ?_
   refine LM.nil ?_
   refine QM.one au1 (fun _ _ => trivial) ?_
   refine KD.val rfl rfl (ov_assign rfl) ?_
   refine KD.nil ?_
   refine QM.sub (e' := [(2, _), (3, _)]) au9 (QM.then ?_)
   refine wpM.ret ?_
   refine QM.leaveCs (ds := ([])) (.inl rfl) [.cell 2 39, .tmp 3] Tryd.results56 hd_nil (rc_w rfl Tryd.isAgg39 Tryd.sizeOf39 rfl (rc_tmp rfl rc_nil)) ?_
   intro w' hm' hc'
   have he : evOf (splW s) = (⟨BitVec.ofInt 64 (numO ((splW s).getD 0 default)), kindEv ((splW s).getD 1 default), numO ((splW s).getD 2 default), lk, numO ((splW s).getD 4 default)⟩ : Evt) := (by unfold evOf; rw [hlk]; rfl); have hO := OneT.may (n0 := w.heap.size) (s := s) (isEv_may hln5 h2 hl3 (Int.not_lt.1 h5)); rw [he] at hO; exact ⟨hc', [], hO, Mem.nil _, fun p hp => by cases hp⟩
  refine LM.alloc Tryd.zeroValue39 rfl (fun b7 hb7 => ?_)
  refine LM.nil ?_
  refine QM.one au1 (fun _ _ => trivial) ?_
  refine KD.one rfl ?_
  refine LM.callE (oc_call (enters_fn Tryd.func94 (by kernel_rfl) rfl) rfl) (fun w hm hc hg => index_str ((splW s).getD 1 default) w hn42 (hs42.srM (by intro _; rfl) hm) (by decide)) ?_
  refine LM.nil ?_
  refine QM.one au1 (fun _ _ => trivial) ?_
  refine KD.one rfl ?_
  refine LM.callE (oc_call (enters_fn Tryd.func93 (by kernel_rfl) rfl) rfl) (fun w hm hc hg => enum_spec _ w (by omega)) ?_
  refine LM.nil ?_
  refine QM.one au1 (fun _ _ => trivial) ?_
  refine KD.one rfl ?_
  refine LM.callE (oc_call (enters_fn Tryd.func93 (by kernel_rfl) rfl) rfl) (fun w hm hc hg => enum_spec _ w (by omega)) ?_
  refine LM.nil ?_
  refine QM.one au1 (fun _ _ => trivial) ?_
  refine KD.val rfl rfl (ov_build (cs := #[U (BitVec.ofInt 64 (numO ((splW s).getD 0 default))), .int .i64 (kindEv ((splW s).getD 1 default)), .int .i64 (numO ((splW s).getD 2 default)), .int .i64 lk, .int .i64 (numO ((splW s).getD 4 default))]) rfl (by kernel_rfl)) ?_
  refine KD.one rfl ?_
  refine LM.stW Tryd.sizeOf39 rfl rfl rfl rfl au7 au8 ?_
  refine LM.nil ?_
  refine QM.one au1 (fun _ _ => trivial) ?_
  refine KD.nil ?_
  refine QM.sub (e' := [(2, _), (7, _)]) au9 (QM.then ?_)
  refine wpM.seq ?_
  refine wpM.keep ((b7, _) :: []) (fun _ => True) (.one 0 1 (.one 1 1 (.one 2 2 (.one 3 2 (.one 4 0 .nil))))) (by kernel_rfl) (by kernel_rfl) au1 (fun _ _ => trivial) ?_
  refine KD.rd rfl rfl (om_ldW Tryd.isAgg39 Tryd.sizeOf39 rfl rfl) ?_
  refine KD.rd rfl rfl (om_ldW Tryd.isAgg39 Tryd.sizeOf39 rfl rfl) ?_
  refine KD.one rfl ?_
  refine LM.callE (oc_call (enters_fn Tryd.func19 (by kernel_rfl) rfl) rfl) (fun w hm hc hg => emay_spec (⟨BitVec.ofInt 64 (numO ((splW s).getD 0 default)), kindEv ((splW s).getD 1 default), numO ((splW s).getD 2 default), lk, numO ((splW s).getD 4 default)⟩ : Evt) w) ?_
  refine LM.nil ?_
  refine QM.one au1 (fun _ _ => trivial) ?_
  refine KD.one rfl ?_
  refine LM.stW Tryd.sizeOf39 rfl rfl rfl rfl au7 au8 ?_
  refine LM.nil ?_
  refine QM.one au1 (fun _ _ => trivial) ?_
  refine KD.val rfl rfl (ov_assign rfl) ?_
  refine KD.nil ?_
  refine QM.sub (e' := [(2, _), (3, _)]) au9 (QM.then ?_)
  refine wpM.ret ?_
  refine QM.leaveCs (ds := ([])) (.inl rfl) [.cell 2 39, .tmp 3] Tryd.results56 hd_nil (rc_w rfl Tryd.isAgg39 Tryd.sizeOf39 rfl (rc_tmp rfl rc_nil)) ?_
  intro w' hm' hc'
  have he : evOf (splW s) = (⟨BitVec.ofInt 64 (numO ((splW s).getD 0 default)), kindEv ((splW s).getD 1 default), numO ((splW s).getD 2 default), lk, numO ((splW s).getD 4 default)⟩ : Evt) := (by unfold evOf; rw [hlk]; rfl); have hO := OneT.may (n0 := w.heap.size) (s := s) (isEv_may hln5 h2 hl3 (Int.not_lt.1 h5)); rw [he] at hO; exact ⟨hc', [], hO, Mem.nil _, fun p hp => by cases hp⟩
 refine LM.alloc Tryd.zeroValue39 rfl (fun b7 hb7 => ?_)
 refine LM.nil ?_
 refine QM.one au1 (fun _ _ => trivial) ?_
 refine KD.one rfl ?_
 refine LM.cS (oc_call (enters_fn Tryd.func54 (by kernel_rfl) rfl) rfl) (fun w hm hc hg => enames_spec w) (fun ad42 n42 cap42 m42 hn42 hs42 => ?_)
 refine LM.nil ?_
 refine QM.one au1 (fun _ _ => trivial) ?_
 refine KD.one rfl ?_
 refine LM.callE (oc_call (enters_fn Tryd.func94 (by kernel_rfl) rfl) rfl) (fun w hm hc hg => index_str ((splW s).getD 1 default) w hn42 (hs42.srM (by intro _; rfl) hm) (by decide)) ?_
 refine LM.nil ?_
 refine QM.one au1 (fun _ _ => trivial) ?_
 refine KD.one rfl ?_
 refine LM.callE (oc_call (enters_fn Tryd.func93 (by kernel_rfl) rfl) rfl) (fun w hm hc hg => enum_spec _ w (by omega)) ?_
 refine LM.nil ?_
 refine QM.one au1 (fun _ _ => trivial) ?_
 refine KD.one rfl ?_
 refine LM.callE (oc_call (enters_fn Tryd.func93 (by kernel_rfl) rfl) rfl) (fun w hm hc hg => enum_spec _ w (by omega)) ?_
 refine LM.nil ?_
 refine QM.one au1 (fun _ _ => trivial) ?_
 refine KD.val rfl rfl (ov_build (cs := #[U (BitVec.ofInt 64 (numO ((splW s).getD 0 default))), .int .i64 (kindEv ((splW s).getD 1 default)), .int .i64 (numO ((splW s).getD 2 default)), .int .i64 lk, .int .i64 (numO ((splW s).getD 4 default))]) rfl (by kernel_rfl)) ?_
 refine KD.one rfl ?_
 refine LM.stW Tryd.sizeOf39 rfl rfl rfl rfl au7 au8 ?_
 refine LM.nil ?_
 refine QM.one au1 (fun _ _ => trivial) ?_
 refine KD.nil ?_
 refine QM.sub (e' := [(2, _), (7, _)]) au9 (QM.then ?_)
 refine wpM.seq ?_
 refine wpM.keep ((b7, _) :: []) (fun _ => True) (.one 0 1 (.one 1 1 (.one 2 2 (.one 3 2 (.one 4 0 .nil))))) (by kernel_rfl) (by kernel_rfl) au1 (fun _ _ => trivial) ?_
 refine KD.rd rfl rfl (om_ldW Tryd.isAgg39 Tryd.sizeOf39 rfl rfl) ?_
 refine KD.rd rfl rfl (om_ldW Tryd.isAgg39 Tryd.sizeOf39 rfl rfl) ?_
 refine KD.one rfl ?_
 refine LM.callE (oc_call (enters_fn Tryd.func19 (by kernel_rfl) rfl) rfl) (fun w hm hc hg => emay_spec (⟨BitVec.ofInt 64 (numO ((splW s).getD 0 default)), kindEv ((splW s).getD 1 default), numO ((splW s).getD 2 default), lk, numO ((splW s).getD 4 default)⟩ : Evt) w) ?_
 refine LM.nil ?_
 refine QM.one au1 (fun _ _ => trivial) ?_
 refine KD.one rfl ?_
 refine LM.stW Tryd.sizeOf39 rfl rfl rfl rfl au7 au8 ?_
 refine LM.nil ?_
 refine QM.one au1 (fun _ _ => trivial) ?_
 refine KD.val rfl rfl (ov_assign rfl) ?_
 refine KD.nil ?_
 refine QM.sub (e' := [(2, _), (3, _)]) au9 (QM.then ?_)
 refine wpM.ret ?_
 refine QM.leaveCs (ds := ([])) (.inl rfl) [.cell 2 39, .tmp 3] Tryd.results56 hd_nil (rc_w rfl Tryd.isAgg39 Tryd.sizeOf39 rfl (rc_tmp rfl rc_nil)) ?_
 intro w' hm' hc'
 have he : evOf (splW s) = (⟨BitVec.ofInt 64 (numO ((splW s).getD 0 default)), kindEv ((splW s).getD 1 default), numO ((splW s).getD 2 default), lk, numO ((splW s).getD 4 default)⟩ : Evt) := (by unfold evOf; rw [hlk]; rfl); have hO := OneT.may (n0 := w.heap.size) (s := s) (isEv_may hln5 h2 hl3 (Int.not_lt.1 h5)); rw [he] at hO; exact ⟨hc', [], hO, Mem.nil _, fun p hp => by cases hp⟩
theorem idx_nlE : ∀ (l : List UInt8), Lib.indexByte l 10 = if (l.takeWhile notNlB).length < l.length then (((l.takeWhile notNlB).length : Nat) : Int) else -1
  | [] => rfl
  | c :: l => by
    have ih := idx_nlE l
    by_cases hc : c = 10
    · subst hc
      have h1 : ((10 : UInt8) :: l).takeWhile notNlB = [] := by rw [List.takeWhile_cons, if_neg (by decide)]
      rw [Lib.indexByte, h1]; simp
    · have h1 : (c :: l).takeWhile notNlB = c :: l.takeWhile notNlB := by rw [List.takeWhile_cons, if_pos (by unfold notNlB; simpa using hc)]
      rw [Lib.indexByte, if_neg (by simpa using hc), h1, ih, List.length_cons, List.length_cons]
      by_cases hq : (l.takeWhile notNlB).length < l.length
      · rw [if_pos hq, if_neg (show ¬ ((((l.takeWhile notNlB).length : Nat) : Int) == -1) = true by rw [beq_iff_eq]; omega), if_pos (by omega)]; omega
      · rw [if_neg hq, if_pos (by rfl), if_neg (by omega)]
theorem idx_end {s : List UInt8} {i : Nat} (hi : i ≤ s.length) : (Lib.indexByte (s.drop i) 10 < 0 → s.length ≤ i + endL s i) ∧ (¬ Lib.indexByte (s.drop i) 10 < 0 → Lib.indexByte (s.drop i) 10 = ((endL s i : Nat) : Int) ∧ i + endL s i < s.length) := by
  have h := idx_nlE (s.drop i)
  rw [List.length_drop] at h
  have he : endL s i = ((s.drop i).takeWhile notNlB).length := rfl
  rw [← he] at h
  rw [h]
  split <;> constructor <;> intro q <;> omega
set_option maxRecDepth 100000 in
set_option maxHeartbeats 2000000 in
theorem eparse_spec (s : List UInt8) (w : World) (hX : MaxI w) : Ret Tryd.prog 24 #[vS s] w (fun v w' => Ext w w' ∧ ∃ m, EvT (parO s) w.heap.size v m ∧ Mem w' m ∧ ∀ p ∈ m, w.heap.size ≤ p.1) := by
 refine Ret.enterM (l := [vS s]) Tryd.func24 rfl Tryd.ntmps24 rfl ([]) (no) (Mem.nil w) ?_
 refine wpM.seq (wpM.region ?_)
 refine LM.as rfl (LM.as rfl (LM.as rfl ?_))
 refine LM.nil (QM.sub (e' := [(0, _)]) ⟨rfl, trivial⟩ (QM.then ?_))
 refine wpM.seq ?_
 refine wpM.seq (wpM.region ?_)
 refine LM.mv rfl ?_
 refine LM.val (ov_slenL Tryd.underlying9 rfl) ?_
 refine LM.val (ov_gtr rfl rfl) ?_
 refine LM.nil (QM.sub (e' := [(0, _), (12, _)]) au9 (QM.then ?_))
 refine wpM.condD rfl (fun h1 => ?_) (fun h1 => ?_)
 ·
  refine wpM.seq (wpM.region ?_)
  refine LM.as rfl (LM.as rfl (LM.as rfl ?_))
  refine LM.nil (QM.sub (e' := [(2, _), (3, _), (4, _)]) au9 (QM.then ?_))
  refine wpM.ret ?_
  refine QM.then_ret ?_
  refine QM.leave (.inl rfl) [.tmp 2, .tmp 3, .tmp 4] Tryd.results24 rfl ?_
  intro w' hm' hc' hg'
  exact ⟨hc', [], EvT.no (parO_big h1), Mem.nil _, fun p hp => by cases hp⟩
 refine wpM.skip ?_
 refine QM.then (wpM.seq (wpM.region ?_))
 refine LM.as rfl ?_
 refine LM.nil (QM.sub (e' := [(0, _), (5, _)]) au9 (QM.then ?_))
 refine wpM.seq ?_
 refine wpM.seq (wpM.region ?_)
 refine LM.as rfl ?_
 refine LM.nil (QM.sub (e' := [(0, _), (5, _), (6, _)]) au9 (QM.then ?_))
 refine wpM.block ?_
 refine wpM.loopK0 (α := Nat × List Evt × Option Addr × Nat × Nat × Mem0) (fun ⟨i, out, ad5, n5, cap5, m5⟩ => [(5, .slice ad5 n5 cap5), (6, .int .i64 (i : Nat))]) [(0, _)] (fun ⟨i, out, ad5, n5, cap5, m5⟩ => m5 ++ []) (fun ⟨i, out, ad5, n5, cap5, m5⟩ => i ≤ s.length ∧ parL s 0 [] = parL s i out ∧ out.length ≤ i ∧ n5 = out.length ∧ Sl fE 39 5 w.heap.size out (.slice ad5 n5 cap5) m5) (fun ⟨i, out, ad5, n5, cap5, m5⟩ => s.length - i) ((0, [], none, 0, 0, [])) ⟨au2, au2, rfl, trivial⟩ au1 ⟨Nat.zero_le _, rfl, Nat.le_refl _, rfl, .nil _ _ _ _⟩ ?_
 rintro ⟨i, out, ad5, n5, cap5, m5⟩ ⟨hi, hp, hlo, hn5, hs5⟩
 change wpM _ _ _ _ _ _ _ (m5 ++ []) _ _ _
 refine wpM.seq ?_
 refine wpM.seq (wpM.region ?_)
 refine LM.mv rfl (LM.mv rfl ?_)
 refine LM.val (ov_slenL Tryd.underlying9 rfl) ?_
 refine LM.val (ov_lss rfl rfl) ?_
 refine LM.nil (QM.sub (e' := [(0, _), (5, _), (6, _), (16, _)]) au9 (QM.then ?_))
 refine wpM.condD rfl (fun h2 => ?_) (fun h2 => ?_)
 ·
  refine wpM.skip ?_
  refine QM.then ?_
  refine wpM.block ?_
  refine wpM.seq (wpM.region ?_)
  refine LM.mv rfl (LM.mv rfl ?_)
  refine LM.val (ov_sslcLo Tryd.underlying9 rfl rfl (by omega) (by omega)) ?_
  refine LM.callE (oc_call (enters_fn Tryd.func55 (by kernel_rfl) rfl) rfl) (fun w hm hc hg => idx_ret (s.drop i) 10 w) ?_
  refine LM.as rfl ?_
  refine LM.nil (QM.sub (e' := [(0, _), (5, _), (6, _), (7, _)]) au9 (QM.then ?_))
  refine wpM.seq ?_
  refine wpM.seq (wpM.region ?_)
  have hidx := idx_end (s := s) (i := i) (by omega); change (Lib.indexByte (s.drop i) (Int.toNat 10).toUInt8 < 0 → _) ∧ (¬ Lib.indexByte (s.drop i) (Int.toNat 10).toUInt8 < 0 → Lib.indexByte (s.drop i) (Int.toNat 10).toUInt8 = _ ∧ _) at hidx; generalize Lib.indexByte (s.drop i) (Int.toNat 10).toUInt8 = q at hidx ⊢
  refine LM.mv rfl ?_
  refine LM.val (ov_lss rfl rfl) ?_
  refine LM.nil (QM.sub (e' := [(0, _), (5, _), (6, _), (7, _), (22, _)]) au9 (QM.then ?_))
  refine wpM.condD rfl (fun h3 => ?_) (fun h3 => ?_)
  ·
   refine wpM.seq (wpM.region ?_)
   refine LM.mv rfl (LM.as rfl (LM.as rfl (LM.as rfl ?_)))
   refine LM.nil (QM.sub (e' := [(2, _), (3, _), (4, _)]) au9 (QM.then ?_))
   refine wpM.ret ?_
   refine QM.then_ret ?_
   refine QM.block_ret ?_
   refine QM.then_ret ?_
   refine QM.block_ret ?_
   refine QM.then_ret ?_
   refine QM.leave (.inl rfl) [.tmp 2, .tmp 3, .tmp 4] Tryd.results24 rfl ?_
   intro w' hm' hc' hg'
   exact ⟨hc', [], EvT.no (by rw [parO_small h1, hp, parL_noend (by omega) (hidx.1 h3)]), Mem.nil _, fun p hp => by cases hp⟩
  obtain ⟨rfl, hlt⟩ := hidx.2 h3
  refine wpM.skip ?_
  refine QM.then (wpM.seq (wpM.region ?_))
  refine LM.mv rfl (LM.mv rfl (LM.mv rfl (LM.mv rfl ?_)))
  refine LM.val (ov_add64 rfl rfl (by omega)) ?_
  refine LM.val (ov_sslcL Tryd.underlying9 rfl rfl rfl (by omega) (by omega) (by omega)) ?_
  refine LM.callT (oc_call (enters_fn Tryd.func56 (by kernel_rfl) rfl) rfl) OneT.mono (fun w hm hc hg => eone_spec ((s.drop i).take (((i : Int) + ((endL s i : Nat) : Int)).toNat - ((i : Nat) : Int).toNat)) w (by rw [List.length_take]; omega) (hX.ext hc)) ?_
  rintro u31 m31 ⟨⟨e, rfl, he⟩, rfl⟩ -; have hpc : (s.drop i).take (((i : Int) + ((endL s i : Nat) : Int)).toNat - ((i : Nat) : Int).toNat) = (s.drop i).take (endL s i) := (by congr 1; omega)
  refine LM.mv rfl ?_
  refine LM.val (ov_extract rfl rfl) ?_
  refine LM.val (ov_extract rfl rfl) ?_
  refine LM.alloc Tryd.zeroValue39 rfl (fun b8 hb8 => ?_)
  refine LM.stW Tryd.sizeOf39 rfl rfl rfl rfl au7 au8 ?_
  refine LM.as rfl ?_
  refine LM.nil (QM.sub (e' := [(0, _), (5, _), (6, _), (7, _), (8, _), (9, _)]) au9 (QM.then ?_))
  refine wpM.seq ?_
  refine wpM.seq (wpM.region ?_)
  refine LM.mv rfl ?_
  first | refine LM.val (ov_notD rfl) ?_ | refine LM.val (ov_not rfl) ?_
  refine LM.nil (QM.sub (e' := [(0, _), (5, _), (6, _), (7, _), (8, _), (35, _)]) au9 (QM.then ?_))
  first | refine wpM.condD rfl (fun h4 => ?_) (fun h4 => ?_) | refine wpM.condB rfl (fun h4 => ?_) (fun h4 => ?_)
  ·
   refine wpM.seq (wpM.region ?_)
   refine LM.mv rfl (LM.as rfl (LM.as rfl (LM.as rfl ?_)))
   refine LM.nil (QM.sub (e' := [(2, _), (3, _), (4, _)]) au9 (QM.then ?_))
   refine wpM.ret ?_
   refine QM.then_ret ?_
   refine QM.block_ret ?_
   refine QM.then_ret ?_
   refine QM.block_ret ?_
   refine QM.then_ret ?_
   refine QM.leave (.inl rfl) [.tmp 2, .tmp 3, .tmp 4] Tryd.results24 rfl ?_
   intro w' hm' hc' hg'
   exact ⟨hc', [], EvT.no (by rw [parO_small h1, hp, parL_bad (by omega) (by rw [← hpc]; simpa using h4)]), Mem.nil _, fun p hp => by cases hp⟩
  refine wpM.skip ?_
  refine QM.then (wpM.seq (wpM.region ?_))
  refine LM.mv rfl ?_
  refine LM.rd (om_ldW Tryd.isAgg39 Tryd.sizeOf39 rfl rfl) ?_
  refine LM.single Tryd.underlying33 Tryd.sizeOf39 Tryd.zeroValue39 rfl rfl rfl rfl rfl (fun b39 hb39 => ?_)
  refine LM.app (a := e) Tryd.underlying33 Tryd.typeInfo39 rfl rfl rfl rfl rfl rfl rfl (by assumption) (by rfl) (by intro _; rfl) (by intro _ u hu; simp [fE] at hu; (repeat (first | (rcases hu with rfl | hu) | subst hu | rfl))) (by first | exact Nat.le_refl _ | omega) au10 (by first | omega | (unfold maxLen; omega)) (by simp only [Tryd.t39]; omega) (fun ad40 n40 cap40 m40 hn40 hs40 hin40 => ?_)
  refine LM.as rfl ?_
  refine LM.nil (QM.sub (e' := [(0, _), (5, _), (6, _), (7, _)]) au9 (QM.then (wpM.region ?_)))
  refine LM.mv rfl (LM.mv rfl ?_)
  refine LM.val (ov_add64 rfl rfl (by omega)) ?_
  refine LM.val (ov_add64 rfl rfl (by omega)) ?_
  refine LM.as rfl ?_
  refine LM.nil (QM.sub (e' := [(0, _), (5, _), (6, _)]) au9 ?_)
  refine QM.block_normal ?_
  refine QM.againK ((i + endL s i + 1, out ++ [e], ad40, n40, cap40, m40)) ⟨au2, au2, rfl, trivial⟩ au1 (fun _ h => h) ?_ ?_
  · exact ⟨by omega, by rw [hp, parL_next (by omega) (by omega) (by rw [← hpc]; simpa using h4), ← hpc, ← he (by simpa using h4)], by rw [List.length_append, List.length_singleton]; omega, by rw [List.length_append, List.length_singleton]; exact hn40, hs40⟩
  · first | omega | (dsimp only; omega)
 refine wpM.exit ?_
 refine QM.then_exit ?_
 refine QM.then_exit ?_
 refine QM.block_hit ?_
 refine QM.then (wpM.seq (wpM.region ?_))
 refine LM.mv rfl (LM.as rfl (LM.as rfl (LM.as rfl ?_)))
 refine LM.nil (QM.sub (e' := [(2, _), (3, _), (4, _)]) au9 (QM.then ?_))
 refine wpM.ret ?_
 refine QM.leave (.inl rfl) [.tmp 2, .tmp 3, .tmp 4] Tryd.results24 rfl ?_
 intro w' hm' hc' hg'
 refine ⟨hc', m5, ?_, hm'.pick _, Sl.ge hs5⟩; rw [parO_small h1, hp, parL_end (by omega)]; exact ⟨ad5, n5, cap5, rfl, hn5, hs5⟩
end Go.Eng
namespace Go.Eng
open Go Go.Proofs Go.RowKit
def aw24E : Evt := ⟨5#64, 4, 3, 0, 1⟩
def aw24L : List UInt8 := [53, 32, 97, 99, 113, 117, 105, 114, 101, 32, 51, 32, 48, 32, 49, 10]
def aw24M : List UInt8 := [55, 32, 119, 97, 107, 101, 32, 48, 32, 45, 32, 50, 10]
theorem aw24_line : lineO aw24E = (aw24L, 0) := by decide +kernel
theorem aw24_par : parO aw24M = ([⟨7#64, 7, 0, -1, 2⟩], 0, 0) := by decide +kernel
theorem printEv_may {xs : List Evt} (h : ¬ (printEv xs).2 ≠ 0) : xs.all mayEv = true := by
  unfold printEv at h
  split at h
  · rename_i q; exact q
  · exact absurd (show (1 : Int) ≠ 0 by decide) h
theorem printEv_par {xs : List Evt} (hl : xs.length ≤ 1000) (h : ¬ (printEv xs).2 ≠ 0) : parO (printEv xs).1 = (xs, 0, 0) := by
  have ha := printEv_may h
  unfold printEv; rw [if_pos ha]; exact par_print ha hl
theorem lineO_iff (e : Evt) : decide ((lineO e).2 = 0) = mayEv e := by
  unfold lineO
  cases mayEv e <;> rfl
theorem lineO_eq {e : Evt} (h : (lineO e).2 = 0) : (lineO e).1 = lineEv e := by
  have := lineO_may (e := e) (fun q => q h)
  unfold lineO; rw [if_pos this]
theorem lineO_no {e : Evt} (h : (lineO e).2 ≠ 0) : (lineO e).1 = [] := by
  have := (lineO_bad h).1
  unfold lineO; rw [if_neg (by rw [this]; simp)]
set_option maxRecDepth 100000 in
set_option maxHeartbeats 2000000 in
theorem awake24_spec (w : World) (hT : Tb w) (hX : MaxI w) : Ret Tryd.prog 14 #[] w (fun v w' => v = .bool true ∧ Ext w w') := by
 refine Ret.enterM (l := []) Tryd.func14 rfl Tryd.ntmps14 rfl ([]) (no) (Mem.nil w) ?_
 refine wpM.seq (wpM.region ?_)
 refine LM.as rfl ?_
 refine LM.nil (QM.sub (e' := []) trivial (QM.then (wpM.seq (wpM.region ?_))))
 refine LM.val (ov_build (cs := #[_, _, _, _, _]) rfl (by first | rfl | kernel_rfl)) ?_
 refine LM.alloc Tryd.zeroValue39 rfl (fun b1 hb1 => ?_)
 refine LM.stW Tryd.sizeOf39 rfl rfl rfl rfl au7 au8 ?_
 refine LM.nil (QM.sub (e' := [(1, _)]) ⟨rfl, trivial⟩ (QM.then (wpM.seq (wpM.region ?_))))
 refine LM.rd (om_ldW Tryd.isAgg39 Tryd.sizeOf39 rfl rfl) ?_
 refine LM.callE (oc_call (enters_fn Tryd.func18 (by kernel_rfl) rfl) rfl) (fun w hm hc hg => aw24_line ▸ eline_spec aw24E w (hT.ext hc)) ?_
 refine LM.mv rfl ?_
 refine LM.val (ov_extract rfl rfl) ?_
 refine LM.val (ov_extract rfl rfl) ?_
 refine LM.as rfl (LM.as rfl ?_)
 refine LM.nil (QM.sub (e' := [(2, _), (3, _)]) au9 (QM.then (wpM.seq (wpM.region ?_))))
 refine LM.callT (oc_call (enters_fn Tryd.func24 (by kernel_rfl) rfl) rfl) EvT.mono (fun w hm hc hg => eparse_spec aw24M w (hX.ext hc)) ?_
 rw [aw24_par]; rintro u14 m14 ⟨ad14, n14, cap14, rfl, hn14, hs14⟩ -; have hn14' : n14 = 1 := hn14
 refine LM.mv rfl ?_
 refine LM.val (ov_extract rfl rfl) ?_
 refine LM.val (ov_extract rfl rfl) ?_
 refine LM.val (ov_extract rfl rfl) ?_
 refine LM.as rfl (LM.as rfl (LM.as rfl ?_))
 refine LM.nil (QM.sub (e' := [(2, _), (3, _), (4, _), (5, _), (6, _)]) au9 (QM.then (wpM.seq (wpM.region ?_))))
 refine LM.mv rfl ?_
 refine LM.val (ov_seqlL rfl rfl) ?_
 refine LM.mv rfl ?_
 refine LM.splitD (t := 20) rfl (fun h1 => ?_) (fun h1 => ?_)
 ·
  refine LM.sp 20 rfl rfl rfl (LM.mv rfl (LM.sp 20 rfl rfl rfl ?_))
  refine LM.val (ov_eql rfl rfl) ?_
  refine LM.val (ov_pickT rfl rfl) ?_
  refine LM.mv rfl ?_
  refine LM.splitD (t := 24) rfl (fun h2 => ?_) (fun h2 => ?_)
  ·
   refine LM.sp 24 rfl rfl rfl (LM.mv rfl (LM.sp 24 rfl rfl rfl ?_))
   refine LM.val (ov_len Tryd.underlying33 rfl) ?_
   refine LM.sp 24 rfl rfl rfl ?_
   refine LM.val (ov_eql rfl rfl) ?_
   refine LM.val (ov_pickT rfl rfl) ?_
   refine LM.mv rfl ?_
   refine LM.splitD (t := 29) rfl (fun h3 => ?_) (fun h3 => ?_)
   ·
    refine LM.sp 29 rfl rfl rfl (LM.mv rfl (LM.sp 29 rfl rfl rfl ?_))
    refine LM.val (ov_eql rfl rfl) ?_
    refine LM.val (ov_pickT rfl rfl) ?_
    refine LM.mv rfl ?_
    refine LM.splitD (t := 33) rfl (fun h4 => ?_) (fun h4 => ?_)
    ·
     refine LM.sp 33 rfl rfl rfl (LM.mv rfl (LM.sp 33 rfl rfl rfl ?_))
     refine LM.val (ov_eql rfl rfl) ?_
     refine LM.val (ov_pickT rfl rfl) ?_
     refine LM.mv rfl ?_
     refine LM.splitD (t := 37) rfl (fun h5 => ?_) (fun h5 => ?_)
     ·
      refine LM.sp 37 rfl rfl rfl (LM.mv rfl (LM.sp 37 rfl rfl rfl ?_))
      refine LM.val (ov_idxSN (i := 0) au6 Tryd.underlying33 Tryd.sizeOf39 rfl rfl (by omega)) ?_
      refine LM.sp 37 rfl rfl rfl ?_
      refine LM.rd (om_slA (by assumption) (by intro _; rfl) Tryd.isAgg39 Tryd.sizeOf39 rfl au3) ?_
      refine LM.sp 37 rfl rfl rfl ?_
      refine LM.val (ov_build (cs := #[_, _, _, _, _]) rfl (by first | rfl | kernel_rfl)) ?_
      refine LM.sp 37 rfl rfl rfl ?_
      refine LM.val (ov_aeql Tryd.underlying39 (by kernel_rfl) (by kernel_rfl) (by decide) rfl rfl (by rfl) ⟨(by first | rfl | trivial), (by first | rfl | trivial), (by first | rfl | trivial), (by first | rfl | trivial), (by first | rfl | trivial), trivial⟩) ?_
      refine LM.val (ov_pickT rfl rfl) ?_
      refine LM.as rfl ?_
      refine LM.nil (QM.sub (e' := [(0, _)]) ⟨rfl, trivial⟩ (QM.then ?_))
      refine wpM.ret ?_
      refine QM.leave (.inl rfl) [.tmp 0] Tryd.results14 rfl ?_
      intro w' hm' hc' hg'
      exact ⟨rfl, hc'⟩
     refine LM.dr 37 rfl rfl rfl (LM.dr 37 rfl rfl rfl (LM.dr 37 rfl rfl rfl (LM.dr 37 rfl rfl rfl (LM.dr 37 rfl rfl rfl ?_))))
     refine LM.val (ov_pickF rfl rfl) ?_
     refine LM.as rfl ?_
     refine LM.nil (QM.sub (e' := [(0, _)]) ⟨rfl, trivial⟩ (QM.then ?_))
     refine wpM.ret ?_
     refine QM.leave (.inl rfl) [.tmp 0] Tryd.results14 rfl ?_
     intro w' hm' hc' hg'
     first | exact ⟨rfl, hc'⟩ | (exfalso; first | omega | (simp at *; done) | (simp_all; done))
    refine LM.dr 33 rfl rfl rfl (LM.dr 33 rfl rfl rfl ?_)
    refine LM.val (ov_pickF rfl rfl) ?_
    refine LM.mv rfl (LM.dr 37 rfl rfl rfl (LM.dr 37 rfl rfl rfl (LM.dr 37 rfl rfl rfl (LM.dr 37 rfl rfl rfl (LM.dr 37 rfl rfl rfl ?_)))))
    refine LM.val (ov_pickF rfl rfl) ?_
    refine LM.as rfl ?_
    refine LM.nil (QM.sub (e' := [(0, _)]) ⟨rfl, trivial⟩ (QM.then ?_))
    refine wpM.ret ?_
    refine QM.leave (.inl rfl) [.tmp 0] Tryd.results14 rfl ?_
    intro w' hm' hc' hg'
    first | exact ⟨rfl, hc'⟩ | (exfalso; first | omega | (simp at *; done) | (simp_all; done))
   refine LM.dr 29 rfl rfl rfl (LM.dr 29 rfl rfl rfl ?_)
   refine LM.val (ov_pickF rfl rfl) ?_
   refine LM.mv rfl (LM.dr 33 rfl rfl rfl (LM.dr 33 rfl rfl rfl ?_))
   refine LM.val (ov_pickF rfl rfl) ?_
   refine LM.mv rfl (LM.dr 37 rfl rfl rfl (LM.dr 37 rfl rfl rfl (LM.dr 37 rfl rfl rfl (LM.dr 37 rfl rfl rfl (LM.dr 37 rfl rfl rfl ?_)))))
   refine LM.val (ov_pickF rfl rfl) ?_
   refine LM.as rfl ?_
   refine LM.nil (QM.sub (e' := [(0, _)]) ⟨rfl, trivial⟩ (QM.then ?_))
   refine wpM.ret ?_
   refine QM.leave (.inl rfl) [.tmp 0] Tryd.results14 rfl ?_
   intro w' hm' hc' hg'
   first | exact ⟨rfl, hc'⟩ | (exfalso; first | omega | (simp at *; done) | (simp_all; done))
  refine LM.dr 24 rfl rfl rfl (LM.dr 24 rfl rfl rfl (LM.dr 24 rfl rfl rfl ?_))
  refine LM.val (ov_pickF rfl rfl) ?_
  refine LM.mv rfl (LM.dr 29 rfl rfl rfl (LM.dr 29 rfl rfl rfl ?_))
  refine LM.val (ov_pickF rfl rfl) ?_
  refine LM.mv rfl (LM.dr 33 rfl rfl rfl (LM.dr 33 rfl rfl rfl ?_))
  refine LM.val (ov_pickF rfl rfl) ?_
  refine LM.mv rfl (LM.dr 37 rfl rfl rfl (LM.dr 37 rfl rfl rfl (LM.dr 37 rfl rfl rfl (LM.dr 37 rfl rfl rfl (LM.dr 37 rfl rfl rfl ?_)))))
  refine LM.val (ov_pickF rfl rfl) ?_
  refine LM.as rfl ?_
  refine LM.nil (QM.sub (e' := [(0, _)]) ⟨rfl, trivial⟩ (QM.then ?_))
  refine wpM.ret ?_
  refine QM.leave (.inl rfl) [.tmp 0] Tryd.results14 rfl ?_
  intro w' hm' hc' hg'
  first | exact ⟨rfl, hc'⟩ | (exfalso; first | omega | (simp at *; done) | (simp_all; done))
 refine LM.dr 20 rfl rfl rfl (LM.dr 20 rfl rfl rfl ?_)
 refine LM.val (ov_pickF rfl rfl) ?_
 refine LM.mv rfl (LM.dr 24 rfl rfl rfl (LM.dr 24 rfl rfl rfl (LM.dr 24 rfl rfl rfl ?_)))
 refine LM.val (ov_pickF rfl rfl) ?_
 refine LM.mv rfl (LM.dr 29 rfl rfl rfl (LM.dr 29 rfl rfl rfl ?_))
 refine LM.val (ov_pickF rfl rfl) ?_
 refine LM.mv rfl (LM.dr 33 rfl rfl rfl (LM.dr 33 rfl rfl rfl ?_))
 refine LM.val (ov_pickF rfl rfl) ?_
 refine LM.mv rfl (LM.dr 37 rfl rfl rfl (LM.dr 37 rfl rfl rfl (LM.dr 37 rfl rfl rfl (LM.dr 37 rfl rfl rfl (LM.dr 37 rfl rfl rfl ?_)))))
 refine LM.val (ov_pickF rfl rfl) ?_
 refine LM.as rfl ?_
 refine LM.nil (QM.sub (e' := [(0, _)]) ⟨rfl, trivial⟩ (QM.then ?_))
 refine wpM.ret ?_
 refine QM.leave (.inl rfl) [.tmp 0] Tryd.results14 rfl ?_
 intro w' hm' hc' hg'
 exact absurd rfl h1
set_option maxRecDepth 100000 in
set_option maxHeartbeats 4000000 in
theorem eventBack {xs : List Evt} {ad : Option Addr} {n cap : Nat} (w : World) (hT : Tb w) (hX : MaxI w) (hn : n = xs.length) (hl : Sr fE 5 xs (.slice ad n cap) w) : Ret Tryd.prog 5 #[.slice ad n cap] w (fun v w' => v = .bool true ∧ Ext w w') := by
 refine Ret.enterM (l := [.slice ad n cap]) Tryd.func5 rfl Tryd.ntmps5 rfl ([]) (no) (Mem.nil w) ?_
 refine wpM.seq (wpM.region ?_)
 refine LM.as rfl ?_
 refine LM.nil (QM.sub (e' := [(0, _)]) ⟨rfl, trivial⟩ (QM.then ?_))
 refine wpM.seq ?_
 refine wpM.seq (wpM.region ?_)
 refine LM.callE (oc_call (enters_fn Tryd.func14 (by kernel_rfl) rfl) rfl) (fun w hm hc hg => awake24_spec w (hT.ext hc) (hX.ext hc)) ?_
 first | refine LM.val (ov_notD rfl) ?_ | refine LM.val (ov_not rfl) ?_
 refine LM.nil (QM.sub (e' := [(0, _), (15, _)]) au9 (QM.then ?_))
 first | refine wpM.condD rfl (fun h1 => ?_) (fun h1 => ?_) | refine wpM.condB rfl (fun h1 => ?_) (fun h1 => ?_)
 ·
  refine wpM.seq (wpM.region ?_)
  refine LM.as rfl ?_
  refine LM.nil (QM.sub (e' := [(2, _)]) ⟨rfl, trivial⟩ (QM.then ?_))
  refine wpM.ret ?_
  refine QM.then_ret ?_
  refine QM.leave (.inl rfl) [.tmp 2] Tryd.results5 rfl ?_
  intro w' hm' hc' hg'
  first | exact ⟨rfl, hc'⟩ | (exfalso; first | omega | (simp at *; done) | (simp_all; done))
 refine wpM.skip ?_
 refine QM.then ?_
 refine wpM.seq ?_
 refine wpM.seq (wpM.region ?_)
 refine LM.mv rfl ?_
 refine LM.val (ov_len Tryd.underlying33 rfl) ?_
 refine LM.val (ov_gtr rfl rfl) ?_
 refine LM.nil (QM.sub (e' := [(0, _), (18, _)]) au9 (QM.then ?_))
 refine wpM.condD rfl (fun h2 => ?_) (fun h2 => ?_)
 ·
  refine wpM.seq (wpM.region ?_)
  refine LM.as rfl ?_
  refine LM.nil (QM.sub (e' := [(2, _)]) ⟨rfl, trivial⟩ (QM.then ?_))
  refine wpM.ret ?_
  refine QM.then_ret ?_
  refine QM.leave (.inl rfl) [.tmp 2] Tryd.results5 rfl ?_
  intro w' hm' hc' hg'
  exact ⟨rfl, hc'⟩
 refine wpM.skip ?_
 refine QM.then (wpM.seq (wpM.region ?_))
 refine LM.mv rfl ?_
 refine LM.callE (oc_call (enters_fn Tryd.func16 (by kernel_rfl) rfl) rfl) (fun w hm hc hg => eprint_spec w hn (hl.ext hc) (by omega) (hT.ext hc)) ?_
 refine LM.mv rfl ?_
 refine LM.val (ov_extract rfl rfl) ?_
 refine LM.val (ov_extract rfl rfl) ?_
 refine LM.as rfl (LM.as rfl ?_)
 refine LM.nil (QM.sub (e' := [(0, _), (3, _), (4, _)]) au9 (QM.then (wpM.seq (wpM.region ?_))))
 refine LM.mv rfl ?_
 refine LM.callE (oc_call (enters_fn Tryd.func17 (by kernel_rfl) rfl) rfl) (fun w hm hc hg => reprint_spec w hn (hl.ext hc) (by omega)) ?_
 refine LM.mv rfl ?_
 refine LM.val (ov_extract rfl rfl) ?_
 refine LM.val (ov_extract rfl rfl) ?_
 refine LM.as rfl (LM.as rfl ?_)
 refine LM.nil (QM.sub (e' := [(0, _), (3, _), (4, _), (5, _), (6, _)]) au9 (QM.then ?_))
 refine wpM.seq ?_
 refine wpM.seq (wpM.region ?_)
 refine LM.mv rfl (LM.mv rfl ?_)
 refine LM.val (ov_sneqL rfl rfl) ?_
 refine LM.mv rfl ?_
 refine LM.splitD (t := 32) rfl (fun h3 => ?_) (fun h3 => ?_)
 ·
  refine LM.dr 32 rfl rfl rfl (LM.dr 32 rfl rfl rfl (LM.dr 32 rfl rfl rfl ?_))
  refine LM.val (ov_pickT rfl rfl) ?_
  refine LM.nil (QM.sub (e' := [(0, _), (3, _), (6, _), (36, _)]) au9 (QM.then ?_))
  refine wpM.condT rfl ?_
  refine wpM.seq (wpM.region ?_)
  refine LM.as rfl ?_
  refine LM.nil (QM.sub (e' := [(2, _)]) ⟨rfl, trivial⟩ (QM.then ?_))
  refine wpM.ret ?_
  refine QM.then_ret ?_
  refine QM.leave (.inl rfl) [.tmp 2] Tryd.results5 rfl ?_
  intro w' hm' hc' hg'
  exact absurd rfl h3
 refine LM.sp 32 rfl rfl rfl (LM.mv rfl (LM.sp 32 rfl rfl rfl (LM.mv rfl (LM.sp 32 rfl rfl rfl ?_))))
 refine LM.val (ov_neq rfl rfl) ?_
 refine LM.val (ov_pickF rfl rfl) ?_
 refine LM.nil (QM.sub (e' := [(0, _), (3, _), (6, _), (36, _)]) au9 (QM.then ?_))
 refine wpM.condD rfl (fun h4 => ?_) (fun h4 => ?_)
 ·
  refine wpM.seq (wpM.region ?_)
  refine LM.as rfl ?_
  refine LM.nil (QM.sub (e' := [(2, _)]) ⟨rfl, trivial⟩ (QM.then ?_))
  refine wpM.ret ?_
  refine QM.then_ret ?_
  refine QM.leave (.inl rfl) [.tmp 2] Tryd.results5 rfl ?_
  intro w' hm' hc' hg'
  exact absurd rfl h4
 refine wpM.skip ?_
 refine QM.then ?_
 refine wpM.seq ?_
 refine wpM.seq (wpM.region ?_)
 refine LM.mv rfl ?_
 refine LM.val (ov_len Tryd.underlying33 rfl) ?_
 refine LM.mv rfl ?_
 refine LM.nil (QM.sub (e' := [(0, _), (3, _), (6, _), (37, _), (38, _), (39, _)]) au9 (QM.then ?_))
 refine wpM.block ?_
 refine wpM.loopK0 (α := Nat) (fun i => [(39, .int .i64 (i : Nat))]) [(0, _), (3, _), (6, _), (37, _), (38, _)] (fun i => []) (fun i => i ≤ xs.length) (fun i => xs.length - i) (0) ⟨au2, rfl, rfl, rfl, rfl, rfl, trivial⟩ au1 (Nat.zero_le _) ?_
 rintro i hi
 change wpM _ _ _ _ _ _ _ ([]) _ _ _
 refine wpM.seq (wpM.region ?_)
 refine LM.val (ov_lss rfl rfl) ?_
 refine LM.nil (QM.sub (e' := [(0, _), (3, _), (6, _), (37, _), (38, _), (39, _), (40, _)]) au9 (QM.then ?_))
 refine wpM.seq ?_
 refine wpM.condD rfl (fun h5 => ?_) (fun h5 => ?_)
 ·
  refine wpM.skip ?_
  refine QM.then ?_
  refine wpM.seq ?_
  refine wpM.block ?_
  refine wpM.seq (wpM.region ?_)
  refine LM.val (ov_idxSN au6 Tryd.underlying33 Tryd.sizeOf39 rfl rfl (by omega)) ?_
  first | refine LM.rd (om_slA (by assumption) (by intro _; rfl) Tryd.isAgg39 Tryd.sizeOf39 rfl au3) ?_ | refine LM.rdC (om_srEA (by assumption) (by intro _; rfl) Tryd.isAgg39 Tryd.sizeOf39 rfl au3 id) ?_ | refine LM.rd (om_ldW Tryd.isAgg39 Tryd.sizeOf39 rfl rfl) ?_ | refine LM.rd (om_ldA Tryd.isAgg39 Tryd.sizeOf39 rfl (vs := [_, _, _, _, _]) rfl ⟨rfl, rfl, rfl, rfl, rfl, trivial⟩) ?_
  refine LM.alloc Tryd.zeroValue39 rfl (fun b8 hb8 => ?_)
  refine LM.stW Tryd.sizeOf39 rfl rfl rfl rfl au7 au8 ?_
  refine LM.nil (QM.sub (e' := [(0, _), (3, _), (6, _), (8, _), (37, _), (38, _), (39, _)]) au9 (QM.then (wpM.seq (wpM.region ?_))))
  refine LM.rd (om_ldW Tryd.isAgg39 Tryd.sizeOf39 rfl rfl) ?_
  refine LM.callE (oc_call (enters_fn Tryd.func18 (by kernel_rfl) rfl) rfl) (fun w hm hc hg => eline_spec (xs.getD i default) w (hT.ext hc)) ?_
  refine LM.mv rfl ?_
  refine LM.val (ov_extract rfl rfl) ?_
  refine LM.val (ov_extract rfl rfl) ?_
  refine LM.as rfl (LM.as rfl ?_)
  refine LM.nil (QM.sub (e' := [(0, _), (3, _), (6, _), (8, _), (9, _), (10, _), (37, _), (38, _), (39, _)]) au9 (QM.then ?_))
  refine wpM.seq ?_
  refine wpM.draw [(0, 1), (2, 1), (1, 2), (3, 2), (4, 0), (5, 0), (6, 0), (7, 0), (8, 1), (9, 2), (10, 0), (11, 0), (12, 0), (13, 0), (14, 0), (15, 0), (16, 0), (17, 1), (18, 2), (19, 0), (20, 0), (21, 0), (22, 0), (23, 0), (24, 0), (25, 0), (26, 0), (27, 0), (28, 0), (29, 0), (30, 0), (31, 0), (32, 0), (33, 0), (34, 0), (35, 0), (36, 1), (38, 0), (39, 1), (37, 2), (40, 2), (41, 0), (42, 0)] (by kernel_rfl) (by kernel_rfl) ?_
  refine LD.rd rfl rfl (om_ldW Tryd.isAgg39 Tryd.sizeOf39 rfl rfl) ?_
  refine LD.rd rfl rfl (om_ldW Tryd.isAgg39 Tryd.sizeOf39 rfl rfl) ?_
  refine LD.callE rfl rfl (oc_call (enters_fn Tryd.func19 (by kernel_rfl) rfl) rfl) (fun w hm hc hg => emay_spec (xs.getD i default) w) ?_
  refine LD.callE rfl rfl (oc_call (enters_fn Tryd.func20 (by kernel_rfl) rfl) rfl) (fun w hm hc hg => remay_spec (xs.getD i default) w) ?_
  refine LD.val rfl rfl (ov_bneq Tryd.underlying4 rfl rfl) ?_
  refine LD.val rfl rfl (ov_move rfl) ?_
  first | refine LD.splitD (t := 53) rfl (fun h6 => ?_) (fun h6 => ?_) | refine LD.splitB (t := 53) rfl (fun h6 => ?_) (fun h6 => ?_)
  ·
   exfalso; simp at h6
  refine LD.val rfl ⟨53, _, rfl, rfl, rfl⟩ (ov_move rfl) ?_
  refine LD.val rfl ⟨53, _, rfl, rfl, rfl⟩ (ov_eql rfl rfl) ?_
  refine LD.rd rfl ⟨53, _, rfl, rfl, rfl⟩ (om_ldW Tryd.isAgg39 Tryd.sizeOf39 rfl rfl) ?_
  refine LD.callE rfl ⟨53, _, rfl, rfl, rfl⟩ (oc_call (enters_fn Tryd.func20 (by kernel_rfl) rfl) rfl) (fun w hm hc hg => remay_spec (xs.getD i default) w) ?_
  refine LD.val rfl ⟨53, _, rfl, rfl, rfl⟩ (ov_bneq Tryd.underlying4 rfl rfl) ?_
  refine LD.val rfl rfl (ov_pickF rfl rfl) ?_
  refine LD.val rfl rfl (ov_move rfl) ?_
  first | refine LD.splitD (t := 60) rfl (fun h7 => ?_) (fun h7 => ?_) | refine LD.splitB (t := 60) rfl (fun h7 => ?_) (fun h7 => ?_)
  ·
   exfalso; rw [lineO_iff] at h7; simp at h7
  refine LD.val rfl ⟨60, _, rfl, rfl, rfl⟩ (ov_move rfl) ?_
  refine LD.val rfl ⟨60, _, rfl, rfl, rfl⟩ (ov_eql rfl rfl) ?_
  refine LD.val rfl ⟨60, _, rfl, rfl, rfl⟩ (ov_move rfl) ?_
  refine LD.splitD (t := 63) rfl (fun h8 => ?_) (fun h8 => ?_)
  ·
   refine LD.val rfl ⟨63, _, rfl, rfl, rfl⟩ (ov_move rfl) ?_
   refine LD.rd rfl ⟨63, _, rfl, rfl, rfl⟩ (om_ldW Tryd.isAgg39 Tryd.sizeOf39 rfl rfl) ?_
   refine LD.callE rfl ⟨63, _, rfl, rfl, rfl⟩ (oc_call (enters_fn Tryd.func21 (by kernel_rfl) rfl) rfl) (fun w hm hc hg => reline_spec (xs.getD i default) w (lineO_may (fun q => q (by assumption)))) ?_
   refine LD.val rfl ⟨63, _, rfl, rfl, rfl⟩ (ov_sneqL rfl rfl) ?_
   refine LD.val rfl ⟨60, _, rfl, rfl, rfl⟩ (ov_pickT rfl rfl) ?_
   refine LD.val rfl rfl (ov_pickF rfl rfl) ?_
   refine LD.val rfl rfl (ov_move rfl) ?_
   refine LD.splitD (t := 70) rfl (fun h9 => ?_) (fun h9 => ?_)
   ·
    exact absurd (lineO_eq h8) h9
   refine LD.val rfl ⟨70, _, rfl, rfl, rfl⟩ (ov_move rfl) ?_
   refine LD.val rfl ⟨70, _, rfl, rfl, rfl⟩ (ov_neq rfl rfl) ?_
   refine LD.val rfl ⟨70, _, rfl, rfl, rfl⟩ (ov_move rfl) ?_
   refine LD.splitD (t := 73) rfl (fun h10 => ?_) (fun h10 => ?_)
   ·
    exact absurd h8 h10
   refine LD.drop rfl rfl ⟨73, _, rfl, rfl, rfl⟩ ?_
   refine LD.drop rfl rfl ⟨73, _, rfl, rfl, rfl⟩ ?_
   refine LD.dropU rfl rfl ⟨73, _, rfl, rfl, rfl⟩ ?_
   refine LD.dropX rfl rfl rfl rfl ?_
   refine LD.dropX rfl rfl rfl rfl ?_
   refine LD.drop rfl rfl ⟨73, _, rfl, rfl, rfl⟩ ?_
   refine LD.val rfl ⟨70, _, rfl, rfl, rfl⟩ (ov_pickF rfl rfl) ?_
   refine LD.val rfl rfl (ov_pickF rfl rfl) ?_
   refine LD.val rfl rfl (ov_move rfl) ?_
   refine LD.val rfl ⟨82, _, rfl, rfl, rfl⟩ (ov_field Tryd.underlying39 rfl Tryd.sizeOf3 rfl (k := 1) rfl rfl) ?_
   refine LD.rd rfl ⟨82, _, rfl, rfl, rfl⟩ (om_ld Tryd.isAgg3 rfl rfl) ?_
   refine LD.val rfl ⟨82, _, rfl, rfl, rfl⟩ (ov_field Tryd.underlying39 rfl Tryd.sizeOf3 rfl (k := 1) rfl rfl) ?_
   refine LD.rd rfl ⟨82, _, rfl, rfl, rfl⟩ (om_ld Tryd.isAgg3 rfl rfl) ?_
   refine LD.callE rfl ⟨82, _, rfl, rfl, rfl⟩ (oc_call (enters_fn Tryd.func22 (by kernel_rfl) rfl) rfl) (fun w hm hc hg => ename_spec _ w) ?_
   refine LD.callE rfl ⟨82, _, rfl, rfl, rfl⟩ (oc_call (enters_fn Tryd.func23 (by kernel_rfl) rfl) rfl) (fun w hm hc hg => rename_spec _ w) ?_
   refine LD.val rfl ⟨82, _, rfl, rfl, rfl⟩ (ov_sneqL rfl rfl) ?_
   refine LD.val rfl rfl (ov_pickF rfl rfl) ?_
   refine LD.nil ?_
   refine QM.sub (e' := [(0, _), (3, _), (6, _), (37, _), (38, _), (39, _), (90, _)]) au9 (QM.then ?_)
   refine wpM.condD rfl (fun h11 => ?_) (fun h11 => ?_)
   ·
    exact absurd rfl h11
   refine wpM.skip ?_
   refine QM.block_normal ?_
   refine QM.then (wpM.region ?_)
   refine LM.val (ov_add64 rfl rfl (by omega)) ?_
   refine LM.mv rfl ?_
   refine LM.nil (QM.sub (e' := [(0, _), (3, _), (6, _), (37, _), (38, _), (39, _)]) au9 ?_)
   refine QM.againK (i + 1) ⟨au2, rfl, rfl, rfl, rfl, rfl, trivial⟩ au1 (fun _ h => h) ?_ ?_
   · exact (by omega)
   · omega
  refine LD.drop rfl rfl ⟨63, _, rfl, rfl, rfl⟩ ?_
  refine LD.drop rfl rfl ⟨63, _, rfl, rfl, rfl⟩ ?_
  refine LD.drop rfl rfl ⟨63, _, rfl, rfl, rfl⟩ ?_
  refine LD.drop rfl rfl ⟨63, _, rfl, rfl, rfl⟩ ?_
  refine LD.val rfl ⟨60, _, rfl, rfl, rfl⟩ (ov_pickF rfl rfl) ?_
  refine LD.val rfl rfl (ov_pickF rfl rfl) ?_
  refine LD.val rfl rfl (ov_move rfl) ?_
  refine LD.val rfl ⟨70, _, rfl, rfl, rfl⟩ (ov_move rfl) ?_
  refine LD.val rfl ⟨70, _, rfl, rfl, rfl⟩ (ov_neq rfl rfl) ?_
  refine LD.val rfl ⟨70, _, rfl, rfl, rfl⟩ (ov_move rfl) ?_
  refine LD.splitD (t := 73) rfl (fun h12 => ?_) (fun h12 => ?_)
  ·
   refine LD.val rfl ⟨73, _, rfl, rfl, rfl⟩ (ov_move rfl) ?_
   refine LD.val rfl ⟨73, _, rfl, rfl, rfl⟩ (ov_sneqL rfl rfl) ?_
   refine LD.val rfl ⟨73, _, rfl, rfl, rfl⟩ (ov_move rfl) ?_
   refine LD.splitD (t := 76) rfl (fun h13 => ?_) (fun h13 => ?_)
   ·
    exact absurd (lineO_no h12) h13
   refine LD.val rfl ⟨76, _, rfl, rfl, rfl⟩ (ov_move rfl) ?_
   refine LD.val rfl ⟨76, _, rfl, rfl, rfl⟩ (ov_neq rfl rfl) ?_
   refine LD.val rfl ⟨73, _, rfl, rfl, rfl⟩ (ov_pickF rfl rfl) ?_
   refine LD.val rfl ⟨70, _, rfl, rfl, rfl⟩ (ov_pickT rfl rfl) ?_
   refine LD.val rfl rfl (ov_pickF rfl rfl) ?_
   refine LD.val rfl rfl (ov_move rfl) ?_
   refine LD.splitD (t := 82) rfl (fun h14 => ?_) (fun h14 => ?_)
   ·
    exact absurd (lineO_bad h12).2 h14
   refine LD.val rfl ⟨82, _, rfl, rfl, rfl⟩ (ov_field Tryd.underlying39 rfl Tryd.sizeOf3 rfl (k := 1) rfl rfl) ?_
   refine LD.rd rfl ⟨82, _, rfl, rfl, rfl⟩ (om_ld Tryd.isAgg3 rfl rfl) ?_
   refine LD.val rfl ⟨82, _, rfl, rfl, rfl⟩ (ov_field Tryd.underlying39 rfl Tryd.sizeOf3 rfl (k := 1) rfl rfl) ?_
   refine LD.rd rfl ⟨82, _, rfl, rfl, rfl⟩ (om_ld Tryd.isAgg3 rfl rfl) ?_
   refine LD.callE rfl ⟨82, _, rfl, rfl, rfl⟩ (oc_call (enters_fn Tryd.func22 (by kernel_rfl) rfl) rfl) (fun w hm hc hg => ename_spec _ w) ?_
   refine LD.callE rfl ⟨82, _, rfl, rfl, rfl⟩ (oc_call (enters_fn Tryd.func23 (by kernel_rfl) rfl) rfl) (fun w hm hc hg => rename_spec _ w) ?_
   refine LD.val rfl ⟨82, _, rfl, rfl, rfl⟩ (ov_sneqL rfl rfl) ?_
   refine LD.val rfl rfl (ov_pickF rfl rfl) ?_
   refine LD.nil ?_
   refine QM.sub (e' := [(0, _), (3, _), (6, _), (37, _), (38, _), (39, _), (90, _)]) au9 (QM.then ?_)
   refine wpM.condD rfl (fun h15 => ?_) (fun h15 => ?_)
   ·
    exact absurd rfl h15
   refine wpM.skip ?_
   refine QM.block_normal ?_
   refine QM.then (wpM.region ?_)
   refine LM.val (ov_add64 rfl rfl (by omega)) ?_
   refine LM.mv rfl ?_
   refine LM.nil (QM.sub (e' := [(0, _), (3, _), (6, _), (37, _), (38, _), (39, _)]) au9 ?_)
   refine QM.againK (i + 1) ⟨au2, rfl, rfl, rfl, rfl, rfl, trivial⟩ au1 (fun _ h => h) ?_ ?_
   · exact (by omega)
   · omega
  exact absurd (Classical.not_not.1 h12) h8
 refine wpM.exit ?_
 refine QM.then_exit ?_
 refine QM.then_exit ?_
 refine QM.block_hit ?_
 refine QM.then ?_
 refine wpM.seq ?_
 refine wpM.seq (wpM.region ?_)
 refine LM.mv rfl ?_
 refine LM.val (ov_neq rfl rfl) ?_
 refine LM.nil (QM.sub (e' := [(0, _), (3, _), (93, _)]) au9 (QM.then ?_))
 refine wpM.condD rfl (fun h16 => ?_) (fun h16 => ?_)
 ·
  refine wpM.seq (wpM.region ?_)
  refine LM.as rfl ?_
  refine LM.nil (QM.sub (e' := [(2, _)]) ⟨rfl, trivial⟩ (QM.then ?_))
  refine wpM.ret ?_
  refine QM.then_ret ?_
  refine QM.leave (.inl rfl) [.tmp 2] Tryd.results5 rfl ?_
  intro w' hm' hc' hg'
  exact ⟨rfl, hc'⟩
 refine wpM.skip ?_
 refine QM.then (wpM.seq (wpM.region ?_))
 refine LM.mv rfl ?_
 refine LM.callT (oc_call (enters_fn Tryd.func24 (by kernel_rfl) rfl) rfl) EvT.mono (fun w hm hc hg => eparse_spec (printEv xs).1 w (hX.ext hc)) ?_
 rw [show parO (printEv xs).1 = (xs, 0, 0) from printEv_par (by omega) (by assumption)]; rintro u96 m96 ⟨ad96, n96, cap96, rfl, hn96, hs96⟩ -
 refine LM.mv rfl ?_
 refine LM.val (ov_extract rfl rfl) ?_
 refine LM.val (ov_extract rfl rfl) ?_
 refine LM.val (ov_extract rfl rfl) ?_
 refine LM.as rfl (LM.as rfl (LM.as rfl ?_))
 refine LM.nil (QM.sub (e' := [(0, _), (11, _), (12, _), (13, _)]) au9 (QM.then (wpM.seq (wpM.region ?_))))
 refine LM.mv rfl ?_
 refine LM.val (ov_eql rfl rfl) ?_
 refine LM.mv rfl ?_
 refine LM.splitD (t := 102) rfl (fun h17 => ?_) (fun h17 => ?_)
 ·
  refine LM.sp 102 rfl rfl rfl (LM.mv rfl (LM.sp 102 rfl rfl rfl ?_))
  refine LM.val (ov_eql rfl rfl) ?_
  refine LM.val (ov_pickT rfl rfl) ?_
  refine LM.mv rfl ?_
  refine LM.splitD (t := 106) rfl (fun h18 => ?_) (fun h18 => ?_)
  ·
   refine LM.sp 106 rfl rfl rfl (LM.mv rfl (LM.sp 106 rfl rfl rfl (LM.mv rfl (LM.sp 106 rfl rfl rfl ?_))))
   refine LM.callE (oc_call (enters_fn Tryd.func25 (by kernel_rfl) rfl) rfl) (fun w hm hc hg => resame_spec w hn96 (hs96.srM (by intro _; rfl) hm) hn (hl.ext hc) (show xs.length ≤ 1000000000 by omega)) ?_
   refine LM.val (ov_pickT rfl rfl) ?_
   refine LM.as rfl ?_
   refine LM.nil (QM.sub (e' := [(2, _)]) ⟨rfl, trivial⟩ (QM.then ?_))
   refine wpM.ret ?_
   refine QM.leave (.inl rfl) [.tmp 2] Tryd.results5 rfl ?_
   intro w' hm' hc' hg'
   refine ⟨?_, hc'⟩; show Value.bool (decide (xs = xs)) = _; rw [decide_eq_true rfl]
  refine LM.dr 106 rfl rfl rfl (LM.dr 106 rfl rfl rfl (LM.dr 106 rfl rfl rfl ?_))
  refine LM.val (ov_pickF rfl rfl) ?_
  refine LM.as rfl ?_
  refine LM.nil (QM.sub (e' := [(2, _)]) ⟨rfl, trivial⟩ (QM.then ?_))
  refine wpM.ret ?_
  refine QM.leave (.inl rfl) [.tmp 2] Tryd.results5 rfl ?_
  intro w' hm' hc' hg'
  exact absurd rfl h18
 refine LM.dr 102 rfl rfl rfl (LM.dr 102 rfl rfl rfl ?_)
 refine LM.val (ov_pickF rfl rfl) ?_
 refine LM.mv rfl (LM.dr 106 rfl rfl rfl (LM.dr 106 rfl rfl rfl (LM.dr 106 rfl rfl rfl ?_)))
 refine LM.val (ov_pickF rfl rfl) ?_
 refine LM.as rfl ?_
 refine LM.nil (QM.sub (e' := [(2, _)]) ⟨rfl, trivial⟩ (QM.then ?_))
 refine wpM.ret ?_
 refine QM.leave (.inl rfl) [.tmp 2] Tryd.results5 rfl ?_
 intro w' hm' hc' hg'
 exact absurd rfl h17
end Go.Eng
namespace Go.Eng
open Go Go.Proofs Go.RowKit Go.ChangeShapes Go.WideShapes
set_option maxRecDepth 100000 in
theorem rdb_api_Event : Rdb Tryd.prog 39 fE (fun a => (-9223372036854775808 ≤ a.k ∧ a.k ≤ 9223372036854775807) ∧ (-9223372036854775808 ≤ a.t ∧ a.t ≤ 9223372036854775807) ∧ (-9223372036854775808 ≤ a.l ∧ a.l ≤ 9223372036854775807) ∧ (-9223372036854775808 ≤ a.n ∧ a.n ≤ 9223372036854775807)) := fun {H enc w base sp held fuel cs x} h => by
  obtain ⟨h1, h2⟩ := trod_fields Tryd.underlying39 h
  rw [show Tryd.prog.cellsOf 39 = 5 by kernel_rfl] at h1
  have c3 : Tryd.prog.cellsOf 3 = 1 := by kernel_rfl
  have c37 : Tryd.prog.cellsOf 37 = 1 := by kernel_rfl
  match cs, h1 with
  | [a0, a1, a2, a3, a4], _ =>
    simp only [List.forall_mem_cons, c3, c37, List.drop_succ_cons, List.drop_zero, List.take_succ_cons, List.take_zero] at h2
    obtain ⟨⟨_, _, f0⟩, ⟨_, _, f1⟩, ⟨_, _, f2⟩, ⟨_, _, f3⟩, ⟨_, _, f4⟩, _⟩ := h2
    obtain ⟨m0, e0, _, w0⟩ := DataW.trod_int Tryd.underlying37 f0
    obtain ⟨m1, e1, _, w1⟩ := DataW.trod_int Tryd.underlying3 f1
    obtain ⟨m2, e2, _, w2⟩ := DataW.trod_int Tryd.underlying3 f2
    obtain ⟨m3, e3, _, w3⟩ := DataW.trod_int Tryd.underlying3 f3
    obtain ⟨m4, e4, _, w4⟩ := DataW.trod_int Tryd.underlying3 f4
    obtain ⟨x0, rfl⟩ := bv_of (bounds_u64 w0)
    simp only [List.cons.injEq, and_true] at e0 e1 e2 e3 e4
    subst e0
    subst e1
    subst e2
    subst e3
    subst e4
    exact ⟨⟨x0, m1, m2, m3, m4⟩, rfl, ⟨bounds_i64 w1, bounds_i64 w2, bounds_i64 w3, bounds_i64 w4⟩⟩
set_option maxRecDepth 100000 in
theorem maxI_of {W : World} (h : W.ShapedOpen Tryd.prog) : MaxI W :=
  cell_of_shapedOpen_int (zero := #[.int .i64 0]) (t := 3) h (of_decide_eq_true (by kernel_rfl)) (by kernel_rfl) (by kernel_rfl) (by kernel_rfl) (by kernel_rfl) Tryd.underlying3
end Go.Eng
