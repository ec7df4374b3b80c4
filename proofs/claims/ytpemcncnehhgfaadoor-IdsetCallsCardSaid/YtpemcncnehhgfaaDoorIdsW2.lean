/- The walk of a law of sets of numbers: what is in a set. No condition. -/
import Derived.Test.YtpemcncnehhgfaaDoorIdsW
set_option linter.unusedVariables false
set_option linter.unusedSimpArgs false
namespace Go.Eng
open Go Go.Proofs Go.RowKit

theorem first_list {s : BitVec 64} {f : Int} (h : (listI s = [] ∧ f = -1) ∨ ((listI s)[0]? = some f)) : firstI s = f := by
  rw [firstI_list]
  cases hl : listI s with
  | nil => rw [hl] at h; rcases h with h | h; exact h.2.symm; cases h
  | cons a l => rw [hl] at h; rcases h with h | h; (cases h.1); (simp at h; exact h)
theorem listI_at {s : BitVec 64} {k i : Nat} (h : (allL s)[k]? = some i) : k < (listI s).length ∧ (listI s).getD k 0 = (i : Int) := by
  have := listI_get h
  exact ⟨(List.getElem?_eq_some_iff.1 this).1, by rw [List.getD_eq_getElem?_getD, this]; rfl⟩
set_option maxRecDepth 100000 in
set_option maxHeartbeats 2000000 in
theorem idsetCalls (s : BitVec 64) (i n : Int) (w : World) (hT : Tab w) (hn : 0 ≤ n ∧ n ≤ 255) : Ret Tryd.prog 4 #[U s, .int .i64 i, .int .u8 n] w (fun v w' => v = .bool true ∧ Ext w w') := by
  have hll := listI_len s; have hl64 := allL_len s
  refine Ret.enterM (l := [U s, .int .i64 i, .int .u8 n]) Tryd.func4 rfl Tryd.ntmps4 rfl ([]) (no) (Mem.nil w) ?_
  refine wpM.seq ?_
  refine wpM.region ?_
  refine LM.box rfl rfl (fun b5 hb5 => ?_)
  refine LM.alloc Tryd.zeroValue4 rfl (fun b6 hb6 => ?_)
  refine LM.nil ?_
  refine QM.sub (e' := [(0, _), (1, _), (5, _), (6, _)]) ⟨rfl, rfl, rfl, rfl, trivial⟩ ?_
  refine QM.then ?_
  refine wpM.seq ?_
  refine wpM.seq ?_
  refine wpM.region ?_
  refine LM.callE (oc_call (enters_fn Tryd.func13 (by kernel_rfl) rfl) rfl) (fun w hm hc hg => awake06 w (hT.ext hc)) ?_
  first | refine LM.val (ov_notD rfl) ?_ | refine LM.val (ov_not rfl) ?_
  refine LM.nil ?_
  refine QM.sub (e' := [(0, _), (1, _), (5, _), (6, _), (12, _)]) ⟨rfl, rfl, rfl, rfl, rfl, trivial⟩ ?_
  refine QM.then ?_
  first | refine wpM.condD rfl (fun h1 => ?_) (fun h1 => ?_) | refine wpM.condB rfl (fun h1 => ?_) (fun h1 => ?_)
  ·
    refine wpM.seq ?_
    refine wpM.region ?_
    refine LM.st Tryd.sizeOf4 rfl rfl rfl (by first | decide | exact Nat.le_of_ble_eq_true rfl | (simp; done) | (simp; omega)) rfl (fun hlt => absurd hlt (by omega)) ?_
    refine LM.nil ?_
    refine QM.sub (e' := [(6, _)]) ⟨rfl, trivial⟩ ?_
    refine QM.then ?_
    refine wpM.ret ?_
    refine QM.then_ret ?_
    refine QM.leaveCF Tryd.results4 rfl Tryd.isAgg4 rfl ?_
    intro w' hm' hc' hg'
    -- leaf 1: h1+
    first | exact ⟨rfl, hc'⟩ | (refine ⟨?_, hc'⟩; show Value.bool (decide (_ = _)) = _; simp; done) | (exfalso; first | contradiction | (simp at *; done))
  ·
    refine wpM.skip ?_
    refine QM.then ?_
    refine wpM.seq ?_
    refine wpM.region ?_
    refine LM.val (ov_move rfl) ?_
    refine LM.cS (oc_call (enters_fn Tryd.func17 (by kernel_rfl) rfl) rfl) (fun w hm hc hg => rlist_spec _ w) (fun ad14 n14 cap14 m14 hn14 hs14 => ?_)
    refine LM.alloc Tryd.zeroValue22 rfl (fun b7 hb7 => ?_)
    refine LM.st Tryd.sizeOf22 rfl rfl rfl (by first | decide | exact Nat.le_of_ble_eq_true rfl | (simp; done) | (simp; omega)) rfl (fun hlt => absurd hlt (by omega)) ?_
    refine LM.nil ?_
    refine QM.sub (e' := [(0, _), (1, _), (5, _), (6, _), (7, _)]) ⟨rfl, rfl, rfl, rfl, rfl, trivial⟩ ?_
    refine QM.then ?_
    refine wpM.seq ?_
    refine wpM.region ?_
    refine LM.alloc Tryd.zeroValue3 rfl (fun b8 hb8 => ?_)
    refine LM.st Tryd.sizeOf3 rfl rfl rfl (by first | decide | exact Nat.le_of_ble_eq_true rfl | (simp; done) | (simp; omega)) rfl (fun hlt => absurd hlt (by omega)) ?_
    refine LM.nil ?_
    refine QM.sub (e' := [(0, _), (1, _), (5, _), (6, _), (7, _), (8, _)]) ⟨rfl, rfl, rfl, rfl, rfl, rfl, trivial⟩ ?_
    refine QM.then ?_
    refine wpM.seq ?_
    refine wpM.seq ?_
    refine wpM.region ?_
    refine LM.val (ov_move rfl) ?_
    refine LM.callT (oc_call (enters_fn Tryd.func18 (by kernel_rfl) rfl) rfl) AllT.mono (fun w hm hc hg => all_spec s w) ?_
    rintro u16 m16 ⟨c1, rfl, rfl, hc1⟩ -
    refine LM.nil ?_
    refine QM.sub (e' := [(0, _), (1, _), (5, _), (6, _), (7, _), (8, _), (16, _)]) ⟨rfl, rfl, rfl, rfl, rfl, rfl, rfl, trivial⟩ ?_
    refine QM.then ?_
    refine wpM.block ?_
    refine wpM.toRange (α := Unit) (fun k ⟨⟩ => uBx c1 s :: (b8, .cells #[.int .i64 (k : Nat)] 3 (0, 0)) :: (b7, .cells #[.slice ad14 n14 cap14] 22 (0, 0)) :: (b5, .cells #[.int .u8 n] 5 (0, 0)) :: (b6, .cells #[.bool false] 4 (0, 0)) :: (m14 ++ [])) (⟨⟩) (by (repeat' (first | exact SubM.nil _ | refine SubM.cons rfl ?_ | refine SubM.app ?_))) ?_
    refine wpM.range (α := Unit) (β := Nat) (enters_fn Tryd.func56 (by kernel_rfl) rfl) rfl (all_seq (s := s)) (fun k ⟨⟩ => uBx c1 s :: (b8, .cells #[.int .i64 (k : Nat)] 3 (0, 0)) :: (b7, .cells #[.slice ad14 n14 cap14] 22 (0, 0)) :: (b5, .cells #[.int .u8 n] 5 (0, 0)) :: (b6, .cells #[.bool false] 4 (0, 0)) :: (m14 ++ [])) (fun _ _ => top) (fun k ⟨⟩ => k ≤ n.toNat ∧ k ≤ (allL s).length) (fun z => (b8, .cells #[.int .i64 (z : Nat)] 3 (0, 0)) :: (b7, .cells #[.slice ad14 n14 cap14] 22 (0, 0)) :: (b5, .cells #[.int .u8 n] 5 (0, 0)) :: (b6, .cells #[.bool false] 4 (0, 0)) :: (m14 ++ [])) (fun _ => top) (fun c z => c = .exit 0 ∧ (z : Int) = n + 1 ∧ z ≤ (allL s).length) ⟨⟩ rfl (fun _ h => h) ⟨Nat.zero_le _, Nat.zero_le _⟩ (by kernel_rfl) (by intro k av hav; obtain ⟨p, hp, rfl⟩ := allA_inv hav; rfl) (.inl trivial) (fun k a w hm hc _ _ => ⟨SubM.mem (by (repeat' (first | exact SubM.nil _ | refine SubM.cons rfl ?_ | refine SubM.app ?_))) w hm, hT.ext hc⟩) (fun _ _ _ _ => gl_top _) (fun _ _ _ => gl_top _) (fun k x _ => by refine mm_cons rfl (mm_cons rfl (mm_cons rfl (mm_cons rfl (mm_cons rfl ?_)))); exact fun p hp => .inl (by simp at hp; simp [hp])) (fun c z _ => by refine mm_cons rfl (mm_cons rfl (mm_cons rfl (mm_cons rfl ?_))); exact fun p hp => .inl (by simp at hp; simp [hp])) ?_ ?_ ?_ ?_
    ·
      rintro k av ⟨⟩ l D rc n1 W1 hD hll hput hrc hav ⟨hk, hk2⟩
      change wpM _ _ _ _ _ _ _ ((l, Obj.loop rc) :: ([(D, Obj.deferred (some []))] ++ (uBx c1 s :: (b8, .cells #[.int .i64 (k : Nat)] 3 (0, 0)) :: (b7, .cells #[.slice ad14 n14 cap14] 22 (0, 0)) :: (b5, .cells #[.int .u8 n] 5 (0, 0)) :: (b6, .cells #[.bool false] 4 (0, 0)) :: (m14 ++ [])))) _ _ _
      obtain ⟨p, hp, rfl⟩ := allA_inv hav
      obtain ⟨hpl, hpv⟩ := listI_at hp
      refine wpM.region ?_
      refine LM.val (ov_assign rfl) ?_
      refine LM.nil ?_
      refine QM.sub (e' := [(0, _), (1, _), (5, _), (6, _), (7, _), (8, _), (9, _)]) ⟨rfl, rfl, rfl, rfl, rfl, rfl, rfl, trivial⟩ ?_
      refine QM.toBodyF (hput k ⟨⟩) hll ?_
      refine wpM.block ?_
      refine wpM.seq ?_
      refine wpM.seq ?_
      refine wpM.region ?_
      first | refine LM.rd (om_ld Tryd.isAgg3 rfl rfl) ?_
      first | refine LM.rd (om_ld Tryd.isAgg22 rfl rfl) ?_
      refine LM.val (ov_len Tryd.underlying22 rfl) ?_
      refine LM.val (ov_geq rfl rfl) ?_
      refine LM.val (ov_move rfl) ?_
      first | refine LM.splitD (t := 22) rfl (fun h2 => ?_) (fun h2 => ?_) | refine LM.splitB (t := 22) rfl (fun h2 => ?_) (fun h2 => ?_)
      ·
        exfalso; omega
      ·
        refine LM.strip (t := 22) rfl rfl rfl ?_
        first | refine LM.rd (om_ld Tryd.isAgg22 rfl rfl) ?_
        refine LM.strip (t := 22) rfl rfl rfl ?_
        first | refine LM.rd (om_ld Tryd.isAgg3 rfl rfl) ?_
        refine LM.strip (t := 22) rfl rfl rfl ?_
        first | refine LM.val (ov_idxSN (by first | exact Sr.spt (by assumption) | exact Sl.spt (by assumption)) Tryd.underlying22 Tryd.sizeOf3 rfl rfl (by omega)) ?_ | refine LM.val (ov_idxS (by first | exact Sr.spt (by assumption) | exact Sl.spt (by assumption)) Tryd.underlying22 Tryd.sizeOf3 rfl rfl (by omega)) ?_ | refine LM.val (ov_idx1 Tryd.underlying22 Tryd.sizeOf3 rfl rfl (by omega)) ?_
        refine LM.strip (t := 22) rfl rfl rfl ?_
        refine LM.rd (om_sl1 hs14 (by intro _; rfl) Tryd.isAgg3 rfl rfl (getq 0 (by omega)) (by rfl)) ?_
        refine LM.strip (t := 22) rfl rfl rfl ?_
        refine LM.val (ov_move rfl) ?_
        refine LM.strip (t := 22) rfl rfl rfl ?_
        refine LM.val (ov_neq rfl rfl) ?_
        refine LM.val (ov_pickF rfl rfl) ?_
        refine LM.nil ?_
        refine QM.sub (e' := [(0, _), (1, _), (5, _), (6, _), (7, _), (8, _), (29, _)]) ⟨rfl, rfl, rfl, rfl, rfl, rfl, rfl, trivial⟩ ?_
        refine QM.then ?_
        first | refine wpM.condD rfl (fun h3 => ?_) (fun h3 => ?_) | refine wpM.condB rfl (fun h3 => ?_) (fun h3 => ?_)
        ·
          exact absurd hpv h3
        ·
          refine wpM.skip ?_
          refine QM.then ?_
          refine wpM.seq ?_
          refine wpM.region ?_
          first | refine LM.rd (om_ld Tryd.isAgg3 rfl rfl) ?_
          refine LM.val (ov_add64 rfl rfl (by omega)) ?_
          refine LM.st Tryd.sizeOf3 rfl rfl rfl (by first | decide | exact Nat.le_of_ble_eq_true rfl | (simp; done) | (simp; omega)) rfl (fun hlt => absurd hlt (by omega)) ?_
          refine LM.nil ?_
          refine QM.sub (e' := [(0, _), (1, _), (5, _), (6, _), (7, _), (8, _)]) ⟨rfl, rfl, rfl, rfl, rfl, rfl, trivial⟩ ?_
          refine QM.then ?_
          refine wpM.seq ?_
          refine wpM.region ?_
          first | refine LM.rd (om_ld Tryd.isAgg3 rfl rfl) ?_
          first | refine LM.rd (om_ld Tryd.isAgg5 rfl rfl) ?_
          refine LM.val (ov_to64 Tryd.underlying5 Tryd.underlying3 rfl (by omega)) ?_
          refine LM.val (ov_gtr rfl rfl) ?_
          refine LM.nil ?_
          refine QM.sub (e' := [(0, _), (1, _), (5, _), (6, _), (7, _), (8, _), (35, _)]) ⟨rfl, rfl, rfl, rfl, rfl, rfl, rfl, trivial⟩ ?_
          refine QM.then ?_
          first | refine wpM.condD rfl (fun h4 => ?_) (fun h4 => ?_) | refine wpM.condB rfl (fun h4 => ?_) (fun h4 => ?_)
          ·
            refine wpM.exit ?_
            refine QM.block_miss rfl ?_
            -- exit1: h1- h2- h3- h4+
            refine QM.rexit (k + 1) (SubM.mem (by (repeat' (first | exact SubM.nil _ | refine SubM.cons rfl ?_ | refine SubM.app ?_)))) (fun _ h => h) ?_
            · exact ⟨rfl, by omega, by omega⟩
          ·
            refine wpM.skip ?_
            refine QM.block_normal ?_
            -- next1: h1- h2- h3- h4-
            refine QM.next (⟨⟩) (SubM.mem (by (repeat' (first | exact SubM.nil _ | refine SubM.cons rfl ?_ | refine SubM.app ?_)))) (fun _ h => h) ?_
            · exact ⟨by omega, by omega⟩
    ·
      rintro ⟨⟩ D0 hD0 ⟨hk, hk2⟩
      rw [allA_len] at hk hk2; rw [allA_len]
      refine QM.sub (e' := [(0, _), (1, _), (5, _), (6, _), (7, _), (8, _)]) ⟨rfl, rfl, rfl, rfl, rfl, rfl, trivial⟩ ?_
      refine QM.block_normal ?_
      refine QM.then ?_
      refine wpM.seq ?_
      refine wpM.region ?_
      refine LM.val (ov_assign rfl) ?_
      refine LM.nil ?_
      refine QM.sub (e' := [(0, _), (1, _), (5, _), (6, _), (7, _), (8, _), (10, _)]) ⟨rfl, rfl, rfl, rfl, rfl, rfl, rfl, trivial⟩ ?_
      refine QM.then ?_
      refine wpM.seq ?_
      refine wpM.seq ?_
      refine wpM.region ?_
      first | refine LM.rd (om_ld Tryd.isAgg22 rfl rfl) ?_
      refine LM.val (ov_len Tryd.underlying22 rfl) ?_
      refine LM.val (ov_gtr rfl rfl) ?_
      refine LM.nil ?_
      refine QM.sub (e' := [(0, _), (1, _), (5, _), (6, _), (7, _), (8, _), (10, _), (38, _)]) ⟨rfl, rfl, rfl, rfl, rfl, rfl, rfl, rfl, trivial⟩ ?_
      refine QM.then ?_
      refine wpM.joinK (α := Int × Int) (fun ⟨f, c⟩ => [(10, .int .i64 f)]) [(0, _), (1, _), (5, _), (6, _), (7, _), (8, _)] (fun ⟨f, c⟩ => (D0, .deferred (some [])) :: (b8, .cells #[.int .i64 c] 3 (0, 0)) :: (b7, .cells #[.slice ad14 n14 cap14] 22 (0, 0)) :: (b5, .cells #[.int .u8 n] 5 (0, 0)) :: (b6, .cells #[.bool false] 4 (0, 0)) :: (m14 ++ [])) (fun ⟨f, c⟩ => firstI s = f ∧ c = (if n + 1 < (n14 : Int) then n + 1 else (n14 : Int))) ⟨rfl, rfl, rfl, rfl, rfl, rfl, trivial⟩ ?_ ?_
      ·
        first | refine wpM.condD rfl (fun h5 => ?_) (fun h5 => ?_) | refine wpM.condB rfl (fun h5 => ?_) (fun h5 => ?_)
        ·
          refine wpM.region ?_
          first | refine LM.rd (om_ld Tryd.isAgg22 rfl rfl) ?_
          first | refine LM.val (ov_idxSN (i := 0) (by first | exact Sr.spt (by assumption) | exact Sl.spt (by assumption)) Tryd.underlying22 Tryd.sizeOf3 rfl rfl (by omega)) ?_ | refine LM.val (ov_idxSN (by first | exact Sr.spt (by assumption) | exact Sl.spt (by assumption)) Tryd.underlying22 Tryd.sizeOf3 rfl rfl (by omega)) ?_ | refine LM.val (ov_idxS (by first | exact Sr.spt (by assumption) | exact Sl.spt (by assumption)) Tryd.underlying22 Tryd.sizeOf3 rfl rfl (by omega)) ?_ | refine LM.val (ov_idx1 Tryd.underlying22 Tryd.sizeOf3 rfl rfl (by omega)) ?_
          refine LM.rd (om_sl1 hs14 (by intro _; rfl) Tryd.isAgg3 rfl rfl (show (listI s)[0]? = some ((listI s).getD 0 0) from getq 0 (by omega)) (by rfl)) ?_
          refine LM.val (ov_assign rfl) ?_
          refine LM.nil ?_
          refine QM.sub (e' := [(0, _), (1, _), (5, _), (6, _), (7, _), (8, _), (10, _)]) ⟨rfl, rfl, rfl, rfl, rfl, rfl, rfl, trivial⟩ ?_
          -- meet1: h1- h5+
          refine QM.meetK ((listI s).getD 0 0, ((allL s).length : Nat)) ⟨(by first | rfl | exact lk rfl (by congr 1; omega) | exact lk rfl (by simp)), rfl, rfl, rfl, rfl, rfl, rfl, trivial⟩ (by (repeat' (first | exact SubM.nil _ | refine SubM.cons rfl ?_ | refine SubM.app ?_))) ?_
          · exact ⟨first_list (.inr (getq 0 (by omega))), by split <;> omega⟩
        ·
          refine wpM.skip ?_
          -- meet2: h1- h5-
          refine QM.meetK (-1, ((allL s).length : Nat)) ⟨(by first | rfl | exact lk rfl (by congr 1; omega) | exact lk rfl (by simp)), rfl, rfl, rfl, rfl, rfl, rfl, trivial⟩ (by (repeat' (first | exact SubM.nil _ | refine SubM.cons rfl ?_ | refine SubM.app ?_))) ?_
          · exact ⟨first_list (.inl ⟨List.eq_nil_of_length_eq_zero (by omega), rfl⟩), by split <;> omega⟩
      ·
        rintro ⟨f, c⟩ ⟨hfi, hcn⟩
        change QM _ _ _ _ _ ((D0, .deferred (some [])) :: (b8, .cells #[.int .i64 c] 3 (0, 0)) :: (b7, .cells #[.slice ad14 n14 cap14] 22 (0, 0)) :: (b5, .cells #[.int .u8 n] 5 (0, 0)) :: (b6, .cells #[.bool false] 4 (0, 0)) :: (m14 ++ [])) _ _ _
        refine QM.then ?_
        refine wpM.seq ?_
        refine wpM.draw [(0, 1), (1, 1), (2, 0), (3, 1), (4, 0), (5, 0), (6, 0), (7, 0), (8, 0), (9, 0), (10, 0), (12, 0), (13, 0), (11, 2), (14, 2), (15, 0), (16, 0), (17, 0), (18, 0), (19, 0), (21, 0), (22, 0), (20, 2), (23, 2), (24, 0), (25, 0), (26, 0), (27, 0), (28, 0), (30, 0), (31, 0), (29, 2), (32, 2), (33, 0), (34, 0), (35, 0), (36, 0), (38, 1), (39, 0), (37, 2), (40, 0), (41, 0), (42, 0), (43, 0), (45, 0), (44, 2), (46, 0), (47, 0), (48, 3)] (by kernel_rfl) (by kernel_rfl) ?_
        first | refine LD.rd rfl rfl (om_ld Tryd.isAgg3 rfl rfl) ?_
        first | refine LD.rd rfl rfl (om_ld Tryd.isAgg22 rfl rfl) ?_
        refine LD.val rfl rfl (ov_len Tryd.underlying22 rfl) ?_
        first | refine LD.rd rfl rfl (om_ld Tryd.isAgg5 rfl rfl) ?_
        refine LD.val rfl rfl (ov_to64 Tryd.underlying5 Tryd.underlying3 rfl (by omega)) ?_
        refine LD.val rfl rfl (ov_add64 rfl rfl (by omega)) ?_
        refine LD.val rfl rfl (ov_min rfl rfl) ?_
        refine LD.val rfl rfl (ov_eql rfl rfl) ?_
        refine LD.val rfl rfl (ov_move rfl) ?_
        first | refine LD.splitD (t := 50) rfl (fun h6 => ?_) (fun h6 => ?_) | refine LD.splitB (t := 50) rfl (fun h6 => ?_) (fun h6 => ?_)
        ·
          refine LD.val rfl ⟨50, _, rfl, rfl, rfl⟩ (ov_move rfl) ?_
          refine LD.val rfl ⟨50, _, rfl, rfl, rfl⟩ (ov_move rfl) ?_
          refine LD.val rfl ⟨50, _, rfl, rfl, rfl⟩ (ov_move rfl) ?_
          refine LD.val rfl ⟨50, _, rfl, rfl, rfl⟩ (ov_move rfl) ?_
          refine LD.callE rfl ⟨50, _, rfl, rfl, rfl⟩ (oc_call (enters_fn Tryd.func19 (by kernel_rfl) rfl) rfl) (fun w hm hc hg => has_spec _ _ w) ?_
          refine LD.callE rfl ⟨50, _, rfl, rfl, rfl⟩ (oc_call (enters_fn Tryd.func20 (by kernel_rfl) rfl) rfl) (fun w hm hc hg => rhas_spec _ _ w) ?_
          refine LD.val rfl ⟨50, _, rfl, rfl, rfl⟩ (ov_beql Tryd.underlying4 rfl rfl) ?_
          refine LD.val rfl rfl (ov_pickT rfl rfl) ?_
          refine LD.val rfl rfl (ov_move rfl) ?_
          first | refine LD.splitD (t := 59) rfl (fun h7 => ?_) (fun h7 => ?_) | refine LD.splitB (t := 59) rfl (fun h7 => ?_) (fun h7 => ?_)
          ·
            refine LD.val rfl ⟨59, _, rfl, rfl, rfl⟩ (ov_move rfl) ?_
            refine LD.val rfl ⟨59, _, rfl, rfl, rfl⟩ (ov_move rfl) ?_
            refine LD.val rfl ⟨59, _, rfl, rfl, rfl⟩ (ov_move rfl) ?_
            refine LD.val rfl ⟨59, _, rfl, rfl, rfl⟩ (ov_move rfl) ?_
            refine LD.callE rfl ⟨59, _, rfl, rfl, rfl⟩ (oc_call (enters_fn Tryd.func21 (by kernel_rfl) rfl) rfl) (fun w hm hc hg => with_spec _ _ w) ?_
            refine LD.callE rfl ⟨59, _, rfl, rfl, rfl⟩ (oc_call (enters_fn Tryd.func15 (by kernel_rfl) rfl) rfl) (fun w hm hc hg => rwith_spec _ _ w) ?_
            refine LD.val rfl ⟨59, _, rfl, rfl, rfl⟩ (ov_ueql rfl rfl) ?_
            refine LD.val rfl rfl (ov_pickT rfl rfl) ?_
            refine LD.val rfl rfl (ov_move rfl) ?_
            first | refine LD.splitD (t := 68) rfl (fun h8 => ?_) (fun h8 => ?_) | refine LD.splitB (t := 68) rfl (fun h8 => ?_) (fun h8 => ?_)
            ·
              refine LD.val rfl ⟨68, _, rfl, rfl, rfl⟩ (ov_move rfl) ?_
              refine LD.val rfl ⟨68, _, rfl, rfl, rfl⟩ (ov_move rfl) ?_
              refine LD.val rfl ⟨68, _, rfl, rfl, rfl⟩ (ov_move rfl) ?_
              refine LD.val rfl ⟨68, _, rfl, rfl, rfl⟩ (ov_move rfl) ?_
              refine LD.callE rfl ⟨68, _, rfl, rfl, rfl⟩ (oc_call (enters_fn Tryd.func22 (by kernel_rfl) rfl) rfl) (fun w hm hc hg => without_spec _ _ w) ?_
              refine LD.callE rfl ⟨68, _, rfl, rfl, rfl⟩ (oc_call (enters_fn Tryd.func23 (by kernel_rfl) rfl) rfl) (fun w hm hc hg => rwithout_spec _ _ w) ?_
              refine LD.val rfl ⟨68, _, rfl, rfl, rfl⟩ (ov_ueql rfl rfl) ?_
              refine LD.val rfl rfl (ov_pickT rfl rfl) ?_
              refine LD.val rfl rfl (ov_move rfl) ?_
              first | refine LD.splitD (t := 77) rfl (fun h9 => ?_) (fun h9 => ?_) | refine LD.splitB (t := 77) rfl (fun h9 => ?_) (fun h9 => ?_)
              ·
                refine LD.val rfl ⟨77, _, rfl, rfl, rfl⟩ (ov_move rfl) ?_
                first | refine LD.rd rfl ⟨77, _, rfl, rfl, rfl⟩ (om_ld Tryd.isAgg22 rfl rfl) ?_
                refine LD.val rfl ⟨77, _, rfl, rfl, rfl⟩ (ov_len Tryd.underlying22 rfl) ?_
                refine LD.callE rfl ⟨77, _, rfl, rfl, rfl⟩ (oc_call (enters_fn Tryd.func24 (by kernel_rfl) rfl) rfl) (fun w hm hc hg => len_at (show lenI s = (n14 : Int) by rw [lenI_eq, hn14, hll]) w) ?_
                refine LD.val rfl ⟨77, _, rfl, rfl, rfl⟩ (ov_eql rfl rfl) ?_
                refine LD.val rfl rfl (ov_pickT rfl rfl) ?_
                refine LD.val rfl rfl (ov_move rfl) ?_
                first | refine LD.splitD (t := 84) rfl (fun h10 => ?_) (fun h10 => ?_) | refine LD.splitB (t := 84) rfl (fun h10 => ?_) (fun h10 => ?_)
                ·
                  refine LD.val rfl ⟨84, _, rfl, rfl, rfl⟩ (ov_move rfl) ?_
                  refine LD.val rfl ⟨84, _, rfl, rfl, rfl⟩ (ov_move rfl) ?_
                  refine LD.callE rfl ⟨84, _, rfl, rfl, rfl⟩ (oc_call (enters_fn Tryd.func25 (by kernel_rfl) rfl) rfl) (fun w hm hc hg => first_at hfi w (hT.ext hc)) ?_
                  refine LD.val rfl ⟨84, _, rfl, rfl, rfl⟩ (ov_eql rfl rfl) ?_
                  refine LD.val rfl rfl (ov_pickT rfl rfl) ?_
                  refine LD.tail rfl rfl ?_
                  refine LM.st Tryd.sizeOf4 rfl rfl rfl (by first | decide | exact Nat.le_of_ble_eq_true rfl | (simp; done) | (simp; omega)) rfl (fun hlt => absurd hlt (by omega)) ?_
                  refine LM.nil ?_
                  refine QM.qn ?_
                  refine QM.sub (e' := [(6, _)]) ⟨rfl, trivial⟩ ?_
                  refine QM.then ?_
                  refine wpM.ret ?_
                  refine QM.leaveCDF (ds := [D0]) Tryd.results4 rfl (fun D h => by simp only [List.mem_cons, List.not_mem_nil, or_false] at h; omega) Tryd.isAgg4 rfl ?_
                  intro w' hm' hc'
                  -- leaf 2: h1- h6+ h7+ h8+ h9+ h10+
                  first | exact ⟨rfl, hc'⟩ | (refine ⟨?_, hc'⟩; show Value.bool (decide (_ = _)) = _; simp; done) | (exfalso; first | contradiction | (simp at *; done))
                ·
                  refine LD.drop rfl rfl ⟨84, _, rfl, rfl, rfl⟩ ?_
                  refine LD.drop rfl rfl ⟨84, _, rfl, rfl, rfl⟩ ?_
                  refine LD.drop rfl rfl ⟨84, _, rfl, rfl, rfl⟩ ?_
                  refine LD.drop rfl rfl ⟨84, _, rfl, rfl, rfl⟩ ?_
                  refine LD.val rfl rfl (ov_pickF rfl rfl) ?_
                  refine LD.tail rfl rfl ?_
                  refine LM.st Tryd.sizeOf4 rfl rfl rfl (by first | decide | exact Nat.le_of_ble_eq_true rfl | (simp; done) | (simp; omega)) rfl (fun hlt => absurd hlt (by omega)) ?_
                  refine LM.nil ?_
                  refine QM.qn ?_
                  refine QM.sub (e' := [(6, _)]) ⟨rfl, trivial⟩ ?_
                  refine QM.then ?_
                  refine wpM.ret ?_
                  refine QM.leaveCDF (ds := [D0]) Tryd.results4 rfl (fun D h => by simp only [List.mem_cons, List.not_mem_nil, or_false] at h; omega) Tryd.isAgg4 rfl ?_
                  intro w' hm' hc'
                  -- leaf 3: h1- h6+ h7+ h8+ h9+ h10-
                  first | exact ⟨rfl, hc'⟩ | (refine ⟨?_, hc'⟩; show Value.bool (decide (_ = _)) = _; simp; done) | (exfalso; first | contradiction | (simp at *; done))
              ·
                refine LD.drop rfl rfl ⟨77, _, rfl, rfl, rfl⟩ ?_
                refine LD.drop rfl rfl ⟨77, _, rfl, rfl, rfl⟩ ?_
                refine LD.drop rfl rfl ⟨77, _, rfl, rfl, rfl⟩ ?_
                refine LD.drop rfl rfl ⟨77, _, rfl, rfl, rfl⟩ ?_
                refine LD.drop rfl rfl ⟨77, _, rfl, rfl, rfl⟩ ?_
                refine LD.val rfl rfl (ov_pickF rfl rfl) ?_
                refine LD.val rfl rfl (ov_move rfl) ?_
                refine LD.drop rfl rfl ⟨84, _, rfl, rfl, rfl⟩ ?_
                refine LD.drop rfl rfl ⟨84, _, rfl, rfl, rfl⟩ ?_
                refine LD.drop rfl rfl ⟨84, _, rfl, rfl, rfl⟩ ?_
                refine LD.drop rfl rfl ⟨84, _, rfl, rfl, rfl⟩ ?_
                refine LD.val rfl rfl (ov_pickF rfl rfl) ?_
                refine LD.tail rfl rfl ?_
                refine LM.st Tryd.sizeOf4 rfl rfl rfl (by first | decide | exact Nat.le_of_ble_eq_true rfl | (simp; done) | (simp; omega)) rfl (fun hlt => absurd hlt (by omega)) ?_
                refine LM.nil ?_
                refine QM.qn ?_
                refine QM.sub (e' := [(6, _)]) ⟨rfl, trivial⟩ ?_
                refine QM.then ?_
                refine wpM.ret ?_
                refine QM.leaveCDF (ds := [D0]) Tryd.results4 rfl (fun D h => by simp only [List.mem_cons, List.not_mem_nil, or_false] at h; omega) Tryd.isAgg4 rfl ?_
                intro w' hm' hc'
                -- leaf 4: h1- h6+ h7+ h8+ h9-
                first | exact ⟨rfl, hc'⟩ | (refine ⟨?_, hc'⟩; show Value.bool (decide (_ = _)) = _; simp; done) | (exfalso; first | contradiction | (simp at *; done))
            ·
              refine LD.drop rfl rfl ⟨68, _, rfl, rfl, rfl⟩ ?_
              refine LD.drop rfl rfl ⟨68, _, rfl, rfl, rfl⟩ ?_
              refine LD.drop rfl rfl ⟨68, _, rfl, rfl, rfl⟩ ?_
              refine LD.drop rfl rfl ⟨68, _, rfl, rfl, rfl⟩ ?_
              refine LD.drop rfl rfl ⟨68, _, rfl, rfl, rfl⟩ ?_
              refine LD.drop rfl rfl ⟨68, _, rfl, rfl, rfl⟩ ?_
              refine LD.drop rfl rfl ⟨68, _, rfl, rfl, rfl⟩ ?_
              refine LD.val rfl rfl (ov_pickF rfl rfl) ?_
              refine LD.val rfl rfl (ov_move rfl) ?_
              refine LD.drop rfl rfl ⟨77, _, rfl, rfl, rfl⟩ ?_
              refine LD.drop rfl rfl ⟨77, _, rfl, rfl, rfl⟩ ?_
              refine LD.drop rfl rfl ⟨77, _, rfl, rfl, rfl⟩ ?_
              refine LD.drop rfl rfl ⟨77, _, rfl, rfl, rfl⟩ ?_
              refine LD.drop rfl rfl ⟨77, _, rfl, rfl, rfl⟩ ?_
              refine LD.val rfl rfl (ov_pickF rfl rfl) ?_
              refine LD.val rfl rfl (ov_move rfl) ?_
              refine LD.drop rfl rfl ⟨84, _, rfl, rfl, rfl⟩ ?_
              refine LD.drop rfl rfl ⟨84, _, rfl, rfl, rfl⟩ ?_
              refine LD.drop rfl rfl ⟨84, _, rfl, rfl, rfl⟩ ?_
              refine LD.drop rfl rfl ⟨84, _, rfl, rfl, rfl⟩ ?_
              refine LD.val rfl rfl (ov_pickF rfl rfl) ?_
              refine LD.tail rfl rfl ?_
              refine LM.st Tryd.sizeOf4 rfl rfl rfl (by first | decide | exact Nat.le_of_ble_eq_true rfl | (simp; done) | (simp; omega)) rfl (fun hlt => absurd hlt (by omega)) ?_
              refine LM.nil ?_
              refine QM.qn ?_
              refine QM.sub (e' := [(6, _)]) ⟨rfl, trivial⟩ ?_
              refine QM.then ?_
              refine wpM.ret ?_
              refine QM.leaveCDF (ds := [D0]) Tryd.results4 rfl (fun D h => by simp only [List.mem_cons, List.not_mem_nil, or_false] at h; omega) Tryd.isAgg4 rfl ?_
              intro w' hm' hc'
              -- leaf 5: h1- h6+ h7+ h8-
              first | exact ⟨rfl, hc'⟩ | (refine ⟨?_, hc'⟩; show Value.bool (decide (_ = _)) = _; simp; done) | (exfalso; first | contradiction | (simp at *; done))
          ·
            refine LD.drop rfl rfl ⟨59, _, rfl, rfl, rfl⟩ ?_
            refine LD.drop rfl rfl ⟨59, _, rfl, rfl, rfl⟩ ?_
            refine LD.drop rfl rfl ⟨59, _, rfl, rfl, rfl⟩ ?_
            refine LD.drop rfl rfl ⟨59, _, rfl, rfl, rfl⟩ ?_
            refine LD.drop rfl rfl ⟨59, _, rfl, rfl, rfl⟩ ?_
            refine LD.drop rfl rfl ⟨59, _, rfl, rfl, rfl⟩ ?_
            refine LD.drop rfl rfl ⟨59, _, rfl, rfl, rfl⟩ ?_
            refine LD.val rfl rfl (ov_pickF rfl rfl) ?_
            refine LD.val rfl rfl (ov_move rfl) ?_
            refine LD.drop rfl rfl ⟨68, _, rfl, rfl, rfl⟩ ?_
            refine LD.drop rfl rfl ⟨68, _, rfl, rfl, rfl⟩ ?_
            refine LD.drop rfl rfl ⟨68, _, rfl, rfl, rfl⟩ ?_
            refine LD.drop rfl rfl ⟨68, _, rfl, rfl, rfl⟩ ?_
            refine LD.drop rfl rfl ⟨68, _, rfl, rfl, rfl⟩ ?_
            refine LD.drop rfl rfl ⟨68, _, rfl, rfl, rfl⟩ ?_
            refine LD.drop rfl rfl ⟨68, _, rfl, rfl, rfl⟩ ?_
            refine LD.val rfl rfl (ov_pickF rfl rfl) ?_
            refine LD.val rfl rfl (ov_move rfl) ?_
            refine LD.drop rfl rfl ⟨77, _, rfl, rfl, rfl⟩ ?_
            refine LD.drop rfl rfl ⟨77, _, rfl, rfl, rfl⟩ ?_
            refine LD.drop rfl rfl ⟨77, _, rfl, rfl, rfl⟩ ?_
            refine LD.drop rfl rfl ⟨77, _, rfl, rfl, rfl⟩ ?_
            refine LD.drop rfl rfl ⟨77, _, rfl, rfl, rfl⟩ ?_
            refine LD.val rfl rfl (ov_pickF rfl rfl) ?_
            refine LD.val rfl rfl (ov_move rfl) ?_
            refine LD.drop rfl rfl ⟨84, _, rfl, rfl, rfl⟩ ?_
            refine LD.drop rfl rfl ⟨84, _, rfl, rfl, rfl⟩ ?_
            refine LD.drop rfl rfl ⟨84, _, rfl, rfl, rfl⟩ ?_
            refine LD.drop rfl rfl ⟨84, _, rfl, rfl, rfl⟩ ?_
            refine LD.val rfl rfl (ov_pickF rfl rfl) ?_
            refine LD.tail rfl rfl ?_
            refine LM.st Tryd.sizeOf4 rfl rfl rfl (by first | decide | exact Nat.le_of_ble_eq_true rfl | (simp; done) | (simp; omega)) rfl (fun hlt => absurd hlt (by omega)) ?_
            refine LM.nil ?_
            refine QM.qn ?_
            refine QM.sub (e' := [(6, _)]) ⟨rfl, trivial⟩ ?_
            refine QM.then ?_
            refine wpM.ret ?_
            refine QM.leaveCDF (ds := [D0]) Tryd.results4 rfl (fun D h => by simp only [List.mem_cons, List.not_mem_nil, or_false] at h; omega) Tryd.isAgg4 rfl ?_
            intro w' hm' hc'
            -- leaf 6: h1- h6+ h7-
            first | exact ⟨rfl, hc'⟩ | (refine ⟨?_, hc'⟩; show Value.bool (decide (_ = _)) = _; simp; done) | (exfalso; first | contradiction | (simp at *; done))
        ·
          refine LD.drop rfl rfl ⟨50, _, rfl, rfl, rfl⟩ ?_
          refine LD.drop rfl rfl ⟨50, _, rfl, rfl, rfl⟩ ?_
          refine LD.drop rfl rfl ⟨50, _, rfl, rfl, rfl⟩ ?_
          refine LD.drop rfl rfl ⟨50, _, rfl, rfl, rfl⟩ ?_
          refine LD.drop rfl rfl ⟨50, _, rfl, rfl, rfl⟩ ?_
          refine LD.drop rfl rfl ⟨50, _, rfl, rfl, rfl⟩ ?_
          refine LD.drop rfl rfl ⟨50, _, rfl, rfl, rfl⟩ ?_
          refine LD.val rfl rfl (ov_pickF rfl rfl) ?_
          refine LD.val rfl rfl (ov_move rfl) ?_
          refine LD.drop rfl rfl ⟨59, _, rfl, rfl, rfl⟩ ?_
          refine LD.drop rfl rfl ⟨59, _, rfl, rfl, rfl⟩ ?_
          refine LD.drop rfl rfl ⟨59, _, rfl, rfl, rfl⟩ ?_
          refine LD.drop rfl rfl ⟨59, _, rfl, rfl, rfl⟩ ?_
          refine LD.drop rfl rfl ⟨59, _, rfl, rfl, rfl⟩ ?_
          refine LD.drop rfl rfl ⟨59, _, rfl, rfl, rfl⟩ ?_
          refine LD.drop rfl rfl ⟨59, _, rfl, rfl, rfl⟩ ?_
          refine LD.val rfl rfl (ov_pickF rfl rfl) ?_
          refine LD.val rfl rfl (ov_move rfl) ?_
          refine LD.drop rfl rfl ⟨68, _, rfl, rfl, rfl⟩ ?_
          refine LD.drop rfl rfl ⟨68, _, rfl, rfl, rfl⟩ ?_
          refine LD.drop rfl rfl ⟨68, _, rfl, rfl, rfl⟩ ?_
          refine LD.drop rfl rfl ⟨68, _, rfl, rfl, rfl⟩ ?_
          refine LD.drop rfl rfl ⟨68, _, rfl, rfl, rfl⟩ ?_
          refine LD.drop rfl rfl ⟨68, _, rfl, rfl, rfl⟩ ?_
          refine LD.drop rfl rfl ⟨68, _, rfl, rfl, rfl⟩ ?_
          refine LD.val rfl rfl (ov_pickF rfl rfl) ?_
          refine LD.val rfl rfl (ov_move rfl) ?_
          refine LD.drop rfl rfl ⟨77, _, rfl, rfl, rfl⟩ ?_
          refine LD.drop rfl rfl ⟨77, _, rfl, rfl, rfl⟩ ?_
          refine LD.drop rfl rfl ⟨77, _, rfl, rfl, rfl⟩ ?_
          refine LD.drop rfl rfl ⟨77, _, rfl, rfl, rfl⟩ ?_
          refine LD.drop rfl rfl ⟨77, _, rfl, rfl, rfl⟩ ?_
          refine LD.val rfl rfl (ov_pickF rfl rfl) ?_
          refine LD.val rfl rfl (ov_move rfl) ?_
          refine LD.drop rfl rfl ⟨84, _, rfl, rfl, rfl⟩ ?_
          refine LD.drop rfl rfl ⟨84, _, rfl, rfl, rfl⟩ ?_
          refine LD.drop rfl rfl ⟨84, _, rfl, rfl, rfl⟩ ?_
          refine LD.drop rfl rfl ⟨84, _, rfl, rfl, rfl⟩ ?_
          refine LD.val rfl rfl (ov_pickF rfl rfl) ?_
          refine LD.tail rfl rfl ?_
          refine LM.st Tryd.sizeOf4 rfl rfl rfl (by first | decide | exact Nat.le_of_ble_eq_true rfl | (simp; done) | (simp; omega)) rfl (fun hlt => absurd hlt (by omega)) ?_
          refine LM.nil ?_
          refine QM.qn ?_
          refine QM.sub (e' := [(6, _)]) ⟨rfl, trivial⟩ ?_
          refine QM.then ?_
          refine wpM.ret ?_
          refine QM.leaveCDF (ds := [D0]) Tryd.results4 rfl (fun D h => by simp only [List.mem_cons, List.not_mem_nil, or_false] at h; omega) Tryd.isAgg4 rfl ?_
          intro w' hm' hc'
          -- leaf 7: h1- h6-
          first | exact ⟨rfl, hc'⟩ | (refine ⟨?_, hc'⟩; show Value.bool (decide (_ = _)) = _; simp; done) | (exfalso; first | contradiction | (simp at *; done))
    ·
      rintro z D0 hD0 hx
      cases hx.1
    ·
      rintro id z D0 hD0 hx
      obtain ⟨he, hx, hx2⟩ := hx; cases he
      refine QM.block_hit ?_
      refine QM.then ?_
      refine wpM.seq ?_
      refine wpM.region ?_
      refine LM.val (ov_assign rfl) ?_
      refine LM.nil ?_
      refine QM.sub (e' := [(0, _), (1, _), (5, _), (6, _), (7, _), (8, _), (10, _)]) ⟨rfl, rfl, rfl, rfl, rfl, rfl, rfl, trivial⟩ ?_
      refine QM.then ?_
      refine wpM.seq ?_
      refine wpM.seq ?_
      refine wpM.region ?_
      first | refine LM.rd (om_ld Tryd.isAgg22 rfl rfl) ?_
      refine LM.val (ov_len Tryd.underlying22 rfl) ?_
      refine LM.val (ov_gtr rfl rfl) ?_
      refine LM.nil ?_
      refine QM.sub (e' := [(0, _), (1, _), (5, _), (6, _), (7, _), (8, _), (10, _), (38, _)]) ⟨rfl, rfl, rfl, rfl, rfl, rfl, rfl, rfl, trivial⟩ ?_
      refine QM.then ?_
      refine wpM.joinK (α := Int × Int) (fun ⟨f, c⟩ => [(10, .int .i64 f)]) [(0, _), (1, _), (5, _), (6, _), (7, _), (8, _)] (fun ⟨f, c⟩ => (D0, .deferred (some [])) :: (b8, .cells #[.int .i64 c] 3 (0, 0)) :: (b7, .cells #[.slice ad14 n14 cap14] 22 (0, 0)) :: (b5, .cells #[.int .u8 n] 5 (0, 0)) :: (b6, .cells #[.bool false] 4 (0, 0)) :: (m14 ++ [])) (fun ⟨f, c⟩ => firstI s = f ∧ c = (if n + 1 < (n14 : Int) then n + 1 else (n14 : Int))) ⟨rfl, rfl, rfl, rfl, rfl, rfl, trivial⟩ ?_ ?_
      ·
        first | refine wpM.condD rfl (fun h11 => ?_) (fun h11 => ?_) | refine wpM.condB rfl (fun h11 => ?_) (fun h11 => ?_)
        ·
          refine wpM.region ?_
          first | refine LM.rd (om_ld Tryd.isAgg22 rfl rfl) ?_
          first | refine LM.val (ov_idxSN (i := 0) (by first | exact Sr.spt (by assumption) | exact Sl.spt (by assumption)) Tryd.underlying22 Tryd.sizeOf3 rfl rfl (by omega)) ?_ | refine LM.val (ov_idxSN (by first | exact Sr.spt (by assumption) | exact Sl.spt (by assumption)) Tryd.underlying22 Tryd.sizeOf3 rfl rfl (by omega)) ?_ | refine LM.val (ov_idxS (by first | exact Sr.spt (by assumption) | exact Sl.spt (by assumption)) Tryd.underlying22 Tryd.sizeOf3 rfl rfl (by omega)) ?_ | refine LM.val (ov_idx1 Tryd.underlying22 Tryd.sizeOf3 rfl rfl (by omega)) ?_
          refine LM.rd (om_sl1 hs14 (by intro _; rfl) Tryd.isAgg3 rfl rfl (show (listI s)[0]? = some ((listI s).getD 0 0) from getq 0 (by omega)) (by rfl)) ?_
          refine LM.val (ov_assign rfl) ?_
          refine LM.nil ?_
          refine QM.sub (e' := [(0, _), (1, _), (5, _), (6, _), (7, _), (8, _), (10, _)]) ⟨rfl, rfl, rfl, rfl, rfl, rfl, rfl, trivial⟩ ?_
          -- meet3: h1- h6- h11+
          refine QM.meetK ((listI s).getD 0 0, (z : Nat)) ⟨(by first | rfl | exact lk rfl (by congr 1; omega) | exact lk rfl (by simp)), rfl, rfl, rfl, rfl, rfl, rfl, trivial⟩ (by (repeat' (first | exact SubM.nil _ | refine SubM.cons rfl ?_ | refine SubM.app ?_))) ?_
          · exact ⟨first_list (.inr (getq 0 (by omega))), by split <;> omega⟩
        ·
          refine wpM.skip ?_
          -- meet4: h1- h6- h11-
          refine QM.meetK (-1, (z : Nat)) ⟨(by first | rfl | exact lk rfl (by congr 1; omega) | exact lk rfl (by simp)), rfl, rfl, rfl, rfl, rfl, rfl, trivial⟩ (by (repeat' (first | exact SubM.nil _ | refine SubM.cons rfl ?_ | refine SubM.app ?_))) ?_
          · exact ⟨first_list (.inl ⟨List.eq_nil_of_length_eq_zero (by omega), rfl⟩), by split <;> omega⟩
      ·
        rintro ⟨f, c⟩ ⟨hfi, hcn⟩
        change QM _ _ _ _ _ ((D0, .deferred (some [])) :: (b8, .cells #[.int .i64 c] 3 (0, 0)) :: (b7, .cells #[.slice ad14 n14 cap14] 22 (0, 0)) :: (b5, .cells #[.int .u8 n] 5 (0, 0)) :: (b6, .cells #[.bool false] 4 (0, 0)) :: (m14 ++ [])) _ _ _
        refine QM.then ?_
        refine wpM.seq ?_
        refine wpM.draw [(0, 1), (1, 1), (2, 0), (3, 1), (4, 0), (5, 0), (6, 0), (7, 0), (8, 0), (9, 0), (10, 0), (12, 0), (13, 0), (11, 2), (14, 2), (15, 0), (16, 0), (17, 0), (18, 0), (19, 0), (21, 0), (22, 0), (20, 2), (23, 2), (24, 0), (25, 0), (26, 0), (27, 0), (28, 0), (30, 0), (31, 0), (29, 2), (32, 2), (33, 0), (34, 0), (35, 0), (36, 0), (38, 1), (39, 0), (37, 2), (40, 0), (41, 0), (42, 0), (43, 0), (45, 0), (44, 2), (46, 0), (47, 0), (48, 3)] (by kernel_rfl) (by kernel_rfl) ?_
        first | refine LD.rd rfl rfl (om_ld Tryd.isAgg3 rfl rfl) ?_
        first | refine LD.rd rfl rfl (om_ld Tryd.isAgg22 rfl rfl) ?_
        refine LD.val rfl rfl (ov_len Tryd.underlying22 rfl) ?_
        first | refine LD.rd rfl rfl (om_ld Tryd.isAgg5 rfl rfl) ?_
        refine LD.val rfl rfl (ov_to64 Tryd.underlying5 Tryd.underlying3 rfl (by omega)) ?_
        refine LD.val rfl rfl (ov_add64 rfl rfl (by omega)) ?_
        refine LD.val rfl rfl (ov_min rfl rfl) ?_
        refine LD.val rfl rfl (ov_eql rfl rfl) ?_
        refine LD.val rfl rfl (ov_move rfl) ?_
        first | refine LD.splitD (t := 50) rfl (fun h12 => ?_) (fun h12 => ?_) | refine LD.splitB (t := 50) rfl (fun h12 => ?_) (fun h12 => ?_)
        ·
          refine LD.val rfl ⟨50, _, rfl, rfl, rfl⟩ (ov_move rfl) ?_
          refine LD.val rfl ⟨50, _, rfl, rfl, rfl⟩ (ov_move rfl) ?_
          refine LD.val rfl ⟨50, _, rfl, rfl, rfl⟩ (ov_move rfl) ?_
          refine LD.val rfl ⟨50, _, rfl, rfl, rfl⟩ (ov_move rfl) ?_
          refine LD.callE rfl ⟨50, _, rfl, rfl, rfl⟩ (oc_call (enters_fn Tryd.func19 (by kernel_rfl) rfl) rfl) (fun w hm hc hg => has_spec _ _ w) ?_
          refine LD.callE rfl ⟨50, _, rfl, rfl, rfl⟩ (oc_call (enters_fn Tryd.func20 (by kernel_rfl) rfl) rfl) (fun w hm hc hg => rhas_spec _ _ w) ?_
          refine LD.val rfl ⟨50, _, rfl, rfl, rfl⟩ (ov_beql Tryd.underlying4 rfl rfl) ?_
          refine LD.val rfl rfl (ov_pickT rfl rfl) ?_
          refine LD.val rfl rfl (ov_move rfl) ?_
          first | refine LD.splitD (t := 59) rfl (fun h13 => ?_) (fun h13 => ?_) | refine LD.splitB (t := 59) rfl (fun h13 => ?_) (fun h13 => ?_)
          ·
            refine LD.val rfl ⟨59, _, rfl, rfl, rfl⟩ (ov_move rfl) ?_
            refine LD.val rfl ⟨59, _, rfl, rfl, rfl⟩ (ov_move rfl) ?_
            refine LD.val rfl ⟨59, _, rfl, rfl, rfl⟩ (ov_move rfl) ?_
            refine LD.val rfl ⟨59, _, rfl, rfl, rfl⟩ (ov_move rfl) ?_
            refine LD.callE rfl ⟨59, _, rfl, rfl, rfl⟩ (oc_call (enters_fn Tryd.func21 (by kernel_rfl) rfl) rfl) (fun w hm hc hg => with_spec _ _ w) ?_
            refine LD.callE rfl ⟨59, _, rfl, rfl, rfl⟩ (oc_call (enters_fn Tryd.func15 (by kernel_rfl) rfl) rfl) (fun w hm hc hg => rwith_spec _ _ w) ?_
            refine LD.val rfl ⟨59, _, rfl, rfl, rfl⟩ (ov_ueql rfl rfl) ?_
            refine LD.val rfl rfl (ov_pickT rfl rfl) ?_
            refine LD.val rfl rfl (ov_move rfl) ?_
            first | refine LD.splitD (t := 68) rfl (fun h14 => ?_) (fun h14 => ?_) | refine LD.splitB (t := 68) rfl (fun h14 => ?_) (fun h14 => ?_)
            ·
              refine LD.val rfl ⟨68, _, rfl, rfl, rfl⟩ (ov_move rfl) ?_
              refine LD.val rfl ⟨68, _, rfl, rfl, rfl⟩ (ov_move rfl) ?_
              refine LD.val rfl ⟨68, _, rfl, rfl, rfl⟩ (ov_move rfl) ?_
              refine LD.val rfl ⟨68, _, rfl, rfl, rfl⟩ (ov_move rfl) ?_
              refine LD.callE rfl ⟨68, _, rfl, rfl, rfl⟩ (oc_call (enters_fn Tryd.func22 (by kernel_rfl) rfl) rfl) (fun w hm hc hg => without_spec _ _ w) ?_
              refine LD.callE rfl ⟨68, _, rfl, rfl, rfl⟩ (oc_call (enters_fn Tryd.func23 (by kernel_rfl) rfl) rfl) (fun w hm hc hg => rwithout_spec _ _ w) ?_
              refine LD.val rfl ⟨68, _, rfl, rfl, rfl⟩ (ov_ueql rfl rfl) ?_
              refine LD.val rfl rfl (ov_pickT rfl rfl) ?_
              refine LD.val rfl rfl (ov_move rfl) ?_
              first | refine LD.splitD (t := 77) rfl (fun h15 => ?_) (fun h15 => ?_) | refine LD.splitB (t := 77) rfl (fun h15 => ?_) (fun h15 => ?_)
              ·
                refine LD.val rfl ⟨77, _, rfl, rfl, rfl⟩ (ov_move rfl) ?_
                first | refine LD.rd rfl ⟨77, _, rfl, rfl, rfl⟩ (om_ld Tryd.isAgg22 rfl rfl) ?_
                refine LD.val rfl ⟨77, _, rfl, rfl, rfl⟩ (ov_len Tryd.underlying22 rfl) ?_
                refine LD.callE rfl ⟨77, _, rfl, rfl, rfl⟩ (oc_call (enters_fn Tryd.func24 (by kernel_rfl) rfl) rfl) (fun w hm hc hg => len_at (show lenI s = (n14 : Int) by rw [lenI_eq, hn14, hll]) w) ?_
                refine LD.val rfl ⟨77, _, rfl, rfl, rfl⟩ (ov_eql rfl rfl) ?_
                refine LD.val rfl rfl (ov_pickT rfl rfl) ?_
                refine LD.val rfl rfl (ov_move rfl) ?_
                first | refine LD.splitD (t := 84) rfl (fun h16 => ?_) (fun h16 => ?_) | refine LD.splitB (t := 84) rfl (fun h16 => ?_) (fun h16 => ?_)
                ·
                  refine LD.val rfl ⟨84, _, rfl, rfl, rfl⟩ (ov_move rfl) ?_
                  refine LD.val rfl ⟨84, _, rfl, rfl, rfl⟩ (ov_move rfl) ?_
                  refine LD.callE rfl ⟨84, _, rfl, rfl, rfl⟩ (oc_call (enters_fn Tryd.func25 (by kernel_rfl) rfl) rfl) (fun w hm hc hg => first_at hfi w (hT.ext hc)) ?_
                  refine LD.val rfl ⟨84, _, rfl, rfl, rfl⟩ (ov_eql rfl rfl) ?_
                  refine LD.val rfl rfl (ov_pickT rfl rfl) ?_
                  refine LD.tail rfl rfl ?_
                  refine LM.st Tryd.sizeOf4 rfl rfl rfl (by first | decide | exact Nat.le_of_ble_eq_true rfl | (simp; done) | (simp; omega)) rfl (fun hlt => absurd hlt (by omega)) ?_
                  refine LM.nil ?_
                  refine QM.qn ?_
                  refine QM.sub (e' := [(6, _)]) ⟨rfl, trivial⟩ ?_
                  refine QM.then ?_
                  refine wpM.ret ?_
                  refine QM.leaveCDF (ds := [D0]) Tryd.results4 rfl (fun D h => by simp only [List.mem_cons, List.not_mem_nil, or_false] at h; omega) Tryd.isAgg4 rfl ?_
                  intro w' hm' hc'
                  -- leaf 8: h1- h6- h12+ h13+ h14+ h15+ h16+
                  first | exact ⟨rfl, hc'⟩ | (refine ⟨?_, hc'⟩; show Value.bool (decide (_ = _)) = _; simp; done) | (exfalso; first | contradiction | (simp at *; done))
                ·
                  refine LD.drop rfl rfl ⟨84, _, rfl, rfl, rfl⟩ ?_
                  refine LD.drop rfl rfl ⟨84, _, rfl, rfl, rfl⟩ ?_
                  refine LD.drop rfl rfl ⟨84, _, rfl, rfl, rfl⟩ ?_
                  refine LD.drop rfl rfl ⟨84, _, rfl, rfl, rfl⟩ ?_
                  refine LD.val rfl rfl (ov_pickF rfl rfl) ?_
                  refine LD.tail rfl rfl ?_
                  refine LM.st Tryd.sizeOf4 rfl rfl rfl (by first | decide | exact Nat.le_of_ble_eq_true rfl | (simp; done) | (simp; omega)) rfl (fun hlt => absurd hlt (by omega)) ?_
                  refine LM.nil ?_
                  refine QM.qn ?_
                  refine QM.sub (e' := [(6, _)]) ⟨rfl, trivial⟩ ?_
                  refine QM.then ?_
                  refine wpM.ret ?_
                  refine QM.leaveCDF (ds := [D0]) Tryd.results4 rfl (fun D h => by simp only [List.mem_cons, List.not_mem_nil, or_false] at h; omega) Tryd.isAgg4 rfl ?_
                  intro w' hm' hc'
                  -- leaf 9: h1- h6- h12+ h13+ h14+ h15+ h16-
                  first | exact ⟨rfl, hc'⟩ | (refine ⟨?_, hc'⟩; show Value.bool (decide (_ = _)) = _; simp; done) | (exfalso; first | contradiction | (simp at *; done))
              ·
                refine LD.drop rfl rfl ⟨77, _, rfl, rfl, rfl⟩ ?_
                refine LD.drop rfl rfl ⟨77, _, rfl, rfl, rfl⟩ ?_
                refine LD.drop rfl rfl ⟨77, _, rfl, rfl, rfl⟩ ?_
                refine LD.drop rfl rfl ⟨77, _, rfl, rfl, rfl⟩ ?_
                refine LD.drop rfl rfl ⟨77, _, rfl, rfl, rfl⟩ ?_
                refine LD.val rfl rfl (ov_pickF rfl rfl) ?_
                refine LD.val rfl rfl (ov_move rfl) ?_
                refine LD.drop rfl rfl ⟨84, _, rfl, rfl, rfl⟩ ?_
                refine LD.drop rfl rfl ⟨84, _, rfl, rfl, rfl⟩ ?_
                refine LD.drop rfl rfl ⟨84, _, rfl, rfl, rfl⟩ ?_
                refine LD.drop rfl rfl ⟨84, _, rfl, rfl, rfl⟩ ?_
                refine LD.val rfl rfl (ov_pickF rfl rfl) ?_
                refine LD.tail rfl rfl ?_
                refine LM.st Tryd.sizeOf4 rfl rfl rfl (by first | decide | exact Nat.le_of_ble_eq_true rfl | (simp; done) | (simp; omega)) rfl (fun hlt => absurd hlt (by omega)) ?_
                refine LM.nil ?_
                refine QM.qn ?_
                refine QM.sub (e' := [(6, _)]) ⟨rfl, trivial⟩ ?_
                refine QM.then ?_
                refine wpM.ret ?_
                refine QM.leaveCDF (ds := [D0]) Tryd.results4 rfl (fun D h => by simp only [List.mem_cons, List.not_mem_nil, or_false] at h; omega) Tryd.isAgg4 rfl ?_
                intro w' hm' hc'
                -- leaf 10: h1- h6- h12+ h13+ h14+ h15-
                first | exact ⟨rfl, hc'⟩ | (refine ⟨?_, hc'⟩; show Value.bool (decide (_ = _)) = _; simp; done) | (exfalso; first | contradiction | (simp at *; done))
            ·
              refine LD.drop rfl rfl ⟨68, _, rfl, rfl, rfl⟩ ?_
              refine LD.drop rfl rfl ⟨68, _, rfl, rfl, rfl⟩ ?_
              refine LD.drop rfl rfl ⟨68, _, rfl, rfl, rfl⟩ ?_
              refine LD.drop rfl rfl ⟨68, _, rfl, rfl, rfl⟩ ?_
              refine LD.drop rfl rfl ⟨68, _, rfl, rfl, rfl⟩ ?_
              refine LD.drop rfl rfl ⟨68, _, rfl, rfl, rfl⟩ ?_
              refine LD.drop rfl rfl ⟨68, _, rfl, rfl, rfl⟩ ?_
              refine LD.val rfl rfl (ov_pickF rfl rfl) ?_
              refine LD.val rfl rfl (ov_move rfl) ?_
              refine LD.drop rfl rfl ⟨77, _, rfl, rfl, rfl⟩ ?_
              refine LD.drop rfl rfl ⟨77, _, rfl, rfl, rfl⟩ ?_
              refine LD.drop rfl rfl ⟨77, _, rfl, rfl, rfl⟩ ?_
              refine LD.drop rfl rfl ⟨77, _, rfl, rfl, rfl⟩ ?_
              refine LD.drop rfl rfl ⟨77, _, rfl, rfl, rfl⟩ ?_
              refine LD.val rfl rfl (ov_pickF rfl rfl) ?_
              refine LD.val rfl rfl (ov_move rfl) ?_
              refine LD.drop rfl rfl ⟨84, _, rfl, rfl, rfl⟩ ?_
              refine LD.drop rfl rfl ⟨84, _, rfl, rfl, rfl⟩ ?_
              refine LD.drop rfl rfl ⟨84, _, rfl, rfl, rfl⟩ ?_
              refine LD.drop rfl rfl ⟨84, _, rfl, rfl, rfl⟩ ?_
              refine LD.val rfl rfl (ov_pickF rfl rfl) ?_
              refine LD.tail rfl rfl ?_
              refine LM.st Tryd.sizeOf4 rfl rfl rfl (by first | decide | exact Nat.le_of_ble_eq_true rfl | (simp; done) | (simp; omega)) rfl (fun hlt => absurd hlt (by omega)) ?_
              refine LM.nil ?_
              refine QM.qn ?_
              refine QM.sub (e' := [(6, _)]) ⟨rfl, trivial⟩ ?_
              refine QM.then ?_
              refine wpM.ret ?_
              refine QM.leaveCDF (ds := [D0]) Tryd.results4 rfl (fun D h => by simp only [List.mem_cons, List.not_mem_nil, or_false] at h; omega) Tryd.isAgg4 rfl ?_
              intro w' hm' hc'
              -- leaf 11: h1- h6- h12+ h13+ h14-
              first | exact ⟨rfl, hc'⟩ | (refine ⟨?_, hc'⟩; show Value.bool (decide (_ = _)) = _; simp; done) | (exfalso; first | contradiction | (simp at *; done))
          ·
            refine LD.drop rfl rfl ⟨59, _, rfl, rfl, rfl⟩ ?_
            refine LD.drop rfl rfl ⟨59, _, rfl, rfl, rfl⟩ ?_
            refine LD.drop rfl rfl ⟨59, _, rfl, rfl, rfl⟩ ?_
            refine LD.drop rfl rfl ⟨59, _, rfl, rfl, rfl⟩ ?_
            refine LD.drop rfl rfl ⟨59, _, rfl, rfl, rfl⟩ ?_
            refine LD.drop rfl rfl ⟨59, _, rfl, rfl, rfl⟩ ?_
            refine LD.drop rfl rfl ⟨59, _, rfl, rfl, rfl⟩ ?_
            refine LD.val rfl rfl (ov_pickF rfl rfl) ?_
            refine LD.val rfl rfl (ov_move rfl) ?_
            refine LD.drop rfl rfl ⟨68, _, rfl, rfl, rfl⟩ ?_
            refine LD.drop rfl rfl ⟨68, _, rfl, rfl, rfl⟩ ?_
            refine LD.drop rfl rfl ⟨68, _, rfl, rfl, rfl⟩ ?_
            refine LD.drop rfl rfl ⟨68, _, rfl, rfl, rfl⟩ ?_
            refine LD.drop rfl rfl ⟨68, _, rfl, rfl, rfl⟩ ?_
            refine LD.drop rfl rfl ⟨68, _, rfl, rfl, rfl⟩ ?_
            refine LD.drop rfl rfl ⟨68, _, rfl, rfl, rfl⟩ ?_
            refine LD.val rfl rfl (ov_pickF rfl rfl) ?_
            refine LD.val rfl rfl (ov_move rfl) ?_
            refine LD.drop rfl rfl ⟨77, _, rfl, rfl, rfl⟩ ?_
            refine LD.drop rfl rfl ⟨77, _, rfl, rfl, rfl⟩ ?_
            refine LD.drop rfl rfl ⟨77, _, rfl, rfl, rfl⟩ ?_
            refine LD.drop rfl rfl ⟨77, _, rfl, rfl, rfl⟩ ?_
            refine LD.drop rfl rfl ⟨77, _, rfl, rfl, rfl⟩ ?_
            refine LD.val rfl rfl (ov_pickF rfl rfl) ?_
            refine LD.val rfl rfl (ov_move rfl) ?_
            refine LD.drop rfl rfl ⟨84, _, rfl, rfl, rfl⟩ ?_
            refine LD.drop rfl rfl ⟨84, _, rfl, rfl, rfl⟩ ?_
            refine LD.drop rfl rfl ⟨84, _, rfl, rfl, rfl⟩ ?_
            refine LD.drop rfl rfl ⟨84, _, rfl, rfl, rfl⟩ ?_
            refine LD.val rfl rfl (ov_pickF rfl rfl) ?_
            refine LD.tail rfl rfl ?_
            refine LM.st Tryd.sizeOf4 rfl rfl rfl (by first | decide | exact Nat.le_of_ble_eq_true rfl | (simp; done) | (simp; omega)) rfl (fun hlt => absurd hlt (by omega)) ?_
            refine LM.nil ?_
            refine QM.qn ?_
            refine QM.sub (e' := [(6, _)]) ⟨rfl, trivial⟩ ?_
            refine QM.then ?_
            refine wpM.ret ?_
            refine QM.leaveCDF (ds := [D0]) Tryd.results4 rfl (fun D h => by simp only [List.mem_cons, List.not_mem_nil, or_false] at h; omega) Tryd.isAgg4 rfl ?_
            intro w' hm' hc'
            -- leaf 12: h1- h6- h12+ h13-
            first | exact ⟨rfl, hc'⟩ | (refine ⟨?_, hc'⟩; show Value.bool (decide (_ = _)) = _; simp; done) | (exfalso; first | contradiction | (simp at *; done))
        ·
          refine LD.drop rfl rfl ⟨50, _, rfl, rfl, rfl⟩ ?_
          refine LD.drop rfl rfl ⟨50, _, rfl, rfl, rfl⟩ ?_
          refine LD.drop rfl rfl ⟨50, _, rfl, rfl, rfl⟩ ?_
          refine LD.drop rfl rfl ⟨50, _, rfl, rfl, rfl⟩ ?_
          refine LD.drop rfl rfl ⟨50, _, rfl, rfl, rfl⟩ ?_
          refine LD.drop rfl rfl ⟨50, _, rfl, rfl, rfl⟩ ?_
          refine LD.drop rfl rfl ⟨50, _, rfl, rfl, rfl⟩ ?_
          refine LD.val rfl rfl (ov_pickF rfl rfl) ?_
          refine LD.val rfl rfl (ov_move rfl) ?_
          refine LD.drop rfl rfl ⟨59, _, rfl, rfl, rfl⟩ ?_
          refine LD.drop rfl rfl ⟨59, _, rfl, rfl, rfl⟩ ?_
          refine LD.drop rfl rfl ⟨59, _, rfl, rfl, rfl⟩ ?_
          refine LD.drop rfl rfl ⟨59, _, rfl, rfl, rfl⟩ ?_
          refine LD.drop rfl rfl ⟨59, _, rfl, rfl, rfl⟩ ?_
          refine LD.drop rfl rfl ⟨59, _, rfl, rfl, rfl⟩ ?_
          refine LD.drop rfl rfl ⟨59, _, rfl, rfl, rfl⟩ ?_
          refine LD.val rfl rfl (ov_pickF rfl rfl) ?_
          refine LD.val rfl rfl (ov_move rfl) ?_
          refine LD.drop rfl rfl ⟨68, _, rfl, rfl, rfl⟩ ?_
          refine LD.drop rfl rfl ⟨68, _, rfl, rfl, rfl⟩ ?_
          refine LD.drop rfl rfl ⟨68, _, rfl, rfl, rfl⟩ ?_
          refine LD.drop rfl rfl ⟨68, _, rfl, rfl, rfl⟩ ?_
          refine LD.drop rfl rfl ⟨68, _, rfl, rfl, rfl⟩ ?_
          refine LD.drop rfl rfl ⟨68, _, rfl, rfl, rfl⟩ ?_
          refine LD.drop rfl rfl ⟨68, _, rfl, rfl, rfl⟩ ?_
          refine LD.val rfl rfl (ov_pickF rfl rfl) ?_
          refine LD.val rfl rfl (ov_move rfl) ?_
          refine LD.drop rfl rfl ⟨77, _, rfl, rfl, rfl⟩ ?_
          refine LD.drop rfl rfl ⟨77, _, rfl, rfl, rfl⟩ ?_
          refine LD.drop rfl rfl ⟨77, _, rfl, rfl, rfl⟩ ?_
          refine LD.drop rfl rfl ⟨77, _, rfl, rfl, rfl⟩ ?_
          refine LD.drop rfl rfl ⟨77, _, rfl, rfl, rfl⟩ ?_
          refine LD.val rfl rfl (ov_pickF rfl rfl) ?_
          refine LD.val rfl rfl (ov_move rfl) ?_
          refine LD.drop rfl rfl ⟨84, _, rfl, rfl, rfl⟩ ?_
          refine LD.drop rfl rfl ⟨84, _, rfl, rfl, rfl⟩ ?_
          refine LD.drop rfl rfl ⟨84, _, rfl, rfl, rfl⟩ ?_
          refine LD.drop rfl rfl ⟨84, _, rfl, rfl, rfl⟩ ?_
          refine LD.val rfl rfl (ov_pickF rfl rfl) ?_
          refine LD.tail rfl rfl ?_
          refine LM.st Tryd.sizeOf4 rfl rfl rfl (by first | decide | exact Nat.le_of_ble_eq_true rfl | (simp; done) | (simp; omega)) rfl (fun hlt => absurd hlt (by omega)) ?_
          refine LM.nil ?_
          refine QM.qn ?_
          refine QM.sub (e' := [(6, _)]) ⟨rfl, trivial⟩ ?_
          refine QM.then ?_
          refine wpM.ret ?_
          refine QM.leaveCDF (ds := [D0]) Tryd.results4 rfl (fun D h => by simp only [List.mem_cons, List.not_mem_nil, or_false] at h; omega) Tryd.isAgg4 rfl ?_
          intro w' hm' hc'
          -- leaf 13: h1- h6- h12-
          first | exact ⟨rfl, hc'⟩ | (refine ⟨?_, hc'⟩; show Value.bool (decide (_ = _)) = _; simp; done) | (exfalso; first | contradiction | (simp at *; done))

end Go.Eng

