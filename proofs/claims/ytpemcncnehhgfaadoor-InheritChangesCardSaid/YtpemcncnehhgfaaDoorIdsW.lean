/- The walks of the laws of sets of numbers. No condition. -/
import Derived.Test.YtpemcncnehhgfaaDoorIdsIt
import Derived.Test.YtpemcncnehhgfaaDoorPopLaw
set_option linter.unusedVariables false
set_option linter.unusedSimpArgs false
namespace Go.Eng
open Go Go.Proofs Go.RowKit

theorem of06 : ofL [3, 1, 99] = 10#64 := by decide
theorem len06 : lenI 10#64 = 2 := by decide
theorem first06 : firstI 10#64 = 1 := by decide
theorem all06 : allL 10#64 = [1, 3] := by decide
theorem lenI_eq (x : BitVec 64) : lenI x = ((allL x).length : Int) := lenI_len x
theorem listI_get {s : BitVec 64} {k i : Nat} (h : (allL s)[k]? = some i) : (listI s)[k]? = some (i : Int) := by unfold listI; rw [List.getElem?_map, h]; rfl
theorem firstI_list (s : BitVec 64) : firstI s = match listI s with | [] => -1 | i :: _ => i := by
  rw [firstI_head]; unfold listI; cases allL s <;> rfl
theorem has_at {s : BitVec 64} {i : Int} {b : Bool} (h : hasB s i = b) (w : World) : Ret Tryd.prog 19 #[U s, .int .i64 i] w (fun v w' => v = .bool b ∧ Ext w w') := h ▸ has_spec s i w
theorem within_at {a b : BitVec 64} (h : a &&& ~~~b = 0#64) (w : World) : Ret Tryd.prog 16 #[U a, U b] w (fun v w' => v = .bool true ∧ Ext w w') := (decide_eq_true h) ▸ within_spec a b w
theorem without_at {s r : BitVec 64} {i : Int} (h : witho s i = r) (w : World) : Ret Tryd.prog 22 #[U s, .int .i64 i] w (fun v w' => v = U r ∧ Ext w w') := h ▸ without_spec s i w
theorem with_at {s r : BitVec 64} {i : Int} (h : withS s i = r) (w : World) : Ret Tryd.prog 21 #[U s, .int .i64 i] w (fun v w' => v = U r ∧ Ext w w') := h ▸ with_spec s i w
theorem of_at {l : List Int} {r : BitVec 64} (h : ofL l = r) {ad : Option Addr} {n cap : Nat} (w : World) (hn : n = l.length) (hl : Sr fI 1 l (.slice ad n cap) w) (hx : l.length ≤ 1000000000000) : Ret Tryd.prog 14 #[.slice ad n cap] w (fun v w' => v = U r ∧ Ext w w') := h ▸ of_spec w hn hl hx
theorem len_at {s : BitVec 64} {n : Int} (h : lenI s = n) (w : World) : Ret Tryd.prog 24 #[U s] w (fun v w' => v = .int .i64 n ∧ Ext w w') := h ▸ len_spec s w
theorem first_at {s : BitVec 64} {n : Int} (h : firstI s = n) (w : World) (hT : Tab w) : Ret Tryd.prog 25 #[U s] w (fun v w' => v = .int .i64 n ∧ Ext w w') := h ▸ first_spec s w hT
theorem has_with (s : BitVec 64) (i : Int) : hasB (withS s i) i = (decide (0 ≤ i) && decide (i < 64)) := by
  rw [hasB_withS]; cases h : hasB s i
  · simp
  · have := hasB_rng h; simp [this.1, this.2]
theorem has_witho (s : BitVec 64) (i : Int) : hasB (witho s i) i = false := by rw [hasB_witho]; simp
theorem has_with_ne {s : BitVec 64} {i k : Int} (h : k ≠ i) : hasB (withS s i) k = hasB s k := by rw [hasB_withS, decide_eq_false h]; simp
theorem has_witho_ne {s : BitVec 64} {i k : Int} (h : k ≠ i) : hasB (witho s i) k = hasB s k := by rw [hasB_witho, decide_eq_false h]; simp
theorem witho_sub (s : BitVec 64) (i : Int) : witho s i &&& ~~~s = 0#64 := sub6_iff.2 (fun k _ h => by rw [hasB_witho, Bool.and_eq_true] at h; exact h.1)
theorem with_sup (s : BitVec 64) (i : Int) : s &&& ~~~(withS s i) = 0#64 := sub6_iff.2 (fun k _ h => by rw [hasB_withS, h]; rfl)
theorem witho_with (s : BitVec 64) (i : Int) : witho (withS s i) i = witho s i := set_ext (fun k hk => by
  rw [hasB_witho, hasB_witho, hasB_withS]; by_cases h : (k : Int) = i
  · rw [decide_eq_true h]; simp
  · rw [decide_eq_false h]; simp)
theorem with_witho (s : BitVec 64) (i : Int) : withS (witho s i) i = withS s i := set_ext (fun k hk => by
  rw [hasB_withS, hasB_withS, hasB_witho]; by_cases h : (k : Int) = i
  · rw [decide_eq_true h, decide_eq_true (show (0 : Int) ≤ k by omega), decide_eq_true (show (k : Int) < 64 by omega)]; simp
  · rw [decide_eq_false h]; simp)
theorem or_sup (a b : BitVec 64) : a &&& ~~~(a ||| b) = 0#64 := sub6_iff.2 (fun k _ h => by rw [hasB_or, h]; rfl)
theorem and_sub (a b : BitVec 64) : (a &&& b) &&& ~~~b = 0#64 := sub6_iff.2 (fun k _ h => by rw [hasB_and, Bool.and_eq_true] at h; exact h.2)
set_option maxRecDepth 100000 in
theorem awake06 (w : World) (hT : Tab w) : Ret Tryd.prog 13 #[] w (fun v w' => v = .bool true ∧ Ext w w') := by
  refine Ret.enterM (l := []) Tryd.func13 rfl Tryd.ntmps13 rfl ([]) (no) (Mem.nil w) ?_
  refine wpM.seq ?_
  refine wpM.region ?_
  refine LM.val (ov_assign rfl) ?_
  refine LM.nil ?_
  refine QM.sub (e' := []) trivial ?_
  refine QM.then ?_
  refine wpM.seq ?_
  refine wpM.region ?_
  refine LM.row (vs := [_, _, _]) Tryd.underlying22 Tryd.sizeOf3 Tryd.zeroValue3 rfl rfl rfl rfl rfl rfl (fun b4 hb4 => ?_)
  refine LM.callE (oc_call (enters_fn Tryd.func14 (by kernel_rfl) rfl) rfl) (fun w hm hc hg => of_at of06 w rfl (Sr.row (hm.at b4) rfl rfl (by decide) (fun _ => rfl)) (by decide)) ?_
  refine LM.val (ov_assign rfl) ?_
  refine LM.nil ?_
  refine QM.sub (e' := [(1, _)]) ⟨rfl, trivial⟩ ?_
  refine QM.then ?_
  refine wpM.seq ?_
  refine wpM.seq ?_
  refine wpM.region ?_
  refine LM.val (ov_move rfl) ?_
  refine LM.val (ov_uneq (b := 10#64) rfl rfl) ?_
  refine LM.nil ?_
  refine QM.sub (e' := [(1, _), (7, _)]) ⟨rfl, rfl, trivial⟩ ?_
  refine QM.then ?_
  first | refine wpM.condD rfl (fun h1 => ?_) (fun h1 => ?_) | refine wpM.condB rfl (fun h1 => ?_) (fun h1 => ?_)
  ·
    refine wpM.seq ?_
    refine wpM.region ?_
    refine LM.val (ov_assign rfl) ?_
    refine LM.nil ?_
    refine QM.sub (e' := [(0, _)]) ⟨rfl, trivial⟩ ?_
    refine QM.then ?_
    refine wpM.ret ?_
    refine QM.then_ret ?_
    refine QM.leave (.inl rfl) [.tmp 0] Tryd.results13 rfl ?_
    intro w' hm' hc' hg'
    -- leaf 1: h1+
    first | exact ⟨rfl, hc'⟩ | (refine ⟨?_, hc'⟩; simp [resV]; done) | (exfalso; simp at *; done)
  ·
    refine wpM.skip ?_
    refine QM.then ?_
    refine wpM.seq ?_
    refine wpM.region ?_
    refine LM.alloc Tryd.zeroValue3 rfl (fun b2 hb2 => ?_)
    refine LM.st Tryd.sizeOf3 rfl rfl rfl (by first | decide | exact Nat.le_of_ble_eq_true rfl | (simp; done) | (simp; omega)) rfl (fun hlt => absurd hlt (by omega)) ?_
    refine LM.nil ?_
    refine QM.sub (e' := [(1, _), (2, _)]) ⟨rfl, rfl, trivial⟩ ?_
    refine QM.then ?_
    refine wpM.seq ?_
    refine wpM.seq ?_
    refine wpM.region ?_
    refine LM.val (ov_move rfl) ?_
    refine LM.callT (oc_call (enters_fn Tryd.func18 (by kernel_rfl) rfl) rfl) AllT.mono (fun w hm hc hg => all_spec 10#64 w) ?_
    rintro u9 m9 ⟨c1, rfl, rfl, hc1⟩ -
    refine LM.nil ?_
    refine QM.sub (e' := [(1, _), (2, _), (9, _)]) ⟨rfl, rfl, rfl, trivial⟩ ?_
    refine QM.then ?_
    refine wpM.block ?_
    refine wpM.toRange (α := Int) (fun k n => uBx c1 10#64 :: (b2, .cells #[.int .i64 n] 3 (0, 0)) :: []) (0) (by (repeat' (first | exact SubM.nil _ | refine SubM.cons rfl ?_ | refine SubM.app ?_))) ?_
    refine wpM.range (α := Int) (β := Unit) (enters_fn Tryd.func56 (by kernel_rfl) rfl) rfl (all_seq (s := 10#64)) (fun k n => uBx c1 10#64 :: (b2, .cells #[.int .i64 n] 3 (0, 0)) :: []) (fun _ _ => top) (fun k n => k ≤ 2 ∧ n = [0, 1, 13].getD k 0) (fun ⟨⟩ => []) (fun _ => top) (fun c ⟨⟩ => False) 0 rfl (fun _ h => h) ⟨by omega, rfl⟩ (by kernel_rfl) (by intro k av hav; obtain ⟨p, hp, rfl⟩ := allA_inv hav; rfl) (.inl trivial) (fun k a w hm hc _ _ => ⟨SubM.mem (by (repeat' (first | exact SubM.nil _ | refine SubM.cons rfl ?_ | refine SubM.app ?_))) w hm, hT.ext hc⟩) (fun _ _ _ _ => gl_top _) (fun _ _ _ => gl_top _) (fun k x _ => by ((repeat (refine mm_cons rfl ?_)); exact fun p hp => .inl (by first | exact hp | (simp at hp; done) | (simp [hp]; done)))) (fun c z _ => by ((repeat (refine mm_cons rfl ?_)); exact fun p hp => .inl (by first | exact hp | (simp at hp; done) | (simp [hp]; done)))) ?_ ?_ ?_ ?_
    ·
      rintro k av n l D rc n1 W1 hD hll hput hrc hav ⟨hk, hn⟩
      change wpM _ _ _ _ _ _ _ ((l, Obj.loop rc) :: ([(D, Obj.deferred (some []))] ++ (uBx c1 10#64 :: (b2, .cells #[.int .i64 n] 3 (0, 0)) :: []))) _ _ _
      obtain ⟨p, hp, rfl⟩ := allA_inv hav
      rw [all06] at hp; obtain ⟨hnb, hpb, hnx, hk2⟩ : (0 ≤ n ∧ n ≤ 13) ∧ p ≤ 3 ∧ 10 * n + p = [(0 : Int), 1, 13].getD (k + 1) 0 ∧ k < 2 := (by (match k, hk, hp, hn with | 0, _, hp, hn => (simp at hp hn; subst hp; subst hn; decide) | 1, _, hp, hn => (simp at hp hn; subst hp; subst hn; decide) | 2, _, hp, _ => (simp at hp)))
      refine wpM.region ?_
      refine LM.val (ov_assign rfl) ?_
      refine LM.nil ?_
      refine QM.sub (e' := [(2, _), (3, _)]) ⟨rfl, rfl, trivial⟩ ?_
      refine QM.toBodyF (hput k n) hll ?_
      refine wpM.block ?_
      refine wpM.region ?_
      first | refine LM.rd (om_ld Tryd.isAgg3 rfl rfl) ?_
      refine LM.val (ov_mul64 rfl rfl (by omega)) ?_
      refine LM.val (ov_move rfl) ?_
      refine LM.val (ov_add64 rfl rfl (by omega)) ?_
      refine LM.st Tryd.sizeOf3 rfl rfl rfl (by first | decide | exact Nat.le_of_ble_eq_true rfl | (simp; done) | (simp; omega)) rfl (fun hlt => absurd hlt (by omega)) ?_
      refine LM.nil ?_
      refine QM.sub (e' := []) trivial ?_
      refine QM.block_normal ?_
      -- next1: h1-
      refine QM.next (10 * n + p) (SubM.mem (by (repeat' (first | exact SubM.nil _ | refine SubM.cons rfl ?_ | refine SubM.app ?_)))) (fun _ h => h) ?_
      · exact ⟨by omega, hnx⟩
    ·
      rintro n D0 hD0 ⟨hk, hn⟩
      have hA : (allA 10#64).length = 2 := (by decide); rw [hA] at hn; have hn : n = 13 := hn; subst hn
      refine QM.sub (e' := [(1, _), (2, _)]) ⟨rfl, rfl, trivial⟩ ?_
      refine QM.block_normal ?_
      refine QM.then ?_
      refine wpM.seq ?_
      refine wpM.region ?_
      refine LM.val (ov_move rfl) ?_
      refine LM.val (ov_ueql (b := 10#64) rfl rfl) ?_
      refine LM.val (ov_move rfl) ?_
      first | refine LM.splitD (t := 17) rfl (fun h2 => ?_) (fun h2 => ?_) | refine LM.splitB (t := 17) rfl (fun h2 => ?_) (fun h2 => ?_)
      ·
        refine LM.strip (t := 17) rfl rfl rfl ?_
        first | refine LM.rd (om_ld Tryd.isAgg3 rfl rfl) ?_
        refine LM.strip (t := 17) rfl rfl rfl ?_
        refine LM.val (ov_eql rfl rfl) ?_
        refine LM.val (ov_pickT rfl rfl) ?_
        refine LM.val (ov_move rfl) ?_
        first | refine LM.splitD (t := 21) rfl (fun h3 => ?_) (fun h3 => ?_) | refine LM.splitB (t := 21) rfl (fun h3 => ?_) (fun h3 => ?_)
        ·
          refine LM.strip (t := 21) rfl rfl rfl ?_
          refine LM.val (ov_move rfl) ?_
          refine LM.strip (t := 21) rfl rfl rfl ?_
          refine LM.callE (oc_call (enters_fn Tryd.func19 (by kernel_rfl) rfl) rfl) (fun w hm hc hg => has_at (b := true) (by decide) w) ?_
          refine LM.val (ov_pickT rfl rfl) ?_
          refine LM.val (ov_move rfl) ?_
          first | refine LM.splitD (t := 25) rfl (fun h4 => ?_) (fun h4 => ?_) | refine LM.splitB (t := 25) rfl (fun h4 => ?_) (fun h4 => ?_)
          ·
            refine LM.strip (t := 25) rfl rfl rfl ?_
            refine LM.val (ov_move rfl) ?_
            refine LM.strip (t := 25) rfl rfl rfl ?_
            refine LM.callE (oc_call (enters_fn Tryd.func19 (by kernel_rfl) rfl) rfl) (fun w hm hc hg => has_at (b := false) (by decide) w) ?_
            refine LM.strip (t := 25) rfl rfl rfl ?_
            first | refine LM.val (ov_notD rfl) ?_ | refine LM.val (ov_not rfl) ?_
            refine LM.val (ov_pickT rfl rfl) ?_
            refine LM.val (ov_move rfl) ?_
            first | refine LM.splitD (t := 30) rfl (fun h5 => ?_) (fun h5 => ?_) | refine LM.splitB (t := 30) rfl (fun h5 => ?_) (fun h5 => ?_)
            ·
              refine LM.strip (t := 30) rfl rfl rfl ?_
              refine LM.val (ov_move rfl) ?_
              refine LM.strip (t := 30) rfl rfl rfl ?_
              refine LM.callE (oc_call (enters_fn Tryd.func24 (by kernel_rfl) rfl) rfl) (fun w hm hc hg => len_at len06 w) ?_
              refine LM.strip (t := 30) rfl rfl rfl ?_
              refine LM.val (ov_eql rfl rfl) ?_
              refine LM.val (ov_pickT rfl rfl) ?_
              refine LM.val (ov_move rfl) ?_
              first | refine LM.splitD (t := 35) rfl (fun h6 => ?_) (fun h6 => ?_) | refine LM.splitB (t := 35) rfl (fun h6 => ?_) (fun h6 => ?_)
              ·
                refine LM.strip (t := 35) rfl rfl rfl ?_
                refine LM.val (ov_move rfl) ?_
                refine LM.strip (t := 35) rfl rfl rfl ?_
                refine LM.callE (oc_call (enters_fn Tryd.func25 (by kernel_rfl) rfl) rfl) (fun w hm hc hg => first_at first06 w (hT.ext hc)) ?_
                refine LM.strip (t := 35) rfl rfl rfl ?_
                refine LM.val (ov_eql rfl rfl) ?_
                refine LM.val (ov_pickT rfl rfl) ?_
                refine LM.val (ov_assign rfl) ?_
                refine LM.nil ?_
                refine QM.sub (e' := [(0, _)]) ⟨rfl, trivial⟩ ?_
                refine QM.then ?_
                refine wpM.ret ?_
                refine QM.leaveDF (ds := [D0]) (.inl rfl) [.tmp 0] Tryd.results13 rfl (fun D h => by simp only [List.mem_cons, List.not_mem_nil, or_false] at h; omega) ?_
                intro w' hm' hc'
                -- leaf 2: h1- h2+ h3+ h4+ h5+ h6+
                first | exact ⟨rfl, hc'⟩ | (refine ⟨?_, hc'⟩; simp [resV]; done) | (exfalso; simp at *; done)
              ·
                refine LM.drop (t := 35) rfl rfl rfl ?_
                refine LM.drop (t := 35) rfl rfl rfl ?_
                refine LM.drop (t := 35) rfl rfl rfl ?_
                refine LM.val (ov_pickF rfl rfl) ?_
                refine LM.val (ov_assign rfl) ?_
                refine LM.nil ?_
                refine QM.sub (e' := [(0, _)]) ⟨rfl, trivial⟩ ?_
                refine QM.then ?_
                refine wpM.ret ?_
                refine QM.leaveDF (ds := [D0]) (.inl rfl) [.tmp 0] Tryd.results13 rfl (fun D h => by simp only [List.mem_cons, List.not_mem_nil, or_false] at h; omega) ?_
                intro w' hm' hc'
                -- leaf 3: h1- h2+ h3+ h4+ h5+ h6-
                first | exact ⟨rfl, hc'⟩ | (refine ⟨?_, hc'⟩; simp [resV]; done) | (exfalso; simp at *; done)
            ·
              refine LM.drop (t := 30) rfl rfl rfl ?_
              refine LM.drop (t := 30) rfl rfl rfl ?_
              refine LM.drop (t := 30) rfl rfl rfl ?_
              refine LM.val (ov_pickF rfl rfl) ?_
              refine LM.val (ov_move rfl) ?_
              refine LM.drop (t := 35) rfl rfl rfl ?_
              refine LM.drop (t := 35) rfl rfl rfl ?_
              refine LM.drop (t := 35) rfl rfl rfl ?_
              refine LM.val (ov_pickF rfl rfl) ?_
              refine LM.val (ov_assign rfl) ?_
              refine LM.nil ?_
              refine QM.sub (e' := [(0, _)]) ⟨rfl, trivial⟩ ?_
              refine QM.then ?_
              refine wpM.ret ?_
              refine QM.leaveDF (ds := [D0]) (.inl rfl) [.tmp 0] Tryd.results13 rfl (fun D h => by simp only [List.mem_cons, List.not_mem_nil, or_false] at h; omega) ?_
              intro w' hm' hc'
              -- leaf 4: h1- h2+ h3+ h4+ h5-
              first | exact ⟨rfl, hc'⟩ | (refine ⟨?_, hc'⟩; simp [resV]; done) | (exfalso; simp at *; done)
          ·
            refine LM.drop (t := 25) rfl rfl rfl ?_
            refine LM.drop (t := 25) rfl rfl rfl ?_
            refine LM.drop (t := 25) rfl rfl rfl ?_
            refine LM.val (ov_pickF rfl rfl) ?_
            refine LM.val (ov_move rfl) ?_
            refine LM.drop (t := 30) rfl rfl rfl ?_
            refine LM.drop (t := 30) rfl rfl rfl ?_
            refine LM.drop (t := 30) rfl rfl rfl ?_
            refine LM.val (ov_pickF rfl rfl) ?_
            refine LM.val (ov_move rfl) ?_
            refine LM.drop (t := 35) rfl rfl rfl ?_
            refine LM.drop (t := 35) rfl rfl rfl ?_
            refine LM.drop (t := 35) rfl rfl rfl ?_
            refine LM.val (ov_pickF rfl rfl) ?_
            refine LM.val (ov_assign rfl) ?_
            refine LM.nil ?_
            refine QM.sub (e' := [(0, _)]) ⟨rfl, trivial⟩ ?_
            refine QM.then ?_
            refine wpM.ret ?_
            refine QM.leaveDF (ds := [D0]) (.inl rfl) [.tmp 0] Tryd.results13 rfl (fun D h => by simp only [List.mem_cons, List.not_mem_nil, or_false] at h; omega) ?_
            intro w' hm' hc'
            -- leaf 5: h1- h2+ h3+ h4-
            first | exact ⟨rfl, hc'⟩ | (refine ⟨?_, hc'⟩; simp [resV]; done) | (exfalso; simp at *; done)
        ·
          refine LM.drop (t := 21) rfl rfl rfl ?_
          refine LM.drop (t := 21) rfl rfl rfl ?_
          refine LM.val (ov_pickF rfl rfl) ?_
          refine LM.val (ov_move rfl) ?_
          refine LM.drop (t := 25) rfl rfl rfl ?_
          refine LM.drop (t := 25) rfl rfl rfl ?_
          refine LM.drop (t := 25) rfl rfl rfl ?_
          refine LM.val (ov_pickF rfl rfl) ?_
          refine LM.val (ov_move rfl) ?_
          refine LM.drop (t := 30) rfl rfl rfl ?_
          refine LM.drop (t := 30) rfl rfl rfl ?_
          refine LM.drop (t := 30) rfl rfl rfl ?_
          refine LM.val (ov_pickF rfl rfl) ?_
          refine LM.val (ov_move rfl) ?_
          refine LM.drop (t := 35) rfl rfl rfl ?_
          refine LM.drop (t := 35) rfl rfl rfl ?_
          refine LM.drop (t := 35) rfl rfl rfl ?_
          refine LM.val (ov_pickF rfl rfl) ?_
          refine LM.val (ov_assign rfl) ?_
          refine LM.nil ?_
          refine QM.sub (e' := [(0, _)]) ⟨rfl, trivial⟩ ?_
          refine QM.then ?_
          refine wpM.ret ?_
          refine QM.leaveDF (ds := [D0]) (.inl rfl) [.tmp 0] Tryd.results13 rfl (fun D h => by simp only [List.mem_cons, List.not_mem_nil, or_false] at h; omega) ?_
          intro w' hm' hc'
          -- leaf 6: h1- h2+ h3-
          first | exact ⟨rfl, hc'⟩ | (refine ⟨?_, hc'⟩; simp [resV]; done) | (exfalso; simp at *; done)
      ·
        refine LM.drop (t := 17) rfl rfl rfl ?_
        refine LM.drop (t := 17) rfl rfl rfl ?_
        refine LM.val (ov_pickF rfl rfl) ?_
        refine LM.val (ov_move rfl) ?_
        refine LM.drop (t := 21) rfl rfl rfl ?_
        refine LM.drop (t := 21) rfl rfl rfl ?_
        refine LM.val (ov_pickF rfl rfl) ?_
        refine LM.val (ov_move rfl) ?_
        refine LM.drop (t := 25) rfl rfl rfl ?_
        refine LM.drop (t := 25) rfl rfl rfl ?_
        refine LM.drop (t := 25) rfl rfl rfl ?_
        refine LM.val (ov_pickF rfl rfl) ?_
        refine LM.val (ov_move rfl) ?_
        refine LM.drop (t := 30) rfl rfl rfl ?_
        refine LM.drop (t := 30) rfl rfl rfl ?_
        refine LM.drop (t := 30) rfl rfl rfl ?_
        refine LM.val (ov_pickF rfl rfl) ?_
        refine LM.val (ov_move rfl) ?_
        refine LM.drop (t := 35) rfl rfl rfl ?_
        refine LM.drop (t := 35) rfl rfl rfl ?_
        refine LM.drop (t := 35) rfl rfl rfl ?_
        refine LM.val (ov_pickF rfl rfl) ?_
        refine LM.val (ov_assign rfl) ?_
        refine LM.nil ?_
        refine QM.sub (e' := [(0, _)]) ⟨rfl, trivial⟩ ?_
        refine QM.then ?_
        refine wpM.ret ?_
        refine QM.leaveDF (ds := [D0]) (.inl rfl) [.tmp 0] Tryd.results13 rfl (fun D h => by simp only [List.mem_cons, List.not_mem_nil, or_false] at h; omega) ?_
        intro w' hm' hc'
        -- leaf 7: h1- h2-
        first | exact ⟨rfl, hc'⟩ | (refine ⟨?_, hc'⟩; simp [resV]; done) | (exfalso; simp at *; done)
    ·
      rintro ⟨⟩ D0 hD0 hx
      first | exact hx.elim | cases hx.1
    ·
      rintro id ⟨⟩ D0 hD0 hx
      first | exact hx.elim | cases hx.1

set_option maxRecDepth 100000 in
theorem idsetOf {l : List Int} {ad : Option Addr} {n cap : Nat} (b : BitVec 64) (w : World) (hT : Tab w) (hn : n = l.length) (hl : Sr fI 1 l (.slice ad n cap) w) : Ret Tryd.prog 3 #[.slice ad n cap, U b] w (fun v w' => v = .bool true ∧ Ext w w') := by
  refine Ret.enterM (l := [.slice ad n cap, U b]) Tryd.func3 rfl Tryd.ntmps3 rfl ([]) (no) (Mem.nil w) ?_
  refine wpM.seq ?_
  refine wpM.region ?_
  refine LM.val (ov_assign rfl) ?_
  refine LM.nil ?_
  refine QM.sub (e' := [(0, _), (1, _)]) ⟨rfl, rfl, trivial⟩ ?_
  refine QM.then ?_
  refine wpM.seq ?_
  refine wpM.seq ?_
  refine wpM.region ?_
  refine LM.callE (oc_call (enters_fn Tryd.func13 (by kernel_rfl) rfl) rfl) (fun w hm hc hg => awake06 w (hT.ext hc)) ?_
  first | refine LM.val (ov_notD rfl) ?_ | refine LM.val (ov_not rfl) ?_
  refine LM.nil ?_
  refine QM.sub (e' := [(0, _), (1, _), (10, _)]) ⟨rfl, rfl, rfl, trivial⟩ ?_
  refine QM.then ?_
  first | refine wpM.condD rfl (fun h1 => ?_) (fun h1 => ?_) | refine wpM.condB rfl (fun h1 => ?_) (fun h1 => ?_)
  ·
    refine wpM.seq ?_
    refine wpM.region ?_
    refine LM.val (ov_assign rfl) ?_
    refine LM.nil ?_
    refine QM.sub (e' := [(4, _)]) ⟨rfl, trivial⟩ ?_
    refine QM.then ?_
    refine wpM.ret ?_
    refine QM.then_ret ?_
    refine QM.leave (.inl rfl) [.tmp 4] Tryd.results3 rfl ?_
    intro w' hm' hc' hg'
    -- leaf 1: h1+
    first | exact ⟨rfl, hc'⟩ | (refine ⟨?_, hc'⟩; simp [resV]; done) | (exfalso; simp at *; done)
  ·
    refine wpM.skip ?_
    refine QM.then ?_
    refine wpM.seq ?_
    refine wpM.seq ?_
    refine wpM.region ?_
    refine LM.val (ov_move rfl) ?_
    refine LM.val (ov_len Tryd.underlying22 rfl) ?_
    refine LM.val (ov_gtr rfl rfl) ?_
    refine LM.nil ?_
    refine QM.sub (e' := [(0, _), (1, _), (13, _)]) ⟨rfl, rfl, rfl, trivial⟩ ?_
    refine QM.then ?_
    first | refine wpM.condD rfl (fun h2 => ?_) (fun h2 => ?_) | refine wpM.condB rfl (fun h2 => ?_) (fun h2 => ?_)
    ·
      refine wpM.seq ?_
      refine wpM.region ?_
      refine LM.val (ov_assign rfl) ?_
      refine LM.nil ?_
      refine QM.sub (e' := [(4, _)]) ⟨rfl, trivial⟩ ?_
      refine QM.then ?_
      refine wpM.ret ?_
      refine QM.then_ret ?_
      refine QM.leave (.inl rfl) [.tmp 4] Tryd.results3 rfl ?_
      intro w' hm' hc' hg'
      -- leaf 2: h1- h2+
      first | exact ⟨rfl, hc'⟩ | (refine ⟨?_, hc'⟩; simp [resV]; done) | (exfalso; simp at *; done)
    ·
      refine wpM.skip ?_
      refine QM.then ?_
      refine wpM.seq ?_
      refine wpM.region ?_
      refine LM.val (ov_move rfl) ?_
      refine LM.callE (oc_call (enters_fn Tryd.func14 (by kernel_rfl) rfl) rfl) (fun w hm hc hg => of_spec w hn (hl.ext hc) (by omega)) ?_
      refine LM.val (ov_assign rfl) ?_
      refine LM.nil ?_
      refine QM.sub (e' := [(0, _), (1, _), (5, _)]) ⟨rfl, rfl, rfl, trivial⟩ ?_
      refine QM.then ?_
      refine wpM.seq ?_
      refine wpM.region ?_
      refine LM.val (ov_assign rfl) ?_
      refine LM.nil ?_
      refine QM.sub (e' := [(0, _), (1, _), (5, _), (6, _)]) ⟨rfl, rfl, rfl, rfl, trivial⟩ ?_
      refine QM.then ?_
      refine wpM.seq ?_
      refine wpM.seq ?_
      refine wpM.region ?_
      refine LM.val (ov_move rfl) ?_
      refine LM.val (ov_len Tryd.underlying22 rfl) ?_
      refine LM.val (ov_move rfl) ?_
      refine LM.nil ?_
      refine QM.sub (e' := [(1, _), (5, _), (6, _), (16, _), (17, _), (18, _)]) ⟨rfl, rfl, rfl, rfl, rfl, rfl, trivial⟩ ?_
      refine QM.then ?_
      refine wpM.block ?_
      refine wpM.loopK0 (α := Nat) (fun i => [(6, U (ofL (l.take i))), (18, .int .i64 (i : Nat))]) [(1, _), (5, _), (16, _), (17, _)] (fun i => []) (fun i => i ≤ l.length) (fun i => l.length - i) (0) ⟨(by first | rfl | exact lk rfl (by rw [ofL_take (by omega)])), (by first | rfl | exact lk rfl (by simp)), rfl, rfl, rfl, rfl, trivial⟩ (by (repeat' (first | exact SubM.nil _ | refine SubM.cons rfl ?_ | refine SubM.app ?_))) (Nat.zero_le _) ?_
      rintro i hi
      change wpM _ _ _ _ _ _ _ ([]) _ _ _
      refine wpM.seq ?_
      refine wpM.region ?_
      refine LM.val (ov_lss rfl rfl) ?_
      refine LM.nil ?_
      refine QM.sub (e' := [(1, _), (5, _), (6, _), (16, _), (17, _), (18, _), (19, _)]) ⟨rfl, rfl, rfl, rfl, rfl, rfl, rfl, trivial⟩ ?_
      refine QM.then ?_
      refine wpM.seq ?_
      first | refine wpM.condD rfl (fun h3 => ?_) (fun h3 => ?_) | refine wpM.condB rfl (fun h3 => ?_) (fun h3 => ?_)
      ·
        refine wpM.skip ?_
        refine QM.then ?_
        refine wpM.seq ?_
        refine wpM.block ?_
        refine wpM.seq ?_
        refine wpM.region ?_
        first | refine LM.val (ov_idxSN (by first | exact Sr.spt (by assumption) | exact Sl.spt (by assumption)) Tryd.underlying22 Tryd.sizeOf3 rfl rfl (by omega)) ?_ | refine LM.val (ov_idxS (by first | exact Sr.spt (by assumption) | exact Sl.spt (by assumption)) Tryd.underlying22 Tryd.sizeOf3 rfl rfl (by omega)) ?_ | refine LM.val (ov_idx1 Tryd.underlying22 Tryd.sizeOf3 rfl rfl (by omega)) ?_
        first | refine LM.rd (om_sl1 (by assumption) (by intro _; rfl) Tryd.isAgg3 rfl rfl (by exact getq 0 (by first | omega | (simp only [List.length_set, List.length_append, List.length_cons, List.length_nil]; omega))) (by rfl)) ?_ | refine LM.rdC (om_sr1 (by assumption) Tryd.isAgg3 rfl rfl (by exact getq 0 (by first | omega | (simp only [List.length_set, List.length_append, List.length_cons, List.length_nil]; omega))) (by rfl) id) ?_ | refine LM.rd (om_ld Tryd.isAgg3 rfl rfl) ?_
        refine LM.val (ov_assign rfl) ?_
        refine LM.nil ?_
        refine QM.sub (e' := [(1, _), (5, _), (6, _), (8, _), (16, _), (17, _), (18, _)]) ⟨rfl, rfl, rfl, rfl, rfl, rfl, rfl, trivial⟩ ?_
        refine QM.then ?_
        refine wpM.region ?_
        refine LM.val (ov_move rfl) ?_
        refine LM.val (ov_move rfl) ?_
        refine LM.callE (oc_call (enters_fn Tryd.func15 (by kernel_rfl) rfl) rfl) (fun w hm hc hg => rwith_spec _ _ w) ?_
        refine LM.val (ov_assign rfl) ?_
        refine LM.nil ?_
        refine QM.sub (e' := [(1, _), (5, _), (6, _), (16, _), (17, _), (18, _)]) ⟨rfl, rfl, rfl, rfl, rfl, rfl, trivial⟩ ?_
        refine QM.block_normal ?_
        refine QM.then ?_
        refine wpM.region ?_
        refine LM.val (ov_add64 rfl rfl (by omega)) ?_
        refine LM.val (ov_move rfl) ?_
        refine LM.nil ?_
        refine QM.sub (e' := [(1, _), (5, _), (6, _), (16, _), (17, _), (18, _)]) ⟨rfl, rfl, rfl, rfl, rfl, rfl, trivial⟩ ?_
        -- again1: h1- h2- h3+
        refine QM.againK (i + 1) ⟨(by first | rfl | exact lk rfl (by rw [ofL_take (by omega)])), (by first | rfl | exact lk rfl (by simp)), rfl, rfl, rfl, rfl, trivial⟩ (by (repeat' (first | exact SubM.nil _ | refine SubM.cons rfl ?_ | refine SubM.app ?_))) (fun _ h => h) ?_ ?_
        · omega
        · first | omega | (dsimp only; omega)
      ·
        refine wpM.exit ?_
        refine QM.then_exit ?_
        refine QM.then_exit ?_
        refine QM.block_hit ?_
        refine QM.then ?_
        refine wpM.seq ?_
        refine wpM.region ?_
        have e1 : l.take i = l := List.take_of_length_le (by omega); rw [e1]
        refine LM.val (ov_move rfl) ?_
        refine LM.val (ov_move rfl) ?_
        refine LM.val (ov_ueql rfl rfl) ?_
        refine LM.val (ov_move rfl) ?_
        first | refine LM.splitD (t := 29) rfl (fun h4 => ?_) (fun h4 => ?_) | refine LM.splitB (t := 29) rfl (fun h4 => ?_) (fun h4 => ?_)
        ·
          refine LM.strip (t := 29) rfl rfl rfl ?_
          refine LM.val (ov_move rfl) ?_
          refine LM.strip (t := 29) rfl rfl rfl ?_
          refine LM.val (ov_move rfl) ?_
          refine LM.strip (t := 29) rfl rfl rfl ?_
          refine LM.callE (oc_call (enters_fn Tryd.func16 (by kernel_rfl) rfl) rfl) (fun w hm hc hg => within_spec _ _ w) ?_
          refine LM.strip (t := 29) rfl rfl rfl ?_
          refine LM.val (ov_move rfl) ?_
          refine LM.strip (t := 29) rfl rfl rfl ?_
          refine LM.val (ov_move rfl) ?_
          refine LM.strip (t := 29) rfl rfl rfl ?_
          refine LM.val (ov_uandNot rfl rfl) ?_
          refine LM.strip (t := 29) rfl rfl rfl ?_
          refine LM.val (ov_ueql (b := 0#64) rfl rfl) ?_
          refine LM.strip (t := 29) rfl rfl rfl ?_
          refine LM.val (ov_beql Tryd.underlying4 rfl rfl) ?_
          refine LM.val (ov_pickT rfl rfl) ?_
          refine LM.val (ov_move rfl) ?_
          first | refine LM.splitD (t := 39) rfl (fun h5 => ?_) (fun h5 => ?_) | refine LM.splitB (t := 39) rfl (fun h5 => ?_) (fun h5 => ?_)
          ·
            refine LM.strip (t := 39) rfl rfl rfl ?_
            refine LM.val (ov_move rfl) ?_
            refine LM.strip (t := 39) rfl rfl rfl ?_
            refine LM.val (ov_move rfl) ?_
            refine LM.strip (t := 39) rfl rfl rfl ?_
            refine LM.val (ov_move rfl) ?_
            refine LM.strip (t := 39) rfl rfl rfl ?_
            refine LM.val (ov_uor rfl rfl) ?_
            refine LM.strip (t := 39) rfl rfl rfl ?_
            refine LM.callE (oc_call (enters_fn Tryd.func16 (by kernel_rfl) rfl) rfl) (fun w hm hc hg => within_at (or_sup _ _) w) ?_
            refine LM.val (ov_pickT rfl rfl) ?_
            refine LM.val (ov_move rfl) ?_
            first | refine LM.splitD (t := 46) rfl (fun h6 => ?_) (fun h6 => ?_) | refine LM.splitB (t := 46) rfl (fun h6 => ?_) (fun h6 => ?_)
            ·
              refine LM.strip (t := 46) rfl rfl rfl ?_
              refine LM.val (ov_move rfl) ?_
              refine LM.strip (t := 46) rfl rfl rfl ?_
              refine LM.val (ov_move rfl) ?_
              refine LM.strip (t := 46) rfl rfl rfl ?_
              refine LM.val (ov_uand rfl rfl) ?_
              refine LM.strip (t := 46) rfl rfl rfl ?_
              refine LM.val (ov_move rfl) ?_
              refine LM.strip (t := 46) rfl rfl rfl ?_
              refine LM.callE (oc_call (enters_fn Tryd.func16 (by kernel_rfl) rfl) rfl) (fun w hm hc hg => within_at (and_sub _ _) w) ?_
              refine LM.val (ov_pickT rfl rfl) ?_
              refine LM.val (ov_assign rfl) ?_
              refine LM.nil ?_
              refine QM.sub (e' := [(4, _)]) ⟨rfl, trivial⟩ ?_
              refine QM.then ?_
              refine wpM.ret ?_
              refine QM.leave (.inl rfl) [.tmp 4] Tryd.results3 rfl ?_
              intro w' hm' hc' hg'
              -- leaf 3: h1- h2- h3- h4+ h5+ h6+
              first | exact ⟨rfl, hc'⟩ | (refine ⟨?_, hc'⟩; simp [resV]; done) | (exfalso; simp at *; done)
            ·
              refine LM.drop (t := 46) rfl rfl rfl ?_
              refine LM.drop (t := 46) rfl rfl rfl ?_
              refine LM.drop (t := 46) rfl rfl rfl ?_
              refine LM.drop (t := 46) rfl rfl rfl ?_
              refine LM.drop (t := 46) rfl rfl rfl ?_
              refine LM.val (ov_pickF rfl rfl) ?_
              refine LM.val (ov_assign rfl) ?_
              refine LM.nil ?_
              refine QM.sub (e' := [(4, _)]) ⟨rfl, trivial⟩ ?_
              refine QM.then ?_
              refine wpM.ret ?_
              refine QM.leave (.inl rfl) [.tmp 4] Tryd.results3 rfl ?_
              intro w' hm' hc' hg'
              -- leaf 4: h1- h2- h3- h4+ h5+ h6-
              first | exact ⟨rfl, hc'⟩ | (refine ⟨?_, hc'⟩; simp [resV]; done) | (exfalso; simp at *; done)
          ·
            refine LM.drop (t := 39) rfl rfl rfl ?_
            refine LM.drop (t := 39) rfl rfl rfl ?_
            refine LM.drop (t := 39) rfl rfl rfl ?_
            refine LM.drop (t := 39) rfl rfl rfl ?_
            refine LM.drop (t := 39) rfl rfl rfl ?_
            refine LM.val (ov_pickF rfl rfl) ?_
            refine LM.val (ov_move rfl) ?_
            refine LM.drop (t := 46) rfl rfl rfl ?_
            refine LM.drop (t := 46) rfl rfl rfl ?_
            refine LM.drop (t := 46) rfl rfl rfl ?_
            refine LM.drop (t := 46) rfl rfl rfl ?_
            refine LM.drop (t := 46) rfl rfl rfl ?_
            refine LM.val (ov_pickF rfl rfl) ?_
            refine LM.val (ov_assign rfl) ?_
            refine LM.nil ?_
            refine QM.sub (e' := [(4, _)]) ⟨rfl, trivial⟩ ?_
            refine QM.then ?_
            refine wpM.ret ?_
            refine QM.leave (.inl rfl) [.tmp 4] Tryd.results3 rfl ?_
            intro w' hm' hc' hg'
            -- leaf 5: h1- h2- h3- h4+ h5-
            first | exact ⟨rfl, hc'⟩ | (refine ⟨?_, hc'⟩; simp [resV]; done) | (exfalso; simp at *; done)
        ·
          refine LM.drop (t := 29) rfl rfl rfl ?_
          refine LM.drop (t := 29) rfl rfl rfl ?_
          refine LM.drop (t := 29) rfl rfl rfl ?_
          refine LM.drop (t := 29) rfl rfl rfl ?_
          refine LM.drop (t := 29) rfl rfl rfl ?_
          refine LM.drop (t := 29) rfl rfl rfl ?_
          refine LM.drop (t := 29) rfl rfl rfl ?_
          refine LM.drop (t := 29) rfl rfl rfl ?_
          refine LM.val (ov_pickF rfl rfl) ?_
          refine LM.val (ov_move rfl) ?_
          refine LM.drop (t := 39) rfl rfl rfl ?_
          refine LM.drop (t := 39) rfl rfl rfl ?_
          refine LM.drop (t := 39) rfl rfl rfl ?_
          refine LM.drop (t := 39) rfl rfl rfl ?_
          refine LM.drop (t := 39) rfl rfl rfl ?_
          refine LM.val (ov_pickF rfl rfl) ?_
          refine LM.val (ov_move rfl) ?_
          refine LM.drop (t := 46) rfl rfl rfl ?_
          refine LM.drop (t := 46) rfl rfl rfl ?_
          refine LM.drop (t := 46) rfl rfl rfl ?_
          refine LM.drop (t := 46) rfl rfl rfl ?_
          refine LM.drop (t := 46) rfl rfl rfl ?_
          refine LM.val (ov_pickF rfl rfl) ?_
          refine LM.val (ov_assign rfl) ?_
          refine LM.nil ?_
          refine QM.sub (e' := [(4, _)]) ⟨rfl, trivial⟩ ?_
          refine QM.then ?_
          refine wpM.ret ?_
          refine QM.leave (.inl rfl) [.tmp 4] Tryd.results3 rfl ?_
          intro w' hm' hc' hg'
          -- leaf 6: h1- h2- h3- h4-
          first | exact ⟨rfl, hc'⟩ | (refine ⟨?_, hc'⟩; simp [resV]; done) | (exfalso; simp at *; done)

set_option maxRecDepth 100000 in
theorem idsetTurned (s : BitVec 64) (i k : Int) (w : World) (hT : Tab w) : Ret Tryd.prog 5 #[U s, .int .i64 i, .int .i64 k] w (fun v w' => v = .bool true ∧ Ext w w') := by
  refine Ret.enterM (l := [U s, .int .i64 i, .int .i64 k]) Tryd.func5 rfl Tryd.ntmps5 rfl ([]) (no) (Mem.nil w) ?_
  refine wpM.seq ?_
  refine wpM.region ?_
  refine LM.val (ov_assign rfl) ?_
  refine LM.nil ?_
  refine QM.sub (e' := [(0, _), (1, _), (2, _)]) ⟨rfl, rfl, rfl, trivial⟩ ?_
  refine QM.then ?_
  refine wpM.seq ?_
  refine wpM.seq ?_
  refine wpM.region ?_
  refine LM.callE (oc_call (enters_fn Tryd.func13 (by kernel_rfl) rfl) rfl) (fun w hm hc hg => awake06 w (hT.ext hc)) ?_
  first | refine LM.val (ov_notD rfl) ?_ | refine LM.val (ov_not rfl) ?_
  refine LM.nil ?_
  refine QM.sub (e' := [(0, _), (1, _), (2, _), (11, _)]) ⟨rfl, rfl, rfl, rfl, trivial⟩ ?_
  refine QM.then ?_
  first | refine wpM.condD rfl (fun h1 => ?_) (fun h1 => ?_) | refine wpM.condB rfl (fun h1 => ?_) (fun h1 => ?_)
  ·
    refine wpM.seq ?_
    refine wpM.region ?_
    refine LM.val (ov_assign rfl) ?_
    refine LM.nil ?_
    refine QM.sub (e' := [(6, _)]) ⟨rfl, trivial⟩ ?_
    refine QM.then ?_
    refine wpM.ret ?_
    refine QM.then_ret ?_
    refine QM.leave (.inl rfl) [.tmp 6] Tryd.results5 rfl ?_
    intro w' hm' hc' hg'
    -- leaf 1: h1+
    first | exact ⟨rfl, hc'⟩ | (refine ⟨?_, hc'⟩; simp [resV]; done) | (exfalso; simp at *; done)
  ·
    refine wpM.skip ?_
    refine QM.then ?_
    refine wpM.seq ?_
    refine wpM.region ?_
    refine LM.val (ov_move rfl) ?_
    refine LM.val (ov_move rfl) ?_
    refine LM.callE (oc_call (enters_fn Tryd.func21 (by kernel_rfl) rfl) rfl) (fun w hm hc hg => with_spec _ _ w) ?_
    refine LM.val (ov_move rfl) ?_
    refine LM.val (ov_move rfl) ?_
    refine LM.callE (oc_call (enters_fn Tryd.func22 (by kernel_rfl) rfl) rfl) (fun w hm hc hg => without_spec _ _ w) ?_
    refine LM.val (ov_assign rfl) ?_
    refine LM.val (ov_assign rfl) ?_
    refine LM.nil ?_
    refine QM.sub (e' := [(0, _), (1, _), (2, _), (7, _), (8, _)]) ⟨rfl, rfl, rfl, rfl, rfl, trivial⟩ ?_
    refine QM.then ?_
    refine wpM.seq ?_
    refine wpM.joinK (α := Bool) (fun b => [(9, .bool b)]) [(0, _), (1, _), (2, _), (7, _), (8, _)] (fun b => []) (fun b => b = (decide (0 ≤ i) && decide (i < 64))) ⟨rfl, rfl, rfl, rfl, rfl, trivial⟩ ?_ ?_
    ·
      refine wpM.region ?_
      refine LM.val (ov_move rfl) ?_
      refine LM.val (ov_geq rfl rfl) ?_
      refine LM.val (ov_move rfl) ?_
      first | refine LM.splitD (t := 20) rfl (fun h2 => ?_) (fun h2 => ?_) | refine LM.splitB (t := 20) rfl (fun h2 => ?_) (fun h2 => ?_)
      ·
        refine LM.strip (t := 20) rfl rfl rfl ?_
        refine LM.val (ov_move rfl) ?_
        refine LM.strip (t := 20) rfl rfl rfl ?_
        refine LM.val (ov_lss rfl rfl) ?_
        refine LM.val (ov_pickT rfl rfl) ?_
        refine LM.val (ov_assign rfl) ?_
        refine LM.nil ?_
        refine QM.sub (e' := [(0, _), (1, _), (2, _), (7, _), (8, _), (9, _)]) ⟨rfl, rfl, rfl, rfl, rfl, rfl, trivial⟩ ?_
        -- meet1: h1- h2+
        refine QM.meetK (_) ⟨(by first | rfl | exact lk rfl (by congr 1; omega) | exact lk rfl (by simp)), rfl, rfl, rfl, rfl, rfl, trivial⟩ (by (repeat' (first | exact SubM.nil _ | refine SubM.cons rfl ?_ | refine SubM.app ?_))) ?_
        · simp only [h1, h2, decide_true, decide_false, Bool.true_and, Bool.false_and, Bool.and_true, Bool.and_false, Bool.not_true, Bool.not_false, Bool.true_or, Bool.false_or, Bool.or_true, Bool.or_false, ne_eq, not_true_eq_false, not_false_eq_true, Bool.and_self]
      ·
        refine LM.drop (t := 20) rfl rfl rfl ?_
        refine LM.drop (t := 20) rfl rfl rfl ?_
        refine LM.val (ov_pickF rfl rfl) ?_
        refine LM.val (ov_assign rfl) ?_
        refine LM.nil ?_
        refine QM.sub (e' := [(0, _), (1, _), (2, _), (7, _), (8, _), (9, _)]) ⟨rfl, rfl, rfl, rfl, rfl, rfl, trivial⟩ ?_
        -- meet2: h1- h2-
        refine QM.meetK (_) ⟨(by first | rfl | exact lk rfl (by congr 1; omega) | exact lk rfl (by simp)), rfl, rfl, rfl, rfl, rfl, trivial⟩ (by (repeat' (first | exact SubM.nil _ | refine SubM.cons rfl ?_ | refine SubM.app ?_))) ?_
        · simp only [h1, h2, decide_true, decide_false, Bool.true_and, Bool.false_and, Bool.and_true, Bool.and_false, Bool.not_true, Bool.not_false, Bool.true_or, Bool.false_or, Bool.or_true, Bool.or_false, ne_eq, not_true_eq_false, not_false_eq_true, Bool.and_self]
    ·
      rintro b hb
      change QM _ _ _ _ _ ([]) _ _ _
      subst hb
      refine QM.then ?_
      refine wpM.seq ?_
      refine wpM.seq ?_
      refine wpM.region ?_
      refine LM.val (ov_move rfl) ?_
      refine LM.val (ov_move rfl) ?_
      refine LM.callE (oc_call (enters_fn Tryd.func19 (by kernel_rfl) rfl) rfl) (fun w hm hc hg => has_at (has_with _ _) w) ?_
      refine LM.val (ov_move rfl) ?_
      refine LM.val (ov_bneq Tryd.underlying4 rfl rfl) ?_
      refine LM.val (ov_move rfl) ?_
      first | refine LM.splitD (t := 29) rfl (fun h3 => ?_) (fun h3 => ?_) | refine LM.splitB (t := 29) rfl (fun h3 => ?_) (fun h3 => ?_)
      ·
        refine LM.drop (t := 29) rfl rfl rfl ?_
        refine LM.drop (t := 29) rfl rfl rfl ?_
        refine LM.drop (t := 29) rfl rfl rfl ?_
        refine LM.val (ov_pickT rfl rfl) ?_
        refine LM.nil ?_
        refine QM.sub (e' := [(0, _), (1, _), (2, _), (7, _), (8, _), (33, _)]) ⟨rfl, rfl, rfl, rfl, rfl, rfl, trivial⟩ ?_
        refine QM.then ?_
        refine wpM.condT rfl ?_
        refine wpM.seq ?_
        refine wpM.region ?_
        refine LM.val (ov_assign rfl) ?_
        refine LM.nil ?_
        refine QM.sub (e' := [(6, _)]) ⟨rfl, trivial⟩ ?_
        refine QM.then ?_
        refine wpM.ret ?_
        refine QM.then_ret ?_
        refine QM.leave (.inl rfl) [.tmp 6] Tryd.results5 rfl ?_
        intro w' hm' hc' hg'
        -- leaf 2: h1- h3+
        first | exact ⟨rfl, hc'⟩ | (refine ⟨?_, hc'⟩; simp [resV]; done) | (exfalso; simp at *; done)
      ·
        refine LM.strip (t := 29) rfl rfl rfl ?_
        refine LM.val (ov_move rfl) ?_
        refine LM.strip (t := 29) rfl rfl rfl ?_
        refine LM.val (ov_move rfl) ?_
        refine LM.strip (t := 29) rfl rfl rfl ?_
        refine LM.callE (oc_call (enters_fn Tryd.func19 (by kernel_rfl) rfl) rfl) (fun w hm hc hg => has_at (has_witho _ _) w) ?_
        refine LM.val (ov_pickF rfl rfl) ?_
        refine LM.nil ?_
        refine QM.sub (e' := [(0, _), (1, _), (2, _), (7, _), (8, _), (33, _)]) ⟨rfl, rfl, rfl, rfl, rfl, rfl, trivial⟩ ?_
        refine QM.then ?_
        first | refine wpM.condD rfl (fun h4 => ?_) (fun h4 => ?_) | refine wpM.condB rfl (fun h4 => ?_) (fun h4 => ?_)
        ·
          refine wpM.seq ?_
          refine wpM.region ?_
          refine LM.val (ov_assign rfl) ?_
          refine LM.nil ?_
          refine QM.sub (e' := [(6, _)]) ⟨rfl, trivial⟩ ?_
          refine QM.then ?_
          refine wpM.ret ?_
          refine QM.then_ret ?_
          refine QM.leave (.inl rfl) [.tmp 6] Tryd.results5 rfl ?_
          intro w' hm' hc' hg'
          -- leaf 3: h1- h3- h4+
          first | exact ⟨rfl, hc'⟩ | (refine ⟨?_, hc'⟩; simp [resV]; done) | (exfalso; simp at *; done)
        ·
          refine wpM.skip ?_
          refine QM.then ?_
          refine wpM.seq ?_
          refine wpM.seq ?_
          refine wpM.region ?_
          refine LM.val (ov_move rfl) ?_
          refine LM.val (ov_move rfl) ?_
          refine LM.val (ov_neq rfl rfl) ?_
          refine LM.val (ov_move rfl) ?_
          first | refine LM.splitD (t := 37) rfl (fun h5 => ?_) (fun h5 => ?_) | refine LM.splitB (t := 37) rfl (fun h5 => ?_) (fun h5 => ?_)
          ·
            refine LM.strip (t := 37) rfl rfl rfl ?_
            refine LM.val (ov_move rfl) ?_
            refine LM.strip (t := 37) rfl rfl rfl ?_
            refine LM.val (ov_move rfl) ?_
            refine LM.strip (t := 37) rfl rfl rfl ?_
            refine LM.callE (oc_call (enters_fn Tryd.func19 (by kernel_rfl) rfl) rfl) (fun w hm hc hg => has_at (has_with_ne h5) w) ?_
            refine LM.strip (t := 37) rfl rfl rfl ?_
            refine LM.val (ov_move rfl) ?_
            refine LM.strip (t := 37) rfl rfl rfl ?_
            refine LM.val (ov_move rfl) ?_
            refine LM.strip (t := 37) rfl rfl rfl ?_
            refine LM.callE (oc_call (enters_fn Tryd.func19 (by kernel_rfl) rfl) rfl) (fun w hm hc hg => has_spec _ _ w) ?_
            refine LM.strip (t := 37) rfl rfl rfl ?_
            refine LM.val (ov_bneq Tryd.underlying4 rfl rfl) ?_
            refine LM.strip (t := 37) rfl rfl rfl ?_
            refine LM.val (ov_move rfl) ?_
            first | refine LM.splitD (t := 45) rfl (fun h6 => ?_) (fun h6 => ?_) | refine LM.splitB (t := 45) rfl (fun h6 => ?_) (fun h6 => ?_)
            ·
              refine LM.drop (t := 45) rfl rfl rfl ?_
              refine LM.drop (t := 45) rfl rfl rfl ?_
              refine LM.drop (t := 45) rfl rfl rfl ?_
              refine LM.drop (t := 45) rfl rfl rfl ?_
              refine LM.drop (t := 45) rfl rfl rfl ?_
              refine LM.drop (t := 45) rfl rfl rfl ?_
              refine LM.drop (t := 45) rfl rfl rfl ?_
              refine LM.strip (t := 37) rfl rfl rfl ?_
              refine LM.val (ov_pickT rfl rfl) ?_
              refine LM.val (ov_pickT rfl rfl) ?_
              refine LM.nil ?_
              refine QM.sub (e' := [(0, _), (1, _), (7, _), (8, _), (54, _)]) ⟨rfl, rfl, rfl, rfl, rfl, trivial⟩ ?_
              refine QM.then ?_
              refine wpM.condT rfl ?_
              refine wpM.seq ?_
              refine wpM.region ?_
              refine LM.val (ov_assign rfl) ?_
              refine LM.nil ?_
              refine QM.sub (e' := [(6, _)]) ⟨rfl, trivial⟩ ?_
              refine QM.then ?_
              refine wpM.ret ?_
              refine QM.then_ret ?_
              refine QM.leave (.inl rfl) [.tmp 6] Tryd.results5 rfl ?_
              intro w' hm' hc' hg'
              -- leaf 4: h1- h3- h4- h5+ h6+
              first | exact ⟨rfl, hc'⟩ | (refine ⟨?_, hc'⟩; simp [resV]; done) | (exfalso; simp at *; done)
            ·
              refine LM.strip (t := 45) rfl rfl rfl ?_
              refine LM.val (ov_move rfl) ?_
              refine LM.strip (t := 45) rfl rfl rfl ?_
              refine LM.val (ov_move rfl) ?_
              refine LM.strip (t := 45) rfl rfl rfl ?_
              refine LM.callE (oc_call (enters_fn Tryd.func19 (by kernel_rfl) rfl) rfl) (fun w hm hc hg => has_at (has_witho_ne h5) w) ?_
              refine LM.strip (t := 45) rfl rfl rfl ?_
              refine LM.val (ov_move rfl) ?_
              refine LM.strip (t := 45) rfl rfl rfl ?_
              refine LM.val (ov_move rfl) ?_
              refine LM.strip (t := 45) rfl rfl rfl ?_
              refine LM.callE (oc_call (enters_fn Tryd.func19 (by kernel_rfl) rfl) rfl) (fun w hm hc hg => has_spec _ _ w) ?_
              refine LM.strip (t := 45) rfl rfl rfl ?_
              refine LM.val (ov_bneq Tryd.underlying4 rfl rfl) ?_
              refine LM.strip (t := 37) rfl rfl rfl ?_
              refine LM.val (ov_pickF rfl rfl) ?_
              refine LM.val (ov_pickT rfl rfl) ?_
              refine LM.nil ?_
              refine QM.sub (e' := [(0, _), (1, _), (7, _), (8, _), (54, _)]) ⟨rfl, rfl, rfl, rfl, rfl, trivial⟩ ?_
              refine QM.then ?_
              first | refine wpM.condD rfl (fun h7 => ?_) (fun h7 => ?_) | refine wpM.condB rfl (fun h7 => ?_) (fun h7 => ?_)
              ·
                refine wpM.seq ?_
                refine wpM.region ?_
                refine LM.val (ov_assign rfl) ?_
                refine LM.nil ?_
                refine QM.sub (e' := [(6, _)]) ⟨rfl, trivial⟩ ?_
                refine QM.then ?_
                refine wpM.ret ?_
                refine QM.then_ret ?_
                refine QM.leave (.inl rfl) [.tmp 6] Tryd.results5 rfl ?_
                intro w' hm' hc' hg'
                -- leaf 5: h1- h3- h4- h5+ h6- h7+
                first | exact ⟨rfl, hc'⟩ | (refine ⟨?_, hc'⟩; simp [resV]; done) | (exfalso; simp at *; done)
              ·
                refine wpM.skip ?_
                refine QM.then ?_
                refine wpM.seq ?_
                refine wpM.region ?_
                refine LM.val (ov_move rfl) ?_
                refine LM.val (ov_move rfl) ?_
                refine LM.callE (oc_call (enters_fn Tryd.func16 (by kernel_rfl) rfl) rfl) (fun w hm hc hg => within_at (witho_sub _ _) w) ?_
                refine LM.val (ov_move rfl) ?_
                first | refine LM.splitD (t := 58) rfl (fun h8 => ?_) (fun h8 => ?_) | refine LM.splitB (t := 58) rfl (fun h8 => ?_) (fun h8 => ?_)
                ·
                  refine LM.strip (t := 58) rfl rfl rfl ?_
                  refine LM.val (ov_move rfl) ?_
                  refine LM.strip (t := 58) rfl rfl rfl ?_
                  refine LM.val (ov_move rfl) ?_
                  refine LM.strip (t := 58) rfl rfl rfl ?_
                  refine LM.callE (oc_call (enters_fn Tryd.func16 (by kernel_rfl) rfl) rfl) (fun w hm hc hg => within_at (with_sup _ _) w) ?_
                  refine LM.val (ov_pickT rfl rfl) ?_
                  refine LM.val (ov_move rfl) ?_
                  first | refine LM.splitD (t := 63) rfl (fun h9 => ?_) (fun h9 => ?_) | refine LM.splitB (t := 63) rfl (fun h9 => ?_) (fun h9 => ?_)
                  ·
                    refine LM.strip (t := 63) rfl rfl rfl ?_
                    refine LM.val (ov_move rfl) ?_
                    refine LM.strip (t := 63) rfl rfl rfl ?_
                    refine LM.val (ov_move rfl) ?_
                    refine LM.strip (t := 63) rfl rfl rfl ?_
                    refine LM.callE (oc_call (enters_fn Tryd.func22 (by kernel_rfl) rfl) rfl) (fun w hm hc hg => without_at (witho_with _ _) w) ?_
                    refine LM.strip (t := 63) rfl rfl rfl ?_
                    refine LM.val (ov_move rfl) ?_
                    refine LM.strip (t := 63) rfl rfl rfl ?_
                    refine LM.val (ov_ueql rfl rfl) ?_
                    refine LM.val (ov_pickT rfl rfl) ?_
                    refine LM.val (ov_move rfl) ?_
                    first | refine LM.splitD (t := 70) rfl (fun h10 => ?_) (fun h10 => ?_) | refine LM.splitB (t := 70) rfl (fun h10 => ?_) (fun h10 => ?_)
                    ·
                      refine LM.strip (t := 70) rfl rfl rfl ?_
                      refine LM.val (ov_move rfl) ?_
                      refine LM.strip (t := 70) rfl rfl rfl ?_
                      refine LM.val (ov_move rfl) ?_
                      refine LM.strip (t := 70) rfl rfl rfl ?_
                      refine LM.callE (oc_call (enters_fn Tryd.func21 (by kernel_rfl) rfl) rfl) (fun w hm hc hg => with_at (with_witho _ _) w) ?_
                      refine LM.strip (t := 70) rfl rfl rfl ?_
                      refine LM.val (ov_move rfl) ?_
                      refine LM.strip (t := 70) rfl rfl rfl ?_
                      refine LM.val (ov_ueql rfl rfl) ?_
                      refine LM.val (ov_pickT rfl rfl) ?_
                      refine LM.val (ov_assign rfl) ?_
                      refine LM.nil ?_
                      refine QM.sub (e' := [(6, _)]) ⟨rfl, trivial⟩ ?_
                      refine QM.then ?_
                      refine wpM.ret ?_
                      refine QM.leave (.inl rfl) [.tmp 6] Tryd.results5 rfl ?_
                      intro w' hm' hc' hg'
                      -- leaf 6: h1- h3- h4- h5+ h6- h7- h8+ h9+ h10+
                      first | exact ⟨rfl, hc'⟩ | (refine ⟨?_, hc'⟩; simp [resV]; done) | (exfalso; simp at *; done)
                    ·
                      refine LM.drop (t := 70) rfl rfl rfl ?_
                      refine LM.drop (t := 70) rfl rfl rfl ?_
                      refine LM.drop (t := 70) rfl rfl rfl ?_
                      refine LM.drop (t := 70) rfl rfl rfl ?_
                      refine LM.drop (t := 70) rfl rfl rfl ?_
                      refine LM.val (ov_pickF rfl rfl) ?_
                      refine LM.val (ov_assign rfl) ?_
                      refine LM.nil ?_
                      refine QM.sub (e' := [(6, _)]) ⟨rfl, trivial⟩ ?_
                      refine QM.then ?_
                      refine wpM.ret ?_
                      refine QM.leave (.inl rfl) [.tmp 6] Tryd.results5 rfl ?_
                      intro w' hm' hc' hg'
                      -- leaf 7: h1- h3- h4- h5+ h6- h7- h8+ h9+ h10-
                      first | exact ⟨rfl, hc'⟩ | (refine ⟨?_, hc'⟩; simp [resV]; done) | (exfalso; simp at *; done)
                  ·
                    refine LM.drop (t := 63) rfl rfl rfl ?_
                    refine LM.drop (t := 63) rfl rfl rfl ?_
                    refine LM.drop (t := 63) rfl rfl rfl ?_
                    refine LM.drop (t := 63) rfl rfl rfl ?_
                    refine LM.drop (t := 63) rfl rfl rfl ?_
                    refine LM.val (ov_pickF rfl rfl) ?_
                    refine LM.val (ov_move rfl) ?_
                    refine LM.drop (t := 70) rfl rfl rfl ?_
                    refine LM.drop (t := 70) rfl rfl rfl ?_
                    refine LM.drop (t := 70) rfl rfl rfl ?_
                    refine LM.drop (t := 70) rfl rfl rfl ?_
                    refine LM.drop (t := 70) rfl rfl rfl ?_
                    refine LM.val (ov_pickF rfl rfl) ?_
                    refine LM.val (ov_assign rfl) ?_
                    refine LM.nil ?_
                    refine QM.sub (e' := [(6, _)]) ⟨rfl, trivial⟩ ?_
                    refine QM.then ?_
                    refine wpM.ret ?_
                    refine QM.leave (.inl rfl) [.tmp 6] Tryd.results5 rfl ?_
                    intro w' hm' hc' hg'
                    -- leaf 8: h1- h3- h4- h5+ h6- h7- h8+ h9-
                    first | exact ⟨rfl, hc'⟩ | (refine ⟨?_, hc'⟩; simp [resV]; done) | (exfalso; simp at *; done)
                ·
                  refine LM.drop (t := 58) rfl rfl rfl ?_
                  refine LM.drop (t := 58) rfl rfl rfl ?_
                  refine LM.drop (t := 58) rfl rfl rfl ?_
                  refine LM.val (ov_pickF rfl rfl) ?_
                  refine LM.val (ov_move rfl) ?_
                  refine LM.drop (t := 63) rfl rfl rfl ?_
                  refine LM.drop (t := 63) rfl rfl rfl ?_
                  refine LM.drop (t := 63) rfl rfl rfl ?_
                  refine LM.drop (t := 63) rfl rfl rfl ?_
                  refine LM.drop (t := 63) rfl rfl rfl ?_
                  refine LM.val (ov_pickF rfl rfl) ?_
                  refine LM.val (ov_move rfl) ?_
                  refine LM.drop (t := 70) rfl rfl rfl ?_
                  refine LM.drop (t := 70) rfl rfl rfl ?_
                  refine LM.drop (t := 70) rfl rfl rfl ?_
                  refine LM.drop (t := 70) rfl rfl rfl ?_
                  refine LM.drop (t := 70) rfl rfl rfl ?_
                  refine LM.val (ov_pickF rfl rfl) ?_
                  refine LM.val (ov_assign rfl) ?_
                  refine LM.nil ?_
                  refine QM.sub (e' := [(6, _)]) ⟨rfl, trivial⟩ ?_
                  refine QM.then ?_
                  refine wpM.ret ?_
                  refine QM.leave (.inl rfl) [.tmp 6] Tryd.results5 rfl ?_
                  intro w' hm' hc' hg'
                  -- leaf 9: h1- h3- h4- h5+ h6- h7- h8-
                  first | exact ⟨rfl, hc'⟩ | (refine ⟨?_, hc'⟩; simp [resV]; done) | (exfalso; simp at *; done)
          ·
            refine LM.drop (t := 37) rfl rfl rfl ?_
            refine LM.drop (t := 37) rfl rfl rfl ?_
            refine LM.drop (t := 37) rfl rfl rfl ?_
            refine LM.drop (t := 37) rfl rfl rfl ?_
            refine LM.drop (t := 37) rfl rfl rfl ?_
            refine LM.drop (t := 37) rfl rfl rfl ?_
            refine LM.drop (t := 37) rfl rfl rfl ?_
            refine LM.dropU (t := 37) rfl rfl rfl ?_
            refine LM.dropX (t := 45) rfl rfl ?_
            refine LM.dropX (t := 45) rfl rfl ?_
            refine LM.dropX (t := 45) rfl rfl ?_
            refine LM.dropX (t := 45) rfl rfl ?_
            refine LM.dropX (t := 45) rfl rfl ?_
            refine LM.dropX (t := 45) rfl rfl ?_
            refine LM.dropX (t := 45) rfl rfl ?_
            refine LM.drop (t := 37) rfl rfl rfl ?_
            refine LM.val (ov_pickF rfl rfl) ?_
            refine LM.nil ?_
            refine QM.sub (e' := [(0, _), (1, _), (7, _), (8, _), (54, _)]) ⟨rfl, rfl, rfl, rfl, rfl, trivial⟩ ?_
            refine QM.then ?_
            refine wpM.condF rfl ?_
            refine wpM.skip ?_
            refine QM.then ?_
            refine wpM.seq ?_
            refine wpM.region ?_
            refine LM.val (ov_move rfl) ?_
            refine LM.val (ov_move rfl) ?_
            refine LM.callE (oc_call (enters_fn Tryd.func16 (by kernel_rfl) rfl) rfl) (fun w hm hc hg => within_at (witho_sub _ _) w) ?_
            refine LM.val (ov_move rfl) ?_
            first | refine LM.splitD (t := 58) rfl (fun h11 => ?_) (fun h11 => ?_) | refine LM.splitB (t := 58) rfl (fun h11 => ?_) (fun h11 => ?_)
            ·
              refine LM.strip (t := 58) rfl rfl rfl ?_
              refine LM.val (ov_move rfl) ?_
              refine LM.strip (t := 58) rfl rfl rfl ?_
              refine LM.val (ov_move rfl) ?_
              refine LM.strip (t := 58) rfl rfl rfl ?_
              refine LM.callE (oc_call (enters_fn Tryd.func16 (by kernel_rfl) rfl) rfl) (fun w hm hc hg => within_at (with_sup _ _) w) ?_
              refine LM.val (ov_pickT rfl rfl) ?_
              refine LM.val (ov_move rfl) ?_
              first | refine LM.splitD (t := 63) rfl (fun h12 => ?_) (fun h12 => ?_) | refine LM.splitB (t := 63) rfl (fun h12 => ?_) (fun h12 => ?_)
              ·
                refine LM.strip (t := 63) rfl rfl rfl ?_
                refine LM.val (ov_move rfl) ?_
                refine LM.strip (t := 63) rfl rfl rfl ?_
                refine LM.val (ov_move rfl) ?_
                refine LM.strip (t := 63) rfl rfl rfl ?_
                refine LM.callE (oc_call (enters_fn Tryd.func22 (by kernel_rfl) rfl) rfl) (fun w hm hc hg => without_at (witho_with _ _) w) ?_
                refine LM.strip (t := 63) rfl rfl rfl ?_
                refine LM.val (ov_move rfl) ?_
                refine LM.strip (t := 63) rfl rfl rfl ?_
                refine LM.val (ov_ueql rfl rfl) ?_
                refine LM.val (ov_pickT rfl rfl) ?_
                refine LM.val (ov_move rfl) ?_
                first | refine LM.splitD (t := 70) rfl (fun h13 => ?_) (fun h13 => ?_) | refine LM.splitB (t := 70) rfl (fun h13 => ?_) (fun h13 => ?_)
                ·
                  refine LM.strip (t := 70) rfl rfl rfl ?_
                  refine LM.val (ov_move rfl) ?_
                  refine LM.strip (t := 70) rfl rfl rfl ?_
                  refine LM.val (ov_move rfl) ?_
                  refine LM.strip (t := 70) rfl rfl rfl ?_
                  refine LM.callE (oc_call (enters_fn Tryd.func21 (by kernel_rfl) rfl) rfl) (fun w hm hc hg => with_at (with_witho _ _) w) ?_
                  refine LM.strip (t := 70) rfl rfl rfl ?_
                  refine LM.val (ov_move rfl) ?_
                  refine LM.strip (t := 70) rfl rfl rfl ?_
                  refine LM.val (ov_ueql rfl rfl) ?_
                  refine LM.val (ov_pickT rfl rfl) ?_
                  refine LM.val (ov_assign rfl) ?_
                  refine LM.nil ?_
                  refine QM.sub (e' := [(6, _)]) ⟨rfl, trivial⟩ ?_
                  refine QM.then ?_
                  refine wpM.ret ?_
                  refine QM.leave (.inl rfl) [.tmp 6] Tryd.results5 rfl ?_
                  intro w' hm' hc' hg'
                  -- leaf 10: h1- h3- h4- h5- h11+ h12+ h13+
                  first | exact ⟨rfl, hc'⟩ | (refine ⟨?_, hc'⟩; simp [resV]; done) | (exfalso; simp at *; done)
                ·
                  refine LM.drop (t := 70) rfl rfl rfl ?_
                  refine LM.drop (t := 70) rfl rfl rfl ?_
                  refine LM.drop (t := 70) rfl rfl rfl ?_
                  refine LM.drop (t := 70) rfl rfl rfl ?_
                  refine LM.drop (t := 70) rfl rfl rfl ?_
                  refine LM.val (ov_pickF rfl rfl) ?_
                  refine LM.val (ov_assign rfl) ?_
                  refine LM.nil ?_
                  refine QM.sub (e' := [(6, _)]) ⟨rfl, trivial⟩ ?_
                  refine QM.then ?_
                  refine wpM.ret ?_
                  refine QM.leave (.inl rfl) [.tmp 6] Tryd.results5 rfl ?_
                  intro w' hm' hc' hg'
                  -- leaf 11: h1- h3- h4- h5- h11+ h12+ h13-
                  first | exact ⟨rfl, hc'⟩ | (refine ⟨?_, hc'⟩; simp [resV]; done) | (exfalso; simp at *; done)
              ·
                refine LM.drop (t := 63) rfl rfl rfl ?_
                refine LM.drop (t := 63) rfl rfl rfl ?_
                refine LM.drop (t := 63) rfl rfl rfl ?_
                refine LM.drop (t := 63) rfl rfl rfl ?_
                refine LM.drop (t := 63) rfl rfl rfl ?_
                refine LM.val (ov_pickF rfl rfl) ?_
                refine LM.val (ov_move rfl) ?_
                refine LM.drop (t := 70) rfl rfl rfl ?_
                refine LM.drop (t := 70) rfl rfl rfl ?_
                refine LM.drop (t := 70) rfl rfl rfl ?_
                refine LM.drop (t := 70) rfl rfl rfl ?_
                refine LM.drop (t := 70) rfl rfl rfl ?_
                refine LM.val (ov_pickF rfl rfl) ?_
                refine LM.val (ov_assign rfl) ?_
                refine LM.nil ?_
                refine QM.sub (e' := [(6, _)]) ⟨rfl, trivial⟩ ?_
                refine QM.then ?_
                refine wpM.ret ?_
                refine QM.leave (.inl rfl) [.tmp 6] Tryd.results5 rfl ?_
                intro w' hm' hc' hg'
                -- leaf 12: h1- h3- h4- h5- h11+ h12-
                first | exact ⟨rfl, hc'⟩ | (refine ⟨?_, hc'⟩; simp [resV]; done) | (exfalso; simp at *; done)
            ·
              refine LM.drop (t := 58) rfl rfl rfl ?_
              refine LM.drop (t := 58) rfl rfl rfl ?_
              refine LM.drop (t := 58) rfl rfl rfl ?_
              refine LM.val (ov_pickF rfl rfl) ?_
              refine LM.val (ov_move rfl) ?_
              refine LM.drop (t := 63) rfl rfl rfl ?_
              refine LM.drop (t := 63) rfl rfl rfl ?_
              refine LM.drop (t := 63) rfl rfl rfl ?_
              refine LM.drop (t := 63) rfl rfl rfl ?_
              refine LM.drop (t := 63) rfl rfl rfl ?_
              refine LM.val (ov_pickF rfl rfl) ?_
              refine LM.val (ov_move rfl) ?_
              refine LM.drop (t := 70) rfl rfl rfl ?_
              refine LM.drop (t := 70) rfl rfl rfl ?_
              refine LM.drop (t := 70) rfl rfl rfl ?_
              refine LM.drop (t := 70) rfl rfl rfl ?_
              refine LM.drop (t := 70) rfl rfl rfl ?_
              refine LM.val (ov_pickF rfl rfl) ?_
              refine LM.val (ov_assign rfl) ?_
              refine LM.nil ?_
              refine QM.sub (e' := [(6, _)]) ⟨rfl, trivial⟩ ?_
              refine QM.then ?_
              refine wpM.ret ?_
              refine QM.leave (.inl rfl) [.tmp 6] Tryd.results5 rfl ?_
              intro w' hm' hc' hg'
              -- leaf 13: h1- h3- h4- h5- h11-
              first | exact ⟨rfl, hc'⟩ | (refine ⟨?_, hc'⟩; simp [resV]; done) | (exfalso; simp at *; done)

end Go.Eng

