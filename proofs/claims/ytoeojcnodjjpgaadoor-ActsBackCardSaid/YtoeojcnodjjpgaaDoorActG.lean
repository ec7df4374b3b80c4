/- Acts' words are parsed again; ActsBack, walked. No condition. -/
import Derived.Test.YtoeojcnodjjpgaaDoorEng15
import Derived.Test.YtoeojcnodjjpgaaDoorActF
set_option linter.unusedVariables false
set_option linter.unusedSimpArgs false
namespace Go.Eng
open Go Go.Proofs Go.RowKit

theorem kindAT_nm {k : Int} (h : 1 ≤ k ∧ k ≤ 8) : kindAT (acT k) = k := by
  have : k = 1 ∨ k = 2 ∨ k = 3 ∨ k = 4 ∨ k = 5 ∨ k = 6 ∨ k = 7 ∨ k = 8 := by omega
  rcases this with rfl | rfl | rfl | rfl | rfl | rfl | rfl | rfl <;> decide +kernel
def setL : Nat → List Int → List Int → List Int
  | _, [], xs => xs
  | i, n :: ns, xs => setL (i + 1) ns (xs.set i n)
theorem numG_words {ws : List Wrd} : ∀ (ns : List Int) (tl : List Wrd) (j i : Nat) (xs : List Int), ws.drop j = ns.map numW ++ tl → numG ws ns.length j i xs = (j + ns.length, 0, setL i ns xs)
  | [], tl, j, i, xs, h => rfl
  | n :: ns, tl, j, i, xs, h => by
    have g : ws.getD j default = numW n := drop_getD default h 0
    have l : j < ws.length := drop_len h (j := 0) (by simp)
    have h2 : ws.drop (j + 1) = ns.map numW ++ tl := by rw [← List.drop_drop, h]; rfl
    rw [List.length_cons, numG_next (by omega) (by rw [decide_eq_false (show ¬ ws.length ≤ j by omega), g]; rfl), Nat.add_sub_cancel, numG_words ns tl (j + 1) (i + 1) _ h2, g]
    show (j + 1 + ns.length, 0, _) = (j + (ns.length + 1), 0, _)
    rw [show j + 1 + ns.length = j + (ns.length + 1) by omega]; rfl
theorem act_back {o : Act} (h : rightA o = true) : toA o.k (setL 0 ((numsA o).take (manyA o.k)) zer4) = o := by
  obtain ⟨k, a, b, c, d⟩ := o
  unfold rightA numB at h
  simp only [Bool.and_eq_true, Bool.or_eq_true, decide_eq_true_eq] at h
  obtain ⟨_, ⟨⟨⟨_, ha⟩, ⟨_, hb⟩⟩, ⟨_, hc⟩⟩, ⟨_, hd⟩⟩ := h
  have hm : manyA k = 0 ∨ manyA k = 1 ∨ manyA k = 2 ∨ manyA k = 4 := by unfold manyA; (repeat' split) <;> omega
  simp only
  rcases hm with hm | hm | hm | hm <;> rw [hm] at ha hb hc hd ⊢
  · obtain rfl : a = 0 := by omega
    obtain rfl : b = 0 := by omega
    obtain rfl : c = 0 := by omega
    obtain rfl : d = 0 := by omega
    rfl
  · obtain rfl : b = 0 := by omega
    obtain rfl : c = 0 := by omega
    obtain rfl : d = 0 := by omega
    rfl
  · obtain rfl : c = 0 := by omega
    obtain rfl : d = 0 := by omega
    rfl
  · rfl
theorem oneA_words {ws tl : List Wrd} {p : Nat} {o : Act} (h : ws.drop p = actW o ++ tl) (hr : rightA o = true) : oneA ws p = (o, p + (actW o).length, 0) := by
  have hk : 1 ≤ o.k ∧ o.k ≤ 8 := by
    unfold rightA kindOk at hr; simp only [Bool.and_eq_true, decide_eq_true_eq] at hr; exact hr.1
  have hm := manyA_le o.k
  have h0 : ws.drop p = ⟨1, acT o.k, 0, 0⟩ :: (((numsA o).take (manyA o.k)).map numW ++ (mk3 [59] :: tl)) := by rw [h]; simp [actW]
  have g0 : ws.getD p default = ⟨1, acT o.k, 0, 0⟩ := drop_getD default h0 0
  have l0 : p < ws.length := drop_len h0 (j := 0) (by simp)
  have h1 : ws.drop (p + 1) = ((numsA o).take (manyA o.k)).map numW ++ (mk3 [59] :: tl) := by rw [← List.drop_drop, h0]; rfl
  have hK : kindA ws p = o.k := by rw [kindA_yes l0 (by rw [g0]), g0]; exact kindAT_nm hk
  have hl : ((numsA o).take (manyA o.k)).length = manyA o.k := by rw [List.length_take]; exact Nat.min_eq_left hm
  have hN : numK ws p = (p + 1 + manyA o.k, 0, setL 0 ((numsA o).take (manyA o.k)) zer4) := by
    unfold numK; rw [hK]
    have := numG_words ((numsA o).take (manyA o.k)) _ (p + 1) 0 zer4 h1
    rw [hl] at this; exact this
  have h2 : ws.drop (p + 1 + manyA o.k) = mk3 [59] :: tl := by
    have := drop_add h1
    rwa [List.length_map, hl] at this
  have g2 : ws.getD (p + 1 + manyA o.k) default = mk3 [59] := drop_getD default h2 0
  have l2 : p + 1 + manyA o.k < ws.length := drop_len h2 (j := 0) (by simp)
  rw [oneA_ok (by omega) hN ((isR_of l2 g2).trans rfl), hK, act_back hr]
  congr 2
  unfold actW; simp only [List.length_cons, List.length_append, List.length_map, hl, List.length_nil]; omega
theorem loopA_words {ws : List Wrd} : ∀ (ys out : List Act) (p : Nat), ws.drop p = ys.flatMap actW → ys.all rightA = true → out.length + ys.length ≤ 4000 → loopA ws p out = (out ++ ys, ((p + (ys.flatMap actW).length : Nat) : Int), 0)
  | [], out, p, h, _, _ => by
    have : ws.length ≤ p := by have := congrArg List.length h; simp at this; omega
    rw [loopA_end this]; simp
  | o :: ys, out, p, h, hr, hl => by
    rw [List.all_cons, Bool.and_eq_true] at hr
    rw [List.length_cons] at hl
    have h1 : ws.drop p = actW o ++ ys.flatMap actW := by rw [h, List.flatMap_cons]
    have ho := oneA_words h1 hr.1
    have h0 : kindA ws p ≠ 0 := fun q => by rw [oneA_0 q] at ho; have := congrArg (fun r => r.2.2) ho; cases this
    have hlt : p < ws.length := kindA_lt h0
    rw [loopA_g hlt h0 (by omega) ho, loopA_words ys (out ++ [o]) _ (drop_add h1) hr.2 (by rw [List.length_append, List.length_singleton]; omega)]
    simp [Nat.add_assoc]
theorem acts_words {xs : List Act} (h : mayA xs = true) : wordsA xs = (xs.flatMap actW, 0) ∧ actsO (xs.flatMap actW) 0 = (xs, ((xs.flatMap actW).length : Int), 0) := by
  unfold mayA at h; simp only [Bool.and_eq_true, decide_eq_true_eq] at h
  refine ⟨by unfold wordsA; rw [h.2, if_pos rfl, if_neg (by omega)], ?_⟩
  have := loopA_words (ws := xs.flatMap actW) xs [] 0 (by simp) h.2 (by simpa using h.1)
  rw [show (0 : Int) = ((0 : Nat) : Int) from rfl, acts_nat (Nat.zero_le _), this]; simp
theorem wordsA_err (xs : List Act) : (wordsA xs).2 = 0 ↔ mayA xs = true := by
  constructor
  · intro h
    unfold wordsA at h; unfold mayA
    split at h
    · rename_i q
      split at h
      · cases h
      · rw [q, decide_eq_true (by omega)]; rfl
    · cases h
  · intro h; rw [(acts_words h).1]
def repA (k : Nat) (xs : List Act) : List Act := (List.replicate k xs).flatten
theorem repA_succ (k : Nat) (xs : List Act) : repA (k + 1) xs = repA k xs ++ xs := by
  unfold repA; rw [List.replicate_succ']; simp
set_option maxRecDepth 100000 in
set_option maxHeartbeats 2000000 in
theorem actsBack {xs : List Act} {ad : Option Addr} {n cap : Nat} (a : Int) (w : World) (hT : Tb w) (hn : n = xs.length) (hl : Sr fA 5 xs (.slice ad n cap) w) (ha : 0 ≤ a ∧ a ≤ 255) : Ret Tryd.prog 3 #[.slice ad n cap, .int .u8 a] w (fun v w' => v = .bool true ∧ Ext w w') := by
  refine Ret.enterM (l := [.slice ad n cap, .int .u8 a]) Tryd.func3 rfl Tryd.ntmps3 rfl ([]) (no) (Mem.nil w) ?_
  refine wpM.seq ?_
  refine wpM.region ?_
  refine LM.val (ov_assign rfl) ?_
  refine LM.nil ?_
  refine QM.sub (e' := [(0, _), (1, _)]) ⟨rfl, rfl, trivial⟩ ?_
  refine QM.then ?_
  refine wpM.seq ?_
  refine wpM.seq ?_
  refine wpM.region ?_
  refine LM.callE (oc_call (enters_fn Tryd.func11 (by kernel_rfl) rfl) rfl) (fun w hm hc hg => awake13_spec w (hT.ext hc)) ?_
  first | refine LM.val (ov_notD rfl) ?_ | refine LM.val (ov_not rfl) ?_
  refine LM.nil ?_
  refine QM.sub (e' := [(0, _), (1, _), (18, _)]) ⟨rfl, rfl, rfl, trivial⟩ ?_
  refine QM.then ?_
  first | refine wpM.condD rfl (fun h1 => ?_) (fun h1 => ?_) | refine wpM.condB rfl (fun h1 => ?_) (fun h1 => ?_)
  ·
    refine wpM.seq ?_
    refine wpM.region ?_
    refine LM.val (ov_assign rfl) ?_
    refine LM.nil ?_
    refine QM.sub (e' := [(4, _)]) ⟨rfl, trivial⟩ ?_
    refine QM.then ?_
    refine wpM.ret ?_
    refine QM.then_ret ?_
    refine QM.leave (.inl rfl) [.tmp 4] Tryd.results3 rfl ?_
    intro w' hm' hc' hg'
    -- leaf 1: h1+
    first | exact ⟨rfl, hc'⟩ | (exfalso; first | omega | (simp at *; done) | (simp_all; done))
  ·
    refine wpM.skip ?_
    refine QM.then ?_
    refine wpM.seq ?_
    refine wpM.seq ?_
    refine wpM.region ?_
    refine LM.val (ov_move rfl) ?_
    refine LM.val (ov_len Tryd.underlying22 rfl) ?_
    refine LM.val (ov_gtr rfl rfl) ?_
    refine LM.nil ?_
    refine QM.sub (e' := [(0, _), (1, _), (21, _)]) ⟨rfl, rfl, rfl, trivial⟩ ?_
    refine QM.then ?_
    first | refine wpM.condD rfl (fun h2 => ?_) (fun h2 => ?_) | refine wpM.condB rfl (fun h2 => ?_) (fun h2 => ?_)
    ·
      refine wpM.seq ?_
      refine wpM.region ?_
      refine LM.val (ov_assign rfl) ?_
      refine LM.nil ?_
      refine QM.sub (e' := [(4, _)]) ⟨rfl, trivial⟩ ?_
      refine QM.then ?_
      refine wpM.ret ?_
      refine QM.then_ret ?_
      refine QM.leave (.inl rfl) [.tmp 4] Tryd.results3 rfl ?_
      intro w' hm' hc' hg'
      -- leaf 2: h1- h2+
      first | exact ⟨rfl, hc'⟩ | (exfalso; first | omega | (simp at *; done) | (simp_all; done))
    ·
      refine wpM.skip ?_
      refine QM.then ?_
      refine wpM.seq ?_
      refine wpM.region ?_
      refine LM.val (ov_assign rfl) ?_
      refine LM.nil ?_
      refine QM.sub (e' := [(0, _), (1, _), (5, _)]) ⟨rfl, rfl, rfl, trivial⟩ ?_
      refine QM.then ?_
      refine wpM.seq ?_
      refine wpM.seq ?_
      refine wpM.region ?_
      refine LM.val (ov_move rfl) ?_
      refine LM.val (ov_to64 Tryd.underlying5 Tryd.underlying3 rfl (by omega)) ?_
      refine LM.val (ov_rem64 rfl rfl (by omega) (by omega)) ?_
      refine LM.val (ov_add64 rfl rfl (by omega)) ?_
      refine LM.val (ov_move rfl) ?_
      refine LM.nil ?_
      refine QM.sub (e' := [(0, _), (5, _), (25, _), (26, _)]) ⟨rfl, rfl, rfl, rfl, trivial⟩ ?_
      refine QM.then ?_
      refine wpM.block ?_
      refine wpM.loopK0 (α := Nat × Option Addr × Nat × Nat × Mem0) (fun ⟨k, ad5, n5, cap5, m5⟩ => [(5, .slice ad5 n5 cap5), (26, .int .i64 (k : Nat))]) [(0, _), (25, _)] (fun ⟨k, ad5, n5, cap5, m5⟩ => m5 ++ []) (fun ⟨k, ad5, n5, cap5, m5⟩ => k ≤ 103 ∧ ((k : Nat) : Int) ≤ 1 + a % 103 ∧ n5 = (repA k xs).length ∧ (repA k xs).length ≤ k * 40 ∧ Sl fA 49 5 w.heap.size (repA k xs) (.slice ad5 n5 cap5) m5) (fun ⟨k, ad5, n5, cap5, m5⟩ => 103 - k) ((0, none, 0, 0, [])) ⟨(by first | rfl | exact lk rfl (by congr 1; omega) | exact lk rfl (by simp)), (by first | rfl | exact lk rfl (by congr 1; omega) | exact lk rfl (by simp)), rfl, rfl, trivial⟩ (by (repeat' (first | exact SubM.nil _ | refine SubM.cons rfl ?_ | refine SubM.app ?_))) ⟨by omega, by omega, rfl, Nat.zero_le _, .nil _ _ _ _⟩ ?_
      rintro ⟨k, ad5, n5, cap5, m5⟩ ⟨hk, hka, hn5, hl5, hs5⟩
      change wpM _ _ _ _ _ _ _ (m5 ++ []) _ _ _
      refine wpM.seq ?_
      refine wpM.region ?_
      refine LM.val (ov_lss rfl rfl) ?_
      refine LM.nil ?_
      refine QM.sub (e' := [(0, _), (5, _), (25, _), (26, _), (27, _)]) ⟨rfl, rfl, rfl, rfl, rfl, trivial⟩ ?_
      refine QM.then ?_
      refine wpM.seq ?_
      first | refine wpM.condD rfl (fun h3 => ?_) (fun h3 => ?_) | refine wpM.condB rfl (fun h3 => ?_) (fun h3 => ?_)
      ·
        refine wpM.skip ?_
        refine QM.then ?_
        refine wpM.seq ?_
        refine wpM.block ?_
        refine wpM.region ?_
        refine LM.val (ov_move rfl) ?_
        refine LM.val (ov_move rfl) ?_
        refine LM.appN (ys := xs) Tryd.underlying22 Tryd.typeInfo49 rfl rfl rfl rfl rfl rfl rfl hs5 (fun w hm hc hg => hl.ext hc) (by intro _; rfl) (by intro _ u hu; simp [fA] at hu; (repeat (first | (rcases hu with rfl | hu) | subst hu | rfl))) (Nat.le_refl _) (fun p hp hlt => absurd hlt (Nat.not_lt_of_le (Sl.ge hs5 p hp))) (by unfold maxLen; omega) (by simp only [Tryd.t49]; omega) (fun ad30 n30 cap30 m30 hn30 hs30 hin30 => ?_)
        refine LM.val (ov_assign rfl) ?_
        refine LM.nil ?_
        refine QM.sub (e' := [(0, _), (5, _), (25, _), (26, _)]) ⟨rfl, rfl, rfl, rfl, trivial⟩ ?_
        refine QM.block_normal ?_
        refine QM.then ?_
        refine wpM.region ?_
        refine LM.val (ov_add64 rfl rfl (by omega)) ?_
        refine LM.val (ov_move rfl) ?_
        refine LM.nil ?_
        refine QM.sub (e' := [(0, _), (5, _), (25, _), (26, _)]) ⟨rfl, rfl, rfl, rfl, trivial⟩ ?_
        -- again1: h1- h2- h3+
        refine QM.againK ((k + 1, ad30, n30, cap30, m30)) ⟨(by first | rfl | exact lk rfl (by congr 1; omega) | exact lk rfl (by simp)), (by first | rfl | exact lk rfl (by congr 1; omega) | exact lk rfl (by simp)), rfl, rfl, trivial⟩ (by (repeat' (first | exact SubM.nil _ | refine SubM.cons rfl ?_ | refine SubM.app ?_))) (fun _ h => h) ?_ ?_
        · exact ⟨by omega, by omega, by rw [repA_succ, List.length_append]; exact hn30, by rw [repA_succ, List.length_append]; omega, by rw [repA_succ]; exact hs30⟩
        · first | omega | (dsimp only; omega)
      ·
        refine wpM.exit ?_
        refine QM.then_exit ?_
        refine QM.then_exit ?_
        refine QM.block_hit ?_
        refine QM.then ?_
        refine wpM.seq ?_
        refine wpM.region ?_
        refine LM.val (ov_move rfl) ?_
        refine LM.callT (oc_call (enters_fn Tryd.func12 (by kernel_rfl) rfl) rfl) WoT.mono (fun w hm hc hg => awords_spec w hn5 (hs5.srM (by intro _; rfl) hm) (by omega)) ?_
        rintro u34 m34 ⟨ad34, n34, cap34, rfl, hn34, hs34⟩ -; have hl34 := wordsA_len (repA k xs)
        refine LM.val (ov_move rfl) ?_
        refine LM.val (ov_extract rfl rfl) ?_
        refine LM.val (ov_extract rfl rfl) ?_
        refine LM.val (ov_assign rfl) ?_
        refine LM.val (ov_assign rfl) ?_
        refine LM.nil ?_
        refine QM.sub (e' := [(5, _), (6, _), (7, _)]) ⟨rfl, rfl, rfl, trivial⟩ ?_
        refine QM.then ?_
        refine wpM.seq ?_
        refine wpM.region ?_
        refine LM.val (ov_move rfl) ?_
        refine LM.callT (oc_call (enters_fn Tryd.func13 (by kernel_rfl) rfl) rfl) WoT.mono (fun w hm hc hg => rawords_spec w hn5 (hs5.srM (by intro _; rfl) hm) (by omega)) ?_
        rintro u39 m39 ⟨ad39, n39, cap39, rfl, hn39, hs39⟩ -
        refine LM.val (ov_move rfl) ?_
        refine LM.val (ov_extract rfl rfl) ?_
        refine LM.val (ov_extract rfl rfl) ?_
        refine LM.val (ov_assign rfl) ?_
        refine LM.val (ov_assign rfl) ?_
        refine LM.nil ?_
        refine QM.sub (e' := [(5, _), (6, _), (7, _), (8, _), (9, _)]) ⟨rfl, rfl, rfl, rfl, rfl, trivial⟩ ?_
        refine QM.then ?_
        refine wpM.seq ?_
        refine wpM.region ?_
        refine LM.val (ov_move rfl) ?_
        refine LM.callE (oc_call (enters_fn Tryd.func14 (by kernel_rfl) rfl) rfl) (fun w hm hc hg => aprint_spec w hn5 (hs5.srM (by intro _; rfl) hm) (by omega) (hT.ext hc)) ?_
        refine LM.val (ov_move rfl) ?_
        refine LM.val (ov_extract rfl rfl) ?_
        refine LM.val (ov_extract rfl rfl) ?_
        refine LM.val (ov_assign rfl) ?_
        refine LM.val (ov_assign rfl) ?_
        refine LM.nil ?_
        refine QM.sub (e' := [(5, _), (6, _), (7, _), (8, _), (9, _), (10, _), (11, _)]) ⟨rfl, rfl, rfl, rfl, rfl, rfl, rfl, trivial⟩ ?_
        refine QM.then ?_
        refine wpM.seq ?_
        refine wpM.region ?_
        refine LM.val (ov_move rfl) ?_
        refine LM.callE (oc_call (enters_fn Tryd.func15 (by kernel_rfl) rfl) rfl) (fun w hm hc hg => raprint_spec w hn5 (hs5.srM (by intro _; rfl) hm) (by omega)) ?_
        refine LM.val (ov_move rfl) ?_
        refine LM.val (ov_extract rfl rfl) ?_
        refine LM.val (ov_extract rfl rfl) ?_
        refine LM.val (ov_assign rfl) ?_
        refine LM.val (ov_assign rfl) ?_
        refine LM.nil ?_
        refine QM.sub (e' := [(5, _), (6, _), (7, _), (8, _), (9, _), (10, _), (11, _), (12, _), (13, _)]) ⟨rfl, rfl, rfl, rfl, rfl, rfl, rfl, rfl, rfl, trivial⟩ ?_
        refine QM.then ?_
        refine wpM.seq ?_
        refine wpM.seq ?_
        refine wpM.region ?_
        refine LM.val (ov_move rfl) ?_
        refine LM.val (ov_move rfl) ?_
        refine LM.callE (oc_call (enters_fn Tryd.func16 (by kernel_rfl) rfl) rfl) (fun w hm hc hg => wsame_spec true w hn34 (hs34.srM (by intro _; rfl) hm) hn39 (hs39.srM (by intro _; rfl) hm) (by omega)) ?_
        first | refine LM.val (ov_notD rfl) ?_ | refine LM.val (ov_not rfl) ?_
        refine LM.val (ov_move rfl) ?_
        first | refine LM.splitD (t := 56) rfl (fun h4 => ?_) (fun h4 => ?_) | refine LM.splitB (t := 56) rfl (fun h4 => ?_) (fun h4 => ?_)
        ·
          exfalso; rw [sameW_refl] at h4; simp at h4
        ·
          refine LM.strip (t := 56) rfl rfl rfl ?_
          refine LM.val (ov_move rfl) ?_
          refine LM.strip (t := 56) rfl rfl rfl ?_
          refine LM.val (ov_move rfl) ?_
          refine LM.strip (t := 56) rfl rfl rfl ?_
          refine LM.val (ov_neq rfl rfl) ?_
          refine LM.val (ov_pickF rfl rfl) ?_
          refine LM.val (ov_move rfl) ?_
          first | refine LM.splitD (t := 61) rfl (fun h5 => ?_) (fun h5 => ?_) | refine LM.splitB (t := 61) rfl (fun h5 => ?_) (fun h5 => ?_)
          ·
            exfalso; simp at h5
          ·
            refine LM.strip (t := 61) rfl rfl rfl ?_
            refine LM.val (ov_move rfl) ?_
            refine LM.strip (t := 61) rfl rfl rfl ?_
            refine LM.val (ov_move rfl) ?_
            refine LM.strip (t := 61) rfl rfl rfl ?_
            refine LM.val (ov_sneqL rfl rfl) ?_
            refine LM.val (ov_pickF rfl rfl) ?_
            refine LM.val (ov_move rfl) ?_
            first | refine LM.splitD (t := 66) rfl (fun h6 => ?_) (fun h6 => ?_) | refine LM.splitB (t := 66) rfl (fun h6 => ?_) (fun h6 => ?_)
            ·
              exfalso; simp at h6
            ·
              refine LM.strip (t := 66) rfl rfl rfl ?_
              refine LM.val (ov_move rfl) ?_
              refine LM.strip (t := 66) rfl rfl rfl ?_
              refine LM.val (ov_move rfl) ?_
              refine LM.strip (t := 66) rfl rfl rfl ?_
              refine LM.val (ov_neq rfl rfl) ?_
              refine LM.val (ov_pickF rfl rfl) ?_
              refine LM.val (ov_move rfl) ?_
              first | refine LM.splitD (t := 71) rfl (fun h7 => ?_) (fun h7 => ?_) | refine LM.splitB (t := 71) rfl (fun h7 => ?_) (fun h7 => ?_)
              ·
                exfalso; simp at h7
              ·
                refine LM.strip (t := 71) rfl rfl rfl ?_
                refine LM.val (ov_move rfl) ?_
                refine LM.strip (t := 71) rfl rfl rfl ?_
                refine LM.callE (oc_call (enters_fn Tryd.func17 (by kernel_rfl) rfl) rfl) (fun w hm hc hg => amay_spec w hn5 (hs5.srM (by intro _; rfl) hm)) ?_
                refine LM.strip (t := 71) rfl rfl rfl ?_
                refine LM.val (ov_move rfl) ?_
                refine LM.strip (t := 71) rfl rfl rfl ?_
                refine LM.val (ov_eql rfl rfl) ?_
                refine LM.strip (t := 71) rfl rfl rfl ?_
                refine LM.val (ov_bneq Tryd.underlying4 rfl rfl) ?_
                refine LM.val (ov_pickF rfl rfl) ?_
                refine LM.nil ?_
                refine QM.sub (e' := [(5, _), (6, _), (9, _), (77, _)]) ⟨rfl, rfl, rfl, rfl, trivial⟩ ?_
                refine QM.then ?_
                first | refine wpM.condD rfl (fun h8 => ?_) (fun h8 => ?_) | refine wpM.condB rfl (fun h8 => ?_) (fun h8 => ?_)
                ·
                  exfalso; have := wordsA_err (repA k xs); cases hm : mayA (repA k xs) <;> simp_all
                ·
                  refine wpM.skip ?_
                  refine QM.then ?_
                  refine wpM.seq ?_
                  refine wpM.seq ?_
                  refine wpM.region ?_
                  refine LM.val (ov_move rfl) ?_
                  refine LM.val (ov_neq rfl rfl) ?_
                  refine LM.nil ?_
                  refine QM.sub (e' := [(5, _), (6, _), (79, _)]) ⟨rfl, rfl, rfl, trivial⟩ ?_
                  refine QM.then ?_
                  first | refine wpM.condD rfl (fun h9 => ?_) (fun h9 => ?_) | refine wpM.condB rfl (fun h9 => ?_) (fun h9 => ?_)
                  ·
                    refine wpM.seq ?_
                    refine wpM.region ?_
                    refine LM.val (ov_assign rfl) ?_
                    refine LM.nil ?_
                    refine QM.sub (e' := [(4, _)]) ⟨rfl, trivial⟩ ?_
                    refine QM.then ?_
                    refine wpM.ret ?_
                    refine QM.then_ret ?_
                    refine QM.leave (.inl rfl) [.tmp 4] Tryd.results3 rfl ?_
                    intro w' hm' hc' hg'
                    -- leaf 3: h1- h2- h3- h4- h5- h6- h7- h8- h9+
                    first | exact ⟨rfl, hc'⟩ | (exfalso; first | omega | (simp at *; done) | (simp_all; done))
                  ·
                    have hm0 : mayA (repA k xs) = true := (wordsA_err _).1 (Classical.not_not.1 h9); have hW := (acts_words hm0).1; have hpar : actsO (wordsA (repA k xs)).1 0 = (repA k xs, (((repA k xs).flatMap actW).length : Int), 0) := (by rw [hW]; exact (acts_words hm0).2)
                    refine wpM.skip ?_
                    refine QM.then ?_
                    refine wpM.seq ?_
                    refine wpM.region ?_
                    refine LM.val (ov_move rfl) ?_
                    refine LM.callT (oc_call (enters_fn Tryd.func18 (by kernel_rfl) rfl) rfl) AcT.mono (fun w hm hc hg => aparse_spec 0 w hn34 (by omega) (hs34.srM (by intro _; rfl) hm)) ?_
                    rw [hpar]; rintro u82 m82 ⟨ad82, n82, cap82, rfl, hn82, hs82⟩ -
                    refine LM.val (ov_move rfl) ?_
                    refine LM.val (ov_extract rfl rfl) ?_
                    refine LM.val (ov_extract rfl rfl) ?_
                    refine LM.val (ov_extract rfl rfl) ?_
                    refine LM.val (ov_assign rfl) ?_
                    refine LM.val (ov_assign rfl) ?_
                    refine LM.val (ov_assign rfl) ?_
                    refine LM.nil ?_
                    refine QM.sub (e' := [(5, _), (6, _), (14, _), (15, _), (16, _)]) ⟨rfl, rfl, rfl, rfl, rfl, trivial⟩ ?_
                    refine QM.then ?_
                    refine wpM.seq ?_
                    refine wpM.region ?_
                    refine LM.val (ov_move rfl) ?_
                    refine LM.val (ov_eql rfl rfl) ?_
                    refine LM.val (ov_move rfl) ?_
                    first | refine LM.splitD (t := 88) rfl (fun h10 => ?_) (fun h10 => ?_) | refine LM.splitB (t := 88) rfl (fun h10 => ?_) (fun h10 => ?_)
                    ·
                      refine LM.strip (t := 88) rfl rfl rfl ?_
                      refine LM.val (ov_move rfl) ?_
                      refine LM.strip (t := 88) rfl rfl rfl ?_
                      refine LM.val (ov_move rfl) ?_
                      refine LM.strip (t := 88) rfl rfl rfl ?_
                      refine LM.val (ov_len Tryd.underlying24 rfl) ?_
                      refine LM.strip (t := 88) rfl rfl rfl ?_
                      refine LM.val (ov_eql rfl rfl) ?_
                      refine LM.val (ov_pickT rfl rfl) ?_
                      refine LM.val (ov_move rfl) ?_
                      first | refine LM.splitD (t := 94) rfl (fun h11 => ?_) (fun h11 => ?_) | refine LM.splitB (t := 94) rfl (fun h11 => ?_) (fun h11 => ?_)
                      ·
                        refine LM.strip (t := 94) rfl rfl rfl ?_
                        refine LM.val (ov_move rfl) ?_
                        refine LM.strip (t := 94) rfl rfl rfl ?_
                        refine LM.val (ov_move rfl) ?_
                        refine LM.strip (t := 94) rfl rfl rfl ?_
                        refine LM.callE (oc_call (enters_fn Tryd.func19 (by kernel_rfl) rfl) rfl) (fun w hm hc hg => asame_spec w hn82 (hs82.srM (by intro _; rfl) hm) hn5 (hs5.srM (by intro _; rfl) hm) (show (repA k xs).length ≤ 1000000000 by omega)) ?_
                        refine LM.val (ov_pickT rfl rfl) ?_
                        refine LM.val (ov_assign rfl) ?_
                        refine LM.nil ?_
                        refine QM.sub (e' := [(4, _)]) ⟨rfl, trivial⟩ ?_
                        refine QM.then ?_
                        refine wpM.ret ?_
                        refine QM.leave (.inl rfl) [.tmp 4] Tryd.results3 rfl ?_
                        intro w' hm' hc' hg'
                        -- leaf 4: h1- h2- h3- h4- h5- h6- h7- h8- h9- h10+ h11+
                        refine ⟨?_, hc'⟩; show Value.bool (decide (repA k xs = repA k xs)) = _; simp
                      ·
                        exfalso; exact h11 (by rw [hn34, hW])
                    ·
                      exfalso; simp at h10

end Go.Eng

