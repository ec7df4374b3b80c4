/- The walks of acts that may be. No condition. -/
import Derived.Test.YtoeojcnodjjpgaaDoorActLaw
import Derived.Test.YtoeojcnodjjpgaaDoorPgmI
set_option linter.unusedVariables false
set_option linter.unusedSimpArgs false
namespace Go.Eng
open Go Go.Proofs Go.RowKit

theorem before_next {p : Nat → Bool} {i : Nat} (h : ∀ j, j < i → p j = true) (hi : p i = true) : ∀ j, j < i + 1 → p j = true := fun j hj => by
  by_cases q : j = i
  · subst q; exact hi
  · exact h j (by omega)
set_option maxRecDepth 100000 in
theorem anames_spec (w : World) : Ret Tryd.prog 56 #[] w (New fB 9 1 acW w) := by
  refine Ret.enterM (l := []) Tryd.func56 rfl Tryd.ntmps56 rfl ([]) (no) (Mem.nil w) ?_
  refine wpM.seq ?_
  refine wpM.region ?_
  refine LM.val (ov_assign rfl) ?_
  refine LM.nil ?_
  refine QM.sub (e' := []) trivial ?_
  refine QM.then ?_
  refine wpM.seq ?_
  refine wpM.region ?_
  refine LM.row (vs := [_, _, _, _, _, _, _, _, _]) Tryd.underlying96 Tryd.sizeOf9 Tryd.zeroValue9 rfl rfl rfl rfl rfl rfl (fun b1 hb1 => ?_)
  refine LM.val (ov_assign rfl) ?_
  refine LM.nil ?_
  refine QM.sub (e' := [(0, _)]) ⟨rfl, trivial⟩ ?_
  refine QM.then ?_
  refine wpM.ret ?_
  refine QM.leave (.inl rfl) [.tmp 0] Tryd.results56 rfl ?_
  intro w' hm' hc' hg'
  -- leaf 1: 
  exact ⟨hc', [(b1, .cells (arr fB acW []) 9 (0, 0))], .inr ⟨b1, 9, [], hb1, rfl, rfl, by decide, by unfold maxLen; decide, rfl⟩, hm'⟩

set_option maxRecDepth 100000 in
theorem aname_spec (k : Int) (w : World) : Ret Tryd.prog 22 #[.int .i64 k] w (fun v w' => v = vS (acT k) ∧ Ext w w') := by
  refine Ret.enterM (l := [.int .i64 k]) Tryd.func22 rfl Tryd.ntmps22 rfl ([]) (no) (Mem.nil w) ?_
  refine wpM.seq ?_
  refine wpM.region ?_
  refine LM.val (ov_assign rfl) ?_
  refine LM.nil ?_
  refine QM.sub (e' := [(0, _)]) ⟨rfl, trivial⟩ ?_
  refine QM.then ?_
  refine wpM.seq ?_
  refine wpM.seq ?_
  refine wpM.region ?_
  refine LM.val (ov_move rfl) ?_
  refine LM.val (ov_lss rfl rfl) ?_
  refine LM.val (ov_move rfl) ?_
  first | refine LM.splitD (t := 5) rfl (fun h1 => ?_) (fun h1 => ?_) | refine LM.splitB (t := 5) rfl (fun h1 => ?_) (fun h1 => ?_)
  ·
    refine LM.drop (t := 5) rfl rfl rfl ?_
    refine LM.drop (t := 5) rfl rfl rfl ?_
    refine LM.drop (t := 5) rfl rfl rfl ?_
    refine LM.drop (t := 5) rfl rfl rfl ?_
    refine LM.val (ov_pickT rfl rfl) ?_
    refine LM.nil ?_
    refine QM.sub (e' := [(0, _), (10, _)]) ⟨rfl, rfl, trivial⟩ ?_
    refine QM.then ?_
    refine wpM.condT rfl ?_
    refine wpM.seq ?_
    refine wpM.region ?_
    refine LM.val (ov_assign rfl) ?_
    refine LM.nil ?_
    refine QM.sub (e' := [(2, _)]) ⟨rfl, trivial⟩ ?_
    refine QM.then ?_
    refine wpM.ret ?_
    refine QM.then_ret ?_
    refine QM.leave (.inl rfl) [.tmp 2] Tryd.results22 rfl ?_
    intro w' hm' hc' hg'
    -- leaf 1: h1+
    have hl13 : acW.length = 9 := rfl; refine ⟨?_, hc'⟩; show vS _ = _; congr 1; first | (rw [acT, if_neg (by omega)]; done) | (rw [acT, if_pos (by omega)]; rfl)
  ·
    refine LM.strip (t := 5) rfl rfl rfl ?_
    refine LM.val (ov_move rfl) ?_
    refine LM.strip (t := 5) rfl rfl rfl ?_
    refine LM.cS (oc_call (enters_fn Tryd.func56 (by kernel_rfl) rfl) rfl) (fun w hm hc hg => anames_spec w) (fun ad7 n7 cap7 m7 hn7 hs7 => ?_)
    refine LM.strip (t := 5) rfl rfl rfl ?_
    refine LM.val (ov_len Tryd.underlying96 rfl) ?_
    refine LM.strip (t := 5) rfl rfl rfl ?_
    have hl12 : n7 = 9 := hn7
    refine LM.val (ov_geq rfl rfl) ?_
    refine LM.val (ov_pickF rfl rfl) ?_
    refine LM.nil ?_
    refine QM.sub (e' := [(0, _), (10, _)]) ⟨rfl, rfl, trivial⟩ ?_
    refine QM.then ?_
    first | refine wpM.condD rfl (fun h2 => ?_) (fun h2 => ?_) | refine wpM.condB rfl (fun h2 => ?_) (fun h2 => ?_)
    ·
      refine wpM.seq ?_
      refine wpM.region ?_
      refine LM.val (ov_assign rfl) ?_
      refine LM.nil ?_
      refine QM.sub (e' := [(2, _)]) ⟨rfl, trivial⟩ ?_
      refine QM.then ?_
      refine wpM.ret ?_
      refine QM.then_ret ?_
      refine QM.leave (.inl rfl) [.tmp 2] Tryd.results22 rfl ?_
      intro w' hm' hc' hg'
      -- leaf 2: h1- h2+
      have hl13 : acW.length = 9 := rfl; refine ⟨?_, hc'⟩; show vS _ = _; congr 1; first | (rw [acT, if_neg (by omega)]; done) | (rw [acT, if_pos (by omega)]; rfl)
    ·
      refine wpM.skip ?_
      refine QM.then ?_
      refine wpM.seq ?_
      refine wpM.region ?_
      refine LM.cS (oc_call (enters_fn Tryd.func56 (by kernel_rfl) rfl) rfl) (fun w hm hc hg => anames_spec w) (fun ad11 n11 cap11 m11 hn11 hs11 => ?_)
      have hl12 : n11 = 9 := hn11
      refine LM.val (ov_move rfl) ?_
      first | refine LM.val (ov_idxSN (by first | exact Sr.spt (by assumption) | exact Sl.spt (by assumption)) Tryd.underlying96 Tryd.sizeOf9 rfl rfl (by omega)) ?_ | refine LM.val (ov_idxS (by first | exact Sr.spt (by assumption) | exact Sl.spt (by assumption)) Tryd.underlying96 Tryd.sizeOf9 rfl rfl (by omega)) ?_ | refine LM.val (ov_idx1 Tryd.underlying96 Tryd.sizeOf9 rfl rfl (by omega)) ?_
      first | refine LM.rd (om_sl1 (by assumption) (by intro _; rfl) Tryd.isAgg9 rfl rfl (by exact getq default (by first | omega | (simp only [List.length_set, List.length_append, List.length_cons, List.length_nil]; omega))) (by rfl)) ?_ | refine LM.rdC (om_sr1 (by assumption) Tryd.isAgg9 rfl rfl (by exact getq default (by first | omega | (simp only [List.length_set, List.length_append, List.length_cons, List.length_nil]; omega))) (by rfl) id) ?_ | refine LM.rd (om_ld Tryd.isAgg9 rfl rfl) ?_
      refine LM.val (ov_assign rfl) ?_
      refine LM.nil ?_
      refine QM.sub (e' := [(2, _)]) ⟨rfl, trivial⟩ ?_
      refine QM.then ?_
      refine wpM.ret ?_
      refine QM.leave (.inl rfl) [.tmp 2] Tryd.results22 rfl ?_
      intro w' hm' hc' hg'
      -- leaf 3: h1- h2-
      have hl13 : acW.length = 9 := rfl; refine ⟨?_, hc'⟩; show vS _ = _; congr 1; first | (rw [acT, if_neg (by omega)]; done) | (rw [acT, if_pos (by omega)]; rfl)

set_option maxRecDepth 100000 in
theorem raname_spec (k : Int) (w : World) : Ret Tryd.prog 23 #[.int .i64 k] w (fun v w' => v = vS (acT k) ∧ Ext w w') := by
  refine Ret.enterM (l := [.int .i64 k]) Tryd.func23 rfl Tryd.ntmps23 rfl ([]) (no) (Mem.nil w) ?_
  refine wpM.seq ?_
  refine wpM.region ?_
  refine LM.val (ov_assign rfl) ?_
  refine LM.nil ?_
  refine QM.sub (e' := [(0, _)]) ⟨rfl, trivial⟩ ?_
  refine QM.then ?_
  refine wpM.seq ?_
  refine wpM.region ?_
  refine LM.row (vs := [_, _, _, _, _, _, _, _, _]) Tryd.underlying96 Tryd.sizeOf9 Tryd.zeroValue9 rfl rfl rfl rfl rfl rfl (fun b4 hb4 => ?_)
  refine LM.val (ov_assign rfl) ?_
  refine LM.nil ?_
  refine QM.sub (e' := [(0, _), (3, _)]) ⟨rfl, rfl, trivial⟩ ?_
  refine QM.then ?_
  refine wpM.seq ?_
  refine wpM.seq ?_
  refine wpM.region ?_
  refine LM.val (ov_move rfl) ?_
  refine LM.val (ov_lss rfl rfl) ?_
  refine LM.val (ov_move rfl) ?_
  first | refine LM.splitD (t := 7) rfl (fun h1 => ?_) (fun h1 => ?_) | refine LM.splitB (t := 7) rfl (fun h1 => ?_) (fun h1 => ?_)
  ·
    refine LM.drop (t := 7) rfl rfl rfl ?_
    refine LM.drop (t := 7) rfl rfl rfl ?_
    refine LM.val (ov_pickT rfl rfl) ?_
    refine LM.nil ?_
    refine QM.sub (e' := [(0, _), (3, _), (10, _)]) ⟨rfl, rfl, rfl, trivial⟩ ?_
    refine QM.then ?_
    refine wpM.condT rfl ?_
    refine wpM.seq ?_
    refine wpM.region ?_
    refine LM.val (ov_assign rfl) ?_
    refine LM.nil ?_
    refine QM.sub (e' := [(2, _)]) ⟨rfl, trivial⟩ ?_
    refine QM.then ?_
    refine wpM.ret ?_
    refine QM.then_ret ?_
    refine QM.leave (.inl rfl) [.tmp 2] Tryd.results23 rfl ?_
    intro w' hm' hc' hg'
    -- leaf 1: h1+
    refine ⟨?_, hc'⟩; show vS _ = _; congr 1; first | (rw [acT, if_neg (by omega)]; done) | (rw [acT, if_pos (by omega)]; rfl)
  ·
    refine LM.strip (t := 7) rfl rfl rfl ?_
    refine LM.val (ov_move rfl) ?_
    refine LM.strip (t := 7) rfl rfl rfl ?_
    refine LM.val (ov_gtr rfl rfl) ?_
    refine LM.val (ov_pickF rfl rfl) ?_
    refine LM.nil ?_
    refine QM.sub (e' := [(0, _), (3, _), (10, _)]) ⟨rfl, rfl, rfl, trivial⟩ ?_
    refine QM.then ?_
    first | refine wpM.condD rfl (fun h2 => ?_) (fun h2 => ?_) | refine wpM.condB rfl (fun h2 => ?_) (fun h2 => ?_)
    ·
      refine wpM.seq ?_
      refine wpM.region ?_
      refine LM.val (ov_assign rfl) ?_
      refine LM.nil ?_
      refine QM.sub (e' := [(2, _)]) ⟨rfl, trivial⟩ ?_
      refine QM.then ?_
      refine wpM.ret ?_
      refine QM.then_ret ?_
      refine QM.leave (.inl rfl) [.tmp 2] Tryd.results23 rfl ?_
      intro w' hm' hc' hg'
      -- leaf 2: h1- h2+
      refine ⟨?_, hc'⟩; show vS _ = _; congr 1; first | (rw [acT, if_neg (by omega)]; done) | (rw [acT, if_pos (by omega)]; rfl)
    ·
      refine wpM.skip ?_
      refine QM.then ?_
      refine wpM.seq ?_
      refine wpM.region ?_
      refine LM.val (ov_move rfl) ?_
      refine LM.val (ov_move rfl) ?_
      change LM _ _ _ _ _ _ _ _ ((b4, Obj.cells (arr fB acW []) 9 (0, 0)) :: _) _ _ _; have hs4 : Sl fB 9 1 w.heap.size acW (.slice (some ⟨b4, 0, none⟩) 9 9) [(b4, .cells (arr fB acW []) 9 (0, 0))] := .inr ⟨b4, 9, [], hb4, rfl, rfl, by decide, by unfold maxLen; decide, rfl⟩; have hl12 : acW.length = 9 := rfl
      first | refine LM.val (ov_idxSN (by first | exact Sr.spt (by assumption) | exact Sl.spt (by assumption)) Tryd.underlying96 Tryd.sizeOf9 rfl rfl (by omega)) ?_ | refine LM.val (ov_idxS (by first | exact Sr.spt (by assumption) | exact Sl.spt (by assumption)) Tryd.underlying96 Tryd.sizeOf9 rfl rfl (by omega)) ?_ | refine LM.val (ov_idx1 Tryd.underlying96 Tryd.sizeOf9 rfl rfl (by omega)) ?_
      first | refine LM.rd (om_sl1 (by assumption) (by intro _; rfl) Tryd.isAgg9 rfl rfl (by exact getq default (by first | omega | (simp only [List.length_set, List.length_append, List.length_cons, List.length_nil]; omega))) (by rfl)) ?_ | refine LM.rdC (om_sr1 (by assumption) Tryd.isAgg9 rfl rfl (by exact getq default (by first | omega | (simp only [List.length_set, List.length_append, List.length_cons, List.length_nil]; omega))) (by rfl) id) ?_ | refine LM.rd (om_ld Tryd.isAgg9 rfl rfl) ?_
      refine LM.val (ov_assign rfl) ?_
      refine LM.nil ?_
      refine QM.sub (e' := [(2, _)]) ⟨rfl, trivial⟩ ?_
      refine QM.then ?_
      refine wpM.ret ?_
      refine QM.leave (.inl rfl) [.tmp 2] Tryd.results23 rfl ?_
      intro w' hm' hc' hg'
      -- leaf 3: h1- h2-
      refine ⟨?_, hc'⟩; show vS _ = _; congr 1; first | (rw [acT, if_neg (by omega)]; done) | (rw [acT, if_pos (by omega)]; rfl)

set_option maxRecDepth 100000 in
theorem rmany_spec (k : Int) (w : World) (hk : 0 ≤ k ∧ k < 9) : Ret Tryd.prog 48 #[.int .i64 k] w (fun v w' => v = .int .i64 (manyA k : Nat) ∧ Ext w w') := by
  refine Ret.enterM (l := [.int .i64 k]) Tryd.func48 rfl Tryd.ntmps48 rfl ([]) (no) (Mem.nil w) ?_
  refine wpM.seq ?_
  refine wpM.region ?_
  refine LM.val (ov_assign rfl) ?_
  refine LM.nil ?_
  refine QM.sub (e' := [(0, _)]) ⟨rfl, trivial⟩ ?_
  refine QM.then ?_
  refine wpM.seq ?_
  refine wpM.region ?_
  refine LM.row (vs := [_, _, _, _, _, _, _, _, _]) Tryd.underlying85 Tryd.sizeOf3 Tryd.zeroValue3 rfl rfl rfl rfl rfl rfl (fun b4 hb4 => ?_)
  refine LM.val (ov_assign rfl) ?_
  refine LM.nil ?_
  refine QM.sub (e' := [(0, _), (3, _)]) ⟨rfl, rfl, trivial⟩ ?_
  refine QM.then ?_
  refine wpM.seq ?_
  refine wpM.region ?_
  refine LM.val (ov_move rfl) ?_
  refine LM.val (ov_move rfl) ?_
  change LM _ _ _ _ _ _ _ _ ((b4, Obj.cells (arr fI manyL []) 3 (0, 0)) :: _) _ _ _; have hs4 : Sl fI 3 1 w.heap.size manyL (.slice (some ⟨b4, 0, none⟩) 9 9) [(b4, .cells (arr fI manyL []) 3 (0, 0))] := .inr ⟨b4, 9, [], hb4, rfl, rfl, by decide, by unfold maxLen; decide, rfl⟩; have hl12 : manyL.length = 9 := rfl
  first | refine LM.val (ov_idxSN (by first | exact Sr.spt (by assumption) | exact Sl.spt (by assumption)) Tryd.underlying85 Tryd.sizeOf3 rfl rfl (by omega)) ?_ | refine LM.val (ov_idxS (by first | exact Sr.spt (by assumption) | exact Sl.spt (by assumption)) Tryd.underlying85 Tryd.sizeOf3 rfl rfl (by omega)) ?_ | refine LM.val (ov_idx1 Tryd.underlying85 Tryd.sizeOf3 rfl rfl (by omega)) ?_
  first | refine LM.rd (om_sl1 (by assumption) (by intro _; rfl) Tryd.isAgg3 rfl rfl (by exact getq 0 (by first | omega | (simp only [List.length_set, List.length_append, List.length_cons, List.length_nil]; omega))) (by rfl)) ?_ | refine LM.rdC (om_sr1 (by assumption) Tryd.isAgg3 rfl rfl (by exact getq 0 (by first | omega | (simp only [List.length_set, List.length_append, List.length_cons, List.length_nil]; omega))) (by rfl) id) ?_ | refine LM.rd (om_ld Tryd.isAgg3 rfl rfl) ?_
  refine LM.val (ov_assign rfl) ?_
  refine LM.nil ?_
  refine QM.sub (e' := [(2, _)]) ⟨rfl, trivial⟩ ?_
  refine QM.then ?_
  refine wpM.ret ?_
  refine QM.leave (.inl rfl) [.tmp 2] Tryd.results48 rfl ?_
  intro w' hm' hc' hg'
  -- leaf 1: 
  refine ⟨?_, hc'⟩; show Value.int .i64 (manyL.getD k.toNat 0) = _; rw [manyL_get hk]

set_option maxRecDepth 100000 in
theorem many_spec (k : Int) (w : World) : Ret Tryd.prog 46 #[.int .i64 k] w (fun v w' => v = .int .i64 (manyA k : Nat) ∧ Ext w w') := by
  refine Ret.enterM (l := [.int .i64 k]) Tryd.func46 rfl Tryd.ntmps46 rfl ([]) (no) (Mem.nil w) ?_
  refine wpM.seq ?_
  refine wpM.region ?_
  refine LM.val (ov_assign rfl) ?_
  refine LM.nil ?_
  refine QM.sub (e' := [(0, _)]) ⟨rfl, trivial⟩ ?_
  refine QM.then ?_
  refine wpM.seq ?_
  refine wpM.seq ?_
  refine wpM.region ?_
  refine LM.val (ov_move rfl) ?_
  refine LM.nil ?_
  refine QM.sub (e' := [(3, _)]) ⟨rfl, trivial⟩ ?_
  refine QM.then ?_
  refine wpM.block ?_
  refine wpM.seq ?_
  refine wpM.seq ?_
  refine wpM.region ?_
  refine LM.val (ov_eql rfl rfl) ?_
  refine LM.val (ov_assign rfl) ?_
  refine LM.nil ?_
  refine QM.sub (e' := [(3, _), (4, _)]) ⟨rfl, rfl, trivial⟩ ?_
  refine QM.then ?_
  first | refine wpM.condXD (t := 4) rfl (fun h1 => ?_) (fun h1 => ?_) | refine wpM.condXB (t := 4) rfl (fun h1 => ?_) (fun h1 => ?_)
  ·
    refine wpM.skip ?_
    refine QM.then ?_
    refine wpM.condT rfl ?_
    refine wpM.seq ?_
    refine wpM.region ?_
    refine LM.val (ov_assign rfl) ?_
    refine LM.nil ?_
    refine QM.sub (e' := [(2, _)]) ⟨rfl, trivial⟩ ?_
    refine QM.then ?_
    refine wpM.ret ?_
    refine QM.block_ret ?_
    refine QM.then_ret ?_
    refine QM.leave (.inl rfl) [.tmp 2] Tryd.results46 rfl ?_
    intro w' hm' hc' hg'
    -- leaf 1: h1+
    refine ⟨?_, hc'⟩; show Value.int .i64 _ = _; congr 1; unfold manyA; (repeat' split) <;> omega
  ·
    refine wpM.seq ?_
    refine wpM.region ?_
    refine LM.val (ov_eql rfl rfl) ?_
    refine LM.val (ov_assign rfl) ?_
    refine LM.nil ?_
    refine QM.sub (e' := [(3, _), (4, _)]) ⟨rfl, rfl, trivial⟩ ?_
    refine QM.then ?_
    first | refine wpM.condXD (t := 4) rfl (fun h2 => ?_) (fun h2 => ?_) | refine wpM.condXB (t := 4) rfl (fun h2 => ?_) (fun h2 => ?_)
    ·
      refine wpM.skip ?_
      refine QM.then ?_
      refine wpM.condT rfl ?_
      refine wpM.seq ?_
      refine wpM.region ?_
      refine LM.val (ov_assign rfl) ?_
      refine LM.nil ?_
      refine QM.sub (e' := [(2, _)]) ⟨rfl, trivial⟩ ?_
      refine QM.then ?_
      refine wpM.ret ?_
      refine QM.block_ret ?_
      refine QM.then_ret ?_
      refine QM.leave (.inl rfl) [.tmp 2] Tryd.results46 rfl ?_
      intro w' hm' hc' hg'
      -- leaf 2: h1- h2+
      refine ⟨?_, hc'⟩; show Value.int .i64 _ = _; congr 1; unfold manyA; (repeat' split) <;> omega
    ·
      refine wpM.region ?_
      refine LM.val (ov_eql rfl rfl) ?_
      refine LM.val (ov_assign rfl) ?_
      refine LM.nil ?_
      refine QM.sub (e' := [(3, _), (4, _)]) ⟨rfl, rfl, trivial⟩ ?_
      refine QM.then ?_
      first | refine wpM.condD rfl (fun h3 => ?_) (fun h3 => ?_) | refine wpM.condB rfl (fun h3 => ?_) (fun h3 => ?_)
      ·
        refine wpM.seq ?_
        refine wpM.region ?_
        refine LM.val (ov_assign rfl) ?_
        refine LM.nil ?_
        refine QM.sub (e' := [(2, _)]) ⟨rfl, trivial⟩ ?_
        refine QM.then ?_
        refine wpM.ret ?_
        refine QM.block_ret ?_
        refine QM.then_ret ?_
        refine QM.leave (.inl rfl) [.tmp 2] Tryd.results46 rfl ?_
        intro w' hm' hc' hg'
        -- leaf 3: h1- h2- h3+
        refine ⟨?_, hc'⟩; show Value.int .i64 _ = _; congr 1; unfold manyA; (repeat' split) <;> omega
      ·
        refine wpM.seq ?_
        refine wpM.seq ?_
        refine wpM.region ?_
        refine LM.val (ov_eql rfl rfl) ?_
        refine LM.val (ov_assign rfl) ?_
        refine LM.nil ?_
        refine QM.sub (e' := [(3, _), (8, _)]) ⟨rfl, rfl, trivial⟩ ?_
        refine QM.then ?_
        first | refine wpM.condXD (t := 8) rfl (fun h4 => ?_) (fun h4 => ?_) | refine wpM.condXB (t := 8) rfl (fun h4 => ?_) (fun h4 => ?_)
        ·
          refine wpM.skip ?_
          refine QM.then ?_
          refine wpM.condT rfl ?_
          refine wpM.seq ?_
          refine wpM.region ?_
          refine LM.val (ov_assign rfl) ?_
          refine LM.nil ?_
          refine QM.sub (e' := [(2, _)]) ⟨rfl, trivial⟩ ?_
          refine QM.then ?_
          refine wpM.ret ?_
          refine QM.block_ret ?_
          refine QM.then_ret ?_
          refine QM.leave (.inl rfl) [.tmp 2] Tryd.results46 rfl ?_
          intro w' hm' hc' hg'
          -- leaf 4: h1- h2- h3- h4+
          refine ⟨?_, hc'⟩; show Value.int .i64 _ = _; congr 1; unfold manyA; (repeat' split) <;> omega
        ·
          refine wpM.region ?_
          refine LM.val (ov_eql rfl rfl) ?_
          refine LM.val (ov_assign rfl) ?_
          refine LM.nil ?_
          refine QM.sub (e' := [(3, _), (8, _)]) ⟨rfl, rfl, trivial⟩ ?_
          refine QM.then ?_
          first | refine wpM.condD rfl (fun h5 => ?_) (fun h5 => ?_) | refine wpM.condB rfl (fun h5 => ?_) (fun h5 => ?_)
          ·
            refine wpM.seq ?_
            refine wpM.region ?_
            refine LM.val (ov_assign rfl) ?_
            refine LM.nil ?_
            refine QM.sub (e' := [(2, _)]) ⟨rfl, trivial⟩ ?_
            refine QM.then ?_
            refine wpM.ret ?_
            refine QM.block_ret ?_
            refine QM.then_ret ?_
            refine QM.leave (.inl rfl) [.tmp 2] Tryd.results46 rfl ?_
            intro w' hm' hc' hg'
            -- leaf 5: h1- h2- h3- h4- h5+
            refine ⟨?_, hc'⟩; show Value.int .i64 _ = _; congr 1; unfold manyA; (repeat' split) <;> omega
          ·
            refine wpM.seq ?_
            refine wpM.region ?_
            refine LM.val (ov_eql rfl rfl) ?_
            refine LM.val (ov_assign rfl) ?_
            refine LM.nil ?_
            refine QM.sub (e' := [(11, _)]) ⟨rfl, trivial⟩ ?_
            refine QM.then ?_
            first | refine wpM.condD rfl (fun h6 => ?_) (fun h6 => ?_) | refine wpM.condB rfl (fun h6 => ?_) (fun h6 => ?_)
            ·
              refine wpM.seq ?_
              refine wpM.region ?_
              refine LM.val (ov_assign rfl) ?_
              refine LM.nil ?_
              refine QM.sub (e' := [(2, _)]) ⟨rfl, trivial⟩ ?_
              refine QM.then ?_
              refine wpM.ret ?_
              refine QM.block_ret ?_
              refine QM.then_ret ?_
              refine QM.leave (.inl rfl) [.tmp 2] Tryd.results46 rfl ?_
              intro w' hm' hc' hg'
              -- leaf 6: h1- h2- h3- h4- h5- h6+
              refine ⟨?_, hc'⟩; show Value.int .i64 _ = _; congr 1; unfold manyA; (repeat' split) <;> omega
            ·
              refine wpM.skip ?_
              refine QM.block_normal ?_
              refine QM.then ?_
              refine wpM.seq ?_
              refine wpM.region ?_
              refine LM.val (ov_assign rfl) ?_
              refine LM.nil ?_
              refine QM.sub (e' := [(2, _)]) ⟨rfl, trivial⟩ ?_
              refine QM.then ?_
              refine wpM.ret ?_
              refine QM.leave (.inl rfl) [.tmp 2] Tryd.results46 rfl ?_
              intro w' hm' hc' hg'
              -- leaf 7: h1- h2- h3- h4- h5- h6-
              refine ⟨?_, hc'⟩; show Value.int .i64 _ = _; congr 1; unfold manyA; (repeat' split) <;> omega

set_option maxRecDepth 100000 in
theorem numbers_spec (o : Act) (w : World) : Ret Tryd.prog 45 #[.agg (fA o).toArray] w (New fI 3 1 (numsA o) w) := by
  refine Ret.enterM (l := [.agg (fA o).toArray]) Tryd.func45 rfl Tryd.ntmps45 rfl ([]) (no) (Mem.nil w) ?_
  refine wpM.seq ?_
  refine wpM.region ?_
  refine LM.box rfl rfl (fun b1 hb1 => ?_)
  refine LM.val (ov_assign rfl) ?_
  refine LM.nil ?_
  refine QM.sub (e' := [(1, _)]) ⟨rfl, trivial⟩ ?_
  refine QM.then ?_
  refine wpM.seq ?_
  refine wpM.region ?_
  refine LM.val (ov_field Tryd.underlying49 rfl Tryd.sizeOf3 rfl (k := 1) rfl rfl) ?_
  first | refine LM.rd (om_ld Tryd.isAgg3 rfl rfl) ?_
  refine LM.val (ov_field Tryd.underlying49 rfl Tryd.sizeOf3 rfl (k := 2) rfl rfl) ?_
  first | refine LM.rd (om_ld Tryd.isAgg3 rfl rfl) ?_
  refine LM.val (ov_field Tryd.underlying49 rfl Tryd.sizeOf3 rfl (k := 3) rfl rfl) ?_
  first | refine LM.rd (om_ld Tryd.isAgg3 rfl rfl) ?_
  refine LM.val (ov_field Tryd.underlying49 rfl Tryd.sizeOf3 rfl (k := 4) rfl rfl) ?_
  first | refine LM.rd (om_ld Tryd.isAgg3 rfl rfl) ?_
  refine LM.row (vs := [_, _, _, _]) Tryd.underlying85 Tryd.sizeOf3 Tryd.zeroValue3 rfl rfl rfl rfl rfl rfl (fun b11 hb11 => ?_)
  refine LM.val (ov_assign rfl) ?_
  refine LM.nil ?_
  refine QM.sub (e' := [(2, _)]) ⟨rfl, trivial⟩ ?_
  refine QM.then ?_
  refine wpM.ret ?_
  refine QM.leave (.inl rfl) [.tmp 2] Tryd.results45 rfl ?_
  intro w' hm' hc' hg'
  -- leaf 1: 
  change Mem w' ((b11, .cells (arr fI (numsA o) []) 3 (0, 0)) :: _) at hm'; exact ⟨hc', [(b11, .cells (arr fI (numsA o) []) 3 (0, 0))], .inr ⟨b11, 4, [], hb11, rfl, rfl, Nat.le_refl 4, by unfold maxLen; decide, rfl⟩, hm'.pick _⟩

set_option maxRecDepth 100000 in
theorem get_spec (o : Act) (i : Nat) (w : World) (hi : i < 4) : Ret Tryd.prog 49 #[.agg (fA o).toArray, .int .i64 (i : Nat)] w (fun v w' => v = .int .i64 ((numsA o).getD i 0) ∧ Ext w w') := by
  refine Ret.enterM (l := [.agg (fA o).toArray, .int .i64 (i : Nat)]) Tryd.func49 rfl Tryd.ntmps49 rfl ([]) (no) (Mem.nil w) ?_
  refine wpM.seq ?_
  refine wpM.region ?_
  refine LM.box rfl rfl (fun b2 hb2 => ?_)
  refine LM.val (ov_assign rfl) ?_
  refine LM.nil ?_
  refine QM.sub (e' := [(1, _), (2, _)]) ⟨rfl, rfl, trivial⟩ ?_
  refine QM.then ?_
  refine wpM.seq ?_
  refine wpM.seq ?_
  refine wpM.region ?_
  refine LM.val (ov_move rfl) ?_
  refine LM.val (ov_eql rfl rfl) ?_
  refine LM.nil ?_
  refine QM.sub (e' := [(1, _), (2, _), (6, _)]) ⟨rfl, rfl, rfl, trivial⟩ ?_
  refine QM.then ?_
  first | refine wpM.condD rfl (fun h1 => ?_) (fun h1 => ?_) | refine wpM.condB rfl (fun h1 => ?_) (fun h1 => ?_)
  ·
    refine wpM.seq ?_
    refine wpM.region ?_
    refine LM.val (ov_field Tryd.underlying49 rfl Tryd.sizeOf3 rfl (k := 1) rfl rfl) ?_
    first | refine LM.rd (om_ld Tryd.isAgg3 rfl rfl) ?_
    refine LM.val (ov_assign rfl) ?_
    refine LM.nil ?_
    refine QM.sub (e' := [(4, _)]) ⟨rfl, trivial⟩ ?_
    refine QM.then ?_
    refine wpM.ret ?_
    refine QM.then_ret ?_
    refine QM.leave (.inl rfl) [.tmp 4] Tryd.results49 rfl ?_
    intro w' hm' hc' hg'
    -- leaf 1: h1+
    refine ⟨?_, hc'⟩; have : i = 0 ∨ i = 1 ∨ i = 2 ∨ i = 3 := (by omega); rcases this with rfl | rfl | rfl | rfl <;> first | rfl | (exfalso; omega)
  ·
    refine wpM.skip ?_
    refine QM.then ?_
    refine wpM.seq ?_
    refine wpM.seq ?_
    refine wpM.region ?_
    refine LM.val (ov_move rfl) ?_
    refine LM.val (ov_eql rfl rfl) ?_
    refine LM.nil ?_
    refine QM.sub (e' := [(1, _), (2, _), (10, _)]) ⟨rfl, rfl, rfl, trivial⟩ ?_
    refine QM.then ?_
    first | refine wpM.condD rfl (fun h2 => ?_) (fun h2 => ?_) | refine wpM.condB rfl (fun h2 => ?_) (fun h2 => ?_)
    ·
      refine wpM.seq ?_
      refine wpM.region ?_
      refine LM.val (ov_field Tryd.underlying49 rfl Tryd.sizeOf3 rfl (k := 2) rfl rfl) ?_
      first | refine LM.rd (om_ld Tryd.isAgg3 rfl rfl) ?_
      refine LM.val (ov_assign rfl) ?_
      refine LM.nil ?_
      refine QM.sub (e' := [(4, _)]) ⟨rfl, trivial⟩ ?_
      refine QM.then ?_
      refine wpM.ret ?_
      refine QM.then_ret ?_
      refine QM.leave (.inl rfl) [.tmp 4] Tryd.results49 rfl ?_
      intro w' hm' hc' hg'
      -- leaf 2: h1- h2+
      refine ⟨?_, hc'⟩; have : i = 0 ∨ i = 1 ∨ i = 2 ∨ i = 3 := (by omega); rcases this with rfl | rfl | rfl | rfl <;> first | rfl | (exfalso; omega)
    ·
      refine wpM.skip ?_
      refine QM.then ?_
      refine wpM.seq ?_
      refine wpM.seq ?_
      refine wpM.region ?_
      refine LM.val (ov_move rfl) ?_
      refine LM.val (ov_eql rfl rfl) ?_
      refine LM.nil ?_
      refine QM.sub (e' := [(2, _), (14, _)]) ⟨rfl, rfl, trivial⟩ ?_
      refine QM.then ?_
      first | refine wpM.condD rfl (fun h3 => ?_) (fun h3 => ?_) | refine wpM.condB rfl (fun h3 => ?_) (fun h3 => ?_)
      ·
        refine wpM.seq ?_
        refine wpM.region ?_
        refine LM.val (ov_field Tryd.underlying49 rfl Tryd.sizeOf3 rfl (k := 3) rfl rfl) ?_
        first | refine LM.rd (om_ld Tryd.isAgg3 rfl rfl) ?_
        refine LM.val (ov_assign rfl) ?_
        refine LM.nil ?_
        refine QM.sub (e' := [(4, _)]) ⟨rfl, trivial⟩ ?_
        refine QM.then ?_
        refine wpM.ret ?_
        refine QM.then_ret ?_
        refine QM.leave (.inl rfl) [.tmp 4] Tryd.results49 rfl ?_
        intro w' hm' hc' hg'
        -- leaf 3: h1- h2- h3+
        refine ⟨?_, hc'⟩; have : i = 0 ∨ i = 1 ∨ i = 2 ∨ i = 3 := (by omega); rcases this with rfl | rfl | rfl | rfl <;> first | rfl | (exfalso; omega)
      ·
        refine wpM.skip ?_
        refine QM.then ?_
        refine wpM.seq ?_
        refine wpM.region ?_
        refine LM.val (ov_field Tryd.underlying49 rfl Tryd.sizeOf3 rfl (k := 4) rfl rfl) ?_
        first | refine LM.rd (om_ld Tryd.isAgg3 rfl rfl) ?_
        refine LM.val (ov_assign rfl) ?_
        refine LM.nil ?_
        refine QM.sub (e' := [(4, _)]) ⟨rfl, trivial⟩ ?_
        refine QM.then ?_
        refine wpM.ret ?_
        refine QM.leave (.inl rfl) [.tmp 4] Tryd.results49 rfl ?_
        intro w' hm' hc' hg'
        -- leaf 4: h1- h2- h3-
        refine ⟨?_, hc'⟩; have : i = 0 ∨ i = 1 ∨ i = 2 ∨ i = 3 := (by omega); rcases this with rfl | rfl | rfl | rfl <;> first | rfl | (exfalso; omega)

set_option maxRecDepth 100000 in
theorem aone_spec (o : Act) (w : World) : Ret Tryd.prog 47 #[.agg (fA o).toArray] w (fun v w' => v = .bool (rightA o) ∧ Ext w w') := by
  refine Ret.enterM (l := [.agg (fA o).toArray]) Tryd.func47 rfl Tryd.ntmps47 rfl ([]) (no) (Mem.nil w) ?_
  refine wpM.seq ?_
  refine wpM.region ?_
  refine LM.box rfl rfl (fun b1 hb1 => ?_)
  refine LM.val (ov_assign rfl) ?_
  refine LM.nil ?_
  refine QM.sub (e' := [(1, _)]) ⟨rfl, trivial⟩ ?_
  refine QM.then ?_
  refine wpM.seq ?_
  refine wpM.seq ?_
  refine wpM.region ?_
  refine LM.val (ov_field Tryd.underlying49 rfl Tryd.sizeOf3 rfl (k := 0) rfl rfl) ?_
  first | refine LM.rd (om_ld Tryd.isAgg3 rfl rfl) ?_
  refine LM.callE (oc_call (enters_fn Tryd.func23 (by kernel_rfl) rfl) rfl) (fun w hm hc hg => raname_spec _ w) ?_
  refine LM.val (ov_seqlL rfl rfl) ?_
  refine LM.nil ?_
  refine QM.sub (e' := [(1, _), (8, _)]) ⟨rfl, rfl, trivial⟩ ?_
  refine QM.then ?_
  first | refine wpM.condD rfl (fun h1 => ?_) (fun h1 => ?_) | refine wpM.condB rfl (fun h1 => ?_) (fun h1 => ?_)
  ·
    refine wpM.seq ?_
    refine wpM.region ?_
    refine LM.val (ov_assign rfl) ?_
    refine LM.nil ?_
    refine QM.sub (e' := [(2, _)]) ⟨rfl, trivial⟩ ?_
    refine QM.then ?_
    refine wpM.ret ?_
    refine QM.then_ret ?_
    refine QM.leave (.inl rfl) [.tmp 2] Tryd.results47 rfl ?_
    intro w' hm' hc' hg'
    -- leaf 1: h1+
    refine ⟨?_, hc'⟩; have hko : kindOk o.k = false := (by rw [← acT_empty]; rw [h1]; rfl); show Value.bool false = _; unfold rightA; rw [hko]; rfl
  ·
    have hko : kindOk o.k = true := (by rw [← acT_empty]; exact decide_eq_true h1); have hk8 : 0 ≤ o.k ∧ o.k < 9 := (by unfold kindOk at hko; simp only [Bool.and_eq_true, decide_eq_true_eq] at hko; omega)
    refine wpM.skip ?_
    refine QM.then ?_
    refine wpM.seq ?_
    refine wpM.seq ?_
    refine wpM.region ?_
    refine LM.val (ov_assign rfl) ?_
    refine LM.nil ?_
    refine QM.sub (e' := [(1, _), (3, _)]) ⟨rfl, rfl, trivial⟩ ?_
    refine QM.then ?_
    refine wpM.block ?_
    refine wpM.loopK0 (α := Nat) (fun i => [(3, .int .i64 (i : Nat))]) [(1, _)] (fun i => (b1, .cells (fA o).toArray 49 (0, 0)) :: []) (fun i => i ≤ 4 ∧ ∀ j, j < i → numB o.k j ((numsA o).getD j 0) = true) (fun i => 4 - i) (0) ⟨(by first | rfl | exact lk rfl (by congr 1; omega) | exact lk rfl (by simp)), rfl, trivial⟩ (by (repeat' (first | exact SubM.nil _ | refine SubM.cons rfl ?_ | refine SubM.app ?_))) ⟨Nat.zero_le _, fun j hj => absurd hj (Nat.not_lt_zero _)⟩ ?_
    rintro i ⟨hi, ha⟩
    change wpM _ _ _ _ _ _ _ ((b1, .cells (fA o).toArray 49 (0, 0)) :: []) _ _ _
    refine wpM.seq ?_
    refine wpM.seq ?_
    refine wpM.region ?_
    refine LM.val (ov_move rfl) ?_
    refine LM.val (ov_lss rfl rfl) ?_
    refine LM.nil ?_
    refine QM.sub (e' := [(1, _), (3, _), (10, _)]) ⟨rfl, rfl, rfl, trivial⟩ ?_
    refine QM.then ?_
    first | refine wpM.condD rfl (fun h2 => ?_) (fun h2 => ?_) | refine wpM.condB rfl (fun h2 => ?_) (fun h2 => ?_)
    ·
      refine wpM.skip ?_
      refine QM.then ?_
      refine wpM.seq ?_
      refine wpM.block ?_
      refine wpM.seq ?_
      refine wpM.region ?_
      first | refine LM.rd (om_ldW Tryd.isAgg49 Tryd.sizeOf49 rfl rfl) ?_ | refine LM.rd (om_ldA Tryd.isAgg49 Tryd.sizeOf49 rfl (vs := [_, _, _, _, _]) rfl ⟨rfl, rfl, rfl, rfl, rfl, trivial⟩) ?_
      refine LM.val (ov_move rfl) ?_
      refine LM.callE (oc_call (enters_fn Tryd.func49 (by kernel_rfl) rfl) rfl) (fun w hm hc hg => get_spec o i w (by omega)) ?_
      refine LM.val (ov_assign rfl) ?_
      refine LM.nil ?_
      refine QM.sub (e' := [(1, _), (3, _), (4, _)]) ⟨rfl, rfl, rfl, trivial⟩ ?_
      refine QM.then ?_
      refine wpM.seq ?_
      refine wpM.joinK (α := Bool) (fun q => [(32, .bool q)]) [(1, _), (3, _)] (fun q => (b1, .cells (fA o).toArray 49 (0, 0)) :: []) (fun q => q = !numB o.k i ((numsA o).getD i 0)) ⟨rfl, rfl, trivial⟩ ?_ ?_
      ·
        refine wpM.region ?_
        refine LM.val (ov_move rfl) ?_
        refine LM.val (ov_lss rfl rfl) ?_
        refine LM.val (ov_move rfl) ?_
        first | refine LM.splitD (t := 18) rfl (fun h3 => ?_) (fun h3 => ?_) | refine LM.splitB (t := 18) rfl (fun h3 => ?_) (fun h3 => ?_)
        ·
          refine LM.drop (t := 18) rfl rfl rfl ?_
          refine LM.drop (t := 18) rfl rfl rfl ?_
          refine LM.val (ov_pickT rfl rfl) ?_
          refine LM.val (ov_move rfl) ?_
          refine LM.drop (t := 22) rfl rfl rfl ?_
          refine LM.drop (t := 22) rfl rfl rfl ?_
          refine LM.drop (t := 22) rfl rfl rfl ?_
          refine LM.drop (t := 22) rfl rfl rfl ?_
          refine LM.drop (t := 22) rfl rfl rfl ?_
          refine LM.dropU (t := 22) rfl rfl rfl ?_
          refine LM.dropX (t := 28) rfl rfl ?_
          refine LM.dropX (t := 28) rfl rfl ?_
          refine LM.drop (t := 22) rfl rfl rfl ?_
          refine LM.val (ov_pickT rfl rfl) ?_
          refine LM.nil ?_
          refine QM.sub (e' := [(1, _), (3, _), (32, _)]) ⟨rfl, rfl, rfl, trivial⟩ ?_
          -- meet1: h1- h2+ h3+
          refine QM.meetK (_) ⟨(by first | rfl | exact lk rfl (by congr 1; omega) | exact lk rfl (by simp)), rfl, rfl, trivial⟩ (by (repeat' (first | exact SubM.nil _ | refine SubM.cons rfl ?_ | refine SubM.app ?_))) ?_
          · unfold numB; rw [decide_eq_false (show ¬ 0 ≤ (numsA o).getD i 0 by omega)]; rfl
        ·
          refine LM.strip (t := 18) rfl rfl rfl ?_
          refine LM.val (ov_move rfl) ?_
          refine LM.strip (t := 18) rfl rfl rfl ?_
          refine LM.val (ov_gtr rfl rfl) ?_
          refine LM.val (ov_pickF rfl rfl) ?_
          refine LM.val (ov_move rfl) ?_
          first | refine LM.splitD (t := 22) rfl (fun h4 => ?_) (fun h4 => ?_) | refine LM.splitB (t := 22) rfl (fun h4 => ?_) (fun h4 => ?_)
          ·
            refine LM.drop (t := 22) rfl rfl rfl ?_
            refine LM.drop (t := 22) rfl rfl rfl ?_
            refine LM.drop (t := 22) rfl rfl rfl ?_
            refine LM.drop (t := 22) rfl rfl rfl ?_
            refine LM.drop (t := 22) rfl rfl rfl ?_
            refine LM.dropU (t := 22) rfl rfl rfl ?_
            refine LM.dropX (t := 28) rfl rfl ?_
            refine LM.dropX (t := 28) rfl rfl ?_
            refine LM.drop (t := 22) rfl rfl rfl ?_
            refine LM.val (ov_pickT rfl rfl) ?_
            refine LM.nil ?_
            refine QM.sub (e' := [(1, _), (3, _), (32, _)]) ⟨rfl, rfl, rfl, trivial⟩ ?_
            -- meet2: h1- h2+ h3- h4+
            refine QM.meetK (_) ⟨(by first | rfl | exact lk rfl (by congr 1; omega) | exact lk rfl (by simp)), rfl, rfl, trivial⟩ (by (repeat' (first | exact SubM.nil _ | refine SubM.cons rfl ?_ | refine SubM.app ?_))) ?_
            · unfold numB; rw [decide_eq_true (show 0 ≤ (numsA o).getD i 0 by omega), decide_eq_false (show ¬ (numsA o).getD i 0 ≤ 999999999 by omega)]; rfl
          ·
            refine LM.strip (t := 22) rfl rfl rfl ?_
            refine LM.val (ov_move rfl) ?_
            refine LM.strip (t := 22) rfl rfl rfl ?_
            refine LM.val (ov_field Tryd.underlying49 rfl Tryd.sizeOf3 rfl (k := 0) rfl rfl) ?_
            refine LM.strip (t := 22) rfl rfl rfl ?_
            first | refine LM.rd (om_ld Tryd.isAgg3 rfl rfl) ?_
            refine LM.strip (t := 22) rfl rfl rfl ?_
            refine LM.callE (oc_call (enters_fn Tryd.func48 (by kernel_rfl) rfl) rfl) (fun w hm hc hg => rmany_spec _ w hk8) ?_
            refine LM.strip (t := 22) rfl rfl rfl ?_
            refine LM.val (ov_geq rfl rfl) ?_
            refine LM.strip (t := 22) rfl rfl rfl ?_
            refine LM.val (ov_move rfl) ?_
            first | refine LM.splitD (t := 28) rfl (fun h5 => ?_) (fun h5 => ?_) | refine LM.splitB (t := 28) rfl (fun h5 => ?_) (fun h5 => ?_)
            ·
              refine LM.strip (t := 28) rfl rfl rfl ?_
              refine LM.val (ov_move rfl) ?_
              refine LM.strip (t := 28) rfl rfl rfl ?_
              refine LM.val (ov_neq rfl rfl) ?_
              refine LM.strip (t := 22) rfl rfl rfl ?_
              refine LM.val (ov_pickT rfl rfl) ?_
              refine LM.val (ov_pickF rfl rfl) ?_
              refine LM.nil ?_
              refine QM.sub (e' := [(1, _), (3, _), (32, _)]) ⟨rfl, rfl, rfl, trivial⟩ ?_
              -- meet3: h1- h2+ h3- h4- h5+
              refine QM.meetK (_) ⟨(by first | rfl | exact lk rfl (by congr 1; omega) | exact lk rfl (by simp)), rfl, rfl, trivial⟩ (by (repeat' (first | exact SubM.nil _ | refine SubM.cons rfl ?_ | refine SubM.app ?_))) ?_
              · unfold numB; rw [decide_eq_true (show 0 ≤ (numsA o).getD i 0 by omega), decide_eq_true (show (numsA o).getD i 0 ≤ 999999999 by omega), decide_eq_false (show ¬ i < manyA o.k by omega)]; simp only [Bool.true_and, Bool.false_or, decide_not]
            ·
              refine LM.drop (t := 28) rfl rfl rfl ?_
              refine LM.drop (t := 28) rfl rfl rfl ?_
              refine LM.strip (t := 22) rfl rfl rfl ?_
              refine LM.val (ov_pickF rfl rfl) ?_
              refine LM.val (ov_pickF rfl rfl) ?_
              refine LM.nil ?_
              refine QM.sub (e' := [(1, _), (3, _), (32, _)]) ⟨rfl, rfl, rfl, trivial⟩ ?_
              -- meet4: h1- h2+ h3- h4- h5-
              refine QM.meetK (_) ⟨(by first | rfl | exact lk rfl (by congr 1; omega) | exact lk rfl (by simp)), rfl, rfl, trivial⟩ (by (repeat' (first | exact SubM.nil _ | refine SubM.cons rfl ?_ | refine SubM.app ?_))) ?_
              · unfold numB; rw [decide_eq_true (show 0 ≤ (numsA o).getD i 0 by omega), decide_eq_true (show (numsA o).getD i 0 ≤ 999999999 by omega), decide_eq_true (show i < manyA o.k by omega)]; rfl
      ·
        rintro q hq
        change QM _ _ _ _ _ ((b1, .cells (fA o).toArray 49 (0, 0)) :: []) _ _ _
        refine QM.then ?_
        first | refine wpM.condD rfl (fun h6 => ?_) (fun h6 => ?_) | refine wpM.condB rfl (fun h6 => ?_) (fun h6 => ?_)
        ·
          refine wpM.seq ?_
          refine wpM.region ?_
          refine LM.val (ov_assign rfl) ?_
          refine LM.nil ?_
          refine QM.sub (e' := [(2, _)]) ⟨rfl, trivial⟩ ?_
          refine QM.then ?_
          refine wpM.ret ?_
          refine QM.block_ret ?_
          refine QM.then_ret ?_
          refine QM.then_ret ?_
          refine QM.block_ret ?_
          refine QM.then_ret ?_
          refine QM.leave (.inl rfl) [.tmp 2] Tryd.results47 rfl ?_
          intro w' hm' hc' hg'
          -- leaf 2: h1- h2+ h6+
          refine ⟨?_, hc'⟩; show Value.bool false = _; rw [right_not (j := i) (by omega) (by simpa using hq.symm.trans h6)]
        ·
          refine wpM.skip ?_
          refine QM.block_normal ?_
          refine QM.then ?_
          refine wpM.region ?_
          refine LM.val (ov_move rfl) ?_
          refine LM.val (ov_add64 rfl rfl (by omega)) ?_
          refine LM.val (ov_assign rfl) ?_
          refine LM.nil ?_
          refine QM.sub (e' := [(1, _), (3, _)]) ⟨rfl, rfl, trivial⟩ ?_
          -- again1: h1- h2+ h6-
          refine QM.againK (i + 1) ⟨(by first | rfl | exact lk rfl (by congr 1; omega) | exact lk rfl (by simp)), rfl, trivial⟩ (by (repeat' (first | exact SubM.nil _ | refine SubM.cons rfl ?_ | refine SubM.app ?_))) (fun _ h => h) ?_ ?_
          · exact ⟨by omega, before_next ha (by simpa using hq.symm.trans h6)⟩
          · first | omega | (dsimp only; omega)
    ·
      refine wpM.exit ?_
      refine QM.then_exit ?_
      refine QM.then_exit ?_
      refine QM.block_hit ?_
      refine QM.then ?_
      refine wpM.seq ?_
      refine wpM.region ?_
      refine LM.val (ov_assign rfl) ?_
      refine LM.nil ?_
      refine QM.sub (e' := [(2, _)]) ⟨rfl, trivial⟩ ?_
      refine QM.then ?_
      refine wpM.ret ?_
      refine QM.leave (.inl rfl) [.tmp 2] Tryd.results47 rfl ?_
      intro w' hm' hc' hg'
      -- leaf 3: h1- h2-
      refine ⟨?_, hc'⟩; show Value.bool true = _; rw [right_all hko (fun j hj => ha j (by omega))]

set_option maxRecDepth 100000 in
theorem aright_spec (o : Act) (w : World) : Ret Tryd.prog 44 #[.agg (fA o).toArray] w (fun v w' => v = .bool (rightA o) ∧ Ext w w') := by
  refine Ret.enterM (l := [.agg (fA o).toArray]) Tryd.func44 rfl Tryd.ntmps44 rfl ([]) (no) (Mem.nil w) ?_
  refine wpM.seq ?_
  refine wpM.region ?_
  refine LM.box rfl rfl (fun b1 hb1 => ?_)
  refine LM.val (ov_assign rfl) ?_
  refine LM.nil ?_
  refine QM.sub (e' := [(1, _)]) ⟨rfl, trivial⟩ ?_
  refine QM.then ?_
  refine wpM.seq ?_
  refine wpM.seq ?_
  refine wpM.region ?_
  refine LM.val (ov_field Tryd.underlying49 rfl Tryd.sizeOf3 rfl (k := 0) rfl rfl) ?_
  first | refine LM.rd (om_ld Tryd.isAgg3 rfl rfl) ?_
  refine LM.callE (oc_call (enters_fn Tryd.func22 (by kernel_rfl) rfl) rfl) (fun w hm hc hg => aname_spec _ w) ?_
  refine LM.val (ov_seqlL rfl rfl) ?_
  refine LM.nil ?_
  refine QM.sub (e' := [(1, _), (8, _)]) ⟨rfl, rfl, trivial⟩ ?_
  refine QM.then ?_
  first | refine wpM.condD rfl (fun h1 => ?_) (fun h1 => ?_) | refine wpM.condB rfl (fun h1 => ?_) (fun h1 => ?_)
  ·
    refine wpM.seq ?_
    refine wpM.region ?_
    refine LM.val (ov_assign rfl) ?_
    refine LM.nil ?_
    refine QM.sub (e' := [(2, _)]) ⟨rfl, trivial⟩ ?_
    refine QM.then ?_
    refine wpM.ret ?_
    refine QM.then_ret ?_
    refine QM.leave (.inl rfl) [.tmp 2] Tryd.results44 rfl ?_
    intro w' hm' hc' hg'
    -- leaf 1: h1+
    refine ⟨?_, hc'⟩; have hko : kindOk o.k = false := (by rw [← acT_empty]; rw [h1]; rfl); show Value.bool false = _; unfold rightA; rw [hko]; rfl
  ·
    have hko : kindOk o.k = true := (by rw [← acT_empty]; exact decide_eq_true h1); have hl4 : (numsA o).length = 4 := rfl
    refine wpM.skip ?_
    refine QM.then ?_
    refine wpM.seq ?_
    refine wpM.seq ?_
    refine wpM.region ?_
    first | refine LM.rd (om_ldW Tryd.isAgg49 Tryd.sizeOf49 rfl rfl) ?_ | refine LM.rd (om_ldA Tryd.isAgg49 Tryd.sizeOf49 rfl (vs := [_, _, _, _, _]) rfl ⟨rfl, rfl, rfl, rfl, rfl, trivial⟩) ?_
    refine LM.cS (oc_call (enters_fn Tryd.func45 (by kernel_rfl) rfl) rfl) (fun w hm hc hg => numbers_spec o w) (fun ad10 n10 cap10 m10 hn10 hs10 => ?_)
    refine LM.val (ov_len Tryd.underlying85 rfl) ?_
    refine LM.val (ov_move rfl) ?_
    refine LM.nil ?_
    refine QM.sub (e' := [(1, _), (10, _), (11, _), (12, _)]) ⟨rfl, rfl, rfl, rfl, trivial⟩ ?_
    refine QM.then ?_
    refine wpM.block ?_
    refine wpM.loopK0 (α := Nat) (fun i => [(12, .int .i64 (i : Nat))]) [(1, _), (10, _), (11, _)] (fun i => m10 ++ ((b1, .cells (fA o).toArray 49 (0, 0)) :: [])) (fun i => i ≤ 4 ∧ ∀ j, j < i → numB o.k j ((numsA o).getD j 0) = true) (fun i => 4 - i) (0) ⟨(by first | rfl | exact lk rfl (by congr 1; omega) | exact lk rfl (by simp)), rfl, rfl, rfl, trivial⟩ (by (repeat' (first | exact SubM.nil _ | refine SubM.cons rfl ?_ | refine SubM.app ?_))) ⟨Nat.zero_le _, fun j hj => absurd hj (Nat.not_lt_zero _)⟩ ?_
    rintro i ⟨hi, ha⟩
    change wpM _ _ _ _ _ _ _ (m10 ++ ((b1, .cells (fA o).toArray 49 (0, 0)) :: [])) _ _ _
    refine wpM.seq ?_
    refine wpM.region ?_
    refine LM.val (ov_lss rfl rfl) ?_
    refine LM.nil ?_
    refine QM.sub (e' := [(1, _), (10, _), (11, _), (12, _), (13, _)]) ⟨rfl, rfl, rfl, rfl, rfl, trivial⟩ ?_
    refine QM.then ?_
    refine wpM.seq ?_
    first | refine wpM.condD rfl (fun h2 => ?_) (fun h2 => ?_) | refine wpM.condB rfl (fun h2 => ?_) (fun h2 => ?_)
    ·
      refine wpM.skip ?_
      refine QM.then ?_
      refine wpM.seq ?_
      refine wpM.block ?_
      refine wpM.seq ?_
      refine wpM.region ?_
      refine LM.val (ov_move rfl) ?_
      first | refine LM.val (ov_idxSN (by first | exact Sr.spt (by assumption) | exact Sl.spt (by assumption)) Tryd.underlying85 Tryd.sizeOf3 rfl rfl (by omega)) ?_ | refine LM.val (ov_idxS (by first | exact Sr.spt (by assumption) | exact Sl.spt (by assumption)) Tryd.underlying85 Tryd.sizeOf3 rfl rfl (by omega)) ?_ | refine LM.val (ov_idx1 Tryd.underlying85 Tryd.sizeOf3 rfl rfl (by omega)) ?_
      first | refine LM.rd (om_sl1 (by assumption) (by intro _; rfl) Tryd.isAgg3 rfl rfl (by exact getq 0 (by first | omega | (simp only [List.length_set, List.length_append, List.length_cons, List.length_nil]; omega))) (by rfl)) ?_ | refine LM.rdC (om_sr1 (by assumption) Tryd.isAgg3 rfl rfl (by exact getq 0 (by first | omega | (simp only [List.length_set, List.length_append, List.length_cons, List.length_nil]; omega))) (by rfl) id) ?_ | refine LM.rd (om_ld Tryd.isAgg3 rfl rfl) ?_
      refine LM.val (ov_assign rfl) ?_
      refine LM.val (ov_assign rfl) ?_
      refine LM.nil ?_
      refine QM.sub (e' := [(1, _), (3, _), (4, _), (10, _), (11, _), (12, _)]) ⟨rfl, rfl, rfl, rfl, rfl, rfl, trivial⟩ ?_
      refine QM.then ?_
      refine wpM.seq ?_
      refine wpM.joinK (α := Bool) (fun q => [(33, .bool q)]) [(1, _), (10, _), (11, _), (12, _)] (fun q => m10 ++ ((b1, .cells (fA o).toArray 49 (0, 0)) :: [])) (fun q => q = !numB o.k i ((numsA o).getD i 0)) ⟨rfl, rfl, rfl, rfl, trivial⟩ ?_ ?_
      ·
        refine wpM.region ?_
        refine LM.val (ov_move rfl) ?_
        refine LM.val (ov_lss rfl rfl) ?_
        refine LM.val (ov_move rfl) ?_
        first | refine LM.splitD (t := 19) rfl (fun h3 => ?_) (fun h3 => ?_) | refine LM.splitB (t := 19) rfl (fun h3 => ?_) (fun h3 => ?_)
        ·
          refine LM.drop (t := 19) rfl rfl rfl ?_
          refine LM.drop (t := 19) rfl rfl rfl ?_
          refine LM.val (ov_pickT rfl rfl) ?_
          refine LM.val (ov_move rfl) ?_
          refine LM.drop (t := 23) rfl rfl rfl ?_
          refine LM.drop (t := 23) rfl rfl rfl ?_
          refine LM.drop (t := 23) rfl rfl rfl ?_
          refine LM.drop (t := 23) rfl rfl rfl ?_
          refine LM.drop (t := 23) rfl rfl rfl ?_
          refine LM.dropU (t := 23) rfl rfl rfl ?_
          refine LM.dropX (t := 29) rfl rfl ?_
          refine LM.dropX (t := 29) rfl rfl ?_
          refine LM.drop (t := 23) rfl rfl rfl ?_
          refine LM.val (ov_pickT rfl rfl) ?_
          refine LM.nil ?_
          refine QM.sub (e' := [(1, _), (10, _), (11, _), (12, _), (33, _)]) ⟨rfl, rfl, rfl, rfl, rfl, trivial⟩ ?_
          -- meet1: h1- h2+ h3+
          refine QM.meetK (_) ⟨(by first | rfl | exact lk rfl (by congr 1; omega) | exact lk rfl (by simp)), rfl, rfl, rfl, rfl, trivial⟩ (by (repeat' (first | exact SubM.nil _ | refine SubM.cons rfl ?_ | refine SubM.app ?_))) ?_
          · unfold numB; rw [decide_eq_false (show ¬ 0 ≤ (numsA o).getD i 0 by omega)]; rfl
        ·
          refine LM.strip (t := 19) rfl rfl rfl ?_
          refine LM.val (ov_move rfl) ?_
          refine LM.strip (t := 19) rfl rfl rfl ?_
          refine LM.val (ov_gtr rfl rfl) ?_
          refine LM.val (ov_pickF rfl rfl) ?_
          refine LM.val (ov_move rfl) ?_
          first | refine LM.splitD (t := 23) rfl (fun h4 => ?_) (fun h4 => ?_) | refine LM.splitB (t := 23) rfl (fun h4 => ?_) (fun h4 => ?_)
          ·
            refine LM.drop (t := 23) rfl rfl rfl ?_
            refine LM.drop (t := 23) rfl rfl rfl ?_
            refine LM.drop (t := 23) rfl rfl rfl ?_
            refine LM.drop (t := 23) rfl rfl rfl ?_
            refine LM.drop (t := 23) rfl rfl rfl ?_
            refine LM.dropU (t := 23) rfl rfl rfl ?_
            refine LM.dropX (t := 29) rfl rfl ?_
            refine LM.dropX (t := 29) rfl rfl ?_
            refine LM.drop (t := 23) rfl rfl rfl ?_
            refine LM.val (ov_pickT rfl rfl) ?_
            refine LM.nil ?_
            refine QM.sub (e' := [(1, _), (10, _), (11, _), (12, _), (33, _)]) ⟨rfl, rfl, rfl, rfl, rfl, trivial⟩ ?_
            -- meet2: h1- h2+ h3- h4+
            refine QM.meetK (_) ⟨(by first | rfl | exact lk rfl (by congr 1; omega) | exact lk rfl (by simp)), rfl, rfl, rfl, rfl, trivial⟩ (by (repeat' (first | exact SubM.nil _ | refine SubM.cons rfl ?_ | refine SubM.app ?_))) ?_
            · unfold numB; rw [decide_eq_true (show 0 ≤ (numsA o).getD i 0 by omega), decide_eq_false (show ¬ (numsA o).getD i 0 ≤ 999999999 by omega)]; rfl
          ·
            refine LM.strip (t := 23) rfl rfl rfl ?_
            refine LM.val (ov_move rfl) ?_
            refine LM.strip (t := 23) rfl rfl rfl ?_
            refine LM.val (ov_field Tryd.underlying49 rfl Tryd.sizeOf3 rfl (k := 0) rfl rfl) ?_
            refine LM.strip (t := 23) rfl rfl rfl ?_
            first | refine LM.rd (om_ld Tryd.isAgg3 rfl rfl) ?_
            refine LM.strip (t := 23) rfl rfl rfl ?_
            refine LM.callE (oc_call (enters_fn Tryd.func46 (by kernel_rfl) rfl) rfl) (fun w hm hc hg => many_spec _ w) ?_
            refine LM.strip (t := 23) rfl rfl rfl ?_
            refine LM.val (ov_geq rfl rfl) ?_
            refine LM.strip (t := 23) rfl rfl rfl ?_
            refine LM.val (ov_move rfl) ?_
            first | refine LM.splitD (t := 29) rfl (fun h5 => ?_) (fun h5 => ?_) | refine LM.splitB (t := 29) rfl (fun h5 => ?_) (fun h5 => ?_)
            ·
              refine LM.strip (t := 29) rfl rfl rfl ?_
              refine LM.val (ov_move rfl) ?_
              refine LM.strip (t := 29) rfl rfl rfl ?_
              refine LM.val (ov_neq rfl rfl) ?_
              refine LM.strip (t := 23) rfl rfl rfl ?_
              refine LM.val (ov_pickT rfl rfl) ?_
              refine LM.val (ov_pickF rfl rfl) ?_
              refine LM.nil ?_
              refine QM.sub (e' := [(1, _), (10, _), (11, _), (12, _), (33, _)]) ⟨rfl, rfl, rfl, rfl, rfl, trivial⟩ ?_
              -- meet3: h1- h2+ h3- h4- h5+
              refine QM.meetK (_) ⟨(by first | rfl | exact lk rfl (by congr 1; omega) | exact lk rfl (by simp)), rfl, rfl, rfl, rfl, trivial⟩ (by (repeat' (first | exact SubM.nil _ | refine SubM.cons rfl ?_ | refine SubM.app ?_))) ?_
              · unfold numB; rw [decide_eq_true (show 0 ≤ (numsA o).getD i 0 by omega), decide_eq_true (show (numsA o).getD i 0 ≤ 999999999 by omega), decide_eq_false (show ¬ i < manyA o.k by omega)]; simp only [Bool.true_and, Bool.false_or, decide_not]
            ·
              refine LM.drop (t := 29) rfl rfl rfl ?_
              refine LM.drop (t := 29) rfl rfl rfl ?_
              refine LM.strip (t := 23) rfl rfl rfl ?_
              refine LM.val (ov_pickF rfl rfl) ?_
              refine LM.val (ov_pickF rfl rfl) ?_
              refine LM.nil ?_
              refine QM.sub (e' := [(1, _), (10, _), (11, _), (12, _), (33, _)]) ⟨rfl, rfl, rfl, rfl, rfl, trivial⟩ ?_
              -- meet4: h1- h2+ h3- h4- h5-
              refine QM.meetK (_) ⟨(by first | rfl | exact lk rfl (by congr 1; omega) | exact lk rfl (by simp)), rfl, rfl, rfl, rfl, trivial⟩ (by (repeat' (first | exact SubM.nil _ | refine SubM.cons rfl ?_ | refine SubM.app ?_))) ?_
              · unfold numB; rw [decide_eq_true (show 0 ≤ (numsA o).getD i 0 by omega), decide_eq_true (show (numsA o).getD i 0 ≤ 999999999 by omega), decide_eq_true (show i < manyA o.k by omega)]; rfl
      ·
        rintro q hq
        change QM _ _ _ _ _ (m10 ++ ((b1, .cells (fA o).toArray 49 (0, 0)) :: [])) _ _ _
        refine QM.then ?_
        first | refine wpM.condD rfl (fun h6 => ?_) (fun h6 => ?_) | refine wpM.condB rfl (fun h6 => ?_) (fun h6 => ?_)
        ·
          refine wpM.seq ?_
          refine wpM.region ?_
          refine LM.val (ov_assign rfl) ?_
          refine LM.nil ?_
          refine QM.sub (e' := [(2, _)]) ⟨rfl, trivial⟩ ?_
          refine QM.then ?_
          refine wpM.ret ?_
          refine QM.block_ret ?_
          refine QM.then_ret ?_
          refine QM.then_ret ?_
          refine QM.block_ret ?_
          refine QM.then_ret ?_
          refine QM.leave (.inl rfl) [.tmp 2] Tryd.results44 rfl ?_
          intro w' hm' hc' hg'
          -- leaf 2: h1- h2+ h6+
          refine ⟨?_, hc'⟩; show Value.bool false = _; rw [right_not (j := i) (by omega) (by simpa using hq.symm.trans h6)]
        ·
          refine wpM.skip ?_
          refine QM.block_normal ?_
          refine QM.then ?_
          refine wpM.region ?_
          refine LM.val (ov_add64 rfl rfl (by omega)) ?_
          refine LM.val (ov_move rfl) ?_
          refine LM.nil ?_
          refine QM.sub (e' := [(1, _), (10, _), (11, _), (12, _)]) ⟨rfl, rfl, rfl, rfl, trivial⟩ ?_
          -- again1: h1- h2+ h6-
          refine QM.againK (i + 1) ⟨(by first | rfl | exact lk rfl (by congr 1; omega) | exact lk rfl (by simp)), rfl, rfl, rfl, trivial⟩ (by (repeat' (first | exact SubM.nil _ | refine SubM.cons rfl ?_ | refine SubM.app ?_))) (fun _ h => h) ?_ ?_
          · exact ⟨by omega, before_next ha (by simpa using hq.symm.trans h6)⟩
          · first | omega | (dsimp only; omega)
    ·
      refine wpM.exit ?_
      refine QM.then_exit ?_
      refine QM.then_exit ?_
      refine QM.block_hit ?_
      refine QM.then ?_
      refine wpM.seq ?_
      refine wpM.region ?_
      refine LM.val (ov_assign rfl) ?_
      refine LM.nil ?_
      refine QM.sub (e' := [(2, _)]) ⟨rfl, trivial⟩ ?_
      refine QM.then ?_
      refine wpM.ret ?_
      refine QM.leave (.inl rfl) [.tmp 2] Tryd.results44 rfl ?_
      intro w' hm' hc' hg'
      -- leaf 3: h1- h2-
      refine ⟨?_, hc'⟩; show Value.bool true = _; rw [right_all hko (fun j hj => ha j (by omega))]

set_option maxRecDepth 100000 in
theorem amay1_spec (o : Act) (w : World) : Ret Tryd.prog 51 #[.agg (fA o).toArray] w (fun v w' => v = .bool (!rightA o) ∧ Ext w w') := by
  refine Ret.enterM (l := [.agg (fA o).toArray]) Tryd.func51 rfl Tryd.ntmps51 rfl ([]) (no) (Mem.nil w) ?_
  refine wpM.seq ?_
  refine wpM.region ?_
  refine LM.box rfl rfl (fun b1 hb1 => ?_)
  refine LM.val (ov_assign rfl) ?_
  refine LM.nil ?_
  refine QM.sub (e' := [(1, _)]) ⟨rfl, trivial⟩ ?_
  refine QM.then ?_
  refine wpM.seq ?_
  refine wpM.region ?_
  first | refine LM.rd (om_ldW Tryd.isAgg49 Tryd.sizeOf49 rfl rfl) ?_ | refine LM.rd (om_ldA Tryd.isAgg49 Tryd.sizeOf49 rfl (vs := [_, _, _, _, _]) rfl ⟨rfl, rfl, rfl, rfl, rfl, trivial⟩) ?_
  refine LM.callE (oc_call (enters_fn Tryd.func44 (by kernel_rfl) rfl) rfl) (fun w hm hc hg => aright_spec o w) ?_
  first | refine LM.val (ov_notD rfl) ?_ | refine LM.val (ov_not rfl) ?_
  refine LM.val (ov_assign rfl) ?_
  refine LM.nil ?_
  refine QM.sub (e' := [(2, _)]) ⟨rfl, trivial⟩ ?_
  refine QM.then ?_
  refine wpM.ret ?_
  refine QM.leave (.inl rfl) [.tmp 2] Tryd.results51 rfl ?_
  intro w' hm' hc' hg'
  -- leaf 1: 
  first | exact ⟨rfl, hc'⟩ | (exfalso; first | omega | (simp at *; done) | (simp_all; done))

set_option maxRecDepth 100000 in
theorem ixf_amay {xs : List Act} {ad : Option Addr} {n cap : Nat} (w : World) (hn : n = xs.length) (hl : Sr fA 5 xs (.slice ad n cap) w) (hx : xs.length ≤ 1000000) : Ret Tryd.prog 84 #[.slice ad n cap, .func (.func 51) #[] #[]] w (fun v w' => v = .int .i64 (fixI (fun o => !rightA o) xs) ∧ Ext w w') := by
  refine Ret.enterM (l := [.slice ad n cap, .func (.func 51) #[] #[]]) Tryd.func84 rfl Tryd.ntmps84 rfl ([]) (no) (Mem.nil w) ?_
  refine wpM.seq ?_
  refine wpM.region ?_
  refine LM.val (ov_assign rfl) ?_
  refine LM.nil ?_
  refine QM.sub (e' := [(0, _), (1, _)]) ⟨rfl, rfl, trivial⟩ ?_
  refine QM.then ?_
  refine wpM.seq ?_
  refine wpM.seq ?_
  refine wpM.region ?_
  refine LM.val (ov_move rfl) ?_
  refine LM.val (ov_len Tryd.underlying22 rfl) ?_
  refine LM.val (ov_move rfl) ?_
  refine LM.nil ?_
  refine QM.sub (e' := [(0, _), (1, _), (7, _), (8, _)]) ⟨rfl, rfl, rfl, rfl, trivial⟩ ?_
  refine QM.then ?_
  refine wpM.block ?_
  refine wpM.loopK0 (α := Nat) (fun i => [(8, .int .i64 (i : Nat))]) [(0, _), (1, _), (7, _)] (fun i => []) (fun i => i ≤ xs.length ∧ (xs.take i).any (fun o => !rightA o) = false) (fun i => xs.length - i) (0) ⟨(by first | rfl | exact lk rfl (by congr 1; omega) | exact lk rfl (by simp)), rfl, rfl, rfl, trivial⟩ (by (repeat' (first | exact SubM.nil _ | refine SubM.cons rfl ?_ | refine SubM.app ?_))) ⟨Nat.zero_le _, rfl⟩ ?_
  rintro i ⟨hi, ha⟩
  change wpM _ _ _ _ _ _ _ ([]) _ _ _
  refine wpM.seq ?_
  refine wpM.region ?_
  refine LM.val (ov_lss rfl rfl) ?_
  refine LM.nil ?_
  refine QM.sub (e' := [(0, _), (1, _), (7, _), (8, _), (9, _)]) ⟨rfl, rfl, rfl, rfl, rfl, trivial⟩ ?_
  refine QM.then ?_
  refine wpM.seq ?_
  first | refine wpM.condD rfl (fun h1 => ?_) (fun h1 => ?_) | refine wpM.condB rfl (fun h1 => ?_) (fun h1 => ?_)
  ·
    refine wpM.skip ?_
    refine QM.then ?_
    refine wpM.seq ?_
    refine wpM.block ?_
    refine wpM.seq ?_
    refine wpM.region ?_
    refine LM.val (ov_move rfl) ?_
    refine LM.val (ov_assign rfl) ?_
    refine LM.nil ?_
    refine QM.sub (e' := [(0, _), (1, _), (5, _), (7, _), (8, _)]) ⟨rfl, rfl, rfl, rfl, rfl, trivial⟩ ?_
    refine QM.then ?_
    refine wpM.seq ?_
    refine wpM.region ?_
    refine LM.val (ov_move rfl) ?_
    refine LM.val (ov_move rfl) ?_
    refine LM.val (ov_move rfl) ?_
    first | refine LM.val (ov_idxSN (by first | exact Sr.spt (by assumption) | exact Sl.spt (by assumption)) Tryd.underlying22 Tryd.sizeOf49 rfl rfl (by omega)) ?_ | refine LM.val (ov_idxS (by first | exact Sr.spt (by assumption) | exact Sl.spt (by assumption)) Tryd.underlying22 Tryd.sizeOf49 rfl rfl (by omega)) ?_ | refine LM.val (ov_idx Tryd.underlying22 Tryd.sizeOf49 rfl rfl (by omega)) ?_
    first | refine LM.rd (om_slA (by assumption) (by intro _; rfl) Tryd.isAgg49 Tryd.sizeOf49 rfl (by exact getq default (by first | omega | (simp only [List.length_set, List.length_append, List.length_cons, List.length_nil]; omega)))) ?_ | refine LM.rdC (om_srEA (by assumption) (by intro _; rfl) Tryd.isAgg49 Tryd.sizeOf49 rfl (by exact getq default (by first | omega | (simp only [List.length_set, List.length_append, List.length_cons, List.length_nil]; omega))) id) ?_ | refine LM.rd (om_ldW Tryd.isAgg49 Tryd.sizeOf49 rfl rfl) ?_ | refine LM.rd (om_ldA Tryd.isAgg49 Tryd.sizeOf49 rfl (vs := [_, _, _, _, _]) rfl ⟨rfl, rfl, rfl, rfl, rfl, trivial⟩) ?_
    refine LM.callE (oc_callV rfl (enters_fn Tryd.func51 (by kernel_rfl) rfl) rfl) (fun w hm hc hg => amay1_spec _ w) ?_
    refine LM.nil ?_
    refine QM.sub (e' := [(0, _), (1, _), (5, _), (7, _), (8, _), (16, _)]) ⟨rfl, rfl, rfl, rfl, rfl, rfl, trivial⟩ ?_
    refine QM.then ?_
    first | refine wpM.condD rfl (fun h2 => ?_) (fun h2 => ?_) | refine wpM.condB rfl (fun h2 => ?_) (fun h2 => ?_)
    ·
      refine wpM.seq ?_
      refine wpM.region ?_
      refine LM.val (ov_move rfl) ?_
      refine LM.val (ov_assign rfl) ?_
      refine LM.nil ?_
      refine QM.sub (e' := [(4, _)]) ⟨rfl, trivial⟩ ?_
      refine QM.then ?_
      refine wpM.ret ?_
      refine QM.block_ret ?_
      refine QM.then_ret ?_
      refine QM.then_ret ?_
      refine QM.block_ret ?_
      refine QM.then_ret ?_
      refine QM.leave (.inl rfl) [.tmp 4] Tryd.results84 rfl ?_
      intro w' hm' hc' hg'
      -- leaf 1: h1+ h2+
      exact ⟨by show Value.int .i64 _ = _; rw [fix_hit default ha (by omega) (by simpa using h2)], hc'⟩
    ·
      refine wpM.skip ?_
      refine QM.block_normal ?_
      refine QM.then ?_
      refine wpM.region ?_
      refine LM.val (ov_add64 rfl rfl (by omega)) ?_
      refine LM.val (ov_move rfl) ?_
      refine LM.nil ?_
      refine QM.sub (e' := [(0, _), (1, _), (7, _), (8, _)]) ⟨rfl, rfl, rfl, rfl, trivial⟩ ?_
      -- again1: h1+ h2-
      refine QM.againK (i + 1) ⟨(by first | rfl | exact lk rfl (by congr 1; omega) | exact lk rfl (by simp)), rfl, rfl, rfl, trivial⟩ (by (repeat' (first | exact SubM.nil _ | refine SubM.cons rfl ?_ | refine SubM.app ?_))) (fun _ h => h) ?_ ?_
      · exact ⟨by omega, by rw [any_snoc default (by omega), ha, Bool.false_or]; simpa using h2⟩
      · first | omega | (dsimp only; omega)
  ·
    refine wpM.exit ?_
    refine QM.then_exit ?_
    refine QM.then_exit ?_
    refine QM.block_hit ?_
    refine QM.then ?_
    refine wpM.seq ?_
    refine wpM.region ?_
    refine LM.val (ov_assign rfl) ?_
    refine LM.nil ?_
    refine QM.sub (e' := [(4, _)]) ⟨rfl, trivial⟩ ?_
    refine QM.then ?_
    refine wpM.ret ?_
    refine QM.leave (.inl rfl) [.tmp 4] Tryd.results84 rfl ?_
    intro w' hm' hc' hg'
    -- leaf 2: h1-
    have hil : i = xs.length := (by omega); subst hil; rw [List.take_length] at ha; exact ⟨by show Value.int .i64 _ = _; rw [fix_miss ha], hc'⟩

set_option maxRecDepth 100000 in
theorem cof_amay {xs : List Act} {ad : Option Addr} {n cap : Nat} (w : World) (hn : n = xs.length) (hl : Sr fA 5 xs (.slice ad n cap) w) (hx : xs.length ≤ 1000000) : Ret Tryd.prog 50 #[.slice ad n cap, .func (.func 51) #[] #[]] w (fun v w' => v = .bool (xs.any (fun o => !rightA o)) ∧ Ext w w') := by
  refine Ret.enterM (l := [.slice ad n cap, .func (.func 51) #[] #[]]) Tryd.func50 rfl Tryd.ntmps50 rfl ([]) (no) (Mem.nil w) ?_
  refine wpM.seq ?_
  refine wpM.region ?_
  refine LM.val (ov_assign rfl) ?_
  refine LM.nil ?_
  refine QM.sub (e' := [(0, _), (1, _)]) ⟨rfl, rfl, trivial⟩ ?_
  refine QM.then ?_
  refine wpM.seq ?_
  refine wpM.region ?_
  refine LM.val (ov_move rfl) ?_
  refine LM.val (ov_move rfl) ?_
  refine LM.callE (oc_call (enters_fn Tryd.func84 (by kernel_rfl) rfl) rfl) (fun w hm hc hg => ixf_amay w hn (hl.ext hc) hx) ?_
  refine LM.val (ov_geq rfl rfl) ?_
  refine LM.val (ov_assign rfl) ?_
  refine LM.nil ?_
  refine QM.sub (e' := [(4, _)]) ⟨rfl, trivial⟩ ?_
  refine QM.then ?_
  refine wpM.ret ?_
  refine QM.leave (.inl rfl) [.tmp 4] Tryd.results50 rfl ?_
  intro w' hm' hc' hg'
  -- leaf 1: 
  exact ⟨by show Value.bool _ = _; rw [← fix_pos], hc'⟩

set_option maxRecDepth 100000 in
theorem amay_spec {xs : List Act} {ad : Option Addr} {n cap : Nat} (w : World) (hn : n = xs.length) (hl : Sr fA 5 xs (.slice ad n cap) w) : Ret Tryd.prog 17 #[.slice ad n cap] w (fun v w' => v = .bool (mayA xs) ∧ Ext w w') := by
  refine Ret.enterM (l := [.slice ad n cap]) Tryd.func17 rfl Tryd.ntmps17 rfl ([]) (no) (Mem.nil w) ?_
  refine wpM.seq ?_
  refine wpM.region ?_
  refine LM.val (ov_assign rfl) ?_
  refine LM.nil ?_
  refine QM.sub (e' := [(0, _)]) ⟨rfl, trivial⟩ ?_
  refine QM.then ?_
  refine wpM.seq ?_
  refine wpM.region ?_
  refine LM.val (ov_move rfl) ?_
  refine LM.val (ov_len Tryd.underlying22 rfl) ?_
  refine LM.val (ov_leq rfl rfl) ?_
  refine LM.val (ov_move rfl) ?_
  first | refine LM.splitD (t := 6) rfl (fun h1 => ?_) (fun h1 => ?_) | refine LM.splitB (t := 6) rfl (fun h1 => ?_) (fun h1 => ?_)
  ·
    refine LM.strip (t := 6) rfl rfl rfl ?_
    refine LM.val (ov_move rfl) ?_
    refine LM.strip (t := 6) rfl rfl rfl ?_
    refine LM.callE (oc_call (enters_fn Tryd.func50 (by kernel_rfl) rfl) rfl) (fun w hm hc hg => cof_amay w hn (hl.ext hc) (by omega)) ?_
    refine LM.strip (t := 6) rfl rfl rfl ?_
    first | refine LM.val (ov_notD rfl) ?_ | refine LM.val (ov_not rfl) ?_
    refine LM.val (ov_pickT rfl rfl) ?_
    refine LM.val (ov_assign rfl) ?_
    refine LM.nil ?_
    refine QM.sub (e' := [(2, _)]) ⟨rfl, trivial⟩ ?_
    refine QM.then ?_
    refine wpM.ret ?_
    refine QM.leave (.inl rfl) [.tmp 2] Tryd.results17 rfl ?_
    intro w' hm' hc' hg'
    -- leaf 1: h1+
    refine ⟨?_, hc'⟩; simp only [resV, mayA]; congr 1; first | (rw [decide_eq_false (show ¬ xs.length ≤ 4000 by omega)]; simp; done) | (rw [decide_eq_true (show xs.length ≤ 4000 by omega), all_any]; rfl)
  ·
    refine LM.drop (t := 6) rfl rfl rfl ?_
    refine LM.drop (t := 6) rfl rfl rfl ?_
    refine LM.drop (t := 6) rfl rfl rfl ?_
    refine LM.val (ov_pickF rfl rfl) ?_
    refine LM.val (ov_assign rfl) ?_
    refine LM.nil ?_
    refine QM.sub (e' := [(2, _)]) ⟨rfl, trivial⟩ ?_
    refine QM.then ?_
    refine wpM.ret ?_
    refine QM.leave (.inl rfl) [.tmp 2] Tryd.results17 rfl ?_
    intro w' hm' hc' hg'
    -- leaf 2: h1-
    refine ⟨?_, hc'⟩; simp only [resV, mayA]; congr 1; first | (rw [decide_eq_false (show ¬ xs.length ≤ 4000 by omega)]; simp; done) | (rw [decide_eq_true (show xs.length ≤ 4000 by omega), all_any]; rfl)

end Go.Eng

