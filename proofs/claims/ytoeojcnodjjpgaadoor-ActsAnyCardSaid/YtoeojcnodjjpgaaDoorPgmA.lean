/- The walks of ops and of programs that may be. No condition. -/
import Derived.Test.YtoeojcnodjjpgaaDoorWordsB
import Derived.Test.YtoeojcnodjjpgaaDoorPgmLaw
set_option linter.unusedVariables false
set_option linter.unusedSimpArgs false
namespace Go.Eng
open Go Go.Proofs Go.RowKit

theorem loA_cases (k : Int) : loA k = -1 ∨ 0 ≤ loA k := by unfold loA; (repeat' split) <;> omega
theorem loB_cases (k : Int) : loB k = -1 ∨ 0 ≤ loB k := by unfold loB; (repeat' split) <;> omega
theorem all_any {α : Type} {p : α → Bool} {xs : List α} : xs.all p = !xs.any (fun o => !p o) := by rw [List.all_eq_not_any_not]
theorem all_snoc {α : Type} {p : α → Bool} {xs : List α} {i : Nat} (d : α) (h : i < xs.length) : (xs.take (i + 1)).all p = ((xs.take i).all p && p (xs.getD i d)) := by
  rw [take_snoc d h, List.all_append]; simp
theorem may_not {xs : List COp} {i : Nat} (h : i < xs.length) (hr : rightB (xs.getD i default) = false) : mayB xs = false := by
  cases hm : mayB xs with
  | false => rfl
  | true => rw [may_at hm h] at hr; cases hr
theorem hasB5 {k b : Int} (h : k = 5) : hasB (loB k) (hiB k) b = (decide (1 ≤ b) && decide (b ≤ 64)) := by subst h; rfl
theorem hasBn {k b : Int} (h : ¬ k = 5) : hasB (loB k) (hiB k) b = decide (b = 0) := by unfold loB hiB; rw [if_neg h, if_neg h]; rfl
abbrev pV (fv : Bool) (ad : Option Addr) (n cap : Nat) : Value := .agg #[.bool fv, .slice ad n cap]
abbrev pB (b : Nat) (fv : Bool) (ad : Option Addr) (n cap : Nat) : Nat × Obj := (b, .cells #[.bool fv, .slice ad n cap] 53 (0, 0))
set_option maxRecDepth 100000 in
theorem names_spec (w : World) : Ret Tryd.prog 69 #[] w (New fB 9 1 nmW w) := by
  refine Ret.enterM (l := []) Tryd.func69 rfl Tryd.ntmps69 rfl ([]) (no) (Mem.nil w) ?_
  refine wpM.seq ?_
  refine wpM.region ?_
  refine LM.val (ov_assign rfl) ?_
  refine LM.nil ?_
  refine QM.sub (e' := []) trivial ?_
  refine QM.then ?_
  refine wpM.seq ?_
  refine wpM.region ?_
  refine LM.row (vs := [_, _, _, _, _, _, _, _, _, _, _, _]) Tryd.underlying96 Tryd.sizeOf9 Tryd.zeroValue9 rfl rfl rfl rfl rfl rfl (fun b1 hb1 => ?_)
  refine LM.val (ov_assign rfl) ?_
  refine LM.nil ?_
  refine QM.sub (e' := [(0, _)]) ⟨rfl, trivial⟩ ?_
  refine QM.then ?_
  refine wpM.ret ?_
  refine QM.leave (.inl rfl) [.tmp 0] Tryd.results69 rfl ?_
  intro w' hm' hc' hg'
  -- leaf 1: 
  exact ⟨hc', [(b1, .cells (arr fB nmW []) 9 (0, 0))], .inr ⟨b1, 12, [], hb1, rfl, rfl, by decide, by unfold maxLen; decide, rfl⟩, hm'⟩

set_option maxRecDepth 100000 in
theorem name_spec (k : Int) (w : World) : Ret Tryd.prog 31 #[.int .i64 k] w (fun v w' => v = vS (nmT k) ∧ Ext w w') := by
  refine Ret.enterM (l := [.int .i64 k]) Tryd.func31 rfl Tryd.ntmps31 rfl ([]) (no) (Mem.nil w) ?_
  refine wpM.seq ?_
  refine wpM.region ?_
  refine LM.val (ov_assign rfl) ?_
  refine LM.nil ?_
  refine QM.sub (e' := [(0, _)]) ⟨rfl, trivial⟩ ?_
  refine QM.then ?_
  refine wpM.seq ?_
  refine wpM.seq ?_
  refine wpM.region ?_
  refine LM.val (ov_move rfl) ?_
  refine LM.val (ov_lss rfl rfl) ?_
  refine LM.val (ov_move rfl) ?_
  first | refine LM.splitD (t := 5) rfl (fun h1 => ?_) (fun h1 => ?_) | refine LM.splitB (t := 5) rfl (fun h1 => ?_) (fun h1 => ?_)
  ·
    refine LM.drop (t := 5) rfl rfl rfl ?_
    refine LM.drop (t := 5) rfl rfl rfl ?_
    refine LM.drop (t := 5) rfl rfl rfl ?_
    refine LM.drop (t := 5) rfl rfl rfl ?_
    refine LM.val (ov_pickT rfl rfl) ?_
    refine LM.nil ?_
    refine QM.sub (e' := [(0, _), (10, _)]) ⟨rfl, rfl, trivial⟩ ?_
    refine QM.then ?_
    refine wpM.condT rfl ?_
    refine wpM.seq ?_
    refine wpM.region ?_
    refine LM.val (ov_assign rfl) ?_
    refine LM.nil ?_
    refine QM.sub (e' := [(2, _)]) ⟨rfl, trivial⟩ ?_
    refine QM.then ?_
    refine wpM.ret ?_
    refine QM.then_ret ?_
    refine QM.leave (.inl rfl) [.tmp 2] Tryd.results31 rfl ?_
    intro w' hm' hc' hg'
    -- leaf 1: h1+
    have hl13 : nmW.length = 12 := rfl; refine ⟨?_, hc'⟩; show vS _ = _; congr 1; first | (rw [nmT, if_neg (by omega)]; done) | (rw [nmT, if_pos (by omega)]; rfl)
  ·
    refine LM.strip (t := 5) rfl rfl rfl ?_
    refine LM.val (ov_move rfl) ?_
    refine LM.strip (t := 5) rfl rfl rfl ?_
    refine LM.cS (oc_call (enters_fn Tryd.func69 (by kernel_rfl) rfl) rfl) (fun w hm hc hg => names_spec w) (fun ad7 n7 cap7 m7 hn7 hs7 => ?_)
    refine LM.strip (t := 5) rfl rfl rfl ?_
    refine LM.val (ov_len Tryd.underlying96 rfl) ?_
    refine LM.strip (t := 5) rfl rfl rfl ?_
    have hl12 : n7 = 12 := hn7
    refine LM.val (ov_geq rfl rfl) ?_
    refine LM.val (ov_pickF rfl rfl) ?_
    refine LM.nil ?_
    refine QM.sub (e' := [(0, _), (10, _)]) ⟨rfl, rfl, trivial⟩ ?_
    refine QM.then ?_
    first | refine wpM.condD rfl (fun h2 => ?_) (fun h2 => ?_) | refine wpM.condB rfl (fun h2 => ?_) (fun h2 => ?_)
    ·
      refine wpM.seq ?_
      refine wpM.region ?_
      refine LM.val (ov_assign rfl) ?_
      refine LM.nil ?_
      refine QM.sub (e' := [(2, _)]) ⟨rfl, trivial⟩ ?_
      refine QM.then ?_
      refine wpM.ret ?_
      refine QM.then_ret ?_
      refine QM.leave (.inl rfl) [.tmp 2] Tryd.results31 rfl ?_
      intro w' hm' hc' hg'
      -- leaf 2: h1- h2+
      have hl13 : nmW.length = 12 := rfl; refine ⟨?_, hc'⟩; show vS _ = _; congr 1; first | (rw [nmT, if_neg (by omega)]; done) | (rw [nmT, if_pos (by omega)]; rfl)
    ·
      refine wpM.skip ?_
      refine QM.then ?_
      refine wpM.seq ?_
      refine wpM.region ?_
      refine LM.cS (oc_call (enters_fn Tryd.func69 (by kernel_rfl) rfl) rfl) (fun w hm hc hg => names_spec w) (fun ad11 n11 cap11 m11 hn11 hs11 => ?_)
      have hl12 : n11 = 12 := hn11
      refine LM.val (ov_move rfl) ?_
      first | refine LM.val (ov_idxSN (by first | exact Sr.spt (by assumption) | exact Sl.spt (by assumption)) Tryd.underlying96 Tryd.sizeOf9 rfl rfl (by omega)) ?_ | refine LM.val (ov_idxS (by first | exact Sr.spt (by assumption) | exact Sl.spt (by assumption)) Tryd.underlying96 Tryd.sizeOf9 rfl rfl (by omega)) ?_ | refine LM.val (ov_idx1 Tryd.underlying96 Tryd.sizeOf9 rfl rfl (by omega)) ?_
      first | refine LM.rd (om_sl1 (by assumption) (by intro _; rfl) Tryd.isAgg9 rfl rfl (by exact getq default (by first | omega | (simp only [List.length_set, List.length_append, List.length_cons, List.length_nil]; omega))) (by rfl)) ?_ | refine LM.rdC (om_sr1 (by assumption) Tryd.isAgg9 rfl rfl (by exact getq default (by first | omega | (simp only [List.length_set, List.length_append, List.length_cons, List.length_nil]; omega))) (by rfl) id) ?_ | refine LM.rd (om_ld Tryd.isAgg9 rfl rfl) ?_
      refine LM.val (ov_assign rfl) ?_
      refine LM.nil ?_
      refine QM.sub (e' := [(2, _)]) ⟨rfl, trivial⟩ ?_
      refine QM.then ?_
      refine wpM.ret ?_
      refine QM.leave (.inl rfl) [.tmp 2] Tryd.results31 rfl ?_
      intro w' hm' hc' hg'
      -- leaf 3: h1- h2-
      have hl13 : nmW.length = 12 := rfl; refine ⟨?_, hc'⟩; show vS _ = _; congr 1; first | (rw [nmT, if_neg (by omega)]; done) | (rw [nmT, if_pos (by omega)]; rfl)

set_option maxRecDepth 100000 in
theorem rname_spec (k : Int) (w : World) : Ret Tryd.prog 32 #[.int .i64 k] w (fun v w' => v = vS (nmT k) ∧ Ext w w') := by
  refine Ret.enterM (l := [.int .i64 k]) Tryd.func32 rfl Tryd.ntmps32 rfl ([]) (no) (Mem.nil w) ?_
  refine wpM.seq ?_
  refine wpM.region ?_
  refine LM.val (ov_assign rfl) ?_
  refine LM.nil ?_
  refine QM.sub (e' := [(0, _)]) ⟨rfl, trivial⟩ ?_
  refine QM.then ?_
  refine wpM.seq ?_
  refine wpM.region ?_
  refine LM.row (vs := [_, _, _, _, _, _, _, _, _, _, _, _]) Tryd.underlying96 Tryd.sizeOf9 Tryd.zeroValue9 rfl rfl rfl rfl rfl rfl (fun b4 hb4 => ?_)
  refine LM.val (ov_assign rfl) ?_
  refine LM.nil ?_
  refine QM.sub (e' := [(0, _), (3, _)]) ⟨rfl, rfl, trivial⟩ ?_
  refine QM.then ?_
  refine wpM.seq ?_
  refine wpM.seq ?_
  refine wpM.region ?_
  refine LM.val (ov_move rfl) ?_
  refine LM.val (ov_lss rfl rfl) ?_
  refine LM.val (ov_move rfl) ?_
  first | refine LM.splitD (t := 7) rfl (fun h1 => ?_) (fun h1 => ?_) | refine LM.splitB (t := 7) rfl (fun h1 => ?_) (fun h1 => ?_)
  ·
    refine LM.drop (t := 7) rfl rfl rfl ?_
    refine LM.drop (t := 7) rfl rfl rfl ?_
    refine LM.val (ov_pickT rfl rfl) ?_
    refine LM.nil ?_
    refine QM.sub (e' := [(0, _), (3, _), (10, _)]) ⟨rfl, rfl, rfl, trivial⟩ ?_
    refine QM.then ?_
    refine wpM.condT rfl ?_
    refine wpM.seq ?_
    refine wpM.region ?_
    refine LM.val (ov_assign rfl) ?_
    refine LM.nil ?_
    refine QM.sub (e' := [(2, _)]) ⟨rfl, trivial⟩ ?_
    refine QM.then ?_
    refine wpM.ret ?_
    refine QM.then_ret ?_
    refine QM.leave (.inl rfl) [.tmp 2] Tryd.results32 rfl ?_
    intro w' hm' hc' hg'
    -- leaf 1: h1+
    refine ⟨?_, hc'⟩; show vS _ = _; congr 1; first | (rw [nmT, if_neg (by omega)]; done) | (rw [nmT, if_pos (by omega)]; rfl)
  ·
    refine LM.strip (t := 7) rfl rfl rfl ?_
    refine LM.val (ov_move rfl) ?_
    refine LM.strip (t := 7) rfl rfl rfl ?_
    refine LM.val (ov_gtr rfl rfl) ?_
    refine LM.val (ov_pickF rfl rfl) ?_
    refine LM.nil ?_
    refine QM.sub (e' := [(0, _), (3, _), (10, _)]) ⟨rfl, rfl, rfl, trivial⟩ ?_
    refine QM.then ?_
    first | refine wpM.condD rfl (fun h2 => ?_) (fun h2 => ?_) | refine wpM.condB rfl (fun h2 => ?_) (fun h2 => ?_)
    ·
      refine wpM.seq ?_
      refine wpM.region ?_
      refine LM.val (ov_assign rfl) ?_
      refine LM.nil ?_
      refine QM.sub (e' := [(2, _)]) ⟨rfl, trivial⟩ ?_
      refine QM.then ?_
      refine wpM.ret ?_
      refine QM.then_ret ?_
      refine QM.leave (.inl rfl) [.tmp 2] Tryd.results32 rfl ?_
      intro w' hm' hc' hg'
      -- leaf 2: h1- h2+
      refine ⟨?_, hc'⟩; show vS _ = _; congr 1; first | (rw [nmT, if_neg (by omega)]; done) | (rw [nmT, if_pos (by omega)]; rfl)
    ·
      refine wpM.skip ?_
      refine QM.then ?_
      refine wpM.seq ?_
      refine wpM.region ?_
      refine LM.val (ov_move rfl) ?_
      refine LM.val (ov_move rfl) ?_
      change LM _ _ _ _ _ _ _ _ ((b4, Obj.cells (arr fB nmW []) 9 (0, 0)) :: _) _ _ _; have hs4 : Sl fB 9 1 w.heap.size nmW (.slice (some ⟨b4, 0, none⟩) 12 12) [(b4, .cells (arr fB nmW []) 9 (0, 0))] := .inr ⟨b4, 12, [], hb4, rfl, rfl, by decide, by unfold maxLen; decide, rfl⟩; have hl12 : nmW.length = 12 := rfl
      first | refine LM.val (ov_idxSN (by first | exact Sr.spt (by assumption) | exact Sl.spt (by assumption)) Tryd.underlying96 Tryd.sizeOf9 rfl rfl (by omega)) ?_ | refine LM.val (ov_idxS (by first | exact Sr.spt (by assumption) | exact Sl.spt (by assumption)) Tryd.underlying96 Tryd.sizeOf9 rfl rfl (by omega)) ?_ | refine LM.val (ov_idx1 Tryd.underlying96 Tryd.sizeOf9 rfl rfl (by omega)) ?_
      first | refine LM.rd (om_sl1 (by assumption) (by intro _; rfl) Tryd.isAgg9 rfl rfl (by exact getq default (by first | omega | (simp only [List.length_set, List.length_append, List.length_cons, List.length_nil]; omega))) (by rfl)) ?_ | refine LM.rdC (om_sr1 (by assumption) Tryd.isAgg9 rfl rfl (by exact getq default (by first | omega | (simp only [List.length_set, List.length_append, List.length_cons, List.length_nil]; omega))) (by rfl) id) ?_ | refine LM.rd (om_ld Tryd.isAgg9 rfl rfl) ?_
      refine LM.val (ov_assign rfl) ?_
      refine LM.nil ?_
      refine QM.sub (e' := [(2, _)]) ⟨rfl, trivial⟩ ?_
      refine QM.then ?_
      refine wpM.ret ?_
      refine QM.leave (.inl rfl) [.tmp 2] Tryd.results32 rfl ?_
      intro w' hm' hc' hg'
      -- leaf 3: h1- h2-
      refine ⟨?_, hc'⟩; show vS _ = _; congr 1; first | (rw [nmT, if_neg (by omega)]; done) | (rw [nmT, if_pos (by omega)]; rfl)

set_option maxRecDepth 100000 in
theorem index_str {xs : List (List UInt8)} {ad : Option Addr} {n cap : Nat} (x : List UInt8) (w : World) (hn : n = xs.length) (hl : Sr fB 1 xs (.slice ad n cap) w) (hx : xs.length ≤ 1000) : Ret Tryd.prog 85 #[.slice ad n cap, vS x] w (fun v w' => v = .int .i64 (fixI (fun y => decide (x = y)) xs) ∧ Ext w w') := by
  refine Ret.enterM (l := [.slice ad n cap, vS x]) Tryd.func85 rfl Tryd.ntmps85 rfl ([]) (no) (Mem.nil w) ?_
  refine wpM.seq ?_
  refine wpM.region ?_
  refine LM.val (ov_assign rfl) ?_
  refine LM.nil ?_
  refine QM.sub (e' := [(0, _), (1, _)]) ⟨rfl, rfl, trivial⟩ ?_
  refine QM.then ?_
  refine wpM.seq ?_
  refine wpM.seq ?_
  refine wpM.region ?_
  refine LM.val (ov_move rfl) ?_
  refine LM.val (ov_len Tryd.underlying96 rfl) ?_
  refine LM.val (ov_move rfl) ?_
  refine LM.nil ?_
  refine QM.sub (e' := [(0, _), (1, _), (7, _), (8, _)]) ⟨rfl, rfl, rfl, rfl, trivial⟩ ?_
  refine QM.then ?_
  refine wpM.block ?_
  refine wpM.loopK0 (α := Nat) (fun i => [(8, .int .i64 (i : Nat))]) [(0, _), (1, _), (7, _)] (fun i => []) (fun i => i ≤ xs.length ∧ (xs.take i).any (fun y => decide (x = y)) = false) (fun i => xs.length - i) (0) ⟨(by first | rfl | exact lk rfl (by congr 1; omega) | exact lk rfl (by simp)), rfl, rfl, rfl, trivial⟩ (by (repeat' (first | exact SubM.nil _ | refine SubM.cons rfl ?_ | refine SubM.app ?_))) ⟨Nat.zero_le _, rfl⟩ ?_
  rintro i ⟨hi, ha⟩
  change wpM _ _ _ _ _ _ _ ([]) _ _ _
  refine wpM.seq ?_
  refine wpM.region ?_
  refine LM.val (ov_lss rfl rfl) ?_
  refine LM.nil ?_
  refine QM.sub (e' := [(0, _), (1, _), (7, _), (8, _), (9, _)]) ⟨rfl, rfl, rfl, rfl, rfl, trivial⟩ ?_
  refine QM.then ?_
  refine wpM.seq ?_
  first | refine wpM.condD rfl (fun h1 => ?_) (fun h1 => ?_) | refine wpM.condB rfl (fun h1 => ?_) (fun h1 => ?_)
  ·
    refine wpM.skip ?_
    refine QM.then ?_
    refine wpM.seq ?_
    refine wpM.block ?_
    refine wpM.seq ?_
    refine wpM.region ?_
    refine LM.val (ov_move rfl) ?_
    refine LM.val (ov_assign rfl) ?_
    refine LM.nil ?_
    refine QM.sub (e' := [(0, _), (1, _), (5, _), (7, _), (8, _)]) ⟨rfl, rfl, rfl, rfl, rfl, trivial⟩ ?_
    refine QM.then ?_
    refine wpM.seq ?_
    refine wpM.region ?_
    refine LM.val (ov_move rfl) ?_
    refine LM.val (ov_move rfl) ?_
    refine LM.val (ov_move rfl) ?_
    first | refine LM.val (ov_idxSN (by first | exact Sr.spt (by assumption) | exact Sl.spt (by assumption)) Tryd.underlying96 Tryd.sizeOf9 rfl rfl (by omega)) ?_ | refine LM.val (ov_idxS (by first | exact Sr.spt (by assumption) | exact Sl.spt (by assumption)) Tryd.underlying96 Tryd.sizeOf9 rfl rfl (by omega)) ?_ | refine LM.val (ov_idx1 Tryd.underlying96 Tryd.sizeOf9 rfl rfl (by omega)) ?_
    first | refine LM.rd (om_sl1 (by assumption) (by intro _; rfl) Tryd.isAgg9 rfl rfl (by exact getq default (by first | omega | (simp only [List.length_set, List.length_append, List.length_cons, List.length_nil]; omega))) (by rfl)) ?_ | refine LM.rdC (om_sr1 (by assumption) Tryd.isAgg9 rfl rfl (by exact getq default (by first | omega | (simp only [List.length_set, List.length_append, List.length_cons, List.length_nil]; omega))) (by rfl) id) ?_ | refine LM.rd (om_ld Tryd.isAgg9 rfl rfl) ?_
    refine LM.val (ov_seqlL rfl rfl) ?_
    refine LM.nil ?_
    refine QM.sub (e' := [(0, _), (1, _), (5, _), (7, _), (8, _), (16, _)]) ⟨rfl, rfl, rfl, rfl, rfl, rfl, trivial⟩ ?_
    refine QM.then ?_
    first | refine wpM.condD rfl (fun h2 => ?_) (fun h2 => ?_) | refine wpM.condB rfl (fun h2 => ?_) (fun h2 => ?_)
    ·
      refine wpM.seq ?_
      refine wpM.region ?_
      refine LM.val (ov_move rfl) ?_
      refine LM.val (ov_assign rfl) ?_
      refine LM.nil ?_
      refine QM.sub (e' := [(4, _)]) ⟨rfl, trivial⟩ ?_
      refine QM.then ?_
      refine wpM.ret ?_
      refine QM.block_ret ?_
      refine QM.then_ret ?_
      refine QM.then_ret ?_
      refine QM.block_ret ?_
      refine QM.then_ret ?_
      refine QM.leave (.inl rfl) [.tmp 4] Tryd.results85 rfl ?_
      intro w' hm' hc' hg'
      -- leaf 1: h1+ h2+
      exact ⟨by show Value.int .i64 _ = _; rw [fix_hit [] ha (by omega) (decide_eq_true h2)], hc'⟩
    ·
      refine wpM.skip ?_
      refine QM.block_normal ?_
      refine QM.then ?_
      refine wpM.region ?_
      refine LM.val (ov_add64 rfl rfl (by omega)) ?_
      refine LM.val (ov_move rfl) ?_
      refine LM.nil ?_
      refine QM.sub (e' := [(0, _), (1, _), (7, _), (8, _)]) ⟨rfl, rfl, rfl, rfl, trivial⟩ ?_
      -- again1: h1+ h2-
      refine QM.againK (i + 1) ⟨(by first | rfl | exact lk rfl (by congr 1; omega) | exact lk rfl (by simp)), rfl, rfl, rfl, trivial⟩ (by (repeat' (first | exact SubM.nil _ | refine SubM.cons rfl ?_ | refine SubM.app ?_))) (fun _ h => h) ?_ ?_
      · exact ⟨by omega, by rw [any_snoc [] (by omega), ha, Bool.false_or]; exact decide_eq_false h2⟩
      · first | omega | (dsimp only; omega)
  ·
    refine wpM.exit ?_
    refine QM.then_exit ?_
    refine QM.then_exit ?_
    refine QM.block_hit ?_
    refine QM.then ?_
    refine wpM.seq ?_
    refine wpM.region ?_
    refine LM.val (ov_assign rfl) ?_
    refine LM.nil ?_
    refine QM.sub (e' := [(4, _)]) ⟨rfl, trivial⟩ ?_
    refine QM.then ?_
    refine wpM.ret ?_
    refine QM.leave (.inl rfl) [.tmp 4] Tryd.results85 rfl ?_
    intro w' hm' hc' hg'
    -- leaf 2: h1-
    have hil : i = xs.length := (by omega); subst hil; rw [List.take_length] at ha; exact ⟨by show Value.int .i64 _ = _; rw [fix_miss ha], hc'⟩

set_option maxRecDepth 100000 in
theorem spans_spec (k : Int) (w : World) : Ret Tryd.prog 72 #[.int .i64 k] w (fun v w' => v = .tuple #[.agg #[.int .i64 (loA k), .int .i64 (hiA k)], .agg #[.int .i64 (loB k), .int .i64 (hiB k)]] ∧ Ext w w') := by
  refine Ret.enterM (l := [.int .i64 k]) Tryd.func72 rfl Tryd.ntmps72 rfl ([]) (no) (Mem.nil w) ?_
  refine wpM.seq ?_
  refine wpM.region ?_
  refine LM.alloc Tryd.zeroValue114 rfl (fun b2 hb2 => ?_)
  refine LM.alloc Tryd.zeroValue114 rfl (fun b3 hb3 => ?_)
  refine LM.nil ?_
  refine QM.sub (e' := [(0, _), (2, _), (3, _)]) ⟨rfl, rfl, rfl, trivial⟩ ?_
  refine QM.then ?_
  refine wpM.seq ?_
  refine wpM.region ?_
  refine LM.val (ov_build (cs := #[_, _]) rfl (by first | rfl | kernel_rfl)) ?_
  refine LM.alloc Tryd.zeroValue114 rfl (fun b4 hb4 => ?_)
  first | refine LM.stW Tryd.sizeOf114 rfl rfl rfl rfl (by first | rfl | decide | (simp; done)) (fun hlt => absurd hlt (by omega)) ?_ | refine LM.st Tryd.sizeOf114 rfl rfl rfl (by first | decide | exact Nat.le_of_ble_eq_true rfl | (simp; done) | (simp; omega)) rfl (fun hlt => absurd hlt (by omega)) ?_
  refine LM.nil ?_
  refine QM.sub (e' := [(0, _), (2, _), (3, _), (4, _)]) ⟨rfl, rfl, rfl, rfl, trivial⟩ ?_
  refine QM.then ?_
  refine wpM.seq ?_
  refine wpM.seq ?_
  refine wpM.region ?_
  refine LM.val (ov_move rfl) ?_
  refine LM.nil ?_
  refine QM.sub (e' := [(2, _), (3, _), (4, _), (6, _)]) ⟨rfl, rfl, rfl, rfl, trivial⟩ ?_
  refine QM.then ?_
  refine wpM.block ?_
  refine wpM.seq ?_
  refine wpM.region ?_
  refine LM.val (ov_eql rfl rfl) ?_
  refine LM.val (ov_assign rfl) ?_
  refine LM.nil ?_
  refine QM.sub (e' := [(2, _), (3, _), (4, _), (6, _), (7, _)]) ⟨rfl, rfl, rfl, rfl, rfl, trivial⟩ ?_
  refine QM.then ?_
  first | refine wpM.condD rfl (fun h1 => ?_) (fun h1 => ?_) | refine wpM.condB rfl (fun h1 => ?_) (fun h1 => ?_)
  ·
    refine wpM.seq ?_
    refine wpM.toAltO (b2) [.cells #[.int .i64 0, .int .i64 0] 114 (0, 0), .cells #[.int .i64 (1), .int .i64 (16)] 114 (0, 0)] (by first | exact .head _ | (simp; done)) (fun hMc => ?_)
    refine wpM.draw [(0, 0), (1, 1), (2, 2), (3, 3)] (by kernel_rfl) (by kernel_rfl) ?_
    refine LD.val rfl rfl (ov_build (cs := #[_, _]) rfl (by first | rfl | kernel_rfl)) ?_
    first | refine LD.rd rfl rfl (om_ldW Tryd.isAgg114 Tryd.sizeOf114 rfl rfl) ?_ | refine LD.rd rfl rfl (om_ldA Tryd.isAgg114 Tryd.sizeOf114 rfl (vs := [_, _]) rfl ⟨rfl, rfl, trivial⟩) ?_
    refine LD.stAltO [.cells #[.int .i64 (1), .int .i64 (16)] 114 (0, 0)] rfl rfl Tryd.sizeOf114 rfl rfl rfl (by decide) (by simp) (by simp only [List.forall_mem_cons, List.not_mem_nil, false_implies, implies_true, and_true]; exact ⟨⟨_, _, rfl, by decide, .head _⟩, ⟨_, _, rfl, by decide, .head _⟩⟩) (fun hlt => absurd hlt (by omega)) hMc ?_
    refine LD.tail rfl rfl ?_
    refine LM.ofAltO ?_
    first | refine LM.stW Tryd.sizeOf114 rfl rfl rfl rfl (by first | rfl | decide | (simp; done)) (fun hlt => absurd hlt (by omega)) ?_ | refine LM.st Tryd.sizeOf114 rfl rfl rfl (by first | decide | exact Nat.le_of_ble_eq_true rfl | (simp; done) | (simp; omega)) rfl (fun hlt => absurd hlt (by omega)) ?_
    refine LM.nil ?_
    refine QM.qn ?_
    refine QM.sub (e' := [(2, _), (3, _)]) ⟨rfl, rfl, trivial⟩ ?_
    refine QM.then ?_
    refine wpM.ret ?_
    refine QM.block_ret ?_
    refine QM.then_ret ?_
    refine QM.leaveCs (ds := ([])) (.inl rfl) [.cell 2 114, .cell 3 114] Tryd.results72 hd_nil (rc_w rfl Tryd.isAgg114 Tryd.sizeOf114 rfl (rc_w rfl Tryd.isAgg114 Tryd.sizeOf114 rfl rc_nil)) ?_
    intro w' hm' hc'
    -- leaf 1: h1+
    refine ⟨?_, hc'⟩; simp only [resV, loA, hiA, loB, hiB]; try ((repeat' split) <;> first | rfl | omega)
  ·
    refine wpM.seq ?_
    refine wpM.seq ?_
    refine wpM.region ?_
    refine LM.val (ov_eql rfl rfl) ?_
    refine LM.val (ov_assign rfl) ?_
    refine LM.nil ?_
    refine QM.sub (e' := [(2, _), (3, _), (4, _), (6, _), (11, _)]) ⟨rfl, rfl, rfl, rfl, rfl, trivial⟩ ?_
    refine QM.then ?_
    first | refine wpM.condXD (t := 11) rfl (fun h2 => ?_) (fun h2 => ?_) | refine wpM.condXB (t := 11) rfl (fun h2 => ?_) (fun h2 => ?_)
    ·
      refine wpM.skip ?_
      refine QM.then ?_
      refine wpM.condT rfl ?_
      refine wpM.seq ?_
      refine wpM.toAltO (b2) [.cells #[.int .i64 0, .int .i64 0] 114 (0, 0), .cells #[.int .i64 (0), .int .i64 (7)] 114 (0, 0)] (by first | exact .head _ | (simp; done)) (fun hMc => ?_)
      refine wpM.draw [(0, 0), (1, 1), (2, 2), (3, 3)] (by kernel_rfl) (by kernel_rfl) ?_
      refine LD.val rfl rfl (ov_build (cs := #[_, _]) rfl (by first | rfl | kernel_rfl)) ?_
      first | refine LD.rd rfl rfl (om_ldW Tryd.isAgg114 Tryd.sizeOf114 rfl rfl) ?_ | refine LD.rd rfl rfl (om_ldA Tryd.isAgg114 Tryd.sizeOf114 rfl (vs := [_, _]) rfl ⟨rfl, rfl, trivial⟩) ?_
      refine LD.stAltO [.cells #[.int .i64 (0), .int .i64 (7)] 114 (0, 0)] rfl rfl Tryd.sizeOf114 rfl rfl rfl (by decide) (by simp) (by simp only [List.forall_mem_cons, List.not_mem_nil, false_implies, implies_true, and_true]; exact ⟨⟨_, _, rfl, by decide, .head _⟩, ⟨_, _, rfl, by decide, .head _⟩⟩) (fun hlt => absurd hlt (by omega)) hMc ?_
      refine LD.tail rfl rfl ?_
      refine LM.ofAltO ?_
      first | refine LM.stW Tryd.sizeOf114 rfl rfl rfl rfl (by first | rfl | decide | (simp; done)) (fun hlt => absurd hlt (by omega)) ?_ | refine LM.st Tryd.sizeOf114 rfl rfl rfl (by first | decide | exact Nat.le_of_ble_eq_true rfl | (simp; done) | (simp; omega)) rfl (fun hlt => absurd hlt (by omega)) ?_
      refine LM.nil ?_
      refine QM.qn ?_
      refine QM.sub (e' := [(2, _), (3, _)]) ⟨rfl, rfl, trivial⟩ ?_
      refine QM.then ?_
      refine wpM.ret ?_
      refine QM.block_ret ?_
      refine QM.then_ret ?_
      refine QM.leaveCs (ds := ([])) (.inl rfl) [.cell 2 114, .cell 3 114] Tryd.results72 hd_nil (rc_w rfl Tryd.isAgg114 Tryd.sizeOf114 rfl (rc_w rfl Tryd.isAgg114 Tryd.sizeOf114 rfl rc_nil)) ?_
      intro w' hm' hc'
      -- leaf 2: h1- h2+
      refine ⟨?_, hc'⟩; simp only [resV, loA, hiA, loB, hiB]; try ((repeat' split) <;> first | rfl | omega)
    ·
      refine wpM.seq ?_
      refine wpM.region ?_
      refine LM.val (ov_eql rfl rfl) ?_
      refine LM.val (ov_assign rfl) ?_
      refine LM.nil ?_
      refine QM.sub (e' := [(2, _), (3, _), (4, _), (6, _), (11, _)]) ⟨rfl, rfl, rfl, rfl, rfl, trivial⟩ ?_
      refine QM.then ?_
      first | refine wpM.condXD (t := 11) rfl (fun h3 => ?_) (fun h3 => ?_) | refine wpM.condXB (t := 11) rfl (fun h3 => ?_) (fun h3 => ?_)
      ·
        refine wpM.skip ?_
        refine QM.then ?_
        refine wpM.condT rfl ?_
        refine wpM.seq ?_
        refine wpM.toAltO (b2) [.cells #[.int .i64 0, .int .i64 0] 114 (0, 0), .cells #[.int .i64 (0), .int .i64 (7)] 114 (0, 0)] (by first | exact .head _ | (simp; done)) (fun hMc => ?_)
        refine wpM.draw [(0, 0), (1, 1), (2, 2), (3, 3)] (by kernel_rfl) (by kernel_rfl) ?_
        refine LD.val rfl rfl (ov_build (cs := #[_, _]) rfl (by first | rfl | kernel_rfl)) ?_
        first | refine LD.rd rfl rfl (om_ldW Tryd.isAgg114 Tryd.sizeOf114 rfl rfl) ?_ | refine LD.rd rfl rfl (om_ldA Tryd.isAgg114 Tryd.sizeOf114 rfl (vs := [_, _]) rfl ⟨rfl, rfl, trivial⟩) ?_
        refine LD.stAltO [.cells #[.int .i64 (0), .int .i64 (7)] 114 (0, 0)] rfl rfl Tryd.sizeOf114 rfl rfl rfl (by decide) (by simp) (by simp only [List.forall_mem_cons, List.not_mem_nil, false_implies, implies_true, and_true]; exact ⟨⟨_, _, rfl, by decide, .head _⟩, ⟨_, _, rfl, by decide, .head _⟩⟩) (fun hlt => absurd hlt (by omega)) hMc ?_
        refine LD.tail rfl rfl ?_
        refine LM.ofAltO ?_
        first | refine LM.stW Tryd.sizeOf114 rfl rfl rfl rfl (by first | rfl | decide | (simp; done)) (fun hlt => absurd hlt (by omega)) ?_ | refine LM.st Tryd.sizeOf114 rfl rfl rfl (by first | decide | exact Nat.le_of_ble_eq_true rfl | (simp; done) | (simp; omega)) rfl (fun hlt => absurd hlt (by omega)) ?_
        refine LM.nil ?_
        refine QM.qn ?_
        refine QM.sub (e' := [(2, _), (3, _)]) ⟨rfl, rfl, trivial⟩ ?_
        refine QM.then ?_
        refine wpM.ret ?_
        refine QM.block_ret ?_
        refine QM.then_ret ?_
        refine QM.leaveCs (ds := ([])) (.inl rfl) [.cell 2 114, .cell 3 114] Tryd.results72 hd_nil (rc_w rfl Tryd.isAgg114 Tryd.sizeOf114 rfl (rc_w rfl Tryd.isAgg114 Tryd.sizeOf114 rfl rc_nil)) ?_
        intro w' hm' hc'
        -- leaf 3: h1- h2- h3+
        refine ⟨?_, hc'⟩; simp only [resV, loA, hiA, loB, hiB]; try ((repeat' split) <;> first | rfl | omega)
      ·
        refine wpM.seq ?_
        refine wpM.region ?_
        refine LM.val (ov_eql rfl rfl) ?_
        refine LM.val (ov_assign rfl) ?_
        refine LM.nil ?_
        refine QM.sub (e' := [(2, _), (3, _), (4, _), (6, _), (11, _)]) ⟨rfl, rfl, rfl, rfl, rfl, trivial⟩ ?_
        refine QM.then ?_
        first | refine wpM.condXD (t := 11) rfl (fun h4 => ?_) (fun h4 => ?_) | refine wpM.condXB (t := 11) rfl (fun h4 => ?_) (fun h4 => ?_)
        ·
          refine wpM.skip ?_
          refine QM.then ?_
          refine wpM.condT rfl ?_
          refine wpM.seq ?_
          refine wpM.toAltO (b2) [.cells #[.int .i64 0, .int .i64 0] 114 (0, 0), .cells #[.int .i64 (0), .int .i64 (7)] 114 (0, 0)] (by first | exact .head _ | (simp; done)) (fun hMc => ?_)
          refine wpM.draw [(0, 0), (1, 1), (2, 2), (3, 3)] (by kernel_rfl) (by kernel_rfl) ?_
          refine LD.val rfl rfl (ov_build (cs := #[_, _]) rfl (by first | rfl | kernel_rfl)) ?_
          first | refine LD.rd rfl rfl (om_ldW Tryd.isAgg114 Tryd.sizeOf114 rfl rfl) ?_ | refine LD.rd rfl rfl (om_ldA Tryd.isAgg114 Tryd.sizeOf114 rfl (vs := [_, _]) rfl ⟨rfl, rfl, trivial⟩) ?_
          refine LD.stAltO [.cells #[.int .i64 (0), .int .i64 (7)] 114 (0, 0)] rfl rfl Tryd.sizeOf114 rfl rfl rfl (by decide) (by simp) (by simp only [List.forall_mem_cons, List.not_mem_nil, false_implies, implies_true, and_true]; exact ⟨⟨_, _, rfl, by decide, .head _⟩, ⟨_, _, rfl, by decide, .head _⟩⟩) (fun hlt => absurd hlt (by omega)) hMc ?_
          refine LD.tail rfl rfl ?_
          refine LM.ofAltO ?_
          first | refine LM.stW Tryd.sizeOf114 rfl rfl rfl rfl (by first | rfl | decide | (simp; done)) (fun hlt => absurd hlt (by omega)) ?_ | refine LM.st Tryd.sizeOf114 rfl rfl rfl (by first | decide | exact Nat.le_of_ble_eq_true rfl | (simp; done) | (simp; omega)) rfl (fun hlt => absurd hlt (by omega)) ?_
          refine LM.nil ?_
          refine QM.qn ?_
          refine QM.sub (e' := [(2, _), (3, _)]) ⟨rfl, rfl, trivial⟩ ?_
          refine QM.then ?_
          refine wpM.ret ?_
          refine QM.block_ret ?_
          refine QM.then_ret ?_
          refine QM.leaveCs (ds := ([])) (.inl rfl) [.cell 2 114, .cell 3 114] Tryd.results72 hd_nil (rc_w rfl Tryd.isAgg114 Tryd.sizeOf114 rfl (rc_w rfl Tryd.isAgg114 Tryd.sizeOf114 rfl rc_nil)) ?_
          intro w' hm' hc'
          -- leaf 4: h1- h2- h3- h4+
          refine ⟨?_, hc'⟩; simp only [resV, loA, hiA, loB, hiB]; try ((repeat' split) <;> first | rfl | omega)
        ·
          refine wpM.seq ?_
          refine wpM.region ?_
          refine LM.val (ov_eql rfl rfl) ?_
          refine LM.val (ov_assign rfl) ?_
          refine LM.nil ?_
          refine QM.sub (e' := [(2, _), (3, _), (4, _), (6, _), (11, _)]) ⟨rfl, rfl, rfl, rfl, rfl, trivial⟩ ?_
          refine QM.then ?_
          first | refine wpM.condXD (t := 11) rfl (fun h5 => ?_) (fun h5 => ?_) | refine wpM.condXB (t := 11) rfl (fun h5 => ?_) (fun h5 => ?_)
          ·
            refine wpM.skip ?_
            refine QM.then ?_
            refine wpM.condT rfl ?_
            refine wpM.seq ?_
            refine wpM.toAltO (b2) [.cells #[.int .i64 0, .int .i64 0] 114 (0, 0), .cells #[.int .i64 (0), .int .i64 (7)] 114 (0, 0)] (by first | exact .head _ | (simp; done)) (fun hMc => ?_)
            refine wpM.draw [(0, 0), (1, 1), (2, 2), (3, 3)] (by kernel_rfl) (by kernel_rfl) ?_
            refine LD.val rfl rfl (ov_build (cs := #[_, _]) rfl (by first | rfl | kernel_rfl)) ?_
            first | refine LD.rd rfl rfl (om_ldW Tryd.isAgg114 Tryd.sizeOf114 rfl rfl) ?_ | refine LD.rd rfl rfl (om_ldA Tryd.isAgg114 Tryd.sizeOf114 rfl (vs := [_, _]) rfl ⟨rfl, rfl, trivial⟩) ?_
            refine LD.stAltO [.cells #[.int .i64 (0), .int .i64 (7)] 114 (0, 0)] rfl rfl Tryd.sizeOf114 rfl rfl rfl (by decide) (by simp) (by simp only [List.forall_mem_cons, List.not_mem_nil, false_implies, implies_true, and_true]; exact ⟨⟨_, _, rfl, by decide, .head _⟩, ⟨_, _, rfl, by decide, .head _⟩⟩) (fun hlt => absurd hlt (by omega)) hMc ?_
            refine LD.tail rfl rfl ?_
            refine LM.ofAltO ?_
            first | refine LM.stW Tryd.sizeOf114 rfl rfl rfl rfl (by first | rfl | decide | (simp; done)) (fun hlt => absurd hlt (by omega)) ?_ | refine LM.st Tryd.sizeOf114 rfl rfl rfl (by first | decide | exact Nat.le_of_ble_eq_true rfl | (simp; done) | (simp; omega)) rfl (fun hlt => absurd hlt (by omega)) ?_
            refine LM.nil ?_
            refine QM.qn ?_
            refine QM.sub (e' := [(2, _), (3, _)]) ⟨rfl, rfl, trivial⟩ ?_
            refine QM.then ?_
            refine wpM.ret ?_
            refine QM.block_ret ?_
            refine QM.then_ret ?_
            refine QM.leaveCs (ds := ([])) (.inl rfl) [.cell 2 114, .cell 3 114] Tryd.results72 hd_nil (rc_w rfl Tryd.isAgg114 Tryd.sizeOf114 rfl (rc_w rfl Tryd.isAgg114 Tryd.sizeOf114 rfl rc_nil)) ?_
            intro w' hm' hc'
            -- leaf 5: h1- h2- h3- h4- h5+
            refine ⟨?_, hc'⟩; simp only [resV, loA, hiA, loB, hiB]; try ((repeat' split) <;> first | rfl | omega)
          ·
            refine wpM.region ?_
            refine LM.val (ov_eql rfl rfl) ?_
            refine LM.val (ov_assign rfl) ?_
            refine LM.nil ?_
            refine QM.sub (e' := [(2, _), (3, _), (4, _), (6, _), (11, _)]) ⟨rfl, rfl, rfl, rfl, rfl, trivial⟩ ?_
            refine QM.then ?_
            first | refine wpM.condD rfl (fun h6 => ?_) (fun h6 => ?_) | refine wpM.condB rfl (fun h6 => ?_) (fun h6 => ?_)
            ·
              refine wpM.seq ?_
              refine wpM.toAltO (b2) [.cells #[.int .i64 0, .int .i64 0] 114 (0, 0), .cells #[.int .i64 (0), .int .i64 (7)] 114 (0, 0)] (by first | exact .head _ | (simp; done)) (fun hMc => ?_)
              refine wpM.draw [(0, 0), (1, 1), (2, 2), (3, 3)] (by kernel_rfl) (by kernel_rfl) ?_
              refine LD.val rfl rfl (ov_build (cs := #[_, _]) rfl (by first | rfl | kernel_rfl)) ?_
              first | refine LD.rd rfl rfl (om_ldW Tryd.isAgg114 Tryd.sizeOf114 rfl rfl) ?_ | refine LD.rd rfl rfl (om_ldA Tryd.isAgg114 Tryd.sizeOf114 rfl (vs := [_, _]) rfl ⟨rfl, rfl, trivial⟩) ?_
              refine LD.stAltO [.cells #[.int .i64 (0), .int .i64 (7)] 114 (0, 0)] rfl rfl Tryd.sizeOf114 rfl rfl rfl (by decide) (by simp) (by simp only [List.forall_mem_cons, List.not_mem_nil, false_implies, implies_true, and_true]; exact ⟨⟨_, _, rfl, by decide, .head _⟩, ⟨_, _, rfl, by decide, .head _⟩⟩) (fun hlt => absurd hlt (by omega)) hMc ?_
              refine LD.tail rfl rfl ?_
              refine LM.ofAltO ?_
              first | refine LM.stW Tryd.sizeOf114 rfl rfl rfl rfl (by first | rfl | decide | (simp; done)) (fun hlt => absurd hlt (by omega)) ?_ | refine LM.st Tryd.sizeOf114 rfl rfl rfl (by first | decide | exact Nat.le_of_ble_eq_true rfl | (simp; done) | (simp; omega)) rfl (fun hlt => absurd hlt (by omega)) ?_
              refine LM.nil ?_
              refine QM.qn ?_
              refine QM.sub (e' := [(2, _), (3, _)]) ⟨rfl, rfl, trivial⟩ ?_
              refine QM.then ?_
              refine wpM.ret ?_
              refine QM.block_ret ?_
              refine QM.then_ret ?_
              refine QM.leaveCs (ds := ([])) (.inl rfl) [.cell 2 114, .cell 3 114] Tryd.results72 hd_nil (rc_w rfl Tryd.isAgg114 Tryd.sizeOf114 rfl (rc_w rfl Tryd.isAgg114 Tryd.sizeOf114 rfl rc_nil)) ?_
              intro w' hm' hc'
              -- leaf 6: h1- h2- h3- h4- h5- h6+
              refine ⟨?_, hc'⟩; simp only [resV, loA, hiA, loB, hiB]; try ((repeat' split) <;> first | rfl | omega)
            ·
              refine wpM.seq ?_
              refine wpM.region ?_
              refine LM.val (ov_eql rfl rfl) ?_
              refine LM.val (ov_assign rfl) ?_
              refine LM.nil ?_
              refine QM.sub (e' := [(2, _), (3, _), (4, _), (6, _), (19, _)]) ⟨rfl, rfl, rfl, rfl, rfl, trivial⟩ ?_
              refine QM.then ?_
              first | refine wpM.condD rfl (fun h7 => ?_) (fun h7 => ?_) | refine wpM.condB rfl (fun h7 => ?_) (fun h7 => ?_)
              ·
                refine wpM.seq ?_
                refine wpM.region ?_
                refine LM.val (ov_build (cs := #[_, _]) rfl (by first | rfl | kernel_rfl)) ?_
                refine LM.val (ov_build (cs := #[_, _]) rfl (by first | rfl | kernel_rfl)) ?_
                first | refine LM.stW Tryd.sizeOf114 rfl rfl rfl rfl (by first | rfl | decide | (simp; done)) (fun hlt => absurd hlt (by omega)) ?_ | refine LM.st Tryd.sizeOf114 rfl rfl rfl (by first | decide | exact Nat.le_of_ble_eq_true rfl | (simp; done) | (simp; omega)) rfl (fun hlt => absurd hlt (by omega)) ?_
                first | refine LM.stW Tryd.sizeOf114 rfl rfl rfl rfl (by first | rfl | decide | (simp; done)) (fun hlt => absurd hlt (by omega)) ?_ | refine LM.st Tryd.sizeOf114 rfl rfl rfl (by first | decide | exact Nat.le_of_ble_eq_true rfl | (simp; done) | (simp; omega)) rfl (fun hlt => absurd hlt (by omega)) ?_
                refine LM.nil ?_
                refine QM.sub (e' := [(2, _), (3, _)]) ⟨rfl, rfl, trivial⟩ ?_
                refine QM.then ?_
                refine wpM.ret ?_
                refine QM.block_ret ?_
                refine QM.then_ret ?_
                refine QM.leaveCs (ds := ([])) (.inl rfl) [.cell 2 114, .cell 3 114] Tryd.results72 hd_nil (rc_w rfl Tryd.isAgg114 Tryd.sizeOf114 rfl (rc_w rfl Tryd.isAgg114 Tryd.sizeOf114 rfl rc_nil)) ?_
                intro w' hm' hc'
                -- leaf 7: h1- h2- h3- h4- h5- h6- h7+
                refine ⟨?_, hc'⟩; simp only [resV, loA, hiA, loB, hiB]; try ((repeat' split) <;> first | rfl | omega)
              ·
                refine wpM.seq ?_
                refine wpM.region ?_
                refine LM.val (ov_eql rfl rfl) ?_
                refine LM.val (ov_assign rfl) ?_
                refine LM.nil ?_
                refine QM.sub (e' := [(2, _), (3, _), (4, _), (6, _), (23, _)]) ⟨rfl, rfl, rfl, rfl, rfl, trivial⟩ ?_
                refine QM.then ?_
                first | refine wpM.condD rfl (fun h8 => ?_) (fun h8 => ?_) | refine wpM.condB rfl (fun h8 => ?_) (fun h8 => ?_)
                ·
                  refine wpM.seq ?_
                  refine wpM.toAltO (b2) [.cells #[.int .i64 0, .int .i64 0] 114 (0, 0), .cells #[.int .i64 (1), .int .i64 (64)] 114 (0, 0)] (by first | exact .head _ | (simp; done)) (fun hMc => ?_)
                  refine wpM.draw [(0, 0), (1, 1), (2, 2), (3, 3)] (by kernel_rfl) (by kernel_rfl) ?_
                  refine LD.val rfl rfl (ov_build (cs := #[_, _]) rfl (by first | rfl | kernel_rfl)) ?_
                  first | refine LD.rd rfl rfl (om_ldW Tryd.isAgg114 Tryd.sizeOf114 rfl rfl) ?_ | refine LD.rd rfl rfl (om_ldA Tryd.isAgg114 Tryd.sizeOf114 rfl (vs := [_, _]) rfl ⟨rfl, rfl, trivial⟩) ?_
                  refine LD.stAltO [.cells #[.int .i64 (1), .int .i64 (64)] 114 (0, 0)] rfl rfl Tryd.sizeOf114 rfl rfl rfl (by decide) (by simp) (by simp only [List.forall_mem_cons, List.not_mem_nil, false_implies, implies_true, and_true]; exact ⟨⟨_, _, rfl, by decide, .head _⟩, ⟨_, _, rfl, by decide, .head _⟩⟩) (fun hlt => absurd hlt (by omega)) hMc ?_
                  refine LD.tail rfl rfl ?_
                  refine LM.ofAltO ?_
                  first | refine LM.stW Tryd.sizeOf114 rfl rfl rfl rfl (by first | rfl | decide | (simp; done)) (fun hlt => absurd hlt (by omega)) ?_ | refine LM.st Tryd.sizeOf114 rfl rfl rfl (by first | decide | exact Nat.le_of_ble_eq_true rfl | (simp; done) | (simp; omega)) rfl (fun hlt => absurd hlt (by omega)) ?_
                  refine LM.nil ?_
                  refine QM.qn ?_
                  refine QM.sub (e' := [(2, _), (3, _)]) ⟨rfl, rfl, trivial⟩ ?_
                  refine QM.then ?_
                  refine wpM.ret ?_
                  refine QM.block_ret ?_
                  refine QM.then_ret ?_
                  refine QM.leaveCs (ds := ([])) (.inl rfl) [.cell 2 114, .cell 3 114] Tryd.results72 hd_nil (rc_w rfl Tryd.isAgg114 Tryd.sizeOf114 rfl (rc_w rfl Tryd.isAgg114 Tryd.sizeOf114 rfl rc_nil)) ?_
                  intro w' hm' hc'
                  -- leaf 8: h1- h2- h3- h4- h5- h6- h7- h8+
                  refine ⟨?_, hc'⟩; simp only [resV, loA, hiA, loB, hiB]; try ((repeat' split) <;> first | rfl | omega)
                ·
                  refine wpM.seq ?_
                  refine wpM.region ?_
                  refine LM.val (ov_eql rfl rfl) ?_
                  refine LM.val (ov_assign rfl) ?_
                  refine LM.nil ?_
                  refine QM.sub (e' := [(2, _), (3, _), (4, _), (27, _)]) ⟨rfl, rfl, rfl, rfl, trivial⟩ ?_
                  refine QM.then ?_
                  first | refine wpM.condD rfl (fun h9 => ?_) (fun h9 => ?_) | refine wpM.condB rfl (fun h9 => ?_) (fun h9 => ?_)
                  ·
                    refine wpM.seq ?_
                    refine wpM.toAltO (b2) [.cells #[.int .i64 0, .int .i64 0] 114 (0, 0), .cells #[.int .i64 (1), .int .i64 (16)] 114 (0, 0)] (by first | exact .head _ | (simp; done)) (fun hMc => ?_)
                    refine wpM.draw [(0, 0), (1, 1), (2, 2), (3, 3)] (by kernel_rfl) (by kernel_rfl) ?_
                    refine LD.val rfl rfl (ov_build (cs := #[_, _]) rfl (by first | rfl | kernel_rfl)) ?_
                    first | refine LD.rd rfl rfl (om_ldW Tryd.isAgg114 Tryd.sizeOf114 rfl rfl) ?_ | refine LD.rd rfl rfl (om_ldA Tryd.isAgg114 Tryd.sizeOf114 rfl (vs := [_, _]) rfl ⟨rfl, rfl, trivial⟩) ?_
                    refine LD.stAltO [.cells #[.int .i64 (1), .int .i64 (16)] 114 (0, 0)] rfl rfl Tryd.sizeOf114 rfl rfl rfl (by decide) (by simp) (by simp only [List.forall_mem_cons, List.not_mem_nil, false_implies, implies_true, and_true]; exact ⟨⟨_, _, rfl, by decide, .head _⟩, ⟨_, _, rfl, by decide, .head _⟩⟩) (fun hlt => absurd hlt (by omega)) hMc ?_
                    refine LD.tail rfl rfl ?_
                    refine LM.ofAltO ?_
                    first | refine LM.stW Tryd.sizeOf114 rfl rfl rfl rfl (by first | rfl | decide | (simp; done)) (fun hlt => absurd hlt (by omega)) ?_ | refine LM.st Tryd.sizeOf114 rfl rfl rfl (by first | decide | exact Nat.le_of_ble_eq_true rfl | (simp; done) | (simp; omega)) rfl (fun hlt => absurd hlt (by omega)) ?_
                    refine LM.nil ?_
                    refine QM.qn ?_
                    refine QM.sub (e' := [(2, _), (3, _)]) ⟨rfl, rfl, trivial⟩ ?_
                    refine QM.then ?_
                    refine wpM.ret ?_
                    refine QM.block_ret ?_
                    refine QM.then_ret ?_
                    refine QM.leaveCs (ds := ([])) (.inl rfl) [.cell 2 114, .cell 3 114] Tryd.results72 hd_nil (rc_w rfl Tryd.isAgg114 Tryd.sizeOf114 rfl (rc_w rfl Tryd.isAgg114 Tryd.sizeOf114 rfl rc_nil)) ?_
                    intro w' hm' hc'
                    -- leaf 9: h1- h2- h3- h4- h5- h6- h7- h8- h9+
                    refine ⟨?_, hc'⟩; simp only [resV, loA, hiA, loB, hiB]; try ((repeat' split) <;> first | rfl | omega)
                  ·
                    refine wpM.skip ?_
                    refine QM.block_normal ?_
                    refine QM.then ?_
                    refine wpM.seq ?_
                    refine wpM.toAltO (b2) [.cells #[.int .i64 0, .int .i64 0] 114 (0, 0), .cells #[.int .i64 (-1), .int .i64 (-1)] 114 (0, 0)] (by first | exact .head _ | (simp; done)) (fun hMc => ?_)
                    refine wpM.draw [(0, 1), (1, 1), (2, 2), (3, 3)] (by kernel_rfl) (by kernel_rfl) ?_
                    first | refine LD.rd rfl rfl (om_ldW Tryd.isAgg114 Tryd.sizeOf114 rfl rfl) ?_ | refine LD.rd rfl rfl (om_ldA Tryd.isAgg114 Tryd.sizeOf114 rfl (vs := [_, _]) rfl ⟨rfl, rfl, trivial⟩) ?_
                    first | refine LD.rd rfl rfl (om_ldW Tryd.isAgg114 Tryd.sizeOf114 rfl rfl) ?_ | refine LD.rd rfl rfl (om_ldA Tryd.isAgg114 Tryd.sizeOf114 rfl (vs := [_, _]) rfl ⟨rfl, rfl, trivial⟩) ?_
                    refine LD.stAltO [.cells #[.int .i64 (-1), .int .i64 (-1)] 114 (0, 0)] rfl rfl Tryd.sizeOf114 rfl rfl rfl (by decide) (by simp) (by simp only [List.forall_mem_cons, List.not_mem_nil, false_implies, implies_true, and_true]; exact ⟨⟨_, _, rfl, by decide, .head _⟩, ⟨_, _, rfl, by decide, .head _⟩⟩) (fun hlt => absurd hlt (by omega)) hMc ?_
                    refine LD.tail rfl rfl ?_
                    refine LM.ofAltO ?_
                    first | refine LM.stW Tryd.sizeOf114 rfl rfl rfl rfl (by first | rfl | decide | (simp; done)) (fun hlt => absurd hlt (by omega)) ?_ | refine LM.st Tryd.sizeOf114 rfl rfl rfl (by first | decide | exact Nat.le_of_ble_eq_true rfl | (simp; done) | (simp; omega)) rfl (fun hlt => absurd hlt (by omega)) ?_
                    refine LM.nil ?_
                    refine QM.qn ?_
                    refine QM.sub (e' := [(2, _), (3, _)]) ⟨rfl, rfl, trivial⟩ ?_
                    refine QM.then ?_
                    refine wpM.ret ?_
                    refine QM.leaveCs (ds := ([])) (.inl rfl) [.cell 2 114, .cell 3 114] Tryd.results72 hd_nil (rc_w rfl Tryd.isAgg114 Tryd.sizeOf114 rfl (rc_w rfl Tryd.isAgg114 Tryd.sizeOf114 rfl rc_nil)) ?_
                    intro w' hm' hc'
                    -- leaf 10: h1- h2- h3- h4- h5- h6- h7- h8- h9-
                    refine ⟨?_, hc'⟩; simp only [resV, loA, hiA, loB, hiB]; try ((repeat' split) <;> first | rfl | omega)

set_option maxRecDepth 100000 in
theorem has_spec (lo hi n : Int) (w : World) : Ret Tryd.prog 91 #[.agg #[.int .i64 lo, .int .i64 hi], .int .i64 n] w (fun v w' => v = .bool (hasB lo hi n) ∧ Ext w w') := by
  refine Ret.enterM (l := [.agg #[.int .i64 lo, .int .i64 hi], .int .i64 n]) Tryd.func91 rfl Tryd.ntmps91 rfl ([]) (no) (Mem.nil w) ?_
  refine wpM.seq ?_
  refine wpM.region ?_
  refine LM.box rfl rfl (fun b2 hb2 => ?_)
  refine LM.val (ov_assign rfl) ?_
  refine LM.nil ?_
  refine QM.sub (e' := [(1, _), (2, _)]) ⟨rfl, rfl, trivial⟩ ?_
  refine QM.then ?_
  refine wpM.seq ?_
  refine wpM.seq ?_
  refine wpM.region ?_
  refine LM.val (ov_field Tryd.underlying114 rfl Tryd.sizeOf3 rfl (k := 0) rfl rfl) ?_
  first | refine LM.rd (om_ld Tryd.isAgg3 rfl rfl) ?_
  refine LM.val (ov_eql rfl rfl) ?_
  refine LM.nil ?_
  refine QM.sub (e' := [(1, _), (2, _), (7, _)]) ⟨rfl, rfl, rfl, trivial⟩ ?_
  refine QM.then ?_
  first | refine wpM.condD rfl (fun h1 => ?_) (fun h1 => ?_) | refine wpM.condB rfl (fun h1 => ?_) (fun h1 => ?_)
  ·
    refine wpM.seq ?_
    refine wpM.region ?_
    refine LM.val (ov_move rfl) ?_
    refine LM.val (ov_eql rfl rfl) ?_
    refine LM.val (ov_assign rfl) ?_
    refine LM.nil ?_
    refine QM.sub (e' := [(4, _)]) ⟨rfl, trivial⟩ ?_
    refine QM.then ?_
    refine wpM.ret ?_
    refine QM.then_ret ?_
    refine QM.leave (.inl rfl) [.tmp 4] Tryd.results91 rfl ?_
    intro w' hm' hc' hg'
    -- leaf 1: h1+
    refine ⟨?_, hc'⟩; simp only [resV, hasB]; simp only [h1, decide_true, decide_false, Bool.true_and, Bool.false_and, Bool.and_true, Bool.and_false, Bool.not_true, Bool.not_false, Bool.true_or, Bool.false_or, Bool.or_true, Bool.or_false, ne_eq, not_true_eq_false, not_false_eq_true, Bool.and_self, if_true, if_false, reduceIte]
  ·
    refine wpM.skip ?_
    refine QM.then ?_
    refine wpM.seq ?_
    refine wpM.region ?_
    refine LM.val (ov_move rfl) ?_
    refine LM.val (ov_field Tryd.underlying114 rfl Tryd.sizeOf3 rfl (k := 0) rfl rfl) ?_
    first | refine LM.rd (om_ld Tryd.isAgg3 rfl rfl) ?_
    refine LM.val (ov_geq rfl rfl) ?_
    refine LM.val (ov_move rfl) ?_
    first | refine LM.splitD (t := 14) rfl (fun h2 => ?_) (fun h2 => ?_) | refine LM.splitB (t := 14) rfl (fun h2 => ?_) (fun h2 => ?_)
    ·
      refine LM.strip (t := 14) rfl rfl rfl ?_
      refine LM.val (ov_move rfl) ?_
      refine LM.strip (t := 14) rfl rfl rfl ?_
      refine LM.val (ov_field Tryd.underlying114 rfl Tryd.sizeOf3 rfl (k := 1) rfl rfl) ?_
      refine LM.strip (t := 14) rfl rfl rfl ?_
      first | refine LM.rd (om_ld Tryd.isAgg3 rfl rfl) ?_
      refine LM.strip (t := 14) rfl rfl rfl ?_
      refine LM.val (ov_leq rfl rfl) ?_
      refine LM.val (ov_pickT rfl rfl) ?_
      refine LM.val (ov_assign rfl) ?_
      refine LM.nil ?_
      refine QM.sub (e' := [(4, _)]) ⟨rfl, trivial⟩ ?_
      refine QM.then ?_
      refine wpM.ret ?_
      refine QM.leave (.inl rfl) [.tmp 4] Tryd.results91 rfl ?_
      intro w' hm' hc' hg'
      -- leaf 2: h1- h2+
      refine ⟨?_, hc'⟩; simp only [resV, hasB]; simp only [h1, h2, decide_true, decide_false, Bool.true_and, Bool.false_and, Bool.and_true, Bool.and_false, Bool.not_true, Bool.not_false, Bool.true_or, Bool.false_or, Bool.or_true, Bool.or_false, ne_eq, not_true_eq_false, not_false_eq_true, Bool.and_self, if_true, if_false, reduceIte]
    ·
      refine LM.drop (t := 14) rfl rfl rfl ?_
      refine LM.drop (t := 14) rfl rfl rfl ?_
      refine LM.drop (t := 14) rfl rfl rfl ?_
      refine LM.drop (t := 14) rfl rfl rfl ?_
      refine LM.val (ov_pickF rfl rfl) ?_
      refine LM.val (ov_assign rfl) ?_
      refine LM.nil ?_
      refine QM.sub (e' := [(4, _)]) ⟨rfl, trivial⟩ ?_
      refine QM.then ?_
      refine wpM.ret ?_
      refine QM.leave (.inl rfl) [.tmp 4] Tryd.results91 rfl ?_
      intro w' hm' hc' hg'
      -- leaf 3: h1- h2-
      refine ⟨?_, hc'⟩; simp only [resV, hasB]; simp only [h1, h2, decide_true, decide_false, Bool.true_and, Bool.false_and, Bool.and_true, Bool.and_false, Bool.not_true, Bool.not_false, Bool.true_or, Bool.false_or, Bool.or_true, Bool.or_false, ne_eq, not_true_eq_false, not_false_eq_true, Bool.and_self, if_true, if_false, reduceIte]

set_option maxRecDepth 100000 in
theorem right_spec (o : COp) (w : World) : Ret Tryd.prog 67 #[.agg (fO o).toArray] w (fun v w' => v = .bool (rightB o) ∧ Ext w w') := by
  refine Ret.enterM (l := [.agg (fO o).toArray]) Tryd.func67 rfl Tryd.ntmps67 rfl ([]) (no) (Mem.nil w) ?_
  refine wpM.seq ?_
  refine wpM.region ?_
  refine LM.box rfl rfl (fun b1 hb1 => ?_)
  refine LM.val (ov_assign rfl) ?_
  refine LM.nil ?_
  refine QM.sub (e' := [(1, _)]) ⟨rfl, trivial⟩ ?_
  refine QM.then ?_
  refine wpM.seq ?_
  refine wpM.region ?_
  refine LM.val (ov_field Tryd.underlying69 rfl Tryd.sizeOf3 rfl (k := 0) rfl rfl) ?_
  first | refine LM.rd (om_ld Tryd.isAgg3 rfl rfl) ?_
  refine LM.callE (oc_call (enters_fn Tryd.func72 (by kernel_rfl) rfl) rfl) (fun w hm hc hg => spans_spec o.k w) ?_
  refine LM.val (ov_move rfl) ?_
  refine LM.val (ov_extract rfl rfl) ?_
  refine LM.val (ov_extract rfl rfl) ?_
  refine LM.alloc Tryd.zeroValue114 rfl (fun b3 hb3 => ?_)
  refine LM.alloc Tryd.zeroValue114 rfl (fun b4 hb4 => ?_)
  first | refine LM.stW Tryd.sizeOf114 rfl rfl rfl rfl (by first | rfl | decide | (simp; done)) (fun hlt => absurd hlt (by omega)) ?_ | refine LM.st Tryd.sizeOf114 rfl rfl rfl (by first | decide | exact Nat.le_of_ble_eq_true rfl | (simp; done) | (simp; omega)) rfl (fun hlt => absurd hlt (by omega)) ?_
  first | refine LM.stW Tryd.sizeOf114 rfl rfl rfl rfl (by first | rfl | decide | (simp; done)) (fun hlt => absurd hlt (by omega)) ?_ | refine LM.st Tryd.sizeOf114 rfl rfl rfl (by first | decide | exact Nat.le_of_ble_eq_true rfl | (simp; done) | (simp; omega)) rfl (fun hlt => absurd hlt (by omega)) ?_
  refine LM.nil ?_
  refine QM.sub (e' := [(1, _), (3, _), (4, _)]) ⟨rfl, rfl, rfl, trivial⟩ ?_
  refine QM.then ?_
  refine wpM.seq ?_
  refine wpM.region ?_
  refine LM.val (ov_field Tryd.underlying69 rfl Tryd.sizeOf3 rfl (k := 0) rfl rfl) ?_
  first | refine LM.rd (om_ld Tryd.isAgg3 rfl rfl) ?_
  refine LM.callE (oc_call (enters_fn Tryd.func31 (by kernel_rfl) rfl) rfl) (fun w hm hc hg => name_spec o.k w) ?_
  refine LM.val (ov_sneqL rfl rfl) ?_
  refine LM.val (ov_move rfl) ?_
  first | refine LM.splitD (t := 15) rfl (fun h1 => ?_) (fun h1 => ?_) | refine LM.splitB (t := 15) rfl (fun h1 => ?_) (fun h1 => ?_)
  ·
    refine LM.strip (t := 15) rfl rfl rfl ?_
    first | refine LM.rd (om_ldW Tryd.isAgg114 Tryd.sizeOf114 rfl rfl) ?_ | refine LM.rd (om_ldA Tryd.isAgg114 Tryd.sizeOf114 rfl (vs := [_, _]) rfl ⟨rfl, rfl, trivial⟩) ?_
    refine LM.strip (t := 15) rfl rfl rfl ?_
    refine LM.val (ov_field Tryd.underlying69 rfl Tryd.sizeOf3 rfl (k := 1) rfl rfl) ?_
    refine LM.strip (t := 15) rfl rfl rfl ?_
    first | refine LM.rd (om_ld Tryd.isAgg3 rfl rfl) ?_
    refine LM.strip (t := 15) rfl rfl rfl ?_
    refine LM.callE (oc_call (enters_fn Tryd.func91 (by kernel_rfl) rfl) rfl) (fun w hm hc hg => has_spec _ _ _ w) ?_
    refine LM.val (ov_pickT rfl rfl) ?_
    refine LM.val (ov_move rfl) ?_
    first | refine LM.splitD (t := 21) rfl (fun h2 => ?_) (fun h2 => ?_) | refine LM.splitB (t := 21) rfl (fun h2 => ?_) (fun h2 => ?_)
    ·
      refine LM.strip (t := 21) rfl rfl rfl ?_
      first | refine LM.rd (om_ldW Tryd.isAgg114 Tryd.sizeOf114 rfl rfl) ?_ | refine LM.rd (om_ldA Tryd.isAgg114 Tryd.sizeOf114 rfl (vs := [_, _]) rfl ⟨rfl, rfl, trivial⟩) ?_
      refine LM.strip (t := 21) rfl rfl rfl ?_
      refine LM.val (ov_field Tryd.underlying69 rfl Tryd.sizeOf3 rfl (k := 2) rfl rfl) ?_
      refine LM.strip (t := 21) rfl rfl rfl ?_
      first | refine LM.rd (om_ld Tryd.isAgg3 rfl rfl) ?_
      refine LM.strip (t := 21) rfl rfl rfl ?_
      refine LM.callE (oc_call (enters_fn Tryd.func91 (by kernel_rfl) rfl) rfl) (fun w hm hc hg => has_spec _ _ _ w) ?_
      refine LM.val (ov_pickT rfl rfl) ?_
      refine LM.val (ov_assign rfl) ?_
      refine LM.nil ?_
      refine QM.sub (e' := [(2, _)]) ⟨rfl, trivial⟩ ?_
      refine QM.then ?_
      refine wpM.ret ?_
      refine QM.leave (.inl rfl) [.tmp 2] Tryd.results67 rfl ?_
      intro w' hm' hc' hg'
      -- leaf 1: h1+ h2+
      refine ⟨?_, hc'⟩; have hk := nmT_empty o.k; simp only [resV, rightB, ← hk]; simp only [h1, h2, decide_true, decide_false, Bool.true_and, Bool.false_and, Bool.and_true, Bool.and_false, Bool.not_true, Bool.not_false, Bool.true_or, Bool.false_or, Bool.or_true, Bool.or_false, ne_eq, not_true_eq_false, not_false_eq_true, Bool.and_self]
    ·
      refine LM.drop (t := 21) rfl rfl rfl ?_
      refine LM.drop (t := 21) rfl rfl rfl ?_
      refine LM.drop (t := 21) rfl rfl rfl ?_
      refine LM.drop (t := 21) rfl rfl rfl ?_
      refine LM.val (ov_pickF rfl rfl) ?_
      refine LM.val (ov_assign rfl) ?_
      refine LM.nil ?_
      refine QM.sub (e' := [(2, _)]) ⟨rfl, trivial⟩ ?_
      refine QM.then ?_
      refine wpM.ret ?_
      refine QM.leave (.inl rfl) [.tmp 2] Tryd.results67 rfl ?_
      intro w' hm' hc' hg'
      -- leaf 2: h1+ h2-
      refine ⟨?_, hc'⟩; have hk := nmT_empty o.k; simp only [resV, rightB, ← hk]; simp only [h1, h2, decide_true, decide_false, Bool.true_and, Bool.false_and, Bool.and_true, Bool.and_false, Bool.not_true, Bool.not_false, Bool.true_or, Bool.false_or, Bool.or_true, Bool.or_false, ne_eq, not_true_eq_false, not_false_eq_true, Bool.and_self]
  ·
    refine LM.drop (t := 15) rfl rfl rfl ?_
    refine LM.drop (t := 15) rfl rfl rfl ?_
    refine LM.drop (t := 15) rfl rfl rfl ?_
    refine LM.drop (t := 15) rfl rfl rfl ?_
    refine LM.val (ov_pickF rfl rfl) ?_
    refine LM.val (ov_move rfl) ?_
    refine LM.drop (t := 21) rfl rfl rfl ?_
    refine LM.drop (t := 21) rfl rfl rfl ?_
    refine LM.drop (t := 21) rfl rfl rfl ?_
    refine LM.drop (t := 21) rfl rfl rfl ?_
    refine LM.val (ov_pickF rfl rfl) ?_
    refine LM.val (ov_assign rfl) ?_
    refine LM.nil ?_
    refine QM.sub (e' := [(2, _)]) ⟨rfl, trivial⟩ ?_
    refine QM.then ?_
    refine wpM.ret ?_
    refine QM.leave (.inl rfl) [.tmp 2] Tryd.results67 rfl ?_
    intro w' hm' hc' hg'
    -- leaf 3: h1-
    refine ⟨?_, hc'⟩; have hk := nmT_empty o.k; simp only [resV, rightB, ← hk]; simp only [h1, decide_true, decide_false, Bool.true_and, Bool.false_and, Bool.and_true, Bool.and_false, Bool.not_true, Bool.not_false, Bool.true_or, Bool.false_or, Bool.or_true, Bool.or_false, ne_eq, not_true_eq_false, not_false_eq_true, Bool.and_self]

set_option maxRecDepth 100000 in
theorem may1_spec (o : COp) (w : World) : Ret Tryd.prog 66 #[.agg (fO o).toArray] w (fun v w' => v = .bool (!rightB o) ∧ Ext w w') := by
  refine Ret.enterM (l := [.agg (fO o).toArray]) Tryd.func66 rfl Tryd.ntmps66 rfl ([]) (no) (Mem.nil w) ?_
  refine wpM.seq ?_
  refine wpM.region ?_
  refine LM.box rfl rfl (fun b1 hb1 => ?_)
  refine LM.val (ov_assign rfl) ?_
  refine LM.nil ?_
  refine QM.sub (e' := [(1, _)]) ⟨rfl, trivial⟩ ?_
  refine QM.then ?_
  refine wpM.seq ?_
  refine wpM.region ?_
  first | refine LM.rd (om_ldW Tryd.isAgg69 Tryd.sizeOf69 rfl rfl) ?_ | refine LM.rd (om_ldA Tryd.isAgg69 Tryd.sizeOf69 rfl (vs := [_, _, _]) rfl ⟨rfl, rfl, rfl, trivial⟩) ?_
  refine LM.callE (oc_call (enters_fn Tryd.func67 (by kernel_rfl) rfl) rfl) (fun w hm hc hg => right_spec o w) ?_
  first | refine LM.val (ov_notD rfl) ?_ | refine LM.val (ov_not rfl) ?_
  refine LM.val (ov_assign rfl) ?_
  refine LM.nil ?_
  refine QM.sub (e' := [(2, _)]) ⟨rfl, trivial⟩ ?_
  refine QM.then ?_
  refine wpM.ret ?_
  refine QM.leave (.inl rfl) [.tmp 2] Tryd.results66 rfl ?_
  intro w' hm' hc' hg'
  -- leaf 1: 
  first | exact ⟨rfl, hc'⟩ | (exfalso; first | omega | (simp at *; done) | (simp_all; done))

set_option maxRecDepth 100000 in
theorem ixf_may {xs : List COp} {ad : Option Addr} {n cap : Nat} (w : World) (hn : n = xs.length) (hl : Sr fO 3 xs (.slice ad n cap) w) (hx : xs.length ≤ 1000000) : Ret Tryd.prog 90 #[.slice ad n cap, .func (.func 66) #[] #[]] w (fun v w' => v = .int .i64 (fixI (fun o => !rightB o) xs) ∧ Ext w w') := by
  refine Ret.enterM (l := [.slice ad n cap, .func (.func 66) #[] #[]]) Tryd.func90 rfl Tryd.ntmps90 rfl ([]) (no) (Mem.nil w) ?_
  refine wpM.seq ?_
  refine wpM.region ?_
  refine LM.val (ov_assign rfl) ?_
  refine LM.nil ?_
  refine QM.sub (e' := [(0, _), (1, _)]) ⟨rfl, rfl, trivial⟩ ?_
  refine QM.then ?_
  refine wpM.seq ?_
  refine wpM.seq ?_
  refine wpM.region ?_
  refine LM.val (ov_move rfl) ?_
  refine LM.val (ov_len Tryd.underlying51 rfl) ?_
  refine LM.val (ov_move rfl) ?_
  refine LM.nil ?_
  refine QM.sub (e' := [(0, _), (1, _), (7, _), (8, _)]) ⟨rfl, rfl, rfl, rfl, trivial⟩ ?_
  refine QM.then ?_
  refine wpM.block ?_
  refine wpM.loopK0 (α := Nat) (fun i => [(8, .int .i64 (i : Nat))]) [(0, _), (1, _), (7, _)] (fun i => []) (fun i => i ≤ xs.length ∧ (xs.take i).any (fun o => !rightB o) = false) (fun i => xs.length - i) (0) ⟨(by first | rfl | exact lk rfl (by congr 1; omega) | exact lk rfl (by simp)), rfl, rfl, rfl, trivial⟩ (by (repeat' (first | exact SubM.nil _ | refine SubM.cons rfl ?_ | refine SubM.app ?_))) ⟨Nat.zero_le _, rfl⟩ ?_
  rintro i ⟨hi, ha⟩
  change wpM _ _ _ _ _ _ _ ([]) _ _ _
  refine wpM.seq ?_
  refine wpM.region ?_
  refine LM.val (ov_lss rfl rfl) ?_
  refine LM.nil ?_
  refine QM.sub (e' := [(0, _), (1, _), (7, _), (8, _), (9, _)]) ⟨rfl, rfl, rfl, rfl, rfl, trivial⟩ ?_
  refine QM.then ?_
  refine wpM.seq ?_
  first | refine wpM.condD rfl (fun h1 => ?_) (fun h1 => ?_) | refine wpM.condB rfl (fun h1 => ?_) (fun h1 => ?_)
  ·
    refine wpM.skip ?_
    refine QM.then ?_
    refine wpM.seq ?_
    refine wpM.block ?_
    refine wpM.seq ?_
    refine wpM.region ?_
    refine LM.val (ov_move rfl) ?_
    refine LM.val (ov_assign rfl) ?_
    refine LM.nil ?_
    refine QM.sub (e' := [(0, _), (1, _), (5, _), (7, _), (8, _)]) ⟨rfl, rfl, rfl, rfl, rfl, trivial⟩ ?_
    refine QM.then ?_
    refine wpM.seq ?_
    refine wpM.region ?_
    refine LM.val (ov_move rfl) ?_
    refine LM.val (ov_move rfl) ?_
    refine LM.val (ov_move rfl) ?_
    first | refine LM.val (ov_idxSN (by first | exact Sr.spt (by assumption) | exact Sl.spt (by assumption)) Tryd.underlying51 Tryd.sizeOf69 rfl rfl (by omega)) ?_ | refine LM.val (ov_idxS (by first | exact Sr.spt (by assumption) | exact Sl.spt (by assumption)) Tryd.underlying51 Tryd.sizeOf69 rfl rfl (by omega)) ?_ | refine LM.val (ov_idx Tryd.underlying51 Tryd.sizeOf69 rfl rfl (by omega)) ?_
    first | refine LM.rd (om_slA (by assumption) (by intro _; rfl) Tryd.isAgg69 Tryd.sizeOf69 rfl (by exact getq default (by first | omega | (simp only [List.length_set, List.length_append, List.length_cons, List.length_nil]; omega)))) ?_ | refine LM.rdC (om_srEA (by assumption) (by intro _; rfl) Tryd.isAgg69 Tryd.sizeOf69 rfl (by exact getq default (by first | omega | (simp only [List.length_set, List.length_append, List.length_cons, List.length_nil]; omega))) id) ?_ | refine LM.rd (om_ldW Tryd.isAgg69 Tryd.sizeOf69 rfl rfl) ?_ | refine LM.rd (om_ldA Tryd.isAgg69 Tryd.sizeOf69 rfl (vs := [_, _, _]) rfl ⟨rfl, rfl, rfl, trivial⟩) ?_
    refine LM.callE (oc_callV rfl (enters_fn Tryd.func66 (by kernel_rfl) rfl) rfl) (fun w hm hc hg => may1_spec _ w) ?_
    refine LM.nil ?_
    refine QM.sub (e' := [(0, _), (1, _), (5, _), (7, _), (8, _), (16, _)]) ⟨rfl, rfl, rfl, rfl, rfl, rfl, trivial⟩ ?_
    refine QM.then ?_
    first | refine wpM.condD rfl (fun h2 => ?_) (fun h2 => ?_) | refine wpM.condB rfl (fun h2 => ?_) (fun h2 => ?_)
    ·
      refine wpM.seq ?_
      refine wpM.region ?_
      refine LM.val (ov_move rfl) ?_
      refine LM.val (ov_assign rfl) ?_
      refine LM.nil ?_
      refine QM.sub (e' := [(4, _)]) ⟨rfl, trivial⟩ ?_
      refine QM.then ?_
      refine wpM.ret ?_
      refine QM.block_ret ?_
      refine QM.then_ret ?_
      refine QM.then_ret ?_
      refine QM.block_ret ?_
      refine QM.then_ret ?_
      refine QM.leave (.inl rfl) [.tmp 4] Tryd.results90 rfl ?_
      intro w' hm' hc' hg'
      -- leaf 1: h1+ h2+
      exact ⟨by show Value.int .i64 _ = _; rw [fix_hit default ha (by omega) (by simpa using h2)], hc'⟩
    ·
      refine wpM.skip ?_
      refine QM.block_normal ?_
      refine QM.then ?_
      refine wpM.region ?_
      refine LM.val (ov_add64 rfl rfl (by omega)) ?_
      refine LM.val (ov_move rfl) ?_
      refine LM.nil ?_
      refine QM.sub (e' := [(0, _), (1, _), (7, _), (8, _)]) ⟨rfl, rfl, rfl, rfl, trivial⟩ ?_
      -- again1: h1+ h2-
      refine QM.againK (i + 1) ⟨(by first | rfl | exact lk rfl (by congr 1; omega) | exact lk rfl (by simp)), rfl, rfl, rfl, trivial⟩ (by (repeat' (first | exact SubM.nil _ | refine SubM.cons rfl ?_ | refine SubM.app ?_))) (fun _ h => h) ?_ ?_
      · exact ⟨by omega, by rw [any_snoc default (by omega), ha, Bool.false_or]; simpa using h2⟩
      · first | omega | (dsimp only; omega)
  ·
    refine wpM.exit ?_
    refine QM.then_exit ?_
    refine QM.then_exit ?_
    refine QM.block_hit ?_
    refine QM.then ?_
    refine wpM.seq ?_
    refine wpM.region ?_
    refine LM.val (ov_assign rfl) ?_
    refine LM.nil ?_
    refine QM.sub (e' := [(4, _)]) ⟨rfl, trivial⟩ ?_
    refine QM.then ?_
    refine wpM.ret ?_
    refine QM.leave (.inl rfl) [.tmp 4] Tryd.results90 rfl ?_
    intro w' hm' hc' hg'
    -- leaf 2: h1-
    have hil : i = xs.length := (by omega); subst hil; rw [List.take_length] at ha; exact ⟨by show Value.int .i64 _ = _; rw [fix_miss ha], hc'⟩

set_option maxRecDepth 100000 in
theorem cof_may {xs : List COp} {ad : Option Addr} {n cap : Nat} (w : World) (hn : n = xs.length) (hl : Sr fO 3 xs (.slice ad n cap) w) (hx : xs.length ≤ 1000000) : Ret Tryd.prog 65 #[.slice ad n cap, .func (.func 66) #[] #[]] w (fun v w' => v = .bool (xs.any (fun o => !rightB o)) ∧ Ext w w') := by
  refine Ret.enterM (l := [.slice ad n cap, .func (.func 66) #[] #[]]) Tryd.func65 rfl Tryd.ntmps65 rfl ([]) (no) (Mem.nil w) ?_
  refine wpM.seq ?_
  refine wpM.region ?_
  refine LM.val (ov_assign rfl) ?_
  refine LM.nil ?_
  refine QM.sub (e' := [(0, _), (1, _)]) ⟨rfl, rfl, trivial⟩ ?_
  refine QM.then ?_
  refine wpM.seq ?_
  refine wpM.region ?_
  refine LM.val (ov_move rfl) ?_
  refine LM.val (ov_move rfl) ?_
  refine LM.callE (oc_call (enters_fn Tryd.func90 (by kernel_rfl) rfl) rfl) (fun w hm hc hg => ixf_may w hn (hl.ext hc) hx) ?_
  refine LM.val (ov_geq rfl rfl) ?_
  refine LM.val (ov_assign rfl) ?_
  refine LM.nil ?_
  refine QM.sub (e' := [(4, _)]) ⟨rfl, trivial⟩ ?_
  refine QM.then ?_
  refine wpM.ret ?_
  refine QM.leave (.inl rfl) [.tmp 4] Tryd.results65 rfl ?_
  intro w' hm' hc' hg'
  -- leaf 1: 
  exact ⟨by show Value.bool _ = _; rw [← fix_pos], hc'⟩

set_option maxRecDepth 100000 in
theorem pmay_spec {xs : List COp} {fv : Bool} {ad : Option Addr} {n cap : Nat} (w : World) (hn : n = xs.length) (hl : Sr fO 3 xs (.slice ad n cap) w) : Ret Tryd.prog 29 #[pV fv ad n cap] w (fun v w' => v = .bool (mayB xs) ∧ Ext w w') := by
  refine Ret.enterM (l := [pV fv ad n cap]) Tryd.func29 rfl Tryd.ntmps29 rfl ([]) (no) (Mem.nil w) ?_
  refine wpM.seq ?_
  refine wpM.region ?_
  refine LM.box rfl rfl (fun b1 hb1 => ?_)
  refine LM.val (ov_assign rfl) ?_
  refine LM.nil ?_
  refine QM.sub (e' := [(1, _)]) ⟨rfl, trivial⟩ ?_
  refine QM.then ?_
  refine wpM.seq ?_
  refine wpM.region ?_
  refine LM.val (ov_field Tryd.underlying53 rfl Tryd.sizeOf51 rfl (k := 1) rfl rfl) ?_
  first | refine LM.rd (om_ld Tryd.isAgg51 rfl rfl) ?_
  refine LM.val (ov_len Tryd.underlying51 rfl) ?_
  refine LM.val (ov_gtr rfl rfl) ?_
  refine LM.val (ov_move rfl) ?_
  first | refine LM.splitD (t := 7) rfl (fun h1 => ?_) (fun h1 => ?_) | refine LM.splitB (t := 7) rfl (fun h1 => ?_) (fun h1 => ?_)
  ·
    refine LM.strip (t := 7) rfl rfl rfl ?_
    refine LM.val (ov_field Tryd.underlying53 rfl Tryd.sizeOf51 rfl (k := 1) rfl rfl) ?_
    refine LM.strip (t := 7) rfl rfl rfl ?_
    first | refine LM.rd (om_ld Tryd.isAgg51 rfl rfl) ?_
    refine LM.strip (t := 7) rfl rfl rfl ?_
    refine LM.val (ov_len Tryd.underlying51 rfl) ?_
    refine LM.strip (t := 7) rfl rfl rfl ?_
    refine LM.val (ov_leq rfl rfl) ?_
    refine LM.val (ov_pickT rfl rfl) ?_
    refine LM.val (ov_move rfl) ?_
    first | refine LM.splitD (t := 13) rfl (fun h2 => ?_) (fun h2 => ?_) | refine LM.splitB (t := 13) rfl (fun h2 => ?_) (fun h2 => ?_)
    ·
      refine LM.strip (t := 13) rfl rfl rfl ?_
      refine LM.val (ov_field Tryd.underlying53 rfl Tryd.sizeOf51 rfl (k := 1) rfl rfl) ?_
      refine LM.strip (t := 13) rfl rfl rfl ?_
      first | refine LM.rd (om_ld Tryd.isAgg51 rfl rfl) ?_
      refine LM.strip (t := 13) rfl rfl rfl ?_
      refine LM.callE (oc_call (enters_fn Tryd.func65 (by kernel_rfl) rfl) rfl) (fun w hm hc hg => cof_may w hn (hl.ext hc) (by omega)) ?_
      refine LM.strip (t := 13) rfl rfl rfl ?_
      first | refine LM.val (ov_notD rfl) ?_ | refine LM.val (ov_not rfl) ?_
      refine LM.val (ov_pickT rfl rfl) ?_
      refine LM.val (ov_assign rfl) ?_
      refine LM.nil ?_
      refine QM.sub (e' := [(2, _)]) ⟨rfl, trivial⟩ ?_
      refine QM.then ?_
      refine wpM.ret ?_
      refine QM.leave (.inl rfl) [.tmp 2] Tryd.results29 rfl ?_
      intro w' hm' hc' hg'
      -- leaf 1: h1+ h2+
      refine ⟨?_, hc'⟩; simp only [resV, mayB]; congr 1; first | (rw [decide_eq_false (show ¬ 0 < xs.length by omega)]; rfl) | (rw [decide_eq_false (show ¬ xs.length ≤ 12 by omega)]; simp; done) | (rw [decide_eq_true (show 0 < xs.length by omega), decide_eq_true (show xs.length ≤ 12 by omega), all_any]; rfl)
    ·
      refine LM.drop (t := 13) rfl rfl rfl ?_
      refine LM.drop (t := 13) rfl rfl rfl ?_
      refine LM.drop (t := 13) rfl rfl rfl ?_
      refine LM.drop (t := 13) rfl rfl rfl ?_
      refine LM.val (ov_pickF rfl rfl) ?_
      refine LM.val (ov_assign rfl) ?_
      refine LM.nil ?_
      refine QM.sub (e' := [(2, _)]) ⟨rfl, trivial⟩ ?_
      refine QM.then ?_
      refine wpM.ret ?_
      refine QM.leave (.inl rfl) [.tmp 2] Tryd.results29 rfl ?_
      intro w' hm' hc' hg'
      -- leaf 2: h1+ h2-
      refine ⟨?_, hc'⟩; simp only [resV, mayB]; congr 1; first | (rw [decide_eq_false (show ¬ 0 < xs.length by omega)]; rfl) | (rw [decide_eq_false (show ¬ xs.length ≤ 12 by omega)]; simp; done) | (rw [decide_eq_true (show 0 < xs.length by omega), decide_eq_true (show xs.length ≤ 12 by omega), all_any]; rfl)
  ·
    refine LM.drop (t := 7) rfl rfl rfl ?_
    refine LM.drop (t := 7) rfl rfl rfl ?_
    refine LM.drop (t := 7) rfl rfl rfl ?_
    refine LM.drop (t := 7) rfl rfl rfl ?_
    refine LM.val (ov_pickF rfl rfl) ?_
    refine LM.val (ov_move rfl) ?_
    refine LM.drop (t := 13) rfl rfl rfl ?_
    refine LM.drop (t := 13) rfl rfl rfl ?_
    refine LM.drop (t := 13) rfl rfl rfl ?_
    refine LM.drop (t := 13) rfl rfl rfl ?_
    refine LM.val (ov_pickF rfl rfl) ?_
    refine LM.val (ov_assign rfl) ?_
    refine LM.nil ?_
    refine QM.sub (e' := [(2, _)]) ⟨rfl, trivial⟩ ?_
    refine QM.then ?_
    refine wpM.ret ?_
    refine QM.leave (.inl rfl) [.tmp 2] Tryd.results29 rfl ?_
    intro w' hm' hc' hg'
    -- leaf 3: h1-
    refine ⟨?_, hc'⟩; simp only [resV, mayB]; congr 1; first | (rw [decide_eq_false (show ¬ 0 < xs.length by omega)]; rfl) | (rw [decide_eq_false (show ¬ xs.length ≤ 12 by omega)]; simp; done) | (rw [decide_eq_true (show 0 < xs.length by omega), decide_eq_true (show xs.length ≤ 12 by omega), all_any]; rfl)

set_option maxRecDepth 100000 in
theorem limits_spec (k : Int) (w : World) : Ret Tryd.prog 64 #[.int .i64 k] w (fun v w' => v = .tuple #[.int .i64 (loA k), .int .i64 (hiA k)] ∧ Ext w w') := by
  refine Ret.enterM (l := [.int .i64 k]) Tryd.func64 rfl Tryd.ntmps64 rfl ([]) (no) (Mem.nil w) ?_
  refine wpM.seq ?_
  refine wpM.region ?_
  refine LM.val (ov_assign rfl) ?_
  refine LM.val (ov_assign rfl) ?_
  refine LM.nil ?_
  refine QM.sub (e' := [(0, _)]) ⟨rfl, trivial⟩ ?_
  refine QM.then ?_
  refine wpM.seq ?_
  refine wpM.seq ?_
  refine wpM.region ?_
  refine LM.val (ov_move rfl) ?_
  refine LM.val (ov_eql rfl rfl) ?_
  refine LM.nil ?_
  refine QM.sub (e' := [(0, _), (5, _)]) ⟨rfl, rfl, trivial⟩ ?_
  refine QM.then ?_
  first | refine wpM.condD rfl (fun h1 => ?_) (fun h1 => ?_) | refine wpM.condB rfl (fun h1 => ?_) (fun h1 => ?_)
  ·
    refine wpM.seq ?_
    refine wpM.region ?_
    refine LM.val (ov_assign rfl) ?_
    refine LM.val (ov_assign rfl) ?_
    refine LM.nil ?_
    refine QM.sub (e' := [(2, _), (3, _)]) ⟨rfl, rfl, trivial⟩ ?_
    refine QM.then ?_
    refine wpM.ret ?_
    refine QM.then_ret ?_
    refine QM.leave (.inl rfl) [.tmp 2, .tmp 3] Tryd.results64 rfl ?_
    intro w' hm' hc' hg'
    -- leaf 1: h1+
    refine ⟨?_, hc'⟩; simp only [resV, loA, hiA]; try ((repeat' split) <;> first | rfl | omega)
  ·
    refine wpM.skip ?_
    refine QM.then ?_
    refine wpM.seq ?_
    refine wpM.seq ?_
    refine wpM.region ?_
    refine LM.val (ov_move rfl) ?_
    refine LM.val (ov_geq rfl rfl) ?_
    refine LM.val (ov_move rfl) ?_
    first | refine LM.splitD (t := 8) rfl (fun h2 => ?_) (fun h2 => ?_) | refine LM.splitB (t := 8) rfl (fun h2 => ?_) (fun h2 => ?_)
    ·
      refine LM.strip (t := 8) rfl rfl rfl ?_
      refine LM.val (ov_move rfl) ?_
      refine LM.strip (t := 8) rfl rfl rfl ?_
      refine LM.val (ov_leq rfl rfl) ?_
      refine LM.val (ov_pickT rfl rfl) ?_
      refine LM.val (ov_move rfl) ?_
      first | refine LM.splitD (t := 12) rfl (fun h3 => ?_) (fun h3 => ?_) | refine LM.splitB (t := 12) rfl (fun h3 => ?_) (fun h3 => ?_)
      ·
        refine LM.drop (t := 12) rfl rfl rfl ?_
        refine LM.drop (t := 12) rfl rfl rfl ?_
        refine LM.val (ov_pickT rfl rfl) ?_
        refine LM.nil ?_
        refine QM.sub (e' := [(0, _), (15, _)]) ⟨rfl, rfl, trivial⟩ ?_
        refine QM.then ?_
        refine wpM.condT rfl ?_
        refine wpM.seq ?_
        refine wpM.region ?_
        refine LM.val (ov_assign rfl) ?_
        refine LM.val (ov_assign rfl) ?_
        refine LM.nil ?_
        refine QM.sub (e' := [(2, _), (3, _)]) ⟨rfl, rfl, trivial⟩ ?_
        refine QM.then ?_
        refine wpM.ret ?_
        refine QM.then_ret ?_
        refine QM.leave (.inl rfl) [.tmp 2, .tmp 3] Tryd.results64 rfl ?_
        intro w' hm' hc' hg'
        -- leaf 2: h1- h2+ h3+
        refine ⟨?_, hc'⟩; simp only [resV, loA, hiA]; try ((repeat' split) <;> first | rfl | omega)
      ·
        refine LM.strip (t := 12) rfl rfl rfl ?_
        refine LM.val (ov_move rfl) ?_
        refine LM.strip (t := 12) rfl rfl rfl ?_
        refine LM.val (ov_eql rfl rfl) ?_
        refine LM.val (ov_pickF rfl rfl) ?_
        refine LM.nil ?_
        refine QM.sub (e' := [(0, _), (15, _)]) ⟨rfl, rfl, trivial⟩ ?_
        refine QM.then ?_
        first | refine wpM.condD rfl (fun h4 => ?_) (fun h4 => ?_) | refine wpM.condB rfl (fun h4 => ?_) (fun h4 => ?_)
        ·
          refine wpM.seq ?_
          refine wpM.region ?_
          refine LM.val (ov_assign rfl) ?_
          refine LM.val (ov_assign rfl) ?_
          refine LM.nil ?_
          refine QM.sub (e' := [(2, _), (3, _)]) ⟨rfl, rfl, trivial⟩ ?_
          refine QM.then ?_
          refine wpM.ret ?_
          refine QM.then_ret ?_
          refine QM.leave (.inl rfl) [.tmp 2, .tmp 3] Tryd.results64 rfl ?_
          intro w' hm' hc' hg'
          -- leaf 3: h1- h2+ h3- h4+
          refine ⟨?_, hc'⟩; simp only [resV, loA, hiA]; try ((repeat' split) <;> first | rfl | omega)
        ·
          refine wpM.skip ?_
          refine QM.then ?_
          refine wpM.seq ?_
          refine wpM.seq ?_
          refine wpM.region ?_
          refine LM.val (ov_move rfl) ?_
          refine LM.val (ov_eql rfl rfl) ?_
          refine LM.nil ?_
          refine QM.sub (e' := [(0, _), (17, _)]) ⟨rfl, rfl, trivial⟩ ?_
          refine QM.then ?_
          first | refine wpM.condD rfl (fun h5 => ?_) (fun h5 => ?_) | refine wpM.condB rfl (fun h5 => ?_) (fun h5 => ?_)
          ·
            refine wpM.seq ?_
            refine wpM.region ?_
            refine LM.val (ov_assign rfl) ?_
            refine LM.val (ov_assign rfl) ?_
            refine LM.nil ?_
            refine QM.sub (e' := [(2, _), (3, _)]) ⟨rfl, rfl, trivial⟩ ?_
            refine QM.then ?_
            refine wpM.ret ?_
            refine QM.then_ret ?_
            refine QM.leave (.inl rfl) [.tmp 2, .tmp 3] Tryd.results64 rfl ?_
            intro w' hm' hc' hg'
            -- leaf 4: h1- h2+ h3- h4- h5+
            refine ⟨?_, hc'⟩; simp only [resV, loA, hiA]; try ((repeat' split) <;> first | rfl | omega)
          ·
            refine wpM.skip ?_
            refine QM.then ?_
            refine wpM.seq ?_
            refine wpM.seq ?_
            refine wpM.region ?_
            refine LM.val (ov_move rfl) ?_
            refine LM.val (ov_eql rfl rfl) ?_
            refine LM.nil ?_
            refine QM.sub (e' := [(19, _)]) ⟨rfl, trivial⟩ ?_
            refine QM.then ?_
            first | refine wpM.condD rfl (fun h6 => ?_) (fun h6 => ?_) | refine wpM.condB rfl (fun h6 => ?_) (fun h6 => ?_)
            ·
              refine wpM.seq ?_
              refine wpM.region ?_
              refine LM.val (ov_assign rfl) ?_
              refine LM.val (ov_assign rfl) ?_
              refine LM.nil ?_
              refine QM.sub (e' := [(2, _), (3, _)]) ⟨rfl, rfl, trivial⟩ ?_
              refine QM.then ?_
              refine wpM.ret ?_
              refine QM.then_ret ?_
              refine QM.leave (.inl rfl) [.tmp 2, .tmp 3] Tryd.results64 rfl ?_
              intro w' hm' hc' hg'
              -- leaf 5: h1- h2+ h3- h4- h5- h6+
              refine ⟨?_, hc'⟩; simp only [resV, loA, hiA]; try ((repeat' split) <;> first | rfl | omega)
            ·
              refine wpM.skip ?_
              refine QM.then ?_
              refine wpM.seq ?_
              refine wpM.region ?_
              refine LM.val (ov_assign rfl) ?_
              refine LM.val (ov_assign rfl) ?_
              refine LM.nil ?_
              refine QM.sub (e' := [(2, _), (3, _)]) ⟨rfl, rfl, trivial⟩ ?_
              refine QM.then ?_
              refine wpM.ret ?_
              refine QM.leave (.inl rfl) [.tmp 2, .tmp 3] Tryd.results64 rfl ?_
              intro w' hm' hc' hg'
              -- leaf 6: h1- h2+ h3- h4- h5- h6-
              refine ⟨?_, hc'⟩; simp only [resV, loA, hiA]; try ((repeat' split) <;> first | rfl | omega)
    ·
      refine LM.drop (t := 8) rfl rfl rfl ?_
      refine LM.drop (t := 8) rfl rfl rfl ?_
      refine LM.val (ov_pickF rfl rfl) ?_
      refine LM.val (ov_move rfl) ?_
      refine LM.strip (t := 12) rfl rfl rfl ?_
      refine LM.val (ov_move rfl) ?_
      refine LM.strip (t := 12) rfl rfl rfl ?_
      refine LM.val (ov_eql rfl rfl) ?_
      refine LM.val (ov_pickF rfl rfl) ?_
      refine LM.nil ?_
      refine QM.sub (e' := [(0, _), (15, _)]) ⟨rfl, rfl, trivial⟩ ?_
      refine QM.then ?_
      first | refine wpM.condD rfl (fun h7 => ?_) (fun h7 => ?_) | refine wpM.condB rfl (fun h7 => ?_) (fun h7 => ?_)
      ·
        refine wpM.seq ?_
        refine wpM.region ?_
        refine LM.val (ov_assign rfl) ?_
        refine LM.val (ov_assign rfl) ?_
        refine LM.nil ?_
        refine QM.sub (e' := [(2, _), (3, _)]) ⟨rfl, rfl, trivial⟩ ?_
        refine QM.then ?_
        refine wpM.ret ?_
        refine QM.then_ret ?_
        refine QM.leave (.inl rfl) [.tmp 2, .tmp 3] Tryd.results64 rfl ?_
        intro w' hm' hc' hg'
        -- leaf 7: h1- h2- h7+
        refine ⟨?_, hc'⟩; simp only [resV, loA, hiA]; try ((repeat' split) <;> first | rfl | omega)
      ·
        refine wpM.skip ?_
        refine QM.then ?_
        refine wpM.seq ?_
        refine wpM.seq ?_
        refine wpM.region ?_
        refine LM.val (ov_move rfl) ?_
        refine LM.val (ov_eql rfl rfl) ?_
        refine LM.nil ?_
        refine QM.sub (e' := [(0, _), (17, _)]) ⟨rfl, rfl, trivial⟩ ?_
        refine QM.then ?_
        first | refine wpM.condD rfl (fun h8 => ?_) (fun h8 => ?_) | refine wpM.condB rfl (fun h8 => ?_) (fun h8 => ?_)
        ·
          refine wpM.seq ?_
          refine wpM.region ?_
          refine LM.val (ov_assign rfl) ?_
          refine LM.val (ov_assign rfl) ?_
          refine LM.nil ?_
          refine QM.sub (e' := [(2, _), (3, _)]) ⟨rfl, rfl, trivial⟩ ?_
          refine QM.then ?_
          refine wpM.ret ?_
          refine QM.then_ret ?_
          refine QM.leave (.inl rfl) [.tmp 2, .tmp 3] Tryd.results64 rfl ?_
          intro w' hm' hc' hg'
          -- leaf 8: h1- h2- h7- h8+
          refine ⟨?_, hc'⟩; simp only [resV, loA, hiA]; try ((repeat' split) <;> first | rfl | omega)
        ·
          refine wpM.skip ?_
          refine QM.then ?_
          refine wpM.seq ?_
          refine wpM.seq ?_
          refine wpM.region ?_
          refine LM.val (ov_move rfl) ?_
          refine LM.val (ov_eql rfl rfl) ?_
          refine LM.nil ?_
          refine QM.sub (e' := [(19, _)]) ⟨rfl, trivial⟩ ?_
          refine QM.then ?_
          first | refine wpM.condD rfl (fun h9 => ?_) (fun h9 => ?_) | refine wpM.condB rfl (fun h9 => ?_) (fun h9 => ?_)
          ·
            refine wpM.seq ?_
            refine wpM.region ?_
            refine LM.val (ov_assign rfl) ?_
            refine LM.val (ov_assign rfl) ?_
            refine LM.nil ?_
            refine QM.sub (e' := [(2, _), (3, _)]) ⟨rfl, rfl, trivial⟩ ?_
            refine QM.then ?_
            refine wpM.ret ?_
            refine QM.then_ret ?_
            refine QM.leave (.inl rfl) [.tmp 2, .tmp 3] Tryd.results64 rfl ?_
            intro w' hm' hc' hg'
            -- leaf 9: h1- h2- h7- h8- h9+
            refine ⟨?_, hc'⟩; simp only [resV, loA, hiA]; try ((repeat' split) <;> first | rfl | omega)
          ·
            refine wpM.skip ?_
            refine QM.then ?_
            refine wpM.seq ?_
            refine wpM.region ?_
            refine LM.val (ov_assign rfl) ?_
            refine LM.val (ov_assign rfl) ?_
            refine LM.nil ?_
            refine QM.sub (e' := [(2, _), (3, _)]) ⟨rfl, rfl, trivial⟩ ?_
            refine QM.then ?_
            refine wpM.ret ?_
            refine QM.leave (.inl rfl) [.tmp 2, .tmp 3] Tryd.results64 rfl ?_
            intro w' hm' hc' hg'
            -- leaf 10: h1- h2- h7- h8- h9-
            refine ⟨?_, hc'⟩; simp only [resV, loA, hiA]; try ((repeat' split) <;> first | rfl | omega)

set_option maxRecDepth 100000 in
theorem one_spec (o : COp) (w : World) : Ret Tryd.prog 92 #[.agg (fO o).toArray] w (fun v w' => v = .bool (rightB o) ∧ Ext w w') := by
  refine Ret.enterM (l := [.agg (fO o).toArray]) Tryd.func92 rfl Tryd.ntmps92 rfl ([]) (no) (Mem.nil w) ?_
  refine wpM.seq ?_
  refine wpM.region ?_
  refine LM.box rfl rfl (fun b1 hb1 => ?_)
  refine LM.val (ov_assign rfl) ?_
  refine LM.nil ?_
  refine QM.sub (e' := [(1, _)]) ⟨rfl, trivial⟩ ?_
  refine QM.then ?_
  refine wpM.seq ?_
  refine wpM.seq ?_
  refine wpM.region ?_
  refine LM.val (ov_field Tryd.underlying69 rfl Tryd.sizeOf3 rfl (k := 0) rfl rfl) ?_
  first | refine LM.rd (om_ld Tryd.isAgg3 rfl rfl) ?_
  refine LM.callE (oc_call (enters_fn Tryd.func32 (by kernel_rfl) rfl) rfl) (fun w hm hc hg => rname_spec o.k w) ?_
  refine LM.val (ov_seqlL rfl rfl) ?_
  refine LM.nil ?_
  refine QM.sub (e' := [(1, _), (10, _)]) ⟨rfl, rfl, trivial⟩ ?_
  refine QM.then ?_
  first | refine wpM.condD rfl (fun h1 => ?_) (fun h1 => ?_) | refine wpM.condB rfl (fun h1 => ?_) (fun h1 => ?_)
  ·
    refine wpM.seq ?_
    refine wpM.region ?_
    refine LM.val (ov_assign rfl) ?_
    refine LM.nil ?_
    refine QM.sub (e' := [(2, _)]) ⟨rfl, trivial⟩ ?_
    refine QM.then ?_
    refine wpM.ret ?_
    refine QM.then_ret ?_
    refine QM.leave (.inl rfl) [.tmp 2] Tryd.results92 rfl ?_
    intro w' hm' hc' hg'
    -- leaf 1: h1+
    refine ⟨?_, hc'⟩; have hk : kindB o.k = false := (by rw [← nmT_empty, h1]; rfl); simp only [resV, rightB, hk, Bool.false_and]
  ·
    refine wpM.skip ?_
    refine QM.then ?_
    refine wpM.seq ?_
    refine wpM.region ?_
    refine LM.val (ov_field Tryd.underlying69 rfl Tryd.sizeOf3 rfl (k := 0) rfl rfl) ?_
    first | refine LM.rd (om_ld Tryd.isAgg3 rfl rfl) ?_
    refine LM.callE (oc_call (enters_fn Tryd.func64 (by kernel_rfl) rfl) rfl) (fun w hm hc hg => limits_spec o.k w) ?_
    refine LM.val (ov_move rfl) ?_
    refine LM.val (ov_extract rfl rfl) ?_
    refine LM.val (ov_extract rfl rfl) ?_
    refine LM.val (ov_assign rfl) ?_
    refine LM.val (ov_assign rfl) ?_
    refine LM.nil ?_
    refine QM.sub (e' := [(1, _), (3, _), (4, _)]) ⟨rfl, rfl, rfl, trivial⟩ ?_
    refine QM.then ?_
    refine wpM.seq ?_
    refine wpM.region ?_
    refine LM.val (ov_field Tryd.underlying69 rfl Tryd.sizeOf3 rfl (k := 1) rfl rfl) ?_
    first | refine LM.rd (om_ld Tryd.isAgg3 rfl rfl) ?_
    refine LM.val (ov_eql rfl rfl) ?_
    refine LM.val (ov_assign rfl) ?_
    refine LM.nil ?_
    refine QM.sub (e' := [(1, _), (3, _), (4, _), (5, _)]) ⟨rfl, rfl, rfl, rfl, trivial⟩ ?_
    refine QM.then ?_
    refine wpM.seq ?_
    refine wpM.seq ?_
    refine wpM.region ?_
    refine LM.val (ov_move rfl) ?_
    refine LM.val (ov_geq rfl rfl) ?_
    refine LM.nil ?_
    refine QM.sub (e' := [(1, _), (3, _), (4, _), (5, _), (21, _)]) ⟨rfl, rfl, rfl, rfl, rfl, trivial⟩ ?_
    refine QM.then ?_
    refine wpM.joinK (α := Bool) (fun b => [(5, .bool b)]) [(1, _)] (fun b => (b1, .cells (fO o).toArray 69 (0, 0)) :: []) (fun b => b = hasB (loA o.k) (hiA o.k) o.a) ⟨rfl, trivial⟩ ?_ ?_
    ·
      first | refine wpM.condD rfl (fun h2 => ?_) (fun h2 => ?_) | refine wpM.condB rfl (fun h2 => ?_) (fun h2 => ?_)
      ·
        refine wpM.region ?_
        refine LM.val (ov_field Tryd.underlying69 rfl Tryd.sizeOf3 rfl (k := 1) rfl rfl) ?_
        first | refine LM.rd (om_ld Tryd.isAgg3 rfl rfl) ?_
        refine LM.val (ov_move rfl) ?_
        refine LM.val (ov_geq rfl rfl) ?_
        refine LM.val (ov_move rfl) ?_
        first | refine LM.splitD (t := 26) rfl (fun h3 => ?_) (fun h3 => ?_) | refine LM.splitB (t := 26) rfl (fun h3 => ?_) (fun h3 => ?_)
        ·
          refine LM.strip (t := 26) rfl rfl rfl ?_
          refine LM.val (ov_field Tryd.underlying69 rfl Tryd.sizeOf3 rfl (k := 1) rfl rfl) ?_
          refine LM.strip (t := 26) rfl rfl rfl ?_
          first | refine LM.rd (om_ld Tryd.isAgg3 rfl rfl) ?_
          refine LM.strip (t := 26) rfl rfl rfl ?_
          refine LM.val (ov_move rfl) ?_
          refine LM.strip (t := 26) rfl rfl rfl ?_
          refine LM.val (ov_leq rfl rfl) ?_
          refine LM.val (ov_pickT rfl rfl) ?_
          refine LM.val (ov_assign rfl) ?_
          refine LM.nil ?_
          refine QM.sub (e' := [(1, _), (5, _)]) ⟨rfl, rfl, trivial⟩ ?_
          -- meet1: h1- h2+ h3+
          have hlc := loA_cases o.k
          refine QM.meetK (_) ⟨(by first | rfl | exact lk rfl (by congr 1; omega) | exact lk rfl (by simp)), rfl, trivial⟩ (by (repeat' (first | exact SubM.nil _ | refine SubM.cons rfl ?_ | refine SubM.app ?_))) ?_
          · first | (rw [hasB, if_pos (by omega)]; done) | (rw [hasB, if_neg (by omega), decide_eq_false (show ¬ loA o.k ≤ o.a by omega)]; rfl) | (rw [hasB, if_neg (by omega), decide_eq_true (show loA o.k ≤ o.a by omega)]; rfl)
        ·
          refine LM.drop (t := 26) rfl rfl rfl ?_
          refine LM.drop (t := 26) rfl rfl rfl ?_
          refine LM.drop (t := 26) rfl rfl rfl ?_
          refine LM.drop (t := 26) rfl rfl rfl ?_
          refine LM.val (ov_pickF rfl rfl) ?_
          refine LM.val (ov_assign rfl) ?_
          refine LM.nil ?_
          refine QM.sub (e' := [(1, _), (5, _)]) ⟨rfl, rfl, trivial⟩ ?_
          -- meet2: h1- h2+ h3-
          have hlc := loA_cases o.k
          refine QM.meetK (_) ⟨(by first | rfl | exact lk rfl (by congr 1; omega) | exact lk rfl (by simp)), rfl, trivial⟩ (by (repeat' (first | exact SubM.nil _ | refine SubM.cons rfl ?_ | refine SubM.app ?_))) ?_
          · first | (rw [hasB, if_pos (by omega)]; done) | (rw [hasB, if_neg (by omega), decide_eq_false (show ¬ loA o.k ≤ o.a by omega)]; rfl) | (rw [hasB, if_neg (by omega), decide_eq_true (show loA o.k ≤ o.a by omega)]; rfl)
      ·
        refine wpM.skip ?_
        -- meet3: h1- h2-
        have hlc := loA_cases o.k
        refine QM.meetK (_) ⟨(by first | rfl | exact lk rfl (by congr 1; omega) | exact lk rfl (by simp)), rfl, trivial⟩ (by (repeat' (first | exact SubM.nil _ | refine SubM.cons rfl ?_ | refine SubM.app ?_))) ?_
        · first | (rw [hasB, if_pos (by omega)]; done) | (rw [hasB, if_neg (by omega), decide_eq_false (show ¬ loA o.k ≤ o.a by omega)]; rfl) | (rw [hasB, if_neg (by omega), decide_eq_true (show loA o.k ≤ o.a by omega)]; rfl)
    ·
      rintro b hb1
      change QM _ _ _ _ _ ((b1, .cells (fO o).toArray 69 (0, 0)) :: []) _ _ _
      refine QM.then ?_
      refine wpM.seq ?_
      refine wpM.region ?_
      refine LM.val (ov_field Tryd.underlying69 rfl Tryd.sizeOf3 rfl (k := 2) rfl rfl) ?_
      first | refine LM.rd (om_ld Tryd.isAgg3 rfl rfl) ?_
      refine LM.val (ov_eql rfl rfl) ?_
      refine LM.val (ov_assign rfl) ?_
      refine LM.nil ?_
      refine QM.sub (e' := [(1, _), (5, _), (6, _)]) ⟨rfl, rfl, rfl, trivial⟩ ?_
      refine QM.then ?_
      refine wpM.seq ?_
      refine wpM.seq ?_
      refine wpM.region ?_
      refine LM.val (ov_field Tryd.underlying69 rfl Tryd.sizeOf3 rfl (k := 0) rfl rfl) ?_
      first | refine LM.rd (om_ld Tryd.isAgg3 rfl rfl) ?_
      refine LM.val (ov_eql rfl rfl) ?_
      refine LM.nil ?_
      refine QM.sub (e' := [(1, _), (5, _), (6, _), (37, _)]) ⟨rfl, rfl, rfl, rfl, trivial⟩ ?_
      refine QM.then ?_
      refine wpM.joinK (α := Bool) (fun b' => [(6, .bool b')]) [(5, _)] (fun b' => (b1, .cells (fO o).toArray 69 (0, 0)) :: []) (fun b' => b' = hasB (loB o.k) (hiB o.k) o.b) ⟨rfl, trivial⟩ ?_ ?_
      ·
        first | refine wpM.condD rfl (fun h4 => ?_) (fun h4 => ?_) | refine wpM.condB rfl (fun h4 => ?_) (fun h4 => ?_)
        ·
          refine wpM.region ?_
          refine LM.val (ov_field Tryd.underlying69 rfl Tryd.sizeOf3 rfl (k := 2) rfl rfl) ?_
          first | refine LM.rd (om_ld Tryd.isAgg3 rfl rfl) ?_
          refine LM.val (ov_geq rfl rfl) ?_
          refine LM.val (ov_move rfl) ?_
          first | refine LM.splitD (t := 41) rfl (fun h5 => ?_) (fun h5 => ?_) | refine LM.splitB (t := 41) rfl (fun h5 => ?_) (fun h5 => ?_)
          ·
            refine LM.strip (t := 41) rfl rfl rfl ?_
            refine LM.val (ov_field Tryd.underlying69 rfl Tryd.sizeOf3 rfl (k := 2) rfl rfl) ?_
            refine LM.strip (t := 41) rfl rfl rfl ?_
            first | refine LM.rd (om_ld Tryd.isAgg3 rfl rfl) ?_
            refine LM.strip (t := 41) rfl rfl rfl ?_
            refine LM.val (ov_leq rfl rfl) ?_
            refine LM.val (ov_pickT rfl rfl) ?_
            refine LM.val (ov_assign rfl) ?_
            refine LM.nil ?_
            refine QM.sub (e' := [(5, _), (6, _)]) ⟨rfl, rfl, trivial⟩ ?_
            -- meet1: h1- h4+ h5+
            refine QM.meetK (_) ⟨(by first | rfl | exact lk rfl (by congr 1; omega) | exact lk rfl (by simp)), rfl, trivial⟩ (by (repeat' (first | exact SubM.nil _ | refine SubM.cons rfl ?_ | refine SubM.app ?_))) ?_
            · first | (rw [hasBn (by assumption)]; done) | (rw [hasB5 (by assumption), decide_eq_false (show ¬ 1 ≤ o.b by omega)]; rfl) | (rw [hasB5 (by assumption), decide_eq_true (show 1 ≤ o.b by omega)]; rfl)
          ·
            refine LM.drop (t := 41) rfl rfl rfl ?_
            refine LM.drop (t := 41) rfl rfl rfl ?_
            refine LM.drop (t := 41) rfl rfl rfl ?_
            refine LM.val (ov_pickF rfl rfl) ?_
            refine LM.val (ov_assign rfl) ?_
            refine LM.nil ?_
            refine QM.sub (e' := [(5, _), (6, _)]) ⟨rfl, rfl, trivial⟩ ?_
            -- meet2: h1- h4+ h5-
            refine QM.meetK (_) ⟨(by first | rfl | exact lk rfl (by congr 1; omega) | exact lk rfl (by simp)), rfl, trivial⟩ (by (repeat' (first | exact SubM.nil _ | refine SubM.cons rfl ?_ | refine SubM.app ?_))) ?_
            · first | (rw [hasBn (by assumption)]; done) | (rw [hasB5 (by assumption), decide_eq_false (show ¬ 1 ≤ o.b by omega)]; rfl) | (rw [hasB5 (by assumption), decide_eq_true (show 1 ≤ o.b by omega)]; rfl)
        ·
          refine wpM.skip ?_
          -- meet3: h1- h4-
          refine QM.meetK (_) ⟨(by first | rfl | exact lk rfl (by congr 1; omega) | exact lk rfl (by simp)), rfl, trivial⟩ (by (repeat' (first | exact SubM.nil _ | refine SubM.cons rfl ?_ | refine SubM.app ?_))) ?_
          · first | (rw [hasBn (by assumption)]; done) | (rw [hasB5 (by assumption), decide_eq_false (show ¬ 1 ≤ o.b by omega)]; rfl) | (rw [hasB5 (by assumption), decide_eq_true (show 1 ≤ o.b by omega)]; rfl)
      ·
        rintro b' hb2
        change QM _ _ _ _ _ ((b1, .cells (fO o).toArray 69 (0, 0)) :: []) _ _ _
        refine QM.then ?_
        refine wpM.seq ?_
        refine wpM.region ?_
        refine LM.val (ov_move rfl) ?_
        refine LM.val (ov_move rfl) ?_
        first | refine LM.splitD (t := 47) rfl (fun h6 => ?_) (fun h6 => ?_) | refine LM.splitB (t := 47) rfl (fun h6 => ?_) (fun h6 => ?_)
        ·
          refine LM.strip (t := 47) rfl rfl rfl ?_
          refine LM.val (ov_move rfl) ?_
          refine LM.val (ov_pickT rfl rfl) ?_
          refine LM.val (ov_assign rfl) ?_
          refine LM.nil ?_
          refine QM.sub (e' := [(2, _)]) ⟨rfl, trivial⟩ ?_
          refine QM.then ?_
          refine wpM.ret ?_
          refine QM.leave (.inl rfl) [.tmp 2] Tryd.results92 rfl ?_
          intro w' hm' hc' hg'
          -- leaf 2: h1- h6+
          refine ⟨?_, hc'⟩; have hk : kindB o.k = true := (by rw [← nmT_empty]; exact decide_eq_true h1); simp only [resV, rightB, hk, Bool.true_and, ← hb1, ← hb2]; simp only [h1, h6, decide_true, decide_false, Bool.true_and, Bool.false_and, Bool.and_true, Bool.and_false, Bool.not_true, Bool.not_false, Bool.true_or, Bool.false_or, Bool.or_true, Bool.or_false, ne_eq, not_true_eq_false, not_false_eq_true, Bool.and_self]
        ·
          refine LM.drop (t := 47) rfl rfl rfl ?_
          refine LM.val (ov_pickF rfl rfl) ?_
          refine LM.val (ov_assign rfl) ?_
          refine LM.nil ?_
          refine QM.sub (e' := [(2, _)]) ⟨rfl, trivial⟩ ?_
          refine QM.then ?_
          refine wpM.ret ?_
          refine QM.leave (.inl rfl) [.tmp 2] Tryd.results92 rfl ?_
          intro w' hm' hc' hg'
          -- leaf 3: h1- h6-
          refine ⟨?_, hc'⟩; have hk : kindB o.k = true := (by rw [← nmT_empty]; exact decide_eq_true h1); simp only [resV, rightB, hk, Bool.true_and, ← hb1, ← hb2]; simp only [h1, h6, decide_true, decide_false, Bool.true_and, Bool.false_and, Bool.and_true, Bool.and_false, Bool.not_true, Bool.not_false, Bool.true_or, Bool.false_or, Bool.or_true, Bool.or_false, ne_eq, not_true_eq_false, not_false_eq_true, Bool.and_self]

set_option maxRecDepth 100000 in
theorem rmay_spec {xs : List COp} {fv : Bool} {ad : Option Addr} {n cap : Nat} (w : World) (hn : n = xs.length) (hl : Sr fO 3 xs (.slice ad n cap) w) : Ret Tryd.prog 70 #[pV fv ad n cap] w (fun v w' => v = .bool (mayB xs) ∧ Ext w w') := by
  refine Ret.enterM (l := [pV fv ad n cap]) Tryd.func70 rfl Tryd.ntmps70 rfl ([]) (no) (Mem.nil w) ?_
  refine wpM.seq ?_
  refine wpM.region ?_
  refine LM.box rfl rfl (fun b1 hb1 => ?_)
  refine LM.val (ov_assign rfl) ?_
  refine LM.nil ?_
  refine QM.sub (e' := [(1, _)]) ⟨rfl, trivial⟩ ?_
  refine QM.then ?_
  refine wpM.seq ?_
  refine wpM.seq ?_
  refine wpM.region ?_
  refine LM.val (ov_assign rfl) ?_
  refine LM.nil ?_
  refine QM.sub (e' := [(1, _), (3, _)]) ⟨rfl, rfl, trivial⟩ ?_
  refine QM.then ?_
  refine wpM.block ?_
  refine wpM.loopK0 (α := Nat) (fun i => [(3, .int .i64 (i : Nat))]) [(1, _)] (fun i => pB b1 fv ad n cap :: []) (fun i => i ≤ xs.length ∧ i ≤ 12 ∧ (xs.take i).all rightB = true) (fun i => xs.length - i) (0) ⟨(by first | rfl | exact lk rfl (by congr 1; omega) | exact lk rfl (by simp)), rfl, trivial⟩ (by (repeat' (first | exact SubM.nil _ | refine SubM.cons rfl ?_ | refine SubM.app ?_))) ⟨Nat.zero_le _, Nat.zero_le _, rfl⟩ ?_
  rintro i ⟨hi, hi2, ha⟩
  change wpM _ _ _ _ _ _ _ (pB b1 fv ad n cap :: []) _ _ _
  refine wpM.seq ?_
  refine wpM.seq ?_
  refine wpM.region ?_
  refine LM.val (ov_move rfl) ?_
  refine LM.val (ov_field Tryd.underlying53 rfl Tryd.sizeOf51 rfl (k := 1) rfl rfl) ?_
  first | refine LM.rd (om_ld Tryd.isAgg51 rfl rfl) ?_
  refine LM.val (ov_len Tryd.underlying51 rfl) ?_
  refine LM.val (ov_lss rfl rfl) ?_
  refine LM.nil ?_
  refine QM.sub (e' := [(1, _), (3, _), (8, _)]) ⟨rfl, rfl, rfl, trivial⟩ ?_
  refine QM.then ?_
  first | refine wpM.condD rfl (fun h1 => ?_) (fun h1 => ?_) | refine wpM.condB rfl (fun h1 => ?_) (fun h1 => ?_)
  ·
    refine wpM.skip ?_
    refine QM.then ?_
    refine wpM.seq ?_
    refine wpM.block ?_
    refine wpM.seq ?_
    refine wpM.region ?_
    refine LM.val (ov_move rfl) ?_
    refine LM.val (ov_gtr rfl rfl) ?_
    refine LM.val (ov_move rfl) ?_
    first | refine LM.splitD (t := 13) rfl (fun h2 => ?_) (fun h2 => ?_) | refine LM.splitB (t := 13) rfl (fun h2 => ?_) (fun h2 => ?_)
    ·
      refine LM.drop (t := 13) rfl rfl rfl ?_
      refine LM.drop (t := 13) rfl rfl rfl ?_
      refine LM.drop (t := 13) rfl rfl rfl ?_
      refine LM.drop (t := 13) rfl rfl rfl ?_
      refine LM.drop (t := 13) rfl rfl rfl ?_
      refine LM.drop (t := 13) rfl rfl rfl ?_
      refine LM.drop (t := 13) rfl rfl rfl ?_
      refine LM.val (ov_pickT rfl rfl) ?_
      refine LM.nil ?_
      refine QM.sub (e' := [(1, _), (3, _), (21, _)]) ⟨rfl, rfl, rfl, trivial⟩ ?_
      refine QM.then ?_
      refine wpM.condT rfl ?_
      refine wpM.seq ?_
      refine wpM.region ?_
      refine LM.val (ov_assign rfl) ?_
      refine LM.nil ?_
      refine QM.sub (e' := [(2, _)]) ⟨rfl, trivial⟩ ?_
      refine QM.then ?_
      refine wpM.ret ?_
      refine QM.block_ret ?_
      refine QM.then_ret ?_
      refine QM.then_ret ?_
      refine QM.block_ret ?_
      refine QM.then_ret ?_
      refine QM.leave (.inl rfl) [.tmp 2] Tryd.results70 rfl ?_
      intro w' hm' hc' hg'
      -- leaf 1: h1+ h2+
      refine ⟨?_, hc'⟩; simp only [resV]; have hm : mayB xs = false := (by unfold mayB; rw [decide_eq_false (show ¬ xs.length ≤ 12 by omega)]; simp); rw [hm]
    ·
      refine LM.strip (t := 13) rfl rfl rfl ?_
      refine LM.val (ov_field Tryd.underlying53 rfl Tryd.sizeOf51 rfl (k := 1) rfl rfl) ?_
      refine LM.strip (t := 13) rfl rfl rfl ?_
      first | refine LM.rd (om_ld Tryd.isAgg51 rfl rfl) ?_
      refine LM.strip (t := 13) rfl rfl rfl ?_
      refine LM.val (ov_move rfl) ?_
      refine LM.strip (t := 13) rfl rfl rfl ?_
      first | refine LM.val (ov_idxSN (by first | exact Sr.spt (by assumption) | exact Sl.spt (by assumption)) Tryd.underlying51 Tryd.sizeOf69 rfl rfl (by omega)) ?_ | refine LM.val (ov_idxS (by first | exact Sr.spt (by assumption) | exact Sl.spt (by assumption)) Tryd.underlying51 Tryd.sizeOf69 rfl rfl (by omega)) ?_ | refine LM.val (ov_idx Tryd.underlying51 Tryd.sizeOf69 rfl rfl (by omega)) ?_
      refine LM.strip (t := 13) rfl rfl rfl ?_
      first | refine LM.rd (om_slA (by assumption) (by intro _; rfl) Tryd.isAgg69 Tryd.sizeOf69 rfl (by exact getq default (by first | omega | (simp only [List.length_set, List.length_append, List.length_cons, List.length_nil]; omega)))) ?_ | refine LM.rdC (om_srEA (by assumption) (by intro _; rfl) Tryd.isAgg69 Tryd.sizeOf69 rfl (by exact getq default (by first | omega | (simp only [List.length_set, List.length_append, List.length_cons, List.length_nil]; omega))) id) ?_ | refine LM.rd (om_ldW Tryd.isAgg69 Tryd.sizeOf69 rfl rfl) ?_ | refine LM.rd (om_ldA Tryd.isAgg69 Tryd.sizeOf69 rfl (vs := [_, _, _]) rfl ⟨rfl, rfl, rfl, trivial⟩) ?_
      refine LM.strip (t := 13) rfl rfl rfl ?_
      refine LM.callE (oc_call (enters_fn Tryd.func92 (by kernel_rfl) rfl) rfl) (fun w hm hc hg => one_spec _ w) ?_
      refine LM.strip (t := 13) rfl rfl rfl ?_
      first | refine LM.val (ov_notD rfl) ?_ | refine LM.val (ov_not rfl) ?_
      refine LM.val (ov_pickF rfl rfl) ?_
      refine LM.nil ?_
      refine QM.sub (e' := [(1, _), (3, _), (21, _)]) ⟨rfl, rfl, rfl, trivial⟩ ?_
      refine QM.then ?_
      first | refine wpM.condD rfl (fun h3 => ?_) (fun h3 => ?_) | refine wpM.condB rfl (fun h3 => ?_) (fun h3 => ?_)
      ·
        refine wpM.seq ?_
        refine wpM.region ?_
        refine LM.val (ov_assign rfl) ?_
        refine LM.nil ?_
        refine QM.sub (e' := [(2, _)]) ⟨rfl, trivial⟩ ?_
        refine QM.then ?_
        refine wpM.ret ?_
        refine QM.block_ret ?_
        refine QM.then_ret ?_
        refine QM.then_ret ?_
        refine QM.block_ret ?_
        refine QM.then_ret ?_
        refine QM.leave (.inl rfl) [.tmp 2] Tryd.results70 rfl ?_
        intro w' hm' hc' hg'
        -- leaf 2: h1+ h2- h3+
        refine ⟨?_, hc'⟩; simp only [resV]; rw [may_not (i := i) (by omega) (by simpa using h3)]
      ·
        refine wpM.skip ?_
        refine QM.block_normal ?_
        refine QM.then ?_
        refine wpM.region ?_
        refine LM.val (ov_move rfl) ?_
        refine LM.val (ov_add64 rfl rfl (by omega)) ?_
        refine LM.val (ov_assign rfl) ?_
        refine LM.nil ?_
        refine QM.sub (e' := [(1, _), (3, _)]) ⟨rfl, rfl, trivial⟩ ?_
        -- again1: h1+ h2- h3-
        refine QM.againK (i + 1) ⟨(by first | rfl | exact lk rfl (by congr 1; omega) | exact lk rfl (by simp)), rfl, trivial⟩ (by (repeat' (first | exact SubM.nil _ | refine SubM.cons rfl ?_ | refine SubM.app ?_))) (fun _ h => h) ?_ ?_
        · exact ⟨by omega, by omega, by rw [all_snoc default (by omega), ha, Bool.true_and]; simpa using h3⟩
        · first | omega | (dsimp only; omega)
  ·
    refine wpM.exit ?_
    refine QM.then_exit ?_
    refine QM.then_exit ?_
    refine QM.block_hit ?_
    refine QM.then ?_
    refine wpM.seq ?_
    refine wpM.region ?_
    refine LM.val (ov_field Tryd.underlying53 rfl Tryd.sizeOf51 rfl (k := 1) rfl rfl) ?_
    first | refine LM.rd (om_ld Tryd.isAgg51 rfl rfl) ?_
    refine LM.val (ov_len Tryd.underlying51 rfl) ?_
    refine LM.val (ov_gtr rfl rfl) ?_
    refine LM.val (ov_assign rfl) ?_
    refine LM.nil ?_
    refine QM.sub (e' := [(2, _)]) ⟨rfl, trivial⟩ ?_
    refine QM.then ?_
    refine wpM.ret ?_
    refine QM.leave (.inl rfl) [.tmp 2] Tryd.results70 rfl ?_
    intro w' hm' hc' hg'
    -- leaf 3: h1-
    have hil : i = xs.length := (by omega); subst hil; rw [List.take_length] at ha; refine ⟨?_, hc'⟩; simp only [resV, mayB]; congr 1; rw [ha, decide_eq_true (show xs.length ≤ 12 by omega), Bool.and_true, Bool.and_true]; exact decide_eq_decide.2 (by omega)

end Go.Eng

