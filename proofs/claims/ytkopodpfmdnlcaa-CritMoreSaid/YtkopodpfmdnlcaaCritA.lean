/- The walks of ops: whether one may be, what it takes. No condition. -/
import Derived.Test.YtkopodpfmdnlcaaCritLaw
import Derived.Test.YtkopodpfmdnlcaaRows
set_option linter.unusedVariables false
set_option linter.unusedSimpArgs false
namespace Go.Eng
open Go Go.Proofs Go.RowKit

theorem row_sr {α : Type} {f : α → List Value} {s : Nat} {xs : List α} {b : Nat} {cs : Array Value} {E : TypeId} {fz : Nat × Nat} {w : World} (n : Nat) (h : w.heap[b]? = some (.cells cs E fz)) (hn : n = xs.length) (hcs : cs = arr f xs []) (hf : ∀ a, (f a).length = s) : Sr f s xs (.slice (some ⟨b, 0, none⟩) n n) w := by
  subst hn; exact Sr.row h hcs rfl (Nat.le_refl _) hf
set_option maxRecDepth 100000 in
theorem index_int {xs : List Int} {ad : Option Addr} {n cap : Nat} (x : Int) (w : World) (hn : n = xs.length) (hl : Sr fI 1 xs (.slice ad n cap) w) (hx : xs.length ≤ 1000) : Ret Try.prog 33 #[.slice ad n cap, .int .i64 x] w (fun v w' => v = .int .i64 (fixI (fun y => decide (x = y)) xs) ∧ Ext w w') := by
  refine Ret.enterM (l := [.slice ad n cap, .int .i64 x]) Try.func33 rfl Try.ntmps33 rfl ([]) (no) (Mem.nil w) ?_
  refine wpM.seq ?_
  refine wpM.region ?_
  refine LM.val (ov_assign rfl) ?_
  refine LM.nil ?_
  refine QM.sub (e' := [(0, _), (1, _)]) ⟨rfl, rfl, trivial⟩ ?_
  refine QM.then ?_
  refine wpM.seq ?_
  refine wpM.seq ?_
  refine wpM.region ?_
  refine LM.val (ov_move rfl) ?_
  refine LM.val (ov_len Try.underlying57 rfl) ?_
  refine LM.val (ov_move rfl) ?_
  refine LM.nil ?_
  refine QM.sub (e' := [(0, _), (1, _), (7, _), (8, _)]) ⟨rfl, rfl, rfl, rfl, trivial⟩ ?_
  refine QM.then ?_
  refine wpM.block ?_
  refine wpM.loopK0 (α := Nat) (fun i => [(8, .int .i64 (i : Nat))]) [(0, _), (1, _), (7, _)] (fun i => []) (fun i => i ≤ xs.length ∧ (xs.take i).any (fun y => decide (x = y)) = false) (fun i => xs.length - i) (0) ⟨(by first | rfl | exact lk rfl (by congr 1; omega) | exact lk rfl (by simp)), rfl, rfl, rfl, trivial⟩ (by (repeat' (first | exact SubM.nil _ | refine SubM.cons rfl ?_ | refine SubM.app ?_))) ⟨Nat.zero_le _, rfl⟩ ?_
  rintro i ⟨hi, ha⟩
  change wpM _ _ _ _ _ _ _ ([]) _ _ _
  refine wpM.seq ?_
  refine wpM.region ?_
  refine LM.val (ov_lss rfl rfl) ?_
  refine LM.nil ?_
  refine QM.sub (e' := [(0, _), (1, _), (7, _), (8, _), (9, _)]) ⟨rfl, rfl, rfl, rfl, rfl, trivial⟩ ?_
  refine QM.then ?_
  refine wpM.seq ?_
  first | refine wpM.condD rfl (fun h1 => ?_) (fun h1 => ?_) | refine wpM.condB rfl (fun h1 => ?_) (fun h1 => ?_)
  ·
    refine wpM.skip ?_
    refine QM.then ?_
    refine wpM.seq ?_
    refine wpM.block ?_
    refine wpM.seq ?_
    refine wpM.region ?_
    refine LM.val (ov_move rfl) ?_
    refine LM.val (ov_assign rfl) ?_
    refine LM.nil ?_
    refine QM.sub (e' := [(0, _), (1, _), (5, _), (7, _), (8, _)]) ⟨rfl, rfl, rfl, rfl, rfl, trivial⟩ ?_
    refine QM.then ?_
    refine wpM.seq ?_
    refine wpM.region ?_
    refine LM.val (ov_move rfl) ?_
    refine LM.val (ov_move rfl) ?_
    refine LM.val (ov_move rfl) ?_
    first | refine LM.val (ov_idxSN (by first | exact Sr.spt (by assumption) | exact Sl.spt (by assumption)) Try.underlying57 Try.sizeOf3 rfl rfl (by omega)) ?_ | refine LM.val (ov_idxS (by first | exact Sr.spt (by assumption) | exact Sl.spt (by assumption)) Try.underlying57 Try.sizeOf3 rfl rfl (by omega)) ?_ | refine LM.val (ov_idx1 Try.underlying57 Try.sizeOf3 rfl rfl (by omega)) ?_
    first | refine LM.rd (om_sl1 (by assumption) (by intro _; rfl) Try.isAgg3 rfl rfl (by exact getq 0 (by first | omega | (simp only [List.length_set, List.length_append, List.length_cons, List.length_nil]; omega))) (by rfl)) ?_ | refine LM.rdC (om_sr1 (by assumption) Try.isAgg3 rfl rfl (by exact getq 0 (by first | omega | (simp only [List.length_set, List.length_append, List.length_cons, List.length_nil]; omega))) (by rfl) id) ?_ | refine LM.rd (om_ld Try.isAgg3 rfl rfl) ?_
    refine LM.val (ov_eql rfl rfl) ?_
    refine LM.nil ?_
    refine QM.sub (e' := [(0, _), (1, _), (5, _), (7, _), (8, _), (16, _)]) ⟨rfl, rfl, rfl, rfl, rfl, rfl, trivial⟩ ?_
    refine QM.then ?_
    first | refine wpM.condD rfl (fun h2 => ?_) (fun h2 => ?_) | refine wpM.condB rfl (fun h2 => ?_) (fun h2 => ?_)
    ·
      refine wpM.seq ?_
      refine wpM.region ?_
      refine LM.val (ov_move rfl) ?_
      refine LM.val (ov_assign rfl) ?_
      refine LM.nil ?_
      refine QM.sub (e' := [(4, _)]) ⟨rfl, trivial⟩ ?_
      refine QM.then ?_
      refine wpM.ret ?_
      refine QM.block_ret ?_
      refine QM.then_ret ?_
      refine QM.then_ret ?_
      refine QM.block_ret ?_
      refine QM.then_ret ?_
      refine QM.leave (.inl rfl) [.tmp 4] Try.results33 rfl ?_
      intro w' hm' hc' hg'
      -- leaf 1: h1+ h2+
      exact ⟨by show Value.int .i64 _ = _; rw [fix_hit 0 ha (by omega) (decide_eq_true h2)], hc'⟩
    ·
      refine wpM.skip ?_
      refine QM.block_normal ?_
      refine QM.then ?_
      refine wpM.region ?_
      refine LM.val (ov_add64 rfl rfl (by omega)) ?_
      refine LM.val (ov_move rfl) ?_
      refine LM.nil ?_
      refine QM.sub (e' := [(0, _), (1, _), (7, _), (8, _)]) ⟨rfl, rfl, rfl, rfl, trivial⟩ ?_
      -- again1: h1+ h2-
      refine QM.againK (i + 1) ⟨(by first | rfl | exact lk rfl (by congr 1; omega) | exact lk rfl (by simp)), rfl, rfl, rfl, trivial⟩ (by (repeat' (first | exact SubM.nil _ | refine SubM.cons rfl ?_ | refine SubM.app ?_))) (fun _ h => h) ?_ ?_
      · exact ⟨by omega, by rw [any_snoc 0 (by omega), ha, Bool.false_or]; exact decide_eq_false h2⟩
      · first | omega | (dsimp only; omega)
  ·
    refine wpM.exit ?_
    refine QM.then_exit ?_
    refine QM.then_exit ?_
    refine QM.block_hit ?_
    refine QM.then ?_
    refine wpM.seq ?_
    refine wpM.region ?_
    refine LM.val (ov_assign rfl) ?_
    refine LM.nil ?_
    refine QM.sub (e' := [(4, _)]) ⟨rfl, trivial⟩ ?_
    refine QM.then ?_
    refine wpM.ret ?_
    refine QM.leave (.inl rfl) [.tmp 4] Try.results33 rfl ?_
    intro w' hm' hc' hg'
    -- leaf 2: h1-
    have hil : i = xs.length := (by omega); subst hil; rw [List.take_length] at ha; exact ⟨by show Value.int .i64 _ = _; rw [fix_miss ha], hc'⟩

set_option maxRecDepth 100000 in
theorem contains_int {xs : List Int} {ad : Option Addr} {n cap : Nat} (x : Int) (w : World) (hn : n = xs.length) (hl : Sr fI 1 xs (.slice ad n cap) w) (hx : xs.length ≤ 1000) : Ret Try.prog 27 #[.slice ad n cap, .int .i64 x] w (fun v w' => v = .bool (xs.any (fun y => decide (x = y))) ∧ Ext w w') := by
  refine Ret.enterM (l := [.slice ad n cap, .int .i64 x]) Try.func27 rfl Try.ntmps27 rfl ([]) (no) (Mem.nil w) ?_
  refine wpM.seq ?_
  refine wpM.region ?_
  refine LM.val (ov_assign rfl) ?_
  refine LM.nil ?_
  refine QM.sub (e' := [(0, _), (1, _)]) ⟨rfl, rfl, trivial⟩ ?_
  refine QM.then ?_
  refine wpM.seq ?_
  refine wpM.region ?_
  refine LM.val (ov_move rfl) ?_
  refine LM.val (ov_move rfl) ?_
  refine LM.callE (oc_call (enters_fn Try.func33 (by kernel_rfl) rfl) rfl) (fun w hm hc hg => index_int x w hn (hl.ext hc) hx) ?_
  refine LM.val (ov_geq rfl rfl) ?_
  refine LM.val (ov_assign rfl) ?_
  refine LM.nil ?_
  refine QM.sub (e' := [(4, _)]) ⟨rfl, trivial⟩ ?_
  refine QM.then ?_
  refine wpM.ret ?_
  refine QM.leave (.inl rfl) [.tmp 4] Try.results27 rfl ?_
  intro w' hm' hc' hg'
  -- leaf 1: 
  exact ⟨by show Value.bool _ = _; rw [← fix_pos], hc'⟩

set_option maxRecDepth 100000 in
theorem takes_spec (k : Int) (w : World) : Ret Try.prog 21 #[.int .i64 k] w (fun v w' => v = .bool (takesB k) ∧ Ext w w') := by
  refine Ret.enterM (l := [.int .i64 k]) Try.func21 rfl Try.ntmps21 rfl ([]) (no) (Mem.nil w) ?_
  refine wpM.seq ?_
  refine wpM.region ?_
  refine LM.val (ov_assign rfl) ?_
  refine LM.nil ?_
  refine QM.sub (e' := [(0, _)]) ⟨rfl, trivial⟩ ?_
  refine QM.then ?_
  refine wpM.seq ?_
  refine wpM.region ?_
  refine LM.row (vs := [_, _, _, _]) Try.underlying57 Try.sizeOf3 Try.zeroValue3 rfl rfl rfl rfl rfl rfl (fun b3 hb3 => ?_)
  refine LM.val (ov_move rfl) ?_
  refine LM.callE (oc_call (enters_fn Try.func27 (by kernel_rfl) rfl) rfl) (fun w hm hc hg => contains_int (xs := [2, 3, 4, 5]) k w rfl (row_sr 4 (hm.at b3) rfl rfl (fun _ => rfl)) (by decide)) ?_
  refine LM.val (ov_assign rfl) ?_
  refine LM.nil ?_
  refine QM.sub (e' := [(2, _)]) ⟨rfl, trivial⟩ ?_
  refine QM.then ?_
  refine wpM.ret ?_
  refine QM.leave (.inl rfl) [.tmp 2] Try.results21 rfl ?_
  intro w' hm' hc' hg'
  -- leaf 1: 
  exact ⟨by show Value.bool _ = _; rw [takes_row], hc'⟩

set_option maxRecDepth 100000 in
theorem passes_spec (o : COp) (w : World) : Ret Try.prog 16 #[.agg (fO o).toArray] w (fun v w' => v = .bool (passB o.k) ∧ Ext w w') := by
  refine Ret.enterM (l := [.agg (fO o).toArray]) Try.func16 rfl Try.ntmps16 rfl ([]) (no) (Mem.nil w) ?_
  refine wpM.seq ?_
  refine wpM.region ?_
  refine LM.box rfl rfl (fun b1 hb1 => ?_)
  refine LM.val (ov_assign rfl) ?_
  refine LM.nil ?_
  refine QM.sub (e' := [(1, _)]) ⟨rfl, trivial⟩ ?_
  refine QM.then ?_
  refine wpM.seq ?_
  refine wpM.region ?_
  refine LM.row (vs := [_, _, _, _]) Try.underlying57 Try.sizeOf3 Try.zeroValue3 rfl rfl rfl rfl rfl rfl (fun b3 hb3 => ?_)
  refine LM.val (ov_field Try.underlying38 rfl Try.sizeOf3 rfl (k := 0) rfl rfl) ?_
  first | refine LM.rd (om_ld Try.isAgg3 rfl rfl) ?_
  refine LM.callE (oc_call (enters_fn Try.func27 (by kernel_rfl) rfl) rfl) (fun w hm hc hg => contains_int (xs := [1, 7, 8, 11]) o.k w rfl (row_sr 4 (hm.at b3) rfl rfl (fun _ => rfl)) (by decide)) ?_
  refine LM.val (ov_assign rfl) ?_
  refine LM.nil ?_
  refine QM.sub (e' := [(2, _)]) ⟨rfl, trivial⟩ ?_
  refine QM.then ?_
  refine wpM.ret ?_
  refine QM.leave (.inl rfl) [.tmp 2] Try.results16 rfl ?_
  intro w' hm' hc' hg'
  -- leaf 1: 
  exact ⟨by show Value.bool _ = _; rw [pass_row], hc'⟩

set_option maxRecDepth 100000 in
theorem names_spec (w : World) : Ret Try.prog 34 #[] w (New fS 9 1 nmL w) := by
  refine Ret.enterM (l := []) Try.func34 rfl Try.ntmps34 rfl ([]) (no) (Mem.nil w) ?_
  refine wpM.seq ?_
  refine wpM.region ?_
  refine LM.val (ov_assign rfl) ?_
  refine LM.nil ?_
  refine QM.sub (e' := []) trivial ?_
  refine QM.then ?_
  refine wpM.seq ?_
  refine wpM.region ?_
  refine LM.row (vs := [_, _, _, _, _, _, _, _, _, _, _, _]) Try.underlying65 Try.sizeOf9 Try.zeroValue9 rfl rfl rfl rfl rfl rfl (fun b1 hb1 => ?_)
  refine LM.val (ov_assign rfl) ?_
  refine LM.nil ?_
  refine QM.sub (e' := [(0, _)]) ⟨rfl, trivial⟩ ?_
  refine QM.then ?_
  refine wpM.ret ?_
  refine QM.leave (.inl rfl) [.tmp 0] Try.results34 rfl ?_
  intro w' hm' hc' hg'
  -- leaf 1: 
  exact ⟨hc', [(b1, .cells (arr fS nmL []) 9 (0, 0))], .inr ⟨b1, 12, [], hb1, rfl, rfl, by decide, by unfold maxLen; decide, rfl⟩, hm'⟩

set_option maxRecDepth 100000 in
theorem name_spec (k : Int) (w : World) : Ret Try.prog 31 #[.int .i64 k] w (fun v w' => v = .string (nmO k) ∧ Ext w w') := by
  refine Ret.enterM (l := [.int .i64 k]) Try.func31 rfl Try.ntmps31 rfl ([]) (no) (Mem.nil w) ?_
  refine wpM.seq ?_
  refine wpM.region ?_
  refine LM.val (ov_assign rfl) ?_
  refine LM.nil ?_
  refine QM.sub (e' := [(0, _)]) ⟨rfl, trivial⟩ ?_
  refine QM.then ?_
  refine wpM.seq ?_
  refine wpM.seq ?_
  refine wpM.region ?_
  refine LM.val (ov_move rfl) ?_
  refine LM.val (ov_lss rfl rfl) ?_
  refine LM.val (ov_move rfl) ?_
  first | refine LM.splitD (t := 5) rfl (fun h1 => ?_) (fun h1 => ?_) | refine LM.splitB (t := 5) rfl (fun h1 => ?_) (fun h1 => ?_)
  ·
    refine LM.drop (t := 5) rfl rfl rfl ?_
    refine LM.drop (t := 5) rfl rfl rfl ?_
    refine LM.drop (t := 5) rfl rfl rfl ?_
    refine LM.drop (t := 5) rfl rfl rfl ?_
    refine LM.val (ov_pickT rfl rfl) ?_
    refine LM.nil ?_
    refine QM.sub (e' := [(0, _), (10, _)]) ⟨rfl, rfl, trivial⟩ ?_
    refine QM.then ?_
    refine wpM.condT rfl ?_
    refine wpM.seq ?_
    refine wpM.region ?_
    refine LM.val (ov_assign rfl) ?_
    refine LM.nil ?_
    refine QM.sub (e' := [(2, _)]) ⟨rfl, trivial⟩ ?_
    refine QM.then ?_
    refine wpM.ret ?_
    refine QM.then_ret ?_
    refine QM.leave (.inl rfl) [.tmp 2] Try.results31 rfl ?_
    intro w' hm' hc' hg'
    -- leaf 1: h1+
    have hl13 : nmL.length = 12 := rfl; refine ⟨?_, hc'⟩; show Value.string _ = _; congr 1; first | (rw [nmO, if_neg (by omega)]; done) | (rw [nmO, if_pos (by omega)]; done)
  ·
    refine LM.strip (t := 5) rfl rfl rfl ?_
    refine LM.val (ov_move rfl) ?_
    refine LM.strip (t := 5) rfl rfl rfl ?_
    refine LM.cS (oc_call (enters_fn Try.func34 (by kernel_rfl) rfl) rfl) (fun w hm hc hg => names_spec w) (fun ad7 n7 cap7 m7 hn7 hs7 => ?_)
    refine LM.strip (t := 5) rfl rfl rfl ?_
    refine LM.val (ov_len Try.underlying65 rfl) ?_
    refine LM.strip (t := 5) rfl rfl rfl ?_
    have hl12 : n7 = 12 := hn7
    refine LM.val (ov_geq rfl rfl) ?_
    refine LM.val (ov_pickF rfl rfl) ?_
    refine LM.nil ?_
    refine QM.sub (e' := [(0, _), (10, _)]) ⟨rfl, rfl, trivial⟩ ?_
    refine QM.then ?_
    first | refine wpM.condD rfl (fun h2 => ?_) (fun h2 => ?_) | refine wpM.condB rfl (fun h2 => ?_) (fun h2 => ?_)
    ·
      refine wpM.seq ?_
      refine wpM.region ?_
      refine LM.val (ov_assign rfl) ?_
      refine LM.nil ?_
      refine QM.sub (e' := [(2, _)]) ⟨rfl, trivial⟩ ?_
      refine QM.then ?_
      refine wpM.ret ?_
      refine QM.then_ret ?_
      refine QM.leave (.inl rfl) [.tmp 2] Try.results31 rfl ?_
      intro w' hm' hc' hg'
      -- leaf 2: h1- h2+
      have hl13 : nmL.length = 12 := rfl; refine ⟨?_, hc'⟩; show Value.string _ = _; congr 1; first | (rw [nmO, if_neg (by omega)]; done) | (rw [nmO, if_pos (by omega)]; done)
    ·
      refine wpM.skip ?_
      refine QM.then ?_
      refine wpM.seq ?_
      refine wpM.region ?_
      refine LM.cS (oc_call (enters_fn Try.func34 (by kernel_rfl) rfl) rfl) (fun w hm hc hg => names_spec w) (fun ad11 n11 cap11 m11 hn11 hs11 => ?_)
      have hl12 : n11 = 12 := hn11
      refine LM.val (ov_move rfl) ?_
      first | refine LM.val (ov_idxSN (by first | exact Sr.spt (by assumption) | exact Sl.spt (by assumption)) Try.underlying65 Try.sizeOf9 rfl rfl (by omega)) ?_ | refine LM.val (ov_idxS (by first | exact Sr.spt (by assumption) | exact Sl.spt (by assumption)) Try.underlying65 Try.sizeOf9 rfl rfl (by omega)) ?_ | refine LM.val (ov_idx1 Try.underlying65 Try.sizeOf9 rfl rfl (by omega)) ?_
      first | refine LM.rd (om_sl1 (by assumption) (by intro _; rfl) Try.isAgg9 rfl rfl (by exact getq default (by first | omega | (simp only [List.length_set, List.length_append, List.length_cons, List.length_nil]; omega))) (by rfl)) ?_ | refine LM.rdC (om_sr1 (by assumption) Try.isAgg9 rfl rfl (by exact getq default (by first | omega | (simp only [List.length_set, List.length_append, List.length_cons, List.length_nil]; omega))) (by rfl) id) ?_ | refine LM.rd (om_ld Try.isAgg9 rfl rfl) ?_
      refine LM.val (ov_assign rfl) ?_
      refine LM.nil ?_
      refine QM.sub (e' := [(2, _)]) ⟨rfl, trivial⟩ ?_
      refine QM.then ?_
      refine wpM.ret ?_
      refine QM.leave (.inl rfl) [.tmp 2] Try.results31 rfl ?_
      intro w' hm' hc' hg'
      -- leaf 3: h1- h2-
      have hl13 : nmL.length = 12 := rfl; refine ⟨?_, hc'⟩; show Value.string _ = _; congr 1; first | (rw [nmO, if_neg (by omega)]; done) | (rw [nmO, if_pos (by omega)]; done)

set_option maxRecDepth 100000 in
theorem rname_spec (k : Int) (w : World) : Ret Try.prog 28 #[.int .i64 k] w (fun v w' => v = .string (nmO k) ∧ Ext w w') := by
  refine Ret.enterM (l := [.int .i64 k]) Try.func28 rfl Try.ntmps28 rfl ([]) (no) (Mem.nil w) ?_
  refine wpM.seq ?_
  refine wpM.region ?_
  refine LM.val (ov_assign rfl) ?_
  refine LM.nil ?_
  refine QM.sub (e' := [(0, _)]) ⟨rfl, trivial⟩ ?_
  refine QM.then ?_
  refine wpM.seq ?_
  refine wpM.region ?_
  refine LM.row (vs := [_, _, _, _, _, _, _, _, _, _, _, _]) Try.underlying65 Try.sizeOf9 Try.zeroValue9 rfl rfl rfl rfl rfl rfl (fun b4 hb4 => ?_)
  refine LM.val (ov_assign rfl) ?_
  refine LM.nil ?_
  refine QM.sub (e' := [(0, _), (3, _)]) ⟨rfl, rfl, trivial⟩ ?_
  refine QM.then ?_
  refine wpM.seq ?_
  refine wpM.seq ?_
  refine wpM.region ?_
  refine LM.val (ov_move rfl) ?_
  refine LM.val (ov_lss rfl rfl) ?_
  refine LM.val (ov_move rfl) ?_
  first | refine LM.splitD (t := 7) rfl (fun h1 => ?_) (fun h1 => ?_) | refine LM.splitB (t := 7) rfl (fun h1 => ?_) (fun h1 => ?_)
  ·
    refine LM.drop (t := 7) rfl rfl rfl ?_
    refine LM.drop (t := 7) rfl rfl rfl ?_
    refine LM.val (ov_pickT rfl rfl) ?_
    refine LM.nil ?_
    refine QM.sub (e' := [(0, _), (3, _), (10, _)]) ⟨rfl, rfl, rfl, trivial⟩ ?_
    refine QM.then ?_
    refine wpM.condT rfl ?_
    refine wpM.seq ?_
    refine wpM.region ?_
    refine LM.val (ov_assign rfl) ?_
    refine LM.nil ?_
    refine QM.sub (e' := [(2, _)]) ⟨rfl, trivial⟩ ?_
    refine QM.then ?_
    refine wpM.ret ?_
    refine QM.then_ret ?_
    refine QM.leave (.inl rfl) [.tmp 2] Try.results28 rfl ?_
    intro w' hm' hc' hg'
    -- leaf 1: h1+
    refine ⟨?_, hc'⟩; show Value.string _ = _; congr 1; first | (rw [nmO, if_neg (by omega)]; done) | (rw [nmO, if_pos (by omega)]; done)
  ·
    refine LM.strip (t := 7) rfl rfl rfl ?_
    refine LM.val (ov_move rfl) ?_
    refine LM.strip (t := 7) rfl rfl rfl ?_
    refine LM.val (ov_gtr rfl rfl) ?_
    refine LM.val (ov_pickF rfl rfl) ?_
    refine LM.nil ?_
    refine QM.sub (e' := [(0, _), (3, _), (10, _)]) ⟨rfl, rfl, rfl, trivial⟩ ?_
    refine QM.then ?_
    first | refine wpM.condD rfl (fun h2 => ?_) (fun h2 => ?_) | refine wpM.condB rfl (fun h2 => ?_) (fun h2 => ?_)
    ·
      refine wpM.seq ?_
      refine wpM.region ?_
      refine LM.val (ov_assign rfl) ?_
      refine LM.nil ?_
      refine QM.sub (e' := [(2, _)]) ⟨rfl, trivial⟩ ?_
      refine QM.then ?_
      refine wpM.ret ?_
      refine QM.then_ret ?_
      refine QM.leave (.inl rfl) [.tmp 2] Try.results28 rfl ?_
      intro w' hm' hc' hg'
      -- leaf 2: h1- h2+
      refine ⟨?_, hc'⟩; show Value.string _ = _; congr 1; first | (rw [nmO, if_neg (by omega)]; done) | (rw [nmO, if_pos (by omega)]; done)
    ·
      refine wpM.skip ?_
      refine QM.then ?_
      refine wpM.seq ?_
      refine wpM.region ?_
      refine LM.val (ov_move rfl) ?_
      refine LM.val (ov_move rfl) ?_
      change LM _ _ _ _ _ _ _ _ ((b4, Obj.cells (arr fS nmL []) 9 (0, 0)) :: _) _ _ _; have hs4 : Sl fS 9 1 w.heap.size nmL (.slice (some ⟨b4, 0, none⟩) 12 12) [(b4, .cells (arr fS nmL []) 9 (0, 0))] := .inr ⟨b4, 12, [], hb4, rfl, rfl, by decide, by unfold maxLen; decide, rfl⟩; have hl12 : nmL.length = 12 := rfl
      first | refine LM.val (ov_idxSN (by first | exact Sr.spt (by assumption) | exact Sl.spt (by assumption)) Try.underlying65 Try.sizeOf9 rfl rfl (by omega)) ?_ | refine LM.val (ov_idxS (by first | exact Sr.spt (by assumption) | exact Sl.spt (by assumption)) Try.underlying65 Try.sizeOf9 rfl rfl (by omega)) ?_ | refine LM.val (ov_idx1 Try.underlying65 Try.sizeOf9 rfl rfl (by omega)) ?_
      first | refine LM.rd (om_sl1 (by assumption) (by intro _; rfl) Try.isAgg9 rfl rfl (by exact getq default (by first | omega | (simp only [List.length_set, List.length_append, List.length_cons, List.length_nil]; omega))) (by rfl)) ?_ | refine LM.rdC (om_sr1 (by assumption) Try.isAgg9 rfl rfl (by exact getq default (by first | omega | (simp only [List.length_set, List.length_append, List.length_cons, List.length_nil]; omega))) (by rfl) id) ?_ | refine LM.rd (om_ld Try.isAgg9 rfl rfl) ?_
      refine LM.val (ov_assign rfl) ?_
      refine LM.nil ?_
      refine QM.sub (e' := [(2, _)]) ⟨rfl, trivial⟩ ?_
      refine QM.then ?_
      refine wpM.ret ?_
      refine QM.leave (.inl rfl) [.tmp 2] Try.results28 rfl ?_
      intro w' hm' hc' hg'
      -- leaf 3: h1- h2-
      refine ⟨?_, hc'⟩; show Value.string _ = _; congr 1; first | (rw [nmO, if_neg (by omega)]; done) | (rw [nmO, if_pos (by omega)]; done)

set_option maxRecDepth 100000 in
theorem spans_spec (k : Int) (w : World) : Ret Try.prog 30 #[.int .i64 k] w (fun v w' => v = .tuple #[.agg #[.int .i64 (loA k), .int .i64 (hiA k)], .agg #[.int .i64 (loB k), .int .i64 (hiB k)]] ∧ Ext w w') := by
  refine Ret.enterM (l := [.int .i64 k]) Try.func30 rfl Try.ntmps30 rfl ([]) (no) (Mem.nil w) ?_
  refine wpM.seq ?_
  refine wpM.region ?_
  refine LM.alloc Try.zeroValue61 rfl (fun b2 hb2 => ?_)
  refine LM.alloc Try.zeroValue61 rfl (fun b3 hb3 => ?_)
  refine LM.nil ?_
  refine QM.sub (e' := [(0, _), (2, _), (3, _)]) ⟨rfl, rfl, rfl, trivial⟩ ?_
  refine QM.then ?_
  refine wpM.seq ?_
  refine wpM.region ?_
  refine LM.val (ov_build (cs := #[_, _]) rfl (by first | rfl | kernel_rfl)) ?_
  refine LM.alloc Try.zeroValue61 rfl (fun b4 hb4 => ?_)
  first | refine LM.stW Try.sizeOf61 rfl rfl rfl rfl (by first | rfl | decide | (simp; done)) (fun hlt => absurd hlt (by omega)) ?_ | refine LM.st Try.sizeOf61 rfl rfl rfl (by first | decide | exact Nat.le_of_ble_eq_true rfl | (simp; done) | (simp; omega)) rfl (fun hlt => absurd hlt (by omega)) ?_
  refine LM.nil ?_
  refine QM.sub (e' := [(0, _), (2, _), (3, _), (4, _)]) ⟨rfl, rfl, rfl, rfl, trivial⟩ ?_
  refine QM.then ?_
  refine wpM.seq ?_
  refine wpM.seq ?_
  refine wpM.region ?_
  refine LM.val (ov_move rfl) ?_
  refine LM.nil ?_
  refine QM.sub (e' := [(2, _), (3, _), (4, _), (6, _)]) ⟨rfl, rfl, rfl, rfl, trivial⟩ ?_
  refine QM.then ?_
  refine wpM.block ?_
  refine wpM.seq ?_
  refine wpM.region ?_
  refine LM.val (ov_eql rfl rfl) ?_
  refine LM.val (ov_assign rfl) ?_
  refine LM.nil ?_
  refine QM.sub (e' := [(2, _), (3, _), (4, _), (6, _), (7, _)]) ⟨rfl, rfl, rfl, rfl, rfl, trivial⟩ ?_
  refine QM.then ?_
  first | refine wpM.condD rfl (fun h1 => ?_) (fun h1 => ?_) | refine wpM.condB rfl (fun h1 => ?_) (fun h1 => ?_)
  ·
    refine wpM.seq ?_
    refine wpM.toAltO (b2) [.cells #[.int .i64 0, .int .i64 0] 61 (0, 0), .cells #[.int .i64 (1), .int .i64 (16)] 61 (0, 0)] (by first | exact .head _ | (simp; done)) (fun hMc => ?_)
    refine wpM.draw [(0, 0), (1, 1), (2, 2), (3, 3)] (by kernel_rfl) (by kernel_rfl) ?_
    refine LD.val rfl rfl (ov_build (cs := #[_, _]) rfl (by first | rfl | kernel_rfl)) ?_
    first | refine LD.rd rfl rfl (om_ldW Try.isAgg61 Try.sizeOf61 rfl rfl) ?_ | refine LD.rd rfl rfl (om_ldA Try.isAgg61 Try.sizeOf61 rfl (vs := [_, _]) rfl ⟨rfl, rfl, trivial⟩) ?_
    refine LD.stAltO [.cells #[.int .i64 (1), .int .i64 (16)] 61 (0, 0)] rfl rfl Try.sizeOf61 rfl rfl rfl (by decide) (by simp) (by simp only [List.forall_mem_cons, List.not_mem_nil, false_implies, implies_true, and_true]; exact ⟨⟨_, _, rfl, by decide, .head _⟩, ⟨_, _, rfl, by decide, .head _⟩⟩) (fun hlt => absurd hlt (by omega)) hMc ?_
    refine LD.tail rfl rfl ?_
    refine LM.ofAltO ?_
    first | refine LM.stW Try.sizeOf61 rfl rfl rfl rfl (by first | rfl | decide | (simp; done)) (fun hlt => absurd hlt (by omega)) ?_ | refine LM.st Try.sizeOf61 rfl rfl rfl (by first | decide | exact Nat.le_of_ble_eq_true rfl | (simp; done) | (simp; omega)) rfl (fun hlt => absurd hlt (by omega)) ?_
    refine LM.nil ?_
    refine QM.qn ?_
    refine QM.sub (e' := [(2, _), (3, _)]) ⟨rfl, rfl, trivial⟩ ?_
    refine QM.then ?_
    refine wpM.ret ?_
    refine QM.block_ret ?_
    refine QM.then_ret ?_
    refine QM.leaveCs (ds := ([])) (.inl rfl) [.cell 2 61, .cell 3 61] Try.results30 hd_nil (rc_w rfl Try.isAgg61 Try.sizeOf61 rfl (rc_w rfl Try.isAgg61 Try.sizeOf61 rfl rc_nil)) ?_
    intro w' hm' hc'
    -- leaf 1: h1+
    refine ⟨?_, hc'⟩; simp only [resV, loA, hiA, loB, hiB]; try ((repeat' split) <;> first | rfl | omega)
  ·
    refine wpM.seq ?_
    refine wpM.seq ?_
    refine wpM.region ?_
    refine LM.val (ov_eql rfl rfl) ?_
    refine LM.val (ov_assign rfl) ?_
    refine LM.nil ?_
    refine QM.sub (e' := [(2, _), (3, _), (4, _), (6, _), (11, _)]) ⟨rfl, rfl, rfl, rfl, rfl, trivial⟩ ?_
    refine QM.then ?_
    first | refine wpM.condD rfl (fun h2 => ?_) (fun h2 => ?_) | refine wpM.condB rfl (fun h2 => ?_) (fun h2 => ?_)
    ·
      refine wpM.skip ?_
      refine QM.then ?_
      first | refine wpM.condD rfl (fun h3 => ?_) (fun h3 => ?_) | refine wpM.condB rfl (fun h3 => ?_) (fun h3 => ?_)
      ·
        refine wpM.seq ?_
        refine wpM.toAltO (b2) [.cells #[.int .i64 0, .int .i64 0] 61 (0, 0), .cells #[.int .i64 (0), .int .i64 (7)] 61 (0, 0)] (by first | exact .head _ | (simp; done)) (fun hMc => ?_)
        refine wpM.draw [(0, 0), (1, 1), (2, 2), (3, 3)] (by kernel_rfl) (by kernel_rfl) ?_
        refine LD.val rfl rfl (ov_build (cs := #[_, _]) rfl (by first | rfl | kernel_rfl)) ?_
        first | refine LD.rd rfl rfl (om_ldW Try.isAgg61 Try.sizeOf61 rfl rfl) ?_ | refine LD.rd rfl rfl (om_ldA Try.isAgg61 Try.sizeOf61 rfl (vs := [_, _]) rfl ⟨rfl, rfl, trivial⟩) ?_
        refine LD.stAltO [.cells #[.int .i64 (0), .int .i64 (7)] 61 (0, 0)] rfl rfl Try.sizeOf61 rfl rfl rfl (by decide) (by simp) (by simp only [List.forall_mem_cons, List.not_mem_nil, false_implies, implies_true, and_true]; exact ⟨⟨_, _, rfl, by decide, .head _⟩, ⟨_, _, rfl, by decide, .head _⟩⟩) (fun hlt => absurd hlt (by omega)) hMc ?_
        refine LD.tail rfl rfl ?_
        refine LM.ofAltO ?_
        first | refine LM.stW Try.sizeOf61 rfl rfl rfl rfl (by first | rfl | decide | (simp; done)) (fun hlt => absurd hlt (by omega)) ?_ | refine LM.st Try.sizeOf61 rfl rfl rfl (by first | decide | exact Nat.le_of_ble_eq_true rfl | (simp; done) | (simp; omega)) rfl (fun hlt => absurd hlt (by omega)) ?_
        refine LM.nil ?_
        refine QM.qn ?_
        refine QM.sub (e' := [(2, _), (3, _)]) ⟨rfl, rfl, trivial⟩ ?_
        refine QM.then ?_
        refine wpM.ret ?_
        refine QM.block_ret ?_
        refine QM.then_ret ?_
        refine QM.leaveCs (ds := ([])) (.inl rfl) [.cell 2 61, .cell 3 61] Try.results30 hd_nil (rc_w rfl Try.isAgg61 Try.sizeOf61 rfl (rc_w rfl Try.isAgg61 Try.sizeOf61 rfl rc_nil)) ?_
        intro w' hm' hc'
        -- leaf 2: h1- h2+ h3+
        refine ⟨?_, hc'⟩; simp only [resV, loA, hiA, loB, hiB]; try ((repeat' split) <;> first | rfl | omega)
      ·
        refine wpM.seq ?_
        refine wpM.region ?_
        refine LM.val (ov_eql rfl rfl) ?_
        refine LM.val (ov_assign rfl) ?_
        refine LM.nil ?_
        refine QM.sub (e' := [(2, _), (3, _), (4, _), (6, _), (19, _)]) ⟨rfl, rfl, rfl, rfl, rfl, trivial⟩ ?_
        refine QM.then ?_
        first | refine wpM.condD rfl (fun h4 => ?_) (fun h4 => ?_) | refine wpM.condB rfl (fun h4 => ?_) (fun h4 => ?_)
        ·
          refine wpM.seq ?_
          refine wpM.region ?_
          refine LM.val (ov_build (cs := #[_, _]) rfl (by first | rfl | kernel_rfl)) ?_
          refine LM.val (ov_build (cs := #[_, _]) rfl (by first | rfl | kernel_rfl)) ?_
          first | refine LM.stW Try.sizeOf61 rfl rfl rfl rfl (by first | rfl | decide | (simp; done)) (fun hlt => absurd hlt (by omega)) ?_ | refine LM.st Try.sizeOf61 rfl rfl rfl (by first | decide | exact Nat.le_of_ble_eq_true rfl | (simp; done) | (simp; omega)) rfl (fun hlt => absurd hlt (by omega)) ?_
          first | refine LM.stW Try.sizeOf61 rfl rfl rfl rfl (by first | rfl | decide | (simp; done)) (fun hlt => absurd hlt (by omega)) ?_ | refine LM.st Try.sizeOf61 rfl rfl rfl (by first | decide | exact Nat.le_of_ble_eq_true rfl | (simp; done) | (simp; omega)) rfl (fun hlt => absurd hlt (by omega)) ?_
          refine LM.nil ?_
          refine QM.sub (e' := [(2, _), (3, _)]) ⟨rfl, rfl, trivial⟩ ?_
          refine QM.then ?_
          refine wpM.ret ?_
          refine QM.block_ret ?_
          refine QM.then_ret ?_
          refine QM.leaveCs (ds := ([])) (.inl rfl) [.cell 2 61, .cell 3 61] Try.results30 hd_nil (rc_w rfl Try.isAgg61 Try.sizeOf61 rfl (rc_w rfl Try.isAgg61 Try.sizeOf61 rfl rc_nil)) ?_
          intro w' hm' hc'
          -- leaf 3: h1- h2+ h3- h4+
          refine ⟨?_, hc'⟩; simp only [resV, loA, hiA, loB, hiB]; try ((repeat' split) <;> first | rfl | omega)
        ·
          refine wpM.seq ?_
          refine wpM.region ?_
          refine LM.val (ov_eql rfl rfl) ?_
          refine LM.val (ov_assign rfl) ?_
          refine LM.nil ?_
          refine QM.sub (e' := [(2, _), (3, _), (4, _), (6, _), (23, _)]) ⟨rfl, rfl, rfl, rfl, rfl, trivial⟩ ?_
          refine QM.then ?_
          first | refine wpM.condD rfl (fun h5 => ?_) (fun h5 => ?_) | refine wpM.condB rfl (fun h5 => ?_) (fun h5 => ?_)
          ·
            refine wpM.seq ?_
            refine wpM.toAltO (b2) [.cells #[.int .i64 0, .int .i64 0] 61 (0, 0), .cells #[.int .i64 (1), .int .i64 (64)] 61 (0, 0)] (by first | exact .head _ | (simp; done)) (fun hMc => ?_)
            refine wpM.draw [(0, 0), (1, 1), (2, 2), (3, 3)] (by kernel_rfl) (by kernel_rfl) ?_
            refine LD.val rfl rfl (ov_build (cs := #[_, _]) rfl (by first | rfl | kernel_rfl)) ?_
            first | refine LD.rd rfl rfl (om_ldW Try.isAgg61 Try.sizeOf61 rfl rfl) ?_ | refine LD.rd rfl rfl (om_ldA Try.isAgg61 Try.sizeOf61 rfl (vs := [_, _]) rfl ⟨rfl, rfl, trivial⟩) ?_
            refine LD.stAltO [.cells #[.int .i64 (1), .int .i64 (64)] 61 (0, 0)] rfl rfl Try.sizeOf61 rfl rfl rfl (by decide) (by simp) (by simp only [List.forall_mem_cons, List.not_mem_nil, false_implies, implies_true, and_true]; exact ⟨⟨_, _, rfl, by decide, .head _⟩, ⟨_, _, rfl, by decide, .head _⟩⟩) (fun hlt => absurd hlt (by omega)) hMc ?_
            refine LD.tail rfl rfl ?_
            refine LM.ofAltO ?_
            first | refine LM.stW Try.sizeOf61 rfl rfl rfl rfl (by first | rfl | decide | (simp; done)) (fun hlt => absurd hlt (by omega)) ?_ | refine LM.st Try.sizeOf61 rfl rfl rfl (by first | decide | exact Nat.le_of_ble_eq_true rfl | (simp; done) | (simp; omega)) rfl (fun hlt => absurd hlt (by omega)) ?_
            refine LM.nil ?_
            refine QM.qn ?_
            refine QM.sub (e' := [(2, _), (3, _)]) ⟨rfl, rfl, trivial⟩ ?_
            refine QM.then ?_
            refine wpM.ret ?_
            refine QM.block_ret ?_
            refine QM.then_ret ?_
            refine QM.leaveCs (ds := ([])) (.inl rfl) [.cell 2 61, .cell 3 61] Try.results30 hd_nil (rc_w rfl Try.isAgg61 Try.sizeOf61 rfl (rc_w rfl Try.isAgg61 Try.sizeOf61 rfl rc_nil)) ?_
            intro w' hm' hc'
            -- leaf 4: h1- h2+ h3- h4- h5+
            refine ⟨?_, hc'⟩; simp only [resV, loA, hiA, loB, hiB]; try ((repeat' split) <;> first | rfl | omega)
          ·
            refine wpM.seq ?_
            refine wpM.region ?_
            refine LM.val (ov_eql rfl rfl) ?_
            refine LM.val (ov_assign rfl) ?_
            refine LM.nil ?_
            refine QM.sub (e' := [(2, _), (3, _), (4, _), (27, _)]) ⟨rfl, rfl, rfl, rfl, trivial⟩ ?_
            refine QM.then ?_
            first | refine wpM.condD rfl (fun h6 => ?_) (fun h6 => ?_) | refine wpM.condB rfl (fun h6 => ?_) (fun h6 => ?_)
            ·
              refine wpM.seq ?_
              refine wpM.toAltO (b2) [.cells #[.int .i64 0, .int .i64 0] 61 (0, 0), .cells #[.int .i64 (1), .int .i64 (16)] 61 (0, 0)] (by first | exact .head _ | (simp; done)) (fun hMc => ?_)
              refine wpM.draw [(0, 0), (1, 1), (2, 2), (3, 3)] (by kernel_rfl) (by kernel_rfl) ?_
              refine LD.val rfl rfl (ov_build (cs := #[_, _]) rfl (by first | rfl | kernel_rfl)) ?_
              first | refine LD.rd rfl rfl (om_ldW Try.isAgg61 Try.sizeOf61 rfl rfl) ?_ | refine LD.rd rfl rfl (om_ldA Try.isAgg61 Try.sizeOf61 rfl (vs := [_, _]) rfl ⟨rfl, rfl, trivial⟩) ?_
              refine LD.stAltO [.cells #[.int .i64 (1), .int .i64 (16)] 61 (0, 0)] rfl rfl Try.sizeOf61 rfl rfl rfl (by decide) (by simp) (by simp only [List.forall_mem_cons, List.not_mem_nil, false_implies, implies_true, and_true]; exact ⟨⟨_, _, rfl, by decide, .head _⟩, ⟨_, _, rfl, by decide, .head _⟩⟩) (fun hlt => absurd hlt (by omega)) hMc ?_
              refine LD.tail rfl rfl ?_
              refine LM.ofAltO ?_
              first | refine LM.stW Try.sizeOf61 rfl rfl rfl rfl (by first | rfl | decide | (simp; done)) (fun hlt => absurd hlt (by omega)) ?_ | refine LM.st Try.sizeOf61 rfl rfl rfl (by first | decide | exact Nat.le_of_ble_eq_true rfl | (simp; done) | (simp; omega)) rfl (fun hlt => absurd hlt (by omega)) ?_
              refine LM.nil ?_
              refine QM.qn ?_
              refine QM.sub (e' := [(2, _), (3, _)]) ⟨rfl, rfl, trivial⟩ ?_
              refine QM.then ?_
              refine wpM.ret ?_
              refine QM.block_ret ?_
              refine QM.then_ret ?_
              refine QM.leaveCs (ds := ([])) (.inl rfl) [.cell 2 61, .cell 3 61] Try.results30 hd_nil (rc_w rfl Try.isAgg61 Try.sizeOf61 rfl (rc_w rfl Try.isAgg61 Try.sizeOf61 rfl rc_nil)) ?_
              intro w' hm' hc'
              -- leaf 5: h1- h2+ h3- h4- h5- h6+
              refine ⟨?_, hc'⟩; simp only [resV, loA, hiA, loB, hiB]; try ((repeat' split) <;> first | rfl | omega)
            ·
              refine wpM.skip ?_
              refine QM.block_normal ?_
              refine QM.then ?_
              refine wpM.seq ?_
              refine wpM.toAltO (b2) [.cells #[.int .i64 0, .int .i64 0] 61 (0, 0), .cells #[.int .i64 (-1), .int .i64 (-1)] 61 (0, 0)] (by first | exact .head _ | (simp; done)) (fun hMc => ?_)
              refine wpM.draw [(0, 1), (1, 1), (2, 2), (3, 3)] (by kernel_rfl) (by kernel_rfl) ?_
              first | refine LD.rd rfl rfl (om_ldW Try.isAgg61 Try.sizeOf61 rfl rfl) ?_ | refine LD.rd rfl rfl (om_ldA Try.isAgg61 Try.sizeOf61 rfl (vs := [_, _]) rfl ⟨rfl, rfl, trivial⟩) ?_
              first | refine LD.rd rfl rfl (om_ldW Try.isAgg61 Try.sizeOf61 rfl rfl) ?_ | refine LD.rd rfl rfl (om_ldA Try.isAgg61 Try.sizeOf61 rfl (vs := [_, _]) rfl ⟨rfl, rfl, trivial⟩) ?_
              refine LD.stAltO [.cells #[.int .i64 (-1), .int .i64 (-1)] 61 (0, 0)] rfl rfl Try.sizeOf61 rfl rfl rfl (by decide) (by simp) (by simp only [List.forall_mem_cons, List.not_mem_nil, false_implies, implies_true, and_true]; exact ⟨⟨_, _, rfl, by decide, .head _⟩, ⟨_, _, rfl, by decide, .head _⟩⟩) (fun hlt => absurd hlt (by omega)) hMc ?_
              refine LD.tail rfl rfl ?_
              refine LM.ofAltO ?_
              first | refine LM.stW Try.sizeOf61 rfl rfl rfl rfl (by first | rfl | decide | (simp; done)) (fun hlt => absurd hlt (by omega)) ?_ | refine LM.st Try.sizeOf61 rfl rfl rfl (by first | decide | exact Nat.le_of_ble_eq_true rfl | (simp; done) | (simp; omega)) rfl (fun hlt => absurd hlt (by omega)) ?_
              refine LM.nil ?_
              refine QM.qn ?_
              refine QM.sub (e' := [(2, _), (3, _)]) ⟨rfl, rfl, trivial⟩ ?_
              refine QM.then ?_
              refine wpM.ret ?_
              refine QM.leaveCs (ds := ([])) (.inl rfl) [.cell 2 61, .cell 3 61] Try.results30 hd_nil (rc_w rfl Try.isAgg61 Try.sizeOf61 rfl (rc_w rfl Try.isAgg61 Try.sizeOf61 rfl rc_nil)) ?_
              intro w' hm' hc'
              -- leaf 6: h1- h2+ h3- h4- h5- h6-
              refine ⟨?_, hc'⟩; simp only [resV, loA, hiA, loB, hiB]; try ((repeat' split) <;> first | rfl | omega)
    ·
      refine wpM.seq ?_
      refine wpM.region ?_
      refine LM.val (ov_eql rfl rfl) ?_
      refine LM.val (ov_assign rfl) ?_
      refine LM.nil ?_
      refine QM.sub (e' := [(2, _), (3, _), (4, _), (6, _), (11, _)]) ⟨rfl, rfl, rfl, rfl, rfl, trivial⟩ ?_
      refine QM.then ?_
      first | refine wpM.condD rfl (fun h7 => ?_) (fun h7 => ?_) | refine wpM.condB rfl (fun h7 => ?_) (fun h7 => ?_)
      ·
        refine wpM.skip ?_
        refine QM.then ?_
        first | refine wpM.condD rfl (fun h8 => ?_) (fun h8 => ?_) | refine wpM.condB rfl (fun h8 => ?_) (fun h8 => ?_)
        ·
          refine wpM.seq ?_
          refine wpM.toAltO (b2) [.cells #[.int .i64 0, .int .i64 0] 61 (0, 0), .cells #[.int .i64 (0), .int .i64 (7)] 61 (0, 0)] (by first | exact .head _ | (simp; done)) (fun hMc => ?_)
          refine wpM.draw [(0, 0), (1, 1), (2, 2), (3, 3)] (by kernel_rfl) (by kernel_rfl) ?_
          refine LD.val rfl rfl (ov_build (cs := #[_, _]) rfl (by first | rfl | kernel_rfl)) ?_
          first | refine LD.rd rfl rfl (om_ldW Try.isAgg61 Try.sizeOf61 rfl rfl) ?_ | refine LD.rd rfl rfl (om_ldA Try.isAgg61 Try.sizeOf61 rfl (vs := [_, _]) rfl ⟨rfl, rfl, trivial⟩) ?_
          refine LD.stAltO [.cells #[.int .i64 (0), .int .i64 (7)] 61 (0, 0)] rfl rfl Try.sizeOf61 rfl rfl rfl (by decide) (by simp) (by simp only [List.forall_mem_cons, List.not_mem_nil, false_implies, implies_true, and_true]; exact ⟨⟨_, _, rfl, by decide, .head _⟩, ⟨_, _, rfl, by decide, .head _⟩⟩) (fun hlt => absurd hlt (by omega)) hMc ?_
          refine LD.tail rfl rfl ?_
          refine LM.ofAltO ?_
          first | refine LM.stW Try.sizeOf61 rfl rfl rfl rfl (by first | rfl | decide | (simp; done)) (fun hlt => absurd hlt (by omega)) ?_ | refine LM.st Try.sizeOf61 rfl rfl rfl (by first | decide | exact Nat.le_of_ble_eq_true rfl | (simp; done) | (simp; omega)) rfl (fun hlt => absurd hlt (by omega)) ?_
          refine LM.nil ?_
          refine QM.qn ?_
          refine QM.sub (e' := [(2, _), (3, _)]) ⟨rfl, rfl, trivial⟩ ?_
          refine QM.then ?_
          refine wpM.ret ?_
          refine QM.block_ret ?_
          refine QM.then_ret ?_
          refine QM.leaveCs (ds := ([])) (.inl rfl) [.cell 2 61, .cell 3 61] Try.results30 hd_nil (rc_w rfl Try.isAgg61 Try.sizeOf61 rfl (rc_w rfl Try.isAgg61 Try.sizeOf61 rfl rc_nil)) ?_
          intro w' hm' hc'
          -- leaf 7: h1- h2- h7+ h8+
          refine ⟨?_, hc'⟩; simp only [resV, loA, hiA, loB, hiB]; try ((repeat' split) <;> first | rfl | omega)
        ·
          refine wpM.seq ?_
          refine wpM.region ?_
          refine LM.val (ov_eql rfl rfl) ?_
          refine LM.val (ov_assign rfl) ?_
          refine LM.nil ?_
          refine QM.sub (e' := [(2, _), (3, _), (4, _), (6, _), (19, _)]) ⟨rfl, rfl, rfl, rfl, rfl, trivial⟩ ?_
          refine QM.then ?_
          first | refine wpM.condD rfl (fun h9 => ?_) (fun h9 => ?_) | refine wpM.condB rfl (fun h9 => ?_) (fun h9 => ?_)
          ·
            refine wpM.seq ?_
            refine wpM.region ?_
            refine LM.val (ov_build (cs := #[_, _]) rfl (by first | rfl | kernel_rfl)) ?_
            refine LM.val (ov_build (cs := #[_, _]) rfl (by first | rfl | kernel_rfl)) ?_
            first | refine LM.stW Try.sizeOf61 rfl rfl rfl rfl (by first | rfl | decide | (simp; done)) (fun hlt => absurd hlt (by omega)) ?_ | refine LM.st Try.sizeOf61 rfl rfl rfl (by first | decide | exact Nat.le_of_ble_eq_true rfl | (simp; done) | (simp; omega)) rfl (fun hlt => absurd hlt (by omega)) ?_
            first | refine LM.stW Try.sizeOf61 rfl rfl rfl rfl (by first | rfl | decide | (simp; done)) (fun hlt => absurd hlt (by omega)) ?_ | refine LM.st Try.sizeOf61 rfl rfl rfl (by first | decide | exact Nat.le_of_ble_eq_true rfl | (simp; done) | (simp; omega)) rfl (fun hlt => absurd hlt (by omega)) ?_
            refine LM.nil ?_
            refine QM.sub (e' := [(2, _), (3, _)]) ⟨rfl, rfl, trivial⟩ ?_
            refine QM.then ?_
            refine wpM.ret ?_
            refine QM.block_ret ?_
            refine QM.then_ret ?_
            refine QM.leaveCs (ds := ([])) (.inl rfl) [.cell 2 61, .cell 3 61] Try.results30 hd_nil (rc_w rfl Try.isAgg61 Try.sizeOf61 rfl (rc_w rfl Try.isAgg61 Try.sizeOf61 rfl rc_nil)) ?_
            intro w' hm' hc'
            -- leaf 8: h1- h2- h7+ h8- h9+
            refine ⟨?_, hc'⟩; simp only [resV, loA, hiA, loB, hiB]; try ((repeat' split) <;> first | rfl | omega)
          ·
            refine wpM.seq ?_
            refine wpM.region ?_
            refine LM.val (ov_eql rfl rfl) ?_
            refine LM.val (ov_assign rfl) ?_
            refine LM.nil ?_
            refine QM.sub (e' := [(2, _), (3, _), (4, _), (6, _), (23, _)]) ⟨rfl, rfl, rfl, rfl, rfl, trivial⟩ ?_
            refine QM.then ?_
            first | refine wpM.condD rfl (fun h10 => ?_) (fun h10 => ?_) | refine wpM.condB rfl (fun h10 => ?_) (fun h10 => ?_)
            ·
              refine wpM.seq ?_
              refine wpM.toAltO (b2) [.cells #[.int .i64 0, .int .i64 0] 61 (0, 0), .cells #[.int .i64 (1), .int .i64 (64)] 61 (0, 0)] (by first | exact .head _ | (simp; done)) (fun hMc => ?_)
              refine wpM.draw [(0, 0), (1, 1), (2, 2), (3, 3)] (by kernel_rfl) (by kernel_rfl) ?_
              refine LD.val rfl rfl (ov_build (cs := #[_, _]) rfl (by first | rfl | kernel_rfl)) ?_
              first | refine LD.rd rfl rfl (om_ldW Try.isAgg61 Try.sizeOf61 rfl rfl) ?_ | refine LD.rd rfl rfl (om_ldA Try.isAgg61 Try.sizeOf61 rfl (vs := [_, _]) rfl ⟨rfl, rfl, trivial⟩) ?_
              refine LD.stAltO [.cells #[.int .i64 (1), .int .i64 (64)] 61 (0, 0)] rfl rfl Try.sizeOf61 rfl rfl rfl (by decide) (by simp) (by simp only [List.forall_mem_cons, List.not_mem_nil, false_implies, implies_true, and_true]; exact ⟨⟨_, _, rfl, by decide, .head _⟩, ⟨_, _, rfl, by decide, .head _⟩⟩) (fun hlt => absurd hlt (by omega)) hMc ?_
              refine LD.tail rfl rfl ?_
              refine LM.ofAltO ?_
              first | refine LM.stW Try.sizeOf61 rfl rfl rfl rfl (by first | rfl | decide | (simp; done)) (fun hlt => absurd hlt (by omega)) ?_ | refine LM.st Try.sizeOf61 rfl rfl rfl (by first | decide | exact Nat.le_of_ble_eq_true rfl | (simp; done) | (simp; omega)) rfl (fun hlt => absurd hlt (by omega)) ?_
              refine LM.nil ?_
              refine QM.qn ?_
              refine QM.sub (e' := [(2, _), (3, _)]) ⟨rfl, rfl, trivial⟩ ?_
              refine QM.then ?_
              refine wpM.ret ?_
              refine QM.block_ret ?_
              refine QM.then_ret ?_
              refine QM.leaveCs (ds := ([])) (.inl rfl) [.cell 2 61, .cell 3 61] Try.results30 hd_nil (rc_w rfl Try.isAgg61 Try.sizeOf61 rfl (rc_w rfl Try.isAgg61 Try.sizeOf61 rfl rc_nil)) ?_
              intro w' hm' hc'
              -- leaf 9: h1- h2- h7+ h8- h9- h10+
              refine ⟨?_, hc'⟩; simp only [resV, loA, hiA, loB, hiB]; try ((repeat' split) <;> first | rfl | omega)
            ·
              refine wpM.seq ?_
              refine wpM.region ?_
              refine LM.val (ov_eql rfl rfl) ?_
              refine LM.val (ov_assign rfl) ?_
              refine LM.nil ?_
              refine QM.sub (e' := [(2, _), (3, _), (4, _), (27, _)]) ⟨rfl, rfl, rfl, rfl, trivial⟩ ?_
              refine QM.then ?_
              first | refine wpM.condD rfl (fun h11 => ?_) (fun h11 => ?_) | refine wpM.condB rfl (fun h11 => ?_) (fun h11 => ?_)
              ·
                refine wpM.seq ?_
                refine wpM.toAltO (b2) [.cells #[.int .i64 0, .int .i64 0] 61 (0, 0), .cells #[.int .i64 (1), .int .i64 (16)] 61 (0, 0)] (by first | exact .head _ | (simp; done)) (fun hMc => ?_)
                refine wpM.draw [(0, 0), (1, 1), (2, 2), (3, 3)] (by kernel_rfl) (by kernel_rfl) ?_
                refine LD.val rfl rfl (ov_build (cs := #[_, _]) rfl (by first | rfl | kernel_rfl)) ?_
                first | refine LD.rd rfl rfl (om_ldW Try.isAgg61 Try.sizeOf61 rfl rfl) ?_ | refine LD.rd rfl rfl (om_ldA Try.isAgg61 Try.sizeOf61 rfl (vs := [_, _]) rfl ⟨rfl, rfl, trivial⟩) ?_
                refine LD.stAltO [.cells #[.int .i64 (1), .int .i64 (16)] 61 (0, 0)] rfl rfl Try.sizeOf61 rfl rfl rfl (by decide) (by simp) (by simp only [List.forall_mem_cons, List.not_mem_nil, false_implies, implies_true, and_true]; exact ⟨⟨_, _, rfl, by decide, .head _⟩, ⟨_, _, rfl, by decide, .head _⟩⟩) (fun hlt => absurd hlt (by omega)) hMc ?_
                refine LD.tail rfl rfl ?_
                refine LM.ofAltO ?_
                first | refine LM.stW Try.sizeOf61 rfl rfl rfl rfl (by first | rfl | decide | (simp; done)) (fun hlt => absurd hlt (by omega)) ?_ | refine LM.st Try.sizeOf61 rfl rfl rfl (by first | decide | exact Nat.le_of_ble_eq_true rfl | (simp; done) | (simp; omega)) rfl (fun hlt => absurd hlt (by omega)) ?_
                refine LM.nil ?_
                refine QM.qn ?_
                refine QM.sub (e' := [(2, _), (3, _)]) ⟨rfl, rfl, trivial⟩ ?_
                refine QM.then ?_
                refine wpM.ret ?_
                refine QM.block_ret ?_
                refine QM.then_ret ?_
                refine QM.leaveCs (ds := ([])) (.inl rfl) [.cell 2 61, .cell 3 61] Try.results30 hd_nil (rc_w rfl Try.isAgg61 Try.sizeOf61 rfl (rc_w rfl Try.isAgg61 Try.sizeOf61 rfl rc_nil)) ?_
                intro w' hm' hc'
                -- leaf 10: h1- h2- h7+ h8- h9- h10- h11+
                refine ⟨?_, hc'⟩; simp only [resV, loA, hiA, loB, hiB]; try ((repeat' split) <;> first | rfl | omega)
              ·
                refine wpM.skip ?_
                refine QM.block_normal ?_
                refine QM.then ?_
                refine wpM.seq ?_
                refine wpM.toAltO (b2) [.cells #[.int .i64 0, .int .i64 0] 61 (0, 0), .cells #[.int .i64 (-1), .int .i64 (-1)] 61 (0, 0)] (by first | exact .head _ | (simp; done)) (fun hMc => ?_)
                refine wpM.draw [(0, 1), (1, 1), (2, 2), (3, 3)] (by kernel_rfl) (by kernel_rfl) ?_
                first | refine LD.rd rfl rfl (om_ldW Try.isAgg61 Try.sizeOf61 rfl rfl) ?_ | refine LD.rd rfl rfl (om_ldA Try.isAgg61 Try.sizeOf61 rfl (vs := [_, _]) rfl ⟨rfl, rfl, trivial⟩) ?_
                first | refine LD.rd rfl rfl (om_ldW Try.isAgg61 Try.sizeOf61 rfl rfl) ?_ | refine LD.rd rfl rfl (om_ldA Try.isAgg61 Try.sizeOf61 rfl (vs := [_, _]) rfl ⟨rfl, rfl, trivial⟩) ?_
                refine LD.stAltO [.cells #[.int .i64 (-1), .int .i64 (-1)] 61 (0, 0)] rfl rfl Try.sizeOf61 rfl rfl rfl (by decide) (by simp) (by simp only [List.forall_mem_cons, List.not_mem_nil, false_implies, implies_true, and_true]; exact ⟨⟨_, _, rfl, by decide, .head _⟩, ⟨_, _, rfl, by decide, .head _⟩⟩) (fun hlt => absurd hlt (by omega)) hMc ?_
                refine LD.tail rfl rfl ?_
                refine LM.ofAltO ?_
                first | refine LM.stW Try.sizeOf61 rfl rfl rfl rfl (by first | rfl | decide | (simp; done)) (fun hlt => absurd hlt (by omega)) ?_ | refine LM.st Try.sizeOf61 rfl rfl rfl (by first | decide | exact Nat.le_of_ble_eq_true rfl | (simp; done) | (simp; omega)) rfl (fun hlt => absurd hlt (by omega)) ?_
                refine LM.nil ?_
                refine QM.qn ?_
                refine QM.sub (e' := [(2, _), (3, _)]) ⟨rfl, rfl, trivial⟩ ?_
                refine QM.then ?_
                refine wpM.ret ?_
                refine QM.leaveCs (ds := ([])) (.inl rfl) [.cell 2 61, .cell 3 61] Try.results30 hd_nil (rc_w rfl Try.isAgg61 Try.sizeOf61 rfl (rc_w rfl Try.isAgg61 Try.sizeOf61 rfl rc_nil)) ?_
                intro w' hm' hc'
                -- leaf 11: h1- h2- h7+ h8- h9- h10- h11-
                refine ⟨?_, hc'⟩; simp only [resV, loA, hiA, loB, hiB]; try ((repeat' split) <;> first | rfl | omega)
      ·
        refine wpM.seq ?_
        refine wpM.region ?_
        refine LM.val (ov_eql rfl rfl) ?_
        refine LM.val (ov_assign rfl) ?_
        refine LM.nil ?_
        refine QM.sub (e' := [(2, _), (3, _), (4, _), (6, _), (11, _)]) ⟨rfl, rfl, rfl, rfl, rfl, trivial⟩ ?_
        refine QM.then ?_
        first | refine wpM.condD rfl (fun h12 => ?_) (fun h12 => ?_) | refine wpM.condB rfl (fun h12 => ?_) (fun h12 => ?_)
        ·
          refine wpM.skip ?_
          refine QM.then ?_
          first | refine wpM.condD rfl (fun h13 => ?_) (fun h13 => ?_) | refine wpM.condB rfl (fun h13 => ?_) (fun h13 => ?_)
          ·
            refine wpM.seq ?_
            refine wpM.toAltO (b2) [.cells #[.int .i64 0, .int .i64 0] 61 (0, 0), .cells #[.int .i64 (0), .int .i64 (7)] 61 (0, 0)] (by first | exact .head _ | (simp; done)) (fun hMc => ?_)
            refine wpM.draw [(0, 0), (1, 1), (2, 2), (3, 3)] (by kernel_rfl) (by kernel_rfl) ?_
            refine LD.val rfl rfl (ov_build (cs := #[_, _]) rfl (by first | rfl | kernel_rfl)) ?_
            first | refine LD.rd rfl rfl (om_ldW Try.isAgg61 Try.sizeOf61 rfl rfl) ?_ | refine LD.rd rfl rfl (om_ldA Try.isAgg61 Try.sizeOf61 rfl (vs := [_, _]) rfl ⟨rfl, rfl, trivial⟩) ?_
            refine LD.stAltO [.cells #[.int .i64 (0), .int .i64 (7)] 61 (0, 0)] rfl rfl Try.sizeOf61 rfl rfl rfl (by decide) (by simp) (by simp only [List.forall_mem_cons, List.not_mem_nil, false_implies, implies_true, and_true]; exact ⟨⟨_, _, rfl, by decide, .head _⟩, ⟨_, _, rfl, by decide, .head _⟩⟩) (fun hlt => absurd hlt (by omega)) hMc ?_
            refine LD.tail rfl rfl ?_
            refine LM.ofAltO ?_
            first | refine LM.stW Try.sizeOf61 rfl rfl rfl rfl (by first | rfl | decide | (simp; done)) (fun hlt => absurd hlt (by omega)) ?_ | refine LM.st Try.sizeOf61 rfl rfl rfl (by first | decide | exact Nat.le_of_ble_eq_true rfl | (simp; done) | (simp; omega)) rfl (fun hlt => absurd hlt (by omega)) ?_
            refine LM.nil ?_
            refine QM.qn ?_
            refine QM.sub (e' := [(2, _), (3, _)]) ⟨rfl, rfl, trivial⟩ ?_
            refine QM.then ?_
            refine wpM.ret ?_
            refine QM.block_ret ?_
            refine QM.then_ret ?_
            refine QM.leaveCs (ds := ([])) (.inl rfl) [.cell 2 61, .cell 3 61] Try.results30 hd_nil (rc_w rfl Try.isAgg61 Try.sizeOf61 rfl (rc_w rfl Try.isAgg61 Try.sizeOf61 rfl rc_nil)) ?_
            intro w' hm' hc'
            -- leaf 12: h1- h2- h7- h12+ h13+
            refine ⟨?_, hc'⟩; simp only [resV, loA, hiA, loB, hiB]; try ((repeat' split) <;> first | rfl | omega)
          ·
            refine wpM.seq ?_
            refine wpM.region ?_
            refine LM.val (ov_eql rfl rfl) ?_
            refine LM.val (ov_assign rfl) ?_
            refine LM.nil ?_
            refine QM.sub (e' := [(2, _), (3, _), (4, _), (6, _), (19, _)]) ⟨rfl, rfl, rfl, rfl, rfl, trivial⟩ ?_
            refine QM.then ?_
            first | refine wpM.condD rfl (fun h14 => ?_) (fun h14 => ?_) | refine wpM.condB rfl (fun h14 => ?_) (fun h14 => ?_)
            ·
              refine wpM.seq ?_
              refine wpM.region ?_
              refine LM.val (ov_build (cs := #[_, _]) rfl (by first | rfl | kernel_rfl)) ?_
              refine LM.val (ov_build (cs := #[_, _]) rfl (by first | rfl | kernel_rfl)) ?_
              first | refine LM.stW Try.sizeOf61 rfl rfl rfl rfl (by first | rfl | decide | (simp; done)) (fun hlt => absurd hlt (by omega)) ?_ | refine LM.st Try.sizeOf61 rfl rfl rfl (by first | decide | exact Nat.le_of_ble_eq_true rfl | (simp; done) | (simp; omega)) rfl (fun hlt => absurd hlt (by omega)) ?_
              first | refine LM.stW Try.sizeOf61 rfl rfl rfl rfl (by first | rfl | decide | (simp; done)) (fun hlt => absurd hlt (by omega)) ?_ | refine LM.st Try.sizeOf61 rfl rfl rfl (by first | decide | exact Nat.le_of_ble_eq_true rfl | (simp; done) | (simp; omega)) rfl (fun hlt => absurd hlt (by omega)) ?_
              refine LM.nil ?_
              refine QM.sub (e' := [(2, _), (3, _)]) ⟨rfl, rfl, trivial⟩ ?_
              refine QM.then ?_
              refine wpM.ret ?_
              refine QM.block_ret ?_
              refine QM.then_ret ?_
              refine QM.leaveCs (ds := ([])) (.inl rfl) [.cell 2 61, .cell 3 61] Try.results30 hd_nil (rc_w rfl Try.isAgg61 Try.sizeOf61 rfl (rc_w rfl Try.isAgg61 Try.sizeOf61 rfl rc_nil)) ?_
              intro w' hm' hc'
              -- leaf 13: h1- h2- h7- h12+ h13- h14+
              refine ⟨?_, hc'⟩; simp only [resV, loA, hiA, loB, hiB]; try ((repeat' split) <;> first | rfl | omega)
            ·
              refine wpM.seq ?_
              refine wpM.region ?_
              refine LM.val (ov_eql rfl rfl) ?_
              refine LM.val (ov_assign rfl) ?_
              refine LM.nil ?_
              refine QM.sub (e' := [(2, _), (3, _), (4, _), (6, _), (23, _)]) ⟨rfl, rfl, rfl, rfl, rfl, trivial⟩ ?_
              refine QM.then ?_
              first | refine wpM.condD rfl (fun h15 => ?_) (fun h15 => ?_) | refine wpM.condB rfl (fun h15 => ?_) (fun h15 => ?_)
              ·
                refine wpM.seq ?_
                refine wpM.toAltO (b2) [.cells #[.int .i64 0, .int .i64 0] 61 (0, 0), .cells #[.int .i64 (1), .int .i64 (64)] 61 (0, 0)] (by first | exact .head _ | (simp; done)) (fun hMc => ?_)
                refine wpM.draw [(0, 0), (1, 1), (2, 2), (3, 3)] (by kernel_rfl) (by kernel_rfl) ?_
                refine LD.val rfl rfl (ov_build (cs := #[_, _]) rfl (by first | rfl | kernel_rfl)) ?_
                first | refine LD.rd rfl rfl (om_ldW Try.isAgg61 Try.sizeOf61 rfl rfl) ?_ | refine LD.rd rfl rfl (om_ldA Try.isAgg61 Try.sizeOf61 rfl (vs := [_, _]) rfl ⟨rfl, rfl, trivial⟩) ?_
                refine LD.stAltO [.cells #[.int .i64 (1), .int .i64 (64)] 61 (0, 0)] rfl rfl Try.sizeOf61 rfl rfl rfl (by decide) (by simp) (by simp only [List.forall_mem_cons, List.not_mem_nil, false_implies, implies_true, and_true]; exact ⟨⟨_, _, rfl, by decide, .head _⟩, ⟨_, _, rfl, by decide, .head _⟩⟩) (fun hlt => absurd hlt (by omega)) hMc ?_
                refine LD.tail rfl rfl ?_
                refine LM.ofAltO ?_
                first | refine LM.stW Try.sizeOf61 rfl rfl rfl rfl (by first | rfl | decide | (simp; done)) (fun hlt => absurd hlt (by omega)) ?_ | refine LM.st Try.sizeOf61 rfl rfl rfl (by first | decide | exact Nat.le_of_ble_eq_true rfl | (simp; done) | (simp; omega)) rfl (fun hlt => absurd hlt (by omega)) ?_
                refine LM.nil ?_
                refine QM.qn ?_
                refine QM.sub (e' := [(2, _), (3, _)]) ⟨rfl, rfl, trivial⟩ ?_
                refine QM.then ?_
                refine wpM.ret ?_
                refine QM.block_ret ?_
                refine QM.then_ret ?_
                refine QM.leaveCs (ds := ([])) (.inl rfl) [.cell 2 61, .cell 3 61] Try.results30 hd_nil (rc_w rfl Try.isAgg61 Try.sizeOf61 rfl (rc_w rfl Try.isAgg61 Try.sizeOf61 rfl rc_nil)) ?_
                intro w' hm' hc'
                -- leaf 14: h1- h2- h7- h12+ h13- h14- h15+
                refine ⟨?_, hc'⟩; simp only [resV, loA, hiA, loB, hiB]; try ((repeat' split) <;> first | rfl | omega)
              ·
                refine wpM.seq ?_
                refine wpM.region ?_
                refine LM.val (ov_eql rfl rfl) ?_
                refine LM.val (ov_assign rfl) ?_
                refine LM.nil ?_
                refine QM.sub (e' := [(2, _), (3, _), (4, _), (27, _)]) ⟨rfl, rfl, rfl, rfl, trivial⟩ ?_
                refine QM.then ?_
                first | refine wpM.condD rfl (fun h16 => ?_) (fun h16 => ?_) | refine wpM.condB rfl (fun h16 => ?_) (fun h16 => ?_)
                ·
                  refine wpM.seq ?_
                  refine wpM.toAltO (b2) [.cells #[.int .i64 0, .int .i64 0] 61 (0, 0), .cells #[.int .i64 (1), .int .i64 (16)] 61 (0, 0)] (by first | exact .head _ | (simp; done)) (fun hMc => ?_)
                  refine wpM.draw [(0, 0), (1, 1), (2, 2), (3, 3)] (by kernel_rfl) (by kernel_rfl) ?_
                  refine LD.val rfl rfl (ov_build (cs := #[_, _]) rfl (by first | rfl | kernel_rfl)) ?_
                  first | refine LD.rd rfl rfl (om_ldW Try.isAgg61 Try.sizeOf61 rfl rfl) ?_ | refine LD.rd rfl rfl (om_ldA Try.isAgg61 Try.sizeOf61 rfl (vs := [_, _]) rfl ⟨rfl, rfl, trivial⟩) ?_
                  refine LD.stAltO [.cells #[.int .i64 (1), .int .i64 (16)] 61 (0, 0)] rfl rfl Try.sizeOf61 rfl rfl rfl (by decide) (by simp) (by simp only [List.forall_mem_cons, List.not_mem_nil, false_implies, implies_true, and_true]; exact ⟨⟨_, _, rfl, by decide, .head _⟩, ⟨_, _, rfl, by decide, .head _⟩⟩) (fun hlt => absurd hlt (by omega)) hMc ?_
                  refine LD.tail rfl rfl ?_
                  refine LM.ofAltO ?_
                  first | refine LM.stW Try.sizeOf61 rfl rfl rfl rfl (by first | rfl | decide | (simp; done)) (fun hlt => absurd hlt (by omega)) ?_ | refine LM.st Try.sizeOf61 rfl rfl rfl (by first | decide | exact Nat.le_of_ble_eq_true rfl | (simp; done) | (simp; omega)) rfl (fun hlt => absurd hlt (by omega)) ?_
                  refine LM.nil ?_
                  refine QM.qn ?_
                  refine QM.sub (e' := [(2, _), (3, _)]) ⟨rfl, rfl, trivial⟩ ?_
                  refine QM.then ?_
                  refine wpM.ret ?_
                  refine QM.block_ret ?_
                  refine QM.then_ret ?_
                  refine QM.leaveCs (ds := ([])) (.inl rfl) [.cell 2 61, .cell 3 61] Try.results30 hd_nil (rc_w rfl Try.isAgg61 Try.sizeOf61 rfl (rc_w rfl Try.isAgg61 Try.sizeOf61 rfl rc_nil)) ?_
                  intro w' hm' hc'
                  -- leaf 15: h1- h2- h7- h12+ h13- h14- h15- h16+
                  refine ⟨?_, hc'⟩; simp only [resV, loA, hiA, loB, hiB]; try ((repeat' split) <;> first | rfl | omega)
                ·
                  refine wpM.skip ?_
                  refine QM.block_normal ?_
                  refine QM.then ?_
                  refine wpM.seq ?_
                  refine wpM.toAltO (b2) [.cells #[.int .i64 0, .int .i64 0] 61 (0, 0), .cells #[.int .i64 (-1), .int .i64 (-1)] 61 (0, 0)] (by first | exact .head _ | (simp; done)) (fun hMc => ?_)
                  refine wpM.draw [(0, 1), (1, 1), (2, 2), (3, 3)] (by kernel_rfl) (by kernel_rfl) ?_
                  first | refine LD.rd rfl rfl (om_ldW Try.isAgg61 Try.sizeOf61 rfl rfl) ?_ | refine LD.rd rfl rfl (om_ldA Try.isAgg61 Try.sizeOf61 rfl (vs := [_, _]) rfl ⟨rfl, rfl, trivial⟩) ?_
                  first | refine LD.rd rfl rfl (om_ldW Try.isAgg61 Try.sizeOf61 rfl rfl) ?_ | refine LD.rd rfl rfl (om_ldA Try.isAgg61 Try.sizeOf61 rfl (vs := [_, _]) rfl ⟨rfl, rfl, trivial⟩) ?_
                  refine LD.stAltO [.cells #[.int .i64 (-1), .int .i64 (-1)] 61 (0, 0)] rfl rfl Try.sizeOf61 rfl rfl rfl (by decide) (by simp) (by simp only [List.forall_mem_cons, List.not_mem_nil, false_implies, implies_true, and_true]; exact ⟨⟨_, _, rfl, by decide, .head _⟩, ⟨_, _, rfl, by decide, .head _⟩⟩) (fun hlt => absurd hlt (by omega)) hMc ?_
                  refine LD.tail rfl rfl ?_
                  refine LM.ofAltO ?_
                  first | refine LM.stW Try.sizeOf61 rfl rfl rfl rfl (by first | rfl | decide | (simp; done)) (fun hlt => absurd hlt (by omega)) ?_ | refine LM.st Try.sizeOf61 rfl rfl rfl (by first | decide | exact Nat.le_of_ble_eq_true rfl | (simp; done) | (simp; omega)) rfl (fun hlt => absurd hlt (by omega)) ?_
                  refine LM.nil ?_
                  refine QM.qn ?_
                  refine QM.sub (e' := [(2, _), (3, _)]) ⟨rfl, rfl, trivial⟩ ?_
                  refine QM.then ?_
                  refine wpM.ret ?_
                  refine QM.leaveCs (ds := ([])) (.inl rfl) [.cell 2 61, .cell 3 61] Try.results30 hd_nil (rc_w rfl Try.isAgg61 Try.sizeOf61 rfl (rc_w rfl Try.isAgg61 Try.sizeOf61 rfl rc_nil)) ?_
                  intro w' hm' hc'
                  -- leaf 16: h1- h2- h7- h12+ h13- h14- h15- h16-
                  refine ⟨?_, hc'⟩; simp only [resV, loA, hiA, loB, hiB]; try ((repeat' split) <;> first | rfl | omega)
        ·
          refine wpM.seq ?_
          refine wpM.region ?_
          refine LM.val (ov_eql rfl rfl) ?_
          refine LM.val (ov_assign rfl) ?_
          refine LM.nil ?_
          refine QM.sub (e' := [(2, _), (3, _), (4, _), (6, _), (11, _)]) ⟨rfl, rfl, rfl, rfl, rfl, trivial⟩ ?_
          refine QM.then ?_
          first | refine wpM.condD rfl (fun h17 => ?_) (fun h17 => ?_) | refine wpM.condB rfl (fun h17 => ?_) (fun h17 => ?_)
          ·
            refine wpM.skip ?_
            refine QM.then ?_
            first | refine wpM.condD rfl (fun h18 => ?_) (fun h18 => ?_) | refine wpM.condB rfl (fun h18 => ?_) (fun h18 => ?_)
            ·
              refine wpM.seq ?_
              refine wpM.toAltO (b2) [.cells #[.int .i64 0, .int .i64 0] 61 (0, 0), .cells #[.int .i64 (0), .int .i64 (7)] 61 (0, 0)] (by first | exact .head _ | (simp; done)) (fun hMc => ?_)
              refine wpM.draw [(0, 0), (1, 1), (2, 2), (3, 3)] (by kernel_rfl) (by kernel_rfl) ?_
              refine LD.val rfl rfl (ov_build (cs := #[_, _]) rfl (by first | rfl | kernel_rfl)) ?_
              first | refine LD.rd rfl rfl (om_ldW Try.isAgg61 Try.sizeOf61 rfl rfl) ?_ | refine LD.rd rfl rfl (om_ldA Try.isAgg61 Try.sizeOf61 rfl (vs := [_, _]) rfl ⟨rfl, rfl, trivial⟩) ?_
              refine LD.stAltO [.cells #[.int .i64 (0), .int .i64 (7)] 61 (0, 0)] rfl rfl Try.sizeOf61 rfl rfl rfl (by decide) (by simp) (by simp only [List.forall_mem_cons, List.not_mem_nil, false_implies, implies_true, and_true]; exact ⟨⟨_, _, rfl, by decide, .head _⟩, ⟨_, _, rfl, by decide, .head _⟩⟩) (fun hlt => absurd hlt (by omega)) hMc ?_
              refine LD.tail rfl rfl ?_
              refine LM.ofAltO ?_
              first | refine LM.stW Try.sizeOf61 rfl rfl rfl rfl (by first | rfl | decide | (simp; done)) (fun hlt => absurd hlt (by omega)) ?_ | refine LM.st Try.sizeOf61 rfl rfl rfl (by first | decide | exact Nat.le_of_ble_eq_true rfl | (simp; done) | (simp; omega)) rfl (fun hlt => absurd hlt (by omega)) ?_
              refine LM.nil ?_
              refine QM.qn ?_
              refine QM.sub (e' := [(2, _), (3, _)]) ⟨rfl, rfl, trivial⟩ ?_
              refine QM.then ?_
              refine wpM.ret ?_
              refine QM.block_ret ?_
              refine QM.then_ret ?_
              refine QM.leaveCs (ds := ([])) (.inl rfl) [.cell 2 61, .cell 3 61] Try.results30 hd_nil (rc_w rfl Try.isAgg61 Try.sizeOf61 rfl (rc_w rfl Try.isAgg61 Try.sizeOf61 rfl rc_nil)) ?_
              intro w' hm' hc'
              -- leaf 17: h1- h2- h7- h12- h17+ h18+
              refine ⟨?_, hc'⟩; simp only [resV, loA, hiA, loB, hiB]; try ((repeat' split) <;> first | rfl | omega)
            ·
              refine wpM.seq ?_
              refine wpM.region ?_
              refine LM.val (ov_eql rfl rfl) ?_
              refine LM.val (ov_assign rfl) ?_
              refine LM.nil ?_
              refine QM.sub (e' := [(2, _), (3, _), (4, _), (6, _), (19, _)]) ⟨rfl, rfl, rfl, rfl, rfl, trivial⟩ ?_
              refine QM.then ?_
              first | refine wpM.condD rfl (fun h19 => ?_) (fun h19 => ?_) | refine wpM.condB rfl (fun h19 => ?_) (fun h19 => ?_)
              ·
                refine wpM.seq ?_
                refine wpM.region ?_
                refine LM.val (ov_build (cs := #[_, _]) rfl (by first | rfl | kernel_rfl)) ?_
                refine LM.val (ov_build (cs := #[_, _]) rfl (by first | rfl | kernel_rfl)) ?_
                first | refine LM.stW Try.sizeOf61 rfl rfl rfl rfl (by first | rfl | decide | (simp; done)) (fun hlt => absurd hlt (by omega)) ?_ | refine LM.st Try.sizeOf61 rfl rfl rfl (by first | decide | exact Nat.le_of_ble_eq_true rfl | (simp; done) | (simp; omega)) rfl (fun hlt => absurd hlt (by omega)) ?_
                first | refine LM.stW Try.sizeOf61 rfl rfl rfl rfl (by first | rfl | decide | (simp; done)) (fun hlt => absurd hlt (by omega)) ?_ | refine LM.st Try.sizeOf61 rfl rfl rfl (by first | decide | exact Nat.le_of_ble_eq_true rfl | (simp; done) | (simp; omega)) rfl (fun hlt => absurd hlt (by omega)) ?_
                refine LM.nil ?_
                refine QM.sub (e' := [(2, _), (3, _)]) ⟨rfl, rfl, trivial⟩ ?_
                refine QM.then ?_
                refine wpM.ret ?_
                refine QM.block_ret ?_
                refine QM.then_ret ?_
                refine QM.leaveCs (ds := ([])) (.inl rfl) [.cell 2 61, .cell 3 61] Try.results30 hd_nil (rc_w rfl Try.isAgg61 Try.sizeOf61 rfl (rc_w rfl Try.isAgg61 Try.sizeOf61 rfl rc_nil)) ?_
                intro w' hm' hc'
                -- leaf 18: h1- h2- h7- h12- h17+ h18- h19+
                refine ⟨?_, hc'⟩; simp only [resV, loA, hiA, loB, hiB]; try ((repeat' split) <;> first | rfl | omega)
              ·
                refine wpM.seq ?_
                refine wpM.region ?_
                refine LM.val (ov_eql rfl rfl) ?_
                refine LM.val (ov_assign rfl) ?_
                refine LM.nil ?_
                refine QM.sub (e' := [(2, _), (3, _), (4, _), (6, _), (23, _)]) ⟨rfl, rfl, rfl, rfl, rfl, trivial⟩ ?_
                refine QM.then ?_
                first | refine wpM.condD rfl (fun h20 => ?_) (fun h20 => ?_) | refine wpM.condB rfl (fun h20 => ?_) (fun h20 => ?_)
                ·
                  refine wpM.seq ?_
                  refine wpM.toAltO (b2) [.cells #[.int .i64 0, .int .i64 0] 61 (0, 0), .cells #[.int .i64 (1), .int .i64 (64)] 61 (0, 0)] (by first | exact .head _ | (simp; done)) (fun hMc => ?_)
                  refine wpM.draw [(0, 0), (1, 1), (2, 2), (3, 3)] (by kernel_rfl) (by kernel_rfl) ?_
                  refine LD.val rfl rfl (ov_build (cs := #[_, _]) rfl (by first | rfl | kernel_rfl)) ?_
                  first | refine LD.rd rfl rfl (om_ldW Try.isAgg61 Try.sizeOf61 rfl rfl) ?_ | refine LD.rd rfl rfl (om_ldA Try.isAgg61 Try.sizeOf61 rfl (vs := [_, _]) rfl ⟨rfl, rfl, trivial⟩) ?_
                  refine LD.stAltO [.cells #[.int .i64 (1), .int .i64 (64)] 61 (0, 0)] rfl rfl Try.sizeOf61 rfl rfl rfl (by decide) (by simp) (by simp only [List.forall_mem_cons, List.not_mem_nil, false_implies, implies_true, and_true]; exact ⟨⟨_, _, rfl, by decide, .head _⟩, ⟨_, _, rfl, by decide, .head _⟩⟩) (fun hlt => absurd hlt (by omega)) hMc ?_
                  refine LD.tail rfl rfl ?_
                  refine LM.ofAltO ?_
                  first | refine LM.stW Try.sizeOf61 rfl rfl rfl rfl (by first | rfl | decide | (simp; done)) (fun hlt => absurd hlt (by omega)) ?_ | refine LM.st Try.sizeOf61 rfl rfl rfl (by first | decide | exact Nat.le_of_ble_eq_true rfl | (simp; done) | (simp; omega)) rfl (fun hlt => absurd hlt (by omega)) ?_
                  refine LM.nil ?_
                  refine QM.qn ?_
                  refine QM.sub (e' := [(2, _), (3, _)]) ⟨rfl, rfl, trivial⟩ ?_
                  refine QM.then ?_
                  refine wpM.ret ?_
                  refine QM.block_ret ?_
                  refine QM.then_ret ?_
                  refine QM.leaveCs (ds := ([])) (.inl rfl) [.cell 2 61, .cell 3 61] Try.results30 hd_nil (rc_w rfl Try.isAgg61 Try.sizeOf61 rfl (rc_w rfl Try.isAgg61 Try.sizeOf61 rfl rc_nil)) ?_
                  intro w' hm' hc'
                  -- leaf 19: h1- h2- h7- h12- h17+ h18- h19- h20+
                  refine ⟨?_, hc'⟩; simp only [resV, loA, hiA, loB, hiB]; try ((repeat' split) <;> first | rfl | omega)
                ·
                  refine wpM.seq ?_
                  refine wpM.region ?_
                  refine LM.val (ov_eql rfl rfl) ?_
                  refine LM.val (ov_assign rfl) ?_
                  refine LM.nil ?_
                  refine QM.sub (e' := [(2, _), (3, _), (4, _), (27, _)]) ⟨rfl, rfl, rfl, rfl, trivial⟩ ?_
                  refine QM.then ?_
                  first | refine wpM.condD rfl (fun h21 => ?_) (fun h21 => ?_) | refine wpM.condB rfl (fun h21 => ?_) (fun h21 => ?_)
                  ·
                    refine wpM.seq ?_
                    refine wpM.toAltO (b2) [.cells #[.int .i64 0, .int .i64 0] 61 (0, 0), .cells #[.int .i64 (1), .int .i64 (16)] 61 (0, 0)] (by first | exact .head _ | (simp; done)) (fun hMc => ?_)
                    refine wpM.draw [(0, 0), (1, 1), (2, 2), (3, 3)] (by kernel_rfl) (by kernel_rfl) ?_
                    refine LD.val rfl rfl (ov_build (cs := #[_, _]) rfl (by first | rfl | kernel_rfl)) ?_
                    first | refine LD.rd rfl rfl (om_ldW Try.isAgg61 Try.sizeOf61 rfl rfl) ?_ | refine LD.rd rfl rfl (om_ldA Try.isAgg61 Try.sizeOf61 rfl (vs := [_, _]) rfl ⟨rfl, rfl, trivial⟩) ?_
                    refine LD.stAltO [.cells #[.int .i64 (1), .int .i64 (16)] 61 (0, 0)] rfl rfl Try.sizeOf61 rfl rfl rfl (by decide) (by simp) (by simp only [List.forall_mem_cons, List.not_mem_nil, false_implies, implies_true, and_true]; exact ⟨⟨_, _, rfl, by decide, .head _⟩, ⟨_, _, rfl, by decide, .head _⟩⟩) (fun hlt => absurd hlt (by omega)) hMc ?_
                    refine LD.tail rfl rfl ?_
                    refine LM.ofAltO ?_
                    first | refine LM.stW Try.sizeOf61 rfl rfl rfl rfl (by first | rfl | decide | (simp; done)) (fun hlt => absurd hlt (by omega)) ?_ | refine LM.st Try.sizeOf61 rfl rfl rfl (by first | decide | exact Nat.le_of_ble_eq_true rfl | (simp; done) | (simp; omega)) rfl (fun hlt => absurd hlt (by omega)) ?_
                    refine LM.nil ?_
                    refine QM.qn ?_
                    refine QM.sub (e' := [(2, _), (3, _)]) ⟨rfl, rfl, trivial⟩ ?_
                    refine QM.then ?_
                    refine wpM.ret ?_
                    refine QM.block_ret ?_
                    refine QM.then_ret ?_
                    refine QM.leaveCs (ds := ([])) (.inl rfl) [.cell 2 61, .cell 3 61] Try.results30 hd_nil (rc_w rfl Try.isAgg61 Try.sizeOf61 rfl (rc_w rfl Try.isAgg61 Try.sizeOf61 rfl rc_nil)) ?_
                    intro w' hm' hc'
                    -- leaf 20: h1- h2- h7- h12- h17+ h18- h19- h20- h21+
                    refine ⟨?_, hc'⟩; simp only [resV, loA, hiA, loB, hiB]; try ((repeat' split) <;> first | rfl | omega)
                  ·
                    refine wpM.skip ?_
                    refine QM.block_normal ?_
                    refine QM.then ?_
                    refine wpM.seq ?_
                    refine wpM.toAltO (b2) [.cells #[.int .i64 0, .int .i64 0] 61 (0, 0), .cells #[.int .i64 (-1), .int .i64 (-1)] 61 (0, 0)] (by first | exact .head _ | (simp; done)) (fun hMc => ?_)
                    refine wpM.draw [(0, 1), (1, 1), (2, 2), (3, 3)] (by kernel_rfl) (by kernel_rfl) ?_
                    first | refine LD.rd rfl rfl (om_ldW Try.isAgg61 Try.sizeOf61 rfl rfl) ?_ | refine LD.rd rfl rfl (om_ldA Try.isAgg61 Try.sizeOf61 rfl (vs := [_, _]) rfl ⟨rfl, rfl, trivial⟩) ?_
                    first | refine LD.rd rfl rfl (om_ldW Try.isAgg61 Try.sizeOf61 rfl rfl) ?_ | refine LD.rd rfl rfl (om_ldA Try.isAgg61 Try.sizeOf61 rfl (vs := [_, _]) rfl ⟨rfl, rfl, trivial⟩) ?_
                    refine LD.stAltO [.cells #[.int .i64 (-1), .int .i64 (-1)] 61 (0, 0)] rfl rfl Try.sizeOf61 rfl rfl rfl (by decide) (by simp) (by simp only [List.forall_mem_cons, List.not_mem_nil, false_implies, implies_true, and_true]; exact ⟨⟨_, _, rfl, by decide, .head _⟩, ⟨_, _, rfl, by decide, .head _⟩⟩) (fun hlt => absurd hlt (by omega)) hMc ?_
                    refine LD.tail rfl rfl ?_
                    refine LM.ofAltO ?_
                    first | refine LM.stW Try.sizeOf61 rfl rfl rfl rfl (by first | rfl | decide | (simp; done)) (fun hlt => absurd hlt (by omega)) ?_ | refine LM.st Try.sizeOf61 rfl rfl rfl (by first | decide | exact Nat.le_of_ble_eq_true rfl | (simp; done) | (simp; omega)) rfl (fun hlt => absurd hlt (by omega)) ?_
                    refine LM.nil ?_
                    refine QM.qn ?_
                    refine QM.sub (e' := [(2, _), (3, _)]) ⟨rfl, rfl, trivial⟩ ?_
                    refine QM.then ?_
                    refine wpM.ret ?_
                    refine QM.leaveCs (ds := ([])) (.inl rfl) [.cell 2 61, .cell 3 61] Try.results30 hd_nil (rc_w rfl Try.isAgg61 Try.sizeOf61 rfl (rc_w rfl Try.isAgg61 Try.sizeOf61 rfl rc_nil)) ?_
                    intro w' hm' hc'
                    -- leaf 21: h1- h2- h7- h12- h17+ h18- h19- h20- h21-
                    refine ⟨?_, hc'⟩; simp only [resV, loA, hiA, loB, hiB]; try ((repeat' split) <;> first | rfl | omega)
          ·
            refine wpM.region ?_
            refine LM.val (ov_eql rfl rfl) ?_
            refine LM.val (ov_assign rfl) ?_
            refine LM.nil ?_
            refine QM.sub (e' := [(2, _), (3, _), (4, _), (6, _), (11, _)]) ⟨rfl, rfl, rfl, rfl, rfl, trivial⟩ ?_
            refine QM.then ?_
            first | refine wpM.condD rfl (fun h22 => ?_) (fun h22 => ?_) | refine wpM.condB rfl (fun h22 => ?_) (fun h22 => ?_)
            ·
              refine wpM.seq ?_
              refine wpM.toAltO (b2) [.cells #[.int .i64 0, .int .i64 0] 61 (0, 0), .cells #[.int .i64 (0), .int .i64 (7)] 61 (0, 0)] (by first | exact .head _ | (simp; done)) (fun hMc => ?_)
              refine wpM.draw [(0, 0), (1, 1), (2, 2), (3, 3)] (by kernel_rfl) (by kernel_rfl) ?_
              refine LD.val rfl rfl (ov_build (cs := #[_, _]) rfl (by first | rfl | kernel_rfl)) ?_
              first | refine LD.rd rfl rfl (om_ldW Try.isAgg61 Try.sizeOf61 rfl rfl) ?_ | refine LD.rd rfl rfl (om_ldA Try.isAgg61 Try.sizeOf61 rfl (vs := [_, _]) rfl ⟨rfl, rfl, trivial⟩) ?_
              refine LD.stAltO [.cells #[.int .i64 (0), .int .i64 (7)] 61 (0, 0)] rfl rfl Try.sizeOf61 rfl rfl rfl (by decide) (by simp) (by simp only [List.forall_mem_cons, List.not_mem_nil, false_implies, implies_true, and_true]; exact ⟨⟨_, _, rfl, by decide, .head _⟩, ⟨_, _, rfl, by decide, .head _⟩⟩) (fun hlt => absurd hlt (by omega)) hMc ?_
              refine LD.tail rfl rfl ?_
              refine LM.ofAltO ?_
              first | refine LM.stW Try.sizeOf61 rfl rfl rfl rfl (by first | rfl | decide | (simp; done)) (fun hlt => absurd hlt (by omega)) ?_ | refine LM.st Try.sizeOf61 rfl rfl rfl (by first | decide | exact Nat.le_of_ble_eq_true rfl | (simp; done) | (simp; omega)) rfl (fun hlt => absurd hlt (by omega)) ?_
              refine LM.nil ?_
              refine QM.qn ?_
              refine QM.sub (e' := [(2, _), (3, _)]) ⟨rfl, rfl, trivial⟩ ?_
              refine QM.then ?_
              refine wpM.ret ?_
              refine QM.block_ret ?_
              refine QM.then_ret ?_
              refine QM.leaveCs (ds := ([])) (.inl rfl) [.cell 2 61, .cell 3 61] Try.results30 hd_nil (rc_w rfl Try.isAgg61 Try.sizeOf61 rfl (rc_w rfl Try.isAgg61 Try.sizeOf61 rfl rc_nil)) ?_
              intro w' hm' hc'
              -- leaf 22: h1- h2- h7- h12- h17- h22+
              refine ⟨?_, hc'⟩; simp only [resV, loA, hiA, loB, hiB]; try ((repeat' split) <;> first | rfl | omega)
            ·
              refine wpM.seq ?_
              refine wpM.region ?_
              refine LM.val (ov_eql rfl rfl) ?_
              refine LM.val (ov_assign rfl) ?_
              refine LM.nil ?_
              refine QM.sub (e' := [(2, _), (3, _), (4, _), (6, _), (19, _)]) ⟨rfl, rfl, rfl, rfl, rfl, trivial⟩ ?_
              refine QM.then ?_
              first | refine wpM.condD rfl (fun h23 => ?_) (fun h23 => ?_) | refine wpM.condB rfl (fun h23 => ?_) (fun h23 => ?_)
              ·
                refine wpM.seq ?_
                refine wpM.region ?_
                refine LM.val (ov_build (cs := #[_, _]) rfl (by first | rfl | kernel_rfl)) ?_
                refine LM.val (ov_build (cs := #[_, _]) rfl (by first | rfl | kernel_rfl)) ?_
                first | refine LM.stW Try.sizeOf61 rfl rfl rfl rfl (by first | rfl | decide | (simp; done)) (fun hlt => absurd hlt (by omega)) ?_ | refine LM.st Try.sizeOf61 rfl rfl rfl (by first | decide | exact Nat.le_of_ble_eq_true rfl | (simp; done) | (simp; omega)) rfl (fun hlt => absurd hlt (by omega)) ?_
                first | refine LM.stW Try.sizeOf61 rfl rfl rfl rfl (by first | rfl | decide | (simp; done)) (fun hlt => absurd hlt (by omega)) ?_ | refine LM.st Try.sizeOf61 rfl rfl rfl (by first | decide | exact Nat.le_of_ble_eq_true rfl | (simp; done) | (simp; omega)) rfl (fun hlt => absurd hlt (by omega)) ?_
                refine LM.nil ?_
                refine QM.sub (e' := [(2, _), (3, _)]) ⟨rfl, rfl, trivial⟩ ?_
                refine QM.then ?_
                refine wpM.ret ?_
                refine QM.block_ret ?_
                refine QM.then_ret ?_
                refine QM.leaveCs (ds := ([])) (.inl rfl) [.cell 2 61, .cell 3 61] Try.results30 hd_nil (rc_w rfl Try.isAgg61 Try.sizeOf61 rfl (rc_w rfl Try.isAgg61 Try.sizeOf61 rfl rc_nil)) ?_
                intro w' hm' hc'
                -- leaf 23: h1- h2- h7- h12- h17- h22- h23+
                refine ⟨?_, hc'⟩; simp only [resV, loA, hiA, loB, hiB]; try ((repeat' split) <;> first | rfl | omega)
              ·
                refine wpM.seq ?_
                refine wpM.region ?_
                refine LM.val (ov_eql rfl rfl) ?_
                refine LM.val (ov_assign rfl) ?_
                refine LM.nil ?_
                refine QM.sub (e' := [(2, _), (3, _), (4, _), (6, _), (23, _)]) ⟨rfl, rfl, rfl, rfl, rfl, trivial⟩ ?_
                refine QM.then ?_
                first | refine wpM.condD rfl (fun h24 => ?_) (fun h24 => ?_) | refine wpM.condB rfl (fun h24 => ?_) (fun h24 => ?_)
                ·
                  refine wpM.seq ?_
                  refine wpM.toAltO (b2) [.cells #[.int .i64 0, .int .i64 0] 61 (0, 0), .cells #[.int .i64 (1), .int .i64 (64)] 61 (0, 0)] (by first | exact .head _ | (simp; done)) (fun hMc => ?_)
                  refine wpM.draw [(0, 0), (1, 1), (2, 2), (3, 3)] (by kernel_rfl) (by kernel_rfl) ?_
                  refine LD.val rfl rfl (ov_build (cs := #[_, _]) rfl (by first | rfl | kernel_rfl)) ?_
                  first | refine LD.rd rfl rfl (om_ldW Try.isAgg61 Try.sizeOf61 rfl rfl) ?_ | refine LD.rd rfl rfl (om_ldA Try.isAgg61 Try.sizeOf61 rfl (vs := [_, _]) rfl ⟨rfl, rfl, trivial⟩) ?_
                  refine LD.stAltO [.cells #[.int .i64 (1), .int .i64 (64)] 61 (0, 0)] rfl rfl Try.sizeOf61 rfl rfl rfl (by decide) (by simp) (by simp only [List.forall_mem_cons, List.not_mem_nil, false_implies, implies_true, and_true]; exact ⟨⟨_, _, rfl, by decide, .head _⟩, ⟨_, _, rfl, by decide, .head _⟩⟩) (fun hlt => absurd hlt (by omega)) hMc ?_
                  refine LD.tail rfl rfl ?_
                  refine LM.ofAltO ?_
                  first | refine LM.stW Try.sizeOf61 rfl rfl rfl rfl (by first | rfl | decide | (simp; done)) (fun hlt => absurd hlt (by omega)) ?_ | refine LM.st Try.sizeOf61 rfl rfl rfl (by first | decide | exact Nat.le_of_ble_eq_true rfl | (simp; done) | (simp; omega)) rfl (fun hlt => absurd hlt (by omega)) ?_
                  refine LM.nil ?_
                  refine QM.qn ?_
                  refine QM.sub (e' := [(2, _), (3, _)]) ⟨rfl, rfl, trivial⟩ ?_
                  refine QM.then ?_
                  refine wpM.ret ?_
                  refine QM.block_ret ?_
                  refine QM.then_ret ?_
                  refine QM.leaveCs (ds := ([])) (.inl rfl) [.cell 2 61, .cell 3 61] Try.results30 hd_nil (rc_w rfl Try.isAgg61 Try.sizeOf61 rfl (rc_w rfl Try.isAgg61 Try.sizeOf61 rfl rc_nil)) ?_
                  intro w' hm' hc'
                  -- leaf 24: h1- h2- h7- h12- h17- h22- h23- h24+
                  refine ⟨?_, hc'⟩; simp only [resV, loA, hiA, loB, hiB]; try ((repeat' split) <;> first | rfl | omega)
                ·
                  refine wpM.seq ?_
                  refine wpM.region ?_
                  refine LM.val (ov_eql rfl rfl) ?_
                  refine LM.val (ov_assign rfl) ?_
                  refine LM.nil ?_
                  refine QM.sub (e' := [(2, _), (3, _), (4, _), (27, _)]) ⟨rfl, rfl, rfl, rfl, trivial⟩ ?_
                  refine QM.then ?_
                  first | refine wpM.condD rfl (fun h25 => ?_) (fun h25 => ?_) | refine wpM.condB rfl (fun h25 => ?_) (fun h25 => ?_)
                  ·
                    refine wpM.seq ?_
                    refine wpM.toAltO (b2) [.cells #[.int .i64 0, .int .i64 0] 61 (0, 0), .cells #[.int .i64 (1), .int .i64 (16)] 61 (0, 0)] (by first | exact .head _ | (simp; done)) (fun hMc => ?_)
                    refine wpM.draw [(0, 0), (1, 1), (2, 2), (3, 3)] (by kernel_rfl) (by kernel_rfl) ?_
                    refine LD.val rfl rfl (ov_build (cs := #[_, _]) rfl (by first | rfl | kernel_rfl)) ?_
                    first | refine LD.rd rfl rfl (om_ldW Try.isAgg61 Try.sizeOf61 rfl rfl) ?_ | refine LD.rd rfl rfl (om_ldA Try.isAgg61 Try.sizeOf61 rfl (vs := [_, _]) rfl ⟨rfl, rfl, trivial⟩) ?_
                    refine LD.stAltO [.cells #[.int .i64 (1), .int .i64 (16)] 61 (0, 0)] rfl rfl Try.sizeOf61 rfl rfl rfl (by decide) (by simp) (by simp only [List.forall_mem_cons, List.not_mem_nil, false_implies, implies_true, and_true]; exact ⟨⟨_, _, rfl, by decide, .head _⟩, ⟨_, _, rfl, by decide, .head _⟩⟩) (fun hlt => absurd hlt (by omega)) hMc ?_
                    refine LD.tail rfl rfl ?_
                    refine LM.ofAltO ?_
                    first | refine LM.stW Try.sizeOf61 rfl rfl rfl rfl (by first | rfl | decide | (simp; done)) (fun hlt => absurd hlt (by omega)) ?_ | refine LM.st Try.sizeOf61 rfl rfl rfl (by first | decide | exact Nat.le_of_ble_eq_true rfl | (simp; done) | (simp; omega)) rfl (fun hlt => absurd hlt (by omega)) ?_
                    refine LM.nil ?_
                    refine QM.qn ?_
                    refine QM.sub (e' := [(2, _), (3, _)]) ⟨rfl, rfl, trivial⟩ ?_
                    refine QM.then ?_
                    refine wpM.ret ?_
                    refine QM.block_ret ?_
                    refine QM.then_ret ?_
                    refine QM.leaveCs (ds := ([])) (.inl rfl) [.cell 2 61, .cell 3 61] Try.results30 hd_nil (rc_w rfl Try.isAgg61 Try.sizeOf61 rfl (rc_w rfl Try.isAgg61 Try.sizeOf61 rfl rc_nil)) ?_
                    intro w' hm' hc'
                    -- leaf 25: h1- h2- h7- h12- h17- h22- h23- h24- h25+
                    refine ⟨?_, hc'⟩; simp only [resV, loA, hiA, loB, hiB]; try ((repeat' split) <;> first | rfl | omega)
                  ·
                    refine wpM.skip ?_
                    refine QM.block_normal ?_
                    refine QM.then ?_
                    refine wpM.seq ?_
                    refine wpM.toAltO (b2) [.cells #[.int .i64 0, .int .i64 0] 61 (0, 0), .cells #[.int .i64 (-1), .int .i64 (-1)] 61 (0, 0)] (by first | exact .head _ | (simp; done)) (fun hMc => ?_)
                    refine wpM.draw [(0, 1), (1, 1), (2, 2), (3, 3)] (by kernel_rfl) (by kernel_rfl) ?_
                    first | refine LD.rd rfl rfl (om_ldW Try.isAgg61 Try.sizeOf61 rfl rfl) ?_ | refine LD.rd rfl rfl (om_ldA Try.isAgg61 Try.sizeOf61 rfl (vs := [_, _]) rfl ⟨rfl, rfl, trivial⟩) ?_
                    first | refine LD.rd rfl rfl (om_ldW Try.isAgg61 Try.sizeOf61 rfl rfl) ?_ | refine LD.rd rfl rfl (om_ldA Try.isAgg61 Try.sizeOf61 rfl (vs := [_, _]) rfl ⟨rfl, rfl, trivial⟩) ?_
                    refine LD.stAltO [.cells #[.int .i64 (-1), .int .i64 (-1)] 61 (0, 0)] rfl rfl Try.sizeOf61 rfl rfl rfl (by decide) (by simp) (by simp only [List.forall_mem_cons, List.not_mem_nil, false_implies, implies_true, and_true]; exact ⟨⟨_, _, rfl, by decide, .head _⟩, ⟨_, _, rfl, by decide, .head _⟩⟩) (fun hlt => absurd hlt (by omega)) hMc ?_
                    refine LD.tail rfl rfl ?_
                    refine LM.ofAltO ?_
                    first | refine LM.stW Try.sizeOf61 rfl rfl rfl rfl (by first | rfl | decide | (simp; done)) (fun hlt => absurd hlt (by omega)) ?_ | refine LM.st Try.sizeOf61 rfl rfl rfl (by first | decide | exact Nat.le_of_ble_eq_true rfl | (simp; done) | (simp; omega)) rfl (fun hlt => absurd hlt (by omega)) ?_
                    refine LM.nil ?_
                    refine QM.qn ?_
                    refine QM.sub (e' := [(2, _), (3, _)]) ⟨rfl, rfl, trivial⟩ ?_
                    refine QM.then ?_
                    refine wpM.ret ?_
                    refine QM.leaveCs (ds := ([])) (.inl rfl) [.cell 2 61, .cell 3 61] Try.results30 hd_nil (rc_w rfl Try.isAgg61 Try.sizeOf61 rfl (rc_w rfl Try.isAgg61 Try.sizeOf61 rfl rc_nil)) ?_
                    intro w' hm' hc'
                    -- leaf 26: h1- h2- h7- h12- h17- h22- h23- h24- h25-
                    refine ⟨?_, hc'⟩; simp only [resV, loA, hiA, loB, hiB]; try ((repeat' split) <;> first | rfl | omega)

set_option maxRecDepth 100000 in
theorem has_spec (lo hi n : Int) (w : World) : Ret Try.prog 32 #[.agg #[.int .i64 lo, .int .i64 hi], .int .i64 n] w (fun v w' => v = .bool (hasB lo hi n) ∧ Ext w w') := by
  refine Ret.enterM (l := [.agg #[.int .i64 lo, .int .i64 hi], .int .i64 n]) Try.func32 rfl Try.ntmps32 rfl ([]) (no) (Mem.nil w) ?_
  refine wpM.seq ?_
  refine wpM.region ?_
  refine LM.box rfl rfl (fun b2 hb2 => ?_)
  refine LM.val (ov_assign rfl) ?_
  refine LM.nil ?_
  refine QM.sub (e' := [(1, _), (2, _)]) ⟨rfl, rfl, trivial⟩ ?_
  refine QM.then ?_
  refine wpM.seq ?_
  refine wpM.seq ?_
  refine wpM.region ?_
  refine LM.val (ov_field Try.underlying61 rfl Try.sizeOf3 rfl (k := 0) rfl rfl) ?_
  first | refine LM.rd (om_ld Try.isAgg3 rfl rfl) ?_
  refine LM.val (ov_eql rfl rfl) ?_
  refine LM.nil ?_
  refine QM.sub (e' := [(1, _), (2, _), (7, _)]) ⟨rfl, rfl, rfl, trivial⟩ ?_
  refine QM.then ?_
  first | refine wpM.condD rfl (fun h1 => ?_) (fun h1 => ?_) | refine wpM.condB rfl (fun h1 => ?_) (fun h1 => ?_)
  ·
    refine wpM.seq ?_
    refine wpM.region ?_
    refine LM.val (ov_move rfl) ?_
    refine LM.val (ov_eql rfl rfl) ?_
    refine LM.val (ov_assign rfl) ?_
    refine LM.nil ?_
    refine QM.sub (e' := [(4, _)]) ⟨rfl, trivial⟩ ?_
    refine QM.then ?_
    refine wpM.ret ?_
    refine QM.then_ret ?_
    refine QM.leave (.inl rfl) [.tmp 4] Try.results32 rfl ?_
    intro w' hm' hc' hg'
    -- leaf 1: h1+
    refine ⟨?_, hc'⟩; simp only [resV, hasB]; simp only [h1, decide_true, decide_false, Bool.true_and, Bool.false_and, Bool.and_true, Bool.and_false, Bool.not_true, Bool.not_false, Bool.true_or, Bool.false_or, Bool.or_true, Bool.or_false, ne_eq, not_true_eq_false, not_false_eq_true, Bool.and_self, if_true, if_false, reduceIte]
  ·
    refine wpM.skip ?_
    refine QM.then ?_
    refine wpM.seq ?_
    refine wpM.region ?_
    refine LM.val (ov_move rfl) ?_
    refine LM.val (ov_field Try.underlying61 rfl Try.sizeOf3 rfl (k := 0) rfl rfl) ?_
    first | refine LM.rd (om_ld Try.isAgg3 rfl rfl) ?_
    refine LM.val (ov_geq rfl rfl) ?_
    refine LM.val (ov_move rfl) ?_
    first | refine LM.splitD (t := 14) rfl (fun h2 => ?_) (fun h2 => ?_) | refine LM.splitB (t := 14) rfl (fun h2 => ?_) (fun h2 => ?_)
    ·
      refine LM.strip (t := 14) rfl rfl rfl ?_
      refine LM.val (ov_move rfl) ?_
      refine LM.strip (t := 14) rfl rfl rfl ?_
      refine LM.val (ov_field Try.underlying61 rfl Try.sizeOf3 rfl (k := 1) rfl rfl) ?_
      refine LM.strip (t := 14) rfl rfl rfl ?_
      first | refine LM.rd (om_ld Try.isAgg3 rfl rfl) ?_
      refine LM.strip (t := 14) rfl rfl rfl ?_
      refine LM.val (ov_leq rfl rfl) ?_
      refine LM.val (ov_pickT rfl rfl) ?_
      refine LM.val (ov_assign rfl) ?_
      refine LM.nil ?_
      refine QM.sub (e' := [(4, _)]) ⟨rfl, trivial⟩ ?_
      refine QM.then ?_
      refine wpM.ret ?_
      refine QM.leave (.inl rfl) [.tmp 4] Try.results32 rfl ?_
      intro w' hm' hc' hg'
      -- leaf 2: h1- h2+
      refine ⟨?_, hc'⟩; simp only [resV, hasB]; simp only [h1, h2, decide_true, decide_false, Bool.true_and, Bool.false_and, Bool.and_true, Bool.and_false, Bool.not_true, Bool.not_false, Bool.true_or, Bool.false_or, Bool.or_true, Bool.or_false, ne_eq, not_true_eq_false, not_false_eq_true, Bool.and_self, if_true, if_false, reduceIte]
    ·
      refine LM.drop (t := 14) rfl rfl rfl ?_
      refine LM.drop (t := 14) rfl rfl rfl ?_
      refine LM.drop (t := 14) rfl rfl rfl ?_
      refine LM.drop (t := 14) rfl rfl rfl ?_
      refine LM.val (ov_pickF rfl rfl) ?_
      refine LM.val (ov_assign rfl) ?_
      refine LM.nil ?_
      refine QM.sub (e' := [(4, _)]) ⟨rfl, trivial⟩ ?_
      refine QM.then ?_
      refine wpM.ret ?_
      refine QM.leave (.inl rfl) [.tmp 4] Try.results32 rfl ?_
      intro w' hm' hc' hg'
      -- leaf 3: h1- h2-
      refine ⟨?_, hc'⟩; simp only [resV, hasB]; simp only [h1, h2, decide_true, decide_false, Bool.true_and, Bool.false_and, Bool.and_true, Bool.and_false, Bool.not_true, Bool.not_false, Bool.true_or, Bool.false_or, Bool.or_true, Bool.or_false, ne_eq, not_true_eq_false, not_false_eq_true, Bool.and_self, if_true, if_false, reduceIte]

end Go.Eng

