/- The walks of programs: whether one may be, by the program and by its reference. No condition. -/
import Derived.Test.YtkopodpfmdnlcaaCritA
set_option linter.unusedVariables false
set_option linter.unusedSimpArgs false
namespace Go.Eng
open Go Go.Proofs Go.RowKit

theorem loA_cases (k : Int) : loA k = -1 ∨ 0 ≤ loA k := by unfold loA; (repeat' split) <;> omega
theorem loB_cases (k : Int) : loB k = -1 ∨ 0 ≤ loB k := by unfold loB; (repeat' split) <;> omega
theorem all_any {α : Type} {p : α → Bool} {xs : List α} : xs.all p = !xs.any (fun o => !p o) := by rw [List.all_eq_not_any_not]
theorem all_snoc {α : Type} {p : α → Bool} {xs : List α} {i : Nat} (d : α) (h : i < xs.length) : (xs.take (i + 1)).all p = ((xs.take i).all p && p (xs.getD i d)) := by
  rw [take_snoc d h, List.all_append]; simp
theorem may_not {xs : List COp} {i : Nat} (h : i < xs.length) (hr : rightB (xs.getD i default) = false) : mayB xs = false := by
  cases hm : mayB xs with
  | false => rfl
  | true => rw [may_at hm h] at hr; cases hr
theorem hasB5 {k b : Int} (h : k = 5) : hasB (loB k) (hiB k) b = (decide (1 ≤ b) && decide (b ≤ 64)) := by subst h; rfl
theorem hasBn {k b : Int} (h : ¬ k = 5) : hasB (loB k) (hiB k) b = decide (b = 0) := by unfold loB hiB; rw [if_neg h, if_neg h]; rfl
abbrev pV (fv : Bool) (ad : Option Addr) (n cap : Nat) : Value := .agg #[.bool fv, .slice ad n cap]
abbrev pB (b : Nat) (fv : Bool) (ad : Option Addr) (n cap : Nat) : Nat × Obj := (b, .cells #[.bool fv, .slice ad n cap] 24 (0, 0))
set_option maxRecDepth 100000 in
theorem right_spec (o : COp) (w : World) : Ret Try.prog 24 #[.agg (fO o).toArray] w (fun v w' => v = .bool (rightB o) ∧ Ext w w') := by
  refine Ret.enterM (l := [.agg (fO o).toArray]) Try.func24 rfl Try.ntmps24 rfl ([]) (no) (Mem.nil w) ?_
  refine wpM.seq ?_
  refine wpM.region ?_
  refine LM.box rfl rfl (fun b1 hb1 => ?_)
  refine LM.val (ov_assign rfl) ?_
  refine LM.nil ?_
  refine QM.sub (e' := [(1, _)]) ⟨rfl, trivial⟩ ?_
  refine QM.then ?_
  refine wpM.seq ?_
  refine wpM.region ?_
  refine LM.val (ov_field Try.underlying38 rfl Try.sizeOf3 rfl (k := 0) rfl rfl) ?_
  first | refine LM.rd (om_ld Try.isAgg3 rfl rfl) ?_
  refine LM.callE (oc_call (enters_fn Try.func30 (by kernel_rfl) rfl) rfl) (fun w hm hc hg => spans_spec o.k w) ?_
  refine LM.val (ov_move rfl) ?_
  refine LM.val (ov_extract rfl rfl) ?_
  refine LM.val (ov_extract rfl rfl) ?_
  refine LM.alloc Try.zeroValue61 rfl (fun b3 hb3 => ?_)
  refine LM.alloc Try.zeroValue61 rfl (fun b4 hb4 => ?_)
  first | refine LM.stW Try.sizeOf61 rfl rfl rfl rfl (by first | rfl | decide | (simp; done)) (fun hlt => absurd hlt (by omega)) ?_ | refine LM.st Try.sizeOf61 rfl rfl rfl (by first | decide | exact Nat.le_of_ble_eq_true rfl | (simp; done) | (simp; omega)) rfl (fun hlt => absurd hlt (by omega)) ?_
  first | refine LM.stW Try.sizeOf61 rfl rfl rfl rfl (by first | rfl | decide | (simp; done)) (fun hlt => absurd hlt (by omega)) ?_ | refine LM.st Try.sizeOf61 rfl rfl rfl (by first | decide | exact Nat.le_of_ble_eq_true rfl | (simp; done) | (simp; omega)) rfl (fun hlt => absurd hlt (by omega)) ?_
  refine LM.nil ?_
  refine QM.sub (e' := [(1, _), (3, _), (4, _)]) ⟨rfl, rfl, rfl, trivial⟩ ?_
  refine QM.then ?_
  refine wpM.seq ?_
  refine wpM.region ?_
  refine LM.val (ov_field Try.underlying38 rfl Try.sizeOf3 rfl (k := 0) rfl rfl) ?_
  first | refine LM.rd (om_ld Try.isAgg3 rfl rfl) ?_
  refine LM.callE (oc_call (enters_fn Try.func31 (by kernel_rfl) rfl) rfl) (fun w hm hc hg => name_spec o.k w) ?_
  refine LM.val (ov_sneq rfl rfl) ?_
  refine LM.val (ov_move rfl) ?_
  first | refine LM.splitD (t := 15) rfl (fun h1 => ?_) (fun h1 => ?_) | refine LM.splitB (t := 15) rfl (fun h1 => ?_) (fun h1 => ?_)
  ·
    refine LM.strip (t := 15) rfl rfl rfl ?_
    first | refine LM.rd (om_ldW Try.isAgg61 Try.sizeOf61 rfl rfl) ?_ | refine LM.rd (om_ldA Try.isAgg61 Try.sizeOf61 rfl (vs := [_, _]) rfl ⟨rfl, rfl, trivial⟩) ?_
    refine LM.strip (t := 15) rfl rfl rfl ?_
    refine LM.val (ov_field Try.underlying38 rfl Try.sizeOf3 rfl (k := 1) rfl rfl) ?_
    refine LM.strip (t := 15) rfl rfl rfl ?_
    first | refine LM.rd (om_ld Try.isAgg3 rfl rfl) ?_
    refine LM.strip (t := 15) rfl rfl rfl ?_
    refine LM.callE (oc_call (enters_fn Try.func32 (by kernel_rfl) rfl) rfl) (fun w hm hc hg => has_spec _ _ _ w) ?_
    refine LM.val (ov_pickT rfl rfl) ?_
    refine LM.val (ov_move rfl) ?_
    first | refine LM.splitD (t := 21) rfl (fun h2 => ?_) (fun h2 => ?_) | refine LM.splitB (t := 21) rfl (fun h2 => ?_) (fun h2 => ?_)
    ·
      refine LM.strip (t := 21) rfl rfl rfl ?_
      first | refine LM.rd (om_ldW Try.isAgg61 Try.sizeOf61 rfl rfl) ?_ | refine LM.rd (om_ldA Try.isAgg61 Try.sizeOf61 rfl (vs := [_, _]) rfl ⟨rfl, rfl, trivial⟩) ?_
      refine LM.strip (t := 21) rfl rfl rfl ?_
      refine LM.val (ov_field Try.underlying38 rfl Try.sizeOf3 rfl (k := 2) rfl rfl) ?_
      refine LM.strip (t := 21) rfl rfl rfl ?_
      first | refine LM.rd (om_ld Try.isAgg3 rfl rfl) ?_
      refine LM.strip (t := 21) rfl rfl rfl ?_
      refine LM.callE (oc_call (enters_fn Try.func32 (by kernel_rfl) rfl) rfl) (fun w hm hc hg => has_spec _ _ _ w) ?_
      refine LM.val (ov_pickT rfl rfl) ?_
      refine LM.val (ov_assign rfl) ?_
      refine LM.nil ?_
      refine QM.sub (e' := [(2, _)]) ⟨rfl, trivial⟩ ?_
      refine QM.then ?_
      refine wpM.ret ?_
      refine QM.leave (.inl rfl) [.tmp 2] Try.results24 rfl ?_
      intro w' hm' hc' hg'
      -- leaf 1: h1+ h2+
      refine ⟨?_, hc'⟩; rw [nmO_empty, Bool.not_not] at h1; simp only [resV, rightB]; simp only [h1, h2, decide_true, decide_false, Bool.true_and, Bool.false_and, Bool.and_true, Bool.and_false, Bool.not_true, Bool.not_false, Bool.true_or, Bool.false_or, Bool.or_true, Bool.or_false, ne_eq, not_true_eq_false, not_false_eq_true, Bool.and_self]
    ·
      refine LM.drop (t := 21) rfl rfl rfl ?_
      refine LM.drop (t := 21) rfl rfl rfl ?_
      refine LM.drop (t := 21) rfl rfl rfl ?_
      refine LM.drop (t := 21) rfl rfl rfl ?_
      refine LM.val (ov_pickF rfl rfl) ?_
      refine LM.val (ov_assign rfl) ?_
      refine LM.nil ?_
      refine QM.sub (e' := [(2, _)]) ⟨rfl, trivial⟩ ?_
      refine QM.then ?_
      refine wpM.ret ?_
      refine QM.leave (.inl rfl) [.tmp 2] Try.results24 rfl ?_
      intro w' hm' hc' hg'
      -- leaf 2: h1+ h2-
      refine ⟨?_, hc'⟩; rw [nmO_empty, Bool.not_not] at h1; simp only [resV, rightB]; simp only [h1, h2, decide_true, decide_false, Bool.true_and, Bool.false_and, Bool.and_true, Bool.and_false, Bool.not_true, Bool.not_false, Bool.true_or, Bool.false_or, Bool.or_true, Bool.or_false, ne_eq, not_true_eq_false, not_false_eq_true, Bool.and_self]
  ·
    refine LM.drop (t := 15) rfl rfl rfl ?_
    refine LM.drop (t := 15) rfl rfl rfl ?_
    refine LM.drop (t := 15) rfl rfl rfl ?_
    refine LM.drop (t := 15) rfl rfl rfl ?_
    refine LM.val (ov_pickF rfl rfl) ?_
    refine LM.val (ov_move rfl) ?_
    refine LM.drop (t := 21) rfl rfl rfl ?_
    refine LM.drop (t := 21) rfl rfl rfl ?_
    refine LM.drop (t := 21) rfl rfl rfl ?_
    refine LM.drop (t := 21) rfl rfl rfl ?_
    refine LM.val (ov_pickF rfl rfl) ?_
    refine LM.val (ov_assign rfl) ?_
    refine LM.nil ?_
    refine QM.sub (e' := [(2, _)]) ⟨rfl, trivial⟩ ?_
    refine QM.then ?_
    refine wpM.ret ?_
    refine QM.leave (.inl rfl) [.tmp 2] Try.results24 rfl ?_
    intro w' hm' hc' hg'
    -- leaf 3: h1-
    refine ⟨?_, hc'⟩; rw [nmO_empty, Bool.not_not] at h1; simp only [resV, rightB]; simp only [h1, decide_true, decide_false, Bool.true_and, Bool.false_and, Bool.and_true, Bool.and_false, Bool.not_true, Bool.not_false, Bool.true_or, Bool.false_or, Bool.or_true, Bool.or_false, ne_eq, not_true_eq_false, not_false_eq_true, Bool.and_self]

set_option maxRecDepth 100000 in
theorem may1_spec (o : COp) (w : World) : Ret Try.prog 23 #[.agg (fO o).toArray] w (fun v w' => v = .bool (!rightB o) ∧ Ext w w') := by
  refine Ret.enterM (l := [.agg (fO o).toArray]) Try.func23 rfl Try.ntmps23 rfl ([]) (no) (Mem.nil w) ?_
  refine wpM.seq ?_
  refine wpM.region ?_
  refine LM.box rfl rfl (fun b1 hb1 => ?_)
  refine LM.val (ov_assign rfl) ?_
  refine LM.nil ?_
  refine QM.sub (e' := [(1, _)]) ⟨rfl, trivial⟩ ?_
  refine QM.then ?_
  refine wpM.seq ?_
  refine wpM.region ?_
  first | refine LM.rd (om_ldW Try.isAgg38 Try.sizeOf38 rfl rfl) ?_ | refine LM.rd (om_ldA Try.isAgg38 Try.sizeOf38 rfl (vs := [_, _, _]) rfl ⟨rfl, rfl, rfl, trivial⟩) ?_
  refine LM.callE (oc_call (enters_fn Try.func24 (by kernel_rfl) rfl) rfl) (fun w hm hc hg => right_spec o w) ?_
  first | refine LM.val (ov_notD rfl) ?_ | refine LM.val (ov_not rfl) ?_
  refine LM.val (ov_assign rfl) ?_
  refine LM.nil ?_
  refine QM.sub (e' := [(2, _)]) ⟨rfl, trivial⟩ ?_
  refine QM.then ?_
  refine wpM.ret ?_
  refine QM.leave (.inl rfl) [.tmp 2] Try.results23 rfl ?_
  intro w' hm' hc' hg'
  -- leaf 1: 
  first | exact ⟨rfl, hc'⟩ | (exfalso; first | omega | (simp at *; done) | (simp_all; done))

set_option maxRecDepth 100000 in
theorem ixf_may {xs : List COp} {ad : Option Addr} {n cap : Nat} (w : World) (hn : n = xs.length) (hl : Sr fO 3 xs (.slice ad n cap) w) (hx : xs.length ≤ 1000000) : Ret Try.prog 26 #[.slice ad n cap, .func (.func 23) #[] #[]] w (fun v w' => v = .int .i64 (fixI (fun o => !rightB o) xs) ∧ Ext w w') := by
  refine Ret.enterM (l := [.slice ad n cap, .func (.func 23) #[] #[]]) Try.func26 rfl Try.ntmps26 rfl ([]) (no) (Mem.nil w) ?_
  refine wpM.seq ?_
  refine wpM.region ?_
  refine LM.val (ov_assign rfl) ?_
  refine LM.nil ?_
  refine QM.sub (e' := [(0, _), (1, _)]) ⟨rfl, rfl, trivial⟩ ?_
  refine QM.then ?_
  refine wpM.seq ?_
  refine wpM.seq ?_
  refine wpM.region ?_
  refine LM.val (ov_move rfl) ?_
  refine LM.val (ov_len Try.underlying22 rfl) ?_
  refine LM.val (ov_move rfl) ?_
  refine LM.nil ?_
  refine QM.sub (e' := [(0, _), (1, _), (7, _), (8, _)]) ⟨rfl, rfl, rfl, rfl, trivial⟩ ?_
  refine QM.then ?_
  refine wpM.block ?_
  refine wpM.loopK0 (α := Nat) (fun i => [(8, .int .i64 (i : Nat))]) [(0, _), (1, _), (7, _)] (fun i => []) (fun i => i ≤ xs.length ∧ (xs.take i).any (fun o => !rightB o) = false) (fun i => xs.length - i) (0) ⟨(by first | rfl | exact lk rfl (by congr 1; omega) | exact lk rfl (by simp)), rfl, rfl, rfl, trivial⟩ (by (repeat' (first | exact SubM.nil _ | refine SubM.cons rfl ?_ | refine SubM.app ?_))) ⟨Nat.zero_le _, rfl⟩ ?_
  rintro i ⟨hi, ha⟩
  change wpM _ _ _ _ _ _ _ ([]) _ _ _
  refine wpM.seq ?_
  refine wpM.region ?_
  refine LM.val (ov_lss rfl rfl) ?_
  refine LM.nil ?_
  refine QM.sub (e' := [(0, _), (1, _), (7, _), (8, _), (9, _)]) ⟨rfl, rfl, rfl, rfl, rfl, trivial⟩ ?_
  refine QM.then ?_
  refine wpM.seq ?_
  first | refine wpM.condD rfl (fun h1 => ?_) (fun h1 => ?_) | refine wpM.condB rfl (fun h1 => ?_) (fun h1 => ?_)
  ·
    refine wpM.skip ?_
    refine QM.then ?_
    refine wpM.seq ?_
    refine wpM.block ?_
    refine wpM.seq ?_
    refine wpM.region ?_
    refine LM.val (ov_move rfl) ?_
    refine LM.val (ov_assign rfl) ?_
    refine LM.nil ?_
    refine QM.sub (e' := [(0, _), (1, _), (5, _), (7, _), (8, _)]) ⟨rfl, rfl, rfl, rfl, rfl, trivial⟩ ?_
    refine QM.then ?_
    refine wpM.seq ?_
    refine wpM.region ?_
    refine LM.val (ov_move rfl) ?_
    refine LM.val (ov_move rfl) ?_
    refine LM.val (ov_move rfl) ?_
    first | refine LM.val (ov_idxSN (by first | exact Sr.spt (by assumption) | exact Sl.spt (by assumption)) Try.underlying22 Try.sizeOf38 rfl rfl (by omega)) ?_ | refine LM.val (ov_idxS (by first | exact Sr.spt (by assumption) | exact Sl.spt (by assumption)) Try.underlying22 Try.sizeOf38 rfl rfl (by omega)) ?_ | refine LM.val (ov_idx Try.underlying22 Try.sizeOf38 rfl rfl (by omega)) ?_
    first | refine LM.rd (om_slA (by assumption) (by intro _; rfl) Try.isAgg38 Try.sizeOf38 rfl (by exact getq default (by first | omega | (simp only [List.length_set, List.length_append, List.length_cons, List.length_nil]; omega)))) ?_ | refine LM.rdC (om_srEA (by assumption) (by intro _; rfl) Try.isAgg38 Try.sizeOf38 rfl (by exact getq default (by first | omega | (simp only [List.length_set, List.length_append, List.length_cons, List.length_nil]; omega))) id) ?_ | refine LM.rd (om_ldW Try.isAgg38 Try.sizeOf38 rfl rfl) ?_ | refine LM.rd (om_ldA Try.isAgg38 Try.sizeOf38 rfl (vs := [_, _, _]) rfl ⟨rfl, rfl, rfl, trivial⟩) ?_
    refine LM.callE (oc_callV rfl (enters_fn Try.func23 (by kernel_rfl) rfl) rfl) (fun w hm hc hg => may1_spec _ w) ?_
    refine LM.nil ?_
    refine QM.sub (e' := [(0, _), (1, _), (5, _), (7, _), (8, _), (16, _)]) ⟨rfl, rfl, rfl, rfl, rfl, rfl, trivial⟩ ?_
    refine QM.then ?_
    first | refine wpM.condD rfl (fun h2 => ?_) (fun h2 => ?_) | refine wpM.condB rfl (fun h2 => ?_) (fun h2 => ?_)
    ·
      refine wpM.seq ?_
      refine wpM.region ?_
      refine LM.val (ov_move rfl) ?_
      refine LM.val (ov_assign rfl) ?_
      refine LM.nil ?_
      refine QM.sub (e' := [(4, _)]) ⟨rfl, trivial⟩ ?_
      refine QM.then ?_
      refine wpM.ret ?_
      refine QM.block_ret ?_
      refine QM.then_ret ?_
      refine QM.then_ret ?_
      refine QM.block_ret ?_
      refine QM.then_ret ?_
      refine QM.leave (.inl rfl) [.tmp 4] Try.results26 rfl ?_
      intro w' hm' hc' hg'
      -- leaf 1: h1+ h2+
      exact ⟨by show Value.int .i64 _ = _; rw [fix_hit default ha (by omega) (by simpa using h2)], hc'⟩
    ·
      refine wpM.skip ?_
      refine QM.block_normal ?_
      refine QM.then ?_
      refine wpM.region ?_
      refine LM.val (ov_add64 rfl rfl (by omega)) ?_
      refine LM.val (ov_move rfl) ?_
      refine LM.nil ?_
      refine QM.sub (e' := [(0, _), (1, _), (7, _), (8, _)]) ⟨rfl, rfl, rfl, rfl, trivial⟩ ?_
      -- again1: h1+ h2-
      refine QM.againK (i + 1) ⟨(by first | rfl | exact lk rfl (by congr 1; omega) | exact lk rfl (by simp)), rfl, rfl, rfl, trivial⟩ (by (repeat' (first | exact SubM.nil _ | refine SubM.cons rfl ?_ | refine SubM.app ?_))) (fun _ h => h) ?_ ?_
      · exact ⟨by omega, by rw [any_snoc default (by omega), ha, Bool.false_or]; simpa using h2⟩
      · first | omega | (dsimp only; omega)
  ·
    refine wpM.exit ?_
    refine QM.then_exit ?_
    refine QM.then_exit ?_
    refine QM.block_hit ?_
    refine QM.then ?_
    refine wpM.seq ?_
    refine wpM.region ?_
    refine LM.val (ov_assign rfl) ?_
    refine LM.nil ?_
    refine QM.sub (e' := [(4, _)]) ⟨rfl, trivial⟩ ?_
    refine QM.then ?_
    refine wpM.ret ?_
    refine QM.leave (.inl rfl) [.tmp 4] Try.results26 rfl ?_
    intro w' hm' hc' hg'
    -- leaf 2: h1-
    have hil : i = xs.length := (by omega); subst hil; rw [List.take_length] at ha; exact ⟨by show Value.int .i64 _ = _; rw [fix_miss ha], hc'⟩

set_option maxRecDepth 100000 in
theorem cof_may {xs : List COp} {ad : Option Addr} {n cap : Nat} (w : World) (hn : n = xs.length) (hl : Sr fO 3 xs (.slice ad n cap) w) (hx : xs.length ≤ 1000000) : Ret Try.prog 15 #[.slice ad n cap, .func (.func 23) #[] #[]] w (fun v w' => v = .bool (xs.any (fun o => !rightB o)) ∧ Ext w w') := by
  refine Ret.enterM (l := [.slice ad n cap, .func (.func 23) #[] #[]]) Try.func15 rfl Try.ntmps15 rfl ([]) (no) (Mem.nil w) ?_
  refine wpM.seq ?_
  refine wpM.region ?_
  refine LM.val (ov_assign rfl) ?_
  refine LM.nil ?_
  refine QM.sub (e' := [(0, _), (1, _)]) ⟨rfl, rfl, trivial⟩ ?_
  refine QM.then ?_
  refine wpM.seq ?_
  refine wpM.region ?_
  refine LM.val (ov_move rfl) ?_
  refine LM.val (ov_move rfl) ?_
  refine LM.callE (oc_call (enters_fn Try.func26 (by kernel_rfl) rfl) rfl) (fun w hm hc hg => ixf_may w hn (hl.ext hc) hx) ?_
  refine LM.val (ov_geq rfl rfl) ?_
  refine LM.val (ov_assign rfl) ?_
  refine LM.nil ?_
  refine QM.sub (e' := [(4, _)]) ⟨rfl, trivial⟩ ?_
  refine QM.then ?_
  refine wpM.ret ?_
  refine QM.leave (.inl rfl) [.tmp 4] Try.results15 rfl ?_
  intro w' hm' hc' hg'
  -- leaf 1: 
  exact ⟨by show Value.bool _ = _; rw [← fix_pos], hc'⟩

set_option maxRecDepth 100000 in
theorem ixf_pass {xs : List COp} {ad : Option Addr} {n cap : Nat} (w : World) (hn : n = xs.length) (hl : Sr fO 3 xs (.slice ad n cap) w) (hx : xs.length ≤ 1000000) : Ret Try.prog 26 #[.slice ad n cap, .func (.func 16) #[] #[]] w (fun v w' => v = .int .i64 (fixI (fun o => passB o.k) xs) ∧ Ext w w') := by
  refine Ret.enterM (l := [.slice ad n cap, .func (.func 16) #[] #[]]) Try.func26 rfl Try.ntmps26 rfl ([]) (no) (Mem.nil w) ?_
  refine wpM.seq ?_
  refine wpM.region ?_
  refine LM.val (ov_assign rfl) ?_
  refine LM.nil ?_
  refine QM.sub (e' := [(0, _), (1, _)]) ⟨rfl, rfl, trivial⟩ ?_
  refine QM.then ?_
  refine wpM.seq ?_
  refine wpM.seq ?_
  refine wpM.region ?_
  refine LM.val (ov_move rfl) ?_
  refine LM.val (ov_len Try.underlying22 rfl) ?_
  refine LM.val (ov_move rfl) ?_
  refine LM.nil ?_
  refine QM.sub (e' := [(0, _), (1, _), (7, _), (8, _)]) ⟨rfl, rfl, rfl, rfl, trivial⟩ ?_
  refine QM.then ?_
  refine wpM.block ?_
  refine wpM.loopK0 (α := Nat) (fun i => [(8, .int .i64 (i : Nat))]) [(0, _), (1, _), (7, _)] (fun i => []) (fun i => i ≤ xs.length ∧ (xs.take i).any (fun o => passB o.k) = false) (fun i => xs.length - i) (0) ⟨(by first | rfl | exact lk rfl (by congr 1; omega) | exact lk rfl (by simp)), rfl, rfl, rfl, trivial⟩ (by (repeat' (first | exact SubM.nil _ | refine SubM.cons rfl ?_ | refine SubM.app ?_))) ⟨Nat.zero_le _, rfl⟩ ?_
  rintro i ⟨hi, ha⟩
  change wpM _ _ _ _ _ _ _ ([]) _ _ _
  refine wpM.seq ?_
  refine wpM.region ?_
  refine LM.val (ov_lss rfl rfl) ?_
  refine LM.nil ?_
  refine QM.sub (e' := [(0, _), (1, _), (7, _), (8, _), (9, _)]) ⟨rfl, rfl, rfl, rfl, rfl, trivial⟩ ?_
  refine QM.then ?_
  refine wpM.seq ?_
  first | refine wpM.condD rfl (fun h1 => ?_) (fun h1 => ?_) | refine wpM.condB rfl (fun h1 => ?_) (fun h1 => ?_)
  ·
    refine wpM.skip ?_
    refine QM.then ?_
    refine wpM.seq ?_
    refine wpM.block ?_
    refine wpM.seq ?_
    refine wpM.region ?_
    refine LM.val (ov_move rfl) ?_
    refine LM.val (ov_assign rfl) ?_
    refine LM.nil ?_
    refine QM.sub (e' := [(0, _), (1, _), (5, _), (7, _), (8, _)]) ⟨rfl, rfl, rfl, rfl, rfl, trivial⟩ ?_
    refine QM.then ?_
    refine wpM.seq ?_
    refine wpM.region ?_
    refine LM.val (ov_move rfl) ?_
    refine LM.val (ov_move rfl) ?_
    refine LM.val (ov_move rfl) ?_
    first | refine LM.val (ov_idxSN (by first | exact Sr.spt (by assumption) | exact Sl.spt (by assumption)) Try.underlying22 Try.sizeOf38 rfl rfl (by omega)) ?_ | refine LM.val (ov_idxS (by first | exact Sr.spt (by assumption) | exact Sl.spt (by assumption)) Try.underlying22 Try.sizeOf38 rfl rfl (by omega)) ?_ | refine LM.val (ov_idx Try.underlying22 Try.sizeOf38 rfl rfl (by omega)) ?_
    first | refine LM.rd (om_slA (by assumption) (by intro _; rfl) Try.isAgg38 Try.sizeOf38 rfl (by exact getq default (by first | omega | (simp only [List.length_set, List.length_append, List.length_cons, List.length_nil]; omega)))) ?_ | refine LM.rdC (om_srEA (by assumption) (by intro _; rfl) Try.isAgg38 Try.sizeOf38 rfl (by exact getq default (by first | omega | (simp only [List.length_set, List.length_append, List.length_cons, List.length_nil]; omega))) id) ?_ | refine LM.rd (om_ldW Try.isAgg38 Try.sizeOf38 rfl rfl) ?_ | refine LM.rd (om_ldA Try.isAgg38 Try.sizeOf38 rfl (vs := [_, _, _]) rfl ⟨rfl, rfl, rfl, trivial⟩) ?_
    refine LM.callE (oc_callV rfl (enters_fn Try.func16 (by kernel_rfl) rfl) rfl) (fun w hm hc hg => passes_spec _ w) ?_
    refine LM.nil ?_
    refine QM.sub (e' := [(0, _), (1, _), (5, _), (7, _), (8, _), (16, _)]) ⟨rfl, rfl, rfl, rfl, rfl, rfl, trivial⟩ ?_
    refine QM.then ?_
    first | refine wpM.condD rfl (fun h2 => ?_) (fun h2 => ?_) | refine wpM.condB rfl (fun h2 => ?_) (fun h2 => ?_)
    ·
      refine wpM.seq ?_
      refine wpM.region ?_
      refine LM.val (ov_move rfl) ?_
      refine LM.val (ov_assign rfl) ?_
      refine LM.nil ?_
      refine QM.sub (e' := [(4, _)]) ⟨rfl, trivial⟩ ?_
      refine QM.then ?_
      refine wpM.ret ?_
      refine QM.block_ret ?_
      refine QM.then_ret ?_
      refine QM.then_ret ?_
      refine QM.block_ret ?_
      refine QM.then_ret ?_
      refine QM.leave (.inl rfl) [.tmp 4] Try.results26 rfl ?_
      intro w' hm' hc' hg'
      -- leaf 1: h1+ h2+
      exact ⟨by show Value.int .i64 _ = _; rw [fix_hit default ha (by omega) (by simpa using h2)], hc'⟩
    ·
      refine wpM.skip ?_
      refine QM.block_normal ?_
      refine QM.then ?_
      refine wpM.region ?_
      refine LM.val (ov_add64 rfl rfl (by omega)) ?_
      refine LM.val (ov_move rfl) ?_
      refine LM.nil ?_
      refine QM.sub (e' := [(0, _), (1, _), (7, _), (8, _)]) ⟨rfl, rfl, rfl, rfl, trivial⟩ ?_
      -- again1: h1+ h2-
      refine QM.againK (i + 1) ⟨(by first | rfl | exact lk rfl (by congr 1; omega) | exact lk rfl (by simp)), rfl, rfl, rfl, trivial⟩ (by (repeat' (first | exact SubM.nil _ | refine SubM.cons rfl ?_ | refine SubM.app ?_))) (fun _ h => h) ?_ ?_
      · exact ⟨by omega, by rw [any_snoc default (by omega), ha, Bool.false_or]; simpa using h2⟩
      · first | omega | (dsimp only; omega)
  ·
    refine wpM.exit ?_
    refine QM.then_exit ?_
    refine QM.then_exit ?_
    refine QM.block_hit ?_
    refine QM.then ?_
    refine wpM.seq ?_
    refine wpM.region ?_
    refine LM.val (ov_assign rfl) ?_
    refine LM.nil ?_
    refine QM.sub (e' := [(4, _)]) ⟨rfl, trivial⟩ ?_
    refine QM.then ?_
    refine wpM.ret ?_
    refine QM.leave (.inl rfl) [.tmp 4] Try.results26 rfl ?_
    intro w' hm' hc' hg'
    -- leaf 2: h1-
    have hil : i = xs.length := (by omega); subst hil; rw [List.take_length] at ha; exact ⟨by show Value.int .i64 _ = _; rw [fix_miss ha], hc'⟩

set_option maxRecDepth 100000 in
theorem cof_pass {xs : List COp} {ad : Option Addr} {n cap : Nat} (w : World) (hn : n = xs.length) (hl : Sr fO 3 xs (.slice ad n cap) w) (hx : xs.length ≤ 1000000) : Ret Try.prog 15 #[.slice ad n cap, .func (.func 16) #[] #[]] w (fun v w' => v = .bool (xs.any (fun o => passB o.k)) ∧ Ext w w') := by
  refine Ret.enterM (l := [.slice ad n cap, .func (.func 16) #[] #[]]) Try.func15 rfl Try.ntmps15 rfl ([]) (no) (Mem.nil w) ?_
  refine wpM.seq ?_
  refine wpM.region ?_
  refine LM.val (ov_assign rfl) ?_
  refine LM.nil ?_
  refine QM.sub (e' := [(0, _), (1, _)]) ⟨rfl, rfl, trivial⟩ ?_
  refine QM.then ?_
  refine wpM.seq ?_
  refine wpM.region ?_
  refine LM.val (ov_move rfl) ?_
  refine LM.val (ov_move rfl) ?_
  refine LM.callE (oc_call (enters_fn Try.func26 (by kernel_rfl) rfl) rfl) (fun w hm hc hg => ixf_pass w hn (hl.ext hc) hx) ?_
  refine LM.val (ov_geq rfl rfl) ?_
  refine LM.val (ov_assign rfl) ?_
  refine LM.nil ?_
  refine QM.sub (e' := [(4, _)]) ⟨rfl, trivial⟩ ?_
  refine QM.then ?_
  refine wpM.ret ?_
  refine QM.leave (.inl rfl) [.tmp 4] Try.results15 rfl ?_
  intro w' hm' hc' hg'
  -- leaf 1: 
  exact ⟨by show Value.bool _ = _; rw [← fix_pos], hc'⟩

set_option maxRecDepth 100000 in
theorem pmay_spec {xs : List COp} {fv : Bool} {ad : Option Addr} {n cap : Nat} (w : World) (hn : n = xs.length) (hl : Sr fO 3 xs (.slice ad n cap) w) : Ret Try.prog 12 #[pV fv ad n cap] w (fun v w' => v = .bool (mayB xs) ∧ Ext w w') := by
  refine Ret.enterM (l := [pV fv ad n cap]) Try.func12 rfl Try.ntmps12 rfl ([]) (no) (Mem.nil w) ?_
  refine wpM.seq ?_
  refine wpM.region ?_
  refine LM.box rfl rfl (fun b1 hb1 => ?_)
  refine LM.val (ov_assign rfl) ?_
  refine LM.nil ?_
  refine QM.sub (e' := [(1, _)]) ⟨rfl, trivial⟩ ?_
  refine QM.then ?_
  refine wpM.seq ?_
  refine wpM.region ?_
  refine LM.val (ov_field Try.underlying24 rfl Try.sizeOf22 rfl (k := 1) rfl rfl) ?_
  first | refine LM.rd (om_ld Try.isAgg22 rfl rfl) ?_
  refine LM.val (ov_len Try.underlying22 rfl) ?_
  refine LM.val (ov_gtr rfl rfl) ?_
  refine LM.val (ov_move rfl) ?_
  first | refine LM.splitD (t := 7) rfl (fun h1 => ?_) (fun h1 => ?_) | refine LM.splitB (t := 7) rfl (fun h1 => ?_) (fun h1 => ?_)
  ·
    refine LM.strip (t := 7) rfl rfl rfl ?_
    refine LM.val (ov_field Try.underlying24 rfl Try.sizeOf22 rfl (k := 1) rfl rfl) ?_
    refine LM.strip (t := 7) rfl rfl rfl ?_
    first | refine LM.rd (om_ld Try.isAgg22 rfl rfl) ?_
    refine LM.strip (t := 7) rfl rfl rfl ?_
    refine LM.val (ov_len Try.underlying22 rfl) ?_
    refine LM.strip (t := 7) rfl rfl rfl ?_
    refine LM.val (ov_leq rfl rfl) ?_
    refine LM.val (ov_pickT rfl rfl) ?_
    refine LM.val (ov_move rfl) ?_
    first | refine LM.splitD (t := 13) rfl (fun h2 => ?_) (fun h2 => ?_) | refine LM.splitB (t := 13) rfl (fun h2 => ?_) (fun h2 => ?_)
    ·
      refine LM.strip (t := 13) rfl rfl rfl ?_
      refine LM.val (ov_field Try.underlying24 rfl Try.sizeOf22 rfl (k := 1) rfl rfl) ?_
      refine LM.strip (t := 13) rfl rfl rfl ?_
      first | refine LM.rd (om_ld Try.isAgg22 rfl rfl) ?_
      refine LM.strip (t := 13) rfl rfl rfl ?_
      refine LM.callE (oc_call (enters_fn Try.func15 (by kernel_rfl) rfl) rfl) (fun w hm hc hg => cof_may w hn (hl.ext hc) (by omega)) ?_
      refine LM.strip (t := 13) rfl rfl rfl ?_
      first | refine LM.val (ov_notD rfl) ?_ | refine LM.val (ov_not rfl) ?_
      refine LM.val (ov_pickT rfl rfl) ?_
      refine LM.val (ov_assign rfl) ?_
      refine LM.nil ?_
      refine QM.sub (e' := [(2, _)]) ⟨rfl, trivial⟩ ?_
      refine QM.then ?_
      refine wpM.ret ?_
      refine QM.leave (.inl rfl) [.tmp 2] Try.results12 rfl ?_
      intro w' hm' hc' hg'
      -- leaf 1: h1+ h2+
      refine ⟨?_, hc'⟩; simp only [resV, mayB]; congr 1; first | (rw [decide_eq_false (show ¬ 0 < xs.length by omega)]; rfl) | (rw [decide_eq_false (show ¬ xs.length ≤ 12 by omega)]; simp; done) | (rw [decide_eq_true (show 0 < xs.length by omega), decide_eq_true (show xs.length ≤ 12 by omega), all_any]; rfl)
    ·
      refine LM.drop (t := 13) rfl rfl rfl ?_
      refine LM.drop (t := 13) rfl rfl rfl ?_
      refine LM.drop (t := 13) rfl rfl rfl ?_
      refine LM.drop (t := 13) rfl rfl rfl ?_
      refine LM.val (ov_pickF rfl rfl) ?_
      refine LM.val (ov_assign rfl) ?_
      refine LM.nil ?_
      refine QM.sub (e' := [(2, _)]) ⟨rfl, trivial⟩ ?_
      refine QM.then ?_
      refine wpM.ret ?_
      refine QM.leave (.inl rfl) [.tmp 2] Try.results12 rfl ?_
      intro w' hm' hc' hg'
      -- leaf 2: h1+ h2-
      refine ⟨?_, hc'⟩; simp only [resV, mayB]; congr 1; first | (rw [decide_eq_false (show ¬ 0 < xs.length by omega)]; rfl) | (rw [decide_eq_false (show ¬ xs.length ≤ 12 by omega)]; simp; done) | (rw [decide_eq_true (show 0 < xs.length by omega), decide_eq_true (show xs.length ≤ 12 by omega), all_any]; rfl)
  ·
    refine LM.drop (t := 7) rfl rfl rfl ?_
    refine LM.drop (t := 7) rfl rfl rfl ?_
    refine LM.drop (t := 7) rfl rfl rfl ?_
    refine LM.drop (t := 7) rfl rfl rfl ?_
    refine LM.val (ov_pickF rfl rfl) ?_
    refine LM.val (ov_move rfl) ?_
    refine LM.drop (t := 13) rfl rfl rfl ?_
    refine LM.drop (t := 13) rfl rfl rfl ?_
    refine LM.drop (t := 13) rfl rfl rfl ?_
    refine LM.drop (t := 13) rfl rfl rfl ?_
    refine LM.val (ov_pickF rfl rfl) ?_
    refine LM.val (ov_assign rfl) ?_
    refine LM.nil ?_
    refine QM.sub (e' := [(2, _)]) ⟨rfl, trivial⟩ ?_
    refine QM.then ?_
    refine wpM.ret ?_
    refine QM.leave (.inl rfl) [.tmp 2] Try.results12 rfl ?_
    intro w' hm' hc' hg'
    -- leaf 3: h1-
    refine ⟨?_, hc'⟩; simp only [resV, mayB]; congr 1; first | (rw [decide_eq_false (show ¬ 0 < xs.length by omega)]; rfl) | (rw [decide_eq_false (show ¬ xs.length ≤ 12 by omega)]; simp; done) | (rw [decide_eq_true (show 0 < xs.length by omega), decide_eq_true (show xs.length ≤ 12 by omega), all_any]; rfl)

set_option maxRecDepth 100000 in
theorem limits_spec (k : Int) (w : World) : Ret Try.prog 29 #[.int .i64 k] w (fun v w' => v = .tuple #[.int .i64 (loA k), .int .i64 (hiA k)] ∧ Ext w w') := by
  refine Ret.enterM (l := [.int .i64 k]) Try.func29 rfl Try.ntmps29 rfl ([]) (no) (Mem.nil w) ?_
  refine wpM.seq ?_
  refine wpM.region ?_
  refine LM.val (ov_assign rfl) ?_
  refine LM.val (ov_assign rfl) ?_
  refine LM.nil ?_
  refine QM.sub (e' := [(0, _)]) ⟨rfl, trivial⟩ ?_
  refine QM.then ?_
  refine wpM.seq ?_
  refine wpM.seq ?_
  refine wpM.region ?_
  refine LM.val (ov_move rfl) ?_
  refine LM.val (ov_eql rfl rfl) ?_
  refine LM.nil ?_
  refine QM.sub (e' := [(0, _), (5, _)]) ⟨rfl, rfl, trivial⟩ ?_
  refine QM.then ?_
  first | refine wpM.condD rfl (fun h1 => ?_) (fun h1 => ?_) | refine wpM.condB rfl (fun h1 => ?_) (fun h1 => ?_)
  ·
    refine wpM.seq ?_
    refine wpM.region ?_
    refine LM.val (ov_assign rfl) ?_
    refine LM.val (ov_assign rfl) ?_
    refine LM.nil ?_
    refine QM.sub (e' := [(2, _), (3, _)]) ⟨rfl, rfl, trivial⟩ ?_
    refine QM.then ?_
    refine wpM.ret ?_
    refine QM.then_ret ?_
    refine QM.leave (.inl rfl) [.tmp 2, .tmp 3] Try.results29 rfl ?_
    intro w' hm' hc' hg'
    -- leaf 1: h1+
    refine ⟨?_, hc'⟩; simp only [resV, loA, hiA]; try ((repeat' split) <;> first | rfl | omega)
  ·
    refine wpM.skip ?_
    refine QM.then ?_
    refine wpM.seq ?_
    refine wpM.seq ?_
    refine wpM.region ?_
    refine LM.val (ov_move rfl) ?_
    refine LM.val (ov_geq rfl rfl) ?_
    refine LM.val (ov_move rfl) ?_
    first | refine LM.splitD (t := 8) rfl (fun h2 => ?_) (fun h2 => ?_) | refine LM.splitB (t := 8) rfl (fun h2 => ?_) (fun h2 => ?_)
    ·
      refine LM.strip (t := 8) rfl rfl rfl ?_
      refine LM.val (ov_move rfl) ?_
      refine LM.strip (t := 8) rfl rfl rfl ?_
      refine LM.val (ov_leq rfl rfl) ?_
      refine LM.val (ov_pickT rfl rfl) ?_
      refine LM.val (ov_move rfl) ?_
      first | refine LM.splitD (t := 12) rfl (fun h3 => ?_) (fun h3 => ?_) | refine LM.splitB (t := 12) rfl (fun h3 => ?_) (fun h3 => ?_)
      ·
        refine LM.drop (t := 12) rfl rfl rfl ?_
        refine LM.drop (t := 12) rfl rfl rfl ?_
        refine LM.val (ov_pickT rfl rfl) ?_
        refine LM.nil ?_
        refine QM.sub (e' := [(0, _), (15, _)]) ⟨rfl, rfl, trivial⟩ ?_
        refine QM.then ?_
        refine wpM.condT rfl ?_
        refine wpM.seq ?_
        refine wpM.region ?_
        refine LM.val (ov_assign rfl) ?_
        refine LM.val (ov_assign rfl) ?_
        refine LM.nil ?_
        refine QM.sub (e' := [(2, _), (3, _)]) ⟨rfl, rfl, trivial⟩ ?_
        refine QM.then ?_
        refine wpM.ret ?_
        refine QM.then_ret ?_
        refine QM.leave (.inl rfl) [.tmp 2, .tmp 3] Try.results29 rfl ?_
        intro w' hm' hc' hg'
        -- leaf 2: h1- h2+ h3+
        refine ⟨?_, hc'⟩; simp only [resV, loA, hiA]; try ((repeat' split) <;> first | rfl | omega)
      ·
        refine LM.strip (t := 12) rfl rfl rfl ?_
        refine LM.val (ov_move rfl) ?_
        refine LM.strip (t := 12) rfl rfl rfl ?_
        refine LM.val (ov_eql rfl rfl) ?_
        refine LM.val (ov_pickF rfl rfl) ?_
        refine LM.nil ?_
        refine QM.sub (e' := [(0, _), (15, _)]) ⟨rfl, rfl, trivial⟩ ?_
        refine QM.then ?_
        first | refine wpM.condD rfl (fun h4 => ?_) (fun h4 => ?_) | refine wpM.condB rfl (fun h4 => ?_) (fun h4 => ?_)
        ·
          refine wpM.seq ?_
          refine wpM.region ?_
          refine LM.val (ov_assign rfl) ?_
          refine LM.val (ov_assign rfl) ?_
          refine LM.nil ?_
          refine QM.sub (e' := [(2, _), (3, _)]) ⟨rfl, rfl, trivial⟩ ?_
          refine QM.then ?_
          refine wpM.ret ?_
          refine QM.then_ret ?_
          refine QM.leave (.inl rfl) [.tmp 2, .tmp 3] Try.results29 rfl ?_
          intro w' hm' hc' hg'
          -- leaf 3: h1- h2+ h3- h4+
          refine ⟨?_, hc'⟩; simp only [resV, loA, hiA]; try ((repeat' split) <;> first | rfl | omega)
        ·
          refine wpM.skip ?_
          refine QM.then ?_
          refine wpM.seq ?_
          refine wpM.seq ?_
          refine wpM.region ?_
          refine LM.val (ov_move rfl) ?_
          refine LM.val (ov_eql rfl rfl) ?_
          refine LM.nil ?_
          refine QM.sub (e' := [(0, _), (17, _)]) ⟨rfl, rfl, trivial⟩ ?_
          refine QM.then ?_
          first | refine wpM.condD rfl (fun h5 => ?_) (fun h5 => ?_) | refine wpM.condB rfl (fun h5 => ?_) (fun h5 => ?_)
          ·
            refine wpM.seq ?_
            refine wpM.region ?_
            refine LM.val (ov_assign rfl) ?_
            refine LM.val (ov_assign rfl) ?_
            refine LM.nil ?_
            refine QM.sub (e' := [(2, _), (3, _)]) ⟨rfl, rfl, trivial⟩ ?_
            refine QM.then ?_
            refine wpM.ret ?_
            refine QM.then_ret ?_
            refine QM.leave (.inl rfl) [.tmp 2, .tmp 3] Try.results29 rfl ?_
            intro w' hm' hc' hg'
            -- leaf 4: h1- h2+ h3- h4- h5+
            refine ⟨?_, hc'⟩; simp only [resV, loA, hiA]; try ((repeat' split) <;> first | rfl | omega)
          ·
            refine wpM.skip ?_
            refine QM.then ?_
            refine wpM.seq ?_
            refine wpM.seq ?_
            refine wpM.region ?_
            refine LM.val (ov_move rfl) ?_
            refine LM.val (ov_eql rfl rfl) ?_
            refine LM.nil ?_
            refine QM.sub (e' := [(19, _)]) ⟨rfl, trivial⟩ ?_
            refine QM.then ?_
            first | refine wpM.condD rfl (fun h6 => ?_) (fun h6 => ?_) | refine wpM.condB rfl (fun h6 => ?_) (fun h6 => ?_)
            ·
              refine wpM.seq ?_
              refine wpM.region ?_
              refine LM.val (ov_assign rfl) ?_
              refine LM.val (ov_assign rfl) ?_
              refine LM.nil ?_
              refine QM.sub (e' := [(2, _), (3, _)]) ⟨rfl, rfl, trivial⟩ ?_
              refine QM.then ?_
              refine wpM.ret ?_
              refine QM.then_ret ?_
              refine QM.leave (.inl rfl) [.tmp 2, .tmp 3] Try.results29 rfl ?_
              intro w' hm' hc' hg'
              -- leaf 5: h1- h2+ h3- h4- h5- h6+
              refine ⟨?_, hc'⟩; simp only [resV, loA, hiA]; try ((repeat' split) <;> first | rfl | omega)
            ·
              refine wpM.skip ?_
              refine QM.then ?_
              refine wpM.seq ?_
              refine wpM.region ?_
              refine LM.val (ov_assign rfl) ?_
              refine LM.val (ov_assign rfl) ?_
              refine LM.nil ?_
              refine QM.sub (e' := [(2, _), (3, _)]) ⟨rfl, rfl, trivial⟩ ?_
              refine QM.then ?_
              refine wpM.ret ?_
              refine QM.leave (.inl rfl) [.tmp 2, .tmp 3] Try.results29 rfl ?_
              intro w' hm' hc' hg'
              -- leaf 6: h1- h2+ h3- h4- h5- h6-
              refine ⟨?_, hc'⟩; simp only [resV, loA, hiA]; try ((repeat' split) <;> first | rfl | omega)
    ·
      refine LM.drop (t := 8) rfl rfl rfl ?_
      refine LM.drop (t := 8) rfl rfl rfl ?_
      refine LM.val (ov_pickF rfl rfl) ?_
      refine LM.val (ov_move rfl) ?_
      refine LM.strip (t := 12) rfl rfl rfl ?_
      refine LM.val (ov_move rfl) ?_
      refine LM.strip (t := 12) rfl rfl rfl ?_
      refine LM.val (ov_eql rfl rfl) ?_
      refine LM.val (ov_pickF rfl rfl) ?_
      refine LM.nil ?_
      refine QM.sub (e' := [(0, _), (15, _)]) ⟨rfl, rfl, trivial⟩ ?_
      refine QM.then ?_
      first | refine wpM.condD rfl (fun h7 => ?_) (fun h7 => ?_) | refine wpM.condB rfl (fun h7 => ?_) (fun h7 => ?_)
      ·
        refine wpM.seq ?_
        refine wpM.region ?_
        refine LM.val (ov_assign rfl) ?_
        refine LM.val (ov_assign rfl) ?_
        refine LM.nil ?_
        refine QM.sub (e' := [(2, _), (3, _)]) ⟨rfl, rfl, trivial⟩ ?_
        refine QM.then ?_
        refine wpM.ret ?_
        refine QM.then_ret ?_
        refine QM.leave (.inl rfl) [.tmp 2, .tmp 3] Try.results29 rfl ?_
        intro w' hm' hc' hg'
        -- leaf 7: h1- h2- h7+
        refine ⟨?_, hc'⟩; simp only [resV, loA, hiA]; try ((repeat' split) <;> first | rfl | omega)
      ·
        refine wpM.skip ?_
        refine QM.then ?_
        refine wpM.seq ?_
        refine wpM.seq ?_
        refine wpM.region ?_
        refine LM.val (ov_move rfl) ?_
        refine LM.val (ov_eql rfl rfl) ?_
        refine LM.nil ?_
        refine QM.sub (e' := [(0, _), (17, _)]) ⟨rfl, rfl, trivial⟩ ?_
        refine QM.then ?_
        first | refine wpM.condD rfl (fun h8 => ?_) (fun h8 => ?_) | refine wpM.condB rfl (fun h8 => ?_) (fun h8 => ?_)
        ·
          refine wpM.seq ?_
          refine wpM.region ?_
          refine LM.val (ov_assign rfl) ?_
          refine LM.val (ov_assign rfl) ?_
          refine LM.nil ?_
          refine QM.sub (e' := [(2, _), (3, _)]) ⟨rfl, rfl, trivial⟩ ?_
          refine QM.then ?_
          refine wpM.ret ?_
          refine QM.then_ret ?_
          refine QM.leave (.inl rfl) [.tmp 2, .tmp 3] Try.results29 rfl ?_
          intro w' hm' hc' hg'
          -- leaf 8: h1- h2- h7- h8+
          refine ⟨?_, hc'⟩; simp only [resV, loA, hiA]; try ((repeat' split) <;> first | rfl | omega)
        ·
          refine wpM.skip ?_
          refine QM.then ?_
          refine wpM.seq ?_
          refine wpM.seq ?_
          refine wpM.region ?_
          refine LM.val (ov_move rfl) ?_
          refine LM.val (ov_eql rfl rfl) ?_
          refine LM.nil ?_
          refine QM.sub (e' := [(19, _)]) ⟨rfl, trivial⟩ ?_
          refine QM.then ?_
          first | refine wpM.condD rfl (fun h9 => ?_) (fun h9 => ?_) | refine wpM.condB rfl (fun h9 => ?_) (fun h9 => ?_)
          ·
            refine wpM.seq ?_
            refine wpM.region ?_
            refine LM.val (ov_assign rfl) ?_
            refine LM.val (ov_assign rfl) ?_
            refine LM.nil ?_
            refine QM.sub (e' := [(2, _), (3, _)]) ⟨rfl, rfl, trivial⟩ ?_
            refine QM.then ?_
            refine wpM.ret ?_
            refine QM.then_ret ?_
            refine QM.leave (.inl rfl) [.tmp 2, .tmp 3] Try.results29 rfl ?_
            intro w' hm' hc' hg'
            -- leaf 9: h1- h2- h7- h8- h9+
            refine ⟨?_, hc'⟩; simp only [resV, loA, hiA]; try ((repeat' split) <;> first | rfl | omega)
          ·
            refine wpM.skip ?_
            refine QM.then ?_
            refine wpM.seq ?_
            refine wpM.region ?_
            refine LM.val (ov_assign rfl) ?_
            refine LM.val (ov_assign rfl) ?_
            refine LM.nil ?_
            refine QM.sub (e' := [(2, _), (3, _)]) ⟨rfl, rfl, trivial⟩ ?_
            refine QM.then ?_
            refine wpM.ret ?_
            refine QM.leave (.inl rfl) [.tmp 2, .tmp 3] Try.results29 rfl ?_
            intro w' hm' hc' hg'
            -- leaf 10: h1- h2- h7- h8- h9-
            refine ⟨?_, hc'⟩; simp only [resV, loA, hiA]; try ((repeat' split) <;> first | rfl | omega)

set_option maxRecDepth 100000 in
theorem one_spec (o : COp) (w : World) : Ret Try.prog 19 #[.agg (fO o).toArray] w (fun v w' => v = .bool (rightB o) ∧ Ext w w') := by
  refine Ret.enterM (l := [.agg (fO o).toArray]) Try.func19 rfl Try.ntmps19 rfl ([]) (no) (Mem.nil w) ?_
  refine wpM.seq ?_
  refine wpM.region ?_
  refine LM.box rfl rfl (fun b1 hb1 => ?_)
  refine LM.val (ov_assign rfl) ?_
  refine LM.nil ?_
  refine QM.sub (e' := [(1, _)]) ⟨rfl, trivial⟩ ?_
  refine QM.then ?_
  refine wpM.seq ?_
  refine wpM.seq ?_
  refine wpM.region ?_
  refine LM.val (ov_field Try.underlying38 rfl Try.sizeOf3 rfl (k := 0) rfl rfl) ?_
  first | refine LM.rd (om_ld Try.isAgg3 rfl rfl) ?_
  refine LM.callE (oc_call (enters_fn Try.func28 (by kernel_rfl) rfl) rfl) (fun w hm hc hg => rname_spec o.k w) ?_
  refine LM.val (ov_seql rfl rfl) ?_
  refine LM.nil ?_
  refine QM.sub (e' := [(1, _), (10, _)]) ⟨rfl, rfl, trivial⟩ ?_
  refine QM.then ?_
  first | refine wpM.condD rfl (fun h1 => ?_) (fun h1 => ?_) | refine wpM.condB rfl (fun h1 => ?_) (fun h1 => ?_)
  ·
    refine wpM.seq ?_
    refine wpM.region ?_
    refine LM.val (ov_assign rfl) ?_
    refine LM.nil ?_
    refine QM.sub (e' := [(2, _)]) ⟨rfl, trivial⟩ ?_
    refine QM.then ?_
    refine wpM.ret ?_
    refine QM.then_ret ?_
    refine QM.leave (.inl rfl) [.tmp 2] Try.results19 rfl ?_
    intro w' hm' hc' hg'
    -- leaf 1: h1+
    refine ⟨?_, hc'⟩; rw [nmO_empty] at h1; have hk : kindB o.k = false := (by simpa using h1); simp only [resV, rightB, hk, Bool.false_and]
  ·
    refine wpM.skip ?_
    refine QM.then ?_
    refine wpM.seq ?_
    refine wpM.region ?_
    refine LM.val (ov_field Try.underlying38 rfl Try.sizeOf3 rfl (k := 0) rfl rfl) ?_
    first | refine LM.rd (om_ld Try.isAgg3 rfl rfl) ?_
    refine LM.callE (oc_call (enters_fn Try.func29 (by kernel_rfl) rfl) rfl) (fun w hm hc hg => limits_spec o.k w) ?_
    refine LM.val (ov_move rfl) ?_
    refine LM.val (ov_extract rfl rfl) ?_
    refine LM.val (ov_extract rfl rfl) ?_
    refine LM.val (ov_assign rfl) ?_
    refine LM.val (ov_assign rfl) ?_
    refine LM.nil ?_
    refine QM.sub (e' := [(1, _), (3, _), (4, _)]) ⟨rfl, rfl, rfl, trivial⟩ ?_
    refine QM.then ?_
    refine wpM.seq ?_
    refine wpM.region ?_
    refine LM.val (ov_field Try.underlying38 rfl Try.sizeOf3 rfl (k := 1) rfl rfl) ?_
    first | refine LM.rd (om_ld Try.isAgg3 rfl rfl) ?_
    refine LM.val (ov_eql rfl rfl) ?_
    refine LM.val (ov_assign rfl) ?_
    refine LM.nil ?_
    refine QM.sub (e' := [(1, _), (3, _), (4, _), (5, _)]) ⟨rfl, rfl, rfl, rfl, trivial⟩ ?_
    refine QM.then ?_
    refine wpM.seq ?_
    refine wpM.seq ?_
    refine wpM.region ?_
    refine LM.val (ov_move rfl) ?_
    refine LM.val (ov_geq rfl rfl) ?_
    refine LM.nil ?_
    refine QM.sub (e' := [(1, _), (3, _), (4, _), (5, _), (21, _)]) ⟨rfl, rfl, rfl, rfl, rfl, trivial⟩ ?_
    refine QM.then ?_
    refine wpM.joinK (α := Bool) (fun b => [(5, .bool b)]) [(1, _)] (fun b => (b1, .cells (fO o).toArray 38 (0, 0)) :: []) (fun b => b = hasB (loA o.k) (hiA o.k) o.a) ⟨rfl, trivial⟩ ?_ ?_
    ·
      first | refine wpM.condD rfl (fun h2 => ?_) (fun h2 => ?_) | refine wpM.condB rfl (fun h2 => ?_) (fun h2 => ?_)
      ·
        refine wpM.region ?_
        refine LM.val (ov_field Try.underlying38 rfl Try.sizeOf3 rfl (k := 1) rfl rfl) ?_
        first | refine LM.rd (om_ld Try.isAgg3 rfl rfl) ?_
        refine LM.val (ov_move rfl) ?_
        refine LM.val (ov_geq rfl rfl) ?_
        refine LM.val (ov_move rfl) ?_
        first | refine LM.splitD (t := 26) rfl (fun h3 => ?_) (fun h3 => ?_) | refine LM.splitB (t := 26) rfl (fun h3 => ?_) (fun h3 => ?_)
        ·
          refine LM.strip (t := 26) rfl rfl rfl ?_
          refine LM.val (ov_field Try.underlying38 rfl Try.sizeOf3 rfl (k := 1) rfl rfl) ?_
          refine LM.strip (t := 26) rfl rfl rfl ?_
          first | refine LM.rd (om_ld Try.isAgg3 rfl rfl) ?_
          refine LM.strip (t := 26) rfl rfl rfl ?_
          refine LM.val (ov_move rfl) ?_
          refine LM.strip (t := 26) rfl rfl rfl ?_
          refine LM.val (ov_leq rfl rfl) ?_
          refine LM.val (ov_pickT rfl rfl) ?_
          refine LM.val (ov_assign rfl) ?_
          refine LM.nil ?_
          refine QM.sub (e' := [(1, _), (5, _)]) ⟨rfl, rfl, trivial⟩ ?_
          -- meet1: h1- h2+ h3+
          have hlc := loA_cases o.k
          refine QM.meetK (_) ⟨(by first | rfl | exact lk rfl (by congr 1; omega) | exact lk rfl (by simp)), rfl, trivial⟩ (by (repeat' (first | exact SubM.nil _ | refine SubM.cons rfl ?_ | refine SubM.app ?_))) ?_
          · first | (rw [hasB, if_pos (by omega)]; done) | (rw [hasB, if_neg (by omega), decide_eq_false (show ¬ loA o.k ≤ o.a by omega)]; rfl) | (rw [hasB, if_neg (by omega), decide_eq_true (show loA o.k ≤ o.a by omega)]; rfl)
        ·
          refine LM.drop (t := 26) rfl rfl rfl ?_
          refine LM.drop (t := 26) rfl rfl rfl ?_
          refine LM.drop (t := 26) rfl rfl rfl ?_
          refine LM.drop (t := 26) rfl rfl rfl ?_
          refine LM.val (ov_pickF rfl rfl) ?_
          refine LM.val (ov_assign rfl) ?_
          refine LM.nil ?_
          refine QM.sub (e' := [(1, _), (5, _)]) ⟨rfl, rfl, trivial⟩ ?_
          -- meet2: h1- h2+ h3-
          have hlc := loA_cases o.k
          refine QM.meetK (_) ⟨(by first | rfl | exact lk rfl (by congr 1; omega) | exact lk rfl (by simp)), rfl, trivial⟩ (by (repeat' (first | exact SubM.nil _ | refine SubM.cons rfl ?_ | refine SubM.app ?_))) ?_
          · first | (rw [hasB, if_pos (by omega)]; done) | (rw [hasB, if_neg (by omega), decide_eq_false (show ¬ loA o.k ≤ o.a by omega)]; rfl) | (rw [hasB, if_neg (by omega), decide_eq_true (show loA o.k ≤ o.a by omega)]; rfl)
      ·
        refine wpM.skip ?_
        -- meet3: h1- h2-
        have hlc := loA_cases o.k
        refine QM.meetK (_) ⟨(by first | rfl | exact lk rfl (by congr 1; omega) | exact lk rfl (by simp)), rfl, trivial⟩ (by (repeat' (first | exact SubM.nil _ | refine SubM.cons rfl ?_ | refine SubM.app ?_))) ?_
        · first | (rw [hasB, if_pos (by omega)]; done) | (rw [hasB, if_neg (by omega), decide_eq_false (show ¬ loA o.k ≤ o.a by omega)]; rfl) | (rw [hasB, if_neg (by omega), decide_eq_true (show loA o.k ≤ o.a by omega)]; rfl)
    ·
      rintro b hb1
      change QM _ _ _ _ _ ((b1, .cells (fO o).toArray 38 (0, 0)) :: []) _ _ _
      refine QM.then ?_
      refine wpM.seq ?_
      refine wpM.region ?_
      refine LM.val (ov_field Try.underlying38 rfl Try.sizeOf3 rfl (k := 2) rfl rfl) ?_
      first | refine LM.rd (om_ld Try.isAgg3 rfl rfl) ?_
      refine LM.val (ov_eql rfl rfl) ?_
      refine LM.val (ov_assign rfl) ?_
      refine LM.nil ?_
      refine QM.sub (e' := [(1, _), (5, _), (6, _)]) ⟨rfl, rfl, rfl, trivial⟩ ?_
      refine QM.then ?_
      refine wpM.seq ?_
      refine wpM.seq ?_
      refine wpM.region ?_
      refine LM.val (ov_field Try.underlying38 rfl Try.sizeOf3 rfl (k := 0) rfl rfl) ?_
      first | refine LM.rd (om_ld Try.isAgg3 rfl rfl) ?_
      refine LM.val (ov_eql rfl rfl) ?_
      refine LM.nil ?_
      refine QM.sub (e' := [(1, _), (5, _), (6, _), (37, _)]) ⟨rfl, rfl, rfl, rfl, trivial⟩ ?_
      refine QM.then ?_
      refine wpM.joinK (α := Bool) (fun b' => [(6, .bool b')]) [(5, _)] (fun b' => (b1, .cells (fO o).toArray 38 (0, 0)) :: []) (fun b' => b' = hasB (loB o.k) (hiB o.k) o.b) ⟨rfl, trivial⟩ ?_ ?_
      ·
        first | refine wpM.condD rfl (fun h4 => ?_) (fun h4 => ?_) | refine wpM.condB rfl (fun h4 => ?_) (fun h4 => ?_)
        ·
          refine wpM.region ?_
          refine LM.val (ov_field Try.underlying38 rfl Try.sizeOf3 rfl (k := 2) rfl rfl) ?_
          first | refine LM.rd (om_ld Try.isAgg3 rfl rfl) ?_
          refine LM.val (ov_geq rfl rfl) ?_
          refine LM.val (ov_move rfl) ?_
          first | refine LM.splitD (t := 41) rfl (fun h5 => ?_) (fun h5 => ?_) | refine LM.splitB (t := 41) rfl (fun h5 => ?_) (fun h5 => ?_)
          ·
            refine LM.strip (t := 41) rfl rfl rfl ?_
            refine LM.val (ov_field Try.underlying38 rfl Try.sizeOf3 rfl (k := 2) rfl rfl) ?_
            refine LM.strip (t := 41) rfl rfl rfl ?_
            first | refine LM.rd (om_ld Try.isAgg3 rfl rfl) ?_
            refine LM.strip (t := 41) rfl rfl rfl ?_
            refine LM.val (ov_leq rfl rfl) ?_
            refine LM.val (ov_pickT rfl rfl) ?_
            refine LM.val (ov_assign rfl) ?_
            refine LM.nil ?_
            refine QM.sub (e' := [(5, _), (6, _)]) ⟨rfl, rfl, trivial⟩ ?_
            -- meet1: h1- h4+ h5+
            refine QM.meetK (_) ⟨(by first | rfl | exact lk rfl (by congr 1; omega) | exact lk rfl (by simp)), rfl, trivial⟩ (by (repeat' (first | exact SubM.nil _ | refine SubM.cons rfl ?_ | refine SubM.app ?_))) ?_
            · first | (rw [hasBn (by assumption)]; done) | (rw [hasB5 (by assumption), decide_eq_false (show ¬ 1 ≤ o.b by omega)]; rfl) | (rw [hasB5 (by assumption), decide_eq_true (show 1 ≤ o.b by omega)]; rfl)
          ·
            refine LM.drop (t := 41) rfl rfl rfl ?_
            refine LM.drop (t := 41) rfl rfl rfl ?_
            refine LM.drop (t := 41) rfl rfl rfl ?_
            refine LM.val (ov_pickF rfl rfl) ?_
            refine LM.val (ov_assign rfl) ?_
            refine LM.nil ?_
            refine QM.sub (e' := [(5, _), (6, _)]) ⟨rfl, rfl, trivial⟩ ?_
            -- meet2: h1- h4+ h5-
            refine QM.meetK (_) ⟨(by first | rfl | exact lk rfl (by congr 1; omega) | exact lk rfl (by simp)), rfl, trivial⟩ (by (repeat' (first | exact SubM.nil _ | refine SubM.cons rfl ?_ | refine SubM.app ?_))) ?_
            · first | (rw [hasBn (by assumption)]; done) | (rw [hasB5 (by assumption), decide_eq_false (show ¬ 1 ≤ o.b by omega)]; rfl) | (rw [hasB5 (by assumption), decide_eq_true (show 1 ≤ o.b by omega)]; rfl)
        ·
          refine wpM.skip ?_
          -- meet3: h1- h4-
          refine QM.meetK (_) ⟨(by first | rfl | exact lk rfl (by congr 1; omega) | exact lk rfl (by simp)), rfl, trivial⟩ (by (repeat' (first | exact SubM.nil _ | refine SubM.cons rfl ?_ | refine SubM.app ?_))) ?_
          · first | (rw [hasBn (by assumption)]; done) | (rw [hasB5 (by assumption), decide_eq_false (show ¬ 1 ≤ o.b by omega)]; rfl) | (rw [hasB5 (by assumption), decide_eq_true (show 1 ≤ o.b by omega)]; rfl)
      ·
        rintro b' hb2
        change QM _ _ _ _ _ ((b1, .cells (fO o).toArray 38 (0, 0)) :: []) _ _ _
        refine QM.then ?_
        refine wpM.seq ?_
        refine wpM.region ?_
        refine LM.val (ov_move rfl) ?_
        refine LM.val (ov_move rfl) ?_
        first | refine LM.splitD (t := 47) rfl (fun h6 => ?_) (fun h6 => ?_) | refine LM.splitB (t := 47) rfl (fun h6 => ?_) (fun h6 => ?_)
        ·
          refine LM.strip (t := 47) rfl rfl rfl ?_
          refine LM.val (ov_move rfl) ?_
          refine LM.val (ov_pickT rfl rfl) ?_
          refine LM.val (ov_assign rfl) ?_
          refine LM.nil ?_
          refine QM.sub (e' := [(2, _)]) ⟨rfl, trivial⟩ ?_
          refine QM.then ?_
          refine wpM.ret ?_
          refine QM.leave (.inl rfl) [.tmp 2] Try.results19 rfl ?_
          intro w' hm' hc' hg'
          -- leaf 2: h1- h6+
          refine ⟨?_, hc'⟩; rw [nmO_empty] at h1; have hk : kindB o.k = true := (by simpa using h1); simp only [resV, rightB, hk, Bool.true_and, ← hb1, ← hb2]; simp only [h1, h6, decide_true, decide_false, Bool.true_and, Bool.false_and, Bool.and_true, Bool.and_false, Bool.not_true, Bool.not_false, Bool.true_or, Bool.false_or, Bool.or_true, Bool.or_false, ne_eq, not_true_eq_false, not_false_eq_true, Bool.and_self]
        ·
          refine LM.drop (t := 47) rfl rfl rfl ?_
          refine LM.val (ov_pickF rfl rfl) ?_
          refine LM.val (ov_assign rfl) ?_
          refine LM.nil ?_
          refine QM.sub (e' := [(2, _)]) ⟨rfl, trivial⟩ ?_
          refine QM.then ?_
          refine wpM.ret ?_
          refine QM.leave (.inl rfl) [.tmp 2] Try.results19 rfl ?_
          intro w' hm' hc' hg'
          -- leaf 3: h1- h6-
          refine ⟨?_, hc'⟩; rw [nmO_empty] at h1; have hk : kindB o.k = true := (by simpa using h1); simp only [resV, rightB, hk, Bool.true_and, ← hb1, ← hb2]; simp only [h1, h6, decide_true, decide_false, Bool.true_and, Bool.false_and, Bool.and_true, Bool.and_false, Bool.not_true, Bool.not_false, Bool.true_or, Bool.false_or, Bool.or_true, Bool.or_false, ne_eq, not_true_eq_false, not_false_eq_true, Bool.and_self]

set_option maxRecDepth 100000 in
theorem rtakes_spec (o : COp) (w : World) : Ret Try.prog 17 #[.agg (fO o).toArray] w (fun v w' => v = .bool (takesB o.k) ∧ Ext w w') := by
  refine Ret.enterM (l := [.agg (fO o).toArray]) Try.func17 rfl Try.ntmps17 rfl ([]) (no) (Mem.nil w) ?_
  refine wpM.seq ?_
  refine wpM.region ?_
  refine LM.box rfl rfl (fun b1 hb1 => ?_)
  refine LM.val (ov_assign rfl) ?_
  refine LM.nil ?_
  refine QM.sub (e' := [(1, _)]) ⟨rfl, trivial⟩ ?_
  refine QM.then ?_
  refine wpM.seq ?_
  refine wpM.region ?_
  refine LM.val (ov_field Try.underlying38 rfl Try.sizeOf3 rfl (k := 0) rfl rfl) ?_
  first | refine LM.rd (om_ld Try.isAgg3 rfl rfl) ?_
  refine LM.val (ov_geq rfl rfl) ?_
  refine LM.val (ov_move rfl) ?_
  first | refine LM.splitD (t := 6) rfl (fun h1 => ?_) (fun h1 => ?_) | refine LM.splitB (t := 6) rfl (fun h1 => ?_) (fun h1 => ?_)
  ·
    refine LM.strip (t := 6) rfl rfl rfl ?_
    refine LM.val (ov_field Try.underlying38 rfl Try.sizeOf3 rfl (k := 0) rfl rfl) ?_
    refine LM.strip (t := 6) rfl rfl rfl ?_
    first | refine LM.rd (om_ld Try.isAgg3 rfl rfl) ?_
    refine LM.strip (t := 6) rfl rfl rfl ?_
    refine LM.val (ov_leq rfl rfl) ?_
    refine LM.val (ov_pickT rfl rfl) ?_
    refine LM.val (ov_assign rfl) ?_
    refine LM.nil ?_
    refine QM.sub (e' := [(2, _)]) ⟨rfl, trivial⟩ ?_
    refine QM.then ?_
    refine wpM.ret ?_
    refine QM.leave (.inl rfl) [.tmp 2] Try.results17 rfl ?_
    intro w' hm' hc' hg'
    -- leaf 1: h1+
    refine ⟨?_, hc'⟩; simp only [resV, takesB]; congr 1; first | (rw [decide_eq_false (show ¬ 2 ≤ o.k by omega)]; rfl) | (rw [decide_eq_true (show 2 ≤ o.k by omega)]; rfl)
  ·
    refine LM.drop (t := 6) rfl rfl rfl ?_
    refine LM.drop (t := 6) rfl rfl rfl ?_
    refine LM.drop (t := 6) rfl rfl rfl ?_
    refine LM.val (ov_pickF rfl rfl) ?_
    refine LM.val (ov_assign rfl) ?_
    refine LM.nil ?_
    refine QM.sub (e' := [(2, _)]) ⟨rfl, trivial⟩ ?_
    refine QM.then ?_
    refine wpM.ret ?_
    refine QM.leave (.inl rfl) [.tmp 2] Try.results17 rfl ?_
    intro w' hm' hc' hg'
    -- leaf 2: h1-
    refine ⟨?_, hc'⟩; simp only [resV, takesB]; congr 1; first | (rw [decide_eq_false (show ¬ 2 ≤ o.k by omega)]; rfl) | (rw [decide_eq_true (show 2 ≤ o.k by omega)]; rfl)

set_option maxRecDepth 100000 in
theorem rmay_spec {xs : List COp} {fv : Bool} {ad : Option Addr} {n cap : Nat} (w : World) (hn : n = xs.length) (hl : Sr fO 3 xs (.slice ad n cap) w) : Ret Try.prog 9 #[pV fv ad n cap] w (fun v w' => v = .bool (mayB xs) ∧ Ext w w') := by
  refine Ret.enterM (l := [pV fv ad n cap]) Try.func9 rfl Try.ntmps9 rfl ([]) (no) (Mem.nil w) ?_
  refine wpM.seq ?_
  refine wpM.region ?_
  refine LM.box rfl rfl (fun b1 hb1 => ?_)
  refine LM.val (ov_assign rfl) ?_
  refine LM.nil ?_
  refine QM.sub (e' := [(1, _)]) ⟨rfl, trivial⟩ ?_
  refine QM.then ?_
  refine wpM.seq ?_
  refine wpM.seq ?_
  refine wpM.region ?_
  refine LM.val (ov_assign rfl) ?_
  refine LM.nil ?_
  refine QM.sub (e' := [(1, _), (3, _)]) ⟨rfl, rfl, trivial⟩ ?_
  refine QM.then ?_
  refine wpM.block ?_
  refine wpM.loopK0 (α := Nat) (fun i => [(3, .int .i64 (i : Nat))]) [(1, _)] (fun i => pB b1 fv ad n cap :: []) (fun i => i ≤ xs.length ∧ i ≤ 12 ∧ (xs.take i).all rightB = true) (fun i => xs.length - i) (0) ⟨(by first | rfl | exact lk rfl (by congr 1; omega) | exact lk rfl (by simp)), rfl, trivial⟩ (by (repeat' (first | exact SubM.nil _ | refine SubM.cons rfl ?_ | refine SubM.app ?_))) ⟨Nat.zero_le _, Nat.zero_le _, rfl⟩ ?_
  rintro i ⟨hi, hi2, ha⟩
  change wpM _ _ _ _ _ _ _ (pB b1 fv ad n cap :: []) _ _ _
  refine wpM.seq ?_
  refine wpM.seq ?_
  refine wpM.region ?_
  refine LM.val (ov_move rfl) ?_
  refine LM.val (ov_field Try.underlying24 rfl Try.sizeOf22 rfl (k := 1) rfl rfl) ?_
  first | refine LM.rd (om_ld Try.isAgg22 rfl rfl) ?_
  refine LM.val (ov_len Try.underlying22 rfl) ?_
  refine LM.val (ov_lss rfl rfl) ?_
  refine LM.nil ?_
  refine QM.sub (e' := [(1, _), (3, _), (8, _)]) ⟨rfl, rfl, rfl, trivial⟩ ?_
  refine QM.then ?_
  first | refine wpM.condD rfl (fun h1 => ?_) (fun h1 => ?_) | refine wpM.condB rfl (fun h1 => ?_) (fun h1 => ?_)
  ·
    refine wpM.skip ?_
    refine QM.then ?_
    refine wpM.seq ?_
    refine wpM.block ?_
    refine wpM.seq ?_
    refine wpM.region ?_
    refine LM.val (ov_move rfl) ?_
    refine LM.val (ov_gtr rfl rfl) ?_
    refine LM.val (ov_move rfl) ?_
    first | refine LM.splitD (t := 13) rfl (fun h2 => ?_) (fun h2 => ?_) | refine LM.splitB (t := 13) rfl (fun h2 => ?_) (fun h2 => ?_)
    ·
      refine LM.drop (t := 13) rfl rfl rfl ?_
      refine LM.drop (t := 13) rfl rfl rfl ?_
      refine LM.drop (t := 13) rfl rfl rfl ?_
      refine LM.drop (t := 13) rfl rfl rfl ?_
      refine LM.drop (t := 13) rfl rfl rfl ?_
      refine LM.drop (t := 13) rfl rfl rfl ?_
      refine LM.drop (t := 13) rfl rfl rfl ?_
      refine LM.val (ov_pickT rfl rfl) ?_
      refine LM.nil ?_
      refine QM.sub (e' := [(1, _), (3, _), (21, _)]) ⟨rfl, rfl, rfl, trivial⟩ ?_
      refine QM.then ?_
      refine wpM.condT rfl ?_
      refine wpM.seq ?_
      refine wpM.region ?_
      refine LM.val (ov_assign rfl) ?_
      refine LM.nil ?_
      refine QM.sub (e' := [(2, _)]) ⟨rfl, trivial⟩ ?_
      refine QM.then ?_
      refine wpM.ret ?_
      refine QM.block_ret ?_
      refine QM.then_ret ?_
      refine QM.then_ret ?_
      refine QM.block_ret ?_
      refine QM.then_ret ?_
      refine QM.leave (.inl rfl) [.tmp 2] Try.results9 rfl ?_
      intro w' hm' hc' hg'
      -- leaf 1: h1+ h2+
      refine ⟨?_, hc'⟩; simp only [resV]; have hm : mayB xs = false := (by unfold mayB; rw [decide_eq_false (show ¬ xs.length ≤ 12 by omega)]; simp); rw [hm]
    ·
      refine LM.strip (t := 13) rfl rfl rfl ?_
      refine LM.val (ov_field Try.underlying24 rfl Try.sizeOf22 rfl (k := 1) rfl rfl) ?_
      refine LM.strip (t := 13) rfl rfl rfl ?_
      first | refine LM.rd (om_ld Try.isAgg22 rfl rfl) ?_
      refine LM.strip (t := 13) rfl rfl rfl ?_
      refine LM.val (ov_move rfl) ?_
      refine LM.strip (t := 13) rfl rfl rfl ?_
      first | refine LM.val (ov_idxSN (by first | exact Sr.spt (by assumption) | exact Sl.spt (by assumption)) Try.underlying22 Try.sizeOf38 rfl rfl (by omega)) ?_ | refine LM.val (ov_idxS (by first | exact Sr.spt (by assumption) | exact Sl.spt (by assumption)) Try.underlying22 Try.sizeOf38 rfl rfl (by omega)) ?_ | refine LM.val (ov_idx Try.underlying22 Try.sizeOf38 rfl rfl (by omega)) ?_
      refine LM.strip (t := 13) rfl rfl rfl ?_
      first | refine LM.rd (om_slA (by assumption) (by intro _; rfl) Try.isAgg38 Try.sizeOf38 rfl (by exact getq default (by first | omega | (simp only [List.length_set, List.length_append, List.length_cons, List.length_nil]; omega)))) ?_ | refine LM.rdC (om_srEA (by assumption) (by intro _; rfl) Try.isAgg38 Try.sizeOf38 rfl (by exact getq default (by first | omega | (simp only [List.length_set, List.length_append, List.length_cons, List.length_nil]; omega))) id) ?_ | refine LM.rd (om_ldW Try.isAgg38 Try.sizeOf38 rfl rfl) ?_ | refine LM.rd (om_ldA Try.isAgg38 Try.sizeOf38 rfl (vs := [_, _, _]) rfl ⟨rfl, rfl, rfl, trivial⟩) ?_
      refine LM.strip (t := 13) rfl rfl rfl ?_
      refine LM.callE (oc_call (enters_fn Try.func19 (by kernel_rfl) rfl) rfl) (fun w hm hc hg => one_spec _ w) ?_
      refine LM.strip (t := 13) rfl rfl rfl ?_
      first | refine LM.val (ov_notD rfl) ?_ | refine LM.val (ov_not rfl) ?_
      refine LM.val (ov_pickF rfl rfl) ?_
      refine LM.nil ?_
      refine QM.sub (e' := [(1, _), (3, _), (21, _)]) ⟨rfl, rfl, rfl, trivial⟩ ?_
      refine QM.then ?_
      first | refine wpM.condD rfl (fun h3 => ?_) (fun h3 => ?_) | refine wpM.condB rfl (fun h3 => ?_) (fun h3 => ?_)
      ·
        refine wpM.seq ?_
        refine wpM.region ?_
        refine LM.val (ov_assign rfl) ?_
        refine LM.nil ?_
        refine QM.sub (e' := [(2, _)]) ⟨rfl, trivial⟩ ?_
        refine QM.then ?_
        refine wpM.ret ?_
        refine QM.block_ret ?_
        refine QM.then_ret ?_
        refine QM.then_ret ?_
        refine QM.block_ret ?_
        refine QM.then_ret ?_
        refine QM.leave (.inl rfl) [.tmp 2] Try.results9 rfl ?_
        intro w' hm' hc' hg'
        -- leaf 2: h1+ h2- h3+
        refine ⟨?_, hc'⟩; simp only [resV]; rw [may_not (i := i) (by omega) (by simpa using h3)]
      ·
        refine wpM.skip ?_
        refine QM.block_normal ?_
        refine QM.then ?_
        refine wpM.region ?_
        refine LM.val (ov_move rfl) ?_
        refine LM.val (ov_add64 rfl rfl (by omega)) ?_
        refine LM.val (ov_assign rfl) ?_
        refine LM.nil ?_
        refine QM.sub (e' := [(1, _), (3, _)]) ⟨rfl, rfl, trivial⟩ ?_
        -- again1: h1+ h2- h3-
        refine QM.againK (i + 1) ⟨(by first | rfl | exact lk rfl (by congr 1; omega) | exact lk rfl (by simp)), rfl, trivial⟩ (by (repeat' (first | exact SubM.nil _ | refine SubM.cons rfl ?_ | refine SubM.app ?_))) (fun _ h => h) ?_ ?_
        · exact ⟨by omega, by omega, by rw [all_snoc default (by omega), ha, Bool.true_and]; simpa using h3⟩
        · first | omega | (dsimp only; omega)
  ·
    refine wpM.exit ?_
    refine QM.then_exit ?_
    refine QM.then_exit ?_
    refine QM.block_hit ?_
    refine QM.then ?_
    refine wpM.seq ?_
    refine wpM.region ?_
    refine LM.val (ov_field Try.underlying24 rfl Try.sizeOf22 rfl (k := 1) rfl rfl) ?_
    first | refine LM.rd (om_ld Try.isAgg22 rfl rfl) ?_
    refine LM.val (ov_len Try.underlying22 rfl) ?_
    refine LM.val (ov_gtr rfl rfl) ?_
    refine LM.val (ov_assign rfl) ?_
    refine LM.nil ?_
    refine QM.sub (e' := [(2, _)]) ⟨rfl, trivial⟩ ?_
    refine QM.then ?_
    refine wpM.ret ?_
    refine QM.leave (.inl rfl) [.tmp 2] Try.results9 rfl ?_
    intro w' hm' hc' hg'
    -- leaf 3: h1-
    have hil : i = xs.length := (by omega); subst hil; rw [List.take_length] at ha; refine ⟨?_, hc'⟩; simp only [resV, mayB]; congr 1; rw [ha, decide_eq_true (show xs.length ≤ 12 by omega), Bool.and_true, Bool.and_true]; exact decide_eq_decide.2 (by omega)

end Go.Eng

