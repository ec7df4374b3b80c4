/- The walks of critical sections, and of ops that fit. No condition. -/
import Derived.Test.YtkopodpfmdnlcaaCritB
set_option linter.unusedVariables false
set_option linter.unusedSimpArgs false
namespace Go.Eng
open Go Go.Proofs Go.RowKit

theorem smallO.drop {xs : List COp} (h : smallO xs) (k : Nat) : smallO (xs.drop k) := ⟨by rw [List.length_drop]; have := h.1; omega, fun o ho => h.2 o (List.mem_of_mem_drop ho)⟩
theorem all_not {α : Type} {p : α → Bool} {xs : List α} {i : Nat} (d : α) (h : i < xs.length) (hp : p (xs.getD i d) = false) : xs.all p = false := by
  rw [List.all_eq_false]; exact ⟨_, List.mem_of_getElem? (getq d h), by rw [hp]; simp⟩
def smallB (xs : List COp) : Bool := decide (xs.length ≤ 20) && xs.all (fun o => decide (o.a ≤ 1125899906842624) && decide (-1125899906842624 ≤ o.a))
theorem getD_drop {xs : List COp} {i j : Nat} : (xs.drop i).getD j default = xs.getD (i + j) default := by rw [List.getD_eq_getElem?_getD, List.getElem?_drop, ← List.getD_eq_getElem?_getD]
abbrev sV (i to lock ticks : Int) : Value := .agg #[.int .i64 i, .int .i64 to, .int .i64 lock, .int .i64 ticks]
abbrev sB (b : Nat) (i to lock ticks : Int) : Nat × Obj := (b, .cells #[.int .i64 i, .int .i64 to, .int .i64 lock, .int .i64 ticks] 44 (0, 0))
abbrev oB (b : Nat) (o : COp) : Nat × Obj := (b, .cells (fO o).toArray 38 (0, 0))
theorem stop_no {lock : Int} {o : COp} (h1 : ¬ o.k = 11) (h2 : ¬ (o.k = 6 ∧ o.a = lock)) : stopB lock o = false := by
  unfold stopB; rw [decide_eq_false h1]
  by_cases h : o.k = 6
  · rw [decide_eq_false (fun q => h2 ⟨h, q⟩)]; simp
  · rw [decide_eq_false h]; rfl
theorem stop_11 {lock : Int} {o : COp} (h1 : o.k = 11) : stopB lock o = true := by unfold stopB; rw [decide_eq_true h1]; rfl
theorem stop_6 {lock : Int} {o : COp} (h1 : o.k = 6) (h2 : o.a = lock) : stopB lock o = true := by unfold stopB; rw [decide_eq_true h1, decide_eq_true h2]; simp
/-- what is known between the steps of a section -/
def SecI (lock : Int) (ys : List COp) (j : Nat) (acc : Int) : Prop :=
  j ≤ ys.length ∧ (secT lock ys).1 = j + (secT lock (ys.drop j)).1 ∧ (secT lock ys).2 = acc + (secT lock (ys.drop j)).2 ∧ -((j : Int) * 1125899906842624) ≤ acc ∧ acc ≤ (j : Int) * 1125899906842624
theorem SecI.zero (lock : Int) (ys : List COp) : SecI lock ys 0 0 := ⟨Nat.zero_le _, by simp, by simp, by simp, by simp⟩
theorem SecI.step {lock : Int} {ys : List COp} {j : Nat} {acc acc' : Int} (h : SecI lock ys j acc) (hs : smallO ys) (hj : j < ys.length) (hn : stopB lock (ys.getD j default) = false) (ha : acc' = acc + if (ys.getD j default).k = 1 then (ys.getD j default).a else 0) : SecI lock ys (j + 1) acc' := by
  obtain ⟨h1, h2, h3, h4, h5⟩ := h
  have e := sec_step hj hn
  have hb := hs.at j
  rw [e] at h2 h3
  dsimp only at h2 h3
  have : ((j + 1 : Nat) : Int) * 1125899906842624 = (j : Int) * 1125899906842624 + 1125899906842624 := by push_cast; omega
  refine ⟨by omega, by omega, by rw [ha]; omega, ?_, ?_⟩ <;> rw [this, ha] <;> split <;> omega
theorem SecI.stop {lock : Int} {ys : List COp} {j : Nat} {acc : Int} (h : SecI lock ys j acc) (hj : j < ys.length) (hn : stopB lock (ys.getD j default) = true) : secT lock ys = (j, acc) := by
  obtain ⟨h1, h2, h3, h4, h5⟩ := h
  rw [sec_stop hj hn] at h2 h3
  exact Prod.ext (by simpa using h2) (by simpa using h3)
theorem SecI.fin {lock : Int} {ys : List COp} {j : Nat} {acc : Int} (h : SecI lock ys j acc) (hj : ys.length ≤ j) : secT lock ys = (ys.length, acc) := by
  obtain ⟨h1, h2, h3, h4, h5⟩ := h
  rw [sec_end hj] at h2 h3
  exact Prod.ext (by dsimp only at h2 ⊢; omega) (by simpa using h3)
set_option maxRecDepth 100000 in
theorem small_spec {xs : List COp} {fv : Bool} {ad : Option Addr} {n cap : Nat} (w : World) (hn : n = xs.length) (hl : Sr fO 3 xs (.slice ad n cap) w) : Ret Try.prog 6 #[pV fv ad n cap] w (fun v w' => v = .bool (smallB xs) ∧ Ext w w') := by
  refine Ret.enterM (l := [pV fv ad n cap]) Try.func6 rfl Try.ntmps6 rfl ([]) (no) (Mem.nil w) ?_
  refine wpM.seq ?_
  refine wpM.region ?_
  refine LM.box rfl rfl (fun b1 hb1 => ?_)
  refine LM.val (ov_assign rfl) ?_
  refine LM.nil ?_
  refine QM.sub (e' := [(1, _)]) ⟨rfl, trivial⟩ ?_
  refine QM.then ?_
  refine wpM.seq ?_
  refine wpM.seq ?_
  refine wpM.region ?_
  refine LM.val (ov_field Try.underlying24 rfl Try.sizeOf22 rfl (k := 1) rfl rfl) ?_
  first | refine LM.rd (om_ld Try.isAgg22 rfl rfl) ?_
  refine LM.val (ov_len Try.underlying22 rfl) ?_
  refine LM.val (ov_gtr rfl rfl) ?_
  refine LM.nil ?_
  refine QM.sub (e' := [(1, _), (8, _)]) ⟨rfl, rfl, trivial⟩ ?_
  refine QM.then ?_
  first | refine wpM.condD rfl (fun h1 => ?_) (fun h1 => ?_) | refine wpM.condB rfl (fun h1 => ?_) (fun h1 => ?_)
  ·
    refine wpM.seq ?_
    refine wpM.region ?_
    refine LM.val (ov_assign rfl) ?_
    refine LM.nil ?_
    refine QM.sub (e' := [(2, _)]) ⟨rfl, trivial⟩ ?_
    refine QM.then ?_
    refine wpM.ret ?_
    refine QM.then_ret ?_
    refine QM.leave (.inl rfl) [.tmp 2] Try.results6 rfl ?_
    intro w' hm' hc' hg'
    -- leaf 1: h1+
    refine ⟨?_, hc'⟩; simp only [resV, smallB]; rw [decide_eq_false (show ¬ xs.length ≤ 20 by omega)]; rfl
  ·
    refine wpM.skip ?_
    refine QM.then ?_
    refine wpM.seq ?_
    refine wpM.seq ?_
    refine wpM.region ?_
    refine LM.val (ov_field Try.underlying24 rfl Try.sizeOf22 rfl (k := 1) rfl rfl) ?_
    first | refine LM.rd (om_ld Try.isAgg22 rfl rfl) ?_
    refine LM.val (ov_len Try.underlying22 rfl) ?_
    refine LM.val (ov_move rfl) ?_
    refine LM.nil ?_
    refine QM.sub (e' := [(10, _), (11, _), (12, _)]) ⟨rfl, rfl, rfl, trivial⟩ ?_
    refine QM.then ?_
    refine wpM.block ?_
    refine wpM.loopK0 (α := Nat) (fun i => [(12, .int .i64 (i : Nat))]) [(10, _), (11, _)] (fun i => []) (fun i => i ≤ xs.length ∧ (xs.take i).all (fun o => decide (o.a ≤ 1125899906842624) && decide (-1125899906842624 ≤ o.a)) = true) (fun i => xs.length - i) (0) ⟨(by first | rfl | exact lk rfl (by congr 1; omega) | exact lk rfl (by simp)), rfl, rfl, trivial⟩ (by (repeat' (first | exact SubM.nil _ | refine SubM.cons rfl ?_ | refine SubM.app ?_))) ⟨Nat.zero_le _, rfl⟩ ?_
    rintro i ⟨hi, ha⟩
    change wpM _ _ _ _ _ _ _ ([]) _ _ _
    refine wpM.seq ?_
    refine wpM.region ?_
    refine LM.val (ov_lss rfl rfl) ?_
    refine LM.nil ?_
    refine QM.sub (e' := [(10, _), (11, _), (12, _), (13, _)]) ⟨rfl, rfl, rfl, rfl, trivial⟩ ?_
    refine QM.then ?_
    refine wpM.seq ?_
    first | refine wpM.condD rfl (fun h2 => ?_) (fun h2 => ?_) | refine wpM.condB rfl (fun h2 => ?_) (fun h2 => ?_)
    ·
      refine wpM.skip ?_
      refine QM.then ?_
      refine wpM.seq ?_
      refine wpM.block ?_
      refine wpM.seq ?_
      refine wpM.region ?_
      first | refine LM.val (ov_idxSN (by first | exact Sr.spt (by assumption) | exact Sl.spt (by assumption)) Try.underlying22 Try.sizeOf38 rfl rfl (by omega)) ?_ | refine LM.val (ov_idxS (by first | exact Sr.spt (by assumption) | exact Sl.spt (by assumption)) Try.underlying22 Try.sizeOf38 rfl rfl (by omega)) ?_ | refine LM.val (ov_idx Try.underlying22 Try.sizeOf38 rfl rfl (by omega)) ?_
      first | refine LM.rd (om_slA (by assumption) (by intro _; rfl) Try.isAgg38 Try.sizeOf38 rfl (by exact getq default (by first | omega | (simp only [List.length_set, List.length_append, List.length_cons, List.length_nil]; omega)))) ?_ | refine LM.rdC (om_srEA (by assumption) (by intro _; rfl) Try.isAgg38 Try.sizeOf38 rfl (by exact getq default (by first | omega | (simp only [List.length_set, List.length_append, List.length_cons, List.length_nil]; omega))) id) ?_ | refine LM.rd (om_ldW Try.isAgg38 Try.sizeOf38 rfl rfl) ?_ | refine LM.rd (om_ldA Try.isAgg38 Try.sizeOf38 rfl (vs := [_, _, _]) rfl ⟨rfl, rfl, rfl, trivial⟩) ?_
      refine LM.alloc Try.zeroValue38 rfl (fun b4 hb4 => ?_)
      first | refine LM.stW Try.sizeOf38 rfl rfl rfl rfl (by first | rfl | decide | (simp; done)) (fun hlt => absurd hlt (by omega)) ?_ | refine LM.st Try.sizeOf38 rfl rfl rfl (by first | decide | exact Nat.le_of_ble_eq_true rfl | (simp; done) | (simp; omega)) rfl (fun hlt => absurd hlt (by omega)) ?_
      refine LM.nil ?_
      refine QM.sub (e' := [(4, _), (10, _), (11, _), (12, _)]) ⟨rfl, rfl, rfl, rfl, trivial⟩ ?_
      refine QM.then ?_
      refine wpM.seq ?_
      refine wpM.region ?_
      refine LM.val (ov_field Try.underlying38 rfl Try.sizeOf3 rfl (k := 1) rfl rfl) ?_
      first | refine LM.rd (om_ld Try.isAgg3 rfl rfl) ?_
      refine LM.val (ov_gtr rfl rfl) ?_
      refine LM.val (ov_move rfl) ?_
      first | refine LM.splitD (t := 19) rfl (fun h3 => ?_) (fun h3 => ?_) | refine LM.splitB (t := 19) rfl (fun h3 => ?_) (fun h3 => ?_)
      ·
        refine LM.drop (t := 19) rfl rfl rfl ?_
        refine LM.drop (t := 19) rfl rfl rfl ?_
        refine LM.drop (t := 19) rfl rfl rfl ?_
        refine LM.val (ov_pickT rfl rfl) ?_
        refine LM.nil ?_
        refine QM.sub (e' := [(10, _), (11, _), (12, _), (23, _)]) ⟨rfl, rfl, rfl, rfl, trivial⟩ ?_
        refine QM.then ?_
        refine wpM.condT rfl ?_
        refine wpM.seq ?_
        refine wpM.region ?_
        refine LM.val (ov_assign rfl) ?_
        refine LM.nil ?_
        refine QM.sub (e' := [(2, _)]) ⟨rfl, trivial⟩ ?_
        refine QM.then ?_
        refine wpM.ret ?_
        refine QM.block_ret ?_
        refine QM.then_ret ?_
        refine QM.then_ret ?_
        refine QM.block_ret ?_
        refine QM.then_ret ?_
        refine QM.leave (.inl rfl) [.tmp 2] Try.results6 rfl ?_
        intro w' hm' hc' hg'
        -- leaf 2: h1- h2+ h3+
        refine ⟨?_, hc'⟩; simp only [resV, smallB]; rw [all_not default (show i < xs.length by omega) (by rw [decide_eq_false (show ¬ (xs.getD i default).a ≤ 1125899906842624 by omega)]; rfl)]; simp
      ·
        refine LM.strip (t := 19) rfl rfl rfl ?_
        refine LM.val (ov_field Try.underlying38 rfl Try.sizeOf3 rfl (k := 1) rfl rfl) ?_
        refine LM.strip (t := 19) rfl rfl rfl ?_
        first | refine LM.rd (om_ld Try.isAgg3 rfl rfl) ?_
        refine LM.strip (t := 19) rfl rfl rfl ?_
        refine LM.val (ov_lss rfl rfl) ?_
        refine LM.val (ov_pickF rfl rfl) ?_
        refine LM.nil ?_
        refine QM.sub (e' := [(10, _), (11, _), (12, _), (23, _)]) ⟨rfl, rfl, rfl, rfl, trivial⟩ ?_
        refine QM.then ?_
        first | refine wpM.condD rfl (fun h4 => ?_) (fun h4 => ?_) | refine wpM.condB rfl (fun h4 => ?_) (fun h4 => ?_)
        ·
          refine wpM.seq ?_
          refine wpM.region ?_
          refine LM.val (ov_assign rfl) ?_
          refine LM.nil ?_
          refine QM.sub (e' := [(2, _)]) ⟨rfl, trivial⟩ ?_
          refine QM.then ?_
          refine wpM.ret ?_
          refine QM.block_ret ?_
          refine QM.then_ret ?_
          refine QM.then_ret ?_
          refine QM.block_ret ?_
          refine QM.then_ret ?_
          refine QM.leave (.inl rfl) [.tmp 2] Try.results6 rfl ?_
          intro w' hm' hc' hg'
          -- leaf 3: h1- h2+ h3- h4+
          refine ⟨?_, hc'⟩; simp only [resV, smallB]; rw [all_not default (show i < xs.length by omega) (by rw [decide_eq_false (show ¬ -1125899906842624 ≤ (xs.getD i default).a by omega)]; simp)]; simp
        ·
          refine wpM.skip ?_
          refine QM.block_normal ?_
          refine QM.then ?_
          refine wpM.region ?_
          refine LM.val (ov_add64 rfl rfl (by omega)) ?_
          refine LM.val (ov_move rfl) ?_
          refine LM.nil ?_
          refine QM.sub (e' := [(10, _), (11, _), (12, _)]) ⟨rfl, rfl, rfl, trivial⟩ ?_
          -- again1: h1- h2+ h3- h4-
          refine QM.againK (i + 1) ⟨(by first | rfl | exact lk rfl (by congr 1; omega) | exact lk rfl (by simp)), rfl, rfl, trivial⟩ (by (repeat' (first | exact SubM.nil _ | refine SubM.cons rfl ?_ | refine SubM.app ?_))) (fun _ h => h) ?_ ?_
          · exact ⟨by omega, by rw [all_snoc default (by omega), ha, Bool.true_and, decide_eq_true (show (xs.getD i default).a ≤ 1125899906842624 by omega), decide_eq_true (show -1125899906842624 ≤ (xs.getD i default).a by omega)]; rfl⟩
          · first | omega | (dsimp only; omega)
    ·
      refine wpM.exit ?_
      refine QM.then_exit ?_
      refine QM.then_exit ?_
      refine QM.block_hit ?_
      refine QM.then ?_
      refine wpM.seq ?_
      refine wpM.region ?_
      refine LM.val (ov_assign rfl) ?_
      refine LM.nil ?_
      refine QM.sub (e' := [(2, _)]) ⟨rfl, trivial⟩ ?_
      refine QM.then ?_
      refine wpM.ret ?_
      refine QM.leave (.inl rfl) [.tmp 2] Try.results6 rfl ?_
      intro w' hm' hc' hg'
      -- leaf 4: h1- h2-
      have hil : i = xs.length := (by omega); subst hil; rw [List.take_length] at ha; refine ⟨?_, hc'⟩; simp only [resV, smallB]; rw [ha, decide_eq_true (show xs.length ≤ 20 by omega)]; rfl

set_option maxRecDepth 100000 in
theorem section_spec {xs : List COp} {fv : Bool} {ad : Option Addr} {n cap : Nat} (i : Nat) (w : World) (hn : n = xs.length) (hl : Sr fO 3 xs (.slice ad n cap) w) (hs : smallO xs) (hi : i < xs.length) : Ret Try.prog 22 #[pV fv ad n cap, .int .i64 (i : Nat)] w (fun v w' => v = secV xs i ∧ Ext w w') := by
  have hx20 := hs.1; have hld := hl.drop (l := i + 1) (by omega); have hsy := hs.drop (i + 1); obtain ⟨ys, hys⟩ : ∃ ys, xs.drop (i + 1) = ys := ⟨_, rfl⟩; have hyl : ys.length = xs.length - (i + 1) := (by rw [← hys, List.length_drop]); have hsec : secO xs i = secT (xs.getD i default).a ys := (by unfold secO; rw [hys]); rw [hys] at hld hsy; simp only [secV, hsec]
  refine Ret.enterM (l := [pV fv ad n cap, .int .i64 (i : Nat)]) Try.func22 rfl Try.ntmps22 rfl ([]) (no) (Mem.nil w) ?_
  refine wpM.seq ?_
  refine wpM.region ?_
  refine LM.box rfl rfl (fun b2 hb2 => ?_)
  refine LM.alloc Try.zeroValue44 rfl (fun b4 hb4 => ?_)
  refine LM.nil ?_
  refine QM.sub (e' := [(1, _), (2, _), (4, _)]) ⟨rfl, rfl, rfl, trivial⟩ ?_
  refine QM.then ?_
  refine wpM.seq ?_
  refine wpM.draw [(0, 0), (1, 0), (2, 1), (3, 0), (4, 0), (5, 1), (6, 0), (7, 0), (8, 0), (9, 1), (10, 0), (11, 2), (12, 3)] (by kernel_rfl) (by kernel_rfl) ?_
  refine LD.val rfl rfl (ov_move rfl) ?_
  refine LD.val rfl rfl (ov_field Try.underlying24 rfl Try.sizeOf22 rfl (k := 1) rfl rfl) ?_
  first | refine LD.rd rfl rfl (om_ld Try.isAgg22 rfl rfl) ?_
  refine LD.val rfl rfl (ov_len Try.underlying22 rfl) ?_
  refine LD.val rfl rfl (ov_field Try.underlying24 rfl Try.sizeOf22 rfl (k := 1) rfl rfl) ?_
  first | refine LD.rd rfl rfl (om_ld Try.isAgg22 rfl rfl) ?_
  refine LD.val rfl rfl (ov_move rfl) ?_
  first | refine LD.val rfl rfl (ov_idxSN (by first | exact Sr.spt (by assumption) | exact Sl.spt (by assumption)) Try.underlying22 Try.sizeOf38 rfl rfl (by omega)) ?_ | refine LD.val rfl rfl (ov_idxS (by first | exact Sr.spt (by assumption) | exact Sl.spt (by assumption)) Try.underlying22 Try.sizeOf38 rfl rfl (by omega)) ?_ | refine LD.val rfl rfl (ov_idx Try.underlying22 Try.sizeOf38 rfl rfl (by omega)) ?_
  refine LD.val rfl rfl (ov_field Try.underlying38 rfl Try.sizeOf3 rfl (k := 1) rfl rfl) ?_
  first | refine LD.rd rfl rfl (om_slE (j := 1) (by assumption) (by intro _; rfl) Try.isAgg3 rfl rfl (by exact getq default (by first | omega | (simp only [List.length_set, List.length_append, List.length_cons, List.length_nil]; omega))) rfl (by rfl)) ?_ | refine LD.rdC rfl rfl (om_srE (j := 1) (by assumption) Try.isAgg3 rfl rfl (by exact getq default (by first | omega | (simp only [List.length_set, List.length_append, List.length_cons, List.length_nil]; omega))) (by rfl) (by rfl) id) ?_ | refine LD.rd rfl rfl (om_ld Try.isAgg3 rfl rfl) ?_
  refine LD.val rfl rfl (ov_build (cs := #[_, _, _, _]) rfl (by first | rfl | kernel_rfl)) ?_
  refine LD.alloc rfl rfl Try.zeroValue44 rfl (fun b5 hb5 => ?_)
  refine LD.tail rfl rfl ?_
  first | refine LM.stW Try.sizeOf44 rfl rfl rfl rfl (by first | rfl | decide | (simp; done)) (fun hlt => absurd hlt (by omega)) ?_ | refine LM.st Try.sizeOf44 rfl rfl rfl (by first | decide | exact Nat.le_of_ble_eq_true rfl | (simp; done) | (simp; omega)) rfl (fun hlt => absurd hlt (by omega)) ?_
  refine LM.nil ?_
  refine QM.qn ?_
  refine QM.sub (e' := [(1, _), (2, _), (4, _), (5, _)]) ⟨rfl, rfl, rfl, rfl, trivial⟩ ?_
  refine QM.then ?_
  refine wpM.seq ?_
  refine wpM.seq ?_
  refine wpM.region ?_
  refine LM.val (ov_field Try.underlying24 rfl Try.sizeOf22 rfl (k := 1) rfl rfl) ?_
  first | refine LM.rd (om_ld Try.isAgg22 rfl rfl) ?_
  refine LM.val (ov_move rfl) ?_
  refine LM.val (ov_add64 rfl rfl (by omega)) ?_
  refine LM.val (ov_subLo (i + 1) Try.underlying22 Try.sizeOf38 rfl rfl (by omega) (by omega)) ?_
  refine LM.val (ov_len Try.underlying22 rfl) ?_
  refine LM.val (ov_move rfl) ?_
  refine LM.nil ?_
  refine QM.sub (e' := [(1, _), (4, _), (5, _), (23, _), (24, _), (25, _)]) ⟨rfl, rfl, rfl, rfl, rfl, rfl, trivial⟩ ?_
  refine QM.then ?_
  refine wpM.block ?_
  refine wpM.loopK0 (α := Nat × Int) (fun ⟨j, acc⟩ => [(25, .int .i64 (j : Nat))]) [(1, _), (4, _), (5, _), (23, _), (24, _)] (fun ⟨j, acc⟩ => sB b5 (i : Nat) n (xs.getD i default).a acc :: sB b4 0 0 0 0 :: pB b2 fv ad n cap :: []) (fun ⟨j, acc⟩ => SecI (xs.getD i default).a ys j acc) (fun ⟨j, acc⟩ => ys.length - j) ((0, 0)) ⟨(by first | rfl | exact lk rfl (by congr 1; omega) | exact lk rfl (by simp)), rfl, rfl, rfl, rfl, rfl, trivial⟩ (by (repeat' (first | exact SubM.nil _ | refine SubM.cons rfl ?_ | refine SubM.app ?_))) (SecI.zero _ ys) ?_
  rintro ⟨j, acc⟩ hI
  change wpM _ _ _ _ _ _ _ (sB b5 (i : Nat) n (xs.getD i default).a acc :: sB b4 0 0 0 0 :: pB b2 fv ad n cap :: []) _ _ _
  have hj := hI.1; have hb := hsy.at j; obtain ⟨-, -, -, hb1, hb2⟩ := id hI
  refine wpM.seq ?_
  refine wpM.region ?_
  refine LM.val (ov_lss rfl rfl) ?_
  refine LM.nil ?_
  refine QM.sub (e' := [(1, _), (4, _), (5, _), (23, _), (24, _), (25, _), (26, _)]) ⟨rfl, rfl, rfl, rfl, rfl, rfl, rfl, trivial⟩ ?_
  refine QM.then ?_
  refine wpM.seq ?_
  first | refine wpM.condD rfl (fun h1 => ?_) (fun h1 => ?_) | refine wpM.condB rfl (fun h1 => ?_) (fun h1 => ?_)
  ·
    refine wpM.skip ?_
    refine QM.then ?_
    refine wpM.seq ?_
    refine wpM.block ?_
    refine wpM.seq ?_
    refine wpM.region ?_
    refine LM.val (ov_move rfl) ?_
    first | refine LM.val (ov_idxSN (by first | exact Sr.spt (by assumption) | exact Sl.spt (by assumption)) Try.underlying22 Try.sizeOf38 rfl rfl (by omega)) ?_ | refine LM.val (ov_idxS (by first | exact Sr.spt (by assumption) | exact Sl.spt (by assumption)) Try.underlying22 Try.sizeOf38 rfl rfl (by omega)) ?_ | refine LM.val (ov_idx Try.underlying22 Try.sizeOf38 rfl rfl (by omega)) ?_
    first | refine LM.rd (om_slA (by assumption) (by intro _; rfl) Try.isAgg38 Try.sizeOf38 rfl (by exact getq default (by first | omega | (simp only [List.length_set, List.length_append, List.length_cons, List.length_nil]; omega)))) ?_ | refine LM.rdC (om_srEA (by assumption) (by intro _; rfl) Try.isAgg38 Try.sizeOf38 rfl (by exact getq default (by first | omega | (simp only [List.length_set, List.length_append, List.length_cons, List.length_nil]; omega))) id) ?_ | refine LM.rd (om_ldW Try.isAgg38 Try.sizeOf38 rfl rfl) ?_ | refine LM.rd (om_ldA Try.isAgg38 Try.sizeOf38 rfl (vs := [_, _, _]) rfl ⟨rfl, rfl, rfl, trivial⟩) ?_
    refine LM.alloc Try.zeroValue38 rfl (fun b7 hb7 => ?_)
    refine LM.val (ov_assign rfl) ?_
    first | refine LM.stW Try.sizeOf38 rfl rfl rfl rfl (by first | rfl | decide | (simp; done)) (fun hlt => absurd hlt (by omega)) ?_ | refine LM.st Try.sizeOf38 rfl rfl rfl (by first | decide | exact Nat.le_of_ble_eq_true rfl | (simp; done) | (simp; omega)) rfl (fun hlt => absurd hlt (by omega)) ?_
    refine LM.nil ?_
    refine QM.sub (e' := [(1, _), (4, _), (5, _), (6, _), (7, _), (23, _), (24, _), (25, _)]) ⟨rfl, rfl, rfl, rfl, rfl, rfl, rfl, rfl, trivial⟩ ?_
    refine QM.then ?_
    refine wpM.block ?_
    refine wpM.seq ?_
    refine wpM.seq ?_
    refine wpM.region ?_
    refine LM.val (ov_field Try.underlying38 rfl Try.sizeOf3 rfl (k := 0) rfl rfl) ?_
    first | refine LM.rd (om_ld Try.isAgg3 rfl rfl) ?_
    refine LM.val (ov_eql rfl rfl) ?_
    refine LM.val (ov_assign rfl) ?_
    refine LM.nil ?_
    refine QM.sub (e' := [(1, _), (4, _), (5, _), (6, _), (7, _), (23, _), (24, _), (25, _), (30, _)]) ⟨rfl, rfl, rfl, rfl, rfl, rfl, rfl, rfl, rfl, trivial⟩ ?_
    refine QM.then ?_
    first | refine wpM.condXD (t := 30) rfl (fun h2 => ?_) (fun h2 => ?_) | refine wpM.condXB (t := 30) rfl (fun h2 => ?_) (fun h2 => ?_)
    ·
      refine wpM.skip ?_
      refine QM.then ?_
      refine wpM.condT rfl ?_
      refine wpM.seq ?_
      refine wpM.region ?_
      refine LM.val (ov_move rfl) ?_
      refine LM.val (ov_add64 rfl rfl (by omega)) ?_
      refine LM.val (ov_move rfl) ?_
      refine LM.val (ov_add64 rfl rfl (by omega)) ?_
      refine LM.val (ov_field Try.underlying44 rfl Try.sizeOf3 rfl (k := 1) rfl rfl) ?_
      refine LM.st Try.sizeOf3 rfl rfl rfl (by first | decide | exact Nat.le_of_ble_eq_true rfl | (simp; done) | (simp; omega)) rfl (fun hlt => absurd hlt (by omega)) ?_
      refine LM.nil ?_
      refine QM.sub (e' := [(4, _), (5, _)]) ⟨rfl, rfl, trivial⟩ ?_
      refine QM.then ?_
      refine wpM.seq ?_
      refine wpM.region ?_
      first | refine LM.rd (om_ldW Try.isAgg44 Try.sizeOf44 rfl rfl) ?_ | refine LM.rd (om_ldA Try.isAgg44 Try.sizeOf44 rfl (vs := [_, _, _, _]) rfl ⟨rfl, rfl, rfl, rfl, trivial⟩) ?_
      first | refine LM.stW Try.sizeOf44 rfl rfl rfl rfl (by first | rfl | decide | (simp; done)) (fun hlt => absurd hlt (by omega)) ?_ | refine LM.st Try.sizeOf44 rfl rfl rfl (by first | decide | exact Nat.le_of_ble_eq_true rfl | (simp; done) | (simp; omega)) rfl (fun hlt => absurd hlt (by omega)) ?_
      refine LM.nil ?_
      refine QM.sub (e' := [(4, _)]) ⟨rfl, trivial⟩ ?_
      refine QM.then ?_
      refine wpM.ret ?_
      refine QM.block_ret ?_
      refine QM.block_ret ?_
      refine QM.then_ret ?_
      refine QM.then_ret ?_
      refine QM.block_ret ?_
      refine QM.then_ret ?_
      refine QM.leaveCs (ds := ([])) (.inl rfl) [.cell 4 44] Try.results22 hd_nil (rc_w rfl Try.isAgg44 Try.sizeOf44 rfl rc_nil) ?_
      intro w' hm' hc'
      -- leaf 1: h1+ h2+
      have hq := hI.stop (by omega) (stop_11 h2); refine ⟨?_, hc'⟩; rw [hq]; show sV _ _ _ _ = _; congr 5
    ·
      refine wpM.region ?_
      refine LM.val (ov_field Try.underlying38 rfl Try.sizeOf3 rfl (k := 0) rfl rfl) ?_
      first | refine LM.rd (om_ld Try.isAgg3 rfl rfl) ?_
      refine LM.val (ov_eql rfl rfl) ?_
      refine LM.val (ov_move rfl) ?_
      first | refine LM.splitD (t := 37) rfl (fun h3 => ?_) (fun h3 => ?_) | refine LM.splitB (t := 37) rfl (fun h3 => ?_) (fun h3 => ?_)
      ·
        refine LM.strip (t := 37) rfl rfl rfl ?_
        refine LM.val (ov_field Try.underlying38 rfl Try.sizeOf3 rfl (k := 1) rfl rfl) ?_
        refine LM.strip (t := 37) rfl rfl rfl ?_
        first | refine LM.rd (om_ld Try.isAgg3 rfl rfl) ?_
        refine LM.strip (t := 37) rfl rfl rfl ?_
        refine LM.val (ov_field Try.underlying44 rfl Try.sizeOf3 rfl (k := 2) rfl rfl) ?_
        refine LM.strip (t := 37) rfl rfl rfl ?_
        first | refine LM.rd (om_ld Try.isAgg3 rfl rfl) ?_
        refine LM.strip (t := 37) rfl rfl rfl ?_
        refine LM.val (ov_eql rfl rfl) ?_
        refine LM.val (ov_pickT rfl rfl) ?_
        refine LM.val (ov_assign rfl) ?_
        refine LM.nil ?_
        refine QM.sub (e' := [(1, _), (4, _), (5, _), (6, _), (7, _), (23, _), (24, _), (25, _), (30, _)]) ⟨rfl, rfl, rfl, rfl, rfl, rfl, rfl, rfl, rfl, trivial⟩ ?_
        refine QM.then ?_
        first | refine wpM.condD rfl (fun h4 => ?_) (fun h4 => ?_) | refine wpM.condB rfl (fun h4 => ?_) (fun h4 => ?_)
        ·
          refine wpM.seq ?_
          refine wpM.region ?_
          refine LM.val (ov_move rfl) ?_
          refine LM.val (ov_add64 rfl rfl (by omega)) ?_
          refine LM.val (ov_move rfl) ?_
          refine LM.val (ov_add64 rfl rfl (by omega)) ?_
          refine LM.val (ov_field Try.underlying44 rfl Try.sizeOf3 rfl (k := 1) rfl rfl) ?_
          refine LM.st Try.sizeOf3 rfl rfl rfl (by first | decide | exact Nat.le_of_ble_eq_true rfl | (simp; done) | (simp; omega)) rfl (fun hlt => absurd hlt (by omega)) ?_
          refine LM.nil ?_
          refine QM.sub (e' := [(4, _), (5, _)]) ⟨rfl, rfl, trivial⟩ ?_
          refine QM.then ?_
          refine wpM.seq ?_
          refine wpM.region ?_
          first | refine LM.rd (om_ldW Try.isAgg44 Try.sizeOf44 rfl rfl) ?_ | refine LM.rd (om_ldA Try.isAgg44 Try.sizeOf44 rfl (vs := [_, _, _, _]) rfl ⟨rfl, rfl, rfl, rfl, trivial⟩) ?_
          first | refine LM.stW Try.sizeOf44 rfl rfl rfl rfl (by first | rfl | decide | (simp; done)) (fun hlt => absurd hlt (by omega)) ?_ | refine LM.st Try.sizeOf44 rfl rfl rfl (by first | decide | exact Nat.le_of_ble_eq_true rfl | (simp; done) | (simp; omega)) rfl (fun hlt => absurd hlt (by omega)) ?_
          refine LM.nil ?_
          refine QM.sub (e' := [(4, _)]) ⟨rfl, trivial⟩ ?_
          refine QM.then ?_
          refine wpM.ret ?_
          refine QM.block_ret ?_
          refine QM.block_ret ?_
          refine QM.then_ret ?_
          refine QM.then_ret ?_
          refine QM.block_ret ?_
          refine QM.then_ret ?_
          refine QM.leaveCs (ds := ([])) (.inl rfl) [.cell 4 44] Try.results22 hd_nil (rc_w rfl Try.isAgg44 Try.sizeOf44 rfl rc_nil) ?_
          intro w' hm' hc'
          -- leaf 2: h1+ h2- h3+ h4+
          have hq := hI.stop (by omega) (stop_6 h3 h4); refine ⟨?_, hc'⟩; rw [hq]; show sV _ _ _ _ = _; congr 5
        ·
          refine wpM.seq ?_
          refine wpM.region ?_
          refine LM.val (ov_field Try.underlying38 rfl Try.sizeOf3 rfl (k := 0) rfl rfl) ?_
          first | refine LM.rd (om_ld Try.isAgg3 rfl rfl) ?_
          refine LM.val (ov_eql rfl rfl) ?_
          refine LM.val (ov_assign rfl) ?_
          refine LM.nil ?_
          refine QM.sub (e' := [(1, _), (4, _), (5, _), (7, _), (23, _), (24, _), (25, _), (50, _)]) ⟨rfl, rfl, rfl, rfl, rfl, rfl, rfl, rfl, trivial⟩ ?_
          refine QM.then ?_
          first | refine wpM.condD rfl (fun h5 => ?_) (fun h5 => ?_) | refine wpM.condB rfl (fun h5 => ?_) (fun h5 => ?_)
          ·
            refine wpM.region ?_
            refine LM.val (ov_field Try.underlying44 rfl Try.sizeOf3 rfl (k := 3) rfl rfl) ?_
            first | refine LM.rd (om_ld Try.isAgg3 rfl rfl) ?_
            refine LM.val (ov_field Try.underlying38 rfl Try.sizeOf3 rfl (k := 1) rfl rfl) ?_
            first | refine LM.rd (om_ld Try.isAgg3 rfl rfl) ?_
            refine LM.val (ov_add64 rfl rfl (by omega)) ?_
            refine LM.val (ov_field Try.underlying44 rfl Try.sizeOf3 rfl (k := 3) rfl rfl) ?_
            refine LM.st Try.sizeOf3 rfl rfl rfl (by first | decide | exact Nat.le_of_ble_eq_true rfl | (simp; done) | (simp; omega)) rfl (fun hlt => absurd hlt (by omega)) ?_
            refine LM.nil ?_
            refine QM.sub (e' := [(1, _), (4, _), (5, _), (23, _), (24, _), (25, _)]) ⟨rfl, rfl, rfl, rfl, rfl, rfl, trivial⟩ ?_
            refine QM.block_normal ?_
            refine QM.block_normal ?_
            refine QM.then ?_
            refine wpM.region ?_
            refine LM.val (ov_add64 rfl rfl (by omega)) ?_
            refine LM.val (ov_move rfl) ?_
            refine LM.nil ?_
            refine QM.sub (e' := [(1, _), (4, _), (5, _), (23, _), (24, _), (25, _)]) ⟨rfl, rfl, rfl, rfl, rfl, rfl, trivial⟩ ?_
            -- again1: h1+ h2- h3+ h4- h5+
            refine QM.againK ((j + 1, acc + (ys.getD j default).a)) ⟨(by first | rfl | exact lk rfl (by congr 1; omega) | exact lk rfl (by simp)), rfl, rfl, rfl, rfl, rfl, trivial⟩ (by (repeat' (first | exact SubM.nil _ | refine SubM.cons rfl ?_ | refine SubM.app ?_))) (fun _ h => h) ?_ ?_
            · exact hI.step hsy (by omega) (stop_no h2 (fun q => by first | exact h4 q.2 | exact h3 q.1)) (by rw [if_pos h5])
            · first | omega | (dsimp only; omega)
          ·
            refine wpM.skip ?_
            refine QM.block_normal ?_
            refine QM.block_normal ?_
            refine QM.then ?_
            refine wpM.region ?_
            refine LM.val (ov_add64 rfl rfl (by omega)) ?_
            refine LM.val (ov_move rfl) ?_
            refine LM.nil ?_
            refine QM.sub (e' := [(1, _), (4, _), (5, _), (23, _), (24, _), (25, _)]) ⟨rfl, rfl, rfl, rfl, rfl, rfl, trivial⟩ ?_
            -- again2: h1+ h2- h3+ h4- h5-
            refine QM.againK ((j + 1, acc)) ⟨(by first | rfl | exact lk rfl (by congr 1; omega) | exact lk rfl (by simp)), rfl, rfl, rfl, rfl, rfl, trivial⟩ (by (repeat' (first | exact SubM.nil _ | refine SubM.cons rfl ?_ | refine SubM.app ?_))) (fun _ h => h) ?_ ?_
            · exact hI.step hsy (by omega) (stop_no h2 (fun q => by first | exact h4 q.2 | exact h3 q.1)) (by rw [if_neg h5]; omega)
            · first | omega | (dsimp only; omega)
      ·
        refine LM.drop (t := 37) rfl rfl rfl ?_
        refine LM.drop (t := 37) rfl rfl rfl ?_
        refine LM.drop (t := 37) rfl rfl rfl ?_
        refine LM.drop (t := 37) rfl rfl rfl ?_
        refine LM.drop (t := 37) rfl rfl rfl ?_
        refine LM.val (ov_pickF rfl rfl) ?_
        refine LM.val (ov_assign rfl) ?_
        refine LM.nil ?_
        refine QM.sub (e' := [(1, _), (4, _), (5, _), (6, _), (7, _), (23, _), (24, _), (25, _), (30, _)]) ⟨rfl, rfl, rfl, rfl, rfl, rfl, rfl, rfl, rfl, trivial⟩ ?_
        refine QM.then ?_
        refine wpM.condF rfl ?_
        refine wpM.seq ?_
        refine wpM.region ?_
        refine LM.val (ov_field Try.underlying38 rfl Try.sizeOf3 rfl (k := 0) rfl rfl) ?_
        first | refine LM.rd (om_ld Try.isAgg3 rfl rfl) ?_
        refine LM.val (ov_eql rfl rfl) ?_
        refine LM.val (ov_assign rfl) ?_
        refine LM.nil ?_
        refine QM.sub (e' := [(1, _), (4, _), (5, _), (7, _), (23, _), (24, _), (25, _), (50, _)]) ⟨rfl, rfl, rfl, rfl, rfl, rfl, rfl, rfl, trivial⟩ ?_
        refine QM.then ?_
        first | refine wpM.condD rfl (fun h6 => ?_) (fun h6 => ?_) | refine wpM.condB rfl (fun h6 => ?_) (fun h6 => ?_)
        ·
          refine wpM.region ?_
          refine LM.val (ov_field Try.underlying44 rfl Try.sizeOf3 rfl (k := 3) rfl rfl) ?_
          first | refine LM.rd (om_ld Try.isAgg3 rfl rfl) ?_
          refine LM.val (ov_field Try.underlying38 rfl Try.sizeOf3 rfl (k := 1) rfl rfl) ?_
          first | refine LM.rd (om_ld Try.isAgg3 rfl rfl) ?_
          refine LM.val (ov_add64 rfl rfl (by omega)) ?_
          refine LM.val (ov_field Try.underlying44 rfl Try.sizeOf3 rfl (k := 3) rfl rfl) ?_
          refine LM.st Try.sizeOf3 rfl rfl rfl (by first | decide | exact Nat.le_of_ble_eq_true rfl | (simp; done) | (simp; omega)) rfl (fun hlt => absurd hlt (by omega)) ?_
          refine LM.nil ?_
          refine QM.sub (e' := [(1, _), (4, _), (5, _), (23, _), (24, _), (25, _)]) ⟨rfl, rfl, rfl, rfl, rfl, rfl, trivial⟩ ?_
          refine QM.block_normal ?_
          refine QM.block_normal ?_
          refine QM.then ?_
          refine wpM.region ?_
          refine LM.val (ov_add64 rfl rfl (by omega)) ?_
          refine LM.val (ov_move rfl) ?_
          refine LM.nil ?_
          refine QM.sub (e' := [(1, _), (4, _), (5, _), (23, _), (24, _), (25, _)]) ⟨rfl, rfl, rfl, rfl, rfl, rfl, trivial⟩ ?_
          -- again3: h1+ h2- h3- h6+
          refine QM.againK ((j + 1, acc + (ys.getD j default).a)) ⟨(by first | rfl | exact lk rfl (by congr 1; omega) | exact lk rfl (by simp)), rfl, rfl, rfl, rfl, rfl, trivial⟩ (by (repeat' (first | exact SubM.nil _ | refine SubM.cons rfl ?_ | refine SubM.app ?_))) (fun _ h => h) ?_ ?_
          · exact hI.step hsy (by omega) (stop_no h2 (fun q => by first | exact h4 q.2 | exact h3 q.1)) (by rw [if_pos h6])
          · first | omega | (dsimp only; omega)
        ·
          refine wpM.skip ?_
          refine QM.block_normal ?_
          refine QM.block_normal ?_
          refine QM.then ?_
          refine wpM.region ?_
          refine LM.val (ov_add64 rfl rfl (by omega)) ?_
          refine LM.val (ov_move rfl) ?_
          refine LM.nil ?_
          refine QM.sub (e' := [(1, _), (4, _), (5, _), (23, _), (24, _), (25, _)]) ⟨rfl, rfl, rfl, rfl, rfl, rfl, trivial⟩ ?_
          -- again4: h1+ h2- h3- h6-
          refine QM.againK ((j + 1, acc)) ⟨(by first | rfl | exact lk rfl (by congr 1; omega) | exact lk rfl (by simp)), rfl, rfl, rfl, rfl, rfl, trivial⟩ (by (repeat' (first | exact SubM.nil _ | refine SubM.cons rfl ?_ | refine SubM.app ?_))) (fun _ h => h) ?_ ?_
          · exact hI.step hsy (by omega) (stop_no h2 (fun q => by first | exact h4 q.2 | exact h3 q.1)) (by rw [if_neg h6]; omega)
          · first | omega | (dsimp only; omega)
  ·
    refine wpM.exit ?_
    refine QM.then_exit ?_
    refine QM.then_exit ?_
    refine QM.block_hit ?_
    refine QM.then ?_
    refine wpM.seq ?_
    refine wpM.region ?_
    first | refine LM.rd (om_ldW Try.isAgg44 Try.sizeOf44 rfl rfl) ?_ | refine LM.rd (om_ldA Try.isAgg44 Try.sizeOf44 rfl (vs := [_, _, _, _]) rfl ⟨rfl, rfl, rfl, rfl, trivial⟩) ?_
    first | refine LM.stW Try.sizeOf44 rfl rfl rfl rfl (by first | rfl | decide | (simp; done)) (fun hlt => absurd hlt (by omega)) ?_ | refine LM.st Try.sizeOf44 rfl rfl rfl (by first | decide | exact Nat.le_of_ble_eq_true rfl | (simp; done) | (simp; omega)) rfl (fun hlt => absurd hlt (by omega)) ?_
    refine LM.nil ?_
    refine QM.sub (e' := [(4, _)]) ⟨rfl, trivial⟩ ?_
    refine QM.then ?_
    refine wpM.ret ?_
    refine QM.leaveCs (ds := ([])) (.inl rfl) [.cell 4 44] Try.results22 hd_nil (rc_w rfl Try.isAgg44 Try.sizeOf44 rfl rc_nil) ?_
    intro w' hm' hc'
    -- leaf 3: h1-
    have hq := hI.fin (by omega); refine ⟨?_, hc'⟩; rw [hq]; show sV _ _ _ _ = _; congr 5; omega

set_option maxRecDepth 100000 in
theorem rsection_spec {xs : List COp} {fv : Bool} {ad : Option Addr} {n cap : Nat} (i : Nat) (w : World) (hn : n = xs.length) (hl : Sr fO 3 xs (.slice ad n cap) w) (hs : smallO xs) (hi : i < xs.length) : Ret Try.prog 18 #[pV fv ad n cap, .int .i64 (i : Nat)] w (fun v w' => v = secV xs i ∧ Ext w w') := by
  have hx20 := hs.1; have hsy := hs.drop (i + 1); obtain ⟨ys, hys⟩ : ∃ ys, xs.drop (i + 1) = ys := ⟨_, rfl⟩; have hyl : ys.length = xs.length - (i + 1) := (by rw [← hys, List.length_drop]); have hsec : secO xs i = secT (xs.getD i default).a ys := (by unfold secO; rw [hys]); have hyx : ∀ j, ys.getD j default = xs.getD (i + 1 + j) default := (fun j => by rw [← hys, getD_drop]); rw [hys] at hsy; simp only [secV, hsec]
  refine Ret.enterM (l := [pV fv ad n cap, .int .i64 (i : Nat)]) Try.func18 rfl Try.ntmps18 rfl ([]) (no) (Mem.nil w) ?_
  refine wpM.seq ?_
  refine wpM.region ?_
  refine LM.box rfl rfl (fun b2 hb2 => ?_)
  refine LM.alloc Try.zeroValue44 rfl (fun b4 hb4 => ?_)
  refine LM.nil ?_
  refine QM.sub (e' := [(1, _), (2, _), (4, _)]) ⟨rfl, rfl, rfl, trivial⟩ ?_
  refine QM.then ?_
  refine wpM.seq ?_
  refine wpM.region ?_
  refine LM.val (ov_move rfl) ?_
  refine LM.val (ov_move rfl) ?_
  refine LM.val (ov_add64 rfl rfl (by omega)) ?_
  refine LM.val (ov_field Try.underlying24 rfl Try.sizeOf22 rfl (k := 1) rfl rfl) ?_
  first | refine LM.rd (om_ld Try.isAgg22 rfl rfl) ?_
  refine LM.val (ov_move rfl) ?_
  first | refine LM.val (ov_idxSN (by first | exact Sr.spt (by assumption) | exact Sl.spt (by assumption)) Try.underlying22 Try.sizeOf38 rfl rfl (by omega)) ?_ | refine LM.val (ov_idxS (by first | exact Sr.spt (by assumption) | exact Sl.spt (by assumption)) Try.underlying22 Try.sizeOf38 rfl rfl (by omega)) ?_ | refine LM.val (ov_idx Try.underlying22 Try.sizeOf38 rfl rfl (by omega)) ?_
  refine LM.val (ov_field Try.underlying38 rfl Try.sizeOf3 rfl (k := 1) rfl rfl) ?_
  first | refine LM.rd (om_slE (j := 1) (by assumption) (by intro _; rfl) Try.isAgg3 rfl rfl (by exact getq default (by first | omega | (simp only [List.length_set, List.length_append, List.length_cons, List.length_nil]; omega))) rfl (by rfl)) ?_ | refine LM.rdC (om_srE (j := 1) (by assumption) Try.isAgg3 rfl rfl (by exact getq default (by first | omega | (simp only [List.length_set, List.length_append, List.length_cons, List.length_nil]; omega))) (by rfl) (by rfl) id) ?_ | refine LM.rd (om_ld Try.isAgg3 rfl rfl) ?_
  refine LM.val (ov_build (cs := #[_, _, _, _]) rfl (by first | rfl | kernel_rfl)) ?_
  refine LM.alloc Try.zeroValue44 rfl (fun b5 hb5 => ?_)
  first | refine LM.stW Try.sizeOf44 rfl rfl rfl rfl (by first | rfl | decide | (simp; done)) (fun hlt => absurd hlt (by omega)) ?_ | refine LM.st Try.sizeOf44 rfl rfl rfl (by first | decide | exact Nat.le_of_ble_eq_true rfl | (simp; done) | (simp; omega)) rfl (fun hlt => absurd hlt (by omega)) ?_
  refine LM.nil ?_
  refine QM.sub (e' := [(2, _), (4, _), (5, _)]) ⟨rfl, rfl, rfl, trivial⟩ ?_
  refine QM.then ?_
  refine wpM.seq ?_
  refine wpM.block ?_
  refine wpM.loopK0 (α := Nat × Int × Int) (fun ⟨j, to, acc⟩ => []) [(2, _), (4, _), (5, _)] (fun ⟨j, to, acc⟩ => sB b5 (i : Nat) to (xs.getD i default).a acc :: sB b4 0 0 0 0 :: pB b2 fv ad n cap :: []) (fun ⟨j, to, acc⟩ => SecI (xs.getD i default).a ys j acc ∧ to = (i : Int) + 1 + (j : Nat)) (fun ⟨j, to, acc⟩ => ys.length - j) ((0, (i : Int) + 1, 0)) ⟨rfl, rfl, rfl, trivial⟩ (by (repeat' (first | exact SubM.nil _ | refine SubM.cons rfl ?_ | refine SubM.app ?_))) ⟨SecI.zero _ ys, by simp⟩ ?_
  rintro ⟨j, to, acc⟩ ⟨hI, hto⟩
  change wpM _ _ _ _ _ _ _ (sB b5 (i : Nat) to (xs.getD i default).a acc :: sB b4 0 0 0 0 :: pB b2 fv ad n cap :: []) _ _ _
  have hj := hI.1; have htn : to.toNat = i + 1 + j := (by omega); have hyt : ys.getD j default = xs.getD to.toNat default := (by rw [hyx, htn]); have hb := hsy.at j; rw [hyt] at hb; obtain ⟨-, -, -, hb1, hb2⟩ := id hI
  refine wpM.seq ?_
  refine wpM.seq ?_
  refine wpM.region ?_
  refine LM.val (ov_field Try.underlying44 rfl Try.sizeOf3 rfl (k := 1) rfl rfl) ?_
  first | refine LM.rd (om_ld Try.isAgg3 rfl rfl) ?_
  refine LM.val (ov_field Try.underlying24 rfl Try.sizeOf22 rfl (k := 1) rfl rfl) ?_
  first | refine LM.rd (om_ld Try.isAgg22 rfl rfl) ?_
  refine LM.val (ov_len Try.underlying22 rfl) ?_
  refine LM.val (ov_lss rfl rfl) ?_
  refine LM.nil ?_
  refine QM.sub (e' := [(2, _), (4, _), (5, _), (22, _)]) ⟨rfl, rfl, rfl, rfl, trivial⟩ ?_
  refine QM.then ?_
  first | refine wpM.condD rfl (fun h1 => ?_) (fun h1 => ?_) | refine wpM.condB rfl (fun h1 => ?_) (fun h1 => ?_)
  ·
    refine wpM.skip ?_
    refine QM.then ?_
    refine wpM.block ?_
    refine wpM.seq ?_
    refine wpM.region ?_
    refine LM.val (ov_field Try.underlying24 rfl Try.sizeOf22 rfl (k := 1) rfl rfl) ?_
    first | refine LM.rd (om_ld Try.isAgg22 rfl rfl) ?_
    refine LM.val (ov_field Try.underlying44 rfl Try.sizeOf3 rfl (k := 1) rfl rfl) ?_
    first | refine LM.rd (om_ld Try.isAgg3 rfl rfl) ?_
    first | refine LM.val (ov_idxSN (by first | exact Sr.spt (by assumption) | exact Sl.spt (by assumption)) Try.underlying22 Try.sizeOf38 rfl rfl (by omega)) ?_ | refine LM.val (ov_idxS (by first | exact Sr.spt (by assumption) | exact Sl.spt (by assumption)) Try.underlying22 Try.sizeOf38 rfl rfl (by omega)) ?_ | refine LM.val (ov_idx Try.underlying22 Try.sizeOf38 rfl rfl (by omega)) ?_
    first | refine LM.rd (om_slA (by assumption) (by intro _; rfl) Try.isAgg38 Try.sizeOf38 rfl (by exact getq default (by first | omega | (simp only [List.length_set, List.length_append, List.length_cons, List.length_nil]; omega)))) ?_ | refine LM.rdC (om_srEA (by assumption) (by intro _; rfl) Try.isAgg38 Try.sizeOf38 rfl (by exact getq default (by first | omega | (simp only [List.length_set, List.length_append, List.length_cons, List.length_nil]; omega))) id) ?_ | refine LM.rd (om_ldW Try.isAgg38 Try.sizeOf38 rfl rfl) ?_ | refine LM.rd (om_ldA Try.isAgg38 Try.sizeOf38 rfl (vs := [_, _, _]) rfl ⟨rfl, rfl, rfl, trivial⟩) ?_
    refine LM.alloc Try.zeroValue38 rfl (fun b6 hb6 => ?_)
    first | refine LM.stW Try.sizeOf38 rfl rfl rfl rfl (by first | rfl | decide | (simp; done)) (fun hlt => absurd hlt (by omega)) ?_ | refine LM.st Try.sizeOf38 rfl rfl rfl (by first | decide | exact Nat.le_of_ble_eq_true rfl | (simp; done) | (simp; omega)) rfl (fun hlt => absurd hlt (by omega)) ?_
    refine LM.nil ?_
    refine QM.sub (e' := [(2, _), (4, _), (5, _), (6, _)]) ⟨rfl, rfl, rfl, rfl, trivial⟩ ?_
    refine QM.then ?_
    refine wpM.seq ?_
    refine wpM.seq ?_
    refine wpM.region ?_
    refine LM.val (ov_field Try.underlying38 rfl Try.sizeOf3 rfl (k := 0) rfl rfl) ?_
    first | refine LM.rd (om_ld Try.isAgg3 rfl rfl) ?_
    refine LM.val (ov_eql rfl rfl) ?_
    refine LM.val (ov_move rfl) ?_
    first | refine LM.splitD (t := 32) rfl (fun h2 => ?_) (fun h2 => ?_) | refine LM.splitB (t := 32) rfl (fun h2 => ?_) (fun h2 => ?_)
    ·
      refine LM.drop (t := 32) rfl rfl rfl ?_
      refine LM.drop (t := 32) rfl rfl rfl ?_
      refine LM.drop (t := 32) rfl rfl rfl ?_
      refine LM.dropU (t := 32) rfl rfl rfl ?_
      refine LM.dropX (t := 36) rfl rfl ?_
      refine LM.dropX (t := 36) rfl rfl ?_
      refine LM.dropX (t := 36) rfl rfl ?_
      refine LM.dropX (t := 36) rfl rfl ?_
      refine LM.dropX (t := 36) rfl rfl ?_
      refine LM.drop (t := 32) rfl rfl rfl ?_
      refine LM.val (ov_pickT rfl rfl) ?_
      refine LM.nil ?_
      refine QM.sub (e' := [(2, _), (4, _), (5, _), (6, _), (43, _)]) ⟨rfl, rfl, rfl, rfl, rfl, trivial⟩ ?_
      refine QM.then ?_
      refine wpM.condT rfl ?_
      refine wpM.seq ?_
      refine wpM.region ?_
      first | refine LM.rd (om_ldW Try.isAgg44 Try.sizeOf44 rfl rfl) ?_ | refine LM.rd (om_ldA Try.isAgg44 Try.sizeOf44 rfl (vs := [_, _, _, _]) rfl ⟨rfl, rfl, rfl, rfl, trivial⟩) ?_
      first | refine LM.stW Try.sizeOf44 rfl rfl rfl rfl (by first | rfl | decide | (simp; done)) (fun hlt => absurd hlt (by omega)) ?_ | refine LM.st Try.sizeOf44 rfl rfl rfl (by first | decide | exact Nat.le_of_ble_eq_true rfl | (simp; done) | (simp; omega)) rfl (fun hlt => absurd hlt (by omega)) ?_
      refine LM.nil ?_
      refine QM.sub (e' := [(4, _)]) ⟨rfl, trivial⟩ ?_
      refine QM.then ?_
      refine wpM.ret ?_
      refine QM.then_ret ?_
      refine QM.block_ret ?_
      refine QM.then_ret ?_
      refine QM.block_ret ?_
      refine QM.then_ret ?_
      refine QM.leaveCs (ds := ([])) (.inl rfl) [.cell 4 44] Try.results18 hd_nil (rc_w rfl Try.isAgg44 Try.sizeOf44 rfl rc_nil) ?_
      intro w' hm' hc'
      -- leaf 1: h1+ h2+
      have hq := hI.stop (by omega) (by rw [hyt]; exact stop_11 h2); refine ⟨?_, hc'⟩; rw [hq]; show sV _ _ _ _ = _; congr 5
    ·
      refine LM.strip (t := 32) rfl rfl rfl ?_
      refine LM.val (ov_field Try.underlying38 rfl Try.sizeOf3 rfl (k := 0) rfl rfl) ?_
      refine LM.strip (t := 32) rfl rfl rfl ?_
      first | refine LM.rd (om_ld Try.isAgg3 rfl rfl) ?_
      refine LM.strip (t := 32) rfl rfl rfl ?_
      refine LM.val (ov_eql rfl rfl) ?_
      refine LM.strip (t := 32) rfl rfl rfl ?_
      refine LM.val (ov_move rfl) ?_
      first | refine LM.splitD (t := 36) rfl (fun h3 => ?_) (fun h3 => ?_) | refine LM.splitB (t := 36) rfl (fun h3 => ?_) (fun h3 => ?_)
      ·
        refine LM.strip (t := 36) rfl rfl rfl ?_
        refine LM.val (ov_field Try.underlying38 rfl Try.sizeOf3 rfl (k := 1) rfl rfl) ?_
        refine LM.strip (t := 36) rfl rfl rfl ?_
        first | refine LM.rd (om_ld Try.isAgg3 rfl rfl) ?_
        refine LM.strip (t := 36) rfl rfl rfl ?_
        refine LM.val (ov_field Try.underlying44 rfl Try.sizeOf3 rfl (k := 2) rfl rfl) ?_
        refine LM.strip (t := 36) rfl rfl rfl ?_
        first | refine LM.rd (om_ld Try.isAgg3 rfl rfl) ?_
        refine LM.strip (t := 36) rfl rfl rfl ?_
        refine LM.val (ov_eql rfl rfl) ?_
        refine LM.strip (t := 32) rfl rfl rfl ?_
        refine LM.val (ov_pickT rfl rfl) ?_
        refine LM.val (ov_pickF rfl rfl) ?_
        refine LM.nil ?_
        refine QM.sub (e' := [(2, _), (4, _), (5, _), (6, _), (43, _)]) ⟨rfl, rfl, rfl, rfl, rfl, trivial⟩ ?_
        refine QM.then ?_
        first | refine wpM.condD rfl (fun h4 => ?_) (fun h4 => ?_) | refine wpM.condB rfl (fun h4 => ?_) (fun h4 => ?_)
        ·
          refine wpM.seq ?_
          refine wpM.region ?_
          first | refine LM.rd (om_ldW Try.isAgg44 Try.sizeOf44 rfl rfl) ?_ | refine LM.rd (om_ldA Try.isAgg44 Try.sizeOf44 rfl (vs := [_, _, _, _]) rfl ⟨rfl, rfl, rfl, rfl, trivial⟩) ?_
          first | refine LM.stW Try.sizeOf44 rfl rfl rfl rfl (by first | rfl | decide | (simp; done)) (fun hlt => absurd hlt (by omega)) ?_ | refine LM.st Try.sizeOf44 rfl rfl rfl (by first | decide | exact Nat.le_of_ble_eq_true rfl | (simp; done) | (simp; omega)) rfl (fun hlt => absurd hlt (by omega)) ?_
          refine LM.nil ?_
          refine QM.sub (e' := [(4, _)]) ⟨rfl, trivial⟩ ?_
          refine QM.then ?_
          refine wpM.ret ?_
          refine QM.then_ret ?_
          refine QM.block_ret ?_
          refine QM.then_ret ?_
          refine QM.block_ret ?_
          refine QM.then_ret ?_
          refine QM.leaveCs (ds := ([])) (.inl rfl) [.cell 4 44] Try.results18 hd_nil (rc_w rfl Try.isAgg44 Try.sizeOf44 rfl rc_nil) ?_
          intro w' hm' hc'
          -- leaf 2: h1+ h2- h3+ h4+
          have hq := hI.stop (by omega) (by rw [hyt]; exact stop_6 h3 h4); refine ⟨?_, hc'⟩; rw [hq]; show sV _ _ _ _ = _; congr 5
        ·
          refine wpM.skip ?_
          refine QM.then ?_
          refine wpM.seq ?_
          refine wpM.seq ?_
          refine wpM.region ?_
          refine LM.val (ov_field Try.underlying38 rfl Try.sizeOf3 rfl (k := 0) rfl rfl) ?_
          first | refine LM.rd (om_ld Try.isAgg3 rfl rfl) ?_
          refine LM.val (ov_eql rfl rfl) ?_
          refine LM.nil ?_
          refine QM.sub (e' := [(2, _), (4, _), (5, _), (6, _), (47, _)]) ⟨rfl, rfl, rfl, rfl, rfl, trivial⟩ ?_
          refine QM.then ?_
          first | refine wpM.condD rfl (fun h5 => ?_) (fun h5 => ?_) | refine wpM.condB rfl (fun h5 => ?_) (fun h5 => ?_)
          ·
            refine wpM.region ?_
            refine LM.val (ov_field Try.underlying44 rfl Try.sizeOf3 rfl (k := 3) rfl rfl) ?_
            first | refine LM.rd (om_ld Try.isAgg3 rfl rfl) ?_
            refine LM.val (ov_field Try.underlying38 rfl Try.sizeOf3 rfl (k := 1) rfl rfl) ?_
            first | refine LM.rd (om_ld Try.isAgg3 rfl rfl) ?_
            refine LM.val (ov_add64 rfl rfl (by omega)) ?_
            refine LM.val (ov_field Try.underlying44 rfl Try.sizeOf3 rfl (k := 3) rfl rfl) ?_
            refine LM.st Try.sizeOf3 rfl rfl rfl (by first | decide | exact Nat.le_of_ble_eq_true rfl | (simp; done) | (simp; omega)) rfl (fun hlt => absurd hlt (by omega)) ?_
            refine LM.nil ?_
            refine QM.sub (e' := [(2, _), (4, _), (5, _)]) ⟨rfl, rfl, rfl, trivial⟩ ?_
            refine QM.then ?_
            refine wpM.region ?_
            refine LM.val (ov_field Try.underlying44 rfl Try.sizeOf3 rfl (k := 1) rfl rfl) ?_
            first | refine LM.rd (om_ld Try.isAgg3 rfl rfl) ?_
            refine LM.val (ov_add64 rfl rfl (by omega)) ?_
            refine LM.val (ov_field Try.underlying44 rfl Try.sizeOf3 rfl (k := 1) rfl rfl) ?_
            refine LM.st Try.sizeOf3 rfl rfl rfl (by first | decide | exact Nat.le_of_ble_eq_true rfl | (simp; done) | (simp; omega)) rfl (fun hlt => absurd hlt (by omega)) ?_
            refine LM.nil ?_
            refine QM.sub (e' := [(2, _), (4, _), (5, _)]) ⟨rfl, rfl, rfl, trivial⟩ ?_
            refine QM.block_normal ?_
            -- again1: h1+ h2- h3+ h4- h5+
            refine QM.againK ((j + 1, to + 1, acc + (xs.getD to.toNat default).a)) ⟨rfl, rfl, rfl, trivial⟩ (by (repeat' (first | exact SubM.nil _ | refine SubM.cons rfl ?_ | refine SubM.app ?_))) (fun _ h => h) ?_ ?_
            · exact ⟨hI.step hsy (by omega) (by rw [hyt]; exact stop_no h2 (fun q => by first | exact h4 q.2 | exact h3 q.1)) (by rw [hyt, if_pos h5]), by push_cast; omega⟩
            · first | omega | (dsimp only; omega)
          ·
            refine wpM.skip ?_
            refine QM.then ?_
            refine wpM.region ?_
            refine LM.val (ov_field Try.underlying44 rfl Try.sizeOf3 rfl (k := 1) rfl rfl) ?_
            first | refine LM.rd (om_ld Try.isAgg3 rfl rfl) ?_
            refine LM.val (ov_add64 rfl rfl (by omega)) ?_
            refine LM.val (ov_field Try.underlying44 rfl Try.sizeOf3 rfl (k := 1) rfl rfl) ?_
            refine LM.st Try.sizeOf3 rfl rfl rfl (by first | decide | exact Nat.le_of_ble_eq_true rfl | (simp; done) | (simp; omega)) rfl (fun hlt => absurd hlt (by omega)) ?_
            refine LM.nil ?_
            refine QM.sub (e' := [(2, _), (4, _), (5, _)]) ⟨rfl, rfl, rfl, trivial⟩ ?_
            refine QM.block_normal ?_
            -- again2: h1+ h2- h3+ h4- h5-
            refine QM.againK ((j + 1, to + 1, acc)) ⟨rfl, rfl, rfl, trivial⟩ (by (repeat' (first | exact SubM.nil _ | refine SubM.cons rfl ?_ | refine SubM.app ?_))) (fun _ h => h) ?_ ?_
            · exact ⟨hI.step hsy (by omega) (by rw [hyt]; exact stop_no h2 (fun q => by first | exact h4 q.2 | exact h3 q.1)) (by rw [hyt, if_neg h5]; omega), by push_cast; omega⟩
            · first | omega | (dsimp only; omega)
      ·
        refine LM.drop (t := 36) rfl rfl rfl ?_
        refine LM.drop (t := 36) rfl rfl rfl ?_
        refine LM.drop (t := 36) rfl rfl rfl ?_
        refine LM.drop (t := 36) rfl rfl rfl ?_
        refine LM.drop (t := 36) rfl rfl rfl ?_
        refine LM.strip (t := 32) rfl rfl rfl ?_
        refine LM.val (ov_pickF rfl rfl) ?_
        refine LM.val (ov_pickF rfl rfl) ?_
        refine LM.nil ?_
        refine QM.sub (e' := [(2, _), (4, _), (5, _), (6, _), (43, _)]) ⟨rfl, rfl, rfl, rfl, rfl, trivial⟩ ?_
        refine QM.then ?_
        refine wpM.condF rfl ?_
        refine wpM.skip ?_
        refine QM.then ?_
        refine wpM.seq ?_
        refine wpM.seq ?_
        refine wpM.region ?_
        refine LM.val (ov_field Try.underlying38 rfl Try.sizeOf3 rfl (k := 0) rfl rfl) ?_
        first | refine LM.rd (om_ld Try.isAgg3 rfl rfl) ?_
        refine LM.val (ov_eql rfl rfl) ?_
        refine LM.nil ?_
        refine QM.sub (e' := [(2, _), (4, _), (5, _), (6, _), (47, _)]) ⟨rfl, rfl, rfl, rfl, rfl, trivial⟩ ?_
        refine QM.then ?_
        first | refine wpM.condD rfl (fun h6 => ?_) (fun h6 => ?_) | refine wpM.condB rfl (fun h6 => ?_) (fun h6 => ?_)
        ·
          refine wpM.region ?_
          refine LM.val (ov_field Try.underlying44 rfl Try.sizeOf3 rfl (k := 3) rfl rfl) ?_
          first | refine LM.rd (om_ld Try.isAgg3 rfl rfl) ?_
          refine LM.val (ov_field Try.underlying38 rfl Try.sizeOf3 rfl (k := 1) rfl rfl) ?_
          first | refine LM.rd (om_ld Try.isAgg3 rfl rfl) ?_
          refine LM.val (ov_add64 rfl rfl (by omega)) ?_
          refine LM.val (ov_field Try.underlying44 rfl Try.sizeOf3 rfl (k := 3) rfl rfl) ?_
          refine LM.st Try.sizeOf3 rfl rfl rfl (by first | decide | exact Nat.le_of_ble_eq_true rfl | (simp; done) | (simp; omega)) rfl (fun hlt => absurd hlt (by omega)) ?_
          refine LM.nil ?_
          refine QM.sub (e' := [(2, _), (4, _), (5, _)]) ⟨rfl, rfl, rfl, trivial⟩ ?_
          refine QM.then ?_
          refine wpM.region ?_
          refine LM.val (ov_field Try.underlying44 rfl Try.sizeOf3 rfl (k := 1) rfl rfl) ?_
          first | refine LM.rd (om_ld Try.isAgg3 rfl rfl) ?_
          refine LM.val (ov_add64 rfl rfl (by omega)) ?_
          refine LM.val (ov_field Try.underlying44 rfl Try.sizeOf3 rfl (k := 1) rfl rfl) ?_
          refine LM.st Try.sizeOf3 rfl rfl rfl (by first | decide | exact Nat.le_of_ble_eq_true rfl | (simp; done) | (simp; omega)) rfl (fun hlt => absurd hlt (by omega)) ?_
          refine LM.nil ?_
          refine QM.sub (e' := [(2, _), (4, _), (5, _)]) ⟨rfl, rfl, rfl, trivial⟩ ?_
          refine QM.block_normal ?_
          -- again3: h1+ h2- h3- h6+
          refine QM.againK ((j + 1, to + 1, acc + (xs.getD to.toNat default).a)) ⟨rfl, rfl, rfl, trivial⟩ (by (repeat' (first | exact SubM.nil _ | refine SubM.cons rfl ?_ | refine SubM.app ?_))) (fun _ h => h) ?_ ?_
          · exact ⟨hI.step hsy (by omega) (by rw [hyt]; exact stop_no h2 (fun q => by first | exact h4 q.2 | exact h3 q.1)) (by rw [hyt, if_pos h6]), by push_cast; omega⟩
          · first | omega | (dsimp only; omega)
        ·
          refine wpM.skip ?_
          refine QM.then ?_
          refine wpM.region ?_
          refine LM.val (ov_field Try.underlying44 rfl Try.sizeOf3 rfl (k := 1) rfl rfl) ?_
          first | refine LM.rd (om_ld Try.isAgg3 rfl rfl) ?_
          refine LM.val (ov_add64 rfl rfl (by omega)) ?_
          refine LM.val (ov_field Try.underlying44 rfl Try.sizeOf3 rfl (k := 1) rfl rfl) ?_
          refine LM.st Try.sizeOf3 rfl rfl rfl (by first | decide | exact Nat.le_of_ble_eq_true rfl | (simp; done) | (simp; omega)) rfl (fun hlt => absurd hlt (by omega)) ?_
          refine LM.nil ?_
          refine QM.sub (e' := [(2, _), (4, _), (5, _)]) ⟨rfl, rfl, rfl, trivial⟩ ?_
          refine QM.block_normal ?_
          -- again4: h1+ h2- h3- h6-
          refine QM.againK ((j + 1, to + 1, acc)) ⟨rfl, rfl, rfl, trivial⟩ (by (repeat' (first | exact SubM.nil _ | refine SubM.cons rfl ?_ | refine SubM.app ?_))) (fun _ h => h) ?_ ?_
          · exact ⟨hI.step hsy (by omega) (by rw [hyt]; exact stop_no h2 (fun q => by first | exact h4 q.2 | exact h3 q.1)) (by rw [hyt, if_neg h6]; omega), by push_cast; omega⟩
          · first | omega | (dsimp only; omega)
  ·
    refine wpM.exit ?_
    refine QM.then_exit ?_
    refine QM.then_exit ?_
    refine QM.block_hit ?_
    refine QM.then ?_
    refine wpM.seq ?_
    refine wpM.region ?_
    first | refine LM.rd (om_ldW Try.isAgg44 Try.sizeOf44 rfl rfl) ?_ | refine LM.rd (om_ldA Try.isAgg44 Try.sizeOf44 rfl (vs := [_, _, _, _]) rfl ⟨rfl, rfl, rfl, rfl, trivial⟩) ?_
    first | refine LM.stW Try.sizeOf44 rfl rfl rfl rfl (by first | rfl | decide | (simp; done)) (fun hlt => absurd hlt (by omega)) ?_ | refine LM.st Try.sizeOf44 rfl rfl rfl (by first | decide | exact Nat.le_of_ble_eq_true rfl | (simp; done) | (simp; omega)) rfl (fun hlt => absurd hlt (by omega)) ?_
    refine LM.nil ?_
    refine QM.sub (e' := [(4, _)]) ⟨rfl, trivial⟩ ?_
    refine QM.then ?_
    refine wpM.ret ?_
    refine QM.leaveCs (ds := ([])) (.inl rfl) [.cell 4 44] Try.results18 hd_nil (rc_w rfl Try.isAgg44 Try.sizeOf44 rfl rc_nil) ?_
    intro w' hm' hc'
    -- leaf 3: h1-
    have hq := hI.fin (by omega); refine ⟨?_, hc'⟩; rw [hq]; show sV _ _ _ _ = _; congr 5; omega

end Go.Eng

