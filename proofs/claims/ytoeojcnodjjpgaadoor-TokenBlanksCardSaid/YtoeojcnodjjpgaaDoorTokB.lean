/- The walks of the document's text of words. No condition. -/
import Derived.Test.YtoeojcnodjjpgaaDoorTokA
set_option linter.unusedVariables false
set_option linter.unusedSimpArgs false
namespace Go.Eng
open Go Go.Proofs Go.RowKit

theorem tw_eq {p : UInt8 → Bool} : ∀ {l : List UInt8}, l.all p = true → (l.takeWhile p).length = l.length
  | [], _ => rfl
  | c :: l, h => by
    rw [List.all_cons, Bool.and_eq_true] at h
    rw [List.takeWhile_cons, if_pos h.1, List.length_cons, List.length_cons, tw_eq h.2]
theorem tw_all {p : UInt8 → Bool} {l : List UInt8} : ((l.takeWhile p).length = l.length) ↔ l.all p = true := by
  constructor
  · intro h
    have h2 : l.takeWhile p = l := (List.takeWhile_sublist (l := l) p).eq_of_length h
    rw [← h2]; exact all_tw p l
  · intro h
    exact tw_eq h
theorem run_all {p : UInt8 → Bool} {l : List UInt8} : (runL p l 0 = l.length) ↔ l.all p = true := by
  unfold runL; rw [List.drop_zero]; exact tw_all
theorem let_mark (c : UInt8) (h : letB c = true) : markB c = false := by
  unfold letB letN at h; unfold markB markN; simp only [Bool.and_eq_true, decide_eq_true_eq] at h
  simp only [Bool.or_eq_false_iff, decide_eq_false_iff_not]; omega
theorem dig_let (c : UInt8) (h : digB c = true) : letB c = false := by
  unfold digB digN at h; unfold letB letN; simp only [Bool.and_eq_true, decide_eq_true_eq] at h
  simp only [Bool.and_eq_false_iff, decide_eq_false_iff_not]; omega
theorem dig_mark (c : UInt8) (h : digB c = true) : markB c = false := by
  unfold digB digN at h; unfold markB markN; simp only [Bool.and_eq_true, decide_eq_true_eq] at h
  simp only [Bool.or_eq_false_iff, decide_eq_false_iff_not]; omega
def oneT (x : Wrd) : Bool := (oneO x.t 0).2.2 && decide ((oneO x.t 0).2.1 = x.t.length) && decide ((oneO x.t 0).1.k = x.k)
theorem one_text {x : Wrd} (ht : x.t ≠ []) (hk : x.k ≠ 2) : oneT x = (isName x || isMark x) := by
  obtain ⟨k, t, n, p⟩ := x
  match t, ht with
  | c :: l, _ =>
    simp only at hk
    unfold oneT isName isMark oneO
    simp only [List.getD_cons_zero]
    by_cases h1 : letB c = true
    · rw [if_pos h1]
      simp only [Nat.zero_add]
      have e : (decide (runL letB (c :: l) 0 = (c :: l).length) : Bool) = (c :: l).all letB := by rw [Bool.eq_iff_iff, decide_eq_true_eq]; exact run_all
      have e2 : (c :: l).all markB = false := by rw [List.all_cons, let_mark c h1, Bool.false_and]
      rw [e, e2, Bool.and_false, Bool.or_false]
      by_cases h2 : (c :: l).all letB = true
      · have e3 := run_all.2 h2
        rw [h2, e3]; simp [Bool.and_comm, eq_comm]
      · rw [Bool.not_eq_true] at h2; rw [h2]; simp
    · rw [if_neg h1]
      have h1 : letB c = false := by simpa using h1
      have e1 : (c :: l).all letB = false := by rw [List.all_cons, h1, Bool.false_and]
      rw [e1, Bool.and_false, Bool.false_or]
      by_cases h2 : digB c = true
      · rw [if_pos h2]
        have e2 : (c :: l).all markB = false := by rw [List.all_cons, dig_mark c h2, Bool.false_and]
        simp only
        rw [e2, Bool.and_false, decide_eq_false (show ¬ (2 : Int) = k from fun q => hk q.symm), Bool.and_false]
      · rw [if_neg h2]
        simp only [Nat.zero_add]
        by_cases h3 : (c :: l).length = 1
        · have h4 : l = [] := by simpa using h3
          subst h4
          simp [Bool.and_comm, eq_comm]
        · rw [decide_eq_false h3, decide_eq_false (fun q => h3 q.symm)]; simp
theorem textO_2 {x : Wrd} (h : x.k = 2) : textO x = if isNum x then (digF 10 x.n.toNat, 0) else ([], 1) := by
  unfold textO
  split
  · rfl
  split
  · rfl
  rw [if_neg (by unfold isName; rw [h]; simp), if_neg (by unfold isMark; rw [h]; simp)]
theorem isNum_2 {x : Wrd} (h : x.k = 2) : isNum x = !(decide (x.t ≠ []) || decide (x.n < 0) || decide (999999999 < x.n)) := by
  unfold isNum
  rw [decide_eq_true h, Bool.true_and, Bool.not_or, Bool.not_or, ← decide_not, ← decide_not, ← decide_not]
  congr 1
  · congr 1
    · simp
    · exact decide_eq_decide.2 (by omega)
  · exact decide_eq_decide.2 (by omega)
theorem textO_bad {x : Wrd} (h : x.k ≠ 2) (hb : x.n ≠ 0 ∨ x.t = [] ∨ (x.k ≠ 1 ∧ x.k ≠ 3)) : textO x = ([], 1) := by
  unfold textO
  rw [if_neg (by unfold isNum; rw [decide_eq_false h]; simp)]
  split
  · rfl
  rename_i q
  unfold isBad at q
  simp only [Bool.or_eq_true, decide_eq_true_eq, not_or] at q
  rw [if_neg (by unfold isName; rw [decide_eq_false (show ¬ x.k = 1 by rcases hb with h | h | h; exact absurd h q.1; exact absurd h q.2; exact h.1)]; simp), if_neg (by unfold isMark; rw [decide_eq_false (show ¬ x.k = 3 by rcases hb with h | h | h; exact absurd h q.1; exact absurd h q.2; exact h.2)]; simp)]
theorem textO_one {x : Wrd} (h : x.k ≠ 2) (h1 : x.n = 0) (h2 : x.t ≠ []) : textO x = if oneT x then (x.t, 0) else ([], 1) := by
  rw [one_text h2 h]
  unfold textO
  rw [if_neg (by unfold isNum; rw [decide_eq_false h]; simp), if_neg (by unfold isBad; rw [decide_eq_false (fun q => q h1), decide_eq_false h2]; simp)]
  cases isName x <;> cases isMark x <;> rfl
set_option maxRecDepth 100000 in
theorem digits_step {f : Nat} {n : Int} (hf : f ≤ 100) (h0 : 0 ≤ n) (hx : n ≤ 999999999) (ih : 10 ≤ n → ∀ w, Ret Tryd.prog 81 #[.int .i64 (n / 10)] w (fun v w' => v = vS (digF f (n.toNat / 10)) ∧ Ext w w')) (w : World) : Ret Tryd.prog 81 #[.int .i64 n] w (fun v w' => v = vS (digF (f + 1) n.toNat) ∧ Ext w w') := by
 refine Ret.enterM (l := [.int .i64 n]) Tryd.func81 rfl Tryd.ntmps81 rfl ([]) (no) (Mem.nil w) ?_
 refine wpM.seq ?_
 refine wpM.region ?_
 refine LM.val (ov_assign rfl) ?_
 refine LM.nil ?_
 refine QM.sub (e' := [(0, _)]) ⟨rfl, trivial⟩ ?_
 refine QM.then ?_
 refine wpM.seq ?_
 refine wpM.seq ?_
 refine wpM.region ?_
 refine LM.val (ov_move rfl) ?_
 refine LM.val (ov_lss rfl rfl) ?_
 refine LM.nil ?_
 refine QM.sub (e' := [(0, _), (4, _)]) ⟨rfl, rfl, trivial⟩ ?_
 refine QM.then ?_
 first | refine wpM.condD rfl (fun h1 => ?_) (fun h1 => ?_) | refine wpM.condB rfl (fun h1 => ?_) (fun h1 => ?_)
 ·
  refine wpM.seq ?_
  refine wpM.region ?_
  refine LM.val (ov_move rfl) ?_
  refine LM.val (ov_add64 rfl rfl (by omega)) ?_
  refine LM.val (ov_toU8 Tryd.underlying3 Tryd.underlying5 rfl (by omega)) ?_
  refine LM.single Tryd.underlying81 Tryd.sizeOf5 Tryd.zeroValue5 rfl rfl rfl rfl rfl (fun b8 hb8 => ?_)
  refine LM.rd (om_str1 (c := 0) Tryd.underlying81 Tryd.underlying5 Tryd.underlying9 rfl rfl (by omega)) ?_
  refine LM.val (ov_assign rfl) ?_
  refine LM.nil ?_
  refine QM.sub (e' := [(2, _)]) ⟨rfl, trivial⟩ ?_
  refine QM.then ?_
  refine wpM.ret ?_
  refine QM.then_ret ?_
  refine QM.leave (.inl rfl) [.tmp 2] Tryd.results81 rfl ?_
  intro w' hm' hc' hg'
  refine ⟨?_, hc'⟩; show vS _ = _; congr 1; unfold digF; rw [if_pos (by omega), show (48 + n).toNat = 48 + n.toNat by omega]
 ·
  have hdl := digF_len f (n.toNat / 10)
  refine wpM.skip ?_
  refine QM.then ?_
  refine wpM.seq ?_
  refine wpM.keep ([]) (fun _ => True) (.one 0 0 (.one 1 0 (.one 3 0 (.one 4 0 (.one 5 0 (.one 6 0 (.fork 2 (.one 7 2 (.one 8 2 (.one 9 0 (.one 10 0 .nil)))) 7 (.fork 2 (.one 8 2 (.one 9 0 (.one 10 0 .nil))) 8 (.one 2 2 (.one 9 0 (.one 10 0 .nil))))))))))) (by kernel_rfl) (by kernel_rfl) (by (repeat' (first | exact SubM.nil _ | refine SubM.cons rfl ?_ | refine SubM.app ?_))) (fun _ _ => trivial) ?_
  refine KD.val rfl rfl (ov_move rfl) ?_
  refine KD.val rfl rfl (ov_quo64 rfl rfl (by omega) (by omega) (by omega)) ?_
  refine KD.val rfl rfl (ov_move rfl) ?_
  refine KD.val rfl rfl (ov_rem64 rfl rfl (by omega) (by omega)) ?_
  refine KD.val rfl rfl (ov_add64 rfl rfl (by omega)) ?_
  refine KD.val rfl rfl (ov_toU8 Tryd.underlying3 Tryd.underlying5 rfl (by omega)) ?_
  refine KD.fork rfl rfl ?_ ?_
  ·
   refine LM.callE (oc_call (enters_fn Tryd.func81 (by kernel_rfl) rfl) rfl) (fun w hm hc hg => ih (by omega) w) ?_
   refine LM.nil ?_
   refine QM.one (by (repeat' (first | exact SubM.nil _ | refine SubM.cons rfl ?_ | refine SubM.app ?_))) (fun _ _ => trivial) ?_
   refine KD.one rfl ?_
   refine LM.single Tryd.underlying81 Tryd.sizeOf5 Tryd.zeroValue5 rfl rfl rfl rfl rfl (fun b17 hb17 => ?_)
   refine LM.nil ?_
   refine QM.one (by (repeat' (first | exact SubM.nil _ | refine SubM.cons rfl ?_ | refine SubM.app ?_))) (fun _ _ => trivial) ?_
   refine KD.one rfl ?_
   refine LM.rd (om_str1 (c := 0) Tryd.underlying81 Tryd.underlying5 Tryd.underlying9 rfl rfl (by omega)) ?_
   refine LM.nil ?_
   refine QM.one (by (repeat' (first | exact SubM.nil _ | refine SubM.cons rfl ?_ | refine SubM.app ?_))) (fun _ _ => trivial) ?_
   refine KD.val rfl rfl (ov_saddL rfl rfl (by first | omega | (simp only [List.length_append, List.length_cons, List.length_nil]; omega))) ?_
   refine KD.val rfl rfl (ov_assign rfl) ?_
   refine KD.nil ?_
   refine QM.sub (e' := [(2, _)]) ⟨rfl, trivial⟩ ?_
   refine QM.then ?_
   refine wpM.ret ?_
   refine QM.leave (.inl rfl) [.tmp 2] Tryd.results81 rfl ?_
   intro w' hm' hc' hg'
   refine ⟨?_, hc'⟩; show vS _ = _; congr 1; conv => rhs; unfold digF; rw [if_neg (by omega), show 48 + n.toNat % 10 = (48 + n % 10).toNat by omega]
  ·
   refine LM.single Tryd.underlying81 Tryd.sizeOf5 Tryd.zeroValue5 rfl rfl rfl rfl rfl (fun b17 hb17 => ?_)
   refine LM.nil ?_
   refine QM.one (by (repeat' (first | exact SubM.nil _ | refine SubM.cons rfl ?_ | refine SubM.app ?_))) (fun _ _ => trivial) ?_
   refine KD.fork rfl rfl ?_ ?_
   ·
    refine LM.callE (oc_call (enters_fn Tryd.func81 (by kernel_rfl) rfl) rfl) (fun w hm hc hg => ih (by omega) w) ?_
    refine LM.nil ?_
    refine QM.one (by (repeat' (first | exact SubM.nil _ | refine SubM.cons rfl ?_ | refine SubM.app ?_))) (fun _ _ => trivial) ?_
    refine KD.one rfl ?_
    refine LM.rd (om_str1 (c := 0) Tryd.underlying81 Tryd.underlying5 Tryd.underlying9 rfl rfl (by omega)) ?_
    refine LM.nil ?_
    refine QM.one (by (repeat' (first | exact SubM.nil _ | refine SubM.cons rfl ?_ | refine SubM.app ?_))) (fun _ _ => trivial) ?_
    refine KD.val rfl rfl (ov_saddL rfl rfl (by first | omega | (simp only [List.length_append, List.length_cons, List.length_nil]; omega))) ?_
    refine KD.val rfl rfl (ov_assign rfl) ?_
    refine KD.nil ?_
    refine QM.sub (e' := [(2, _)]) ⟨rfl, trivial⟩ ?_
    refine QM.then ?_
    refine wpM.ret ?_
    refine QM.leave (.inl rfl) [.tmp 2] Tryd.results81 rfl ?_
    intro w' hm' hc' hg'
    refine ⟨?_, hc'⟩; show vS _ = _; congr 1; conv => rhs; unfold digF; rw [if_neg (by omega), show 48 + n.toNat % 10 = (48 + n % 10).toNat by omega]
   ·
    refine LM.rd (om_str1 (c := 0) Tryd.underlying81 Tryd.underlying5 Tryd.underlying9 rfl rfl (by omega)) ?_
    refine LM.nil ?_
    refine QM.one (by (repeat' (first | exact SubM.nil _ | refine SubM.cons rfl ?_ | refine SubM.app ?_))) (fun _ _ => trivial) ?_
    refine KD.one rfl ?_
    refine LM.callE (oc_call (enters_fn Tryd.func81 (by kernel_rfl) rfl) rfl) (fun w hm hc hg => ih (by omega) w) ?_
    refine LM.nil ?_
    refine QM.one (by (repeat' (first | exact SubM.nil _ | refine SubM.cons rfl ?_ | refine SubM.app ?_))) (fun _ _ => trivial) ?_
    refine KD.val rfl rfl (ov_saddL rfl rfl (by first | omega | (simp only [List.length_append, List.length_cons, List.length_nil]; omega))) ?_
    refine KD.val rfl rfl (ov_assign rfl) ?_
    refine KD.nil ?_
    refine QM.sub (e' := [(2, _)]) ⟨rfl, trivial⟩ ?_
    refine QM.then ?_
    refine wpM.ret ?_
    refine QM.leave (.inl rfl) [.tmp 2] Tryd.results81 rfl ?_
    intro w' hm' hc' hg'
    refine ⟨?_, hc'⟩; show vS _ = _; congr 1; conv => rhs; unfold digF; rw [if_neg (by omega), show 48 + n.toNat % 10 = (48 + n % 10).toNat by omega]

theorem digits_spec : ∀ (f : Nat) (n : Int) (w : World), f ≤ 9 → 0 ≤ n → n ≤ 999999999 → n < 10 ^ (f + 1) → Ret Tryd.prog 81 #[.int .i64 n] w (fun v w' => v = vS (digF (f + 1) n.toNat) ∧ Ext w w')
  | 0, n, w, h, h0, hx, h1 => digits_step (Nat.zero_le _) h0 hx (fun h2 => absurd h1 (by simp; omega)) w
  | f + 1, n, w, h, h0, hx, h1 => digits_step (by omega) h0 hx (fun h2 w => by
      have h3 := digits_spec f (n / 10) w (by omega) (by omega) (by omega) (by rw [Int.pow_succ] at h1; omega)
      rwa [show (n / 10).toNat = n.toNat / 10 by omega] at h3) w

set_option maxRecDepth 100000 in
set_option maxHeartbeats 1000000 in
theorem rtext_spec (x : Wrd) (w : World) (hx : x.t.length ≤ 9223372036854775807) : Ret Tryd.prog 42 #[.agg (fW x).toArray] w (fun v w' => v = .tuple #[vS (textO x).1, .int .i64 (textO x).2] ∧ Ext w w') := by
 refine Ret.enterM (l := [.agg (fW x).toArray]) Tryd.func42 rfl Tryd.ntmps42 rfl ([]) (no) (Mem.nil w) ?_
 refine wpM.seq ?_
 refine wpM.region ?_
 refine LM.box rfl rfl (fun b1 hb1 => ?_)
 refine LM.val (ov_assign rfl) ?_
 refine LM.val (ov_assign rfl) ?_
 refine LM.nil ?_
 refine QM.sub (e' := [(1, _)]) ⟨rfl, trivial⟩ ?_
 refine QM.then ?_
 refine wpM.seq ?_
 refine wpM.region ?_
 refine LM.val (ov_field Tryd.underlying72 rfl Tryd.sizeOf9 rfl (k := 1) rfl rfl) ?_
 first | refine LM.rd (om_ld Tryd.isAgg9 rfl rfl) ?_
 refine LM.val (ov_assign rfl) ?_
 refine LM.nil ?_
 refine QM.sub (e' := [(1, _), (4, _)]) ⟨rfl, rfl, trivial⟩ ?_
 refine QM.then ?_
 refine wpM.seq ?_
 refine wpM.seq ?_
 refine wpM.region ?_
 refine LM.val (ov_field Tryd.underlying72 rfl Tryd.sizeOf3 rfl (k := 0) rfl rfl) ?_
 first | refine LM.rd (om_ld Tryd.isAgg3 rfl rfl) ?_
 refine LM.val (ov_eql rfl rfl) ?_
 refine LM.nil ?_
 refine QM.sub (e' := [(1, _), (4, _), (12, _)]) ⟨rfl, rfl, rfl, trivial⟩ ?_
 refine QM.then ?_
 first | refine wpM.condD rfl (fun h1 => ?_) (fun h1 => ?_) | refine wpM.condB rfl (fun h1 => ?_) (fun h1 => ?_)
 ·
  refine wpM.seq ?_
  refine wpM.seq ?_
  refine wpM.joinK (α := Bool) (fun qa => [(25, .bool qa)]) [(1, _)] (fun qa => (b1, .cells (fW x).toArray 72 (0, 0)) :: []) (fun qa => qa = (decide (x.t ≠ []) || decide (x.n < 0) || decide (999999999 < x.n))) ⟨rfl, trivial⟩ ?_ ?_
  ·
   refine wpM.region ?_
   refine LM.val (ov_field Tryd.underlying72 rfl Tryd.sizeOf9 rfl (k := 1) rfl rfl) ?_
   first | refine LM.rd (om_ld Tryd.isAgg9 rfl rfl) ?_
   refine LM.val (ov_sneqL rfl rfl) ?_
   refine LM.val (ov_move rfl) ?_
   first | refine LM.splitD (t := 16) rfl (fun h2 => ?_) (fun h2 => ?_) | refine LM.splitB (t := 16) rfl (fun h2 => ?_) (fun h2 => ?_)
   ·
    refine LM.drop (t := 16) rfl rfl rfl ?_
    refine LM.drop (t := 16) rfl rfl rfl ?_
    refine LM.drop (t := 16) rfl rfl rfl ?_
    refine LM.val (ov_pickT rfl rfl) ?_
    refine LM.val (ov_move rfl) ?_
    refine LM.drop (t := 21) rfl rfl rfl ?_
    refine LM.drop (t := 21) rfl rfl rfl ?_
    refine LM.drop (t := 21) rfl rfl rfl ?_
    refine LM.val (ov_pickT rfl rfl) ?_
    refine LM.nil ?_
    refine QM.sub (e' := [(1, _), (25, _)]) ⟨rfl, rfl, trivial⟩ ?_
    refine QM.meetK (_) ⟨(by first | rfl | exact lk rfl (by congr 1; omega) | exact lk rfl (by simp)), rfl, trivial⟩ (by (repeat' (first | exact SubM.nil _ | refine SubM.cons rfl ?_ | refine SubM.app ?_))) ?_
    · first | (simp only [h1, h2, decide_true, decide_false, Bool.true_and, Bool.false_and, Bool.and_true, Bool.and_false, Bool.not_true, Bool.not_false, Bool.true_or, Bool.false_or, Bool.or_true, Bool.or_false, ne_eq, not_true_eq_false, not_false_eq_true, Bool.and_self]; done) | (simp only [h1, h2, decide_true, decide_false, Bool.true_and, Bool.false_and, Bool.and_true, Bool.and_false, Bool.not_true, Bool.not_false, Bool.true_or, Bool.false_or, Bool.or_true, Bool.or_false, ne_eq, not_true_eq_false, not_false_eq_true, Bool.and_self]; rfl)
   ·
    refine LM.strip (t := 16) rfl rfl rfl ?_
    refine LM.val (ov_field Tryd.underlying72 rfl Tryd.sizeOf3 rfl (k := 2) rfl rfl) ?_
    refine LM.strip (t := 16) rfl rfl rfl ?_
    first | refine LM.rd (om_ld Tryd.isAgg3 rfl rfl) ?_
    refine LM.strip (t := 16) rfl rfl rfl ?_
    refine LM.val (ov_lss rfl rfl) ?_
    refine LM.val (ov_pickF rfl rfl) ?_
    refine LM.val (ov_move rfl) ?_
    first | refine LM.splitD (t := 21) rfl (fun h3 => ?_) (fun h3 => ?_) | refine LM.splitB (t := 21) rfl (fun h3 => ?_) (fun h3 => ?_)
    ·
     refine LM.drop (t := 21) rfl rfl rfl ?_
     refine LM.drop (t := 21) rfl rfl rfl ?_
     refine LM.drop (t := 21) rfl rfl rfl ?_
     refine LM.val (ov_pickT rfl rfl) ?_
     refine LM.nil ?_
     refine QM.sub (e' := [(1, _), (25, _)]) ⟨rfl, rfl, trivial⟩ ?_
     refine QM.meetK (_) ⟨(by first | rfl | exact lk rfl (by congr 1; omega) | exact lk rfl (by simp)), rfl, trivial⟩ (by (repeat' (first | exact SubM.nil _ | refine SubM.cons rfl ?_ | refine SubM.app ?_))) ?_
     · first | (simp only [h1, h2, h3, decide_true, decide_false, Bool.true_and, Bool.false_and, Bool.and_true, Bool.and_false, Bool.not_true, Bool.not_false, Bool.true_or, Bool.false_or, Bool.or_true, Bool.or_false, ne_eq, not_true_eq_false, not_false_eq_true, Bool.and_self]; done) | (simp only [h1, h2, h3, decide_true, decide_false, Bool.true_and, Bool.false_and, Bool.and_true, Bool.and_false, Bool.not_true, Bool.not_false, Bool.true_or, Bool.false_or, Bool.or_true, Bool.or_false, ne_eq, not_true_eq_false, not_false_eq_true, Bool.and_self]; rfl)
    ·
     refine LM.strip (t := 21) rfl rfl rfl ?_
     refine LM.val (ov_field Tryd.underlying72 rfl Tryd.sizeOf3 rfl (k := 2) rfl rfl) ?_
     refine LM.strip (t := 21) rfl rfl rfl ?_
     first | refine LM.rd (om_ld Tryd.isAgg3 rfl rfl) ?_
     refine LM.strip (t := 21) rfl rfl rfl ?_
     refine LM.val (ov_gtr rfl rfl) ?_
     refine LM.val (ov_pickF rfl rfl) ?_
     refine LM.nil ?_
     refine QM.sub (e' := [(1, _), (25, _)]) ⟨rfl, rfl, trivial⟩ ?_
     refine QM.meetK (_) ⟨(by first | rfl | exact lk rfl (by congr 1; omega) | exact lk rfl (by simp)), rfl, trivial⟩ (by (repeat' (first | exact SubM.nil _ | refine SubM.cons rfl ?_ | refine SubM.app ?_))) ?_
     · first | (simp only [h1, h2, h3, decide_true, decide_false, Bool.true_and, Bool.false_and, Bool.and_true, Bool.and_false, Bool.not_true, Bool.not_false, Bool.true_or, Bool.false_or, Bool.or_true, Bool.or_false, ne_eq, not_true_eq_false, not_false_eq_true, Bool.and_self]; done) | (simp only [h1, h2, h3, decide_true, decide_false, Bool.true_and, Bool.false_and, Bool.and_true, Bool.and_false, Bool.not_true, Bool.not_false, Bool.true_or, Bool.false_or, Bool.or_true, Bool.or_false, ne_eq, not_true_eq_false, not_false_eq_true, Bool.and_self]; rfl)
  ·
   rintro qa hqa
   change QM _ _ _ _ _ ((b1, .cells (fW x).toArray 72 (0, 0)) :: []) _ _ _
   refine QM.then ?_
   first | refine wpM.condD rfl (fun h4 => ?_) (fun h4 => ?_) | refine wpM.condB rfl (fun h4 => ?_) (fun h4 => ?_)
   ·
    refine wpM.seq ?_
    refine wpM.region ?_
    refine LM.val (ov_assign rfl) ?_
    refine LM.val (ov_assign rfl) ?_
    refine LM.nil ?_
    refine QM.sub (e' := [(2, _), (3, _)]) ⟨rfl, rfl, trivial⟩ ?_
    refine QM.then ?_
    refine wpM.ret ?_
    refine QM.then_ret ?_
    refine QM.then_ret ?_
    refine QM.leave (.inl rfl) [.tmp 2, .tmp 3] Tryd.results42 rfl ?_
    intro w' hm' hc' hg'
    refine ⟨?_, hc'⟩; have hn : isNum x = false := (by rw [isNum_2 h1, ← hqa, h4]; rfl); rw [textO_2 h1, hn]; rfl
   ·
    have hr : x.t = [] ∧ 0 ≤ x.n ∧ x.n ≤ 999999999 := (by have h := hqa.symm.trans h4; simp only [Bool.or_eq_false_iff, decide_eq_false_iff_not, Classical.not_not] at h; exact ⟨h.1.1, by omega, by omega⟩)
    refine wpM.skip ?_
    refine QM.then ?_
    refine wpM.seq ?_
    refine wpM.region ?_
    refine LM.val (ov_field Tryd.underlying72 rfl Tryd.sizeOf3 rfl (k := 2) rfl rfl) ?_
    first | refine LM.rd (om_ld Tryd.isAgg3 rfl rfl) ?_
    refine LM.callE (oc_call (enters_fn Tryd.func81 (by kernel_rfl) rfl) rfl) (fun w hm hc hg => digits_spec 9 _ w (by omega) (by omega) (by omega) (by omega)) ?_
    refine LM.val (ov_assign rfl) ?_
    refine LM.val (ov_assign rfl) ?_
    refine LM.nil ?_
    refine QM.sub (e' := [(2, _), (3, _)]) ⟨rfl, rfl, trivial⟩ ?_
    refine QM.then ?_
    refine wpM.ret ?_
    refine QM.then_ret ?_
    refine QM.leave (.inl rfl) [.tmp 2, .tmp 3] Tryd.results42 rfl ?_
    intro w' hm' hc' hg'
    refine ⟨?_, hc'⟩; have hn : isNum x = true := (by rw [isNum_2 h1, ← hqa, h4]; rfl); rw [textO_2 h1, hn]; rfl
 ·
  refine wpM.skip ?_
  refine QM.then ?_
  refine wpM.seq ?_
  refine wpM.seq ?_
  refine wpM.joinK (α := Bool) (fun qb => [(45, .bool qb)]) [(1, _), (4, _)] (fun qb => (b1, .cells (fW x).toArray 72 (0, 0)) :: []) (fun qb => qb = (decide (x.n ≠ 0) || decide (x.t = []) || (decide (x.k ≠ 1) && decide (x.k ≠ 3)))) ⟨rfl, rfl, trivial⟩ ?_ ?_
  ·
   refine wpM.region ?_
   refine LM.val (ov_field Tryd.underlying72 rfl Tryd.sizeOf3 rfl (k := 2) rfl rfl) ?_
   first | refine LM.rd (om_ld Tryd.isAgg3 rfl rfl) ?_
   refine LM.val (ov_neq rfl rfl) ?_
   refine LM.val (ov_move rfl) ?_
   first | refine LM.splitD (t := 32) rfl (fun h5 => ?_) (fun h5 => ?_) | refine LM.splitB (t := 32) rfl (fun h5 => ?_) (fun h5 => ?_)
   ·
    refine LM.drop (t := 32) rfl rfl rfl ?_
    refine LM.drop (t := 32) rfl rfl rfl ?_
    refine LM.val (ov_pickT rfl rfl) ?_
    refine LM.val (ov_move rfl) ?_
    refine LM.drop (t := 36) rfl rfl rfl ?_
    refine LM.drop (t := 36) rfl rfl rfl ?_
    refine LM.drop (t := 36) rfl rfl rfl ?_
    refine LM.dropU (t := 36) rfl rfl rfl ?_
    refine LM.dropX (t := 40) rfl rfl ?_
    refine LM.dropX (t := 40) rfl rfl ?_
    refine LM.dropX (t := 40) rfl rfl ?_
    refine LM.drop (t := 36) rfl rfl rfl ?_
    refine LM.val (ov_pickT rfl rfl) ?_
    refine LM.nil ?_
    refine QM.sub (e' := [(1, _), (4, _), (45, _)]) ⟨rfl, rfl, rfl, trivial⟩ ?_
    refine QM.meetK (_) ⟨(by first | rfl | exact lk rfl (by congr 1; omega) | exact lk rfl (by simp)), rfl, rfl, trivial⟩ (by (repeat' (first | exact SubM.nil _ | refine SubM.cons rfl ?_ | refine SubM.app ?_))) ?_
    · first | (simp only [h1, h5, decide_true, decide_false, Bool.true_and, Bool.false_and, Bool.and_true, Bool.and_false, Bool.not_true, Bool.not_false, Bool.true_or, Bool.false_or, Bool.or_true, Bool.or_false, ne_eq, not_true_eq_false, not_false_eq_true, Bool.and_self]; done) | (simp only [h1, h5, decide_true, decide_false, Bool.true_and, Bool.false_and, Bool.and_true, Bool.and_false, Bool.not_true, Bool.not_false, Bool.true_or, Bool.false_or, Bool.or_true, Bool.or_false, ne_eq, not_true_eq_false, not_false_eq_true, Bool.and_self]; rfl)
   ·
    refine LM.strip (t := 32) rfl rfl rfl ?_
    refine LM.val (ov_move rfl) ?_
    refine LM.strip (t := 32) rfl rfl rfl ?_
    refine LM.val (ov_seqlL rfl rfl) ?_
    refine LM.val (ov_pickF rfl rfl) ?_
    refine LM.val (ov_move rfl) ?_
    first | refine LM.splitD (t := 36) rfl (fun h6 => ?_) (fun h6 => ?_) | refine LM.splitB (t := 36) rfl (fun h6 => ?_) (fun h6 => ?_)
    ·
     refine LM.drop (t := 36) rfl rfl rfl ?_
     refine LM.drop (t := 36) rfl rfl rfl ?_
     refine LM.drop (t := 36) rfl rfl rfl ?_
     refine LM.dropU (t := 36) rfl rfl rfl ?_
     refine LM.dropX (t := 40) rfl rfl ?_
     refine LM.dropX (t := 40) rfl rfl ?_
     refine LM.dropX (t := 40) rfl rfl ?_
     refine LM.drop (t := 36) rfl rfl rfl ?_
     refine LM.val (ov_pickT rfl rfl) ?_
     refine LM.nil ?_
     refine QM.sub (e' := [(1, _), (4, _), (45, _)]) ⟨rfl, rfl, rfl, trivial⟩ ?_
     refine QM.meetK (_) ⟨(by first | rfl | exact lk rfl (by congr 1; omega) | exact lk rfl (by simp)), rfl, rfl, trivial⟩ (by (repeat' (first | exact SubM.nil _ | refine SubM.cons rfl ?_ | refine SubM.app ?_))) ?_
     · first | (simp only [h1, h5, h6, decide_true, decide_false, Bool.true_and, Bool.false_and, Bool.and_true, Bool.and_false, Bool.not_true, Bool.not_false, Bool.true_or, Bool.false_or, Bool.or_true, Bool.or_false, ne_eq, not_true_eq_false, not_false_eq_true, Bool.and_self]; done) | (simp only [h1, h5, h6, decide_true, decide_false, Bool.true_and, Bool.false_and, Bool.and_true, Bool.and_false, Bool.not_true, Bool.not_false, Bool.true_or, Bool.false_or, Bool.or_true, Bool.or_false, ne_eq, not_true_eq_false, not_false_eq_true, Bool.and_self]; rfl)
    ·
     refine LM.strip (t := 36) rfl rfl rfl ?_
     refine LM.val (ov_field Tryd.underlying72 rfl Tryd.sizeOf3 rfl (k := 0) rfl rfl) ?_
     refine LM.strip (t := 36) rfl rfl rfl ?_
     first | refine LM.rd (om_ld Tryd.isAgg3 rfl rfl) ?_
     refine LM.strip (t := 36) rfl rfl rfl ?_
     refine LM.val (ov_neq rfl rfl) ?_
     refine LM.strip (t := 36) rfl rfl rfl ?_
     refine LM.val (ov_move rfl) ?_
     first | refine LM.splitD (t := 40) rfl (fun h7 => ?_) (fun h7 => ?_) | refine LM.splitB (t := 40) rfl (fun h7 => ?_) (fun h7 => ?_)
     ·
      refine LM.strip (t := 40) rfl rfl rfl ?_
      refine LM.val (ov_field Tryd.underlying72 rfl Tryd.sizeOf3 rfl (k := 0) rfl rfl) ?_
      refine LM.strip (t := 40) rfl rfl rfl ?_
      first | refine LM.rd (om_ld Tryd.isAgg3 rfl rfl) ?_
      refine LM.strip (t := 40) rfl rfl rfl ?_
      refine LM.val (ov_neq rfl rfl) ?_
      refine LM.strip (t := 36) rfl rfl rfl ?_
      refine LM.val (ov_pickT rfl rfl) ?_
      refine LM.val (ov_pickF rfl rfl) ?_
      refine LM.nil ?_
      refine QM.sub (e' := [(1, _), (4, _), (45, _)]) ⟨rfl, rfl, rfl, trivial⟩ ?_
      refine QM.meetK (_) ⟨(by first | rfl | exact lk rfl (by congr 1; omega) | exact lk rfl (by simp)), rfl, rfl, trivial⟩ (by (repeat' (first | exact SubM.nil _ | refine SubM.cons rfl ?_ | refine SubM.app ?_))) ?_
      · first | (simp only [h1, h5, h6, h7, decide_true, decide_false, Bool.true_and, Bool.false_and, Bool.and_true, Bool.and_false, Bool.not_true, Bool.not_false, Bool.true_or, Bool.false_or, Bool.or_true, Bool.or_false, ne_eq, not_true_eq_false, not_false_eq_true, Bool.and_self]; done) | (simp only [h1, h5, h6, h7, decide_true, decide_false, Bool.true_and, Bool.false_and, Bool.and_true, Bool.and_false, Bool.not_true, Bool.not_false, Bool.true_or, Bool.false_or, Bool.or_true, Bool.or_false, ne_eq, not_true_eq_false, not_false_eq_true, Bool.and_self]; rfl)
     ·
      refine LM.drop (t := 40) rfl rfl rfl ?_
      refine LM.drop (t := 40) rfl rfl rfl ?_
      refine LM.drop (t := 40) rfl rfl rfl ?_
      refine LM.strip (t := 36) rfl rfl rfl ?_
      refine LM.val (ov_pickF rfl rfl) ?_
      refine LM.val (ov_pickF rfl rfl) ?_
      refine LM.nil ?_
      refine QM.sub (e' := [(1, _), (4, _), (45, _)]) ⟨rfl, rfl, rfl, trivial⟩ ?_
      refine QM.meetK (_) ⟨(by first | rfl | exact lk rfl (by congr 1; omega) | exact lk rfl (by simp)), rfl, rfl, trivial⟩ (by (repeat' (first | exact SubM.nil _ | refine SubM.cons rfl ?_ | refine SubM.app ?_))) ?_
      · first | (simp only [h1, h5, h6, h7, decide_true, decide_false, Bool.true_and, Bool.false_and, Bool.and_true, Bool.and_false, Bool.not_true, Bool.not_false, Bool.true_or, Bool.false_or, Bool.or_true, Bool.or_false, ne_eq, not_true_eq_false, not_false_eq_true, Bool.and_self]; done) | (simp only [h1, h5, h6, h7, decide_true, decide_false, Bool.true_and, Bool.false_and, Bool.and_true, Bool.and_false, Bool.not_true, Bool.not_false, Bool.true_or, Bool.false_or, Bool.or_true, Bool.or_false, ne_eq, not_true_eq_false, not_false_eq_true, Bool.and_self]; rfl)
  ·
   rintro qb hqb
   change QM _ _ _ _ _ ((b1, .cells (fW x).toArray 72 (0, 0)) :: []) _ _ _
   refine QM.then ?_
   first | refine wpM.condD rfl (fun h8 => ?_) (fun h8 => ?_) | refine wpM.condB rfl (fun h8 => ?_) (fun h8 => ?_)
   ·
    refine wpM.seq ?_
    refine wpM.region ?_
    refine LM.val (ov_assign rfl) ?_
    refine LM.val (ov_assign rfl) ?_
    refine LM.nil ?_
    refine QM.sub (e' := [(2, _), (3, _)]) ⟨rfl, rfl, trivial⟩ ?_
    refine QM.then ?_
    refine wpM.ret ?_
    refine QM.then_ret ?_
    refine QM.leave (.inl rfl) [.tmp 2, .tmp 3] Tryd.results42 rfl ?_
    intro w' hm' hc' hg'
    refine ⟨?_, hc'⟩; rw [textO_bad h1 (by have h := hqb.symm.trans h8; simp only [Bool.or_eq_true, Bool.and_eq_true, decide_eq_true_eq] at h; rcases h with (h | h) | h; exact .inl h; exact .inr (.inl h); exact .inr (.inr h))]; rfl
   ·
    have hr2 : x.n = 0 ∧ x.t ≠ [] := (by have h := hqb.symm.trans h8; simp only [Bool.or_eq_false_iff, decide_eq_false_iff_not, Classical.not_not] at h; exact ⟨h.1.1, h.1.2⟩); have hpos : 0 < x.t.length := List.length_pos_iff.2 hr2.2
    refine wpM.skip ?_
    refine QM.then ?_
    refine wpM.seq ?_
    refine wpM.region ?_
    refine LM.val (ov_move rfl) ?_
    refine LM.callE (oc_call (enters_fn Tryd.func54 (by kernel_rfl) rfl) rfl) (fun w hm hc hg => one_spec9 0 w hpos hx) ?_
    refine LM.val (ov_move rfl) ?_
    refine LM.val (ov_extract rfl rfl) ?_
    refine LM.val (ov_extract rfl rfl) ?_
    refine LM.val (ov_extract rfl rfl) ?_
    refine LM.alloc Tryd.zeroValue72 rfl (fun b5 hb5 => ?_)
    first | refine LM.stW Tryd.sizeOf72 rfl rfl rfl rfl (by first | rfl | decide | (simp; done)) (fun hlt => absurd hlt (by omega)) ?_ | refine LM.st Tryd.sizeOf72 rfl rfl rfl (by first | decide | exact Nat.le_of_ble_eq_true rfl | (simp; done) | (simp; omega)) rfl (fun hlt => absurd hlt (by omega)) ?_
    refine LM.val (ov_assign rfl) ?_
    refine LM.val (ov_assign rfl) ?_
    refine LM.nil ?_
    refine QM.sub (e' := [(1, _), (4, _), (5, _), (6, _), (7, _)]) ⟨rfl, rfl, rfl, rfl, rfl, trivial⟩ ?_
    refine QM.then ?_
    refine wpM.seq ?_
    refine wpM.seq ?_
    refine wpM.joinK (α := Bool) (fun qc => [(66, .bool qc)]) [(4, _)] (fun qc => (b5, .cells (fW (oneO x.t 0).1).toArray 72 (0, 0)) :: (b1, .cells (fW x).toArray 72 (0, 0)) :: []) (fun qc => qc = !oneT x) ⟨rfl, trivial⟩ ?_ ?_
    ·
     refine wpM.region ?_
     refine LM.val (ov_move rfl) ?_
     first | refine LM.val (ov_notD rfl) ?_ | refine LM.val (ov_not rfl) ?_
     refine LM.val (ov_move rfl) ?_
     first | refine LM.splitD (t := 54) rfl (fun h9 => ?_) (fun h9 => ?_) | refine LM.splitB (t := 54) rfl (fun h9 => ?_) (fun h9 => ?_)
     ·
      refine LM.drop (t := 54) rfl rfl rfl ?_
      refine LM.drop (t := 54) rfl rfl rfl ?_
      refine LM.drop (t := 54) rfl rfl rfl ?_
      refine LM.drop (t := 54) rfl rfl rfl ?_
      refine LM.val (ov_pickT rfl rfl) ?_
      refine LM.val (ov_move rfl) ?_
      refine LM.drop (t := 60) rfl rfl rfl ?_
      refine LM.drop (t := 60) rfl rfl rfl ?_
      refine LM.drop (t := 60) rfl rfl rfl ?_
      refine LM.drop (t := 60) rfl rfl rfl ?_
      refine LM.drop (t := 60) rfl rfl rfl ?_
      refine LM.val (ov_pickT rfl rfl) ?_
      refine LM.nil ?_
      refine QM.sub (e' := [(4, _), (66, _)]) ⟨rfl, rfl, trivial⟩ ?_
      refine QM.meetK (_) ⟨(by first | rfl | exact lk rfl (by congr 1; omega) | exact lk rfl (by simp)), rfl, trivial⟩ (by (repeat' (first | exact SubM.nil _ | refine SubM.cons rfl ?_ | refine SubM.app ?_))) ?_
      · unfold oneT; rw [show (oneO x.t 0).2.2 = false by simpa using h9]; rfl
     ·
      refine LM.strip (t := 54) rfl rfl rfl ?_
      refine LM.val (ov_move rfl) ?_
      refine LM.strip (t := 54) rfl rfl rfl ?_
      refine LM.val (ov_move rfl) ?_
      refine LM.strip (t := 54) rfl rfl rfl ?_
      refine LM.val (ov_slenL Tryd.underlying9 rfl) ?_
      refine LM.strip (t := 54) rfl rfl rfl ?_
      refine LM.val (ov_neq rfl rfl) ?_
      refine LM.val (ov_pickF rfl rfl) ?_
      refine LM.val (ov_move rfl) ?_
      first | refine LM.splitD (t := 60) rfl (fun h10 => ?_) (fun h10 => ?_) | refine LM.splitB (t := 60) rfl (fun h10 => ?_) (fun h10 => ?_)
      ·
       refine LM.drop (t := 60) rfl rfl rfl ?_
       refine LM.drop (t := 60) rfl rfl rfl ?_
       refine LM.drop (t := 60) rfl rfl rfl ?_
       refine LM.drop (t := 60) rfl rfl rfl ?_
       refine LM.drop (t := 60) rfl rfl rfl ?_
       refine LM.val (ov_pickT rfl rfl) ?_
       refine LM.nil ?_
       refine QM.sub (e' := [(4, _), (66, _)]) ⟨rfl, rfl, trivial⟩ ?_
       refine QM.meetK (_) ⟨(by first | rfl | exact lk rfl (by congr 1; omega) | exact lk rfl (by simp)), rfl, trivial⟩ (by (repeat' (first | exact SubM.nil _ | refine SubM.cons rfl ?_ | refine SubM.app ?_))) ?_
       · unfold oneT; rw [show (oneO x.t 0).2.2 = true by simpa using h9, decide_eq_false (show ¬ (oneO x.t 0).2.1 = x.t.length by omega)]; rfl
      ·
       refine LM.strip (t := 60) rfl rfl rfl ?_
       refine LM.val (ov_field Tryd.underlying72 rfl Tryd.sizeOf3 rfl (k := 0) rfl rfl) ?_
       refine LM.strip (t := 60) rfl rfl rfl ?_
       first | refine LM.rd (om_ld Tryd.isAgg3 rfl rfl) ?_
       refine LM.strip (t := 60) rfl rfl rfl ?_
       refine LM.val (ov_field Tryd.underlying72 rfl Tryd.sizeOf3 rfl (k := 0) rfl rfl) ?_
       refine LM.strip (t := 60) rfl rfl rfl ?_
       first | refine LM.rd (om_ld Tryd.isAgg3 rfl rfl) ?_
       refine LM.strip (t := 60) rfl rfl rfl ?_
       refine LM.val (ov_neq rfl rfl) ?_
       refine LM.val (ov_pickF rfl rfl) ?_
       refine LM.nil ?_
       refine QM.sub (e' := [(4, _), (66, _)]) ⟨rfl, rfl, trivial⟩ ?_
       refine QM.meetK (_) ⟨(by first | rfl | exact lk rfl (by congr 1; omega) | exact lk rfl (by simp)), rfl, trivial⟩ (by (repeat' (first | exact SubM.nil _ | refine SubM.cons rfl ?_ | refine SubM.app ?_))) ?_
       · unfold oneT; rw [show (oneO x.t 0).2.2 = true by simpa using h9, decide_eq_true (show (oneO x.t 0).2.1 = x.t.length by omega)]; simp
    ·
     rintro qc hqc
     change QM _ _ _ _ _ ((b5, .cells (fW (oneO x.t 0).1).toArray 72 (0, 0)) :: (b1, .cells (fW x).toArray 72 (0, 0)) :: []) _ _ _
     refine QM.then ?_
     first | refine wpM.condD rfl (fun h11 => ?_) (fun h11 => ?_) | refine wpM.condB rfl (fun h11 => ?_) (fun h11 => ?_)
     ·
      refine wpM.seq ?_
      refine wpM.region ?_
      refine LM.val (ov_assign rfl) ?_
      refine LM.val (ov_assign rfl) ?_
      refine LM.nil ?_
      refine QM.sub (e' := [(2, _), (3, _)]) ⟨rfl, rfl, trivial⟩ ?_
      refine QM.then ?_
      refine wpM.ret ?_
      refine QM.then_ret ?_
      refine QM.leave (.inl rfl) [.tmp 2, .tmp 3] Tryd.results42 rfl ?_
      intro w' hm' hc' hg'
      refine ⟨?_, hc'⟩; have ho : oneT x = false := (by have h := hqc.symm.trans h11; simpa using h); rw [textO_one h1 hr2.1 hr2.2, ho]; rfl
     ·
      refine wpM.skip ?_
      refine QM.then ?_
      refine wpM.seq ?_
      refine wpM.region ?_
      refine LM.val (ov_move rfl) ?_
      refine LM.val (ov_assign rfl) ?_
      refine LM.val (ov_assign rfl) ?_
      refine LM.nil ?_
      refine QM.sub (e' := [(2, _), (3, _)]) ⟨rfl, rfl, trivial⟩ ?_
      refine QM.then ?_
      refine wpM.ret ?_
      refine QM.leave (.inl rfl) [.tmp 2, .tmp 3] Tryd.results42 rfl ?_
      intro w' hm' hc' hg'
      refine ⟨?_, hc'⟩; have ho : oneT x = true := (by have h := hqc.symm.trans h11; simpa using h); rw [textO_one h1 hr2.1 hr2.2, ho]; rfl

end Go.Eng

