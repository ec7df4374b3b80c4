/- The walks of the document's text of words. No condition. -/
import Derived.Test.YtbndlommbpkijaaGreatDoorM2
import Derived.Test.YtbndlommbpkijaaGreatDoorM3
import Derived.Test.YtbndlommbpkijaaGreatDoorM4
set_option linter.unusedVariables false
set_option linter.unusedSimpArgs false
namespace Go.Eng
open Go Go.Proofs Go.RowKit
theorem tw_eq {p : UInt8 → Bool} : ∀ {l : List UInt8}, l.all p = true → (l.takeWhile p).length = l.length
  | [], _ => rfl
  | c :: l, h => by
    rw [List.all_cons, Bool.and_eq_true] at h
    rw [List.takeWhile_cons, if_pos h.1, List.length_cons, List.length_cons, tw_eq h.2]
theorem tw_all {p : UInt8 → Bool} {l : List UInt8} : ((l.takeWhile p).length = l.length) ↔ l.all p = true := by
  constructor
  · intro h
    have h2 : l.takeWhile p = l := (List.takeWhile_sublist (l := l) p).eq_of_length h
    rw [← h2]; exact all_tw p l
  · intro h
    exact tw_eq h
theorem run_all {p : UInt8 → Bool} {l : List UInt8} : (runL p l 0 = l.length) ↔ l.all p = true := by
  unfold runL; rw [List.drop_zero]; exact tw_all
theorem let_mark (c : UInt8) (h : letB c = true) : markB c = false := by
  unfold letB letN at h; unfold markB markN; simp only [Bool.and_eq_true, decide_eq_true_eq] at h
  simp only [Bool.or_eq_false_iff, decide_eq_false_iff_not]; omega
theorem dig_let (c : UInt8) (h : digB c = true) : letB c = false := by
  unfold digB digN at h; unfold letB letN; simp only [Bool.and_eq_true, decide_eq_true_eq] at h
  simp only [Bool.and_eq_false_iff, decide_eq_false_iff_not]; omega
theorem dig_mark (c : UInt8) (h : digB c = true) : markB c = false := by
  unfold digB digN at h; unfold markB markN; simp only [Bool.and_eq_true, decide_eq_true_eq] at h
  simp only [Bool.or_eq_false_iff, decide_eq_false_iff_not]; omega
def oneT (x : Wrd) : Bool := (oneO x.t 0).2.2 && decide ((oneO x.t 0).2.1 = x.t.length) && decide ((oneO x.t 0).1.k = x.k)
theorem one_text {x : Wrd} (ht : x.t ≠ []) (hk : x.k ≠ 2) : oneT x = (isName x || isMark x) := by
  obtain ⟨k, t, n, p⟩ := x
  match t, ht with
  | c :: l, _ =>
    simp only at hk
    unfold oneT isName isMark oneO
    simp only [List.getD_cons_zero]
    by_cases h1 : letB c = true
    · rw [if_pos h1]
      simp only [Nat.zero_add]
      have e : (decide (runL letB (c :: l) 0 = (c :: l).length) : Bool) = (c :: l).all letB := by rw [Bool.eq_iff_iff, decide_eq_true_eq]; exact run_all
      have e2 : (c :: l).all markB = false := by rw [List.all_cons, let_mark c h1, Bool.false_and]
      rw [e, e2, Bool.and_false, Bool.or_false]
      by_cases h2 : (c :: l).all letB = true
      · have e3 := run_all.2 h2
        rw [h2, e3]; simp [Bool.and_comm, eq_comm]
      · rw [Bool.not_eq_true] at h2; rw [h2]; simp
    · rw [if_neg h1]
      have h1 : letB c = false := by simpa using h1
      have e1 : (c :: l).all letB = false := by rw [List.all_cons, h1, Bool.false_and]
      rw [e1, Bool.and_false, Bool.false_or]
      by_cases h2 : digB c = true
      · rw [if_pos h2]
        have e2 : (c :: l).all markB = false := by rw [List.all_cons, dig_mark c h2, Bool.false_and]
        simp only
        rw [e2, Bool.and_false, decide_eq_false (show ¬ (2 : Int) = k from fun q => hk q.symm), Bool.and_false]
      · rw [if_neg h2]
        simp only [Nat.zero_add]
        by_cases h3 : (c :: l).length = 1
        · have h4 : l = [] := by simpa using h3
          subst h4
          simp [Bool.and_comm, eq_comm]
        · rw [decide_eq_false h3, decide_eq_false (fun q => h3 q.symm)]; simp
theorem textO_2 {x : Wrd} (h : x.k = 2) : textO x = if isNum x then (digF 10 x.n.toNat, 0) else ([], 1) := by
  unfold textO
  split
  · rfl
  split
  · rfl
  rw [if_neg (by unfold isName; rw [h]; simp), if_neg (by unfold isMark; rw [h]; simp)]
theorem isNum_2 {x : Wrd} (h : x.k = 2) : isNum x = !(decide (x.t ≠ []) || decide (x.n < 0) || decide (999999999 < x.n)) := by
  unfold isNum
  rw [decide_eq_true h, Bool.true_and, Bool.not_or, Bool.not_or, ← decide_not, ← decide_not, ← decide_not]
  congr 1
  · congr 1
    · simp
    · exact decide_eq_decide.2 (by omega)
  · exact decide_eq_decide.2 (by omega)
theorem textO_bad {x : Wrd} (h : x.k ≠ 2) (hb : x.n ≠ 0 ∨ x.t = [] ∨ (x.k ≠ 1 ∧ x.k ≠ 3)) : textO x = ([], 1) := by
  unfold textO
  rw [if_neg (by unfold isNum; rw [decide_eq_false h]; simp)]
  split
  · rfl
  rename_i q
  unfold isBad at q
  simp only [Bool.or_eq_true, decide_eq_true_eq, not_or] at q
  rw [if_neg (by unfold isName; rw [decide_eq_false (show ¬ x.k = 1 by rcases hb with h | h | h; exact absurd h q.1; exact absurd h q.2; exact h.1)]; simp), if_neg (by unfold isMark; rw [decide_eq_false (show ¬ x.k = 3 by rcases hb with h | h | h; exact absurd h q.1; exact absurd h q.2; exact h.2)]; simp)]
theorem textO_one {x : Wrd} (h : x.k ≠ 2) (h1 : x.n = 0) (h2 : x.t ≠ []) : textO x = if oneT x then (x.t, 0) else ([], 1) := by
  rw [one_text h2 h]
  unfold textO
  rw [if_neg (by unfold isNum; rw [decide_eq_false h]; simp), if_neg (by unfold isBad; rw [decide_eq_false (fun q => q h1), decide_eq_false h2]; simp)]
  cases isName x <;> cases isMark x <;> rfl
set_option maxRecDepth 100000 in
theorem digits_step {f : Nat} {n : Int} (hf : f ≤ 100) (h0 : 0 ≤ n) (hx : n ≤ 999999999) (ih : 10 ≤ n → ∀ w, Ret Tryz.prog 138 #[.int .i64 (n / 10)] w (fun v w' => v = vS (digF f (n.toNat / 10)) ∧ Ext w w')) (w : World) : Ret Tryz.prog 138 #[.int .i64 n] w (fun v w' => v = vS (digF (f + 1) n.toNat) ∧ Ext w w') := by
 refine Ret.enterM (l := [.int .i64 n]) Tryz.func138 rfl Tryz.ntmps138 rfl ([]) (no) (Mem.nil w) ?_
 refine wpM.seq (wpM.region ?_)
 refine LM.as rfl ?_
 refine LM.nil (QM.sub (e' := [(0, _)]) ⟨rfl, trivial⟩ (QM.then ?_))
 refine wpM.seq ?_
 refine wpM.seq (wpM.region ?_)
 refine LM.mv rfl ?_
 refine LM.val (ov_lss rfl rfl) ?_
 refine LM.nil (QM.sub (e' := [(0, _), (4, _)]) au9 (QM.then ?_))
 refine wpM.condD rfl (fun h1 => ?_) (fun h1 => ?_)
 ·
  refine wpM.seq (wpM.region ?_)
  refine LM.mv rfl ?_
  refine LM.val (ov_add64 rfl rfl (by omega)) ?_
  refine LM.val (ov_toU8 Tryz.underlying3 Tryz.underlying5 rfl (by omega)) ?_
  refine LM.single Tryz.underlying145 Tryz.sizeOf5 Tryz.zeroValue5 rfl rfl rfl rfl rfl (fun b8 hb8 => ?_)
  refine LM.rd (om_str1 (c := 0) Tryz.underlying145 Tryz.underlying5 Tryz.underlying9 rfl rfl (by omega)) ?_
  refine LM.as rfl ?_
  refine LM.nil (QM.sub (e' := [(2, _)]) ⟨rfl, trivial⟩ (QM.then ?_))
  refine wpM.ret ?_
  refine QM.then_ret ?_
  refine QM.leave (.inl rfl) [.tmp 2] Tryz.results138 rfl ?_
  intro w' hm' hc' hg'
  refine ⟨?_, hc'⟩; show vS _ = _; congr 1; unfold digF; rw [if_pos (by omega), show (48 + n).toNat = 48 + n.toNat by omega]
 have hdl := digF_len f (n.toNat / 10)
 refine wpM.skip ?_
 refine QM.then ?_
 refine wpM.seq ?_
 refine wpM.keep ([]) (fun _ => True) (.one 0 0 (.one 1 0 (.one 3 0 (.one 4 0 (.one 5 0 (.one 6 0 (.fork 2 (.one 7 2 (.one 8 2 (.one 9 0 (.one 10 0 .nil)))) 7 (.fork 2 (.one 8 2 (.one 9 0 (.one 10 0 .nil))) 8 (.one 2 2 (.one 9 0 (.one 10 0 .nil))))))))))) (by kernel_rfl) (by kernel_rfl) au1 (fun _ _ => trivial) ?_
 refine KD.val rfl rfl (ov_move rfl) ?_
 refine KD.val rfl rfl (ov_quo64 rfl rfl (by omega) (by omega) (by omega)) ?_
 refine KD.val rfl rfl (ov_move rfl) ?_
 refine KD.val rfl rfl (ov_rem64 rfl rfl (by omega) (by omega)) ?_
 refine KD.val rfl rfl (ov_add64 rfl rfl (by omega)) ?_
 refine KD.val rfl rfl (ov_toU8 Tryz.underlying3 Tryz.underlying5 rfl (by omega)) ?_
 refine KD.fork rfl rfl ?_ ?_
 ·
  refine LM.callE (oc_call (enters_fn Tryz.func138 (by kernel_rfl) rfl) rfl) (fun w hm hc hg => ih (by omega) w) ?_
  refine LM.nil ?_
  refine QM.one au1 (fun _ _ => trivial) ?_
  refine KD.one rfl ?_
  refine LM.single Tryz.underlying145 Tryz.sizeOf5 Tryz.zeroValue5 rfl rfl rfl rfl rfl (fun b17 hb17 => ?_)
  refine LM.nil ?_
  refine QM.one au1 (fun _ _ => trivial) ?_
  refine KD.one rfl ?_
  refine LM.rd (om_str1 (c := 0) Tryz.underlying145 Tryz.underlying5 Tryz.underlying9 rfl rfl (by omega)) ?_
  refine LM.nil ?_
  refine QM.one au1 (fun _ _ => trivial) ?_
  refine KD.val rfl rfl (ov_saddL rfl rfl (by first | omega | (simp only [List.length_append, List.length_cons, List.length_nil]; omega))) ?_
  refine KD.val rfl rfl (ov_assign rfl) ?_
  refine KD.nil ?_
  refine QM.sub (e' := [(2, _)]) ⟨rfl, trivial⟩ (QM.then ?_)
  refine wpM.ret ?_
  refine QM.leave (.inl rfl) [.tmp 2] Tryz.results138 rfl ?_
  intro w' hm' hc' hg'
  refine ⟨?_, hc'⟩; show vS _ = _; congr 1; conv => rhs; unfold digF; rw [if_neg (by omega), show 48 + n.toNat % 10 = (48 + n % 10).toNat by omega]
 refine LM.single Tryz.underlying145 Tryz.sizeOf5 Tryz.zeroValue5 rfl rfl rfl rfl rfl (fun b17 hb17 => ?_)
 refine LM.nil ?_
 refine QM.one au1 (fun _ _ => trivial) ?_
 refine KD.fork rfl rfl ?_ ?_
 ·
  refine LM.callE (oc_call (enters_fn Tryz.func138 (by kernel_rfl) rfl) rfl) (fun w hm hc hg => ih (by omega) w) ?_
  refine LM.nil ?_
  refine QM.one au1 (fun _ _ => trivial) ?_
  refine KD.one rfl ?_
  refine LM.rd (om_str1 (c := 0) Tryz.underlying145 Tryz.underlying5 Tryz.underlying9 rfl rfl (by omega)) ?_
  refine LM.nil ?_
  refine QM.one au1 (fun _ _ => trivial) ?_
  refine KD.val rfl rfl (ov_saddL rfl rfl (by first | omega | (simp only [List.length_append, List.length_cons, List.length_nil]; omega))) ?_
  refine KD.val rfl rfl (ov_assign rfl) ?_
  refine KD.nil ?_
  refine QM.sub (e' := [(2, _)]) ⟨rfl, trivial⟩ (QM.then ?_)
  refine wpM.ret ?_
  refine QM.leave (.inl rfl) [.tmp 2] Tryz.results138 rfl ?_
  intro w' hm' hc' hg'
  refine ⟨?_, hc'⟩; show vS _ = _; congr 1; conv => rhs; unfold digF; rw [if_neg (by omega), show 48 + n.toNat % 10 = (48 + n % 10).toNat by omega]
 refine LM.rd (om_str1 (c := 0) Tryz.underlying145 Tryz.underlying5 Tryz.underlying9 rfl rfl (by omega)) ?_
 refine LM.nil ?_
 refine QM.one au1 (fun _ _ => trivial) ?_
 refine KD.one rfl ?_
 refine LM.callE (oc_call (enters_fn Tryz.func138 (by kernel_rfl) rfl) rfl) (fun w hm hc hg => ih (by omega) w) ?_
 refine LM.nil ?_
 refine QM.one au1 (fun _ _ => trivial) ?_
 refine KD.val rfl rfl (ov_saddL rfl rfl (by first | omega | (simp only [List.length_append, List.length_cons, List.length_nil]; omega))) ?_
 refine KD.val rfl rfl (ov_assign rfl) ?_
 refine KD.nil ?_
 refine QM.sub (e' := [(2, _)]) ⟨rfl, trivial⟩ (QM.then ?_)
 refine wpM.ret ?_
 refine QM.leave (.inl rfl) [.tmp 2] Tryz.results138 rfl ?_
 intro w' hm' hc' hg'
 refine ⟨?_, hc'⟩; show vS _ = _; congr 1; conv => rhs; unfold digF; rw [if_neg (by omega), show 48 + n.toNat % 10 = (48 + n % 10).toNat by omega]
theorem digits_spec : ∀ (f : Nat) (n : Int) (w : World), f ≤ 9 → 0 ≤ n → n ≤ 999999999 → n < 10 ^ (f + 1) → Ret Tryz.prog 138 #[.int .i64 n] w (fun v w' => v = vS (digF (f + 1) n.toNat) ∧ Ext w w')
  | 0, n, w, h, h0, hx, h1 => digits_step (Nat.zero_le _) h0 hx (fun h2 => absurd h1 (by simp; omega)) w
  | f + 1, n, w, h, h0, hx, h1 => digits_step (by omega) h0 hx (fun h2 w => by
      have h3 := digits_spec f (n / 10) w (by omega) (by omega) (by omega) (by rw [Int.pow_succ] at h1; omega)
      rwa [show (n / 10).toNat = n.toNat / 10 by omega] at h3) w
set_option maxRecDepth 100000 in
set_option maxHeartbeats 1000000 in
theorem rtext_spec (x : Wrd) (w : World) (hx : x.t.length ≤ 9223372036854775807) : Ret Tryz.prog 100 #[.agg (fW x).toArray] w (fun v w' => v = .tuple #[vS (textO x).1, .int .i64 (textO x).2] ∧ Ext w w') := by
 refine Ret.enterM (l := [.agg (fW x).toArray]) Tryz.func100 rfl Tryz.ntmps100 rfl ([]) (no) (Mem.nil w) ?_
 refine wpM.seq (wpM.region ?_)
 refine LM.box rfl rfl (fun b1 hb1 => ?_)
 refine LM.as rfl (LM.as rfl ?_)
 refine LM.nil (QM.sub (e' := [(1, _)]) ⟨rfl, trivial⟩ (QM.then (wpM.seq (wpM.region ?_))))
 refine LM.val (ov_field Tryz.underlying65 rfl Tryz.sizeOf9 rfl (k := 1) rfl rfl) ?_
 refine LM.rd (om_ld Tryz.isAgg9 rfl rfl) ?_
 refine LM.as rfl ?_
 refine LM.nil (QM.sub (e' := [(1, _), (4, _)]) au9 (QM.then ?_))
 refine wpM.seq ?_
 refine wpM.seq (wpM.region ?_)
 refine LM.val (ov_field Tryz.underlying65 rfl Tryz.sizeOf3 rfl (k := 0) rfl rfl) ?_
 refine LM.rd (om_ld Tryz.isAgg3 rfl rfl) ?_
 refine LM.val (ov_eql rfl rfl) ?_
 refine LM.nil (QM.sub (e' := [(1, _), (4, _), (12, _)]) au9 (QM.then ?_))
 refine wpM.condD rfl (fun h1 => ?_) (fun h1 => ?_)
 ·
  refine wpM.seq ?_
  refine wpM.seq ?_
  refine wpM.joinK (α := Bool) (fun qa => [(25, .bool qa)]) [(1, _)] (fun qa => (b1, .cells (fW x).toArray 65 (0, 0)) :: []) (fun qa => qa = (decide (x.t ≠ []) || decide (x.n < 0) || decide (999999999 < x.n))) ⟨rfl, trivial⟩ ?_ ?_
  ·
   refine wpM.region ?_
   refine LM.val (ov_field Tryz.underlying65 rfl Tryz.sizeOf9 rfl (k := 1) rfl rfl) ?_
   refine LM.rd (om_ld Tryz.isAgg9 rfl rfl) ?_
   refine LM.val (ov_sneqL rfl rfl) ?_
   refine LM.mv rfl ?_
   refine LM.splitD (t := 16) rfl (fun h2 => ?_) (fun h2 => ?_)
   ·
    refine LM.dr 16 rfl rfl rfl (LM.dr 16 rfl rfl rfl (LM.dr 16 rfl rfl rfl ?_))
    refine LM.val (ov_pickT rfl rfl) ?_
    refine LM.mv rfl (LM.dr 21 rfl rfl rfl (LM.dr 21 rfl rfl rfl (LM.dr 21 rfl rfl rfl ?_)))
    refine LM.val (ov_pickT rfl rfl) ?_
    refine LM.nil (QM.sub (e' := [(1, _), (25, _)]) au9 ?_)
    refine QM.meetK (_) ⟨au2, rfl, trivial⟩ au1 ?_
    · (simp only [h1, h2, decide_true, decide_false, Bool.true_and, Bool.false_and, Bool.and_true, Bool.and_false, Bool.not_true, Bool.not_false, Bool.true_or, Bool.false_or, Bool.or_true, Bool.or_false, ne_eq, not_true_eq_false, not_false_eq_true, Bool.and_self]; done)
   refine LM.sp 16 rfl rfl rfl (LM.val (ov_field Tryz.underlying65 rfl Tryz.sizeOf3 rfl (k := 2) rfl rfl) (LM.sp 16 rfl rfl rfl ?_))
   refine LM.rd (om_ld Tryz.isAgg3 rfl rfl) ?_
   refine LM.sp 16 rfl rfl rfl ?_
   refine LM.val (ov_lss rfl rfl) ?_
   refine LM.val (ov_pickF rfl rfl) ?_
   refine LM.mv rfl ?_
   refine LM.splitD (t := 21) rfl (fun h3 => ?_) (fun h3 => ?_)
   ·
    refine LM.dr 21 rfl rfl rfl (LM.dr 21 rfl rfl rfl (LM.dr 21 rfl rfl rfl ?_))
    refine LM.val (ov_pickT rfl rfl) ?_
    refine LM.nil (QM.sub (e' := [(1, _), (25, _)]) au9 ?_)
    refine QM.meetK (_) ⟨au2, rfl, trivial⟩ au1 ?_
    · (simp only [h1, h2, h3, decide_true, decide_false, Bool.true_and, Bool.false_and, Bool.and_true, Bool.and_false, Bool.not_true, Bool.not_false, Bool.true_or, Bool.false_or, Bool.or_true, Bool.or_false, ne_eq, not_true_eq_false, not_false_eq_true, Bool.and_self]; done)
   refine LM.sp 21 rfl rfl rfl (LM.val (ov_field Tryz.underlying65 rfl Tryz.sizeOf3 rfl (k := 2) rfl rfl) (LM.sp 21 rfl rfl rfl ?_))
   refine LM.rd (om_ld Tryz.isAgg3 rfl rfl) ?_
   refine LM.sp 21 rfl rfl rfl ?_
   refine LM.val (ov_gtr rfl rfl) ?_
   refine LM.val (ov_pickF rfl rfl) ?_
   refine LM.nil (QM.sub (e' := [(1, _), (25, _)]) au9 ?_)
   refine QM.meetK (_) ⟨au2, rfl, trivial⟩ au1 ?_
   · (simp only [h1, h2, h3, decide_true, decide_false, Bool.true_and, Bool.false_and, Bool.and_true, Bool.and_false, Bool.not_true, Bool.not_false, Bool.true_or, Bool.false_or, Bool.or_true, Bool.or_false, ne_eq, not_true_eq_false, not_false_eq_true, Bool.and_self]; done)
  rintro qa hqa
  change QM _ _ _ _ _ ((b1, .cells (fW x).toArray 65 (0, 0)) :: []) _ _ _
  refine QM.then ?_
  first | refine wpM.condD rfl (fun h4 => ?_) (fun h4 => ?_) | refine wpM.condB rfl (fun h4 => ?_) (fun h4 => ?_)
  ·
   refine wpM.seq (wpM.region ?_)
   refine LM.as rfl (LM.as rfl ?_)
   refine LM.nil (QM.sub (e' := [(2, _), (3, _)]) au9 (QM.then ?_))
   refine wpM.ret ?_
   refine QM.then_ret ?_
   refine QM.then_ret ?_
   refine QM.leave (.inl rfl) [.tmp 2, .tmp 3] Tryz.results100 rfl ?_
   intro w' hm' hc' hg'
   refine ⟨?_, hc'⟩; have hn : isNum x = false := (by rw [isNum_2 h1, ← hqa, h4]; rfl); rw [textO_2 h1, hn]; rfl
  have hr : x.t = [] ∧ 0 ≤ x.n ∧ x.n ≤ 999999999 := (by have h := hqa.symm.trans h4; simp only [Bool.or_eq_false_iff, decide_eq_false_iff_not, Classical.not_not] at h; exact ⟨h.1.1, by omega, by omega⟩)
  refine wpM.skip ?_
  refine QM.then (wpM.seq (wpM.region ?_))
  refine LM.val (ov_field Tryz.underlying65 rfl Tryz.sizeOf3 rfl (k := 2) rfl rfl) ?_
  refine LM.rd (om_ld Tryz.isAgg3 rfl rfl) ?_
  refine LM.callE (oc_call (enters_fn Tryz.func138 (by kernel_rfl) rfl) rfl) (fun w hm hc hg => digits_spec 9 _ w (by omega) (by omega) (by omega) (by omega)) ?_
  refine LM.as rfl (LM.as rfl ?_)
  refine LM.nil (QM.sub (e' := [(2, _), (3, _)]) au9 (QM.then ?_))
  refine wpM.ret ?_
  refine QM.then_ret ?_
  refine QM.leave (.inl rfl) [.tmp 2, .tmp 3] Tryz.results100 rfl ?_
  intro w' hm' hc' hg'
  refine ⟨?_, hc'⟩; have hn : isNum x = true := (by rw [isNum_2 h1, ← hqa, h4]; rfl); rw [textO_2 h1, hn]; rfl
 refine wpM.skip ?_
 refine QM.then ?_
 refine wpM.seq ?_
 refine wpM.seq ?_
 refine wpM.joinK (α := Bool) (fun qb => [(45, .bool qb)]) [(1, _), (4, _)] (fun qb => (b1, .cells (fW x).toArray 65 (0, 0)) :: []) (fun qb => qb = (decide (x.n ≠ 0) || decide (x.t = []) || (decide (x.k ≠ 1) && decide (x.k ≠ 3)))) ⟨rfl, rfl, trivial⟩ ?_ ?_
 ·
  refine wpM.region ?_
  refine LM.val (ov_field Tryz.underlying65 rfl Tryz.sizeOf3 rfl (k := 2) rfl rfl) ?_
  refine LM.rd (om_ld Tryz.isAgg3 rfl rfl) ?_
  refine LM.val (ov_neq rfl rfl) ?_
  refine LM.mv rfl ?_
  refine LM.splitD (t := 32) rfl (fun h5 => ?_) (fun h5 => ?_)
  ·
   refine LM.dr 32 rfl rfl rfl (LM.dr 32 rfl rfl rfl ?_)
   refine LM.val (ov_pickT rfl rfl) ?_
   refine LM.mv rfl (LM.dr 36 rfl rfl rfl (LM.dr 36 rfl rfl rfl (LM.dr 36 rfl rfl rfl ?_)))
   refine LM.dropU (t := 36) rfl rfl rfl ?_
   refine LM.dropX (t := 40) rfl rfl ?_
   refine LM.dropX (t := 40) rfl rfl ?_
   refine LM.dropX (t := 40) rfl rfl ?_
   refine LM.dr 36 rfl rfl rfl ?_
   refine LM.val (ov_pickT rfl rfl) ?_
   refine LM.nil (QM.sub (e' := [(1, _), (4, _), (45, _)]) au9 ?_)
   refine QM.meetK (_) ⟨au2, rfl, rfl, trivial⟩ au1 ?_
   · (simp only [h1, h5, decide_true, decide_false, Bool.true_and, Bool.false_and, Bool.and_true, Bool.and_false, Bool.not_true, Bool.not_false, Bool.true_or, Bool.false_or, Bool.or_true, Bool.or_false, ne_eq, not_true_eq_false, not_false_eq_true, Bool.and_self]; done)
  refine LM.sp 32 rfl rfl rfl (LM.mv rfl (LM.sp 32 rfl rfl rfl ?_))
  refine LM.val (ov_seqlL rfl rfl) ?_
  refine LM.val (ov_pickF rfl rfl) ?_
  refine LM.mv rfl ?_
  refine LM.splitD (t := 36) rfl (fun h6 => ?_) (fun h6 => ?_)
  ·
   refine LM.dr 36 rfl rfl rfl (LM.dr 36 rfl rfl rfl (LM.dr 36 rfl rfl rfl ?_))
   refine LM.dropU (t := 36) rfl rfl rfl ?_
   refine LM.dropX (t := 40) rfl rfl ?_
   refine LM.dropX (t := 40) rfl rfl ?_
   refine LM.dropX (t := 40) rfl rfl ?_
   refine LM.dr 36 rfl rfl rfl ?_
   refine LM.val (ov_pickT rfl rfl) ?_
   refine LM.nil (QM.sub (e' := [(1, _), (4, _), (45, _)]) au9 ?_)
   refine QM.meetK (_) ⟨au2, rfl, rfl, trivial⟩ au1 ?_
   · (simp only [h1, h5, h6, decide_true, decide_false, Bool.true_and, Bool.false_and, Bool.and_true, Bool.and_false, Bool.not_true, Bool.not_false, Bool.true_or, Bool.false_or, Bool.or_true, Bool.or_false, ne_eq, not_true_eq_false, not_false_eq_true, Bool.and_self]; done)
  refine LM.sp 36 rfl rfl rfl (LM.val (ov_field Tryz.underlying65 rfl Tryz.sizeOf3 rfl (k := 0) rfl rfl) (LM.sp 36 rfl rfl rfl ?_))
  refine LM.rd (om_ld Tryz.isAgg3 rfl rfl) ?_
  refine LM.sp 36 rfl rfl rfl ?_
  refine LM.val (ov_neq rfl rfl) ?_
  refine LM.sp 36 rfl rfl rfl (LM.mv rfl ?_)
  refine LM.splitD (t := 40) rfl (fun h7 => ?_) (fun h7 => ?_)
  ·
   refine LM.sp 40 rfl rfl rfl (LM.val (ov_field Tryz.underlying65 rfl Tryz.sizeOf3 rfl (k := 0) rfl rfl) (LM.sp 40 rfl rfl rfl ?_))
   refine LM.rd (om_ld Tryz.isAgg3 rfl rfl) ?_
   refine LM.sp 40 rfl rfl rfl ?_
   refine LM.val (ov_neq rfl rfl) ?_
   refine LM.sp 36 rfl rfl rfl ?_
   refine LM.val (ov_pickT rfl rfl) ?_
   refine LM.val (ov_pickF rfl rfl) ?_
   refine LM.nil (QM.sub (e' := [(1, _), (4, _), (45, _)]) au9 ?_)
   refine QM.meetK (_) ⟨au2, rfl, rfl, trivial⟩ au1 ?_
   · (simp only [h1, h5, h6, h7, decide_true, decide_false, Bool.true_and, Bool.false_and, Bool.and_true, Bool.and_false, Bool.not_true, Bool.not_false, Bool.true_or, Bool.false_or, Bool.or_true, Bool.or_false, ne_eq, not_true_eq_false, not_false_eq_true, Bool.and_self]; done)
  refine LM.dr 40 rfl rfl rfl (LM.dr 40 rfl rfl rfl (LM.dr 40 rfl rfl rfl (LM.sp 36 rfl rfl rfl ?_)))
  refine LM.val (ov_pickF rfl rfl) ?_
  refine LM.val (ov_pickF rfl rfl) ?_
  refine LM.nil (QM.sub (e' := [(1, _), (4, _), (45, _)]) au9 ?_)
  refine QM.meetK (_) ⟨au2, rfl, rfl, trivial⟩ au1 ?_
  · (simp only [h1, h5, h6, h7, decide_true, decide_false, Bool.true_and, Bool.false_and, Bool.and_true, Bool.and_false, Bool.not_true, Bool.not_false, Bool.true_or, Bool.false_or, Bool.or_true, Bool.or_false, ne_eq, not_true_eq_false, not_false_eq_true, Bool.and_self]; done)
 rintro qb hqb
 change QM _ _ _ _ _ ((b1, .cells (fW x).toArray 65 (0, 0)) :: []) _ _ _
 refine QM.then ?_
 first | refine wpM.condD rfl (fun h8 => ?_) (fun h8 => ?_) | refine wpM.condB rfl (fun h8 => ?_) (fun h8 => ?_)
 ·
  refine wpM.seq (wpM.region ?_)
  refine LM.as rfl (LM.as rfl ?_)
  refine LM.nil (QM.sub (e' := [(2, _), (3, _)]) au9 (QM.then ?_))
  refine wpM.ret ?_
  refine QM.then_ret ?_
  refine QM.leave (.inl rfl) [.tmp 2, .tmp 3] Tryz.results100 rfl ?_
  intro w' hm' hc' hg'
  refine ⟨?_, hc'⟩; rw [textO_bad h1 (by have h := hqb.symm.trans h8; simp only [Bool.or_eq_true, Bool.and_eq_true, decide_eq_true_eq] at h; rcases h with (h | h) | h; exact .inl h; exact .inr (.inl h); exact .inr (.inr h))]; rfl
 have hr2 : x.n = 0 ∧ x.t ≠ [] := (by have h := hqb.symm.trans h8; simp only [Bool.or_eq_false_iff, decide_eq_false_iff_not, Classical.not_not] at h; exact ⟨h.1.1, h.1.2⟩); have hpos : 0 < x.t.length := List.length_pos_iff.2 hr2.2
 refine wpM.skip ?_
 refine QM.then (wpM.seq (wpM.region ?_))
 refine LM.mv rfl ?_
 refine LM.callE (oc_call (enters_fn Tryz.func33 (by kernel_rfl) rfl) rfl) (fun w hm hc hg => one_spec9 0 w hpos hx) ?_
 refine LM.mv rfl ?_
 refine LM.val (ov_extract rfl rfl) ?_
 refine LM.val (ov_extract rfl rfl) ?_
 refine LM.val (ov_extract rfl rfl) ?_
 refine LM.alloc Tryz.zeroValue65 rfl (fun b5 hb5 => ?_)
 refine LM.stW Tryz.sizeOf65 rfl rfl rfl rfl au7 au8 ?_
 refine LM.as rfl (LM.as rfl ?_)
 refine LM.nil (QM.sub (e' := [(1, _), (4, _), (5, _), (6, _), (7, _)]) au9 (QM.then ?_))
 refine wpM.seq ?_
 refine wpM.seq ?_
 refine wpM.joinK (α := Bool) (fun qc => [(66, .bool qc)]) [(4, _)] (fun qc => (b5, .cells (fW (oneO x.t 0).1).toArray 65 (0, 0)) :: (b1, .cells (fW x).toArray 65 (0, 0)) :: []) (fun qc => qc = !oneT x) ⟨rfl, trivial⟩ ?_ ?_
 ·
  refine wpM.region ?_
  refine LM.mv rfl ?_
  first | refine LM.val (ov_notD rfl) ?_ | refine LM.val (ov_not rfl) ?_
  refine LM.mv rfl ?_
  first | refine LM.splitD (t := 54) rfl (fun h9 => ?_) (fun h9 => ?_) | refine LM.splitB (t := 54) rfl (fun h9 => ?_) (fun h9 => ?_)
  ·
   refine LM.dr 54 rfl rfl rfl (LM.dr 54 rfl rfl rfl (LM.dr 54 rfl rfl rfl (LM.dr 54 rfl rfl rfl ?_)))
   refine LM.val (ov_pickT rfl rfl) ?_
   refine LM.mv rfl (LM.dr 60 rfl rfl rfl (LM.dr 60 rfl rfl rfl (LM.dr 60 rfl rfl rfl (LM.dr 60 rfl rfl rfl (LM.dr 60 rfl rfl rfl ?_)))))
   refine LM.val (ov_pickT rfl rfl) ?_
   refine LM.nil (QM.sub (e' := [(4, _), (66, _)]) au9 ?_)
   refine QM.meetK (_) ⟨au2, rfl, trivial⟩ au1 ?_
   · unfold oneT; rw [show (oneO x.t 0).2.2 = false by simpa using h9]; rfl
  refine LM.sp 54 rfl rfl rfl (LM.mv rfl (LM.sp 54 rfl rfl rfl (LM.mv rfl (LM.sp 54 rfl rfl rfl ?_))))
  refine LM.val (ov_slenL Tryz.underlying9 rfl) ?_
  refine LM.sp 54 rfl rfl rfl ?_
  refine LM.val (ov_neq rfl rfl) ?_
  refine LM.val (ov_pickF rfl rfl) ?_
  refine LM.mv rfl ?_
  refine LM.splitD (t := 60) rfl (fun h10 => ?_) (fun h10 => ?_)
  ·
   refine LM.dr 60 rfl rfl rfl (LM.dr 60 rfl rfl rfl (LM.dr 60 rfl rfl rfl (LM.dr 60 rfl rfl rfl (LM.dr 60 rfl rfl rfl ?_))))
   refine LM.val (ov_pickT rfl rfl) ?_
   refine LM.nil (QM.sub (e' := [(4, _), (66, _)]) au9 ?_)
   refine QM.meetK (_) ⟨au2, rfl, trivial⟩ au1 ?_
   · unfold oneT; rw [show (oneO x.t 0).2.2 = true by simpa using h9, decide_eq_false (show ¬ (oneO x.t 0).2.1 = x.t.length by omega)]; rfl
  refine LM.sp 60 rfl rfl rfl (LM.val (ov_field Tryz.underlying65 rfl Tryz.sizeOf3 rfl (k := 0) rfl rfl) (LM.sp 60 rfl rfl rfl ?_))
  refine LM.rd (om_ld Tryz.isAgg3 rfl rfl) ?_
  refine LM.sp 60 rfl rfl rfl (LM.val (ov_field Tryz.underlying65 rfl Tryz.sizeOf3 rfl (k := 0) rfl rfl) (LM.sp 60 rfl rfl rfl ?_))
  refine LM.rd (om_ld Tryz.isAgg3 rfl rfl) ?_
  refine LM.sp 60 rfl rfl rfl ?_
  refine LM.val (ov_neq rfl rfl) ?_
  refine LM.val (ov_pickF rfl rfl) ?_
  refine LM.nil (QM.sub (e' := [(4, _), (66, _)]) au9 ?_)
  refine QM.meetK (_) ⟨au2, rfl, trivial⟩ au1 ?_
  · unfold oneT; rw [show (oneO x.t 0).2.2 = true by simpa using h9, decide_eq_true (show (oneO x.t 0).2.1 = x.t.length by omega)]; simp
 rintro qc hqc
 change QM _ _ _ _ _ ((b5, .cells (fW (oneO x.t 0).1).toArray 65 (0, 0)) :: (b1, .cells (fW x).toArray 65 (0, 0)) :: []) _ _ _
 refine QM.then ?_
 first | refine wpM.condD rfl (fun h11 => ?_) (fun h11 => ?_) | refine wpM.condB rfl (fun h11 => ?_) (fun h11 => ?_)
 ·
  refine wpM.seq (wpM.region ?_)
  refine LM.as rfl (LM.as rfl ?_)
  refine LM.nil (QM.sub (e' := [(2, _), (3, _)]) au9 (QM.then ?_))
  refine wpM.ret ?_
  refine QM.then_ret ?_
  refine QM.leave (.inl rfl) [.tmp 2, .tmp 3] Tryz.results100 rfl ?_
  intro w' hm' hc' hg'
  refine ⟨?_, hc'⟩; have ho : oneT x = false := (by have h := hqc.symm.trans h11; simpa using h); rw [textO_one h1 hr2.1 hr2.2, ho]; rfl
 refine wpM.skip ?_
 refine QM.then (wpM.seq (wpM.region ?_))
 refine LM.mv rfl (LM.as rfl (LM.as rfl ?_))
 refine LM.nil (QM.sub (e' := [(2, _), (3, _)]) au9 (QM.then ?_))
 refine wpM.ret ?_
 refine QM.leave (.inl rfl) [.tmp 2, .tmp 3] Tryz.results100 rfl ?_
 intro w' hm' hc' hg'
 refine ⟨?_, hc'⟩; have ho : oneT x = true := (by have h := hqc.symm.trans h11; simpa using h); rw [textO_one h1 hr2.1 hr2.2, ho]; rfl
set_option maxRecDepth 100000 in
set_option maxHeartbeats 1000000 in
theorem rjoin_spec {ws : List Wrd} {ad : Option Addr} {n cap : Nat} (w : World) (hn : n = ws.length) (hx : ws.length ≤ 1000000000) (hl : Sr fW 4 ws (.slice ad n cap) w) (ht : ∀ x ∈ ws, x.t.length ≤ 1000000000) : Ret Tryz.prog 55 #[.slice ad n cap] w (fun v w' => v = .tuple #[vS (joinO ws).1, .int .i64 (joinO ws).2] ∧ Ext w w') := by
 refine Ret.enterM (l := [.slice ad n cap]) Tryz.func55 rfl Tryz.ntmps55 rfl ([]) (no) (Mem.nil w) ?_
 refine wpM.seq (wpM.region ?_)
 refine LM.as rfl (LM.as rfl ?_)
 refine LM.nil (QM.sub (e' := [(0, _)]) ⟨rfl, trivial⟩ (QM.then (wpM.seq (wpM.region ?_))))
 refine LM.as rfl ?_
 refine LM.nil (QM.sub (e' := [(0, _), (4, _)]) au9 (QM.then ?_))
 refine wpM.seq ?_
 refine wpM.seq (wpM.region ?_)
 refine LM.as rfl ?_
 refine LM.nil (QM.sub (e' := [(0, _), (4, _), (5, _)]) au9 (QM.then ?_))
 refine wpM.block ?_
 refine wpM.loopK0 (α := Nat × List UInt8) (fun ⟨i, out⟩ => [(4, vS out), (5, .int .i64 (i : Nat))]) [(0, _)] (fun ⟨i, out⟩ => []) (fun ⟨i, out⟩ => i ≤ ws.length ∧ joinF (ws.drop i) out = joinO ws ∧ out.length ≤ i * 13) (fun ⟨i, out⟩ => ws.length - i) ((0, [])) ⟨(by first | rfl | exact lk rfl (by rw [hg2])), au2, rfl, trivial⟩ au1 ⟨Nat.zero_le _, rfl, Nat.zero_le _⟩ ?_
 rintro ⟨i, out⟩ ⟨hi0, hj, hol⟩
 change wpM _ _ _ _ _ _ _ ([]) _ _ _
 have htl := text_len (ws.getD i default); have hgl := glue_len out (ws.getD i default)
 refine wpM.seq ?_
 refine wpM.seq (wpM.region ?_)
 refine LM.mv rfl (LM.mv rfl ?_)
 refine LM.val (ov_len Tryz.underlying23 rfl) ?_
 refine LM.val (ov_lss rfl rfl) ?_
 refine LM.nil (QM.sub (e' := [(0, _), (4, _), (5, _), (11, _)]) au9 (QM.then ?_))
 refine wpM.condD rfl (fun h1 => ?_) (fun h1 => ?_)
 ·
  refine wpM.skip ?_
  refine QM.then ?_
  refine wpM.seq ?_
  refine wpM.block ?_
  refine wpM.seq (wpM.region ?_)
  refine LM.mv rfl (LM.mv rfl ?_)
  refine LM.val (ov_idxSN au6 Tryz.underlying23 Tryz.sizeOf65 rfl rfl (by omega)) ?_
  first | refine LM.rd (om_slA (by assumption) (by intro _; rfl) Tryz.isAgg65 Tryz.sizeOf65 rfl au3) ?_ | refine LM.rdC (om_srEA (by assumption) (by intro _; rfl) Tryz.isAgg65 Tryz.sizeOf65 rfl au3 id) ?_ | refine LM.rd (om_ldW Tryz.isAgg65 Tryz.sizeOf65 rfl rfl) ?_ | refine LM.rd (om_ldA Tryz.isAgg65 Tryz.sizeOf65 rfl (vs := [_, _, _, _]) rfl ⟨rfl, rfl, rfl, rfl, trivial⟩) ?_
  refine LM.callE (oc_call (enters_fn Tryz.func100 (by kernel_rfl) rfl) rfl) (fun w hm hc hg => rtext_spec _ w (by have := ht _ (List.mem_of_getElem? (getq default (show i < ws.length by omega))); omega)) ?_
  refine LM.mv rfl ?_
  refine LM.val (ov_extract rfl rfl) ?_
  refine LM.val (ov_extract rfl rfl) ?_
  refine LM.as rfl (LM.as rfl ?_)
  refine LM.nil (QM.sub (e' := [(0, _), (4, _), (5, _), (6, _), (7, _)]) au9 (QM.then ?_))
  refine wpM.seq ?_
  refine wpM.seq (wpM.region ?_)
  refine LM.mv rfl ?_
  refine LM.val (ov_neq rfl rfl) ?_
  refine LM.nil (QM.sub (e' := [(0, _), (4, _), (5, _), (6, _), (23, _)]) au9 (QM.then ?_))
  refine wpM.condD rfl (fun h2 => ?_) (fun h2 => ?_)
  ·
   refine wpM.seq (wpM.region ?_)
   refine LM.as rfl (LM.as rfl ?_)
   refine LM.nil (QM.sub (e' := [(2, _), (3, _)]) au9 (QM.then ?_))
   refine wpM.ret ?_
   refine QM.then_ret ?_
   refine QM.block_ret ?_
   refine QM.then_ret ?_
   refine QM.then_ret ?_
   refine QM.block_ret ?_
   refine QM.then_ret ?_
   refine QM.leave (.inl rfl) [.tmp 2, .tmp 3] Tryz.results55 rfl ?_
   intro w' hm' hc' hg'
   have hb := hj; rw [joinF_bad (by omega) h2] at hb; refine ⟨?_, hc'⟩; rw [← hb]; rfl
  refine wpM.skip ?_
  refine QM.then ?_
  refine wpM.seq ?_
  refine wpM.seq ?_
  refine wpM.joinK (α := Bool) (fun q => [(29, .bool q)]) [(0, _), (4, _), (5, _), (6, _)] (fun q => []) (fun q => q = (decide (0 < out.length) && decide ((textO (ws.getD i default)).1 ≠ [59]))) ⟨rfl, rfl, rfl, rfl, trivial⟩ ?_ ?_
  ·
   refine wpM.region ?_
   refine LM.mv rfl ?_
   refine LM.val (ov_sneqL rfl rfl) ?_
   refine LM.mv rfl ?_
   refine LM.splitD (t := 26) rfl (fun h3 => ?_) (fun h3 => ?_)
   ·
    refine LM.sp 26 rfl rfl rfl (LM.mv rfl (LM.sp 26 rfl rfl rfl ?_))
    refine LM.val (ov_sneqL rfl rfl) ?_
    refine LM.val (ov_pickT rfl rfl) ?_
    refine LM.nil (QM.sub (e' := [(0, _), (4, _), (5, _), (6, _), (29, _)]) au9 ?_)
    refine QM.meetK (_) ⟨au2, rfl, rfl, rfl, rfl, trivial⟩ au1 ?_
    · rw [decide_eq_true (List.length_pos_iff.2 h3), Bool.true_and]
   refine LM.dr 26 rfl rfl rfl (LM.dr 26 rfl rfl rfl ?_)
   refine LM.val (ov_pickF rfl rfl) ?_
   refine LM.nil (QM.sub (e' := [(0, _), (4, _), (5, _), (6, _), (29, _)]) au9 ?_)
   refine QM.meetK (_) ⟨au2, rfl, rfl, rfl, rfl, trivial⟩ au1 ?_
   · rw [show out = [] by simpa using h3]; rfl
  rintro q hq
  change QM _ _ _ _ _ ([]) _ _ _
  refine QM.then ?_
  refine wpM.joinK (α := List UInt8) (fun o2 => [(4, vS o2)]) [(0, _), (5, _), (6, _)] (fun o2 => []) (fun o2 => o2 ++ (textO (ws.getD i default)).1 = glue out (textO (ws.getD i default)).1 ∧ o2.length ≤ out.length + 1) ⟨rfl, rfl, rfl, trivial⟩ ?_ ?_
  ·
   first | refine wpM.condD rfl (fun h4 => ?_) (fun h4 => ?_) | refine wpM.condB rfl (fun h4 => ?_) (fun h4 => ?_)
   ·
    refine wpM.region ?_
    refine LM.mv rfl ?_
    refine LM.val (ov_saddL rfl rfl (by first | omega | (simp only [List.length_append, List.length_cons, List.length_nil]; omega))) ?_
    refine LM.as rfl ?_
    refine LM.nil (QM.sub (e' := [(0, _), (4, _), (5, _), (6, _)]) au9 ?_)
    refine QM.meetK (out ++ [32]) ⟨au2, rfl, rfl, rfl, trivial⟩ au1 ?_
    · exact ⟨by unfold glue; rw [if_pos (by rw [← hq]; exact h4)], by simp⟩
   refine wpM.skip ?_
   refine QM.meetK (out) ⟨au2, rfl, rfl, rfl, trivial⟩ au1 ?_
   · exact ⟨by unfold glue; rw [if_neg (by rw [← hq, h4]; simp)], by omega⟩
  rintro o2 ⟨hg2, hl2⟩
  change QM _ _ _ _ _ ([]) _ _ _
  refine QM.then (wpM.region ?_)
  refine LM.mv rfl (LM.mv rfl ?_)
  refine LM.val (ov_saddL rfl rfl (by first | omega | (simp only [List.length_append, List.length_cons, List.length_nil]; omega))) ?_
  refine LM.as rfl ?_
  refine LM.nil (QM.sub (e' := [(0, _), (4, _), (5, _)]) au9 ?_)
  refine QM.block_normal ?_
  refine QM.then (wpM.region ?_)
  refine LM.mv rfl ?_
  refine LM.val (ov_add64 rfl rfl (by omega)) ?_
  refine LM.as rfl ?_
  refine LM.nil (QM.sub (e' := [(0, _), (4, _), (5, _)]) au9 ?_)
  refine QM.againK ((i + 1, glue out (textO (ws.getD i default)).1)) ⟨(by first | rfl | exact lk rfl (by rw [hg2])), au2, rfl, trivial⟩ au1 (fun _ h => h) ?_ ?_
  · exact ⟨by omega, (joinF_next (by omega) (Classical.not_not.1 h2)).symm.trans hj, by omega⟩
  · first | omega | (dsimp only; omega)
 refine wpM.exit ?_
 refine QM.then_exit ?_
 refine QM.then_exit ?_
 refine QM.block_hit ?_
 refine QM.then ?_
 refine wpM.seq ?_
 refine wpM.seq (wpM.region ?_)
 refine LM.mv rfl ?_
 refine LM.val (ov_slenL Tryz.underlying9 rfl) ?_
 refine LM.val (ov_gtr rfl rfl) ?_
 refine LM.nil (QM.sub (e' := [(4, _), (37, _)]) au9 (QM.then ?_))
 refine wpM.condD rfl (fun h5 => ?_) (fun h5 => ?_)
 ·
  refine wpM.seq (wpM.region ?_)
  refine LM.as rfl (LM.as rfl ?_)
  refine LM.nil (QM.sub (e' := [(2, _), (3, _)]) au9 (QM.then ?_))
  refine wpM.ret ?_
  refine QM.then_ret ?_
  refine QM.leave (.inl rfl) [.tmp 2, .tmp 3] Tryz.results55 rfl ?_
  intro w' hm' hc' hg'
  have hb := hj; rw [joinF_end (by omega), if_pos (by omega)] at hb; refine ⟨?_, hc'⟩; rw [← hb]; rfl
 refine wpM.skip ?_
 refine QM.then (wpM.seq (wpM.region ?_))
 refine LM.mv rfl (LM.as rfl (LM.as rfl ?_))
 refine LM.nil (QM.sub (e' := [(2, _), (3, _)]) au9 (QM.then ?_))
 refine wpM.ret ?_
 refine QM.leave (.inl rfl) [.tmp 2, .tmp 3] Tryz.results55 rfl ?_
 intro w' hm' hc' hg'
 have hb := hj; rw [joinF_end (by omega), if_neg (by omega)] at hb; refine ⟨?_, hc'⟩; rw [← hb]; rfl
end Go.Eng
namespace Go.Eng
open Go Go.Proofs Go.RowKit
def eqW (at' : Bool) (x y : Wrd) : Bool := decide (x.k = y.k) && decide (x.t = y.t) && decide (x.n = y.n) && (!at' || decide (x.p = y.p))
def sameW (at' : Bool) : List Wrd → List Wrd → Bool
  | [], [] => true
  | x :: xs, y :: ys => eqW at' x y && sameW at' xs ys
  | _, _ => false
end Go.Eng
namespace Go.Eng
open Go Go.Proofs Go.RowKit
def EachT (fv : Bool) (ad : Option Addr) (n cap : Nat) (n0 : Nat) (v : Value) (m : Mem0) : Prop := ∃ b1, v = .func (.func 150) #[] #[.pointer (some ⟨b1, 0, none⟩)] ∧ m = [pB b1 fv ad n cap] ∧ n0 ≤ b1
theorem EachT.mono {fv : Bool} {ad : Option Addr} {n cap : Nat} : ∀ (k k' : Nat) u m, k' ≤ k → EachT fv ad n cap k u m → EachT fv ad n cap k' u m := fun k k' u m h ⟨b1, h1, h2, h3⟩ => ⟨b1, h1, h2, by omega⟩
theorem low5 {k : Int} : (k = 5) ↔ loB k ≠ -1 := by unfold loB; split <;> simp_all
set_option maxRecDepth 100000 in
set_option maxHeartbeats 1000000 in
theorem rwords_spec {xs : List COp} {fv : Bool} {ad : Option Addr} {n cap : Nat} (w : World) (hn : n = xs.length) (hl : Sr fO 3 xs (.slice ad n cap) w) (hxl : xs.length ≤ 1000000) : Ret Tryz.prog 61 #[pV fv ad n cap] w (New fW 65 4 (wordsF fv xs) w) := by
 refine Ret.enterM (l := [pV fv ad n cap]) Tryz.func61 rfl Tryz.ntmps61 rfl ([]) (no) (Mem.nil w) ?_
 refine wpM.seq (wpM.region ?_)
 refine LM.box rfl rfl (fun b1 hb1 => ?_)
 refine LM.as rfl ?_
 refine LM.nil (QM.sub (e' := [(1, _)]) ⟨rfl, trivial⟩ (QM.then (wpM.seq (wpM.region ?_))))
 refine LM.val (ov_build (cs := #[_, _, _, _]) rfl (by first | rfl | kernel_rfl)) ?_
 refine LM.single Tryz.underlying23 Tryz.sizeOf65 Tryz.zeroValue65 rfl rfl rfl rfl rfl (fun b9 hb9 => ?_)
 refine LM.as rfl ?_
 refine LM.nil (QM.sub (e' := [(1, _), (3, _)]) au9 (QM.then ?_))
 refine wpM.seq ?_
 refine wpM.seq (wpM.region ?_)
 have hlen13 : [(⟨1, wProg, 0, 0⟩ : Wrd)].length = 1 := rfl; change LM _ _ _ _ _ _ _ _ ((b9, Obj.cells (arr fW [(⟨1, wProg, 0, 0⟩ : Wrd)] []) 65 (0, 0)) :: _) _ _ _; have hs13 : Sl fW 65 4 w.heap.size [(⟨1, wProg, 0, 0⟩ : Wrd)] (.slice (some ⟨b9, 0, none⟩) 1 1) [(b9, .cells (arr fW [(⟨1, wProg, 0, 0⟩ : Wrd)] []) 65 (0, 0))] := .inr ⟨b9, 1, [], hb9, rfl, rfl, by decide, by unfold maxLen; decide, rfl⟩
 refine LM.val (ov_field Tryz.underlying87 rfl Tryz.sizeOf4 rfl (k := 0) rfl rfl) ?_
 refine LM.rd (om_ld Tryz.isAgg4 rfl rfl) ?_
 refine LM.nil (QM.sub (e' := [(1, _), (3, _), (11, _)]) au9 (QM.then ?_))
 refine wpM.joinK (α := List Wrd × Option Addr × Nat × Nat × Mem0) (fun ⟨l0, ad0, n0, cap0, m0⟩ => [(3, .slice ad0 n0 cap0)]) [(1, _)] (fun ⟨l0, ad0, n0, cap0, m0⟩ => m0 ++ (pB b1 fv ad n cap :: [])) (fun ⟨l0, ad0, n0, cap0, m0⟩ => l0.length ≤ 2 ∧ l0 = ⟨1, wProg, 0, 0⟩ :: (if fv then [⟨1, wForever, 0, 0⟩] else []) ∧ n0 = l0.length ∧ Sl fW 65 4 w.heap.size l0 (.slice ad0 n0 cap0) m0) ⟨rfl, trivial⟩ ?_ ?_
 ·
  first | refine wpM.condD rfl (fun h1 => ?_) (fun h1 => ?_) | refine wpM.condB rfl (fun h1 => ?_) (fun h1 => ?_)
  ·
   refine wpM.region ?_
   refine LM.mv rfl ?_
   refine LM.val (ov_build (cs := #[_, _, _, _]) rfl (by first | rfl | kernel_rfl)) ?_
   refine LM.single Tryz.underlying23 Tryz.sizeOf65 Tryz.zeroValue65 rfl rfl rfl rfl rfl (fun b14 hb14 => ?_)
   refine LM.app (a := (⟨1, wForever, 0, 0⟩ : Wrd)) Tryz.underlying23 Tryz.typeInfo65 rfl rfl rfl rfl rfl rfl rfl (by assumption) (by rfl) (by intro _; rfl) (by intro _ u hu; simp [fW] at hu; (repeat (first | (rcases hu with rfl | hu) | subst hu | rfl))) (by first | exact Nat.le_refl _ | omega) au10 (by first | omega | (unfold maxLen; omega)) (by simp only [Tryz.t65]; omega) (fun ad15 n15 cap15 m15 hn15 hs15 hin15 => ?_)
   refine LM.as rfl ?_
   refine LM.nil (QM.sub (e' := [(1, _), (3, _)]) au9 ?_)
   refine QM.meetK (([(⟨1, wProg, 0, 0⟩ : Wrd)] ++ [⟨1, wForever, 0, 0⟩], ad15, n15, cap15, m15)) ⟨au2, rfl, trivial⟩ au1 ?_
   · exact ⟨by simp, by rw [if_pos h1]; rfl, by rw [hn15]; rfl, hs15⟩
  refine wpM.skip ?_
  refine QM.meetK (([(⟨1, wProg, 0, 0⟩ : Wrd)], some ⟨b9, 0, none⟩, 1, 1, [(b9, .cells (arr fW [(⟨1, wProg, 0, 0⟩ : Wrd)] []) 65 (0, 0))])) ⟨au2, rfl, trivial⟩ au1 ?_
  · exact ⟨by decide, by rw [if_neg (by rw [h1]; simp)], rfl, hs13⟩
 rintro ⟨l0, ad0, n0, cap0, m0⟩ ⟨hz0, hl0, hn0, hs0⟩
 change QM _ _ _ _ _ (m0 ++ (pB b1 fv ad n cap :: [])) _ _ _
 refine QM.then (wpM.seq (wpM.region ?_))
 refine LM.mv rfl ?_
 refine LM.val (ov_build (cs := #[_, _, _, _]) rfl (by first | rfl | kernel_rfl)) ?_
 refine LM.single Tryz.underlying23 Tryz.sizeOf65 Tryz.zeroValue65 rfl rfl rfl rfl rfl (fun b18 hb18 => ?_)
 refine LM.app (a := mk3 [123]) Tryz.underlying23 Tryz.typeInfo65 rfl rfl rfl rfl rfl rfl rfl (by assumption) (by rfl) (by intro _; rfl) (by intro _ u hu; simp [fW] at hu; (repeat (first | (rcases hu with rfl | hu) | subst hu | rfl))) (by first | exact Nat.le_refl _ | omega) au10 (by first | omega | (unfold maxLen; omega)) (by simp only [Tryz.t65]; omega) (fun ad19 n19 cap19 m19 hn19 hs19 hin19 => ?_)
 refine LM.as rfl ?_
 refine LM.nil (QM.sub (e' := [(1, _), (3, _)]) au9 (QM.then ?_))
 refine wpM.seq ?_
 refine wpM.seq (wpM.region ?_)
 refine LM.as rfl ?_
 refine LM.nil (QM.sub (e' := [(1, _), (3, _), (4, _)]) au9 (QM.then ?_))
 refine wpM.block ?_
 refine wpM.loopK0 (α := Nat × List Wrd × Option Addr × Nat × Nat × Mem0) (fun ⟨i, l1, ad1, n1, cap1, m1⟩ => [(3, .slice ad1 n1 cap1), (4, .int .i64 (i : Nat))]) [(1, _)] (fun ⟨i, l1, ad1, n1, cap1, m1⟩ => m1 ++ (pB b1 fv ad n cap :: [])) (fun ⟨i, l1, ad1, n1, cap1, m1⟩ => i ≤ xs.length ∧ l1.length ≤ 3 + 4 * i ∧ l1 = l0 ++ [mk3 [123]] ++ (xs.take i).flatMap opW ∧ n1 = l1.length ∧ Sl fW 65 4 w.heap.size l1 (.slice ad1 n1 cap1) m1) (fun ⟨i, l1, ad1, n1, cap1, m1⟩ => xs.length - i) ((0, l0 ++ [mk3 [123]], ad19, n19, cap19, m19)) ⟨au2, au2, rfl, trivial⟩ au1 ⟨Nat.zero_le _, by simp; omega, by simp, by rw [hn19]; simp, hs19⟩ ?_
 rintro ⟨i, l1, ad1, n1, cap1, m1⟩ ⟨hi, hz1, hl1, hn1, hs1⟩
 change wpM _ _ _ _ _ _ _ (m1 ++ (pB b1 fv ad n cap :: [])) _ _ _
 refine wpM.seq ?_
 refine wpM.seq (wpM.region ?_)
 refine LM.mv rfl (LM.val (ov_field Tryz.underlying87 rfl Tryz.sizeOf85 rfl (k := 1) rfl rfl) ?_)
 refine LM.rd (om_ld Tryz.isAgg85 rfl rfl) ?_
 refine LM.val (ov_len Tryz.underlying85 rfl) ?_
 refine LM.val (ov_lss rfl rfl) ?_
 refine LM.nil (QM.sub (e' := [(1, _), (3, _), (4, _), (24, _)]) au9 (QM.then ?_))
 refine wpM.condD rfl (fun h2 => ?_) (fun h2 => ?_)
 ·
  refine wpM.skip ?_
  refine QM.then ?_
  refine wpM.seq ?_
  refine wpM.block ?_
  refine wpM.seq (wpM.region ?_)
  refine LM.val (ov_field Tryz.underlying87 rfl Tryz.sizeOf85 rfl (k := 1) rfl rfl) ?_
  refine LM.rd (om_ld Tryz.isAgg85 rfl rfl) ?_
  refine LM.mv rfl ?_
  refine LM.val (ov_idxSN au6 Tryz.underlying85 Tryz.sizeOf135 rfl rfl (by omega)) ?_
  first | refine LM.rd (om_slA (by assumption) (by intro _; rfl) Tryz.isAgg135 Tryz.sizeOf135 rfl au3) ?_ | refine LM.rdC (om_srEA (by assumption) (by intro _; rfl) Tryz.isAgg135 Tryz.sizeOf135 rfl au3 id) ?_ | refine LM.rd (om_ldW Tryz.isAgg135 Tryz.sizeOf135 rfl rfl) ?_ | refine LM.rd (om_ldA Tryz.isAgg135 Tryz.sizeOf135 rfl (vs := [_, _, _]) rfl ⟨rfl, rfl, rfl, trivial⟩) ?_
  refine LM.alloc Tryz.zeroValue135 rfl (fun b5 hb5 => ?_)
  refine LM.stW Tryz.sizeOf135 rfl rfl rfl rfl au7 au8 ?_
  refine LM.nil (QM.sub (e' := [(1, _), (3, _), (4, _), (5, _)]) au9 (QM.then (wpM.seq (wpM.region ?_))))
  refine LM.mv rfl (LM.val (ov_field Tryz.underlying135 rfl Tryz.sizeOf3 rfl (k := 0) rfl rfl) ?_)
  refine LM.rd (om_ld Tryz.isAgg3 rfl rfl) ?_
  refine LM.callE (oc_call (enters_fn Tryz.func88 (by kernel_rfl) rfl) rfl) (fun w hm hc hg => rname_spec _ w) ?_
  refine LM.val (ov_build (cs := #[_, _, _, _]) rfl (by first | rfl | kernel_rfl)) ?_
  refine LM.single Tryz.underlying23 Tryz.sizeOf65 Tryz.zeroValue65 rfl rfl rfl rfl rfl (fun b37 hb37 => ?_)
  refine LM.app (a := (⟨1, nmT (xs.getD i default).k, 0, 0⟩ : Wrd)) Tryz.underlying23 Tryz.typeInfo65 rfl rfl rfl rfl rfl rfl rfl (by assumption) (by rfl) (by intro _; rfl) (by intro _ u hu; simp [fW] at hu; (repeat (first | (rcases hu with rfl | hu) | subst hu | rfl))) (by first | exact Nat.le_refl _ | omega) au10 (by first | omega | (unfold maxLen; omega)) (by simp only [Tryz.t65]; omega) (fun ad38 n38 cap38 m38 hn38 hs38 hin38 => ?_)
  refine LM.as rfl ?_
  refine LM.nil (QM.sub (e' := [(1, _), (3, _), (4, _), (5, _)]) au9 (QM.then (wpM.seq (wpM.region ?_))))
  refine LM.val (ov_field Tryz.underlying135 rfl Tryz.sizeOf3 rfl (k := 0) rfl rfl) ?_
  refine LM.rd (om_ld Tryz.isAgg3 rfl rfl) ?_
  refine LM.callE (oc_call (enters_fn Tryz.func89 (by kernel_rfl) rfl) rfl) (fun w hm hc hg => limits_spec _ w) ?_
  refine LM.mv rfl ?_
  refine LM.val (ov_extract rfl rfl) ?_
  refine LM.val (ov_extract rfl rfl) ?_
  refine LM.as rfl (LM.as rfl ?_)
  refine LM.nil (QM.sub (e' := [(1, _), (3, _), (4, _), (5, _), (6, _)]) au9 (QM.then ?_))
  refine wpM.seq ?_
  refine wpM.seq (wpM.region ?_)
  refine LM.mv rfl ?_
  refine LM.val (ov_geq rfl rfl) ?_
  refine LM.nil (QM.sub (e' := [(1, _), (3, _), (4, _), (5, _), (46, _)]) au9 (QM.then ?_))
  refine wpM.joinK (α := List Wrd × Option Addr × Nat × Nat × Mem0) (fun ⟨l2, ad2, n2, cap2, m2⟩ => [(3, .slice ad2 n2 cap2)]) [(1, _), (4, _), (5, _)] (fun ⟨l2, ad2, n2, cap2, m2⟩ => m2 ++ ((b5, .cells (fO (xs.getD i default)).toArray 135 (0, 0)) :: pB b1 fv ad n cap :: [])) (fun ⟨l2, ad2, n2, cap2, m2⟩ => l2.length ≤ 5 + 4 * i ∧ l2 = l1 ++ [⟨1, nmT (xs.getD i default).k, 0, 0⟩] ++ (if loA (xs.getD i default).k ≠ -1 then [⟨2, [], (xs.getD i default).a, 0⟩] else []) ∧ n2 = l2.length ∧ Sl fW 65 4 w.heap.size l2 (.slice ad2 n2 cap2) m2) ⟨rfl, rfl, rfl, trivial⟩ ?_ ?_
  ·
   refine wpM.condD rfl (fun h3 => ?_) (fun h3 => ?_)
   ·
    refine wpM.region ?_
    have hlp : (l1 ++ [(⟨1, nmT (xs.getD i default).k, 0, 0⟩ : Wrd)]).length = l1.length + 1 := (by simp)
    refine LM.mv rfl (LM.val (ov_field Tryz.underlying135 rfl Tryz.sizeOf3 rfl (k := 1) rfl rfl) ?_)
    refine LM.rd (om_ld Tryz.isAgg3 rfl rfl) ?_
    refine LM.val (ov_build (cs := #[_, _, _, _]) rfl (by first | rfl | kernel_rfl)) ?_
    refine LM.single Tryz.underlying23 Tryz.sizeOf65 Tryz.zeroValue65 rfl rfl rfl rfl rfl (fun b51 hb51 => ?_)
    refine LM.app (a := (⟨2, [], (xs.getD i default).a, 0⟩ : Wrd)) Tryz.underlying23 Tryz.typeInfo65 rfl rfl rfl rfl rfl rfl rfl (by assumption) (by rfl) (by intro _; rfl) (by intro _ u hu; simp [fW] at hu; (repeat (first | (rcases hu with rfl | hu) | subst hu | rfl))) (by first | exact Nat.le_refl _ | omega) au10 (by first | omega | (unfold maxLen; omega)) (by simp only [Tryz.t65]; omega) (fun ad52 n52 cap52 m52 hn52 hs52 hin52 => ?_)
    refine LM.as rfl ?_
    refine LM.nil (QM.sub (e' := [(1, _), (3, _), (4, _), (5, _)]) au9 ?_)
    refine QM.meetK ((l1 ++ [(⟨1, nmT (xs.getD i default).k, 0, 0⟩ : Wrd)] ++ [⟨2, [], (xs.getD i default).a, 0⟩], ad52, n52, cap52, m52)) ⟨au2, rfl, rfl, rfl, trivial⟩ au1 ?_
    · exact ⟨by simp; omega, by rw [if_pos (by omega)], by rw [hn52]; simp, hs52⟩
   refine wpM.skip ?_
   refine QM.meetK ((l1 ++ [(⟨1, nmT (xs.getD i default).k, 0, 0⟩ : Wrd)], ad38, n38, cap38, m38)) ⟨au2, rfl, rfl, rfl, trivial⟩ au1 ?_
   · exact ⟨by simp; omega, by rw [if_neg (by have := loA_cases (xs.getD i default).k; omega)]; simp, by rw [hn38]; simp, hs38⟩
  rintro ⟨l2, ad2, n2, cap2, m2⟩ ⟨hz2, hl2, hn2, hs2⟩
  change QM _ _ _ _ _ (m2 ++ ((b5, .cells (fO (xs.getD i default)).toArray 135 (0, 0)) :: pB b1 fv ad n cap :: [])) _ _ _
  refine QM.then ?_
  refine wpM.seq ?_
  refine wpM.seq (wpM.region ?_)
  refine LM.val (ov_field Tryz.underlying135 rfl Tryz.sizeOf3 rfl (k := 0) rfl rfl) ?_
  refine LM.rd (om_ld Tryz.isAgg3 rfl rfl) ?_
  refine LM.val (ov_eql rfl rfl) ?_
  refine LM.nil (QM.sub (e' := [(1, _), (3, _), (4, _), (5, _), (55, _)]) au9 (QM.then ?_))
  refine wpM.joinK (α := List Wrd × Option Addr × Nat × Nat × Mem0) (fun ⟨l3, ad3, n3, cap3, m3⟩ => [(3, .slice ad3 n3 cap3)]) [(1, _), (4, _)] (fun ⟨l3, ad3, n3, cap3, m3⟩ => m3 ++ (pB b1 fv ad n cap :: [])) (fun ⟨l3, ad3, n3, cap3, m3⟩ => l3.length ≤ 6 + 4 * i ∧ l3 = l2 ++ (if loB (xs.getD i default).k ≠ -1 then [⟨2, [], (xs.getD i default).b, 0⟩] else []) ∧ n3 = l3.length ∧ Sl fW 65 4 w.heap.size l3 (.slice ad3 n3 cap3) m3) ⟨rfl, rfl, trivial⟩ ?_ ?_
  ·
   refine wpM.condD rfl (fun h4 => ?_) (fun h4 => ?_)
   ·
    refine wpM.region ?_
    refine LM.mv rfl (LM.val (ov_field Tryz.underlying135 rfl Tryz.sizeOf3 rfl (k := 2) rfl rfl) ?_)
    refine LM.rd (om_ld Tryz.isAgg3 rfl rfl) ?_
    refine LM.val (ov_build (cs := #[_, _, _, _]) rfl (by first | rfl | kernel_rfl)) ?_
    refine LM.single Tryz.underlying23 Tryz.sizeOf65 Tryz.zeroValue65 rfl rfl rfl rfl rfl (fun b60 hb60 => ?_)
    refine LM.app (a := (⟨2, [], (xs.getD i default).b, 0⟩ : Wrd)) Tryz.underlying23 Tryz.typeInfo65 rfl rfl rfl rfl rfl rfl rfl (by assumption) (by rfl) (by intro _; rfl) (by intro _ u hu; simp [fW] at hu; (repeat (first | (rcases hu with rfl | hu) | subst hu | rfl))) (by first | exact Nat.le_refl _ | omega) au10 (by first | omega | (unfold maxLen; omega)) (by simp only [Tryz.t65]; omega) (fun ad61 n61 cap61 m61 hn61 hs61 hin61 => ?_)
    refine LM.as rfl ?_
    refine LM.nil (QM.sub (e' := [(1, _), (3, _), (4, _)]) au9 ?_)
    refine QM.meetK ((l2 ++ [(⟨2, [], (xs.getD i default).b, 0⟩ : Wrd)], ad61, n61, cap61, m61)) ⟨au2, rfl, rfl, trivial⟩ au1 ?_
    · exact ⟨by simp; omega, by rw [if_pos (low5.1 h4)], by rw [hn61]; simp, hs61⟩
   refine wpM.skip ?_
   refine QM.meetK ((l2, ad2, n2, cap2, m2)) ⟨au2, rfl, rfl, trivial⟩ au1 ?_
   · exact ⟨by omega, by rw [if_neg (fun q => h4 (low5.2 q))]; simp, hn2, hs2⟩
  rintro ⟨l3, ad3, n3, cap3, m3⟩ ⟨hz3, hl3, hn3, hs3⟩
  change QM _ _ _ _ _ (m3 ++ (pB b1 fv ad n cap :: [])) _ _ _
  refine QM.then (wpM.region ?_)
  refine LM.mv rfl ?_
  refine LM.val (ov_build (cs := #[_, _, _, _]) rfl (by first | rfl | kernel_rfl)) ?_
  refine LM.single Tryz.underlying23 Tryz.sizeOf65 Tryz.zeroValue65 rfl rfl rfl rfl rfl (fun b64 hb64 => ?_)
  refine LM.app (a := mk3 [59]) Tryz.underlying23 Tryz.typeInfo65 rfl rfl rfl rfl rfl rfl rfl (by assumption) (by rfl) (by intro _; rfl) (by intro _ u hu; simp [fW] at hu; (repeat (first | (rcases hu with rfl | hu) | subst hu | rfl))) (by first | exact Nat.le_refl _ | omega) au10 (by first | omega | (unfold maxLen; omega)) (by simp only [Tryz.t65]; omega) (fun ad65 n65 cap65 m65 hn65 hs65 hin65 => ?_)
  refine LM.as rfl ?_
  refine LM.nil (QM.sub (e' := [(1, _), (3, _), (4, _)]) au9 ?_)
  refine QM.block_normal ?_
  refine QM.then (wpM.region ?_)
  refine LM.mv rfl ?_
  refine LM.val (ov_add64 rfl rfl (by omega)) ?_
  refine LM.as rfl ?_
  refine LM.nil (QM.sub (e' := [(1, _), (3, _), (4, _)]) au9 ?_)
  refine QM.againK ((i + 1, l3 ++ [mk3 [59]], ad65, n65, cap65, m65)) ⟨au2, au2, rfl, trivial⟩ au1 (fun _ h => h) ?_ ?_
  · exact ⟨by omega, by simp; omega, by rw [hl3, hl2, hl1, flat_snoc (by omega)]; simp [opW], by rw [hn65]; simp, hs65⟩
  · first | omega | (dsimp only; omega)
 refine wpM.exit ?_
 refine QM.then_exit ?_
 refine QM.then_exit ?_
 refine QM.block_hit ?_
 refine QM.then (wpM.seq (wpM.region ?_))
 refine LM.mv rfl ?_
 refine LM.val (ov_build (cs := #[_, _, _, _]) rfl (by first | rfl | kernel_rfl)) ?_
 refine LM.single Tryz.underlying23 Tryz.sizeOf65 Tryz.zeroValue65 rfl rfl rfl rfl rfl (fun b68 hb68 => ?_)
 refine LM.app (a := mk3 [125]) Tryz.underlying23 Tryz.typeInfo65 rfl rfl rfl rfl rfl rfl rfl (by assumption) (by rfl) (by intro _; rfl) (by intro _ u hu; simp [fW] at hu; (repeat (first | (rcases hu with rfl | hu) | subst hu | rfl))) (by first | exact Nat.le_refl _ | omega) au10 (by first | omega | (unfold maxLen; omega)) (by simp only [Tryz.t65]; omega) (fun ad69 n69 cap69 m69 hn69 hs69 hin69 => ?_)
 refine LM.as rfl ?_
 refine LM.nil (QM.sub (e' := [(2, _)]) ⟨rfl, trivial⟩ (QM.then ?_))
 refine wpM.ret ?_
 refine QM.leave (.inl rfl) [.tmp 2] Tryz.results61 rfl ?_
 intro w' hm' hc' hg'
 have hil : i = xs.length := (by omega); subst hil; rw [List.take_length] at hl1; have hw : wordsF fv xs = l1 ++ [mk3 [125]] := (by unfold wordsF; rw [hl1, hl0]); rw [hw]; exact ⟨hc', m69, hs69, hm'.pick _⟩
end Go.Eng
namespace Go.Eng
open Go Go.Proofs Go.RowKit
theorem before_next {p : Nat → Bool} {i : Nat} (h : ∀ j, j < i → p j = true) (hi : p i = true) : ∀ j, j < i + 1 → p j = true := fun j hj => by
  by_cases q : j = i
  · subst q; exact hi
  · exact h j (by omega)
set_option maxRecDepth 100000 in
theorem anames_spec (w : World) : Ret Tryz.prog 147 #[] w (New fB 9 1 acW w) := by
 refine Ret.enterM (l := []) Tryz.func147 rfl Tryz.ntmps147 rfl ([]) (no) (Mem.nil w) ?_
 refine wpM.seq (wpM.region ?_)
 refine LM.as rfl ?_
 refine LM.nil (QM.sub (e' := []) trivial (QM.then (wpM.seq (wpM.region ?_))))
 refine LM.row (vs := [_, _, _, _, _, _, _, _, _]) Tryz.underlying188 Tryz.sizeOf9 Tryz.zeroValue9 rfl rfl rfl rfl rfl rfl (fun b1 hb1 => ?_)
 refine LM.as rfl ?_
 refine LM.nil (QM.sub (e' := [(0, _)]) ⟨rfl, trivial⟩ (QM.then ?_))
 refine wpM.ret ?_
 refine QM.leave (.inl rfl) [.tmp 0] Tryz.results147 rfl ?_
 intro w' hm' hc' hg'
 exact ⟨hc', [(b1, .cells (arr fB acW []) 9 (0, 0))], .inr ⟨b1, 9, [], hb1, rfl, rfl, by decide, by unfold maxLen; decide, rfl⟩, hm'⟩
set_option maxRecDepth 100000 in
theorem aname_spec (k : Int) (w : World) : Ret Tryz.prog 118 #[.int .i64 k] w (fun v w' => v = vS (acT k) ∧ Ext w w') := by
 refine Ret.enterM (l := [.int .i64 k]) Tryz.func118 rfl Tryz.ntmps118 rfl ([]) (no) (Mem.nil w) ?_
 refine wpM.seq (wpM.region ?_)
 refine LM.as rfl ?_
 refine LM.nil (QM.sub (e' := [(0, _)]) ⟨rfl, trivial⟩ (QM.then ?_))
 refine wpM.seq ?_
 refine wpM.seq (wpM.region ?_)
 refine LM.mv rfl ?_
 refine LM.val (ov_lss rfl rfl) ?_
 refine LM.mv rfl ?_
 refine LM.splitD (t := 5) rfl (fun h1 => ?_) (fun h1 => ?_)
 ·
  refine LM.dr 5 rfl rfl rfl (LM.dr 5 rfl rfl rfl (LM.dr 5 rfl rfl rfl (LM.dr 5 rfl rfl rfl ?_)))
  refine LM.val (ov_pickT rfl rfl) ?_
  refine LM.nil (QM.sub (e' := [(0, _), (10, _)]) au9 (QM.then ?_))
  refine wpM.condT rfl ?_
  refine wpM.seq (wpM.region ?_)
  refine LM.as rfl ?_
  refine LM.nil (QM.sub (e' := [(2, _)]) ⟨rfl, trivial⟩ (QM.then ?_))
  refine wpM.ret ?_
  refine QM.then_ret ?_
  refine QM.leave (.inl rfl) [.tmp 2] Tryz.results118 rfl ?_
  intro w' hm' hc' hg'
  have hl13 : acW.length = 9 := rfl; refine ⟨?_, hc'⟩; show vS _ = _; congr 1; first | (rw [acT, if_neg (by omega)]; done) | (rw [acT, if_pos (by omega)]; rfl)
 refine LM.sp 5 rfl rfl rfl (LM.mv rfl (LM.sp 5 rfl rfl rfl ?_))
 refine LM.cS (oc_call (enters_fn Tryz.func147 (by kernel_rfl) rfl) rfl) (fun w hm hc hg => anames_spec w) (fun ad7 n7 cap7 m7 hn7 hs7 => ?_)
 refine LM.sp 5 rfl rfl rfl ?_
 refine LM.val (ov_len Tryz.underlying188 rfl) ?_
 refine LM.sp 5 rfl rfl rfl ?_
 have hl12 : n7 = 9 := hn7
 refine LM.val (ov_geq rfl rfl) ?_
 refine LM.val (ov_pickF rfl rfl) ?_
 refine LM.nil (QM.sub (e' := [(0, _), (10, _)]) au9 (QM.then ?_))
 refine wpM.condD rfl (fun h2 => ?_) (fun h2 => ?_)
 ·
  refine wpM.seq (wpM.region ?_)
  refine LM.as rfl ?_
  refine LM.nil (QM.sub (e' := [(2, _)]) ⟨rfl, trivial⟩ (QM.then ?_))
  refine wpM.ret ?_
  refine QM.then_ret ?_
  refine QM.leave (.inl rfl) [.tmp 2] Tryz.results118 rfl ?_
  intro w' hm' hc' hg'
  have hl13 : acW.length = 9 := rfl; refine ⟨?_, hc'⟩; show vS _ = _; congr 1; first | (rw [acT, if_neg (by omega)]; done) | (rw [acT, if_pos (by omega)]; rfl)
 refine wpM.skip ?_
 refine QM.then (wpM.seq (wpM.region ?_))
 refine LM.cS (oc_call (enters_fn Tryz.func147 (by kernel_rfl) rfl) rfl) (fun w hm hc hg => anames_spec w) (fun ad11 n11 cap11 m11 hn11 hs11 => ?_)
 have hl12 : n11 = 9 := hn11
 refine LM.mv rfl ?_
 first | refine LM.val (ov_idxSN au6 Tryz.underlying188 Tryz.sizeOf9 rfl rfl (by omega)) ?_ | refine LM.val (ov_idxS au6 Tryz.underlying188 Tryz.sizeOf9 rfl rfl (by omega)) ?_ | refine LM.val (ov_idx1 Tryz.underlying188 Tryz.sizeOf9 rfl rfl (by omega)) ?_
 refine LM.rd (om_sl1 (by assumption) (by intro _; rfl) Tryz.isAgg9 rfl rfl au3 (by rfl)) ?_
 refine LM.as rfl ?_
 refine LM.nil (QM.sub (e' := [(2, _)]) ⟨rfl, trivial⟩ (QM.then ?_))
 refine wpM.ret ?_
 refine QM.leave (.inl rfl) [.tmp 2] Tryz.results118 rfl ?_
 intro w' hm' hc' hg'
 have hl13 : acW.length = 9 := rfl; refine ⟨?_, hc'⟩; show vS _ = _; congr 1; first | (rw [acT, if_neg (by omega)]; done) | (rw [acT, if_pos (by omega)]; rfl)
set_option maxRecDepth 100000 in
theorem raname_spec (k : Int) (w : World) : Ret Tryz.prog 112 #[.int .i64 k] w (fun v w' => v = vS (acT k) ∧ Ext w w') := by
 refine Ret.enterM (l := [.int .i64 k]) Tryz.func112 rfl Tryz.ntmps112 rfl ([]) (no) (Mem.nil w) ?_
 refine wpM.seq (wpM.region ?_)
 refine LM.as rfl ?_
 refine LM.nil (QM.sub (e' := [(0, _)]) ⟨rfl, trivial⟩ (QM.then (wpM.seq (wpM.region ?_))))
 refine LM.row (vs := [_, _, _, _, _, _, _, _, _]) Tryz.underlying188 Tryz.sizeOf9 Tryz.zeroValue9 rfl rfl rfl rfl rfl rfl (fun b4 hb4 => ?_)
 refine LM.as rfl ?_
 refine LM.nil (QM.sub (e' := [(0, _), (3, _)]) au9 (QM.then ?_))
 refine wpM.seq ?_
 refine wpM.seq (wpM.region ?_)
 refine LM.mv rfl ?_
 refine LM.val (ov_lss rfl rfl) ?_
 refine LM.mv rfl ?_
 refine LM.splitD (t := 7) rfl (fun h1 => ?_) (fun h1 => ?_)
 ·
  refine LM.dr 7 rfl rfl rfl (LM.dr 7 rfl rfl rfl ?_)
  refine LM.val (ov_pickT rfl rfl) ?_
  refine LM.nil (QM.sub (e' := [(0, _), (3, _), (10, _)]) au9 (QM.then ?_))
  refine wpM.condT rfl ?_
  refine wpM.seq (wpM.region ?_)
  refine LM.as rfl ?_
  refine LM.nil (QM.sub (e' := [(2, _)]) ⟨rfl, trivial⟩ (QM.then ?_))
  refine wpM.ret ?_
  refine QM.then_ret ?_
  refine QM.leave (.inl rfl) [.tmp 2] Tryz.results112 rfl ?_
  intro w' hm' hc' hg'
  refine ⟨?_, hc'⟩; show vS _ = _; congr 1; first | (rw [acT, if_neg (by omega)]; done) | (rw [acT, if_pos (by omega)]; rfl)
 refine LM.sp 7 rfl rfl rfl (LM.mv rfl (LM.sp 7 rfl rfl rfl ?_))
 refine LM.val (ov_gtr rfl rfl) ?_
 refine LM.val (ov_pickF rfl rfl) ?_
 refine LM.nil (QM.sub (e' := [(0, _), (3, _), (10, _)]) au9 (QM.then ?_))
 refine wpM.condD rfl (fun h2 => ?_) (fun h2 => ?_)
 ·
  refine wpM.seq (wpM.region ?_)
  refine LM.as rfl ?_
  refine LM.nil (QM.sub (e' := [(2, _)]) ⟨rfl, trivial⟩ (QM.then ?_))
  refine wpM.ret ?_
  refine QM.then_ret ?_
  refine QM.leave (.inl rfl) [.tmp 2] Tryz.results112 rfl ?_
  intro w' hm' hc' hg'
  refine ⟨?_, hc'⟩; show vS _ = _; congr 1; first | (rw [acT, if_neg (by omega)]; done) | (rw [acT, if_pos (by omega)]; rfl)
 refine wpM.skip ?_
 refine QM.then (wpM.seq (wpM.region ?_))
 refine LM.mv rfl (LM.mv rfl ?_)
 change LM _ _ _ _ _ _ _ _ ((b4, Obj.cells (arr fB acW []) 9 (0, 0)) :: _) _ _ _; have hs4 : Sl fB 9 1 w.heap.size acW (.slice (some ⟨b4, 0, none⟩) 9 9) [(b4, .cells (arr fB acW []) 9 (0, 0))] := .inr ⟨b4, 9, [], hb4, rfl, rfl, by decide, by unfold maxLen; decide, rfl⟩; have hl12 : acW.length = 9 := rfl
 first | refine LM.val (ov_idxSN au6 Tryz.underlying188 Tryz.sizeOf9 rfl rfl (by omega)) ?_ | refine LM.val (ov_idxS au6 Tryz.underlying188 Tryz.sizeOf9 rfl rfl (by omega)) ?_ | refine LM.val (ov_idx1 Tryz.underlying188 Tryz.sizeOf9 rfl rfl (by omega)) ?_
 refine LM.rd (om_sl1 (by assumption) (by intro _; rfl) Tryz.isAgg9 rfl rfl au3 (by rfl)) ?_
 refine LM.as rfl ?_
 refine LM.nil (QM.sub (e' := [(2, _)]) ⟨rfl, trivial⟩ (QM.then ?_))
 refine wpM.ret ?_
 refine QM.leave (.inl rfl) [.tmp 2] Tryz.results112 rfl ?_
 intro w' hm' hc' hg'
 refine ⟨?_, hc'⟩; show vS _ = _; congr 1; first | (rw [acT, if_neg (by omega)]; done) | (rw [acT, if_pos (by omega)]; rfl)
set_option maxRecDepth 100000 in
theorem rmany_spec (k : Int) (w : World) (hk : 0 ≤ k ∧ k < 9) : Ret Tryz.prog 113 #[.int .i64 k] w (fun v w' => v = .int .i64 (manyA k : Nat) ∧ Ext w w') := by
 refine Ret.enterM (l := [.int .i64 k]) Tryz.func113 rfl Tryz.ntmps113 rfl ([]) (no) (Mem.nil w) ?_
 refine wpM.seq (wpM.region ?_)
 refine LM.as rfl ?_
 refine LM.nil (QM.sub (e' := [(0, _)]) ⟨rfl, trivial⟩ (QM.then (wpM.seq (wpM.region ?_))))
 refine LM.row (vs := [_, _, _, _, _, _, _, _, _]) Tryz.underlying26 Tryz.sizeOf3 Tryz.zeroValue3 rfl rfl rfl rfl rfl rfl (fun b4 hb4 => ?_)
 refine LM.as rfl ?_
 refine LM.nil (QM.sub (e' := [(0, _), (3, _)]) au9 (QM.then (wpM.seq (wpM.region ?_))))
 refine LM.mv rfl (LM.mv rfl ?_)
 change LM _ _ _ _ _ _ _ _ ((b4, Obj.cells (arr fI manyL []) 3 (0, 0)) :: _) _ _ _; have hs4 : Sl fI 3 1 w.heap.size manyL (.slice (some ⟨b4, 0, none⟩) 9 9) [(b4, .cells (arr fI manyL []) 3 (0, 0))] := .inr ⟨b4, 9, [], hb4, rfl, rfl, by decide, by unfold maxLen; decide, rfl⟩; have hl12 : manyL.length = 9 := rfl
 first | refine LM.val (ov_idxSN au6 Tryz.underlying26 Tryz.sizeOf3 rfl rfl (by omega)) ?_ | refine LM.val (ov_idxS au6 Tryz.underlying26 Tryz.sizeOf3 rfl rfl (by omega)) ?_ | refine LM.val (ov_idx1 Tryz.underlying26 Tryz.sizeOf3 rfl rfl (by omega)) ?_
 refine LM.rd (om_sl1 (by assumption) (by intro _; rfl) Tryz.isAgg3 rfl rfl (by exact getq 0 au4) (by rfl)) ?_
 refine LM.as rfl ?_
 refine LM.nil (QM.sub (e' := [(2, _)]) ⟨rfl, trivial⟩ (QM.then ?_))
 refine wpM.ret ?_
 refine QM.leave (.inl rfl) [.tmp 2] Tryz.results113 rfl ?_
 intro w' hm' hc' hg'
 refine ⟨?_, hc'⟩; show Value.int .i64 (manyL.getD k.toNat 0) = _; rw [manyL_get hk]
set_option maxRecDepth 100000 in
theorem many_spec (k : Int) (w : World) : Ret Tryz.prog 120 #[.int .i64 k] w (fun v w' => v = .int .i64 (manyA k : Nat) ∧ Ext w w') := by
 refine Ret.enterM (l := [.int .i64 k]) Tryz.func120 rfl Tryz.ntmps120 rfl ([]) (no) (Mem.nil w) ?_
 refine wpM.seq (wpM.region ?_)
 refine LM.as rfl ?_
 refine LM.nil (QM.sub (e' := [(0, _)]) ⟨rfl, trivial⟩ (QM.then ?_))
 refine wpM.seq ?_
 refine wpM.seq (wpM.region ?_)
 refine LM.mv rfl ?_
 refine LM.nil (QM.sub (e' := [(3, _)]) ⟨rfl, trivial⟩ (QM.then ?_))
 refine wpM.block ?_
 refine wpM.seq ?_
 refine wpM.seq (wpM.region ?_)
 refine LM.val (ov_eql rfl rfl) ?_
 refine LM.as rfl ?_
 refine LM.nil (QM.sub (e' := [(3, _), (4, _)]) au9 (QM.then ?_))
 refine wpM.condXD (t := 4) rfl (fun h1 => ?_) (fun h1 => ?_)
 ·
  refine wpM.skip ?_
  refine QM.then ?_
  refine wpM.condT rfl ?_
  refine wpM.seq (wpM.region ?_)
  refine LM.as rfl ?_
  refine LM.nil (QM.sub (e' := [(2, _)]) ⟨rfl, trivial⟩ (QM.then ?_))
  refine wpM.ret ?_
  refine QM.block_ret ?_
  refine QM.then_ret ?_
  refine QM.leave (.inl rfl) [.tmp 2] Tryz.results120 rfl ?_
  intro w' hm' hc' hg'
  refine ⟨?_, hc'⟩; show Value.int .i64 _ = _; congr 1; unfold manyA; (repeat' split) <;> omega
 refine wpM.seq (wpM.region ?_)
 refine LM.val (ov_eql rfl rfl) ?_
 refine LM.as rfl ?_
 refine LM.nil (QM.sub (e' := [(3, _), (4, _)]) au9 (QM.then ?_))
 refine wpM.condXD (t := 4) rfl (fun h2 => ?_) (fun h2 => ?_)
 ·
  refine wpM.skip ?_
  refine QM.then ?_
  refine wpM.condT rfl ?_
  refine wpM.seq (wpM.region ?_)
  refine LM.as rfl ?_
  refine LM.nil (QM.sub (e' := [(2, _)]) ⟨rfl, trivial⟩ (QM.then ?_))
  refine wpM.ret ?_
  refine QM.block_ret ?_
  refine QM.then_ret ?_
  refine QM.leave (.inl rfl) [.tmp 2] Tryz.results120 rfl ?_
  intro w' hm' hc' hg'
  refine ⟨?_, hc'⟩; show Value.int .i64 _ = _; congr 1; unfold manyA; (repeat' split) <;> omega
 refine wpM.region ?_
 refine LM.val (ov_eql rfl rfl) ?_
 refine LM.as rfl ?_
 refine LM.nil (QM.sub (e' := [(3, _), (4, _)]) au9 (QM.then ?_))
 refine wpM.condD rfl (fun h3 => ?_) (fun h3 => ?_)
 ·
  refine wpM.seq (wpM.region ?_)
  refine LM.as rfl ?_
  refine LM.nil (QM.sub (e' := [(2, _)]) ⟨rfl, trivial⟩ (QM.then ?_))
  refine wpM.ret ?_
  refine QM.block_ret ?_
  refine QM.then_ret ?_
  refine QM.leave (.inl rfl) [.tmp 2] Tryz.results120 rfl ?_
  intro w' hm' hc' hg'
  refine ⟨?_, hc'⟩; show Value.int .i64 _ = _; congr 1; unfold manyA; (repeat' split) <;> omega
 refine wpM.seq ?_
 refine wpM.seq (wpM.region ?_)
 refine LM.val (ov_eql rfl rfl) ?_
 refine LM.as rfl ?_
 refine LM.nil (QM.sub (e' := [(3, _), (8, _)]) au9 (QM.then ?_))
 refine wpM.condXD (t := 8) rfl (fun h4 => ?_) (fun h4 => ?_)
 ·
  refine wpM.skip ?_
  refine QM.then ?_
  refine wpM.condT rfl ?_
  refine wpM.seq (wpM.region ?_)
  refine LM.as rfl ?_
  refine LM.nil (QM.sub (e' := [(2, _)]) ⟨rfl, trivial⟩ (QM.then ?_))
  refine wpM.ret ?_
  refine QM.block_ret ?_
  refine QM.then_ret ?_
  refine QM.leave (.inl rfl) [.tmp 2] Tryz.results120 rfl ?_
  intro w' hm' hc' hg'
  refine ⟨?_, hc'⟩; show Value.int .i64 _ = _; congr 1; unfold manyA; (repeat' split) <;> omega
 refine wpM.region ?_
 refine LM.val (ov_eql rfl rfl) ?_
 refine LM.as rfl ?_
 refine LM.nil (QM.sub (e' := [(3, _), (8, _)]) au9 (QM.then ?_))
 refine wpM.condD rfl (fun h5 => ?_) (fun h5 => ?_)
 ·
  refine wpM.seq (wpM.region ?_)
  refine LM.as rfl ?_
  refine LM.nil (QM.sub (e' := [(2, _)]) ⟨rfl, trivial⟩ (QM.then ?_))
  refine wpM.ret ?_
  refine QM.block_ret ?_
  refine QM.then_ret ?_
  refine QM.leave (.inl rfl) [.tmp 2] Tryz.results120 rfl ?_
  intro w' hm' hc' hg'
  refine ⟨?_, hc'⟩; show Value.int .i64 _ = _; congr 1; unfold manyA; (repeat' split) <;> omega
 refine wpM.seq (wpM.region ?_)
 refine LM.val (ov_eql rfl rfl) ?_
 refine LM.as rfl ?_
 refine LM.nil (QM.sub (e' := [(11, _)]) ⟨rfl, trivial⟩ (QM.then ?_))
 refine wpM.condD rfl (fun h6 => ?_) (fun h6 => ?_)
 ·
  refine wpM.seq (wpM.region ?_)
  refine LM.as rfl ?_
  refine LM.nil (QM.sub (e' := [(2, _)]) ⟨rfl, trivial⟩ (QM.then ?_))
  refine wpM.ret ?_
  refine QM.block_ret ?_
  refine QM.then_ret ?_
  refine QM.leave (.inl rfl) [.tmp 2] Tryz.results120 rfl ?_
  intro w' hm' hc' hg'
  refine ⟨?_, hc'⟩; show Value.int .i64 _ = _; congr 1; unfold manyA; (repeat' split) <;> omega
 refine wpM.skip ?_
 refine QM.block_normal ?_
 refine QM.then (wpM.seq (wpM.region ?_))
 refine LM.as rfl ?_
 refine LM.nil (QM.sub (e' := [(2, _)]) ⟨rfl, trivial⟩ (QM.then ?_))
 refine wpM.ret ?_
 refine QM.leave (.inl rfl) [.tmp 2] Tryz.results120 rfl ?_
 intro w' hm' hc' hg'
 refine ⟨?_, hc'⟩; show Value.int .i64 _ = _; congr 1; unfold manyA; (repeat' split) <;> omega
set_option maxRecDepth 100000 in
theorem numbers_spec (o : Act) (w : World) : Ret Tryz.prog 119 #[.agg (fA o).toArray] w (New fI 3 1 (numsA o) w) := by
 refine Ret.enterM (l := [.agg (fA o).toArray]) Tryz.func119 rfl Tryz.ntmps119 rfl ([]) (no) (Mem.nil w) ?_
 refine wpM.seq (wpM.region ?_)
 refine LM.box rfl rfl (fun b1 hb1 => ?_)
 refine LM.as rfl ?_
 refine LM.nil (QM.sub (e' := [(1, _)]) ⟨rfl, trivial⟩ (QM.then (wpM.seq (wpM.region ?_))))
 refine LM.val (ov_field Tryz.underlying123 rfl Tryz.sizeOf3 rfl (k := 1) rfl rfl) ?_
 refine LM.rd (om_ld Tryz.isAgg3 rfl rfl) ?_
 refine LM.val (ov_field Tryz.underlying123 rfl Tryz.sizeOf3 rfl (k := 2) rfl rfl) ?_
 refine LM.rd (om_ld Tryz.isAgg3 rfl rfl) ?_
 refine LM.val (ov_field Tryz.underlying123 rfl Tryz.sizeOf3 rfl (k := 3) rfl rfl) ?_
 refine LM.rd (om_ld Tryz.isAgg3 rfl rfl) ?_
 refine LM.val (ov_field Tryz.underlying123 rfl Tryz.sizeOf3 rfl (k := 4) rfl rfl) ?_
 refine LM.rd (om_ld Tryz.isAgg3 rfl rfl) ?_
 refine LM.row (vs := [_, _, _, _]) Tryz.underlying26 Tryz.sizeOf3 Tryz.zeroValue3 rfl rfl rfl rfl rfl rfl (fun b11 hb11 => ?_)
 refine LM.as rfl ?_
 refine LM.nil (QM.sub (e' := [(2, _)]) ⟨rfl, trivial⟩ (QM.then ?_))
 refine wpM.ret ?_
 refine QM.leave (.inl rfl) [.tmp 2] Tryz.results119 rfl ?_
 intro w' hm' hc' hg'
 change Mem w' ((b11, .cells (arr fI (numsA o) []) 3 (0, 0)) :: _) at hm'; exact ⟨hc', [(b11, .cells (arr fI (numsA o) []) 3 (0, 0))], .inr ⟨b11, 4, [], hb11, rfl, rfl, Nat.le_refl 4, by unfold maxLen; decide, rfl⟩, hm'.pick _⟩
set_option maxRecDepth 100000 in
theorem get_spec (o : Act) (i : Nat) (w : World) (hi : i < 4) : Ret Tryz.prog 123 #[.agg (fA o).toArray, .int .i64 (i : Nat)] w (fun v w' => v = .int .i64 ((numsA o).getD i 0) ∧ Ext w w') := by
 refine Ret.enterM (l := [.agg (fA o).toArray, .int .i64 (i : Nat)]) Tryz.func123 rfl Tryz.ntmps123 rfl ([]) (no) (Mem.nil w) ?_
 refine wpM.seq (wpM.region ?_)
 refine LM.box rfl rfl (fun b2 hb2 => ?_)
 refine LM.as rfl ?_
 refine LM.nil (QM.sub (e' := [(1, _), (2, _)]) au9 (QM.then ?_))
 refine wpM.seq ?_
 refine wpM.seq (wpM.region ?_)
 refine LM.mv rfl ?_
 refine LM.val (ov_eql rfl rfl) ?_
 refine LM.nil (QM.sub (e' := [(1, _), (2, _), (6, _)]) au9 (QM.then ?_))
 refine wpM.condD rfl (fun h1 => ?_) (fun h1 => ?_)
 ·
  refine wpM.seq (wpM.region ?_)
  refine LM.val (ov_field Tryz.underlying123 rfl Tryz.sizeOf3 rfl (k := 1) rfl rfl) ?_
  refine LM.rd (om_ld Tryz.isAgg3 rfl rfl) ?_
  refine LM.as rfl ?_
  refine LM.nil (QM.sub (e' := [(4, _)]) ⟨rfl, trivial⟩ (QM.then ?_))
  refine wpM.ret ?_
  refine QM.then_ret ?_
  refine QM.leave (.inl rfl) [.tmp 4] Tryz.results123 rfl ?_
  intro w' hm' hc' hg'
  refine ⟨?_, hc'⟩; have : i = 0 ∨ i = 1 ∨ i = 2 ∨ i = 3 := (by omega); rcases this with rfl | rfl | rfl | rfl <;> first | rfl | (exfalso; omega)
 refine wpM.skip ?_
 refine QM.then ?_
 refine wpM.seq ?_
 refine wpM.seq (wpM.region ?_)
 refine LM.mv rfl ?_
 refine LM.val (ov_eql rfl rfl) ?_
 refine LM.nil (QM.sub (e' := [(1, _), (2, _), (10, _)]) au9 (QM.then ?_))
 refine wpM.condD rfl (fun h2 => ?_) (fun h2 => ?_)
 ·
  refine wpM.seq (wpM.region ?_)
  refine LM.val (ov_field Tryz.underlying123 rfl Tryz.sizeOf3 rfl (k := 2) rfl rfl) ?_
  refine LM.rd (om_ld Tryz.isAgg3 rfl rfl) ?_
  refine LM.as rfl ?_
  refine LM.nil (QM.sub (e' := [(4, _)]) ⟨rfl, trivial⟩ (QM.then ?_))
  refine wpM.ret ?_
  refine QM.then_ret ?_
  refine QM.leave (.inl rfl) [.tmp 4] Tryz.results123 rfl ?_
  intro w' hm' hc' hg'
  refine ⟨?_, hc'⟩; have : i = 0 ∨ i = 1 ∨ i = 2 ∨ i = 3 := (by omega); rcases this with rfl | rfl | rfl | rfl <;> first | rfl | (exfalso; omega)
 refine wpM.skip ?_
 refine QM.then ?_
 refine wpM.seq ?_
 refine wpM.seq (wpM.region ?_)
 refine LM.mv rfl ?_
 refine LM.val (ov_eql rfl rfl) ?_
 refine LM.nil (QM.sub (e' := [(2, _), (14, _)]) au9 (QM.then ?_))
 refine wpM.condD rfl (fun h3 => ?_) (fun h3 => ?_)
 ·
  refine wpM.seq (wpM.region ?_)
  refine LM.val (ov_field Tryz.underlying123 rfl Tryz.sizeOf3 rfl (k := 3) rfl rfl) ?_
  refine LM.rd (om_ld Tryz.isAgg3 rfl rfl) ?_
  refine LM.as rfl ?_
  refine LM.nil (QM.sub (e' := [(4, _)]) ⟨rfl, trivial⟩ (QM.then ?_))
  refine wpM.ret ?_
  refine QM.then_ret ?_
  refine QM.leave (.inl rfl) [.tmp 4] Tryz.results123 rfl ?_
  intro w' hm' hc' hg'
  refine ⟨?_, hc'⟩; have : i = 0 ∨ i = 1 ∨ i = 2 ∨ i = 3 := (by omega); rcases this with rfl | rfl | rfl | rfl <;> first | rfl | (exfalso; omega)
 refine wpM.skip ?_
 refine QM.then (wpM.seq (wpM.region ?_))
 refine LM.val (ov_field Tryz.underlying123 rfl Tryz.sizeOf3 rfl (k := 4) rfl rfl) ?_
 refine LM.rd (om_ld Tryz.isAgg3 rfl rfl) ?_
 refine LM.as rfl ?_
 refine LM.nil (QM.sub (e' := [(4, _)]) ⟨rfl, trivial⟩ (QM.then ?_))
 refine wpM.ret ?_
 refine QM.leave (.inl rfl) [.tmp 4] Tryz.results123 rfl ?_
 intro w' hm' hc' hg'
 refine ⟨?_, hc'⟩; have : i = 0 ∨ i = 1 ∨ i = 2 ∨ i = 3 := (by omega); rcases this with rfl | rfl | rfl | rfl <;> first | rfl | (exfalso; omega)
set_option maxRecDepth 100000 in
theorem aone_spec (o : Act) (w : World) : Ret Tryz.prog 122 #[.agg (fA o).toArray] w (fun v w' => v = .bool (rightA o) ∧ Ext w w') := by
 refine Ret.enterM (l := [.agg (fA o).toArray]) Tryz.func122 rfl Tryz.ntmps122 rfl ([]) (no) (Mem.nil w) ?_
 refine wpM.seq (wpM.region ?_)
 refine LM.box rfl rfl (fun b1 hb1 => ?_)
 refine LM.as rfl ?_
 refine LM.nil (QM.sub (e' := [(1, _)]) ⟨rfl, trivial⟩ (QM.then ?_))
 refine wpM.seq ?_
 refine wpM.seq (wpM.region ?_)
 refine LM.val (ov_field Tryz.underlying123 rfl Tryz.sizeOf3 rfl (k := 0) rfl rfl) ?_
 refine LM.rd (om_ld Tryz.isAgg3 rfl rfl) ?_
 refine LM.callE (oc_call (enters_fn Tryz.func112 (by kernel_rfl) rfl) rfl) (fun w hm hc hg => raname_spec _ w) ?_
 refine LM.val (ov_seqlL rfl rfl) ?_
 refine LM.nil (QM.sub (e' := [(1, _), (8, _)]) au9 (QM.then ?_))
 refine wpM.condD rfl (fun h1 => ?_) (fun h1 => ?_)
 ·
  refine wpM.seq (wpM.region ?_)
  refine LM.as rfl ?_
  refine LM.nil (QM.sub (e' := [(2, _)]) ⟨rfl, trivial⟩ (QM.then ?_))
  refine wpM.ret ?_
  refine QM.then_ret ?_
  refine QM.leave (.inl rfl) [.tmp 2] Tryz.results122 rfl ?_
  intro w' hm' hc' hg'
  refine ⟨?_, hc'⟩; have hko : kindOk o.k = false := (by rw [← acT_empty]; rw [h1]; rfl); show Value.bool false = _; unfold rightA; rw [hko]; rfl
 have hko : kindOk o.k = true := (by rw [← acT_empty]; exact decide_eq_true h1); have hk8 : 0 ≤ o.k ∧ o.k < 9 := (by unfold kindOk at hko; simp only [Bool.and_eq_true, decide_eq_true_eq] at hko; omega)
 refine wpM.skip ?_
 refine QM.then ?_
 refine wpM.seq ?_
 refine wpM.seq (wpM.region ?_)
 refine LM.as rfl ?_
 refine LM.nil (QM.sub (e' := [(1, _), (3, _)]) au9 (QM.then ?_))
 refine wpM.block ?_
 refine wpM.loopK0 (α := Nat) (fun i => [(3, .int .i64 (i : Nat))]) [(1, _)] (fun i => (b1, .cells (fA o).toArray 123 (0, 0)) :: []) (fun i => i ≤ 4 ∧ ∀ j, j < i → numB o.k j ((numsA o).getD j 0) = true) (fun i => 4 - i) (0) ⟨au2, rfl, trivial⟩ au1 ⟨Nat.zero_le _, fun j hj => absurd hj (Nat.not_lt_zero _)⟩ ?_
 rintro i ⟨hi, ha⟩
 change wpM _ _ _ _ _ _ _ ((b1, .cells (fA o).toArray 123 (0, 0)) :: []) _ _ _
 refine wpM.seq ?_
 refine wpM.seq (wpM.region ?_)
 refine LM.mv rfl ?_
 refine LM.val (ov_lss rfl rfl) ?_
 refine LM.nil (QM.sub (e' := [(1, _), (3, _), (10, _)]) au9 (QM.then ?_))
 refine wpM.condD rfl (fun h2 => ?_) (fun h2 => ?_)
 ·
  refine wpM.skip ?_
  refine QM.then ?_
  refine wpM.seq ?_
  refine wpM.block ?_
  refine wpM.seq (wpM.region ?_)
  refine LM.rd (om_ldW Tryz.isAgg123 Tryz.sizeOf123 rfl rfl) ?_
  refine LM.mv rfl ?_
  refine LM.callE (oc_call (enters_fn Tryz.func123 (by kernel_rfl) rfl) rfl) (fun w hm hc hg => get_spec o i w (by omega)) ?_
  refine LM.as rfl ?_
  refine LM.nil (QM.sub (e' := [(1, _), (3, _), (4, _)]) au9 (QM.then ?_))
  refine wpM.seq ?_
  refine wpM.joinK (α := Bool) (fun q => [(32, .bool q)]) [(1, _), (3, _)] (fun q => (b1, .cells (fA o).toArray 123 (0, 0)) :: []) (fun q => q = !numB o.k i ((numsA o).getD i 0)) ⟨rfl, rfl, trivial⟩ ?_ ?_
  ·
   refine wpM.region ?_
   refine LM.mv rfl ?_
   refine LM.val (ov_lss rfl rfl) ?_
   refine LM.mv rfl ?_
   refine LM.splitD (t := 18) rfl (fun h3 => ?_) (fun h3 => ?_)
   ·
    refine LM.dr 18 rfl rfl rfl (LM.dr 18 rfl rfl rfl ?_)
    refine LM.val (ov_pickT rfl rfl) ?_
    refine LM.mv rfl (LM.dr 22 rfl rfl rfl (LM.dr 22 rfl rfl rfl (LM.dr 22 rfl rfl rfl (LM.dr 22 rfl rfl rfl (LM.dr 22 rfl rfl rfl ?_)))))
    refine LM.dropU (t := 22) rfl rfl rfl ?_
    refine LM.dropX (t := 28) rfl rfl ?_
    refine LM.dropX (t := 28) rfl rfl ?_
    refine LM.dr 22 rfl rfl rfl ?_
    refine LM.val (ov_pickT rfl rfl) ?_
    refine LM.nil (QM.sub (e' := [(1, _), (3, _), (32, _)]) au9 ?_)
    refine QM.meetK (_) ⟨au2, rfl, rfl, trivial⟩ au1 ?_
    · unfold numB; rw [decide_eq_false (show ¬ 0 ≤ (numsA o).getD i 0 by omega)]; rfl
   refine LM.sp 18 rfl rfl rfl (LM.mv rfl (LM.sp 18 rfl rfl rfl ?_))
   refine LM.val (ov_gtr rfl rfl) ?_
   refine LM.val (ov_pickF rfl rfl) ?_
   refine LM.mv rfl ?_
   refine LM.splitD (t := 22) rfl (fun h4 => ?_) (fun h4 => ?_)
   ·
    refine LM.dr 22 rfl rfl rfl (LM.dr 22 rfl rfl rfl (LM.dr 22 rfl rfl rfl (LM.dr 22 rfl rfl rfl (LM.dr 22 rfl rfl rfl ?_))))
    refine LM.dropU (t := 22) rfl rfl rfl ?_
    refine LM.dropX (t := 28) rfl rfl ?_
    refine LM.dropX (t := 28) rfl rfl ?_
    refine LM.dr 22 rfl rfl rfl ?_
    refine LM.val (ov_pickT rfl rfl) ?_
    refine LM.nil (QM.sub (e' := [(1, _), (3, _), (32, _)]) au9 ?_)
    refine QM.meetK (_) ⟨au2, rfl, rfl, trivial⟩ au1 ?_
    · unfold numB; rw [decide_eq_true (show 0 ≤ (numsA o).getD i 0 by omega), decide_eq_false (show ¬ (numsA o).getD i 0 ≤ 999999999 by omega)]; rfl
   refine LM.sp 22 rfl rfl rfl (LM.mv rfl (LM.sp 22 rfl rfl rfl (LM.val (ov_field Tryz.underlying123 rfl Tryz.sizeOf3 rfl (k := 0) rfl rfl) (LM.sp 22 rfl rfl rfl ?_))))
   refine LM.rd (om_ld Tryz.isAgg3 rfl rfl) ?_
   refine LM.sp 22 rfl rfl rfl ?_
   refine LM.callE (oc_call (enters_fn Tryz.func113 (by kernel_rfl) rfl) rfl) (fun w hm hc hg => rmany_spec _ w hk8) ?_
   refine LM.sp 22 rfl rfl rfl ?_
   refine LM.val (ov_geq rfl rfl) ?_
   refine LM.sp 22 rfl rfl rfl (LM.mv rfl ?_)
   refine LM.splitD (t := 28) rfl (fun h5 => ?_) (fun h5 => ?_)
   ·
    refine LM.sp 28 rfl rfl rfl (LM.mv rfl (LM.sp 28 rfl rfl rfl ?_))
    refine LM.val (ov_neq rfl rfl) ?_
    refine LM.sp 22 rfl rfl rfl ?_
    refine LM.val (ov_pickT rfl rfl) ?_
    refine LM.val (ov_pickF rfl rfl) ?_
    refine LM.nil (QM.sub (e' := [(1, _), (3, _), (32, _)]) au9 ?_)
    refine QM.meetK (_) ⟨au2, rfl, rfl, trivial⟩ au1 ?_
    · unfold numB; rw [decide_eq_true (show 0 ≤ (numsA o).getD i 0 by omega), decide_eq_true (show (numsA o).getD i 0 ≤ 999999999 by omega), decide_eq_false (show ¬ i < manyA o.k by omega)]; simp only [Bool.true_and, Bool.false_or, decide_not]
   refine LM.dr 28 rfl rfl rfl (LM.dr 28 rfl rfl rfl (LM.sp 22 rfl rfl rfl ?_))
   refine LM.val (ov_pickF rfl rfl) ?_
   refine LM.val (ov_pickF rfl rfl) ?_
   refine LM.nil (QM.sub (e' := [(1, _), (3, _), (32, _)]) au9 ?_)
   refine QM.meetK (_) ⟨au2, rfl, rfl, trivial⟩ au1 ?_
   · unfold numB; rw [decide_eq_true (show 0 ≤ (numsA o).getD i 0 by omega), decide_eq_true (show (numsA o).getD i 0 ≤ 999999999 by omega), decide_eq_true (show i < manyA o.k by omega)]; rfl
  rintro q hq
  change QM _ _ _ _ _ ((b1, .cells (fA o).toArray 123 (0, 0)) :: []) _ _ _
  refine QM.then ?_
  first | refine wpM.condD rfl (fun h6 => ?_) (fun h6 => ?_) | refine wpM.condB rfl (fun h6 => ?_) (fun h6 => ?_)
  ·
   refine wpM.seq (wpM.region ?_)
   refine LM.as rfl ?_
   refine LM.nil (QM.sub (e' := [(2, _)]) ⟨rfl, trivial⟩ (QM.then ?_))
   refine wpM.ret ?_
   refine QM.block_ret ?_
   refine QM.then_ret ?_
   refine QM.then_ret ?_
   refine QM.block_ret ?_
   refine QM.then_ret ?_
   refine QM.leave (.inl rfl) [.tmp 2] Tryz.results122 rfl ?_
   intro w' hm' hc' hg'
   refine ⟨?_, hc'⟩; show Value.bool false = _; rw [right_not (j := i) (by omega) (by simpa using hq.symm.trans h6)]
  refine wpM.skip ?_
  refine QM.block_normal ?_
  refine QM.then (wpM.region ?_)
  refine LM.mv rfl ?_
  refine LM.val (ov_add64 rfl rfl (by omega)) ?_
  refine LM.as rfl ?_
  refine LM.nil (QM.sub (e' := [(1, _), (3, _)]) au9 ?_)
  refine QM.againK (i + 1) ⟨au2, rfl, trivial⟩ au1 (fun _ h => h) ?_ ?_
  · exact ⟨by omega, before_next ha (by simpa using hq.symm.trans h6)⟩
  · omega
 refine wpM.exit ?_
 refine QM.then_exit ?_
 refine QM.then_exit ?_
 refine QM.block_hit ?_
 refine QM.then (wpM.seq (wpM.region ?_))
 refine LM.as rfl ?_
 refine LM.nil (QM.sub (e' := [(2, _)]) ⟨rfl, trivial⟩ (QM.then ?_))
 refine wpM.ret ?_
 refine QM.leave (.inl rfl) [.tmp 2] Tryz.results122 rfl ?_
 intro w' hm' hc' hg'
 refine ⟨?_, hc'⟩; show Value.bool true = _; rw [right_all hko (fun j hj => ha j (by omega))]
set_option maxRecDepth 100000 in
theorem aright_spec (o : Act) (w : World) : Ret Tryz.prog 117 #[.agg (fA o).toArray] w (fun v w' => v = .bool (rightA o) ∧ Ext w w') := by
 refine Ret.enterM (l := [.agg (fA o).toArray]) Tryz.func117 rfl Tryz.ntmps117 rfl ([]) (no) (Mem.nil w) ?_
 refine wpM.seq (wpM.region ?_)
 refine LM.box rfl rfl (fun b1 hb1 => ?_)
 refine LM.as rfl ?_
 refine LM.nil (QM.sub (e' := [(1, _)]) ⟨rfl, trivial⟩ (QM.then ?_))
 refine wpM.seq ?_
 refine wpM.seq (wpM.region ?_)
 refine LM.val (ov_field Tryz.underlying123 rfl Tryz.sizeOf3 rfl (k := 0) rfl rfl) ?_
 refine LM.rd (om_ld Tryz.isAgg3 rfl rfl) ?_
 refine LM.callE (oc_call (enters_fn Tryz.func118 (by kernel_rfl) rfl) rfl) (fun w hm hc hg => aname_spec _ w) ?_
 refine LM.val (ov_seqlL rfl rfl) ?_
 refine LM.nil (QM.sub (e' := [(1, _), (8, _)]) au9 (QM.then ?_))
 refine wpM.condD rfl (fun h1 => ?_) (fun h1 => ?_)
 ·
  refine wpM.seq (wpM.region ?_)
  refine LM.as rfl ?_
  refine LM.nil (QM.sub (e' := [(2, _)]) ⟨rfl, trivial⟩ (QM.then ?_))
  refine wpM.ret ?_
  refine QM.then_ret ?_
  refine QM.leave (.inl rfl) [.tmp 2] Tryz.results117 rfl ?_
  intro w' hm' hc' hg'
  refine ⟨?_, hc'⟩; have hko : kindOk o.k = false := (by rw [← acT_empty]; rw [h1]; rfl); show Value.bool false = _; unfold rightA; rw [hko]; rfl
 have hko : kindOk o.k = true := (by rw [← acT_empty]; exact decide_eq_true h1); have hl4 : (numsA o).length = 4 := rfl
 refine wpM.skip ?_
 refine QM.then ?_
 refine wpM.seq ?_
 refine wpM.seq (wpM.region ?_)
 refine LM.rd (om_ldW Tryz.isAgg123 Tryz.sizeOf123 rfl rfl) ?_
 refine LM.cS (oc_call (enters_fn Tryz.func119 (by kernel_rfl) rfl) rfl) (fun w hm hc hg => numbers_spec o w) (fun ad10 n10 cap10 m10 hn10 hs10 => ?_)
 refine LM.val (ov_len Tryz.underlying26 rfl) ?_
 refine LM.mv rfl ?_
 refine LM.nil (QM.sub (e' := [(1, _), (10, _), (11, _), (12, _)]) au9 (QM.then ?_))
 refine wpM.block ?_
 refine wpM.loopK0 (α := Nat) (fun i => [(12, .int .i64 (i : Nat))]) [(1, _), (10, _), (11, _)] (fun i => m10 ++ ((b1, .cells (fA o).toArray 123 (0, 0)) :: [])) (fun i => i ≤ 4 ∧ ∀ j, j < i → numB o.k j ((numsA o).getD j 0) = true) (fun i => 4 - i) (0) ⟨au2, rfl, rfl, rfl, trivial⟩ au1 ⟨Nat.zero_le _, fun j hj => absurd hj (Nat.not_lt_zero _)⟩ ?_
 rintro i ⟨hi, ha⟩
 change wpM _ _ _ _ _ _ _ (m10 ++ ((b1, .cells (fA o).toArray 123 (0, 0)) :: [])) _ _ _
 refine wpM.seq (wpM.region ?_)
 refine LM.val (ov_lss rfl rfl) ?_
 refine LM.nil (QM.sub (e' := [(1, _), (10, _), (11, _), (12, _), (13, _)]) au9 (QM.then ?_))
 refine wpM.seq ?_
 refine wpM.condD rfl (fun h2 => ?_) (fun h2 => ?_)
 ·
  refine wpM.skip ?_
  refine QM.then ?_
  refine wpM.seq ?_
  refine wpM.block ?_
  refine wpM.seq (wpM.region ?_)
  refine LM.mv rfl ?_
  refine LM.val (ov_idxSN au6 Tryz.underlying26 Tryz.sizeOf3 rfl rfl (by omega)) ?_
  refine LM.rd (om_sl1 (by assumption) (by intro _; rfl) Tryz.isAgg3 rfl rfl (by exact getq 0 au4) (by rfl)) ?_
  refine LM.as rfl (LM.as rfl ?_)
  refine LM.nil (QM.sub (e' := [(1, _), (3, _), (4, _), (10, _), (11, _), (12, _)]) au9 (QM.then ?_))
  refine wpM.seq ?_
  refine wpM.joinK (α := Bool) (fun q => [(33, .bool q)]) [(1, _), (10, _), (11, _), (12, _)] (fun q => m10 ++ ((b1, .cells (fA o).toArray 123 (0, 0)) :: [])) (fun q => q = !numB o.k i ((numsA o).getD i 0)) ⟨rfl, rfl, rfl, rfl, trivial⟩ ?_ ?_
  ·
   refine wpM.region ?_
   refine LM.mv rfl ?_
   refine LM.val (ov_lss rfl rfl) ?_
   refine LM.mv rfl ?_
   refine LM.splitD (t := 19) rfl (fun h3 => ?_) (fun h3 => ?_)
   ·
    refine LM.dr 19 rfl rfl rfl (LM.dr 19 rfl rfl rfl ?_)
    refine LM.val (ov_pickT rfl rfl) ?_
    refine LM.mv rfl (LM.dr 23 rfl rfl rfl (LM.dr 23 rfl rfl rfl (LM.dr 23 rfl rfl rfl (LM.dr 23 rfl rfl rfl (LM.dr 23 rfl rfl rfl ?_)))))
    refine LM.dropU (t := 23) rfl rfl rfl ?_
    refine LM.dropX (t := 29) rfl rfl ?_
    refine LM.dropX (t := 29) rfl rfl ?_
    refine LM.dr 23 rfl rfl rfl ?_
    refine LM.val (ov_pickT rfl rfl) ?_
    refine LM.nil (QM.sub (e' := [(1, _), (10, _), (11, _), (12, _), (33, _)]) au9 ?_)
    refine QM.meetK (_) ⟨au2, rfl, rfl, rfl, rfl, trivial⟩ au1 ?_
    · unfold numB; rw [decide_eq_false (show ¬ 0 ≤ (numsA o).getD i 0 by omega)]; rfl
   refine LM.sp 19 rfl rfl rfl (LM.mv rfl (LM.sp 19 rfl rfl rfl ?_))
   refine LM.val (ov_gtr rfl rfl) ?_
   refine LM.val (ov_pickF rfl rfl) ?_
   refine LM.mv rfl ?_
   refine LM.splitD (t := 23) rfl (fun h4 => ?_) (fun h4 => ?_)
   ·
    refine LM.dr 23 rfl rfl rfl (LM.dr 23 rfl rfl rfl (LM.dr 23 rfl rfl rfl (LM.dr 23 rfl rfl rfl (LM.dr 23 rfl rfl rfl ?_))))
    refine LM.dropU (t := 23) rfl rfl rfl ?_
    refine LM.dropX (t := 29) rfl rfl ?_
    refine LM.dropX (t := 29) rfl rfl ?_
    refine LM.dr 23 rfl rfl rfl ?_
    refine LM.val (ov_pickT rfl rfl) ?_
    refine LM.nil (QM.sub (e' := [(1, _), (10, _), (11, _), (12, _), (33, _)]) au9 ?_)
    refine QM.meetK (_) ⟨au2, rfl, rfl, rfl, rfl, trivial⟩ au1 ?_
    · unfold numB; rw [decide_eq_true (show 0 ≤ (numsA o).getD i 0 by omega), decide_eq_false (show ¬ (numsA o).getD i 0 ≤ 999999999 by omega)]; rfl
   refine LM.sp 23 rfl rfl rfl (LM.mv rfl (LM.sp 23 rfl rfl rfl (LM.val (ov_field Tryz.underlying123 rfl Tryz.sizeOf3 rfl (k := 0) rfl rfl) (LM.sp 23 rfl rfl rfl ?_))))
   refine LM.rd (om_ld Tryz.isAgg3 rfl rfl) ?_
   refine LM.sp 23 rfl rfl rfl ?_
   refine LM.callE (oc_call (enters_fn Tryz.func120 (by kernel_rfl) rfl) rfl) (fun w hm hc hg => many_spec _ w) ?_
   refine LM.sp 23 rfl rfl rfl ?_
   refine LM.val (ov_geq rfl rfl) ?_
   refine LM.sp 23 rfl rfl rfl (LM.mv rfl ?_)
   refine LM.splitD (t := 29) rfl (fun h5 => ?_) (fun h5 => ?_)
   ·
    refine LM.sp 29 rfl rfl rfl (LM.mv rfl (LM.sp 29 rfl rfl rfl ?_))
    refine LM.val (ov_neq rfl rfl) ?_
    refine LM.sp 23 rfl rfl rfl ?_
    refine LM.val (ov_pickT rfl rfl) ?_
    refine LM.val (ov_pickF rfl rfl) ?_
    refine LM.nil (QM.sub (e' := [(1, _), (10, _), (11, _), (12, _), (33, _)]) au9 ?_)
    refine QM.meetK (_) ⟨au2, rfl, rfl, rfl, rfl, trivial⟩ au1 ?_
    · unfold numB; rw [decide_eq_true (show 0 ≤ (numsA o).getD i 0 by omega), decide_eq_true (show (numsA o).getD i 0 ≤ 999999999 by omega), decide_eq_false (show ¬ i < manyA o.k by omega)]; simp only [Bool.true_and, Bool.false_or, decide_not]
   refine LM.dr 29 rfl rfl rfl (LM.dr 29 rfl rfl rfl (LM.sp 23 rfl rfl rfl ?_))
   refine LM.val (ov_pickF rfl rfl) ?_
   refine LM.val (ov_pickF rfl rfl) ?_
   refine LM.nil (QM.sub (e' := [(1, _), (10, _), (11, _), (12, _), (33, _)]) au9 ?_)
   refine QM.meetK (_) ⟨au2, rfl, rfl, rfl, rfl, trivial⟩ au1 ?_
   · unfold numB; rw [decide_eq_true (show 0 ≤ (numsA o).getD i 0 by omega), decide_eq_true (show (numsA o).getD i 0 ≤ 999999999 by omega), decide_eq_true (show i < manyA o.k by omega)]; rfl
  rintro q hq
  change QM _ _ _ _ _ (m10 ++ ((b1, .cells (fA o).toArray 123 (0, 0)) :: [])) _ _ _
  refine QM.then ?_
  first | refine wpM.condD rfl (fun h6 => ?_) (fun h6 => ?_) | refine wpM.condB rfl (fun h6 => ?_) (fun h6 => ?_)
  ·
   refine wpM.seq (wpM.region ?_)
   refine LM.as rfl ?_
   refine LM.nil (QM.sub (e' := [(2, _)]) ⟨rfl, trivial⟩ (QM.then ?_))
   refine wpM.ret ?_
   refine QM.block_ret ?_
   refine QM.then_ret ?_
   refine QM.then_ret ?_
   refine QM.block_ret ?_
   refine QM.then_ret ?_
   refine QM.leave (.inl rfl) [.tmp 2] Tryz.results117 rfl ?_
   intro w' hm' hc' hg'
   refine ⟨?_, hc'⟩; show Value.bool false = _; rw [right_not (j := i) (by omega) (by simpa using hq.symm.trans h6)]
  refine wpM.skip ?_
  refine QM.block_normal ?_
  refine QM.then (wpM.region ?_)
  refine LM.val (ov_add64 rfl rfl (by omega)) ?_
  refine LM.mv rfl ?_
  refine LM.nil (QM.sub (e' := [(1, _), (10, _), (11, _), (12, _)]) au9 ?_)
  refine QM.againK (i + 1) ⟨au2, rfl, rfl, rfl, trivial⟩ au1 (fun _ h => h) ?_ ?_
  · exact ⟨by omega, before_next ha (by simpa using hq.symm.trans h6)⟩
  · omega
 refine wpM.exit ?_
 refine QM.then_exit ?_
 refine QM.then_exit ?_
 refine QM.block_hit ?_
 refine QM.then (wpM.seq (wpM.region ?_))
 refine LM.as rfl ?_
 refine LM.nil (QM.sub (e' := [(2, _)]) ⟨rfl, trivial⟩ (QM.then ?_))
 refine wpM.ret ?_
 refine QM.leave (.inl rfl) [.tmp 2] Tryz.results117 rfl ?_
 intro w' hm' hc' hg'
 refine ⟨?_, hc'⟩; show Value.bool true = _; rw [right_all hko (fun j hj => ha j (by omega))]
set_option maxRecDepth 100000 in
theorem amay1_spec (o : Act) (w : World) : Ret Tryz.prog 116 #[.agg (fA o).toArray] w (fun v w' => v = .bool (!rightA o) ∧ Ext w w') := by
 refine Ret.enterM (l := [.agg (fA o).toArray]) Tryz.func116 rfl Tryz.ntmps116 rfl ([]) (no) (Mem.nil w) ?_
 refine wpM.seq (wpM.region ?_)
 refine LM.box rfl rfl (fun b1 hb1 => ?_)
 refine LM.as rfl ?_
 refine LM.nil (QM.sub (e' := [(1, _)]) ⟨rfl, trivial⟩ (QM.then (wpM.seq (wpM.region ?_))))
 refine LM.rd (om_ldW Tryz.isAgg123 Tryz.sizeOf123 rfl rfl) ?_
 refine LM.callE (oc_call (enters_fn Tryz.func117 (by kernel_rfl) rfl) rfl) (fun w hm hc hg => aright_spec o w) ?_
 first | refine LM.val (ov_notD rfl) ?_ | refine LM.val (ov_not rfl) ?_
 refine LM.as rfl ?_
 refine LM.nil (QM.sub (e' := [(2, _)]) ⟨rfl, trivial⟩ (QM.then ?_))
 refine wpM.ret ?_
 refine QM.leave (.inl rfl) [.tmp 2] Tryz.results116 rfl ?_
 intro w' hm' hc' hg'
 exact ⟨rfl, hc'⟩
set_option maxRecDepth 100000 in
theorem ixf_amay {xs : List Act} {ad : Option Addr} {n cap : Nat} (w : World) (hn : n = xs.length) (hl : Sr fA 5 xs (.slice ad n cap) w) (hx : xs.length ≤ 1000000) : Ret Tryz.prog 148 #[.slice ad n cap, .func (.func 116) #[] #[]] w (fun v w' => v = .int .i64 (fixI (fun o => !rightA o) xs) ∧ Ext w w') := by
 refine Ret.enterM (l := [.slice ad n cap, .func (.func 116) #[] #[]]) Tryz.func148 rfl Tryz.ntmps148 rfl ([]) (no) (Mem.nil w) ?_
 refine wpM.seq (wpM.region ?_)
 refine LM.as rfl ?_
 refine LM.nil (QM.sub (e' := [(0, _), (1, _)]) au9 (QM.then ?_))
 refine wpM.seq ?_
 refine wpM.seq (wpM.region ?_)
 refine LM.mv rfl ?_
 refine LM.val (ov_len Tryz.underlying47 rfl) ?_
 refine LM.mv rfl ?_
 refine LM.nil (QM.sub (e' := [(0, _), (1, _), (7, _), (8, _)]) au9 (QM.then ?_))
 refine wpM.block ?_
 refine wpM.loopK0 (α := Nat) (fun i => [(8, .int .i64 (i : Nat))]) [(0, _), (1, _), (7, _)] (fun i => []) (fun i => i ≤ xs.length ∧ (xs.take i).any (fun o => !rightA o) = false) (fun i => xs.length - i) (0) ⟨au2, rfl, rfl, rfl, trivial⟩ au1 ⟨Nat.zero_le _, rfl⟩ ?_
 rintro i ⟨hi, ha⟩
 change wpM _ _ _ _ _ _ _ ([]) _ _ _
 refine wpM.seq (wpM.region ?_)
 refine LM.val (ov_lss rfl rfl) ?_
 refine LM.nil (QM.sub (e' := [(0, _), (1, _), (7, _), (8, _), (9, _)]) au9 (QM.then ?_))
 refine wpM.seq ?_
 refine wpM.condD rfl (fun h1 => ?_) (fun h1 => ?_)
 ·
  refine wpM.skip ?_
  refine QM.then ?_
  refine wpM.seq ?_
  refine wpM.block ?_
  refine wpM.seq (wpM.region ?_)
  refine LM.mv rfl (LM.as rfl ?_)
  refine LM.nil (QM.sub (e' := [(0, _), (1, _), (5, _), (7, _), (8, _)]) au9 (QM.then (wpM.seq (wpM.region ?_))))
  refine LM.mv rfl (LM.mv rfl (LM.mv rfl ?_))
  refine LM.val (ov_idxSN au6 Tryz.underlying47 Tryz.sizeOf123 rfl rfl (by omega)) ?_
  first | refine LM.rd (om_slA (by assumption) (by intro _; rfl) Tryz.isAgg123 Tryz.sizeOf123 rfl au3) ?_ | refine LM.rdC (om_srEA (by assumption) (by intro _; rfl) Tryz.isAgg123 Tryz.sizeOf123 rfl au3 id) ?_ | refine LM.rd (om_ldW Tryz.isAgg123 Tryz.sizeOf123 rfl rfl) ?_ | refine LM.rd (om_ldA Tryz.isAgg123 Tryz.sizeOf123 rfl (vs := [_, _, _, _, _]) rfl ⟨rfl, rfl, rfl, rfl, rfl, trivial⟩) ?_
  refine LM.callE (oc_callV rfl (enters_fn Tryz.func116 (by kernel_rfl) rfl) rfl) (fun w hm hc hg => amay1_spec _ w) ?_
  refine LM.nil (QM.sub (e' := [(0, _), (1, _), (5, _), (7, _), (8, _), (16, _)]) au9 (QM.then ?_))
  first | refine wpM.condD rfl (fun h2 => ?_) (fun h2 => ?_) | refine wpM.condB rfl (fun h2 => ?_) (fun h2 => ?_)
  ·
   refine wpM.seq (wpM.region ?_)
   refine LM.mv rfl (LM.as rfl ?_)
   refine LM.nil (QM.sub (e' := [(4, _)]) ⟨rfl, trivial⟩ (QM.then ?_))
   refine wpM.ret ?_
   refine QM.block_ret ?_
   refine QM.then_ret ?_
   refine QM.then_ret ?_
   refine QM.block_ret ?_
   refine QM.then_ret ?_
   refine QM.leave (.inl rfl) [.tmp 4] Tryz.results148 rfl ?_
   intro w' hm' hc' hg'
   exact ⟨by show Value.int .i64 _ = _; rw [fix_hit default ha (by omega) (by simpa using h2)], hc'⟩
  refine wpM.skip ?_
  refine QM.block_normal ?_
  refine QM.then (wpM.region ?_)
  refine LM.val (ov_add64 rfl rfl (by omega)) ?_
  refine LM.mv rfl ?_
  refine LM.nil (QM.sub (e' := [(0, _), (1, _), (7, _), (8, _)]) au9 ?_)
  refine QM.againK (i + 1) ⟨au2, rfl, rfl, rfl, trivial⟩ au1 (fun _ h => h) ?_ ?_
  · exact ⟨by omega, by rw [any_snoc default (by omega), ha, Bool.false_or]; simpa using h2⟩
  · omega
 refine wpM.exit ?_
 refine QM.then_exit ?_
 refine QM.then_exit ?_
 refine QM.block_hit ?_
 refine QM.then (wpM.seq (wpM.region ?_))
 refine LM.as rfl ?_
 refine LM.nil (QM.sub (e' := [(4, _)]) ⟨rfl, trivial⟩ (QM.then ?_))
 refine wpM.ret ?_
 refine QM.leave (.inl rfl) [.tmp 4] Tryz.results148 rfl ?_
 intro w' hm' hc' hg'
 have hil : i = xs.length := (by omega); subst hil; rw [List.take_length] at ha; exact ⟨by show Value.int .i64 _ = _; rw [fix_miss ha], hc'⟩
set_option maxRecDepth 100000 in
theorem cof_amay {xs : List Act} {ad : Option Addr} {n cap : Nat} (w : World) (hn : n = xs.length) (hl : Sr fA 5 xs (.slice ad n cap) w) (hx : xs.length ≤ 1000000) : Ret Tryz.prog 115 #[.slice ad n cap, .func (.func 116) #[] #[]] w (fun v w' => v = .bool (xs.any (fun o => !rightA o)) ∧ Ext w w') := by
 refine Ret.enterM (l := [.slice ad n cap, .func (.func 116) #[] #[]]) Tryz.func115 rfl Tryz.ntmps115 rfl ([]) (no) (Mem.nil w) ?_
 refine wpM.seq (wpM.region ?_)
 refine LM.as rfl ?_
 refine LM.nil (QM.sub (e' := [(0, _), (1, _)]) au9 (QM.then (wpM.seq (wpM.region ?_))))
 refine LM.mv rfl (LM.mv rfl ?_)
 refine LM.callE (oc_call (enters_fn Tryz.func148 (by kernel_rfl) rfl) rfl) (fun w hm hc hg => ixf_amay w hn (hl.ext hc) hx) ?_
 refine LM.val (ov_geq rfl rfl) ?_
 refine LM.as rfl ?_
 refine LM.nil (QM.sub (e' := [(4, _)]) ⟨rfl, trivial⟩ (QM.then ?_))
 refine wpM.ret ?_
 refine QM.leave (.inl rfl) [.tmp 4] Tryz.results115 rfl ?_
 intro w' hm' hc' hg'
 exact ⟨by show Value.bool _ = _; rw [← fix_pos], hc'⟩
set_option maxRecDepth 100000 in
theorem amay_spec {xs : List Act} {ad : Option Addr} {n cap : Nat} (w : World) (hn : n = xs.length) (hl : Sr fA 5 xs (.slice ad n cap) w) : Ret Tryz.prog 71 #[.slice ad n cap] w (fun v w' => v = .bool (mayA xs) ∧ Ext w w') := by
 refine Ret.enterM (l := [.slice ad n cap]) Tryz.func71 rfl Tryz.ntmps71 rfl ([]) (no) (Mem.nil w) ?_
 refine wpM.seq (wpM.region ?_)
 refine LM.as rfl ?_
 refine LM.nil (QM.sub (e' := [(0, _)]) ⟨rfl, trivial⟩ (QM.then (wpM.seq (wpM.region ?_))))
 refine LM.mv rfl ?_
 refine LM.val (ov_len Tryz.underlying47 rfl) ?_
 refine LM.val (ov_leq rfl rfl) ?_
 refine LM.mv rfl ?_
 refine LM.splitD (t := 6) rfl (fun h1 => ?_) (fun h1 => ?_)
 ·
  refine LM.sp 6 rfl rfl rfl (LM.mv rfl (LM.sp 6 rfl rfl rfl ?_))
  refine LM.callE (oc_call (enters_fn Tryz.func115 (by kernel_rfl) rfl) rfl) (fun w hm hc hg => cof_amay w hn (hl.ext hc) (by omega)) ?_
  refine LM.sp 6 rfl rfl rfl ?_
  first | refine LM.val (ov_notD rfl) ?_ | refine LM.val (ov_not rfl) ?_
  refine LM.val (ov_pickT rfl rfl) ?_
  refine LM.as rfl ?_
  refine LM.nil (QM.sub (e' := [(2, _)]) ⟨rfl, trivial⟩ (QM.then ?_))
  refine wpM.ret ?_
  refine QM.leave (.inl rfl) [.tmp 2] Tryz.results71 rfl ?_
  intro w' hm' hc' hg'
  refine ⟨?_, hc'⟩; simp only [resV, mayA]; congr 1; first | (rw [decide_eq_false (show ¬ xs.length ≤ 4000 by omega)]; simp; done) | (rw [decide_eq_true (show xs.length ≤ 4000 by omega), all_any]; rfl)
 refine LM.dr 6 rfl rfl rfl (LM.dr 6 rfl rfl rfl (LM.dr 6 rfl rfl rfl ?_))
 refine LM.val (ov_pickF rfl rfl) ?_
 refine LM.as rfl ?_
 refine LM.nil (QM.sub (e' := [(2, _)]) ⟨rfl, trivial⟩ (QM.then ?_))
 refine wpM.ret ?_
 refine QM.leave (.inl rfl) [.tmp 2] Tryz.results71 rfl ?_
 intro w' hm' hc' hg'
 refine ⟨?_, hc'⟩; simp only [resV, mayA]; congr 1; first | (rw [decide_eq_false (show ¬ xs.length ≤ 4000 by omega)]; simp; done) | (rw [decide_eq_true (show xs.length ≤ 4000 by omega), all_any]; rfl)
end Go.Eng
namespace Go.Eng
open Go Go.Proofs Go.RowKit
theorem oneA_0 {ws : List Wrd} {i : Nat} (h : kindA ws i = 0) : oneA ws i = (default, i, 5) := by unfold oneA; rw [if_pos h]
theorem oneA_n {ws : List Wrd} {i j : Nat} {xs : List Int} (h : kindA ws i ≠ 0) (h2 : numK ws i = (j, 5, xs)) : oneA ws i = (default, j, 5) := by unfold oneA; rw [if_neg h, h2, if_pos (show (5 : Int) ≠ 0 by decide)]
theorem oneA_s {ws : List Wrd} {i j : Nat} {xs : List Int} (h : kindA ws i ≠ 0) (h2 : numK ws i = (j, 0, xs)) (h3 : isR ws j 3 [59] = false) : oneA ws i = (default, j, 5) := by unfold oneA; rw [if_neg h, h2, if_neg (fun q => q rfl), if_neg (by rw [h3]; simp)]
theorem oneA_ok {ws : List Wrd} {i j : Nat} {xs : List Int} (h : kindA ws i ≠ 0) (h2 : numK ws i = (j, 0, xs)) (h3 : isR ws j 3 [59] = true) : oneA ws i = (toA (kindA ws i) xs, j + 1, 0) := by unfold oneA; rw [if_neg h, h2, if_neg (fun q => q rfl), if_pos h3]
theorem numG_stop {ws : List Wrd} {f j i : Nat} {xs : List Int} (hf : 0 < f) (h : (decide (ws.length ≤ j) || decide ((ws.getD j default).k ≠ 2)) = true) : numG ws f j i xs = (j, 5, xs) := by
  obtain ⟨g, rfl⟩ : ∃ g, f = g + 1 := ⟨f - 1, by omega⟩
  unfold numG; rw [if_pos h]
theorem numG_next {ws : List Wrd} {f j i : Nat} {xs : List Int} (hf : 0 < f) (h : (decide (ws.length ≤ j) || decide ((ws.getD j default).k ≠ 2)) = false) : numG ws f j i xs = numG ws (f - 1) (j + 1) (i + 1) (xs.set i (ws.getD j default).n) := by
  obtain ⟨g, rfl⟩ : ∃ g, f = g + 1 := ⟨f - 1, by omega⟩
  conv => lhs; unfold numG
  rw [if_neg (by rw [h]; simp), Nat.add_sub_cancel]
theorem kindA_yes {ws : List Wrd} {i : Nat} (hi : i < ws.length) (h : (ws.getD i default).k = 1) : kindA ws i = kindAT (ws.getD i default).t := by unfold kindA; rw [decide_eq_true hi, decide_eq_true h]; rfl
theorem kindA_no {ws : List Wrd} {i : Nat} (h : (ws.getD i default).k ≠ 1) : kindA ws i = 0 := by unfold kindA; rw [decide_eq_false h, Bool.and_false]; rfl
def AcT (r : List Act × Int × Int) (n0 : Nat) (v : Value) (m : Mem0) : Prop := ∃ ad n cap, v = .tuple #[.slice ad n cap, .int .i64 r.2.1, .int .i64 r.2.2] ∧ n = r.1.length ∧ Sl fA 123 5 n0 r.1 (.slice ad n cap) m
theorem AcT.mono {r : List Act × Int × Int} : ∀ (k k' : Nat) u m, k' ≤ k → AcT r k u m → AcT r k' u m := fun k k' u m h ⟨ad, n, cap, h1, h2, h3⟩ => ⟨ad, n, cap, h1, h2, h3.mono h⟩
def fullA (ws : List Wrd) (i : Nat) (out : List Act) : Bool := decide (out.length = 4000) && decide (kindA ws i ≠ 0)
theorem loopA_full {ws : List Wrd} {i : Nat} {out : List Act} (h : i < ws.length) (hq : fullA ws i out = true) : loopA ws i out = ([], (i : Int), 6) := by
  unfold fullA at hq; simp only [Bool.and_eq_true, decide_eq_true_eq] at hq
  rw [loopA_step h, if_neg hq.2, if_pos hq.1]
theorem loopA_bad {ws : List Wrd} {i : Nat} {out : List Act} (h : i < ws.length) (hq : fullA ws i out = false) (he : (oneA ws i).2.2 ≠ 0) : loopA ws i out = ([], ((oneA ws i).2.1 : Int), (oneA ws i).2.2) := by
  unfold fullA at hq; simp only [Bool.and_eq_false_iff, decide_eq_false_iff_not] at hq
  rw [loopA_step h]
  by_cases h0 : kindA ws i = 0
  · rw [if_pos h0, oneA_0 h0]
  · rw [if_neg h0, if_neg (by rcases hq with q | q; exact q; exact absurd h0 q), if_pos he]
theorem loopA_next {ws : List Wrd} {i : Nat} {out : List Act} (h : i < ws.length) (hq : fullA ws i out = false) (he : (oneA ws i).2.2 = 0) : loopA ws i out = loopA ws (oneA ws i).2.1 (out ++ [(oneA ws i).1]) ∧ out.length ≠ 4000 := by
  unfold fullA at hq; simp only [Bool.and_eq_false_iff, decide_eq_false_iff_not] at hq
  have h0 : kindA ws i ≠ 0 := fun q => by rw [oneA_0 q] at he; cases he
  have h1 : out.length ≠ 4000 := by rcases hq with q | q; exact q; exact absurd h0 q
  exact ⟨by rw [loopA_step h, if_neg h0, if_neg h1, if_neg (fun q => q he)], h1⟩
theorem begins_eq {ws : List Wrd} {i : Nat} (hi : i < ws.length) : (decide ((ws.getD i default).k = 1) && decide (kindAT (ws.getD i default).t ≠ 0)) = decide (kindA ws i ≠ 0) := by
  by_cases h : (ws.getD i default).k = 1
  · rw [kindA_yes hi h, decide_eq_true h, Bool.true_and]
  · rw [kindA_no h, decide_eq_false h]; rfl
theorem mx0_pos {a : Int} : decide (a > 0) = decide (mx0 a ≠ 0) := decide_eq_decide.2 (by unfold mx0; constructor <;> intro h <;> (first | omega | (split at h <;> omega) | (split <;> omega)))
set_option maxRecDepth 100000 in
set_option maxHeartbeats 1000000 in
theorem actone_spec {ws : List Wrd} {ad : Option Addr} {n cap : Nat} (i : Nat) (w : World) (hn : n = ws.length) (hx : ws.length ≤ 1000000000) (hl : Sr fW 4 ws (.slice ad n cap) w) (hi : i < ws.length) : Ret Tryz.prog 111 #[.slice ad n cap, .int .i64 (i : Nat)] w (fun v w' => v = .tuple #[.agg (fA (oneA ws i).1).toArray, .int .i64 ((oneA ws i).2.1 : Nat), .int .i64 (oneA ws i).2.2] ∧ Ext w w') := by
 refine Ret.enterM (l := [.slice ad n cap, .int .i64 (i : Nat)]) Tryz.func111 rfl Tryz.ntmps111 rfl ([]) (no) (Mem.nil w) ?_
 refine wpM.seq (wpM.region ?_)
 refine LM.alloc Tryz.zeroValue123 rfl (fun b4 hb4 => ?_)
 refine LM.as rfl (LM.as rfl ?_)
 refine LM.nil (QM.sub (e' := [(0, _), (1, _), (4, _)]) au9 (QM.then (wpM.seq (wpM.region ?_))))
 refine LM.as rfl ?_
 refine LM.nil (QM.sub (e' := [(0, _), (1, _), (4, _), (7, _)]) au9 (QM.then ?_))
 refine wpM.seq ?_
 refine wpM.seq (wpM.region ?_)
 refine LM.mv rfl (LM.mv rfl ?_)
 refine LM.val (ov_idxSN au6 Tryz.underlying23 Tryz.sizeOf65 rfl rfl (by omega)) ?_
 refine LM.val (ov_field Tryz.underlying65 rfl Tryz.sizeOf3 rfl (k := 0) rfl rfl) ?_
 first | refine LM.rd (om_slE (j := 0) (by assumption) (by intro _; rfl) Tryz.isAgg3 rfl rfl au3 rfl (by rfl)) ?_ | refine LM.rdC (om_srE (j := 0) (by assumption) Tryz.isAgg3 rfl rfl au3 (by rfl) (by rfl) id) ?_ | refine LM.rd (om_ld Tryz.isAgg3 rfl rfl) ?_
 refine LM.val (ov_eql rfl rfl) ?_
 refine LM.nil (QM.sub (e' := [(0, _), (1, _), (4, _), (7, _), (15, _)]) au9 (QM.then ?_))
 refine wpM.joinK (α := Int) (fun kd => [(7, .int .i64 kd)]) [(0, _), (1, _), (4, _)] (fun kd => (b4, .cells (fA default).toArray 123 (0, 0)) :: []) (fun kd => kd = kindA ws i) ⟨rfl, rfl, rfl, trivial⟩ ?_ ?_
 ·
  refine wpM.condD rfl (fun h1 => ?_) (fun h1 => ?_)
  ·
   refine wpM.draw [(1, 0), (2, 0), (3, 0), (4, 0), (5, 1), (0, 2), (6, 2), (7, 0), (8, 0)] (by kernel_rfl) (by kernel_rfl) ?_
   refine LD.val rfl rfl (ov_move rfl) ?_
   refine LD.val rfl rfl (ov_move rfl) ?_
   refine LD.val rfl rfl (ov_idxSN au6 Tryz.underlying23 Tryz.sizeOf65 rfl rfl (by omega)) ?_
   refine LD.val rfl rfl (ov_field Tryz.underlying65 rfl Tryz.sizeOf9 rfl (k := 1) rfl rfl) ?_
   first | refine LD.rd rfl rfl (om_slE (j := 1) (by assumption) (by intro _; rfl) Tryz.isAgg9 rfl rfl au3 rfl (by rfl)) ?_ | refine LD.rdC rfl rfl (om_srE (j := 1) (by assumption) Tryz.isAgg9 rfl rfl au3 (by rfl) (by rfl) id) ?_ | refine LD.rd rfl rfl (om_ld Tryz.isAgg9 rfl rfl) ?_
   refine LD.cS rfl rfl (oc_call (enters_fn Tryz.func147 (by kernel_rfl) rfl) rfl) (fun w hm hc hg => anames_spec w) (fun ad16 n16 cap16 m16 hn16 hs16 => ?_)
   refine LD.callE rfl rfl (oc_call (enters_fn Tryz.func146 (by kernel_rfl) rfl) rfl) (fun w hm hc hg => index_str _ w hn16 (hs16.srM (by intro _; rfl) hm) (by decide)) ?_
   refine LD.val rfl rfl (ov_max rfl rfl) ?_
   refine LD.val rfl rfl (ov_assign rfl) ?_
   refine LD.nil ?_
   refine QM.sub (e' := [(0, _), (1, _), (4, _), (7, _)]) au9 ?_
   refine QM.meetK (_) ⟨au2, rfl, rfl, rfl, trivial⟩ au1 ?_
   · exact (kindA_yes hi h1).symm
  refine wpM.skip ?_
  refine QM.meetK (_) ⟨au2, rfl, rfl, rfl, trivial⟩ au1 ?_
  · exact (kindA_no h1).symm
 rintro kd rfl
 change QM _ _ _ _ _ ((b4, .cells (fA default).toArray 123 (0, 0)) :: []) _ _ _
 refine QM.then ?_
 refine wpM.seq ?_
 refine wpM.seq (wpM.region ?_)
 refine LM.mv rfl ?_
 refine LM.val (ov_eql rfl rfl) ?_
 refine LM.nil (QM.sub (e' := [(0, _), (1, _), (4, _), (7, _), (25, _)]) au9 (QM.then ?_))
 refine wpM.condD rfl (fun h2 => ?_) (fun h2 => ?_)
 ·
  refine wpM.seq (wpM.region ?_)
  refine LM.val (ov_build (cs := #[_, _, _, _, _]) rfl (by first | rfl | kernel_rfl)) ?_
  refine LM.mv rfl ?_
  refine LM.stW Tryz.sizeOf123 rfl rfl rfl rfl au7 au8 ?_
  refine LM.as rfl (LM.as rfl ?_)
  refine LM.nil (QM.sub (e' := [(4, _), (5, _), (6, _)]) au9 (QM.then ?_))
  refine wpM.ret ?_
  refine QM.then_ret ?_
  refine QM.leaveCs (ds := ([])) (.inl rfl) [.cell 4 123, .tmp 5, .tmp 6] Tryz.results111 hd_nil (rc_w rfl Tryz.isAgg123 Tryz.sizeOf123 rfl (rc_tmp rfl (rc_tmp rfl rc_nil))) ?_
  intro w' hm' hc'
  exact ⟨by rw [oneA_0 (by omega)]; rfl, hc'⟩
 refine wpM.skip ?_
 refine QM.then (wpM.seq (wpM.region ?_))
 refine LM.mv rfl ?_
 refine LM.val (ov_add64 rfl rfl (by omega)) ?_
 refine LM.as rfl ?_
 refine LM.nil (QM.sub (e' := [(0, _), (1, _), (4, _), (7, _)]) au9 (QM.then (wpM.seq (wpM.region ?_))))
 refine LM.alloc Tryz.zeroValue198 rfl (fun b8 hb8 => ?_)
 refine LM.nil (QM.sub (e' := [(0, _), (1, _), (4, _), (7, _), (8, _)]) au9 (QM.then ?_))
 refine wpM.seq ?_
 refine wpM.seq (wpM.region ?_)
 refine LM.mv rfl ?_
 refine LM.callE (oc_call (enters_fn Tryz.func120 (by kernel_rfl) rfl) rfl) (fun w hm hc hg => many_spec _ w) ?_
 refine LM.mv rfl ?_
 refine LM.nil (QM.sub (e' := [(0, _), (1, _), (4, _), (7, _), (8, _), (31, _), (32, _)]) au9 (QM.then ?_))
 refine wpM.block ?_
 refine wpM.loopK0 (α := Nat × Nat × List Int) (fun ⟨k, j, xs⟩ => [(1, .int .i64 (j : Nat)), (32, .int .i64 (k : Nat))]) [(0, _), (4, _), (7, _), (8, _), (31, _)] (fun ⟨k, j, xs⟩ => (b8, .cells (arr fI xs []) 198 (0, 0)) :: (b4, .cells (fA default).toArray 123 (0, 0)) :: []) (fun ⟨k, j, xs⟩ => k ≤ manyA (kindA ws i) ∧ j ≤ ws.length ∧ xs.length = 4 ∧ numG ws (manyA (kindA ws i) - k) j k xs = numK ws i) (fun ⟨k, j, xs⟩ => manyA (kindA ws i) - k) ((0, i + 1, zer4)) ⟨au2, au2, rfl, rfl, rfl, rfl, rfl, trivial⟩ au1 ⟨Nat.zero_le _, by omega, rfl, rfl⟩ ?_
 rintro ⟨k, j, xs⟩ ⟨hkm, hj, hx4, hN⟩
 change wpM _ _ _ _ _ _ _ ((b8, .cells (arr fI xs []) 198 (0, 0)) :: (b4, .cells (fA default).toArray 123 (0, 0)) :: []) _ _ _
 have hm4 := manyA_le (kindA ws i)
 refine wpM.seq (wpM.region ?_)
 refine LM.val (ov_lss rfl rfl) ?_
 refine LM.nil (QM.sub (e' := [(0, _), (1, _), (4, _), (7, _), (8, _), (31, _), (32, _), (33, _)]) au9 (QM.then ?_))
 refine wpM.seq ?_
 refine wpM.condD rfl (fun h3 => ?_) (fun h3 => ?_)
 ·
  refine wpM.skip ?_
  refine QM.then ?_
  refine wpM.seq ?_
  refine wpM.block ?_
  refine wpM.seq (wpM.region ?_)
  refine LM.mv rfl (LM.as rfl ?_)
  refine LM.nil (QM.sub (e' := [(0, _), (1, _), (4, _), (7, _), (8, _), (9, _), (31, _), (32, _)]) au9 (QM.then ?_))
  refine wpM.seq ?_
  refine wpM.seq ?_
  refine wpM.joinK (α := Bool) (fun q => [(46, .bool q)]) [(0, _), (1, _), (4, _), (7, _), (8, _), (9, _), (31, _), (32, _)] (fun q => (b8, .cells (arr fI xs []) 198 (0, 0)) :: (b4, .cells (fA default).toArray 123 (0, 0)) :: []) (fun q => q = (decide (ws.length ≤ j) || decide ((ws.getD j default).k ≠ 2))) ⟨rfl, rfl, rfl, rfl, rfl, rfl, rfl, rfl, trivial⟩ ?_ ?_
  ·
   refine wpM.region ?_
   refine LM.mv rfl (LM.mv rfl ?_)
   refine LM.val (ov_len Tryz.underlying23 rfl) ?_
   refine LM.val (ov_geq rfl rfl) ?_
   refine LM.mv rfl ?_
   refine LM.splitD (t := 39) rfl (fun h4 => ?_) (fun h4 => ?_)
   ·
    refine LM.dr 39 rfl rfl rfl (LM.dr 39 rfl rfl rfl (LM.dr 39 rfl rfl rfl (LM.dr 39 rfl rfl rfl (LM.dr 39 rfl rfl rfl (LM.dr 39 rfl rfl rfl ?_)))))
    refine LM.val (ov_pickT rfl rfl) ?_
    refine LM.nil (QM.sub (e' := [(0, _), (1, _), (4, _), (7, _), (8, _), (9, _), (31, _), (32, _), (46, _)]) au9 ?_)
    refine QM.meetK (_) ⟨au2, rfl, rfl, rfl, rfl, rfl, rfl, rfl, rfl, trivial⟩ au1 ?_
    · rw [decide_eq_true (show ws.length ≤ j by omega), Bool.true_or]
   refine LM.sp 39 rfl rfl rfl (LM.mv rfl (LM.sp 39 rfl rfl rfl (LM.mv rfl (LM.sp 39 rfl rfl rfl ?_))))
   refine LM.val (ov_idxSN au6 Tryz.underlying23 Tryz.sizeOf65 rfl rfl (by omega)) ?_
   refine LM.sp 39 rfl rfl rfl (LM.val (ov_field Tryz.underlying65 rfl Tryz.sizeOf3 rfl (k := 0) rfl rfl) (LM.sp 39 rfl rfl rfl ?_))
   first | refine LM.rd (om_slE (j := 0) (by assumption) (by intro _; rfl) Tryz.isAgg3 rfl rfl au3 rfl (by rfl)) ?_ | refine LM.rdC (om_srE (j := 0) (by assumption) Tryz.isAgg3 rfl rfl au3 (by rfl) (by rfl) id) ?_ | refine LM.rd (om_ld Tryz.isAgg3 rfl rfl) ?_
   refine LM.sp 39 rfl rfl rfl ?_
   refine LM.val (ov_neq rfl rfl) ?_
   refine LM.val (ov_pickF rfl rfl) ?_
   refine LM.nil (QM.sub (e' := [(0, _), (1, _), (4, _), (7, _), (8, _), (9, _), (31, _), (32, _), (46, _)]) au9 ?_)
   refine QM.meetK (_) ⟨au2, rfl, rfl, rfl, rfl, rfl, rfl, rfl, rfl, trivial⟩ au1 ?_
   · rw [decide_eq_false (show ¬ ws.length ≤ j by omega), Bool.false_or]
  rintro q hq
  change QM _ _ _ _ _ ((b8, .cells (arr fI xs []) 198 (0, 0)) :: (b4, .cells (fA default).toArray 123 (0, 0)) :: []) _ _ _
  refine QM.then ?_
  first | refine wpM.condD rfl (fun h5 => ?_) (fun h5 => ?_) | refine wpM.condB rfl (fun h5 => ?_) (fun h5 => ?_)
  ·
   refine wpM.seq (wpM.region ?_)
   refine LM.val (ov_build (cs := #[_, _, _, _, _]) rfl (by first | rfl | kernel_rfl)) ?_
   refine LM.mv rfl ?_
   refine LM.stW Tryz.sizeOf123 rfl rfl rfl rfl au7 au8 ?_
   refine LM.as rfl (LM.as rfl ?_)
   refine LM.nil (QM.sub (e' := [(4, _), (5, _), (6, _)]) au9 (QM.then ?_))
   refine wpM.ret ?_
   refine QM.then_ret ?_
   refine QM.block_ret ?_
   refine QM.then_ret ?_
   refine QM.then_ret ?_
   refine QM.block_ret ?_
   refine QM.then_ret ?_
   refine QM.leaveCs (ds := ([])) (.inl rfl) [.cell 4 123, .tmp 5, .tmp 6] Tryz.results111 hd_nil (rc_w rfl Tryz.isAgg123 Tryz.sizeOf123 rfl (rc_tmp rfl (rc_tmp rfl rc_nil))) ?_
   intro w' hm' hc'
   have hNK : numK ws i = (j, 5, xs) := (by rw [← hN, numG_stop (by omega) (hq.symm.trans h5)]); exact ⟨by rw [oneA_n h2 hNK]; rfl, hc'⟩
  have hjn : j < ws.length := (by have h := hq.symm.trans h5; simp only [Bool.or_eq_false_iff, decide_eq_false_iff_not] at h; omega)
  refine wpM.skip ?_
  refine QM.then (wpM.seq (wpM.region ?_))
  refine LM.mv rfl (LM.mv rfl (LM.mv rfl ?_))
  refine LM.val (ov_idxSN au6 Tryz.underlying23 Tryz.sizeOf65 rfl rfl (by omega)) ?_
  refine LM.val (ov_field Tryz.underlying65 rfl Tryz.sizeOf3 rfl (k := 2) rfl rfl) ?_
  first | refine LM.rd (om_slE (j := 2) (by assumption) (by intro _; rfl) Tryz.isAgg3 rfl rfl au3 rfl (by rfl)) ?_ | refine LM.rdC (om_srE (j := 2) (by assumption) Tryz.isAgg3 rfl rfl au3 (by rfl) (by rfl) id) ?_ | refine LM.rd (om_ld Tryz.isAgg3 rfl rfl) ?_
  refine LM.val (ov_idxAN Tryz.underlying198 Tryz.sizeOf3 rfl rfl (by omega)) ?_
  refine LM.stE1 (f := fI) _ (by intro _; rfl) Tryz.sizeOf3 rfl rfl rfl rfl (getq 0 (by omega)) rfl rfl rfl au8 ?_
  refine LM.nil (QM.sub (e' := [(0, _), (1, _), (4, _), (7, _), (8, _), (31, _), (32, _)]) au9 (QM.then (wpM.region ?_)))
  refine LM.mv rfl ?_
  refine LM.val (ov_add64 rfl rfl (by omega)) ?_
  refine LM.as rfl ?_
  refine LM.nil (QM.sub (e' := [(0, _), (1, _), (4, _), (7, _), (8, _), (31, _), (32, _)]) au9 ?_)
  refine QM.block_normal ?_
  refine QM.then (wpM.region ?_)
  refine LM.val (ov_add64 rfl rfl (by omega)) ?_
  refine LM.mv rfl ?_
  refine LM.nil (QM.sub (e' := [(0, _), (1, _), (4, _), (7, _), (8, _), (31, _), (32, _)]) au9 ?_)
  refine QM.againK ((k + 1, j + 1, xs.set k (ws.getD j default).n)) ⟨au2, au2, rfl, rfl, rfl, rfl, rfl, trivial⟩ au1 (fun _ h => h) ?_ ?_
  · exact ⟨by omega, by omega, by simpa using hx4, by rw [show manyA (kindA ws i) - (k + 1) = manyA (kindA ws i) - k - 1 by omega, ← numG_next (by omega) (hq.symm.trans h5)]; exact hN⟩
  · first | omega | (dsimp only; omega)
 refine wpM.exit ?_
 refine QM.then_exit ?_
 refine QM.then_exit ?_
 refine QM.block_hit ?_
 refine QM.then ?_
 refine wpM.seq ?_
 refine wpM.seq ?_
 refine wpM.joinK (α := Bool) (fun q => [(78, .bool q)]) [(1, _), (4, _), (7, _), (8, _)] (fun q => (b8, .cells (arr fI xs []) 198 (0, 0)) :: (b4, .cells (fA default).toArray 123 (0, 0)) :: []) (fun q => q = !isR ws j 3 [59]) ⟨rfl, rfl, rfl, rfl, trivial⟩ ?_ ?_
 ·
  refine wpM.region ?_
  refine LM.mv rfl (LM.mv rfl ?_)
  refine LM.val (ov_len Tryz.underlying23 rfl) ?_
  refine LM.val (ov_geq rfl rfl) ?_
  refine LM.mv rfl ?_
  refine LM.splitD (t := 63) rfl (fun h6 => ?_) (fun h6 => ?_)
  ·
   refine LM.dr 63 rfl rfl rfl (LM.dr 63 rfl rfl rfl (LM.dr 63 rfl rfl rfl (LM.dr 63 rfl rfl rfl (LM.dr 63 rfl rfl rfl (LM.dr 63 rfl rfl rfl ?_)))))
   refine LM.val (ov_pickT rfl rfl) ?_
   refine LM.mv rfl (LM.dr 71 rfl rfl rfl (LM.dr 71 rfl rfl rfl (LM.dr 71 rfl rfl rfl (LM.dr 71 rfl rfl rfl (LM.dr 71 rfl rfl rfl ?_)))))
   refine LM.dr 71 rfl rfl rfl ?_
   refine LM.val (ov_pickT rfl rfl) ?_
   refine LM.nil (QM.sub (e' := [(1, _), (4, _), (7, _), (8, _), (78, _)]) au9 ?_)
   refine QM.meetK (_) ⟨au2, rfl, rfl, rfl, rfl, trivial⟩ au1 ?_
   · unfold isR; rw [decide_eq_false (show ¬ j < ws.length by omega)]; rfl
  refine LM.sp 63 rfl rfl rfl (LM.mv rfl (LM.sp 63 rfl rfl rfl (LM.mv rfl (LM.sp 63 rfl rfl rfl ?_))))
  refine LM.val (ov_idxSN au6 Tryz.underlying23 Tryz.sizeOf65 rfl rfl (by omega)) ?_
  refine LM.sp 63 rfl rfl rfl (LM.val (ov_field Tryz.underlying65 rfl Tryz.sizeOf3 rfl (k := 0) rfl rfl) (LM.sp 63 rfl rfl rfl ?_))
  first | refine LM.rd (om_slE (j := 0) (by assumption) (by intro _; rfl) Tryz.isAgg3 rfl rfl au3 rfl (by rfl)) ?_ | refine LM.rdC (om_srE (j := 0) (by assumption) Tryz.isAgg3 rfl rfl au3 (by rfl) (by rfl) id) ?_ | refine LM.rd (om_ld Tryz.isAgg3 rfl rfl) ?_
  refine LM.sp 63 rfl rfl rfl ?_
  refine LM.val (ov_neq rfl rfl) ?_
  refine LM.val (ov_pickF rfl rfl) ?_
  refine LM.mv rfl ?_
  refine LM.splitD (t := 71) rfl (fun h7 => ?_) (fun h7 => ?_)
  ·
   refine LM.dr 71 rfl rfl rfl (LM.dr 71 rfl rfl rfl (LM.dr 71 rfl rfl rfl (LM.dr 71 rfl rfl rfl (LM.dr 71 rfl rfl rfl (LM.dr 71 rfl rfl rfl ?_)))))
   refine LM.val (ov_pickT rfl rfl) ?_
   refine LM.nil (QM.sub (e' := [(1, _), (4, _), (7, _), (8, _), (78, _)]) au9 ?_)
   refine QM.meetK (_) ⟨au2, rfl, rfl, rfl, rfl, trivial⟩ au1 ?_
   · unfold isR; rw [decide_eq_true (show j < ws.length by omega), decide_eq_false (show ¬ (ws.getD j default).k = 3 by omega)]; rfl
  refine LM.sp 71 rfl rfl rfl (LM.mv rfl (LM.sp 71 rfl rfl rfl (LM.mv rfl (LM.sp 71 rfl rfl rfl ?_))))
  refine LM.val (ov_idxSN au6 Tryz.underlying23 Tryz.sizeOf65 rfl rfl (by omega)) ?_
  refine LM.sp 71 rfl rfl rfl (LM.val (ov_field Tryz.underlying65 rfl Tryz.sizeOf9 rfl (k := 1) rfl rfl) (LM.sp 71 rfl rfl rfl ?_))
  first | refine LM.rd (om_slE (j := 1) (by assumption) (by intro _; rfl) Tryz.isAgg9 rfl rfl au3 rfl (by rfl)) ?_ | refine LM.rdC (om_srE (j := 1) (by assumption) Tryz.isAgg9 rfl rfl au3 (by rfl) (by rfl) id) ?_ | refine LM.rd (om_ld Tryz.isAgg9 rfl rfl) ?_
  refine LM.sp 71 rfl rfl rfl ?_
  refine LM.val (ov_sneqL rfl rfl) ?_
  refine LM.val (ov_pickF rfl rfl) ?_
  refine LM.nil (QM.sub (e' := [(1, _), (4, _), (7, _), (8, _), (78, _)]) au9 ?_)
  refine QM.meetK (_) ⟨au2, rfl, rfl, rfl, rfl, trivial⟩ au1 ?_
  · unfold isR; rw [decide_eq_true (show j < ws.length by omega), decide_eq_true (show (ws.getD j default).k = 3 by omega)]; simp only [Bool.true_and, decide_not]
 rintro q hq
 change QM _ _ _ _ _ ((b8, .cells (arr fI xs []) 198 (0, 0)) :: (b4, .cells (fA default).toArray 123 (0, 0)) :: []) _ _ _
 refine QM.then ?_
 first | refine wpM.condD rfl (fun h8 => ?_) (fun h8 => ?_) | refine wpM.condB rfl (fun h8 => ?_) (fun h8 => ?_)
 ·
  refine wpM.seq (wpM.region ?_)
  refine LM.val (ov_build (cs := #[_, _, _, _, _]) rfl (by first | rfl | kernel_rfl)) ?_
  refine LM.mv rfl ?_
  refine LM.stW Tryz.sizeOf123 rfl rfl rfl rfl au7 au8 ?_
  refine LM.as rfl (LM.as rfl ?_)
  refine LM.nil (QM.sub (e' := [(4, _), (5, _), (6, _)]) au9 (QM.then ?_))
  refine wpM.ret ?_
  refine QM.then_ret ?_
  refine QM.leaveCs (ds := ([])) (.inl rfl) [.cell 4 123, .tmp 5, .tmp 6] Tryz.results111 hd_nil (rc_w rfl Tryz.isAgg123 Tryz.sizeOf123 rfl (rc_tmp rfl (rc_tmp rfl rc_nil))) ?_
  intro w' hm' hc'
  have hNK : numK ws i = (j, 0, xs) := (by rw [← hN, show manyA (kindA ws i) - k = 0 by omega]; rfl); exact ⟨by rw [oneA_s h2 hNK (by simpa using hq.symm.trans h8)]; rfl, hc'⟩
 refine wpM.skip ?_
 refine QM.then (wpM.seq (wpM.region ?_))
 refine LM.mv rfl ?_
 first | refine LM.val (ov_idxAN Tryz.underlying198 Tryz.sizeOf3 rfl rfl (by omega)) ?_ | refine LM.val (ov_idxA Tryz.underlying198 Tryz.sizeOf3 rfl rfl (by omega)) ?_
 refine LM.rd (om_ldE1 (by intro _; rfl) Tryz.isAgg3 rfl rfl rfl (getq 0 (by omega)) (by rfl)) ?_
 first | refine LM.val (ov_idxAN Tryz.underlying198 Tryz.sizeOf3 rfl rfl (by omega)) ?_ | refine LM.val (ov_idxA Tryz.underlying198 Tryz.sizeOf3 rfl rfl (by omega)) ?_
 refine LM.rd (om_ldE1 (by intro _; rfl) Tryz.isAgg3 rfl rfl rfl (getq 0 (by omega)) (by rfl)) ?_
 first | refine LM.val (ov_idxAN Tryz.underlying198 Tryz.sizeOf3 rfl rfl (by omega)) ?_ | refine LM.val (ov_idxA Tryz.underlying198 Tryz.sizeOf3 rfl rfl (by omega)) ?_
 refine LM.rd (om_ldE1 (by intro _; rfl) Tryz.isAgg3 rfl rfl rfl (getq 0 (by omega)) (by rfl)) ?_
 first | refine LM.val (ov_idxAN Tryz.underlying198 Tryz.sizeOf3 rfl rfl (by omega)) ?_ | refine LM.val (ov_idxA Tryz.underlying198 Tryz.sizeOf3 rfl rfl (by omega)) ?_
 refine LM.rd (om_ldE1 (by intro _; rfl) Tryz.isAgg3 rfl rfl rfl (getq 0 (by omega)) (by rfl)) ?_
 refine LM.val (ov_build (cs := #[_, _, _, _, _]) rfl (by first | rfl | kernel_rfl)) ?_
 refine LM.mv rfl ?_
 refine LM.val (ov_add64 rfl rfl (by omega)) ?_
 refine LM.stW Tryz.sizeOf123 rfl rfl rfl rfl au7 au8 ?_
 refine LM.as rfl (LM.as rfl ?_)
 refine LM.nil (QM.sub (e' := [(4, _), (5, _), (6, _)]) au9 (QM.then ?_))
 refine wpM.ret ?_
 refine QM.leaveCs (ds := ([])) (.inl rfl) [.cell 4 123, .tmp 5, .tmp 6] Tryz.results111 hd_nil (rc_w rfl Tryz.isAgg123 Tryz.sizeOf123 rfl (rc_tmp rfl (rc_tmp rfl rc_nil))) ?_
 intro w' hm' hc'
 have hNK : numK ws i = (j, 0, xs) := (by rw [← hN, show manyA (kindA ws i) - k = 0 by omega]; rfl); exact ⟨by rw [oneA_ok h2 hNK (by simpa using hq.symm.trans h8)]; rfl, hc'⟩
set_option maxRecDepth 100000 in
theorem begins_spec (x : Wrd) (w : World) : Ret Tryz.prog 110 #[.agg (fW x).toArray] w (fun v w' => v = .bool (decide (x.k = 1) && decide (kindAT x.t ≠ 0)) ∧ Ext w w') := by
 refine Ret.enterM (l := [.agg (fW x).toArray]) Tryz.func110 rfl Tryz.ntmps110 rfl ([]) (no) (Mem.nil w) ?_
 refine wpM.seq (wpM.region ?_)
 refine LM.box rfl rfl (fun b1 hb1 => ?_)
 refine LM.as rfl ?_
 refine LM.nil (QM.sub (e' := [(1, _)]) ⟨rfl, trivial⟩ (QM.then ?_))
 refine wpM.seq ?_
 refine wpM.draw [(0, 0), (1, 1), (2, 0), (3, 0), (5, 0), (6, 1), (4, 2), (7, 2), (8, 0), (9, 0), (10, 0)] (by kernel_rfl) (by kernel_rfl) ?_
 refine LD.val rfl rfl (ov_field Tryz.underlying65 rfl Tryz.sizeOf3 rfl (k := 0) rfl rfl) ?_
 refine LD.rd rfl rfl (om_ld Tryz.isAgg3 rfl rfl) ?_
 refine LD.val rfl rfl (ov_eql rfl rfl) ?_
 refine LD.val rfl rfl (ov_move rfl) ?_
 refine LD.splitD (t := 6) rfl (fun h1 => ?_) (fun h1 => ?_)
 ·
  refine LD.val rfl ⟨6, _, rfl, rfl, rfl⟩ (ov_field Tryz.underlying65 rfl Tryz.sizeOf9 rfl (k := 1) rfl rfl) ?_
  refine LD.rd rfl ⟨6, _, rfl, rfl, rfl⟩ (om_ld Tryz.isAgg9 rfl rfl) ?_
  refine LD.cS rfl ⟨6, _, rfl, rfl, rfl⟩ (oc_call (enters_fn Tryz.func147 (by kernel_rfl) rfl) rfl) (fun w hm hc hg => anames_spec w) (fun ad7 n7 cap7 m7 hn7 hs7 => ?_)
  refine LD.callE rfl ⟨6, _, rfl, rfl, rfl⟩ (oc_call (enters_fn Tryz.func146 (by kernel_rfl) rfl) rfl) (fun w hm hc hg => index_str _ w hn7 (hs7.srM (by intro _; rfl) hm) (by decide)) ?_
  refine LD.val rfl ⟨6, _, rfl, rfl, rfl⟩ (ov_gtr rfl rfl) ?_
  refine LD.val rfl rfl (ov_pickT rfl rfl) ?_
  refine LD.val rfl rfl (ov_assign rfl) ?_
  refine LD.nil ?_
  refine QM.sub (e' := [(2, _)]) ⟨rfl, trivial⟩ (QM.then ?_)
  refine wpM.ret ?_
  refine QM.leave (.inl rfl) [.tmp 2] Tryz.results110 rfl ?_
  intro w' hm' hc' hg'
  refine ⟨?_, hc'⟩; rw [decide_eq_true h1, Bool.true_and]; show Value.bool (decide (_ > 0)) = _; rw [mx0_pos]; rfl
 refine LD.drop rfl rfl ⟨6, _, rfl, rfl, rfl⟩ ?_
 refine LD.drop rfl rfl ⟨6, _, rfl, rfl, rfl⟩ ?_
 refine LD.drop rfl rfl ⟨6, _, rfl, rfl, rfl⟩ ?_
 refine LD.drop rfl rfl ⟨6, _, rfl, rfl, rfl⟩ ?_
 refine LD.drop rfl rfl ⟨6, _, rfl, rfl, rfl⟩ ?_
 refine LD.val rfl rfl (ov_pickF rfl rfl) ?_
 refine LD.val rfl rfl (ov_assign rfl) ?_
 refine LD.nil ?_
 refine QM.sub (e' := [(2, _)]) ⟨rfl, trivial⟩ (QM.then ?_)
 refine wpM.ret ?_
 refine QM.leave (.inl rfl) [.tmp 2] Tryz.results110 rfl ?_
 intro w' hm' hc' hg'
 refine ⟨?_, hc'⟩; rw [decide_eq_false h1]; rfl
set_option maxRecDepth 100000 in
set_option maxHeartbeats 1000000 in
theorem aparse_spec {ws : List Wrd} {ad : Option Addr} {n cap : Nat} (p : Int) (w : World) (hn : n = ws.length) (hx : ws.length ≤ 1000000000) (hl : Sr fW 4 ws (.slice ad n cap) w) : Ret Tryz.prog 68 #[.slice ad n cap, .int .i64 p] w (fun v w' => Ext w w' ∧ ∃ m, AcT (actsO ws p) w.heap.size v m ∧ Mem w' m ∧ ∀ p ∈ m, w.heap.size ≤ p.1) := by
 refine Ret.enterM (l := [.slice ad n cap, .int .i64 p]) Tryz.func68 rfl Tryz.ntmps68 rfl ([]) (no) (Mem.nil w) ?_
 refine wpM.seq (wpM.region ?_)
 refine LM.as rfl (LM.as rfl (LM.as rfl ?_))
 refine LM.nil (QM.sub (e' := [(0, _), (1, _)]) au9 (QM.then ?_))
 refine wpM.seq ?_
 refine wpM.seq (wpM.region ?_)
 refine LM.mv rfl ?_
 refine LM.val (ov_lss rfl rfl) ?_
 refine LM.mv rfl ?_
 refine LM.splitD (t := 13) rfl (fun h1 => ?_) (fun h1 => ?_)
 ·
  refine LM.dr 13 rfl rfl rfl (LM.dr 13 rfl rfl rfl (LM.dr 13 rfl rfl rfl (LM.dr 13 rfl rfl rfl ?_)))
  refine LM.val (ov_pickT rfl rfl) ?_
  refine LM.nil (QM.sub (e' := [(0, _), (1, _), (18, _)]) au9 (QM.then ?_))
  refine wpM.condT rfl ?_
  refine wpM.seq (wpM.region ?_)
  refine LM.as rfl (LM.as rfl (LM.as rfl ?_))
  refine LM.nil (QM.sub (e' := [(4, _), (5, _), (6, _)]) au9 (QM.then ?_))
  refine wpM.ret ?_
  refine QM.then_ret ?_
  refine QM.leave (.inl rfl) [.tmp 4, .tmp 5, .tmp 6] Tryz.results68 rfl ?_
  intro w' hm' hc' hg'
  have hpar : actsO ws p = ([], 0, 5) := (by unfold actsO; rw [if_pos (by omega)]); rw [hpar]; exact ⟨hc', [], ⟨none, 0, 0, rfl, rfl, .nil _ _ _ _⟩, Mem.nil _, fun p hp => by cases hp⟩
 refine LM.sp 13 rfl rfl rfl (LM.mv rfl (LM.sp 13 rfl rfl rfl (LM.mv rfl (LM.sp 13 rfl rfl rfl ?_))))
 refine LM.val (ov_len Tryz.underlying23 rfl) ?_
 refine LM.sp 13 rfl rfl rfl ?_
 refine LM.val (ov_gtr rfl rfl) ?_
 refine LM.val (ov_pickF rfl rfl) ?_
 refine LM.nil (QM.sub (e' := [(0, _), (1, _), (18, _)]) au9 (QM.then ?_))
 refine wpM.condD rfl (fun h2 => ?_) (fun h2 => ?_)
 ·
  refine wpM.seq (wpM.region ?_)
  refine LM.as rfl (LM.as rfl (LM.as rfl ?_))
  refine LM.nil (QM.sub (e' := [(4, _), (5, _), (6, _)]) au9 (QM.then ?_))
  refine wpM.ret ?_
  refine QM.then_ret ?_
  refine QM.leave (.inl rfl) [.tmp 4, .tmp 5, .tmp 6] Tryz.results68 rfl ?_
  intro w' hm' hc' hg'
  have hpar : actsO ws p = ([], 0, 5) := (by unfold actsO; rw [if_pos (by omega)]); rw [hpar]; exact ⟨hc', [], ⟨none, 0, 0, rfl, rfl, .nil _ _ _ _⟩, Mem.nil _, fun p hp => by cases hp⟩
 obtain ⟨i0, rfl⟩ : ∃ i0 : Nat, p = (i0 : Nat) := ⟨p.toNat, by omega⟩; have hi0 : i0 ≤ ws.length := (by omega)
 refine wpM.skip ?_
 refine QM.then (wpM.seq (wpM.region ?_))
 refine LM.as rfl ?_
 refine LM.nil (QM.sub (e' := [(0, _), (1, _), (7, _)]) au9 (QM.then ?_))
 refine wpM.seq ?_
 refine wpM.block ?_
 refine wpM.loopK0 (α := Nat × List Act × Option Addr × Nat × Nat × Mem0) (fun ⟨i, out, ado, no, capo, mo⟩ => [(1, .int .i64 (i : Nat)), (7, .slice ado no capo)]) [(0, _)] (fun ⟨i, out, ado, no, capo, mo⟩ => mo ++ []) (fun ⟨i, out, ado, no, capo, mo⟩ => i ≤ ws.length ∧ loopA ws i out = loopA ws i0 [] ∧ no = out.length ∧ Sl fA 123 5 w.heap.size out (.slice ado no capo) mo ∧ out.length ≤ 4000) (fun ⟨i, out, ado, no, capo, mo⟩ => ws.length - i) ((i0, [], none, 0, 0, [])) ⟨au2, au2, rfl, trivial⟩ au1 ⟨by omega, rfl, rfl, .nil _ _ _ _, by decide⟩ ?_
 rintro ⟨i, out, ado, no, capo, mo⟩ ⟨hi, hL, hno, hso, hol⟩
 change wpM _ _ _ _ _ _ _ (mo ++ []) _ _ _
 refine wpM.seq ?_
 refine wpM.seq (wpM.region ?_)
 refine LM.mv rfl (LM.mv rfl ?_)
 refine LM.val (ov_len Tryz.underlying23 rfl) ?_
 refine LM.val (ov_lss rfl rfl) ?_
 refine LM.nil (QM.sub (e' := [(0, _), (1, _), (7, _), (22, _)]) au9 (QM.then ?_))
 refine wpM.condD rfl (fun h3 => ?_) (fun h3 => ?_)
 ·
  have hilt : i < ws.length := (by omega)
  refine wpM.skip ?_
  refine QM.then ?_
  refine wpM.block ?_
  refine wpM.seq ?_
  refine wpM.seq ?_
  refine wpM.joinK (α := Bool) (fun q => [(32, .bool q)]) [(0, _), (1, _), (7, _)] (fun q => mo ++ []) (fun q => q = fullA ws i out) ⟨rfl, rfl, rfl, trivial⟩ ?_ ?_
  ·
   refine wpM.region ?_
   refine LM.mv rfl ?_
   refine LM.val (ov_len Tryz.underlying47 rfl) ?_
   refine LM.val (ov_eql rfl rfl) ?_
   refine LM.mv rfl ?_
   refine LM.splitD (t := 26) rfl (fun h4 => ?_) (fun h4 => ?_)
   ·
    refine LM.sp 26 rfl rfl rfl (LM.mv rfl (LM.sp 26 rfl rfl rfl (LM.mv rfl (LM.sp 26 rfl rfl rfl ?_))))
    refine LM.val (ov_idxSN au6 Tryz.underlying23 Tryz.sizeOf65 rfl rfl (by omega)) ?_
    refine LM.sp 26 rfl rfl rfl ?_
    first | refine LM.rd (om_slA (by assumption) (by intro _; rfl) Tryz.isAgg65 Tryz.sizeOf65 rfl au3) ?_ | refine LM.rdC (om_srEA (by assumption) (by intro _; rfl) Tryz.isAgg65 Tryz.sizeOf65 rfl au3 id) ?_ | refine LM.rd (om_ldW Tryz.isAgg65 Tryz.sizeOf65 rfl rfl) ?_ | refine LM.rd (om_ldA Tryz.isAgg65 Tryz.sizeOf65 rfl (vs := [_, _, _, _]) rfl ⟨rfl, rfl, rfl, rfl, trivial⟩) ?_
    refine LM.sp 26 rfl rfl rfl ?_
    refine LM.callE (oc_call (enters_fn Tryz.func110 (by kernel_rfl) rfl) rfl) (fun w hm hc hg => begins_spec _ w) ?_
    refine LM.val (ov_pickT rfl rfl) ?_
    refine LM.nil (QM.sub (e' := [(0, _), (1, _), (7, _), (32, _)]) au9 ?_)
    refine QM.meetK (_) ⟨au2, rfl, rfl, rfl, trivial⟩ au1 ?_
    · unfold fullA; rw [decide_eq_true (show out.length = 4000 by omega), Bool.true_and]; exact begins_eq hilt
   refine LM.dr 26 rfl rfl rfl (LM.dr 26 rfl rfl rfl (LM.dr 26 rfl rfl rfl (LM.dr 26 rfl rfl rfl (LM.dr 26 rfl rfl rfl ?_))))
   refine LM.val (ov_pickF rfl rfl) ?_
   refine LM.nil (QM.sub (e' := [(0, _), (1, _), (7, _), (32, _)]) au9 ?_)
   refine QM.meetK (_) ⟨au2, rfl, rfl, rfl, trivial⟩ au1 ?_
   · unfold fullA; rw [decide_eq_false (show ¬ out.length = 4000 by omega), Bool.false_and]
  rintro q hq
  change QM _ _ _ _ _ (mo ++ []) _ _ _
  refine QM.then ?_
  first | refine wpM.condD rfl (fun h5 => ?_) (fun h5 => ?_) | refine wpM.condB rfl (fun h5 => ?_) (fun h5 => ?_)
  ·
   refine wpM.seq (wpM.region ?_)
   refine LM.mv rfl (LM.as rfl (LM.as rfl (LM.as rfl ?_)))
   refine LM.nil (QM.sub (e' := [(4, _), (5, _), (6, _)]) au9 (QM.then ?_))
   refine wpM.ret ?_
   refine QM.then_ret ?_
   refine QM.block_ret ?_
   refine QM.then_ret ?_
   refine QM.block_ret ?_
   refine QM.then_ret ?_
   refine QM.leave (.inl rfl) [.tmp 4, .tmp 5, .tmp 6] Tryz.results68 rfl ?_
   intro w' hm' hc' hg'
   rw [acts_nat hi0, ← hL, loopA_full hilt (hq.symm.trans h5)]; exact ⟨hc', [], ⟨none, 0, 0, rfl, rfl, .nil _ _ _ _⟩, Mem.nil _, fun p hp => by cases hp⟩
  refine wpM.skip ?_
  refine QM.then (wpM.seq (wpM.region ?_))
  refine LM.mv rfl (LM.mv rfl ?_)
  refine LM.callE (oc_call (enters_fn Tryz.func111 (by kernel_rfl) rfl) rfl) (fun w hm hc hg => actone_spec i w hn hx (hl.ext hc) (by omega)) ?_
  refine LM.mv rfl ?_
  refine LM.val (ov_extract rfl rfl) ?_
  refine LM.val (ov_extract rfl rfl) ?_
  refine LM.val (ov_extract rfl rfl) ?_
  refine LM.alloc Tryz.zeroValue123 rfl (fun b8 hb8 => ?_)
  refine LM.stW Tryz.sizeOf123 rfl rfl rfl rfl au7 au8 ?_
  refine LM.as rfl (LM.as rfl ?_)
  refine LM.nil (QM.sub (e' := [(0, _), (7, _), (8, _), (9, _), (10, _)]) au9 (QM.then ?_))
  refine wpM.seq ?_
  refine wpM.seq (wpM.region ?_)
  refine LM.mv rfl ?_
  refine LM.val (ov_neq rfl rfl) ?_
  refine LM.nil (QM.sub (e' := [(0, _), (7, _), (8, _), (9, _), (10, _), (42, _)]) au9 (QM.then ?_))
  refine wpM.condD rfl (fun h6 => ?_) (fun h6 => ?_)
  ·
   refine wpM.seq (wpM.region ?_)
   refine LM.mv rfl (LM.mv rfl (LM.as rfl (LM.as rfl (LM.as rfl ?_))))
   refine LM.nil (QM.sub (e' := [(4, _), (5, _), (6, _)]) au9 (QM.then ?_))
   refine wpM.ret ?_
   refine QM.then_ret ?_
   refine QM.block_ret ?_
   refine QM.then_ret ?_
   refine QM.block_ret ?_
   refine QM.then_ret ?_
   refine QM.leave (.inl rfl) [.tmp 4, .tmp 5, .tmp 6] Tryz.results68 rfl ?_
   intro w' hm' hc' hg'
   rw [acts_nat hi0, ← hL, loopA_bad hilt (hq.symm.trans h5) h6]; exact ⟨hc', [], ⟨none, 0, 0, rfl, rfl, .nil _ _ _ _⟩, Mem.nil _, fun p hp => by cases hp⟩
  refine wpM.skip ?_
  refine QM.then (wpM.seq (wpM.region ?_))
  refine LM.mv rfl ?_
  refine LM.rd (om_ldW Tryz.isAgg123 Tryz.sizeOf123 rfl rfl) ?_
  refine LM.single Tryz.underlying47 Tryz.sizeOf123 Tryz.zeroValue123 rfl rfl rfl rfl rfl (fun b47 hb47 => ?_)
  refine LM.app (a := (oneA ws i).1) Tryz.underlying47 Tryz.typeInfo123 rfl rfl rfl rfl rfl rfl rfl (by assumption) (by rfl) (by intro _; rfl) (by intro _ u hu; simp [fA] at hu; (repeat (first | (rcases hu with rfl | hu) | subst hu | rfl))) (by first | exact Nat.le_refl _ | omega) au10 (by first | omega | (unfold maxLen; omega)) (by simp only [Tryz.t123]; omega) (fun ad48 n48 cap48 m48 hn48 hs48 hin48 => ?_)
  refine LM.as rfl ?_
  refine LM.nil (QM.sub (e' := [(0, _), (7, _), (9, _)]) au9 (QM.then (wpM.region ?_)))
  refine LM.mv rfl (LM.as rfl ?_)
  refine LM.nil (QM.sub (e' := [(0, _), (1, _), (7, _)]) au9 ?_)
  refine QM.block_normal ?_
  have hnx := loopA_next (out := out) hilt (hq.symm.trans h5) (by omega); have hlt := oneA_lt (ws := ws) (i := i) (by omega)
  refine QM.againK (((oneA ws i).2.1, out ++ [(oneA ws i).1], ad48, n48, cap48, m48)) ⟨au2, au2, rfl, trivial⟩ au1 (fun _ h => h) ?_ ?_
  · exact ⟨hlt.2, hnx.1.symm.trans hL, by rw [hn48]; simp, hs48, by simp; omega⟩
  · first | omega | (dsimp only; omega)
 refine wpM.exit ?_
 refine QM.then_exit ?_
 refine QM.then_exit ?_
 refine QM.block_hit ?_
 refine QM.then (wpM.seq (wpM.region ?_))
 refine LM.mv rfl (LM.mv rfl (LM.as rfl (LM.as rfl (LM.as rfl ?_))))
 refine LM.nil (QM.sub (e' := [(4, _), (5, _), (6, _)]) au9 (QM.then ?_))
 refine wpM.ret ?_
 refine QM.leave (.inl rfl) [.tmp 4, .tmp 5, .tmp 6] Tryz.results68 rfl ?_
 intro w' hm' hc' hg'
 rw [acts_nat hi0, ← hL, loopA_end (by omega)]; exact ⟨hc', mo, ⟨ado, no, capo, rfl, hno, hso⟩, hm'.pick _, fun p hp => Sl.ge hso p hp⟩
end Go.Eng
namespace Go.Eng
open Go Go.Proofs Go.RowKit
theorem loopA_g {ws : List Wrd} {i j : Nat} {a : Act} {out : List Act} (h : i < ws.length) (h0 : kindA ws i ≠ 0) (h1 : out.length ≠ 4000) (he : oneA ws i = (a, j, 0)) : loopA ws i out = loopA ws j (out ++ [a]) := by rw [loopA_step h, if_neg h0, if_neg h1, if_neg (by rw [he]; exact fun q => q rfl), he]
end Go.Eng
namespace Go.Eng
open Go Go.Proofs Go.RowKit
def placeO (s : List UInt8) (ws : List Wrd) (p : Int) : Int := if p < ws.length then (ws.getD p.toNat default).p else s.length
def scriptO (s : List UInt8) : StC × List Act × Int × Int :=
  if (scanO s).2.2 ≠ 0 then (default, [], (scanO s).2.1, (scanO s).2.2)
  else if (setO (scanO s).1 0).2.2 ≠ 0 then (default, [], placeO s (scanO s).1 (setO (scanO s).1 0).2.1, (setO (scanO s).1 0).2.2)
  else if (actsO (scanO s).1 (setO (scanO s).1 0).2.1).2.2 ≠ 0 then (default, [], placeO s (scanO s).1 (actsO (scanO s).1 (setO (scanO s).1 0).2.1).2.1, (actsO (scanO s).1 (setO (scanO s).1 0).2.1).2.2)
  else ((setO (scanO s).1 0).1, (actsO (scanO s).1 (setO (scanO s).1 0).2.1).1, 0, 0)
theorem pgF_pl {ws : List Wrd} : ∀ (f i : Nat) (e : Int) (ps : List PgC) (pl : List Int), (∀ x ∈ pl, 0 ≤ x) → ∀ x ∈ (pgF ws f i e ps pl).2.1, 0 ≤ x
  | 0, i, e, ps, pl, h => by unfold pgF; split <;> exact h
  | f + 1, i, e, ps, pl, h => by
    unfold pgF; split
    · refine pgF_pl f _ _ _ _ (fun x hx => ?_)
      rcases List.mem_append.1 hx with hx | hx
      · exact h x hx
      · rw [List.mem_singleton] at hx; omega
    · exact h
theorem set_pos (ws : List Wrd) (p : Int) : 0 ≤ (setO ws p).2.1 := by
  unfold setO stpR
  split
  · exact Int.le_refl _
  split
  · show (0 : Int) ≤ ((sP ws p.toNat).2.2.1 : Int); omega
  split
  · show (0 : Int) ≤ (sP ws p.toNat).2.1.getD _ 0
    rw [List.getD_eq_getElem?_getD]
    cases h : (sP ws p.toNat).2.1[(misI (sL ws p.toNat).1 (sP ws p.toNat).1).toNat]? with
    | none => exact Int.le_refl _
    | some x => exact pgF_pl _ _ _ _ _ (fun x hx => by cases hx) x (List.mem_of_getElem? h)
  · show (0 : Int) ≤ ((sP ws p.toNat).2.2.1 : Int); omega
theorem acts_pos (ws : List Wrd) (p : Int) : 0 ≤ (actsO ws p).2.1 := by
  have key : ∀ (f i : Nat) (out : List Act), 0 ≤ (loopAF f ws i out).2.1 := by
    intro f
    induction f with
    | zero => intro i out; show (0 : Int) ≤ (i : Int); omega
    | succ f ih =>
      intro i out
      unfold loopAF
      split
      · show (0 : Int) ≤ (i : Int); omega
      split
      · show (0 : Int) ≤ (i : Int); omega
      split
      · show (0 : Int) ≤ (i : Int); omega
      split
      · show (0 : Int) ≤ ((oneA ws i).2.1 : Int); omega
      · exact ih _ _
  unfold actsO; split
  · exact Int.le_refl _
  · exact key _ _ _
structure ScV where
  sv : StV
  xs : List Act
  ad : Option Addr
  n : Nat
  cap : Nat
abbrev ScV.val (x : ScV) : Value := .agg #[.int .i64 x.sv.cr, .int .i64 x.sv.gr, .slice x.sv.ga x.sv.gn x.sv.gc, .slice x.sv.la x.sv.ln x.sv.lc, .slice x.sv.pa x.sv.pn x.sv.pc, .slice x.ad x.n x.cap]
structure ScV.In (x : ScV) (w : World) : Prop where
  st : x.sv.In w
  hn : x.n = x.xs.length
  hx : Sr fA 5 x.xs (.slice x.ad x.n x.cap) w
theorem ScV.In.ext {x : ScV} {w w' : World} (h : x.In w) (k : Ext w w') : x.In w' := ⟨h.st.ext k, h.hn, h.hx.ext k⟩
def SpT (r : StC × List Act × Int × Int) (n0 : Nat) (v : Value) (m : Mem0) : Prop := ∃ x : ScV, v = .tuple #[x.val, .int .i64 r.2.2.1, .int .i64 r.2.2.2] ∧ x.sv.C = r.1 ∧ x.xs = r.2.1 ∧ ∀ w, Mem w m → x.In w
theorem SpT.mono {r : StC × List Act × Int × Int} : ∀ (k k' : Nat) u m, k' ≤ k → SpT r k u m → SpT r k' u m := fun k k' u m h q => q
theorem SpT.nil0 {p e : Int} {n0 : Nat} : SpT (default, [], p, e) n0 (.tuple #[.agg #[.int .i64 0, .int .i64 0, .slice none 0 0, .slice none 0 0, .slice none 0 0, .slice none 0 0], .int .i64 p, .int .i64 e]) [] :=
  ⟨⟨default, [], Option.none, 0, 0⟩, rfl, rfl, rfl, fun w _ => ⟨⟨rfl, .nil _ _ _, rfl, .nil _ _ _, rfl, .nil _ _ _, fun p hp => by cases hp⟩, rfl, .nil _ _ _⟩⟩
set_option maxRecDepth 100000 in
theorem splaceN_spec {ws : List Wrd} {ad : Option Addr} {n cap : Nat} (s : List UInt8) (j : Nat) (w : World) (hn : n = ws.length) (hl : Sr fW 4 ws (.slice ad n cap) w) : Ret Tryz.prog 67 #[vS s, .slice ad n cap, .int .i64 (j : Nat)] w (fun v w' => v = .int .i64 (placeO s ws (j : Nat)) ∧ Ext w w') := by
 refine Ret.enterM (l := [vS s, .slice ad n cap, .int .i64 (j : Nat)]) Tryz.func67 rfl Tryz.ntmps67 rfl ([]) (no) (Mem.nil w) ?_
 refine wpM.seq (wpM.region ?_)
 refine LM.as rfl ?_
 refine LM.nil (QM.sub (e' := [(0, _), (1, _), (2, _)]) au9 (QM.then ?_))
 refine wpM.seq ?_
 refine wpM.seq (wpM.region ?_)
 refine LM.mv rfl (LM.mv rfl ?_)
 refine LM.val (ov_len Tryz.underlying23 rfl) ?_
 refine LM.val (ov_lss rfl rfl) ?_
 refine LM.nil (QM.sub (e' := [(0, _), (1, _), (2, _), (10, _)]) au9 (QM.then ?_))
 refine wpM.condD rfl (fun h1 => ?_) (fun h1 => ?_)
 ·
  refine wpM.seq (wpM.region ?_)
  refine LM.mv rfl (LM.mv rfl ?_)
  refine LM.val (ov_idxSN au6 Tryz.underlying23 Tryz.sizeOf65 rfl rfl (by omega)) ?_
  refine LM.val (ov_field Tryz.underlying65 rfl Tryz.sizeOf3 rfl (k := 3) rfl rfl) ?_
  first | refine LM.rd (om_slE (j := 3) (by assumption) (by intro _; rfl) Tryz.isAgg3 rfl rfl au3 rfl (by rfl)) ?_ | refine LM.rdC (om_srE (j := 3) (by assumption) Tryz.isAgg3 rfl rfl au3 (by rfl) (by rfl) id) ?_ | refine LM.rd (om_ld Tryz.isAgg3 rfl rfl) ?_
  refine LM.as rfl ?_
  refine LM.nil (QM.sub (e' := [(6, _)]) ⟨rfl, trivial⟩ (QM.then ?_))
  refine wpM.ret ?_
  refine QM.then_ret ?_
  refine QM.leave (.inl rfl) [.tmp 6] Tryz.results67 rfl ?_
  intro w' hm' hc' hg'
  refine ⟨?_, hc'⟩; unfold placeO; rw [if_pos (by omega), Int.toNat_natCast]; rfl
 refine wpM.skip ?_
 refine QM.then (wpM.seq (wpM.region ?_))
 refine LM.mv rfl ?_
 refine LM.val (ov_slenL Tryz.underlying9 rfl) ?_
 refine LM.as rfl ?_
 refine LM.nil (QM.sub (e' := [(6, _)]) ⟨rfl, trivial⟩ (QM.then ?_))
 refine wpM.ret ?_
 refine QM.leave (.inl rfl) [.tmp 6] Tryz.results67 rfl ?_
 intro w' hm' hc' hg'
 refine ⟨?_, hc'⟩; unfold placeO; rw [if_neg (by omega)]; rfl
theorem splace_spec {ws : List Wrd} {ad : Option Addr} {n cap : Nat} (s : List UInt8) (p : Int) (w : World) (hn : n = ws.length) (hl : Sr fW 4 ws (.slice ad n cap) w) (hp0 : 0 ≤ p) :
    Ret Tryz.prog 67 #[vS s, .slice ad n cap, .int .i64 p] w (fun v w' => v = .int .i64 (placeO s ws p) ∧ Ext w w') := by
  obtain ⟨j, rfl⟩ : ∃ j : Nat, p = (j : Int) := ⟨p.toNat, by omega⟩
  exact splaceN_spec s j w hn hl
end Go.Eng
