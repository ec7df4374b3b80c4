/- The walk of the document's parser of programs. No condition. -/
import Derived.Test.YtbndlommbpkijaaGreatDoorM3
import Derived.Test.YtbndlommbpkijaaGreatDoorM2
set_option linter.unusedVariables false
set_option linter.unusedSimpArgs false
namespace Go.Eng
open Go Go.Proofs Go.RowKit

def kacc (ws : List Wrd) (i : Nat) : Nat → Int
  | 0 => 0
  | m + 1 => if isR ws i 1 (nmT ((m + 1 : Nat) : Int)) then ((m + 1 : Nat) : Int) else kacc ws i m
theorem nmT_nat {k : Nat} (h : k < 12) : nmT (k : Int) = nmW.getD k [] := by unfold nmT; rw [if_pos (by omega), Int.toNat_natCast]
theorem kacc_eq (ws : List Wrd) (i : Nat) : kacc ws i 11 = kindR ws i := by
  unfold kindR
  cases hc : (decide (i < ws.length) && decide ((ws.getD i default).k = 1)) with
  | false =>
    rw [if_neg (by simp)]
    have : ∀ m, kacc ws i m = 0 := by
      intro m
      induction m with
      | zero => rfl
      | succ m ih => unfold kacc isR; rw [hc, Bool.false_and, if_neg (by simp), ih]
    exact this 11
  | true =>
    rw [if_pos rfl, ← refK_eq]
    have : ∀ m, m ≤ 11 → kacc ws i m = refK (ws.getD i default).t m := by
      intro m
      induction m with
      | zero => intro _; rfl
      | succ m ih =>
        intro hm
        unfold kacc refK isR; rw [hc, Bool.true_and, ih (by omega), nmT_nat (by omega)]
        by_cases q : (ws.getD i default).t = nmW.getD (m + 1) []
        · rw [if_pos q, if_pos (decide_eq_true q)]
        · rw [if_neg q, if_neg (by rw [decide_eq_false q]; simp)]
    exact this 11 (Nat.le_refl _)
theorem kacc_t {ws : List Wrd} {i k : Nat} (h1 : 1 ≤ k) (h : isR ws i 1 (nmT (k : Int)) = true) : kacc ws i k = (k : Int) := by
  obtain ⟨m, rfl⟩ : ∃ m, k = m + 1 := ⟨k - 1, by omega⟩
  unfold kacc; rw [if_pos h]
theorem kacc_f {ws : List Wrd} {i k : Nat} (h1 : 1 ≤ k) (h : isR ws i 1 (nmT (k : Int)) = false) : kacc ws i k = kacc ws i (k - 1) := by
  obtain ⟨m, rfl⟩ : ∃ m, k = m + 1 := ⟨k - 1, by omega⟩
  rw [show m + 1 - 1 = m by omega]
  conv => lhs; unfold kacc
  rw [if_neg (by rw [h]; simp)]
theorem body_a {ws : List Wrd} {i : Nat} (h : isR ws i 1 wProg = false) : bodyR ws i = ([], (i : Int), 5) := by unfold bodyR; rw [if_neg (by rw [h]; simp)]
theorem body_b {ws : List Wrd} {i : Nat} (h : isR ws i 1 wProg = true) (h2 : isR ws (headR ws i).2 3 [123] = false) : bodyR ws i = ([], ((headR ws i).2 : Int), 5) := by unfold bodyR; rw [if_pos h, if_neg (by rw [h2]; simp)]
theorem body_c {ws : List Wrd} {i : Nat} (h : isR ws i 1 wProg = true) (h2 : isR ws (headR ws i).2 3 [123] = true) : loopR ws ((headR ws i).2 + 1) [] = bodyR ws i := by unfold bodyR; rw [if_pos h, if_pos h2]
theorem nR1 {ws : List Wrd} {i : Nat} {lo hi : Int} (h : lo = -1) : numR ws i lo hi = (i, 0, 0) := by unfold numR; rw [if_pos h]
theorem nR2 {ws : List Wrd} {i : Nat} {lo hi : Int} (h : ¬ lo = -1) (h2 : ws.length ≤ i ∨ (ws.getD i default).k ≠ 2) : numR ws i lo hi = (i, 5, 0) := by
  unfold numR; rw [if_neg h, if_pos (by simp only [Bool.or_eq_true, decide_eq_true_eq]; exact h2)]
theorem nR3 {ws : List Wrd} {i : Nat} {lo hi : Int} (h : ¬ lo = -1) (h2 : i < ws.length) (h3 : (ws.getD i default).k = 2) (h4 : (ws.getD i default).n < lo ∨ hi < (ws.getD i default).n) : numR ws i lo hi = (i, 1, 0) := by
  unfold numR hasB; rw [if_neg h, if_neg (by simp only [Bool.or_eq_true, decide_eq_true_eq, not_or]; exact ⟨by omega, fun q => q h3⟩), if_neg h, if_neg (by simp only [Bool.and_eq_true, decide_eq_true_eq]; omega)]
theorem nR4 {ws : List Wrd} {i : Nat} {lo hi : Int} (h : ¬ lo = -1) (h2 : i < ws.length) (h3 : (ws.getD i default).k = 2) (h4 : lo ≤ (ws.getD i default).n ∧ (ws.getD i default).n ≤ hi) : numR ws i lo hi = (i + 1, 0, (ws.getD i default).n) := by
  unfold numR hasB; rw [if_neg h, if_neg (by simp only [Bool.or_eq_true, decide_eq_true_eq, not_or]; exact ⟨by omega, fun q => q h3⟩), if_neg h, if_pos (by simp only [Bool.and_eq_true, decide_eq_true_eq]; exact h4)]
theorem opB_of {ws : List Wrd} {i j : Nat} {a : Int} (h : opA ws i = (j, 0, a)) : opB ws i = numR ws j (loB (kindR ws i)) (hiB (kindR ws i)) := by unfold opB num2; rw [h, if_neg (by simp)]
theorem opR_Ab {ws : List Wrd} {i j ah : Nat} {e a : Int} (h1 : kindR ws i ≠ 0) (h2 : ah < 12) (h : opA ws i = (j, e, a)) (he : e ≠ 0) : (opR ws i ah).1 = j ∧ (opR ws i ah).2.1 = e := by
  have hB : opB ws i = (j, e, 0) := by unfold opB num2; rw [h, if_pos he]
  unfold opR; rw [if_neg h1, if_neg (by omega), hB, if_pos he]; exact ⟨rfl, rfl⟩
theorem opR_Bb {ws : List Wrd} {i j ah : Nat} {e b : Int} (h1 : kindR ws i ≠ 0) (h2 : ah < 12) (h : opB ws i = (j, e, b)) (he : e ≠ 0) : (opR ws i ah).1 = j ∧ (opR ws i ah).2.1 = e := by
  unfold opR; rw [if_neg h1, if_neg (by omega), h, if_pos he]; exact ⟨rfl, rfl⟩
theorem opR_sb {ws : List Wrd} {i j ah : Nat} {b : Int} (h1 : kindR ws i ≠ 0) (h2 : ah < 12) (h : opB ws i = (j, 0, b)) (he : isR ws j 3 [59] = false) : (opR ws i ah).1 = j ∧ (opR ws i ah).2.1 = 5 := by
  unfold opR; rw [if_neg h1, if_neg (by omega), h, if_neg (by simp), if_neg (by rw [he]; simp)]; exact ⟨rfl, rfl⟩
theorem opR_ok {ws : List Wrd} {i j ah : Nat} {a b : Int} (h1 : kindR ws i ≠ 0) (h2 : ah < 12) (hA : (opA ws i).2.2 = a) (h : opB ws i = (j, 0, b)) (he : isR ws j 3 [59] = true) : opR ws i ah = (j + 1, 0, ⟨kindR ws i, a, b⟩) := by
  unfold opR; rw [if_neg h1, if_neg (by omega), h, if_neg (by simp), if_pos he, hA]
theorem bad_of {ws : List Wrd} {R : List COp × Int × Int} {i j : Nat} {e : Int} {ops : List COp} (h : loopR ws i ops = R) (hn : isR ws i 3 [125] = false) (h1 : (opR ws i ops.length).1 = j ∧ (opR ws i ops.length).2.1 = e) (he : e ≠ 0) : R = ([], (j : Int), e) := by
  rw [← h, loopR_bad hn (by rw [h1.2]; exact he), h1.1, h1.2]
theorem fin_ok2 {ws : List Wrd} {i0 : Nat} {i : Int} {n0 : Nat} {ops : List COp} {ad : Option Addr} {n cap : Nat} {m : Mem0} (hi : i0 ≤ ws.length) (h : bodyR ws i0 = (ops, i, 0)) (hn : n = ops.length) (hs : Sl fO 135 3 n0 ops (.slice ad n cap) m) : ParT (parseO ws (i0 : Int)) n0 (.tuple #[.agg #[.bool (headR ws i0).1, .slice ad n cap], .int .i64 i, .int .i64 0]) m := by
  rw [parse_nat hi, h]; exact ⟨ad, n, cap, rfl, hn, hs⟩
/-- what is known between an op's numbers -/
def NumI (ws : List Wrd) (i k j : Nat) (lo hi a b : Int) : Prop :=
  k ≤ 2 ∧ j ≤ ws.length ∧ (k = 0 → j = i + 1 ∧ lo = loA (kindR ws i) ∧ hi = hiA (kindR ws i) ∧ a = 0 ∧ b = 0) ∧ (k = 1 → opA ws i = (j, 0, a) ∧ b = 0) ∧ (k = 2 → (opA ws i).2.2 = a ∧ opB ws i = (j, 0, b))
theorem NumI.skip {ws : List Wrd} {i k j : Nat} {lo hi a b : Int} (h : NumI ws i k j lo hi a b) (hq : (k = 0 ∧ lo < 0) ∨ (k = 1 ∧ kindR ws i ≠ 5)) : NumI ws i (k + 1) j lo hi a b := by
  obtain ⟨h1, h2, h3, h4, h5⟩ := h
  rcases hq with ⟨rfl, hq⟩ | ⟨rfl, hq⟩
  · obtain ⟨e1, e2, e3, e4, e5⟩ := h3 rfl
    subst e1; subst e4; subst e5; subst e2; subst e3
    have := loA_cases (kindR ws i)
    exact ⟨by omega, h2, fun q => by omega, fun _ => ⟨nR1 (by omega), rfl⟩, fun q => by omega⟩
  · obtain ⟨e1, e2⟩ := h4 rfl
    subst e2
    exact ⟨by omega, h2, fun q => by omega, fun q => by omega, fun _ => ⟨by rw [e1], by rw [opB_of e1, nR1 (by unfold loB; rw [if_neg hq])]⟩⟩
theorem NumI.take0 {ws : List Wrd} {i j : Nat} {lo hi a b : Int} (h : NumI ws i 0 j lo hi a b) (hq : ¬ lo < 0) (h2 : j < ws.length) (h3 : (ws.getD j default).k = 2) (h4 : lo ≤ (ws.getD j default).n ∧ (ws.getD j default).n ≤ hi) : NumI ws i 1 (j + 1) lo hi (ws.getD j default).n b := by
  obtain ⟨h1, _, h5, _, _⟩ := h
  obtain ⟨e1, e2, e3, e4, e5⟩ := h5 rfl
  subst e1; subst e2; subst e3; subst e5
  exact ⟨by omega, h2, fun q => by omega, fun _ => ⟨nR4 (by omega) h2 h3 h4, rfl⟩, fun q => by omega⟩
theorem NumI.take1 {ws : List Wrd} {i j : Nat} {lo hi lo' hi' a b : Int} (h : NumI ws i 1 j lo hi a b) (hq : kindR ws i = 5) (h2 : j < ws.length) (h3 : (ws.getD j default).k = 2) (h4 : 1 ≤ (ws.getD j default).n ∧ (ws.getD j default).n ≤ 64) : NumI ws i 2 (j + 1) lo' hi' a (ws.getD j default).n := by
  obtain ⟨h1, _, _, h5, _⟩ := h
  obtain ⟨e1, e2⟩ := h5 rfl
  exact ⟨by omega, h2, fun q => by omega, fun q => by omega, fun _ => ⟨by rw [e1], by rw [opB_of e1]; unfold loB hiB; rw [if_pos hq, if_pos hq]; exact nR4 (by decide) h2 h3 h4⟩⟩
theorem NumI.bad {ws : List Wrd} {i k j ah : Nat} {lo hi a b e : Int} (h : NumI ws i k j lo hi a b) (hk : k < 2) (h1 : kindR ws i ≠ 0) (h2 : ah < 12) (hq : ¬ ((k = 0 ∧ lo < 0) ∨ (k = 1 ∧ kindR ws i ≠ 5))) (he : e ≠ 0)
    (h3 : (e = 5 ∧ (ws.length ≤ j ∨ (ws.getD j default).k ≠ 2)) ∨ (e = 1 ∧ j < ws.length ∧ (ws.getD j default).k = 2 ∧ ((k = 0 ∧ ((ws.getD j default).n < lo ∨ hi < (ws.getD j default).n)) ∨ (k = 1 ∧ ((ws.getD j default).n < 1 ∨ 64 < (ws.getD j default).n))))) : (opR ws i ah).1 = j ∧ (opR ws i ah).2.1 = e := by
  obtain ⟨_, _, h5, h6, _⟩ := h
  have : k = 0 ∨ k = 1 := by omega
  rcases this with rfl | rfl
  · obtain ⟨e1, e2, e3, e4, e5⟩ := h5 rfl
    subst e1; subst e2; subst e3
    have hlo : ¬ loA (kindR ws i) = -1 := by omega
    rcases h3 with ⟨rfl, h3⟩ | ⟨rfl, a1, a2, a3⟩
    · exact opR_Ab h1 h2 (nR2 hlo h3) he
    · rcases a3 with ⟨_, a3⟩ | ⟨a3, _⟩
      · exact opR_Ab h1 h2 (nR3 hlo a1 a2 a3) he
      · cases a3
  · obtain ⟨e1, e2⟩ := h6 rfl
    have h5' : kindR ws i = 5 := by omega
    have e3 := opB_of e1
    unfold loB hiB at e3; rw [if_pos h5', if_pos h5'] at e3
    rcases h3 with ⟨rfl, h3⟩ | ⟨rfl, a1, a2, a3⟩
    · exact opR_Bb h1 h2 (e3.trans (nR2 (by decide) h3)) he
    · rcases a3 with ⟨a3, _⟩ | ⟨_, a3⟩
      · cases a3
      · exact opR_Bb h1 h2 (e3.trans (nR3 (by decide) a1 a2 a3)) he
set_option maxRecDepth 100000 in
theorem ris_spec {ws : List Wrd} {ad : Option Addr} {n cap : Nat} (i : Nat) (k : Int) (t : List UInt8) (w : World) (hn : n = ws.length) (hl : Sr fW 4 ws (.slice ad n cap) w) : Ret Tryz.prog 87 #[.slice ad n cap, .int .i64 (i : Nat), .int .i64 k, vS t] w (fun v w' => v = .bool (isR ws i k t) ∧ Ext w w') := by
 refine Ret.enterM (l := [.slice ad n cap, .int .i64 (i : Nat), .int .i64 k, vS t]) Tryz.func87 rfl Tryz.ntmps87 rfl ([]) (no) (Mem.nil w) ?_
 refine wpM.seq ?_
 refine wpM.region ?_
 refine LM.val (ov_assign rfl) ?_
 refine LM.nil ?_
 refine QM.sub (e' := [(0, _), (1, _), (2, _), (3, _)]) ⟨rfl, rfl, rfl, rfl, trivial⟩ ?_
 refine QM.then ?_
 refine wpM.seq ?_
 refine wpM.region ?_
 refine LM.val (ov_move rfl) ?_
 refine LM.val (ov_move rfl) ?_
 refine LM.val (ov_len Tryz.underlying23 rfl) ?_
 refine LM.val (ov_lss rfl rfl) ?_
 refine LM.val (ov_move rfl) ?_
 refine LM.splitD (t := 13) rfl (fun h1 => ?_) (fun h1 => ?_)
 ·
  refine LM.strip (t := 13) rfl rfl rfl ?_
  refine LM.val (ov_move rfl) ?_
  refine LM.strip (t := 13) rfl rfl rfl ?_
  refine LM.val (ov_move rfl) ?_
  refine LM.strip (t := 13) rfl rfl rfl ?_
  refine LM.val (ov_idxSN (by first | exact Sr.spt (by assumption) | exact Sl.spt (by assumption)) Tryz.underlying23 Tryz.sizeOf65 rfl rfl (by omega)) ?_
  refine LM.strip (t := 13) rfl rfl rfl ?_
  refine LM.val (ov_field Tryz.underlying65 rfl Tryz.sizeOf3 rfl (k := 0) rfl rfl) ?_
  refine LM.strip (t := 13) rfl rfl rfl ?_
  first | refine LM.rd (om_slE (j := 0) (by assumption) (by intro _; rfl) Tryz.isAgg3 rfl rfl (by exact getq default (by first | omega | (simp only [List.length_set, List.length_append, List.length_cons, List.length_nil]; omega))) rfl (by rfl)) ?_ | refine LM.rdC (om_srE (j := 0) (by assumption) Tryz.isAgg3 rfl rfl (by exact getq default (by first | omega | (simp only [List.length_set, List.length_append, List.length_cons, List.length_nil]; omega))) (by rfl) (by rfl) id) ?_ | refine LM.rd (om_ld Tryz.isAgg3 rfl rfl) ?_
  refine LM.strip (t := 13) rfl rfl rfl ?_
  refine LM.val (ov_move rfl) ?_
  refine LM.strip (t := 13) rfl rfl rfl ?_
  refine LM.val (ov_eql rfl rfl) ?_
  refine LM.val (ov_pickT rfl rfl) ?_
  refine LM.val (ov_move rfl) ?_
  refine LM.splitD (t := 22) rfl (fun h2 => ?_) (fun h2 => ?_)
  ·
   refine LM.strip (t := 22) rfl rfl rfl ?_
   refine LM.val (ov_move rfl) ?_
   refine LM.strip (t := 22) rfl rfl rfl ?_
   refine LM.val (ov_move rfl) ?_
   refine LM.strip (t := 22) rfl rfl rfl ?_
   refine LM.val (ov_idxSN (by first | exact Sr.spt (by assumption) | exact Sl.spt (by assumption)) Tryz.underlying23 Tryz.sizeOf65 rfl rfl (by omega)) ?_
   refine LM.strip (t := 22) rfl rfl rfl ?_
   refine LM.val (ov_field Tryz.underlying65 rfl Tryz.sizeOf9 rfl (k := 1) rfl rfl) ?_
   refine LM.strip (t := 22) rfl rfl rfl ?_
   first | refine LM.rd (om_slE (j := 1) (by assumption) (by intro _; rfl) Tryz.isAgg9 rfl rfl (by exact getq default (by first | omega | (simp only [List.length_set, List.length_append, List.length_cons, List.length_nil]; omega))) rfl (by rfl)) ?_ | refine LM.rdC (om_srE (j := 1) (by assumption) Tryz.isAgg9 rfl rfl (by exact getq default (by first | omega | (simp only [List.length_set, List.length_append, List.length_cons, List.length_nil]; omega))) (by rfl) (by rfl) id) ?_ | refine LM.rd (om_ld Tryz.isAgg9 rfl rfl) ?_
   refine LM.strip (t := 22) rfl rfl rfl ?_
   refine LM.val (ov_move rfl) ?_
   refine LM.strip (t := 22) rfl rfl rfl ?_
   refine LM.val (ov_seqlL rfl rfl) ?_
   refine LM.val (ov_pickT rfl rfl) ?_
   refine LM.val (ov_assign rfl) ?_
   refine LM.nil ?_
   refine QM.sub (e' := [(8, _)]) ⟨rfl, trivial⟩ ?_
   refine QM.then ?_
   refine wpM.ret ?_
   refine QM.leave (.inl rfl) [.tmp 8] Tryz.results87 rfl ?_
   intro w' hm' hc' hg'
   refine ⟨?_, hc'⟩; simp only [resV, isR]; rw [decide_eq_true (show i < ws.length by omega), decide_eq_true h2]; simp only [Bool.true_and]
  ·
   refine LM.drop (t := 22) rfl rfl rfl ?_
   refine LM.drop (t := 22) rfl rfl rfl ?_
   refine LM.drop (t := 22) rfl rfl rfl ?_
   refine LM.drop (t := 22) rfl rfl rfl ?_
   refine LM.drop (t := 22) rfl rfl rfl ?_
   refine LM.drop (t := 22) rfl rfl rfl ?_
   refine LM.drop (t := 22) rfl rfl rfl ?_
   refine LM.val (ov_pickF rfl rfl) ?_
   refine LM.val (ov_assign rfl) ?_
   refine LM.nil ?_
   refine QM.sub (e' := [(8, _)]) ⟨rfl, trivial⟩ ?_
   refine QM.then ?_
   refine wpM.ret ?_
   refine QM.leave (.inl rfl) [.tmp 8] Tryz.results87 rfl ?_
   intro w' hm' hc' hg'
   refine ⟨?_, hc'⟩; simp only [resV, isR]; rw [decide_eq_false h2]; simp only [Bool.and_false, Bool.false_and]
 ·
  refine LM.drop (t := 13) rfl rfl rfl ?_
  refine LM.drop (t := 13) rfl rfl rfl ?_
  refine LM.drop (t := 13) rfl rfl rfl ?_
  refine LM.drop (t := 13) rfl rfl rfl ?_
  refine LM.drop (t := 13) rfl rfl rfl ?_
  refine LM.drop (t := 13) rfl rfl rfl ?_
  refine LM.drop (t := 13) rfl rfl rfl ?_
  refine LM.val (ov_pickF rfl rfl) ?_
  refine LM.val (ov_move rfl) ?_
  refine LM.drop (t := 22) rfl rfl rfl ?_
  refine LM.drop (t := 22) rfl rfl rfl ?_
  refine LM.drop (t := 22) rfl rfl rfl ?_
  refine LM.drop (t := 22) rfl rfl rfl ?_
  refine LM.drop (t := 22) rfl rfl rfl ?_
  refine LM.drop (t := 22) rfl rfl rfl ?_
  refine LM.drop (t := 22) rfl rfl rfl ?_
  refine LM.val (ov_pickF rfl rfl) ?_
  refine LM.val (ov_assign rfl) ?_
  refine LM.nil ?_
  refine QM.sub (e' := [(8, _)]) ⟨rfl, trivial⟩ ?_
  refine QM.then ?_
  refine wpM.ret ?_
  refine QM.leave (.inl rfl) [.tmp 8] Tryz.results87 rfl ?_
  intro w' hm' hc' hg'
  refine ⟨?_, hc'⟩; simp only [resV, isR]; rw [decide_eq_false (show ¬ i < ws.length by omega)]; simp only [Bool.and_false, Bool.false_and]

set_option maxRecDepth 100000 in
set_option maxHeartbeats 1000000 in
theorem rparse_spec {ws : List Wrd} {ad : Option Addr} {n cap : Nat} (p : Int) (w : World) (hn : n = ws.length) (hx : ws.length ≤ 1000000000) (hl : Sr fW 4 ws (.slice ad n cap) w) : Ret Tryz.prog 45 #[.slice ad n cap, .int .i64 p] w (fun v w' => Ext w w' ∧ ∃ m, ParT (parseO ws p) w.heap.size v m ∧ Mem w' m ∧ ∀ p ∈ m, w.heap.size ≤ p.1) := by
 refine Ret.enterM (l := [.slice ad n cap, .int .i64 p]) Tryz.func45 rfl Tryz.ntmps45 rfl ([]) (no) (Mem.nil w) ?_
 refine wpM.seq ?_
 refine wpM.region ?_
 refine LM.alloc Tryz.zeroValue87 rfl (fun b4 hb4 => ?_)
 refine LM.val (ov_assign rfl) ?_
 refine LM.val (ov_assign rfl) ?_
 refine LM.nil ?_
 refine QM.sub (e' := [(0, _), (1, _), (4, _)]) ⟨rfl, rfl, rfl, trivial⟩ ?_
 refine QM.then ?_
 refine wpM.seq ?_
 refine wpM.region ?_
 refine LM.val (ov_build (cs := #[_, _]) rfl (by first | rfl | kernel_rfl)) ?_
 refine LM.alloc Tryz.zeroValue87 rfl (fun b7 hb7 => ?_)
 refine LM.stW Tryz.sizeOf87 rfl rfl rfl rfl (by first | rfl | decide | (simp; done)) (fun hlt => absurd hlt (by omega)) ?_
 refine LM.nil ?_
 refine QM.sub (e' := [(0, _), (1, _), (4, _), (7, _)]) ⟨rfl, rfl, rfl, rfl, trivial⟩ ?_
 refine QM.then ?_
 refine wpM.seq ?_
 refine wpM.seq ?_
 refine wpM.region ?_
 refine LM.val (ov_move rfl) ?_
 refine LM.val (ov_lss rfl rfl) ?_
 refine LM.val (ov_move rfl) ?_
 refine LM.splitD (t := 18) rfl (fun h1 => ?_) (fun h1 => ?_)
 ·
  refine LM.drop (t := 18) rfl rfl rfl ?_
  refine LM.drop (t := 18) rfl rfl rfl ?_
  refine LM.drop (t := 18) rfl rfl rfl ?_
  refine LM.drop (t := 18) rfl rfl rfl ?_
  refine LM.val (ov_pickT rfl rfl) ?_
  refine LM.nil ?_
  refine QM.sub (e' := [(0, _), (1, _), (4, _), (7, _), (23, _)]) ⟨rfl, rfl, rfl, rfl, rfl, trivial⟩ ?_
  refine QM.then ?_
  refine wpM.condT rfl ?_
  refine wpM.seq ?_
  refine wpM.region ?_
  refine LM.rd (om_ldW Tryz.isAgg87 Tryz.sizeOf87 rfl rfl) ?_
  refine LM.stW Tryz.sizeOf87 rfl rfl rfl rfl (by first | rfl | decide | (simp; done)) (fun hlt => absurd hlt (by omega)) ?_
  refine LM.val (ov_assign rfl) ?_
  refine LM.val (ov_assign rfl) ?_
  refine LM.nil ?_
  refine QM.sub (e' := [(4, _), (5, _), (6, _)]) ⟨rfl, rfl, rfl, trivial⟩ ?_
  refine QM.then ?_
  refine wpM.ret ?_
  refine QM.then_ret ?_
  refine QM.leaveCs (ds := ([])) (.inl rfl) [.cell 4 87, .tmp 5, .tmp 6] Tryz.results45 hd_nil (rc_w rfl Tryz.isAgg87 Tryz.sizeOf87 rfl (rc_tmp rfl (rc_tmp rfl rc_nil))) ?_
  intro w' hm' hc'
  have hpar : parseO ws p = (false, [], 0, 5) := (by unfold parseO; rw [if_pos (by omega)]); rw [hpar]; exact ⟨hc', [], ⟨none, 0, 0, rfl, rfl, .nil _ _ _ _⟩, Mem.nil _, fun p hp => by cases hp⟩
 ·
  refine LM.strip (t := 18) rfl rfl rfl ?_
  refine LM.val (ov_move rfl) ?_
  refine LM.strip (t := 18) rfl rfl rfl ?_
  refine LM.val (ov_move rfl) ?_
  refine LM.strip (t := 18) rfl rfl rfl ?_
  refine LM.val (ov_len Tryz.underlying23 rfl) ?_
  refine LM.strip (t := 18) rfl rfl rfl ?_
  refine LM.val (ov_gtr rfl rfl) ?_
  refine LM.val (ov_pickF rfl rfl) ?_
  refine LM.nil ?_
  refine QM.sub (e' := [(0, _), (1, _), (4, _), (7, _), (23, _)]) ⟨rfl, rfl, rfl, rfl, rfl, trivial⟩ ?_
  refine QM.then ?_
  refine wpM.condD rfl (fun h2 => ?_) (fun h2 => ?_)
  ·
   refine wpM.seq ?_
   refine wpM.region ?_
   refine LM.rd (om_ldW Tryz.isAgg87 Tryz.sizeOf87 rfl rfl) ?_
   refine LM.stW Tryz.sizeOf87 rfl rfl rfl rfl (by first | rfl | decide | (simp; done)) (fun hlt => absurd hlt (by omega)) ?_
   refine LM.val (ov_assign rfl) ?_
   refine LM.val (ov_assign rfl) ?_
   refine LM.nil ?_
   refine QM.sub (e' := [(4, _), (5, _), (6, _)]) ⟨rfl, rfl, rfl, trivial⟩ ?_
   refine QM.then ?_
   refine wpM.ret ?_
   refine QM.then_ret ?_
   refine QM.leaveCs (ds := ([])) (.inl rfl) [.cell 4 87, .tmp 5, .tmp 6] Tryz.results45 hd_nil (rc_w rfl Tryz.isAgg87 Tryz.sizeOf87 rfl (rc_tmp rfl (rc_tmp rfl rc_nil))) ?_
   intro w' hm' hc'
   have hpar : parseO ws p = (false, [], 0, 5) := (by unfold parseO; rw [if_pos (by omega)]); rw [hpar]; exact ⟨hc', [], ⟨none, 0, 0, rfl, rfl, .nil _ _ _ _⟩, Mem.nil _, fun p hp => by cases hp⟩
  ·
   obtain ⟨i0, rfl⟩ : ∃ i0 : Nat, p = (i0 : Nat) := ⟨p.toNat, by omega⟩; have hi0 : i0 ≤ ws.length := (by omega)
   refine wpM.skip ?_
   refine QM.then ?_
   refine wpM.seq ?_
   refine wpM.seq ?_
   refine wpM.region ?_
   refine LM.val (ov_move rfl) ?_
   refine LM.val (ov_move rfl) ?_
   refine LM.callE (oc_call (enters_fn Tryz.func87 (by kernel_rfl) rfl) rfl) (fun w hm hc hg => ris_spec i0 1 wProg w hn (hl.ext hc)) ?_
   first | refine LM.val (ov_notD rfl) ?_ | refine LM.val (ov_not rfl) ?_
   refine LM.nil ?_
   refine QM.sub (e' := [(0, _), (1, _), (4, _), (7, _), (28, _)]) ⟨rfl, rfl, rfl, rfl, rfl, trivial⟩ ?_
   refine QM.then ?_
   first | refine wpM.condD rfl (fun h3 => ?_) (fun h3 => ?_) | refine wpM.condB rfl (fun h3 => ?_) (fun h3 => ?_)
   ·
    refine wpM.seq ?_
    refine wpM.region ?_
    refine LM.rd (om_ldW Tryz.isAgg87 Tryz.sizeOf87 rfl rfl) ?_
    refine LM.val (ov_move rfl) ?_
    refine LM.stW Tryz.sizeOf87 rfl rfl rfl rfl (by first | rfl | decide | (simp; done)) (fun hlt => absurd hlt (by omega)) ?_
    refine LM.val (ov_assign rfl) ?_
    refine LM.val (ov_assign rfl) ?_
    refine LM.nil ?_
    refine QM.sub (e' := [(4, _), (5, _), (6, _)]) ⟨rfl, rfl, rfl, trivial⟩ ?_
    refine QM.then ?_
    refine wpM.ret ?_
    refine QM.then_ret ?_
    refine QM.leaveCs (ds := ([])) (.inl rfl) [.cell 4 87, .tmp 5, .tmp 6] Tryz.results45 hd_nil (rc_w rfl Tryz.isAgg87 Tryz.sizeOf87 rfl (rc_tmp rfl (rc_tmp rfl rc_nil))) ?_
    intro w' hm' hc'
    exact ⟨hc', [], fin_bad hi0 (body_a (by simpa using h3)) (by decide), Mem.nil _, fun p hp => by cases hp⟩
   ·
    have hp : isR ws i0 1 wProg = true := (by simpa using h3)
    refine wpM.skip ?_
    refine QM.then ?_
    refine wpM.seq ?_
    refine wpM.region ?_
    refine LM.val (ov_move rfl) ?_
    refine LM.val (ov_add64 rfl rfl (by omega)) ?_
    refine LM.val (ov_assign rfl) ?_
    refine LM.nil ?_
    refine QM.sub (e' := [(0, _), (1, _), (4, _), (7, _)]) ⟨rfl, rfl, rfl, rfl, trivial⟩ ?_
    refine QM.then ?_
    refine wpM.seq ?_
    refine wpM.seq ?_
    refine wpM.region ?_
    refine LM.val (ov_move rfl) ?_
    refine LM.val (ov_move rfl) ?_
    rw [show ((i0 : Int) + 1) = ((i0 + 1 : Nat) : Int) from rfl]
    refine LM.callE (oc_call (enters_fn Tryz.func87 (by kernel_rfl) rfl) rfl) (fun w hm hc hg => ris_spec (i0 + 1) 1 wForever w hn (hl.ext hc)) ?_
    refine LM.nil ?_
    refine QM.sub (e' := [(0, _), (1, _), (4, _), (7, _), (35, _)]) ⟨rfl, rfl, rfl, rfl, rfl, trivial⟩ ?_
    refine QM.then ?_
    refine wpM.joinK (α := Nat) (fun jj => [(1, .int .i64 (jj : Nat))]) [(0, _), (4, _), (7, _)] (fun jj => (b7, .cells #[.bool (headR ws i0).1, .slice none 0 0] 87 (0, 0)) :: (b4, .cells #[.bool false, .slice none 0 0] 87 (0, 0)) :: []) (fun jj => jj = (headR ws i0).2) ⟨rfl, rfl, rfl, trivial⟩ ?_ ?_
    ·
     first | refine wpM.condD rfl (fun h4 => ?_) (fun h4 => ?_) | refine wpM.condB rfl (fun h4 => ?_) (fun h4 => ?_)
     ·
      refine wpM.seq ?_
      refine wpM.region ?_
      refine LM.val (ov_field Tryz.underlying87 rfl Tryz.sizeOf4 rfl (k := 0) rfl rfl) ?_
      refine LM.st Tryz.sizeOf4 rfl rfl rfl (by first | decide | exact Nat.le_of_ble_eq_true rfl | (simp; done) | (simp; omega)) rfl (fun hlt => absurd hlt (by omega)) ?_
      refine LM.nil ?_
      refine QM.sub (e' := [(0, _), (1, _), (4, _), (7, _)]) ⟨rfl, rfl, rfl, rfl, trivial⟩ ?_
      refine QM.then ?_
      refine wpM.region ?_
      refine LM.val (ov_move rfl) ?_
      refine LM.val (ov_add64 rfl rfl (by omega)) ?_
      refine LM.val (ov_assign rfl) ?_
      refine LM.nil ?_
      refine QM.sub (e' := [(0, _), (1, _), (4, _), (7, _)]) ⟨rfl, rfl, rfl, rfl, trivial⟩ ?_
      rw [show (headR ws i0).1 = true from h4]
      refine QM.meetK (i0 + 1 + 1) ⟨(by first | rfl | exact lk rfl (by congr 1; omega) | exact lk rfl (by simp)), rfl, rfl, rfl, trivial⟩ (by (repeat' (first | exact SubM.nil _ | refine SubM.cons rfl ?_ | refine SubM.app ?_))) ?_
      · show i0 + 1 + 1 = (if isR ws (i0 + 1) 1 wForever then i0 + 2 else i0 + 1); rw [if_pos h4]
     ·
      refine wpM.skip ?_
      rw [show (headR ws i0).1 = false from h4]
      refine QM.meetK (i0 + 1) ⟨(by first | rfl | exact lk rfl (by congr 1; omega) | exact lk rfl (by simp)), rfl, rfl, rfl, trivial⟩ (by (repeat' (first | exact SubM.nil _ | refine SubM.cons rfl ?_ | refine SubM.app ?_))) ?_
      · show i0 + 1 = (if isR ws (i0 + 1) 1 wForever then i0 + 2 else i0 + 1); rw [if_neg (by rw [h4]; simp)]
    ·
     rintro jj rfl
     change QM _ _ _ _ _ ((b7, .cells #[.bool (headR ws i0).1, .slice none 0 0] 87 (0, 0)) :: (b4, .cells #[.bool false, .slice none 0 0] 87 (0, 0)) :: []) _ _ _
     refine QM.then ?_
     refine wpM.seq ?_
     refine wpM.seq ?_
     refine wpM.region ?_
     refine LM.val (ov_move rfl) ?_
     refine LM.val (ov_move rfl) ?_
     refine LM.callE (oc_call (enters_fn Tryz.func87 (by kernel_rfl) rfl) rfl) (fun w hm hc hg => ris_spec (headR ws i0).2 3 [123] w hn (hl.ext hc)) ?_
     first | refine LM.val (ov_notD rfl) ?_ | refine LM.val (ov_not rfl) ?_
     refine LM.nil ?_
     refine QM.sub (e' := [(0, _), (1, _), (4, _), (7, _), (42, _)]) ⟨rfl, rfl, rfl, rfl, rfl, trivial⟩ ?_
     refine QM.then ?_
     first | refine wpM.condD rfl (fun h5 => ?_) (fun h5 => ?_) | refine wpM.condB rfl (fun h5 => ?_) (fun h5 => ?_)
     ·
      refine wpM.seq ?_
      refine wpM.region ?_
      refine LM.val (ov_build (cs := #[_, _]) rfl (by first | rfl | kernel_rfl)) ?_
      refine LM.val (ov_move rfl) ?_
      refine LM.stW Tryz.sizeOf87 rfl rfl rfl rfl (by first | rfl | decide | (simp; done)) (fun hlt => absurd hlt (by omega)) ?_
      refine LM.val (ov_assign rfl) ?_
      refine LM.val (ov_assign rfl) ?_
      refine LM.nil ?_
      refine QM.sub (e' := [(4, _), (5, _), (6, _)]) ⟨rfl, rfl, rfl, trivial⟩ ?_
      refine QM.then ?_
      refine wpM.ret ?_
      refine QM.then_ret ?_
      refine QM.leaveCs (ds := ([])) (.inl rfl) [.cell 4 87, .tmp 5, .tmp 6] Tryz.results45 hd_nil (rc_w rfl Tryz.isAgg87 Tryz.sizeOf87 rfl (rc_tmp rfl (rc_tmp rfl rc_nil))) ?_
      intro w' hm' hc'
      exact ⟨hc', [], fin_bad hi0 (body_b hp (by simpa using h5)) (by decide), Mem.nil _, fun p hp => by cases hp⟩
     ·
      have hbr : isR ws (headR ws i0).2 3 [123] = true := (by simpa using h5); have hbr2 := isR_lt hbr
      refine wpM.skip ?_
      refine QM.then ?_
      refine wpM.seq ?_
      refine wpM.region ?_
      refine LM.val (ov_move rfl) ?_
      refine LM.val (ov_add64 rfl rfl (by omega)) ?_
      refine LM.val (ov_assign rfl) ?_
      refine LM.nil ?_
      refine QM.sub (e' := [(0, _), (1, _), (4, _), (7, _)]) ⟨rfl, rfl, rfl, rfl, trivial⟩ ?_
      refine QM.then ?_
      refine wpM.seq ?_
      refine wpM.block ?_
      refine wpM.loopK0 (α := Nat × List COp × Option Addr × Nat × Nat × Mem0) (fun ⟨i, ops, ado, no, capo, mo⟩ => [(1, .int .i64 (i : Nat))]) [(0, _), (4, _), (7, _)] (fun ⟨i, ops, ado, no, capo, mo⟩ => mo ++ ((b7, .cells #[.bool (headR ws i0).1, .slice ado no capo] 87 (0, 0)) :: (b4, .cells #[.bool false, .slice none 0 0] 87 (0, 0)) :: [])) (fun ⟨i, ops, ado, no, capo, mo⟩ => loopR ws i ops = bodyR ws i0 ∧ i ≤ ws.length ∧ no = ops.length ∧ Sl fO 135 3 w.heap.size ops (.slice ado no capo) mo ∧ ops.length ≤ 12) (fun ⟨i, ops, ado, no, capo, mo⟩ => ws.length - i) (((headR ws i0).2 + 1, [], none, 0, 0, [])) ⟨(by first | rfl | exact lk rfl (by congr 1; omega) | exact lk rfl (by simp)), rfl, rfl, rfl, trivial⟩ (by (repeat' (first | exact SubM.nil _ | refine SubM.cons rfl ?_ | refine SubM.app ?_))) ⟨body_c hp hbr, isR_lt hbr, rfl, .nil _ _ _ _, by decide⟩ ?_
      rintro ⟨i, ops, ado, no, capo, mo⟩ ⟨hL, hile, hno, hso, hol⟩
      change wpM _ _ _ _ _ _ _ (mo ++ ((b7, .cells #[.bool (headR ws i0).1, .slice ado no capo] 87 (0, 0)) :: (b4, .cells #[.bool false, .slice none 0 0] 87 (0, 0)) :: [])) _ _ _
      refine wpM.seq ?_
      refine wpM.seq ?_
      refine wpM.region ?_
      refine LM.val (ov_move rfl) ?_
      refine LM.val (ov_move rfl) ?_
      refine LM.callE (oc_call (enters_fn Tryz.func87 (by kernel_rfl) rfl) rfl) (fun w hm hc hg => ris_spec i 3 [125] w hn (hl.ext hc)) ?_
      first | refine LM.val (ov_notD rfl) ?_ | refine LM.val (ov_not rfl) ?_
      refine LM.nil ?_
      refine QM.sub (e' := [(0, _), (1, _), (4, _), (7, _), (50, _)]) ⟨rfl, rfl, rfl, rfl, rfl, trivial⟩ ?_
      refine QM.then ?_
      first | refine wpM.condD rfl (fun h6 => ?_) (fun h6 => ?_) | refine wpM.condB rfl (fun h6 => ?_) (fun h6 => ?_)
      ·
       have hn0 : isR ws i 3 [125] = false := (by simpa using h6)
       refine wpM.skip ?_
       refine QM.then ?_
       refine wpM.block ?_
       refine wpM.seq ?_
       refine wpM.region ?_
       refine LM.val (ov_assign rfl) ?_
       refine LM.nil ?_
       refine QM.sub (e' := [(0, _), (1, _), (4, _), (7, _), (8, _)]) ⟨rfl, rfl, rfl, rfl, rfl, trivial⟩ ?_
       refine QM.then ?_
       refine wpM.seq ?_
       refine wpM.seq ?_
       refine wpM.region ?_
       refine LM.val (ov_assign rfl) ?_
       refine LM.nil ?_
       refine QM.sub (e' := [(0, _), (1, _), (4, _), (7, _), (8, _), (9, _)]) ⟨rfl, rfl, rfl, rfl, rfl, rfl, trivial⟩ ?_
       refine QM.then ?_
       refine wpM.block ?_
       refine wpM.loopK0 (α := Nat × Int) (fun ⟨k, kd⟩ => [(8, .int .i64 kd), (9, .int .i64 (k : Nat))]) [(0, _), (1, _), (4, _), (7, _)] (fun ⟨k, kd⟩ => mo ++ ((b7, .cells #[.bool (headR ws i0).1, .slice ado no capo] 87 (0, 0)) :: (b4, .cells #[.bool false, .slice none 0 0] 87 (0, 0)) :: [])) (fun ⟨k, kd⟩ => 1 ≤ k ∧ k ≤ 12 ∧ kd = kacc ws i (k - 1)) (fun ⟨k, kd⟩ => 12 - k) ((1, 0)) ⟨(by first | rfl | exact lk rfl (by congr 1; omega) | exact lk rfl (by simp)), (by first | rfl | exact lk rfl (by congr 1; omega) | exact lk rfl (by simp)), rfl, rfl, rfl, rfl, trivial⟩ (by (repeat' (first | exact SubM.nil _ | refine SubM.cons rfl ?_ | refine SubM.app ?_))) ⟨by omega, by omega, rfl⟩ ?_
       rintro ⟨k, kd⟩ ⟨hk1, hk2, hkd⟩
       change wpM _ _ _ _ _ _ _ (mo ++ ((b7, .cells #[.bool (headR ws i0).1, .slice ado no capo] 87 (0, 0)) :: (b4, .cells #[.bool false, .slice none 0 0] 87 (0, 0)) :: [])) _ _ _
       refine wpM.seq ?_
       refine wpM.seq ?_
       refine wpM.region ?_
       refine LM.val (ov_move rfl) ?_
       refine LM.val (ov_leq rfl rfl) ?_
       refine LM.nil ?_
       refine QM.sub (e' := [(0, _), (1, _), (4, _), (7, _), (8, _), (9, _), (52, _)]) ⟨rfl, rfl, rfl, rfl, rfl, rfl, rfl, trivial⟩ ?_
       refine QM.then ?_
       refine wpM.condD rfl (fun h7 => ?_) (fun h7 => ?_)
       ·
        refine wpM.skip ?_
        refine QM.then ?_
        refine wpM.seq ?_
        refine wpM.block ?_
        refine wpM.seq ?_
        refine wpM.region ?_
        refine LM.val (ov_move rfl) ?_
        refine LM.val (ov_move rfl) ?_
        refine LM.val (ov_move rfl) ?_
        refine LM.callE (oc_call (enters_fn Tryz.func88 (by kernel_rfl) rfl) rfl) (fun w hm hc hg => rname_spec _ w) ?_
        refine LM.callE (oc_call (enters_fn Tryz.func87 (by kernel_rfl) rfl) rfl) (fun w hm hc hg => ris_spec i 1 _ w hn (hl.ext hc)) ?_
        refine LM.nil ?_
        refine QM.sub (e' := [(0, _), (1, _), (4, _), (7, _), (8, _), (9, _), (59, _)]) ⟨rfl, rfl, rfl, rfl, rfl, rfl, rfl, trivial⟩ ?_
        refine QM.then ?_
        first | refine wpM.condD rfl (fun h8 => ?_) (fun h8 => ?_) | refine wpM.condB rfl (fun h8 => ?_) (fun h8 => ?_)
        ·
         refine wpM.region ?_
         refine LM.val (ov_move rfl) ?_
         refine LM.val (ov_assign rfl) ?_
         refine LM.nil ?_
         refine QM.sub (e' := [(0, _), (1, _), (4, _), (7, _), (8, _), (9, _)]) ⟨rfl, rfl, rfl, rfl, rfl, rfl, trivial⟩ ?_
         refine QM.block_normal ?_
         refine QM.then ?_
         refine wpM.region ?_
         refine LM.val (ov_move rfl) ?_
         refine LM.val (ov_add64 rfl rfl (by omega)) ?_
         refine LM.val (ov_assign rfl) ?_
         refine LM.nil ?_
         refine QM.sub (e' := [(0, _), (1, _), (4, _), (7, _), (8, _), (9, _)]) ⟨rfl, rfl, rfl, rfl, rfl, rfl, trivial⟩ ?_
         refine QM.againK ((k + 1, (k : Int))) ⟨(by first | rfl | exact lk rfl (by congr 1; omega) | exact lk rfl (by simp)), (by first | rfl | exact lk rfl (by congr 1; omega) | exact lk rfl (by simp)), rfl, rfl, rfl, rfl, trivial⟩ (by (repeat' (first | exact SubM.nil _ | refine SubM.cons rfl ?_ | refine SubM.app ?_))) (fun _ h => h) ?_ ?_
         · exact ⟨by omega, by omega, (kacc_t hk1 h8).symm⟩
         · first | omega | (dsimp only; omega)
        ·
         refine wpM.skip ?_
         refine QM.block_normal ?_
         refine QM.then ?_
         refine wpM.region ?_
         refine LM.val (ov_move rfl) ?_
         refine LM.val (ov_add64 rfl rfl (by omega)) ?_
         refine LM.val (ov_assign rfl) ?_
         refine LM.nil ?_
         refine QM.sub (e' := [(0, _), (1, _), (4, _), (7, _), (8, _), (9, _)]) ⟨rfl, rfl, rfl, rfl, rfl, rfl, trivial⟩ ?_
         refine QM.againK ((k + 1, kd)) ⟨(by first | rfl | exact lk rfl (by congr 1; omega) | exact lk rfl (by simp)), (by first | rfl | exact lk rfl (by congr 1; omega) | exact lk rfl (by simp)), rfl, rfl, rfl, rfl, trivial⟩ (by (repeat' (first | exact SubM.nil _ | refine SubM.cons rfl ?_ | refine SubM.app ?_))) (fun _ h => h) ?_ ?_
         · exact ⟨by omega, by omega, by rw [hkd]; exact (kacc_f hk1 h8).symm⟩
         · first | omega | (dsimp only; omega)
       ·
        obtain rfl : kd = kindR ws i := (by rw [hkd, show k - 1 = 11 by omega, kacc_eq])
        refine wpM.exit ?_
        refine QM.then_exit ?_
        refine QM.then_exit ?_
        refine QM.block_hit ?_
        refine QM.then ?_
        refine wpM.seq ?_
        refine wpM.seq ?_
        refine wpM.region ?_
        refine LM.val (ov_move rfl) ?_
        refine LM.val (ov_eql rfl rfl) ?_
        refine LM.nil ?_
        refine QM.sub (e' := [(0, _), (1, _), (4, _), (7, _), (8, _), (62, _)]) ⟨rfl, rfl, rfl, rfl, rfl, rfl, trivial⟩ ?_
        refine QM.then ?_
        refine wpM.condD rfl (fun h9 => ?_) (fun h9 => ?_)
        ·
         refine wpM.seq ?_
         refine wpM.region ?_
         refine LM.val (ov_build (cs := #[_, _]) rfl (by first | rfl | kernel_rfl)) ?_
         refine LM.val (ov_move rfl) ?_
         refine LM.stW Tryz.sizeOf87 rfl rfl rfl rfl (by first | rfl | decide | (simp; done)) (fun hlt => absurd hlt (by omega)) ?_
         refine LM.val (ov_assign rfl) ?_
         refine LM.val (ov_assign rfl) ?_
         refine LM.nil ?_
         refine QM.sub (e' := [(4, _), (5, _), (6, _)]) ⟨rfl, rfl, rfl, trivial⟩ ?_
         refine QM.then ?_
         refine wpM.ret ?_
         refine QM.then_ret ?_
         refine QM.block_ret ?_
         refine QM.then_ret ?_
         refine QM.block_ret ?_
         refine QM.then_ret ?_
         refine QM.leaveCs (ds := ([])) (.inl rfl) [.cell 4 87, .tmp 5, .tmp 6] Tryz.results45 hd_nil (rc_w rfl Tryz.isAgg87 Tryz.sizeOf87 rfl (rc_tmp rfl (rc_tmp rfl rc_nil))) ?_
         intro w' hm' hc'
         exact ⟨hc', [], fin_bad hi0 (bad_of hL hn0 (by rw [op_a h9]; exact ⟨rfl, rfl⟩) (by decide)) (by decide), Mem.nil _, fun p hp => by cases hp⟩
        ·
         have hk0 : kindR ws i ≠ 0 := h9; have hklt := kindR_lt hk0
         refine wpM.skip ?_
         refine QM.then ?_
         refine wpM.seq ?_
         refine wpM.seq ?_
         refine wpM.region ?_
         refine LM.val (ov_field Tryz.underlying87 rfl Tryz.sizeOf85 rfl (k := 1) rfl rfl) ?_
         first | refine LM.rd (om_ld Tryz.isAgg85 rfl rfl) ?_
         refine LM.val (ov_len Tryz.underlying85 rfl) ?_
         refine LM.val (ov_eql rfl rfl) ?_
         refine LM.nil ?_
         refine QM.sub (e' := [(0, _), (1, _), (4, _), (7, _), (8, _), (68, _)]) ⟨rfl, rfl, rfl, rfl, rfl, rfl, trivial⟩ ?_
         refine QM.then ?_
         refine wpM.condD rfl (fun h10 => ?_) (fun h10 => ?_)
         ·
          refine wpM.seq ?_
          refine wpM.region ?_
          refine LM.val (ov_build (cs := #[_, _]) rfl (by first | rfl | kernel_rfl)) ?_
          refine LM.val (ov_move rfl) ?_
          refine LM.stW Tryz.sizeOf87 rfl rfl rfl rfl (by first | rfl | decide | (simp; done)) (fun hlt => absurd hlt (by omega)) ?_
          refine LM.val (ov_assign rfl) ?_
          refine LM.val (ov_assign rfl) ?_
          refine LM.nil ?_
          refine QM.sub (e' := [(4, _), (5, _), (6, _)]) ⟨rfl, rfl, rfl, trivial⟩ ?_
          refine QM.then ?_
          refine wpM.ret ?_
          refine QM.then_ret ?_
          refine QM.block_ret ?_
          refine QM.then_ret ?_
          refine QM.block_ret ?_
          refine QM.then_ret ?_
          refine QM.leaveCs (ds := ([])) (.inl rfl) [.cell 4 87, .tmp 5, .tmp 6] Tryz.results45 hd_nil (rc_w rfl Tryz.isAgg87 Tryz.sizeOf87 rfl (rc_tmp rfl (rc_tmp rfl rc_nil))) ?_
          intro w' hm' hc'
          exact ⟨hc', [], fin_bad hi0 (bad_of hL hn0 (by rw [op_b hk0 (by omega)]; exact ⟨rfl, rfl⟩) (by decide)) (by decide), Mem.nil _, fun p hp => by cases hp⟩
         ·
          have hah : ops.length < 12 := (by omega)
          refine wpM.skip ?_
          refine QM.then ?_
          refine wpM.seq ?_
          refine wpM.region ?_
          refine LM.val (ov_move rfl) ?_
          refine LM.val (ov_add64 rfl rfl (by omega)) ?_
          refine LM.val (ov_assign rfl) ?_
          refine LM.nil ?_
          refine QM.sub (e' := [(0, _), (1, _), (4, _), (7, _), (8, _)]) ⟨rfl, rfl, rfl, rfl, rfl, trivial⟩ ?_
          refine QM.then ?_
          refine wpM.seq ?_
          refine wpM.region ?_
          refine LM.val (ov_move rfl) ?_
          refine LM.val (ov_build (cs := #[_, _, _]) rfl (by first | rfl | kernel_rfl)) ?_
          refine LM.alloc Tryz.zeroValue135 rfl (fun b10 hb10 => ?_)
          refine LM.stW Tryz.sizeOf135 rfl rfl rfl rfl (by first | rfl | decide | (simp; done)) (fun hlt => absurd hlt (by omega)) ?_
          refine LM.nil ?_
          refine QM.sub (e' := [(0, _), (1, _), (4, _), (7, _), (8, _), (10, _)]) ⟨rfl, rfl, rfl, rfl, rfl, rfl, trivial⟩ ?_
          refine QM.then ?_
          refine wpM.seq ?_
          refine wpM.region ?_
          refine LM.val (ov_move rfl) ?_
          refine LM.callE (oc_call (enters_fn Tryz.func89 (by kernel_rfl) rfl) rfl) (fun w hm hc hg => limits_spec _ w) ?_
          refine LM.val (ov_move rfl) ?_
          refine LM.val (ov_extract rfl rfl) ?_
          refine LM.val (ov_extract rfl rfl) ?_
          refine LM.val (ov_assign rfl) ?_
          refine LM.val (ov_assign rfl) ?_
          refine LM.nil ?_
          refine QM.sub (e' := [(0, _), (1, _), (4, _), (7, _), (8, _), (10, _), (11, _), (12, _)]) ⟨rfl, rfl, rfl, rfl, rfl, rfl, rfl, rfl, trivial⟩ ?_
          refine QM.then ?_
          refine wpM.seq ?_
          refine wpM.seq ?_
          refine wpM.region ?_
          refine LM.val (ov_assign rfl) ?_
          refine LM.nil ?_
          refine QM.sub (e' := [(0, _), (1, _), (4, _), (7, _), (8, _), (10, _), (11, _), (12, _), (13, _)]) ⟨rfl, rfl, rfl, rfl, rfl, rfl, rfl, rfl, rfl, trivial⟩ ?_
          refine QM.then ?_
          refine wpM.block ?_
          refine wpM.loopK0 (α := Nat × Nat × Int × Int × Int × Int) (fun ⟨k, j, lo, hi, a, b⟩ => [(1, .int .i64 (j : Nat)), (11, .int .i64 lo), (12, .int .i64 hi), (13, .int .i64 (k : Nat))]) [(0, _), (4, _), (7, _), (8, _), (10, _)] (fun ⟨k, j, lo, hi, a, b⟩ => mo ++ ((b10, .cells #[.int .i64 (kindR ws i), .int .i64 a, .int .i64 b] 135 (0, 0)) :: (b7, .cells #[.bool (headR ws i0).1, .slice ado no capo] 87 (0, 0)) :: (b4, .cells #[.bool false, .slice none 0 0] 87 (0, 0)) :: [])) (fun ⟨k, j, lo, hi, a, b⟩ => NumI ws i k j lo hi a b) (fun ⟨k, j, lo, hi, a, b⟩ => 2 - k) ((0, i + 1, loA (kindR ws i), hiA (kindR ws i), 0, 0)) ⟨(by first | rfl | exact lk rfl (by congr 1; omega) | exact lk rfl (by simp)), (by first | rfl | exact lk rfl (by congr 1; omega) | exact lk rfl (by simp)), (by first | rfl | exact lk rfl (by congr 1; omega) | exact lk rfl (by simp)), (by first | rfl | exact lk rfl (by congr 1; omega) | exact lk rfl (by simp)), rfl, rfl, rfl, rfl, rfl, trivial⟩ (by (repeat' (first | exact SubM.nil _ | refine SubM.cons rfl ?_ | refine SubM.app ?_))) ⟨by omega, kindR_lt hk0, fun _ => ⟨rfl, rfl, rfl, rfl, rfl⟩, fun q => by omega, fun q => by omega⟩ ?_
          rintro ⟨k, j, lo, hi, a, b⟩ hN
          change wpM _ _ _ _ _ _ _ (mo ++ ((b10, .cells #[.int .i64 (kindR ws i), .int .i64 a, .int .i64 b] 135 (0, 0)) :: (b7, .cells #[.bool (headR ws i0).1, .slice ado no capo] 87 (0, 0)) :: (b4, .cells #[.bool false, .slice none 0 0] 87 (0, 0)) :: [])) _ _ _
          have hjl := hN.2.1; have hk2 := hN.1
          refine wpM.seq ?_
          refine wpM.seq ?_
          refine wpM.region ?_
          refine LM.val (ov_move rfl) ?_
          refine LM.val (ov_lss rfl rfl) ?_
          refine LM.nil ?_
          refine QM.sub (e' := [(0, _), (1, _), (4, _), (7, _), (8, _), (10, _), (11, _), (12, _), (13, _), (81, _)]) ⟨rfl, rfl, rfl, rfl, rfl, rfl, rfl, rfl, rfl, rfl, trivial⟩ ?_
          refine QM.then ?_
          refine wpM.condD rfl (fun h11 => ?_) (fun h11 => ?_)
          ·
           refine wpM.skip ?_
           refine QM.then ?_
           refine wpM.seq ?_
           refine wpM.block ?_
           refine wpM.seq ?_
           refine wpM.seq ?_
           refine wpM.joinK (α := Bool) (fun q => [(97, .bool q)]) [(0, _), (1, _), (4, _), (7, _), (8, _), (10, _), (11, _), (12, _), (13, _)] (fun q => mo ++ ((b10, .cells #[.int .i64 (kindR ws i), .int .i64 a, .int .i64 b] 135 (0, 0)) :: (b7, .cells #[.bool (headR ws i0).1, .slice ado no capo] 87 (0, 0)) :: (b4, .cells #[.bool false, .slice none 0 0] 87 (0, 0)) :: [])) (fun q => q = decide ((k = 0 ∧ lo < 0) ∨ (k = 1 ∧ kindR ws i ≠ 5))) ⟨rfl, rfl, rfl, rfl, rfl, rfl, rfl, rfl, rfl, trivial⟩ ?_ ?_
           ·
            refine wpM.region ?_
            refine LM.val (ov_move rfl) ?_
            refine LM.val (ov_eql rfl rfl) ?_
            refine LM.val (ov_move rfl) ?_
            refine LM.splitD (t := 86) rfl (fun h12 => ?_) (fun h12 => ?_)
            ·
             refine LM.strip (t := 86) rfl rfl rfl ?_
             refine LM.val (ov_move rfl) ?_
             refine LM.strip (t := 86) rfl rfl rfl ?_
             refine LM.val (ov_lss rfl rfl) ?_
             refine LM.val (ov_pickT rfl rfl) ?_
             refine LM.val (ov_move rfl) ?_
             refine LM.splitD (t := 90) rfl (fun h13 => ?_) (fun h13 => ?_)
             ·
              refine LM.drop (t := 90) rfl rfl rfl ?_
              refine LM.drop (t := 90) rfl rfl rfl ?_
              refine LM.dropU (t := 90) rfl rfl rfl ?_
              refine LM.dropX (t := 93) rfl rfl ?_
              refine LM.dropX (t := 93) rfl rfl ?_
              refine LM.drop (t := 90) rfl rfl rfl ?_
              refine LM.val (ov_pickT rfl rfl) ?_
              refine LM.nil ?_
              refine QM.sub (e' := [(0, _), (1, _), (4, _), (7, _), (8, _), (10, _), (11, _), (12, _), (13, _), (97, _)]) ⟨rfl, rfl, rfl, rfl, rfl, rfl, rfl, rfl, rfl, rfl, trivial⟩ ?_
              refine QM.meetK (_) ⟨(by first | rfl | exact lk rfl (by congr 1; omega) | exact lk rfl (by simp)), rfl, rfl, rfl, rfl, rfl, rfl, rfl, rfl, rfl, trivial⟩ (by (repeat' (first | exact SubM.nil _ | refine SubM.cons rfl ?_ | refine SubM.app ?_))) ?_
              · exact (decide_eq_true (.inl ⟨by omega, h13⟩)).symm
             ·
              refine LM.strip (t := 90) rfl rfl rfl ?_
              refine LM.val (ov_move rfl) ?_
              refine LM.strip (t := 90) rfl rfl rfl ?_
              refine LM.val (ov_eql rfl rfl) ?_
              refine LM.strip (t := 90) rfl rfl rfl ?_
              refine LM.val (ov_move rfl) ?_
              refine LM.splitD (t := 93) rfl (fun h14 => ?_) (fun h14 => ?_)
              ·
               refine LM.strip (t := 93) rfl rfl rfl ?_
               refine LM.val (ov_move rfl) ?_
               refine LM.strip (t := 93) rfl rfl rfl ?_
               refine LM.val (ov_neq rfl rfl) ?_
               refine LM.strip (t := 90) rfl rfl rfl ?_
               refine LM.val (ov_pickT rfl rfl) ?_
               refine LM.val (ov_pickF rfl rfl) ?_
               refine LM.nil ?_
               refine QM.sub (e' := [(0, _), (1, _), (4, _), (7, _), (8, _), (10, _), (11, _), (12, _), (13, _), (97, _)]) ⟨rfl, rfl, rfl, rfl, rfl, rfl, rfl, rfl, rfl, rfl, trivial⟩ ?_
               refine QM.meetK (_) ⟨(by first | rfl | exact lk rfl (by congr 1; omega) | exact lk rfl (by simp)), rfl, rfl, rfl, rfl, rfl, rfl, rfl, rfl, rfl, trivial⟩ (by (repeat' (first | exact SubM.nil _ | refine SubM.cons rfl ?_ | refine SubM.app ?_))) ?_
               · exfalso; omega
              ·
               refine LM.drop (t := 93) rfl rfl rfl ?_
               refine LM.drop (t := 93) rfl rfl rfl ?_
               refine LM.strip (t := 90) rfl rfl rfl ?_
               refine LM.val (ov_pickF rfl rfl) ?_
               refine LM.val (ov_pickF rfl rfl) ?_
               refine LM.nil ?_
               refine QM.sub (e' := [(0, _), (1, _), (4, _), (7, _), (8, _), (10, _), (11, _), (12, _), (13, _), (97, _)]) ⟨rfl, rfl, rfl, rfl, rfl, rfl, rfl, rfl, rfl, rfl, trivial⟩ ?_
               refine QM.meetK (_) ⟨(by first | rfl | exact lk rfl (by congr 1; omega) | exact lk rfl (by simp)), rfl, rfl, rfl, rfl, rfl, rfl, rfl, rfl, rfl, trivial⟩ (by (repeat' (first | exact SubM.nil _ | refine SubM.cons rfl ?_ | refine SubM.app ?_))) ?_
               · exact (decide_eq_false (fun q => by rcases q with ⟨_, q⟩ | ⟨q, _⟩; exact h13 q; omega)).symm
            ·
             refine LM.drop (t := 86) rfl rfl rfl ?_
             refine LM.drop (t := 86) rfl rfl rfl ?_
             refine LM.val (ov_pickF rfl rfl) ?_
             refine LM.val (ov_move rfl) ?_
             refine LM.strip (t := 90) rfl rfl rfl ?_
             refine LM.val (ov_move rfl) ?_
             refine LM.strip (t := 90) rfl rfl rfl ?_
             refine LM.val (ov_eql rfl rfl) ?_
             refine LM.strip (t := 90) rfl rfl rfl ?_
             refine LM.val (ov_move rfl) ?_
             refine LM.splitD (t := 93) rfl (fun h15 => ?_) (fun h15 => ?_)
             ·
              refine LM.strip (t := 93) rfl rfl rfl ?_
              refine LM.val (ov_move rfl) ?_
              refine LM.strip (t := 93) rfl rfl rfl ?_
              refine LM.val (ov_neq rfl rfl) ?_
              refine LM.strip (t := 90) rfl rfl rfl ?_
              refine LM.val (ov_pickT rfl rfl) ?_
              refine LM.val (ov_pickF rfl rfl) ?_
              refine LM.nil ?_
              refine QM.sub (e' := [(0, _), (1, _), (4, _), (7, _), (8, _), (10, _), (11, _), (12, _), (13, _), (97, _)]) ⟨rfl, rfl, rfl, rfl, rfl, rfl, rfl, rfl, rfl, rfl, trivial⟩ ?_
              refine QM.meetK (_) ⟨(by first | rfl | exact lk rfl (by congr 1; omega) | exact lk rfl (by simp)), rfl, rfl, rfl, rfl, rfl, rfl, rfl, rfl, rfl, trivial⟩ (by (repeat' (first | exact SubM.nil _ | refine SubM.cons rfl ?_ | refine SubM.app ?_))) ?_
              · exact decide_eq_decide.2 ⟨fun q => .inr ⟨by omega, q⟩, fun q => by rcases q with ⟨q, _⟩ | ⟨_, q⟩; (exfalso; omega); exact q⟩
             ·
              refine LM.drop (t := 93) rfl rfl rfl ?_
              refine LM.drop (t := 93) rfl rfl rfl ?_
              refine LM.strip (t := 90) rfl rfl rfl ?_
              refine LM.val (ov_pickF rfl rfl) ?_
              refine LM.val (ov_pickF rfl rfl) ?_
              refine LM.nil ?_
              refine QM.sub (e' := [(0, _), (1, _), (4, _), (7, _), (8, _), (10, _), (11, _), (12, _), (13, _), (97, _)]) ⟨rfl, rfl, rfl, rfl, rfl, rfl, rfl, rfl, rfl, rfl, trivial⟩ ?_
              refine QM.meetK (_) ⟨(by first | rfl | exact lk rfl (by congr 1; omega) | exact lk rfl (by simp)), rfl, rfl, rfl, rfl, rfl, rfl, rfl, rfl, rfl, trivial⟩ (by (repeat' (first | exact SubM.nil _ | refine SubM.cons rfl ?_ | refine SubM.app ?_))) ?_
              · exact (decide_eq_false (fun q => by rcases q with ⟨q, _⟩ | ⟨q, _⟩ <;> omega)).symm
           ·
            rintro q hq
            change QM _ _ _ _ _ (mo ++ ((b10, .cells #[.int .i64 (kindR ws i), .int .i64 a, .int .i64 b] 135 (0, 0)) :: (b7, .cells #[.bool (headR ws i0).1, .slice ado no capo] 87 (0, 0)) :: (b4, .cells #[.bool false, .slice none 0 0] 87 (0, 0)) :: [])) _ _ _
            refine QM.then ?_
            first | refine wpM.condD rfl (fun h16 => ?_) (fun h16 => ?_) | refine wpM.condB rfl (fun h16 => ?_) (fun h16 => ?_)
            ·
             refine wpM.exit ?_
             refine QM.then_exit ?_
             refine QM.block_hit ?_
             refine QM.then ?_
             refine wpM.region ?_
             refine LM.val (ov_move rfl) ?_
             refine LM.val (ov_add64 rfl rfl (by omega)) ?_
             refine LM.val (ov_assign rfl) ?_
             refine LM.nil ?_
             refine QM.sub (e' := [(0, _), (1, _), (4, _), (7, _), (8, _), (10, _), (11, _), (12, _), (13, _)]) ⟨rfl, rfl, rfl, rfl, rfl, rfl, rfl, rfl, rfl, trivial⟩ ?_
             refine QM.againK ((k + 1, j, lo, hi, a, b)) ⟨(by first | rfl | exact lk rfl (by congr 1; omega) | exact lk rfl (by simp)), (by first | rfl | exact lk rfl (by congr 1; omega) | exact lk rfl (by simp)), (by first | rfl | exact lk rfl (by congr 1; omega) | exact lk rfl (by simp)), (by first | rfl | exact lk rfl (by congr 1; omega) | exact lk rfl (by simp)), rfl, rfl, rfl, rfl, rfl, trivial⟩ (by (repeat' (first | exact SubM.nil _ | refine SubM.cons rfl ?_ | refine SubM.app ?_))) (fun _ h => h) ?_ ?_
             · exact hN.skip (of_decide_eq_true (hq ▸ h16))
             · first | omega | (dsimp only; omega)
            ·
             have hnq : ¬ ((k = 0 ∧ lo < 0) ∨ (k = 1 ∧ kindR ws i ≠ 5)) := of_decide_eq_false (hq ▸ h16)
             refine wpM.skip ?_
             refine QM.then ?_
             refine wpM.seq ?_
             refine wpM.seq ?_
             refine wpM.region ?_
             refine LM.val (ov_move rfl) ?_
             refine LM.val (ov_move rfl) ?_
             refine LM.val (ov_len Tryz.underlying23 rfl) ?_
             refine LM.val (ov_geq rfl rfl) ?_
             refine LM.val (ov_move rfl) ?_
             refine LM.splitD (t := 102) rfl (fun h17 => ?_) (fun h17 => ?_)
             ·
              refine LM.drop (t := 102) rfl rfl rfl ?_
              refine LM.drop (t := 102) rfl rfl rfl ?_
              refine LM.drop (t := 102) rfl rfl rfl ?_
              refine LM.drop (t := 102) rfl rfl rfl ?_
              refine LM.drop (t := 102) rfl rfl rfl ?_
              refine LM.drop (t := 102) rfl rfl rfl ?_
              refine LM.val (ov_pickT rfl rfl) ?_
              refine LM.nil ?_
              refine QM.sub (e' := [(0, _), (1, _), (4, _), (7, _), (8, _), (10, _), (11, _), (12, _), (13, _), (109, _)]) ⟨rfl, rfl, rfl, rfl, rfl, rfl, rfl, rfl, rfl, rfl, trivial⟩ ?_
              refine QM.then ?_
              refine wpM.condT rfl ?_
              refine wpM.seq ?_
              refine wpM.region ?_
              refine LM.val (ov_build (cs := #[_, _]) rfl (by first | rfl | kernel_rfl)) ?_
              refine LM.val (ov_move rfl) ?_
              refine LM.stW Tryz.sizeOf87 rfl rfl rfl rfl (by first | rfl | decide | (simp; done)) (fun hlt => absurd hlt (by omega)) ?_
              refine LM.val (ov_assign rfl) ?_
              refine LM.val (ov_assign rfl) ?_
              refine LM.nil ?_
              refine QM.sub (e' := [(4, _), (5, _), (6, _)]) ⟨rfl, rfl, rfl, trivial⟩ ?_
              refine QM.then ?_
              refine wpM.ret ?_
              refine QM.then_ret ?_
              refine QM.block_ret ?_
              refine QM.then_ret ?_
              refine QM.then_ret ?_
              refine QM.block_ret ?_
              refine QM.then_ret ?_
              refine QM.block_ret ?_
              refine QM.then_ret ?_
              refine QM.block_ret ?_
              refine QM.then_ret ?_
              refine QM.leaveCs (ds := ([])) (.inl rfl) [.cell 4 87, .tmp 5, .tmp 6] Tryz.results45 hd_nil (rc_w rfl Tryz.isAgg87 Tryz.sizeOf87 rfl (rc_tmp rfl (rc_tmp rfl rc_nil))) ?_
              intro w' hm' hc'
              exact ⟨hc', [], fin_bad hi0 (bad_of hL hn0 (hN.bad (e := 5) (by omega) hk0 hah hnq (by decide) (.inl ⟨rfl, .inl (by omega)⟩)) (by decide)) (by decide), Mem.nil _, fun p hp => by cases hp⟩
             ·
              refine LM.strip (t := 102) rfl rfl rfl ?_
              refine LM.val (ov_move rfl) ?_
              refine LM.strip (t := 102) rfl rfl rfl ?_
              refine LM.val (ov_move rfl) ?_
              refine LM.strip (t := 102) rfl rfl rfl ?_
              refine LM.val (ov_idxSN (by first | exact Sr.spt (by assumption) | exact Sl.spt (by assumption)) Tryz.underlying23 Tryz.sizeOf65 rfl rfl (by omega)) ?_
              refine LM.strip (t := 102) rfl rfl rfl ?_
              refine LM.val (ov_field Tryz.underlying65 rfl Tryz.sizeOf3 rfl (k := 0) rfl rfl) ?_
              refine LM.strip (t := 102) rfl rfl rfl ?_
              first | refine LM.rd (om_slE (j := 0) (by assumption) (by intro _; rfl) Tryz.isAgg3 rfl rfl (by exact getq default (by first | omega | (simp only [List.length_set, List.length_append, List.length_cons, List.length_nil]; omega))) rfl (by rfl)) ?_ | refine LM.rdC (om_srE (j := 0) (by assumption) Tryz.isAgg3 rfl rfl (by exact getq default (by first | omega | (simp only [List.length_set, List.length_append, List.length_cons, List.length_nil]; omega))) (by rfl) (by rfl) id) ?_ | refine LM.rd (om_ld Tryz.isAgg3 rfl rfl) ?_
              refine LM.strip (t := 102) rfl rfl rfl ?_
              refine LM.val (ov_neq rfl rfl) ?_
              refine LM.val (ov_pickF rfl rfl) ?_
              refine LM.nil ?_
              refine QM.sub (e' := [(0, _), (1, _), (4, _), (7, _), (8, _), (10, _), (11, _), (12, _), (13, _), (109, _)]) ⟨rfl, rfl, rfl, rfl, rfl, rfl, rfl, rfl, rfl, rfl, trivial⟩ ?_
              refine QM.then ?_
              refine wpM.condD rfl (fun h18 => ?_) (fun h18 => ?_)
              ·
               refine wpM.seq ?_
               refine wpM.region ?_
               refine LM.val (ov_build (cs := #[_, _]) rfl (by first | rfl | kernel_rfl)) ?_
               refine LM.val (ov_move rfl) ?_
               refine LM.stW Tryz.sizeOf87 rfl rfl rfl rfl (by first | rfl | decide | (simp; done)) (fun hlt => absurd hlt (by omega)) ?_
               refine LM.val (ov_assign rfl) ?_
               refine LM.val (ov_assign rfl) ?_
               refine LM.nil ?_
               refine QM.sub (e' := [(4, _), (5, _), (6, _)]) ⟨rfl, rfl, rfl, trivial⟩ ?_
               refine QM.then ?_
               refine wpM.ret ?_
               refine QM.then_ret ?_
               refine QM.block_ret ?_
               refine QM.then_ret ?_
               refine QM.then_ret ?_
               refine QM.block_ret ?_
               refine QM.then_ret ?_
               refine QM.block_ret ?_
               refine QM.then_ret ?_
               refine QM.block_ret ?_
               refine QM.then_ret ?_
               refine QM.leaveCs (ds := ([])) (.inl rfl) [.cell 4 87, .tmp 5, .tmp 6] Tryz.results45 hd_nil (rc_w rfl Tryz.isAgg87 Tryz.sizeOf87 rfl (rc_tmp rfl (rc_tmp rfl rc_nil))) ?_
               intro w' hm' hc'
               exact ⟨hc', [], fin_bad hi0 (bad_of hL hn0 (hN.bad (e := 5) (by omega) hk0 hah hnq (by decide) (.inl ⟨rfl, .inr h18⟩)) (by decide)) (by decide), Mem.nil _, fun p hp => by cases hp⟩
              ·
               refine wpM.skip ?_
               refine QM.then ?_
               refine wpM.seq ?_
               refine wpM.region ?_
               refine LM.val (ov_move rfl) ?_
               refine LM.val (ov_move rfl) ?_
               refine LM.val (ov_idxSN (by first | exact Sr.spt (by assumption) | exact Sl.spt (by assumption)) Tryz.underlying23 Tryz.sizeOf65 rfl rfl (by omega)) ?_
               refine LM.val (ov_field Tryz.underlying65 rfl Tryz.sizeOf3 rfl (k := 2) rfl rfl) ?_
               first | refine LM.rd (om_slE (j := 2) (by assumption) (by intro _; rfl) Tryz.isAgg3 rfl rfl (by exact getq default (by first | omega | (simp only [List.length_set, List.length_append, List.length_cons, List.length_nil]; omega))) rfl (by rfl)) ?_ | refine LM.rdC (om_srE (j := 2) (by assumption) Tryz.isAgg3 rfl rfl (by exact getq default (by first | omega | (simp only [List.length_set, List.length_append, List.length_cons, List.length_nil]; omega))) (by rfl) (by rfl) id) ?_ | refine LM.rd (om_ld Tryz.isAgg3 rfl rfl) ?_
               refine LM.val (ov_assign rfl) ?_
               refine LM.nil ?_
               refine QM.sub (e' := [(0, _), (1, _), (4, _), (7, _), (8, _), (10, _), (11, _), (12, _), (13, _), (14, _)]) ⟨rfl, rfl, rfl, rfl, rfl, rfl, rfl, rfl, rfl, rfl, trivial⟩ ?_
               refine QM.then ?_
               refine wpM.seq ?_
               refine wpM.seq ?_
               refine wpM.region ?_
               refine LM.val (ov_move rfl) ?_
               refine LM.val (ov_eql rfl rfl) ?_
               refine LM.nil ?_
               refine QM.sub (e' := [(0, _), (1, _), (4, _), (7, _), (8, _), (10, _), (11, _), (12, _), (13, _), (14, _), (118, _)]) ⟨rfl, rfl, rfl, rfl, rfl, rfl, rfl, rfl, rfl, rfl, rfl, trivial⟩ ?_
               refine QM.then ?_
               refine wpM.condD rfl (fun h19 => ?_) (fun h19 => ?_)
               ·
                refine wpM.seq ?_
                refine wpM.region ?_
                refine LM.val (ov_assign rfl) ?_
                refine LM.nil ?_
                refine QM.sub (e' := [(0, _), (1, _), (4, _), (7, _), (8, _), (10, _), (11, _), (13, _), (14, _)]) ⟨rfl, rfl, rfl, rfl, rfl, rfl, rfl, rfl, rfl, trivial⟩ ?_
                refine QM.then ?_
                refine wpM.seq ?_
                refine wpM.region ?_
                refine LM.val (ov_assign rfl) ?_
                refine LM.nil ?_
                refine QM.sub (e' := [(0, _), (1, _), (4, _), (7, _), (8, _), (10, _), (11, _), (12, _), (13, _), (14, _)]) ⟨rfl, rfl, rfl, rfl, rfl, rfl, rfl, rfl, rfl, rfl, trivial⟩ ?_
                refine QM.then ?_
                refine wpM.region ?_
                refine LM.val (ov_move rfl) ?_
                refine LM.val (ov_field Tryz.underlying135 rfl Tryz.sizeOf3 rfl (k := 2) rfl rfl) ?_
                refine LM.st Tryz.sizeOf3 rfl rfl rfl (by first | decide | exact Nat.le_of_ble_eq_true rfl | (simp; done) | (simp; omega)) rfl (fun hlt => absurd hlt (by omega)) ?_
                refine LM.nil ?_
                refine QM.sub (e' := [(0, _), (1, _), (4, _), (7, _), (8, _), (10, _), (11, _), (12, _), (13, _), (14, _)]) ⟨rfl, rfl, rfl, rfl, rfl, rfl, rfl, rfl, rfl, rfl, trivial⟩ ?_
                refine QM.then ?_
                refine wpM.seq ?_
                refine wpM.seq ?_
                refine wpM.region ?_
                refine LM.val (ov_move rfl) ?_
                refine LM.val (ov_move rfl) ?_
                refine LM.val (ov_lss rfl rfl) ?_
                refine LM.val (ov_move rfl) ?_
                refine LM.splitD (t := 126) rfl (fun h20 => ?_) (fun h20 => ?_)
                ·
                 refine LM.drop (t := 126) rfl rfl rfl ?_
                 refine LM.drop (t := 126) rfl rfl rfl ?_
                 refine LM.drop (t := 126) rfl rfl rfl ?_
                 refine LM.val (ov_pickT rfl rfl) ?_
                 refine LM.nil ?_
                 refine QM.sub (e' := [(0, _), (1, _), (4, _), (7, _), (8, _), (10, _), (11, _), (12, _), (13, _), (130, _)]) ⟨rfl, rfl, rfl, rfl, rfl, rfl, rfl, rfl, rfl, rfl, trivial⟩ ?_
                 refine QM.then ?_
                 refine wpM.condT rfl ?_
                 refine wpM.seq ?_
                 refine wpM.region ?_
                 refine LM.val (ov_build (cs := #[_, _]) rfl (by first | rfl | kernel_rfl)) ?_
                 refine LM.val (ov_move rfl) ?_
                 refine LM.stW Tryz.sizeOf87 rfl rfl rfl rfl (by first | rfl | decide | (simp; done)) (fun hlt => absurd hlt (by omega)) ?_
                 refine LM.val (ov_assign rfl) ?_
                 refine LM.val (ov_assign rfl) ?_
                 refine LM.nil ?_
                 refine QM.sub (e' := [(4, _), (5, _), (6, _)]) ⟨rfl, rfl, rfl, trivial⟩ ?_
                 refine QM.then ?_
                 refine wpM.ret ?_
                 refine QM.then_ret ?_
                 refine QM.block_ret ?_
                 refine QM.then_ret ?_
                 refine QM.then_ret ?_
                 refine QM.block_ret ?_
                 refine QM.then_ret ?_
                 refine QM.block_ret ?_
                 refine QM.then_ret ?_
                 refine QM.block_ret ?_
                 refine QM.then_ret ?_
                 refine QM.leaveCs (ds := ([])) (.inl rfl) [.cell 4 87, .tmp 5, .tmp 6] Tryz.results45 hd_nil (rc_w rfl Tryz.isAgg87 Tryz.sizeOf87 rfl (rc_tmp rfl (rc_tmp rfl rc_nil))) ?_
                 intro w' hm' hc'
                 exact ⟨hc', [], fin_bad hi0 (bad_of hL hn0 (hN.bad (e := 1) (by omega) hk0 hah hnq (by decide) (.inr ⟨rfl, by omega, Classical.not_not.1 h18, .inr ⟨by omega, .inl h20⟩⟩)) (by decide)) (by decide), Mem.nil _, fun p hp => by cases hp⟩
                ·
                 refine LM.strip (t := 126) rfl rfl rfl ?_
                 refine LM.val (ov_move rfl) ?_
                 refine LM.strip (t := 126) rfl rfl rfl ?_
                 refine LM.val (ov_move rfl) ?_
                 refine LM.strip (t := 126) rfl rfl rfl ?_
                 refine LM.val (ov_gtr rfl rfl) ?_
                 refine LM.val (ov_pickF rfl rfl) ?_
                 refine LM.nil ?_
                 refine QM.sub (e' := [(0, _), (1, _), (4, _), (7, _), (8, _), (10, _), (11, _), (12, _), (13, _), (130, _)]) ⟨rfl, rfl, rfl, rfl, rfl, rfl, rfl, rfl, rfl, rfl, trivial⟩ ?_
                 refine QM.then ?_
                 refine wpM.condD rfl (fun h21 => ?_) (fun h21 => ?_)
                 ·
                  refine wpM.seq ?_
                  refine wpM.region ?_
                  refine LM.val (ov_build (cs := #[_, _]) rfl (by first | rfl | kernel_rfl)) ?_
                  refine LM.val (ov_move rfl) ?_
                  refine LM.stW Tryz.sizeOf87 rfl rfl rfl rfl (by first | rfl | decide | (simp; done)) (fun hlt => absurd hlt (by omega)) ?_
                  refine LM.val (ov_assign rfl) ?_
                  refine LM.val (ov_assign rfl) ?_
                  refine LM.nil ?_
                  refine QM.sub (e' := [(4, _), (5, _), (6, _)]) ⟨rfl, rfl, rfl, trivial⟩ ?_
                  refine QM.then ?_
                  refine wpM.ret ?_
                  refine QM.then_ret ?_
                  refine QM.block_ret ?_
                  refine QM.then_ret ?_
                  refine QM.then_ret ?_
                  refine QM.block_ret ?_
                  refine QM.then_ret ?_
                  refine QM.block_ret ?_
                  refine QM.then_ret ?_
                  refine QM.block_ret ?_
                  refine QM.then_ret ?_
                  refine QM.leaveCs (ds := ([])) (.inl rfl) [.cell 4 87, .tmp 5, .tmp 6] Tryz.results45 hd_nil (rc_w rfl Tryz.isAgg87 Tryz.sizeOf87 rfl (rc_tmp rfl (rc_tmp rfl rc_nil))) ?_
                  intro w' hm' hc'
                  exact ⟨hc', [], fin_bad hi0 (bad_of hL hn0 (hN.bad (e := 1) (by omega) hk0 hah hnq (by decide) (.inr ⟨rfl, by omega, Classical.not_not.1 h18, .inr ⟨by omega, .inr (by omega)⟩⟩)) (by decide)) (by decide), Mem.nil _, fun p hp => by cases hp⟩
                 ·
                  refine wpM.skip ?_
                  refine QM.then ?_
                  refine wpM.region ?_
                  refine LM.val (ov_move rfl) ?_
                  refine LM.val (ov_add64 rfl rfl (by omega)) ?_
                  refine LM.val (ov_assign rfl) ?_
                  refine LM.nil ?_
                  refine QM.sub (e' := [(0, _), (1, _), (4, _), (7, _), (8, _), (10, _), (11, _), (12, _), (13, _)]) ⟨rfl, rfl, rfl, rfl, rfl, rfl, rfl, rfl, rfl, trivial⟩ ?_
                  refine QM.block_normal ?_
                  refine QM.then ?_
                  refine wpM.region ?_
                  refine LM.val (ov_move rfl) ?_
                  refine LM.val (ov_add64 rfl rfl (by omega)) ?_
                  refine LM.val (ov_assign rfl) ?_
                  refine LM.nil ?_
                  refine QM.sub (e' := [(0, _), (1, _), (4, _), (7, _), (8, _), (10, _), (11, _), (12, _), (13, _)]) ⟨rfl, rfl, rfl, rfl, rfl, rfl, rfl, rfl, rfl, trivial⟩ ?_
                  obtain rfl : k = 1 := (by omega)
                  refine QM.againK ((2, j + 1, 1, 64, a, (ws.getD j default).n)) ⟨(by first | rfl | exact lk rfl (by congr 1; omega) | exact lk rfl (by simp)), (by first | rfl | exact lk rfl (by congr 1; omega) | exact lk rfl (by simp)), (by first | rfl | exact lk rfl (by congr 1; omega) | exact lk rfl (by simp)), (by first | rfl | exact lk rfl (by congr 1; omega) | exact lk rfl (by simp)), rfl, rfl, rfl, rfl, rfl, trivial⟩ (by (repeat' (first | exact SubM.nil _ | refine SubM.cons rfl ?_ | refine SubM.app ?_))) (fun _ h => h) ?_ ?_
                  · exact hN.take1 (Classical.byContradiction fun q => hnq (.inr ⟨rfl, q⟩)) (by omega) (Classical.not_not.1 h18) ⟨by omega, by omega⟩
                  · first | omega | (dsimp only; omega)
               ·
                refine wpM.region ?_
                refine LM.val (ov_move rfl) ?_
                refine LM.val (ov_field Tryz.underlying135 rfl Tryz.sizeOf3 rfl (k := 1) rfl rfl) ?_
                refine LM.st Tryz.sizeOf3 rfl rfl rfl (by first | decide | exact Nat.le_of_ble_eq_true rfl | (simp; done) | (simp; omega)) rfl (fun hlt => absurd hlt (by omega)) ?_
                refine LM.nil ?_
                refine QM.sub (e' := [(0, _), (1, _), (4, _), (7, _), (8, _), (10, _), (11, _), (12, _), (13, _), (14, _)]) ⟨rfl, rfl, rfl, rfl, rfl, rfl, rfl, rfl, rfl, rfl, trivial⟩ ?_
                refine QM.then ?_
                refine wpM.seq ?_
                refine wpM.seq ?_
                refine wpM.region ?_
                refine LM.val (ov_move rfl) ?_
                refine LM.val (ov_move rfl) ?_
                refine LM.val (ov_lss rfl rfl) ?_
                refine LM.val (ov_move rfl) ?_
                refine LM.splitD (t := 126) rfl (fun h22 => ?_) (fun h22 => ?_)
                ·
                 refine LM.drop (t := 126) rfl rfl rfl ?_
                 refine LM.drop (t := 126) rfl rfl rfl ?_
                 refine LM.drop (t := 126) rfl rfl rfl ?_
                 refine LM.val (ov_pickT rfl rfl) ?_
                 refine LM.nil ?_
                 refine QM.sub (e' := [(0, _), (1, _), (4, _), (7, _), (8, _), (10, _), (11, _), (12, _), (13, _), (130, _)]) ⟨rfl, rfl, rfl, rfl, rfl, rfl, rfl, rfl, rfl, rfl, trivial⟩ ?_
                 refine QM.then ?_
                 refine wpM.condT rfl ?_
                 refine wpM.seq ?_
                 refine wpM.region ?_
                 refine LM.val (ov_build (cs := #[_, _]) rfl (by first | rfl | kernel_rfl)) ?_
                 refine LM.val (ov_move rfl) ?_
                 refine LM.stW Tryz.sizeOf87 rfl rfl rfl rfl (by first | rfl | decide | (simp; done)) (fun hlt => absurd hlt (by omega)) ?_
                 refine LM.val (ov_assign rfl) ?_
                 refine LM.val (ov_assign rfl) ?_
                 refine LM.nil ?_
                 refine QM.sub (e' := [(4, _), (5, _), (6, _)]) ⟨rfl, rfl, rfl, trivial⟩ ?_
                 refine QM.then ?_
                 refine wpM.ret ?_
                 refine QM.then_ret ?_
                 refine QM.block_ret ?_
                 refine QM.then_ret ?_
                 refine QM.then_ret ?_
                 refine QM.block_ret ?_
                 refine QM.then_ret ?_
                 refine QM.block_ret ?_
                 refine QM.then_ret ?_
                 refine QM.block_ret ?_
                 refine QM.then_ret ?_
                 refine QM.leaveCs (ds := ([])) (.inl rfl) [.cell 4 87, .tmp 5, .tmp 6] Tryz.results45 hd_nil (rc_w rfl Tryz.isAgg87 Tryz.sizeOf87 rfl (rc_tmp rfl (rc_tmp rfl rc_nil))) ?_
                 intro w' hm' hc'
                 exact ⟨hc', [], fin_bad hi0 (bad_of hL hn0 (hN.bad (e := 1) (by omega) hk0 hah hnq (by decide) (.inr ⟨rfl, by omega, Classical.not_not.1 h18, .inl ⟨by omega, .inl h22⟩⟩)) (by decide)) (by decide), Mem.nil _, fun p hp => by cases hp⟩
                ·
                 refine LM.strip (t := 126) rfl rfl rfl ?_
                 refine LM.val (ov_move rfl) ?_
                 refine LM.strip (t := 126) rfl rfl rfl ?_
                 refine LM.val (ov_move rfl) ?_
                 refine LM.strip (t := 126) rfl rfl rfl ?_
                 refine LM.val (ov_gtr rfl rfl) ?_
                 refine LM.val (ov_pickF rfl rfl) ?_
                 refine LM.nil ?_
                 refine QM.sub (e' := [(0, _), (1, _), (4, _), (7, _), (8, _), (10, _), (11, _), (12, _), (13, _), (130, _)]) ⟨rfl, rfl, rfl, rfl, rfl, rfl, rfl, rfl, rfl, rfl, trivial⟩ ?_
                 refine QM.then ?_
                 refine wpM.condD rfl (fun h23 => ?_) (fun h23 => ?_)
                 ·
                  refine wpM.seq ?_
                  refine wpM.region ?_
                  refine LM.val (ov_build (cs := #[_, _]) rfl (by first | rfl | kernel_rfl)) ?_
                  refine LM.val (ov_move rfl) ?_
                  refine LM.stW Tryz.sizeOf87 rfl rfl rfl rfl (by first | rfl | decide | (simp; done)) (fun hlt => absurd hlt (by omega)) ?_
                  refine LM.val (ov_assign rfl) ?_
                  refine LM.val (ov_assign rfl) ?_
                  refine LM.nil ?_
                  refine QM.sub (e' := [(4, _), (5, _), (6, _)]) ⟨rfl, rfl, rfl, trivial⟩ ?_
                  refine QM.then ?_
                  refine wpM.ret ?_
                  refine QM.then_ret ?_
                  refine QM.block_ret ?_
                  refine QM.then_ret ?_
                  refine QM.then_ret ?_
                  refine QM.block_ret ?_
                  refine QM.then_ret ?_
                  refine QM.block_ret ?_
                  refine QM.then_ret ?_
                  refine QM.block_ret ?_
                  refine QM.then_ret ?_
                  refine QM.leaveCs (ds := ([])) (.inl rfl) [.cell 4 87, .tmp 5, .tmp 6] Tryz.results45 hd_nil (rc_w rfl Tryz.isAgg87 Tryz.sizeOf87 rfl (rc_tmp rfl (rc_tmp rfl rc_nil))) ?_
                  intro w' hm' hc'
                  exact ⟨hc', [], fin_bad hi0 (bad_of hL hn0 (hN.bad (e := 1) (by omega) hk0 hah hnq (by decide) (.inr ⟨rfl, by omega, Classical.not_not.1 h18, .inl ⟨by omega, .inr (by omega)⟩⟩)) (by decide)) (by decide), Mem.nil _, fun p hp => by cases hp⟩
                 ·
                  refine wpM.skip ?_
                  refine QM.then ?_
                  refine wpM.region ?_
                  refine LM.val (ov_move rfl) ?_
                  refine LM.val (ov_add64 rfl rfl (by omega)) ?_
                  refine LM.val (ov_assign rfl) ?_
                  refine LM.nil ?_
                  refine QM.sub (e' := [(0, _), (1, _), (4, _), (7, _), (8, _), (10, _), (11, _), (12, _), (13, _)]) ⟨rfl, rfl, rfl, rfl, rfl, rfl, rfl, rfl, rfl, trivial⟩ ?_
                  refine QM.block_normal ?_
                  refine QM.then ?_
                  refine wpM.region ?_
                  refine LM.val (ov_move rfl) ?_
                  refine LM.val (ov_add64 rfl rfl (by omega)) ?_
                  refine LM.val (ov_assign rfl) ?_
                  refine LM.nil ?_
                  refine QM.sub (e' := [(0, _), (1, _), (4, _), (7, _), (8, _), (10, _), (11, _), (12, _), (13, _)]) ⟨rfl, rfl, rfl, rfl, rfl, rfl, rfl, rfl, rfl, trivial⟩ ?_
                  obtain rfl : k = 0 := (by omega)
                  refine QM.againK ((1, j + 1, lo, hi, (ws.getD j default).n, b)) ⟨(by first | rfl | exact lk rfl (by congr 1; omega) | exact lk rfl (by simp)), (by first | rfl | exact lk rfl (by congr 1; omega) | exact lk rfl (by simp)), (by first | rfl | exact lk rfl (by congr 1; omega) | exact lk rfl (by simp)), (by first | rfl | exact lk rfl (by congr 1; omega) | exact lk rfl (by simp)), rfl, rfl, rfl, rfl, rfl, trivial⟩ (by (repeat' (first | exact SubM.nil _ | refine SubM.cons rfl ?_ | refine SubM.app ?_))) (fun _ h => h) ?_ ?_
                  · exact hN.take0 (fun q => hnq (.inl ⟨rfl, q⟩)) (by omega) (Classical.not_not.1 h18) ⟨by omega, by omega⟩
                  · first | omega | (dsimp only; omega)
          ·
           refine wpM.exit ?_
           refine QM.then_exit ?_
           refine QM.then_exit ?_
           refine QM.block_hit ?_
           refine QM.then ?_
           refine wpM.seq ?_
           refine wpM.seq ?_
           refine wpM.region ?_
           refine LM.val (ov_move rfl) ?_
           refine LM.val (ov_move rfl) ?_
           refine LM.callE (oc_call (enters_fn Tryz.func87 (by kernel_rfl) rfl) rfl) (fun w hm hc hg => ris_spec j 3 [59] w hn (hl.ext hc)) ?_
           first | refine LM.val (ov_notD rfl) ?_ | refine LM.val (ov_not rfl) ?_
           refine LM.nil ?_
           refine QM.sub (e' := [(0, _), (1, _), (4, _), (7, _), (10, _), (138, _)]) ⟨rfl, rfl, rfl, rfl, rfl, rfl, trivial⟩ ?_
           refine QM.then ?_
           first | refine wpM.condD rfl (fun h24 => ?_) (fun h24 => ?_) | refine wpM.condB rfl (fun h24 => ?_) (fun h24 => ?_)
           ·
            refine wpM.seq ?_
            refine wpM.region ?_
            refine LM.val (ov_build (cs := #[_, _]) rfl (by first | rfl | kernel_rfl)) ?_
            refine LM.val (ov_move rfl) ?_
            refine LM.stW Tryz.sizeOf87 rfl rfl rfl rfl (by first | rfl | decide | (simp; done)) (fun hlt => absurd hlt (by omega)) ?_
            refine LM.val (ov_assign rfl) ?_
            refine LM.val (ov_assign rfl) ?_
            refine LM.nil ?_
            refine QM.sub (e' := [(4, _), (5, _), (6, _)]) ⟨rfl, rfl, rfl, trivial⟩ ?_
            refine QM.then ?_
            refine wpM.ret ?_
            refine QM.then_ret ?_
            refine QM.block_ret ?_
            refine QM.then_ret ?_
            refine QM.block_ret ?_
            refine QM.then_ret ?_
            refine QM.leaveCs (ds := ([])) (.inl rfl) [.cell 4 87, .tmp 5, .tmp 6] Tryz.results45 hd_nil (rc_w rfl Tryz.isAgg87 Tryz.sizeOf87 rfl (rc_tmp rfl (rc_tmp rfl rc_nil))) ?_
            intro w' hm' hc'
            have hA := hN.2.2.2.2 (by omega); exact ⟨hc', [], fin_bad hi0 (bad_of hL hn0 (opR_sb hk0 hah hA.2 (by simpa using h24)) (by decide)) (by decide), Mem.nil _, fun p hp => by cases hp⟩
           ·
            refine wpM.skip ?_
            refine QM.then ?_
            refine wpM.seq ?_
            refine wpM.region ?_
            refine LM.val (ov_move rfl) ?_
            refine LM.val (ov_add64 rfl rfl (by omega)) ?_
            refine LM.val (ov_assign rfl) ?_
            refine LM.nil ?_
            refine QM.sub (e' := [(0, _), (1, _), (4, _), (7, _), (10, _)]) ⟨rfl, rfl, rfl, rfl, rfl, trivial⟩ ?_
            refine QM.then ?_
            refine wpM.region ?_
            refine LM.val (ov_field Tryz.underlying87 rfl Tryz.sizeOf85 rfl (k := 1) rfl rfl) ?_
            first | refine LM.rd (om_ld Tryz.isAgg85 rfl rfl) ?_
            refine LM.rd (om_ldW Tryz.isAgg135 Tryz.sizeOf135 rfl rfl) ?_
            refine LM.single Tryz.underlying85 Tryz.sizeOf135 Tryz.zeroValue135 rfl rfl rfl rfl rfl (fun b146 hb146 => ?_)
            refine LM.app (a := COp.mk (kindR ws i) a b) Tryz.underlying85 Tryz.typeInfo135 rfl rfl rfl rfl rfl rfl rfl (by assumption) (by rfl) (by intro _; rfl) (by intro _ u hu; simp [fO] at hu; (repeat (first | (rcases hu with rfl | hu) | subst hu | rfl))) (by first | exact Nat.le_refl _ | omega) (fun p hp hlt => absurd hlt (Nat.not_lt_of_le (Sl.ge (by assumption) p hp))) (by first | omega | (unfold maxLen; omega)) (by simp only [Tryz.t135]; omega) (fun ad147 n147 cap147 m147 hn147 hs147 hin147 => ?_)
            refine LM.val (ov_field Tryz.underlying87 rfl Tryz.sizeOf85 rfl (k := 1) rfl rfl) ?_
            refine LM.st Tryz.sizeOf85 rfl rfl rfl (by first | decide | exact Nat.le_of_ble_eq_true rfl | (simp; done) | (simp; omega)) rfl (fun hlt => absurd hlt (by omega)) ?_
            refine LM.nil ?_
            refine QM.sub (e' := [(0, _), (1, _), (4, _), (7, _)]) ⟨rfl, rfl, rfl, rfl, trivial⟩ ?_
            refine QM.block_normal ?_
            have hA := hN.2.2.2.2 (by omega); have hok := opR_ok hk0 hah hA.1 hA.2 (show isR ws j 3 [59] = true by simpa using h24); have hlt := opR_lt (ws := ws) (i := i) (ahead := ops.length) (by rw [hok]); rw [hok] at hlt; have hlt : i < j + 1 ∧ j + 1 ≤ ws.length := hlt
            refine QM.againK ((j + 1, ops ++ [⟨kindR ws i, a, b⟩], ad147, n147, cap147, m147)) ⟨(by first | rfl | exact lk rfl (by congr 1; omega) | exact lk rfl (by simp)), rfl, rfl, rfl, trivial⟩ (by (repeat' (first | exact SubM.nil _ | refine SubM.cons rfl ?_ | refine SubM.app ?_))) (fun _ h => h) ?_ ?_
            · exact ⟨by rw [← hL, loopR_next hn0 (by rw [hok]), hok], hlt.2, by rw [hn147]; simp, hs147, by simp; omega⟩
            · first | omega | (dsimp only; omega)
      ·
       refine wpM.exit ?_
       refine QM.then_exit ?_
       refine QM.then_exit ?_
       refine QM.block_hit ?_
       refine QM.then ?_
       refine wpM.seq ?_
       refine wpM.seq ?_
       refine wpM.region ?_
       refine LM.val (ov_field Tryz.underlying87 rfl Tryz.sizeOf85 rfl (k := 1) rfl rfl) ?_
       first | refine LM.rd (om_ld Tryz.isAgg85 rfl rfl) ?_
       refine LM.val (ov_len Tryz.underlying85 rfl) ?_
       refine LM.val (ov_eql rfl rfl) ?_
       refine LM.nil ?_
       refine QM.sub (e' := [(1, _), (4, _), (7, _), (152, _)]) ⟨rfl, rfl, rfl, rfl, trivial⟩ ?_
       refine QM.then ?_
       refine wpM.condD rfl (fun h25 => ?_) (fun h25 => ?_)
       ·
        refine wpM.seq ?_
        refine wpM.region ?_
        refine LM.val (ov_build (cs := #[_, _]) rfl (by first | rfl | kernel_rfl)) ?_
        refine LM.val (ov_move rfl) ?_
        refine LM.stW Tryz.sizeOf87 rfl rfl rfl rfl (by first | rfl | decide | (simp; done)) (fun hlt => absurd hlt (by omega)) ?_
        refine LM.val (ov_assign rfl) ?_
        refine LM.val (ov_assign rfl) ?_
        refine LM.nil ?_
        refine QM.sub (e' := [(4, _), (5, _), (6, _)]) ⟨rfl, rfl, rfl, trivial⟩ ?_
        refine QM.then ?_
        refine wpM.ret ?_
        refine QM.then_ret ?_
        refine QM.leaveCs (ds := ([])) (.inl rfl) [.cell 4 87, .tmp 5, .tmp 6] Tryz.results45 hd_nil (rc_w rfl Tryz.isAgg87 Tryz.sizeOf87 rfl (rc_tmp rfl (rc_tmp rfl rc_nil))) ?_
        intro w' hm' hc'
        have hn1 : isR ws i 3 [125] = true := (by simpa using h6); have hb := hL; rw [loopR_done hn1, if_pos (by omega)] at hb; exact ⟨hc', [], fin_bad hi0 hb.symm (by decide), Mem.nil _, fun p hp => by cases hp⟩
       ·
        refine wpM.skip ?_
        refine QM.then ?_
        refine wpM.seq ?_
        refine wpM.region ?_
        refine LM.rd (om_ldW Tryz.isAgg87 Tryz.sizeOf87 rfl rfl) ?_
        refine LM.val (ov_move rfl) ?_
        refine LM.val (ov_add64 rfl rfl (by omega)) ?_
        refine LM.stW Tryz.sizeOf87 rfl rfl rfl rfl (by first | rfl | decide | (simp; done)) (fun hlt => absurd hlt (by omega)) ?_
        refine LM.val (ov_assign rfl) ?_
        refine LM.val (ov_assign rfl) ?_
        refine LM.nil ?_
        refine QM.sub (e' := [(4, _), (5, _), (6, _)]) ⟨rfl, rfl, rfl, trivial⟩ ?_
        refine QM.then ?_
        refine wpM.ret ?_
        refine QM.leaveCs (ds := ([])) (.inl rfl) [.cell 4 87, .tmp 5, .tmp 6] Tryz.results45 hd_nil (rc_w rfl Tryz.isAgg87 Tryz.sizeOf87 rfl (rc_tmp rfl (rc_tmp rfl rc_nil))) ?_
        intro w' hm' hc'
        have hn1 : isR ws i 3 [125] = true := (by simpa using h6); have hb := hL; rw [loopR_done hn1, if_neg (by omega)] at hb; exact ⟨hc', mo, fin_ok2 hi0 hb.symm hno hso, hm'.pick mo, fun p hp => Sl.ge hso p hp⟩

end Go.Eng
set_option linter.unusedVariables false
set_option linter.unusedSimpArgs false
namespace Go.Eng
open Go Go.Proofs Go.RowKit

deriving instance DecidableEq for COp
def mk3 (t : List UInt8) : Wrd := ⟨3, t, 0, 0⟩
def opW (o : COp) : List Wrd := ⟨1, nmT o.k, 0, 0⟩ :: ((if loA o.k ≠ -1 then [⟨2, [], o.a, 0⟩] else []) ++ ((if loB o.k ≠ -1 then [⟨2, [], o.b, 0⟩] else []) ++ [mk3 [59]]))
def wordsF (fv : Bool) (xs : List COp) : List Wrd := (⟨1, wProg, 0, 0⟩ :: (if fv then [⟨1, wForever, 0, 0⟩] else [])) ++ [mk3 [123]] ++ xs.flatMap opW ++ [mk3 [125]]
def wordsO (fv : Bool) (xs : List COp) : List Wrd × Int := if mayB xs then (wordsF fv xs, 0) else ([], 1)
def WoT (r : List Wrd × Int) (n0 : Nat) (v : Value) (m : Mem0) : Prop := ∃ ad n cap, v = .tuple #[.slice ad n cap, .int .i64 r.2] ∧ n = r.1.length ∧ Sl fW 65 4 n0 r.1 (.slice ad n cap) m
theorem WoT.mono {r : List Wrd × Int} : ∀ (k k' : Nat) u m, k' ≤ k → WoT r k u m → WoT r k' u m := fun k k' u m h ⟨ad, n, cap, h1, h2, h3⟩ => ⟨ad, n, cap, h1, h2, h3.mono h⟩
theorem nm_len (k : Int) : (nmT k).length ≤ 7 := by
  unfold nmT; split
  · rename_i h
    have : k = 0 ∨ k = 1 ∨ k = 2 ∨ k = 3 ∨ k = 4 ∨ k = 5 ∨ k = 6 ∨ k = 7 ∨ k = 8 ∨ k = 9 ∨ k = 10 ∨ k = 11 := by omega
    rcases this with rfl | rfl | rfl | rfl | rfl | rfl | rfl | rfl | rfl | rfl | rfl | rfl <;> decide
  · decide
theorem opW_len (o : COp) : (opW o).length ≤ 4 := by unfold opW; (repeat' split) <;> simp
theorem opW_text (o : COp) : ∀ x ∈ opW o, x.t.length ≤ 7 := by
  have := nm_len o.k
  intro x hx
  unfold opW mk3 at hx
  simp only [List.mem_cons, List.mem_append, List.not_mem_nil, or_false] at hx
  rcases hx with rfl | hx | hx | rfl
  · exact this
  · split at hx
    · simp at hx; subst hx; simp
    · cases hx
  · split at hx
    · simp at hx; subst hx; simp
    · cases hx
  · simp
theorem flat_len (xs : List COp) : (xs.flatMap opW).length ≤ 4 * xs.length := by
  induction xs with
  | nil => simp
  | cons o xs ih => have := opW_len o; rw [List.flatMap_cons, List.length_append, List.length_cons]; omega
theorem words_len (fv : Bool) (xs : List COp) : (wordsF fv xs).length ≤ 4 * xs.length + 4 := by
  have := flat_len xs
  unfold wordsF; simp only [List.length_append, List.length_cons, List.length_nil]; cases fv <;> simp only [if_true, if_false, Bool.false_eq_true, List.length_cons, List.length_nil] <;> omega
theorem words_text (fv : Bool) (xs : List COp) : ∀ x ∈ wordsF fv xs, x.t.length ≤ 7 := by
  intro x hx
  unfold wordsF mk3 at hx
  simp only [List.mem_cons, List.mem_append, List.not_mem_nil, or_false, List.mem_flatMap] at hx
  rcases hx with (((rfl | hx) | rfl) | ⟨o, _, hx⟩) | rfl
  · simp
  · cases fv
    · simp at hx
    · simp at hx; subst hx; simp
  · simp
  · exact opW_text o x hx
  · simp
theorem flat_snoc {xs : List COp} {i : Nat} (h : i < xs.length) : (xs.take (i + 1)).flatMap opW = (xs.take i).flatMap opW ++ opW (xs.getD i default) := by
  rw [take_snoc default h, List.flatMap_append]; simp
theorem fO_veqs (a b : COp) : veqs (fO a) (fO b) = decide (a = b) := by
  cases a; cases b; simp only [veqs, veq, fO, Bool.and_true, COp.mk.injEq, Bool.decide_and]; rfl
theorem eq_at {xs ys : List COp} {i : Nat} (hl : xs.length = ys.length) (h : i < xs.length) (hp : xs.take i = ys.take i) (e : xs.getD i default = ys.getD i default) : xs.take (i + 1) = ys.take (i + 1) := by
  rw [take_snoc default h, take_snoc default (hl ▸ h), hp, e]
set_option maxRecDepth 100000 in
theorem pmark_spec (t : List UInt8) (w : World) : Ret Tryz.prog 104 #[vS t] w (fun v w' => v = .agg (fW (mk3 t)).toArray ∧ Ext w w') := by
 refine Ret.enterM (l := [vS t]) Tryz.func104 rfl Tryz.ntmps104 rfl ([]) (no) (Mem.nil w) ?_
 refine wpM.seq ?_
 refine wpM.region ?_
 refine LM.alloc Tryz.zeroValue65 rfl (fun b2 hb2 => ?_)
 refine LM.nil ?_
 refine QM.sub (e' := [(0, _), (2, _)]) ⟨rfl, rfl, trivial⟩ ?_
 refine QM.then ?_
 refine wpM.seq ?_
 refine wpM.region ?_
 refine LM.val (ov_move rfl) ?_
 refine LM.val (ov_build (cs := #[_, _, _, _]) rfl (by first | rfl | kernel_rfl)) ?_
 refine LM.stW Tryz.sizeOf65 rfl rfl rfl rfl (by first | rfl | decide | (simp; done)) (fun hlt => absurd hlt (by omega)) ?_
 refine LM.nil ?_
 refine QM.sub (e' := [(2, _)]) ⟨rfl, trivial⟩ ?_
 refine QM.then ?_
 refine wpM.ret ?_
 refine QM.leaveCs (ds := ([])) (.inl rfl) [.cell 2 65] Tryz.results104 hd_nil (rc_w rfl Tryz.isAgg65 Tryz.sizeOf65 rfl rc_nil) ?_
 intro w' hm' hc'
 exact ⟨rfl, hc'⟩

set_option maxRecDepth 100000 in
set_option maxHeartbeats 1000000 in
theorem words_spec {xs : List COp} {fv : Bool} {ad : Option Addr} {n cap : Nat} (w : World) (hn : n = xs.length) (hl : Sr fO 3 xs (.slice ad n cap) w) : Ret Tryz.prog 58 #[pV fv ad n cap] w (fun v w' => Ext w w' ∧ ∃ m, WoT (wordsO fv xs) w.heap.size v m ∧ Mem w' m ∧ ∀ p ∈ m, w.heap.size ≤ p.1) := by
 refine Ret.enterM (l := [pV fv ad n cap]) Tryz.func58 rfl Tryz.ntmps58 rfl ([]) (no) (Mem.nil w) ?_
 refine wpM.seq ?_
 refine wpM.region ?_
 refine LM.box rfl rfl (fun b1 hb1 => ?_)
 refine LM.val (ov_assign rfl) ?_
 refine LM.val (ov_assign rfl) ?_
 refine LM.nil ?_
 refine QM.sub (e' := [(1, _)]) ⟨rfl, trivial⟩ ?_
 refine QM.then ?_
 refine wpM.seq ?_
 refine wpM.seq ?_
 refine wpM.region ?_
 refine LM.rd (om_ldW Tryz.isAgg87 Tryz.sizeOf87 rfl rfl) ?_
 refine LM.callE (oc_call (enters_fn Tryz.func103 (by kernel_rfl) rfl) rfl) (fun w hm hc hg => pmay_spec w hn (hl.ext hc)) ?_
 first | refine LM.val (ov_notD rfl) ?_ | refine LM.val (ov_not rfl) ?_
 refine LM.nil ?_
 refine QM.sub (e' := [(1, _), (11, _)]) ⟨rfl, rfl, trivial⟩ ?_
 refine QM.then ?_
 first | refine wpM.condD rfl (fun h1 => ?_) (fun h1 => ?_) | refine wpM.condB rfl (fun h1 => ?_) (fun h1 => ?_)
 ·
  refine wpM.seq ?_
  refine wpM.region ?_
  refine LM.val (ov_assign rfl) ?_
  refine LM.val (ov_assign rfl) ?_
  refine LM.nil ?_
  refine QM.sub (e' := [(2, _), (3, _)]) ⟨rfl, rfl, trivial⟩ ?_
  refine QM.then ?_
  refine wpM.ret ?_
  refine QM.then_ret ?_
  refine QM.leave (.inl rfl) [.tmp 2, .tmp 3] Tryz.results58 rfl ?_
  intro w' hm' hc' hg'
  have hm : mayB xs = false := (by simpa using h1); have hw : wordsO fv xs = ([], 1) := (by unfold wordsO; rw [if_neg (by rw [hm]; simp)]); rw [hw]; exact ⟨hc', [], ⟨none, 0, 0, rfl, rfl, .nil _ _ _ _⟩, Mem.nil _, fun p hp => by cases hp⟩
 ·
  have hxl : xs.length ≤ 12 := (by have hm : mayB xs = true := (by simpa using h1); unfold mayB at hm; simp only [Bool.and_eq_true, decide_eq_true_eq] at hm; omega)
  refine wpM.skip ?_
  refine QM.then ?_
  refine wpM.seq ?_
  refine wpM.region ?_
  refine LM.val (ov_build (cs := #[_, _, _, _]) rfl (by first | rfl | kernel_rfl)) ?_
  refine LM.single Tryz.underlying23 Tryz.sizeOf65 Tryz.zeroValue65 rfl rfl rfl rfl rfl (fun b13 hb13 => ?_)
  refine LM.val (ov_assign rfl) ?_
  refine LM.nil ?_
  refine QM.sub (e' := [(1, _), (4, _)]) ⟨rfl, rfl, trivial⟩ ?_
  refine QM.then ?_
  refine wpM.seq ?_
  refine wpM.seq ?_
  refine wpM.region ?_
  have hlen13 : [(⟨1, wProg, 0, 0⟩ : Wrd)].length = 1 := rfl; change LM _ _ _ _ _ _ _ _ ((b13, Obj.cells (arr fW [(⟨1, wProg, 0, 0⟩ : Wrd)] []) 65 (0, 0)) :: _) _ _ _; have hs13 : Sl fW 65 4 w.heap.size [(⟨1, wProg, 0, 0⟩ : Wrd)] (.slice (some ⟨b13, 0, none⟩) 1 1) [(b13, .cells (arr fW [(⟨1, wProg, 0, 0⟩ : Wrd)] []) 65 (0, 0))] := .inr ⟨b13, 1, [], hb13, rfl, rfl, by decide, by unfold maxLen; decide, rfl⟩
  refine LM.val (ov_field Tryz.underlying87 rfl Tryz.sizeOf4 rfl (k := 0) rfl rfl) ?_
  first | refine LM.rd (om_ld Tryz.isAgg4 rfl rfl) ?_
  refine LM.nil ?_
  refine QM.sub (e' := [(1, _), (4, _), (15, _)]) ⟨rfl, rfl, rfl, trivial⟩ ?_
  refine QM.then ?_
  refine wpM.joinK (α := List Wrd × Option Addr × Nat × Nat × Mem0) (fun ⟨l0, ad0, n0, cap0, m0⟩ => [(4, .slice ad0 n0 cap0)]) [(1, _)] (fun ⟨l0, ad0, n0, cap0, m0⟩ => m0 ++ (pB b1 fv ad n cap :: [])) (fun ⟨l0, ad0, n0, cap0, m0⟩ => l0.length ≤ 2 ∧ l0 = ⟨1, wProg, 0, 0⟩ :: (if fv then [⟨1, wForever, 0, 0⟩] else []) ∧ n0 = l0.length ∧ Sl fW 65 4 w.heap.size l0 (.slice ad0 n0 cap0) m0) ⟨rfl, trivial⟩ ?_ ?_
  ·
   first | refine wpM.condD rfl (fun h2 => ?_) (fun h2 => ?_) | refine wpM.condB rfl (fun h2 => ?_) (fun h2 => ?_)
   ·
    refine wpM.region ?_
    refine LM.val (ov_move rfl) ?_
    refine LM.val (ov_build (cs := #[_, _, _, _]) rfl (by first | rfl | kernel_rfl)) ?_
    refine LM.single Tryz.underlying23 Tryz.sizeOf65 Tryz.zeroValue65 rfl rfl rfl rfl rfl (fun b18 hb18 => ?_)
    refine LM.app (a := (⟨1, wForever, 0, 0⟩ : Wrd)) Tryz.underlying23 Tryz.typeInfo65 rfl rfl rfl rfl rfl rfl rfl (by assumption) (by rfl) (by intro _; rfl) (by intro _ u hu; simp [fW] at hu; (repeat (first | (rcases hu with rfl | hu) | subst hu | rfl))) (by first | exact Nat.le_refl _ | omega) (fun p hp hlt => absurd hlt (Nat.not_lt_of_le (Sl.ge (by assumption) p hp))) (by first | omega | (unfold maxLen; omega)) (by simp only [Tryz.t65]; omega) (fun ad19 n19 cap19 m19 hn19 hs19 hin19 => ?_)
    refine LM.val (ov_assign rfl) ?_
    refine LM.nil ?_
    refine QM.sub (e' := [(1, _), (4, _)]) ⟨rfl, rfl, trivial⟩ ?_
    refine QM.meetK (([(⟨1, wProg, 0, 0⟩ : Wrd)] ++ [⟨1, wForever, 0, 0⟩], ad19, n19, cap19, m19)) ⟨(by first | rfl | exact lk rfl (by congr 1; omega) | exact lk rfl (by simp)), rfl, trivial⟩ (by (repeat' (first | exact SubM.nil _ | refine SubM.cons rfl ?_ | refine SubM.app ?_))) ?_
    · exact ⟨by simp, by rw [if_pos h2]; rfl, by rw [hn19]; rfl, hs19⟩
   ·
    refine wpM.skip ?_
    refine QM.meetK (([(⟨1, wProg, 0, 0⟩ : Wrd)], some ⟨b13, 0, none⟩, 1, 1, [(b13, .cells (arr fW [(⟨1, wProg, 0, 0⟩ : Wrd)] []) 65 (0, 0))])) ⟨(by first | rfl | exact lk rfl (by congr 1; omega) | exact lk rfl (by simp)), rfl, trivial⟩ (by (repeat' (first | exact SubM.nil _ | refine SubM.cons rfl ?_ | refine SubM.app ?_))) ?_
    · exact ⟨by decide, by rw [if_neg (by rw [h2]; simp)], rfl, hs13⟩
  ·
   rintro ⟨l0, ad0, n0, cap0, m0⟩ ⟨hz0, hl0, hn0, hs0⟩
   change QM _ _ _ _ _ (m0 ++ (pB b1 fv ad n cap :: [])) _ _ _
   refine QM.then ?_
   refine wpM.seq ?_
   refine wpM.region ?_
   refine LM.val (ov_move rfl) ?_
   refine LM.callE (oc_call (enters_fn Tryz.func104 (by kernel_rfl) rfl) rfl) (fun w hm hc hg => pmark_spec [123] w) ?_
   refine LM.single Tryz.underlying23 Tryz.sizeOf65 Tryz.zeroValue65 rfl rfl rfl rfl rfl (fun b22 hb22 => ?_)
   refine LM.app (a := mk3 [123]) Tryz.underlying23 Tryz.typeInfo65 rfl rfl rfl rfl rfl rfl rfl (by assumption) (by rfl) (by intro _; rfl) (by intro _ u hu; simp [fW] at hu; (repeat (first | (rcases hu with rfl | hu) | subst hu | rfl))) (by first | exact Nat.le_refl _ | omega) (fun p hp hlt => absurd hlt (Nat.not_lt_of_le (Sl.ge (by assumption) p hp))) (by first | omega | (unfold maxLen; omega)) (by simp only [Tryz.t65]; omega) (fun ad23 n23 cap23 m23 hn23 hs23 hin23 => ?_)
   refine LM.val (ov_assign rfl) ?_
   refine LM.nil ?_
   refine QM.sub (e' := [(1, _), (4, _)]) ⟨rfl, rfl, trivial⟩ ?_
   refine QM.then ?_
   refine wpM.seq ?_
   refine wpM.seq ?_
   refine wpM.region ?_
   refine LM.val (ov_field Tryz.underlying87 rfl Tryz.sizeOf85 rfl (k := 1) rfl rfl) ?_
   first | refine LM.rd (om_ld Tryz.isAgg85 rfl rfl) ?_
   refine LM.val (ov_len Tryz.underlying85 rfl) ?_
   refine LM.val (ov_move rfl) ?_
   refine LM.nil ?_
   refine QM.sub (e' := [(4, _), (25, _), (26, _), (27, _)]) ⟨rfl, rfl, rfl, rfl, trivial⟩ ?_
   refine QM.then ?_
   refine wpM.block ?_
   refine wpM.loopK0 (α := Nat × List Wrd × Option Addr × Nat × Nat × Mem0) (fun ⟨i, l1, ad1, n1, cap1, m1⟩ => [(4, .slice ad1 n1 cap1), (27, .int .i64 (i : Nat))]) [(25, _), (26, _)] (fun ⟨i, l1, ad1, n1, cap1, m1⟩ => m1 ++ (pB b1 fv ad n cap :: [])) (fun ⟨i, l1, ad1, n1, cap1, m1⟩ => i ≤ xs.length ∧ l1.length ≤ 3 + 4 * i ∧ l1 = l0 ++ [mk3 [123]] ++ (xs.take i).flatMap opW ∧ n1 = l1.length ∧ Sl fW 65 4 w.heap.size l1 (.slice ad1 n1 cap1) m1) (fun ⟨i, l1, ad1, n1, cap1, m1⟩ => xs.length - i) ((0, l0 ++ [mk3 [123]], ad23, n23, cap23, m23)) ⟨(by first | rfl | exact lk rfl (by congr 1; omega) | exact lk rfl (by simp)), (by first | rfl | exact lk rfl (by congr 1; omega) | exact lk rfl (by simp)), rfl, rfl, trivial⟩ (by (repeat' (first | exact SubM.nil _ | refine SubM.cons rfl ?_ | refine SubM.app ?_))) ⟨Nat.zero_le _, by simp; omega, by simp, by rw [hn23]; simp, hs23⟩ ?_
   rintro ⟨i, l1, ad1, n1, cap1, m1⟩ ⟨hi, hz1, hl1, hn1, hs1⟩
   change wpM _ _ _ _ _ _ _ (m1 ++ (pB b1 fv ad n cap :: [])) _ _ _
   refine wpM.seq ?_
   refine wpM.region ?_
   refine LM.val (ov_lss rfl rfl) ?_
   refine LM.nil ?_
   refine QM.sub (e' := [(4, _), (25, _), (26, _), (27, _), (28, _)]) ⟨rfl, rfl, rfl, rfl, rfl, trivial⟩ ?_
   refine QM.then ?_
   refine wpM.seq ?_
   refine wpM.condD rfl (fun h3 => ?_) (fun h3 => ?_)
   ·
    refine wpM.skip ?_
    refine QM.then ?_
    refine wpM.seq ?_
    refine wpM.block ?_
    refine wpM.seq ?_
    refine wpM.region ?_
    refine LM.val (ov_idxSN (by first | exact Sr.spt (by assumption) | exact Sl.spt (by assumption)) Tryz.underlying85 Tryz.sizeOf135 rfl rfl (by omega)) ?_
    first | refine LM.rd (om_slA (by assumption) (by intro _; rfl) Tryz.isAgg135 Tryz.sizeOf135 rfl (by exact getq default (by first | omega | (simp only [List.length_set, List.length_append, List.length_cons, List.length_nil]; omega)))) ?_ | refine LM.rdC (om_srEA (by assumption) (by intro _; rfl) Tryz.isAgg135 Tryz.sizeOf135 rfl (by exact getq default (by first | omega | (simp only [List.length_set, List.length_append, List.length_cons, List.length_nil]; omega))) id) ?_ | refine LM.rd (om_ldW Tryz.isAgg135 Tryz.sizeOf135 rfl rfl) ?_ | refine LM.rd (om_ldA Tryz.isAgg135 Tryz.sizeOf135 rfl (vs := [_, _, _]) rfl ⟨rfl, rfl, rfl, trivial⟩) ?_
    refine LM.alloc Tryz.zeroValue135 rfl (fun b6 hb6 => ?_)
    refine LM.stW Tryz.sizeOf135 rfl rfl rfl rfl (by first | rfl | decide | (simp; done)) (fun hlt => absurd hlt (by omega)) ?_
    refine LM.nil ?_
    refine QM.sub (e' := [(4, _), (6, _), (25, _), (26, _), (27, _)]) ⟨rfl, rfl, rfl, rfl, rfl, trivial⟩ ?_
    refine QM.then ?_
    refine wpM.seq ?_
    refine wpM.region ?_
    refine LM.val (ov_move rfl) ?_
    refine LM.val (ov_field Tryz.underlying135 rfl Tryz.sizeOf3 rfl (k := 0) rfl rfl) ?_
    first | refine LM.rd (om_ld Tryz.isAgg3 rfl rfl) ?_
    refine LM.callE (oc_call (enters_fn Tryz.func105 (by kernel_rfl) rfl) rfl) (fun w hm hc hg => name_spec _ w) ?_
    refine LM.val (ov_build (cs := #[_, _, _, _]) rfl (by first | rfl | kernel_rfl)) ?_
    refine LM.single Tryz.underlying23 Tryz.sizeOf65 Tryz.zeroValue65 rfl rfl rfl rfl rfl (fun b36 hb36 => ?_)
    refine LM.app (a := (⟨1, nmT (xs.getD i default).k, 0, 0⟩ : Wrd)) Tryz.underlying23 Tryz.typeInfo65 rfl rfl rfl rfl rfl rfl rfl (by assumption) (by rfl) (by intro _; rfl) (by intro _ u hu; simp [fW] at hu; (repeat (first | (rcases hu with rfl | hu) | subst hu | rfl))) (by first | exact Nat.le_refl _ | omega) (fun p hp hlt => absurd hlt (Nat.not_lt_of_le (Sl.ge (by assumption) p hp))) (by first | omega | (unfold maxLen; omega)) (by simp only [Tryz.t65]; omega) (fun ad37 n37 cap37 m37 hn37 hs37 hin37 => ?_)
    refine LM.val (ov_assign rfl) ?_
    refine LM.nil ?_
    refine QM.sub (e' := [(4, _), (6, _), (25, _), (26, _), (27, _)]) ⟨rfl, rfl, rfl, rfl, rfl, trivial⟩ ?_
    refine QM.then ?_
    refine wpM.seq ?_
    refine wpM.region ?_
    refine LM.val (ov_field Tryz.underlying135 rfl Tryz.sizeOf3 rfl (k := 0) rfl rfl) ?_
    first | refine LM.rd (om_ld Tryz.isAgg3 rfl rfl) ?_
    refine LM.callE (oc_call (enters_fn Tryz.func106 (by kernel_rfl) rfl) rfl) (fun w hm hc hg => spans_spec _ w) ?_
    refine LM.val (ov_move rfl) ?_
    refine LM.val (ov_extract rfl rfl) ?_
    refine LM.val (ov_extract rfl rfl) ?_
    refine LM.alloc Tryz.zeroValue159 rfl (fun b7 hb7 => ?_)
    refine LM.alloc Tryz.zeroValue159 rfl (fun b8 hb8 => ?_)
    refine LM.stW Tryz.sizeOf159 rfl rfl rfl rfl (by first | rfl | decide | (simp; done)) (fun hlt => absurd hlt (by omega)) ?_
    refine LM.stW Tryz.sizeOf159 rfl rfl rfl rfl (by first | rfl | decide | (simp; done)) (fun hlt => absurd hlt (by omega)) ?_
    refine LM.nil ?_
    refine QM.sub (e' := [(4, _), (6, _), (7, _), (8, _), (25, _), (26, _), (27, _)]) ⟨rfl, rfl, rfl, rfl, rfl, rfl, rfl, trivial⟩ ?_
    refine QM.then ?_
    refine wpM.seq ?_
    refine wpM.seq ?_
    refine wpM.region ?_
    refine LM.val (ov_field Tryz.underlying159 rfl Tryz.sizeOf3 rfl (k := 0) rfl rfl) ?_
    first | refine LM.rd (om_ld Tryz.isAgg3 rfl rfl) ?_
    refine LM.val (ov_neq rfl rfl) ?_
    refine LM.nil ?_
    refine QM.sub (e' := [(4, _), (6, _), (8, _), (25, _), (26, _), (27, _), (46, _)]) ⟨rfl, rfl, rfl, rfl, rfl, rfl, rfl, trivial⟩ ?_
    refine QM.then ?_
    refine wpM.joinK (α := List Wrd × Option Addr × Nat × Nat × Mem0) (fun ⟨l2, ad2, n2, cap2, m2⟩ => [(4, .slice ad2 n2 cap2)]) [(6, _), (8, _), (25, _), (26, _), (27, _)] (fun ⟨l2, ad2, n2, cap2, m2⟩ => m2 ++ ((b8, .cells #[.int .i64 (loB (xs.getD i default).k), .int .i64 (hiB (xs.getD i default).k)] 159 (0, 0)) :: (b6, .cells (fO (xs.getD i default)).toArray 135 (0, 0)) :: pB b1 fv ad n cap :: [])) (fun ⟨l2, ad2, n2, cap2, m2⟩ => l2.length ≤ 5 + 4 * i ∧ l2 = l1 ++ [⟨1, nmT (xs.getD i default).k, 0, 0⟩] ++ (if loA (xs.getD i default).k ≠ -1 then [⟨2, [], (xs.getD i default).a, 0⟩] else []) ∧ n2 = l2.length ∧ Sl fW 65 4 w.heap.size l2 (.slice ad2 n2 cap2) m2) ⟨rfl, rfl, rfl, rfl, rfl, trivial⟩ ?_ ?_
    ·
     refine wpM.condD rfl (fun h4 => ?_) (fun h4 => ?_)
     ·
      refine wpM.region ?_
      have hlp : (l1 ++ [(⟨1, nmT (xs.getD i default).k, 0, 0⟩ : Wrd)]).length = l1.length + 1 := (by simp)
      refine LM.val (ov_move rfl) ?_
      refine LM.val (ov_field Tryz.underlying135 rfl Tryz.sizeOf3 rfl (k := 1) rfl rfl) ?_
      first | refine LM.rd (om_ld Tryz.isAgg3 rfl rfl) ?_
      refine LM.val (ov_build (cs := #[_, _, _, _]) rfl (by first | rfl | kernel_rfl)) ?_
      refine LM.single Tryz.underlying23 Tryz.sizeOf65 Tryz.zeroValue65 rfl rfl rfl rfl rfl (fun b51 hb51 => ?_)
      refine LM.app (a := (⟨2, [], (xs.getD i default).a, 0⟩ : Wrd)) Tryz.underlying23 Tryz.typeInfo65 rfl rfl rfl rfl rfl rfl rfl (by assumption) (by rfl) (by intro _; rfl) (by intro _ u hu; simp [fW] at hu; (repeat (first | (rcases hu with rfl | hu) | subst hu | rfl))) (by first | exact Nat.le_refl _ | omega) (fun p hp hlt => absurd hlt (Nat.not_lt_of_le (Sl.ge (by assumption) p hp))) (by first | omega | (unfold maxLen; omega)) (by simp only [Tryz.t65]; omega) (fun ad52 n52 cap52 m52 hn52 hs52 hin52 => ?_)
      refine LM.val (ov_assign rfl) ?_
      refine LM.nil ?_
      refine QM.sub (e' := [(4, _), (6, _), (8, _), (25, _), (26, _), (27, _)]) ⟨rfl, rfl, rfl, rfl, rfl, rfl, trivial⟩ ?_
      refine QM.meetK ((l1 ++ [(⟨1, nmT (xs.getD i default).k, 0, 0⟩ : Wrd)] ++ [⟨2, [], (xs.getD i default).a, 0⟩], ad52, n52, cap52, m52)) ⟨(by first | rfl | exact lk rfl (by congr 1; omega) | exact lk rfl (by simp)), rfl, rfl, rfl, rfl, rfl, trivial⟩ (by (repeat' (first | exact SubM.nil _ | refine SubM.cons rfl ?_ | refine SubM.app ?_))) ?_
      · exact ⟨by simp; omega, by rw [if_pos h4], by rw [hn52]; simp, hs52⟩
     ·
      refine wpM.skip ?_
      refine QM.meetK ((l1 ++ [(⟨1, nmT (xs.getD i default).k, 0, 0⟩ : Wrd)], ad37, n37, cap37, m37)) ⟨(by first | rfl | exact lk rfl (by congr 1; omega) | exact lk rfl (by simp)), rfl, rfl, rfl, rfl, rfl, trivial⟩ (by (repeat' (first | exact SubM.nil _ | refine SubM.cons rfl ?_ | refine SubM.app ?_))) ?_
      · exact ⟨by simp; omega, by rw [if_neg h4]; simp, by rw [hn37]; simp, hs37⟩
    ·
     rintro ⟨l2, ad2, n2, cap2, m2⟩ ⟨hz2, hl2, hn2, hs2⟩
     change QM _ _ _ _ _ (m2 ++ ((b8, .cells #[.int .i64 (loB (xs.getD i default).k), .int .i64 (hiB (xs.getD i default).k)] 159 (0, 0)) :: (b6, .cells (fO (xs.getD i default)).toArray 135 (0, 0)) :: pB b1 fv ad n cap :: [])) _ _ _
     refine QM.then ?_
     refine wpM.seq ?_
     refine wpM.seq ?_
     refine wpM.region ?_
     refine LM.val (ov_field Tryz.underlying159 rfl Tryz.sizeOf3 rfl (k := 0) rfl rfl) ?_
     first | refine LM.rd (om_ld Tryz.isAgg3 rfl rfl) ?_
     refine LM.val (ov_neq rfl rfl) ?_
     refine LM.nil ?_
     refine QM.sub (e' := [(4, _), (6, _), (25, _), (26, _), (27, _), (55, _)]) ⟨rfl, rfl, rfl, rfl, rfl, rfl, trivial⟩ ?_
     refine QM.then ?_
     refine wpM.joinK (α := List Wrd × Option Addr × Nat × Nat × Mem0) (fun ⟨l3, ad3, n3, cap3, m3⟩ => [(4, .slice ad3 n3 cap3)]) [(25, _), (26, _), (27, _)] (fun ⟨l3, ad3, n3, cap3, m3⟩ => m3 ++ (pB b1 fv ad n cap :: [])) (fun ⟨l3, ad3, n3, cap3, m3⟩ => l3.length ≤ 6 + 4 * i ∧ l3 = l2 ++ (if loB (xs.getD i default).k ≠ -1 then [⟨2, [], (xs.getD i default).b, 0⟩] else []) ∧ n3 = l3.length ∧ Sl fW 65 4 w.heap.size l3 (.slice ad3 n3 cap3) m3) ⟨rfl, rfl, rfl, trivial⟩ ?_ ?_
     ·
      refine wpM.condD rfl (fun h5 => ?_) (fun h5 => ?_)
      ·
       refine wpM.region ?_
       refine LM.val (ov_move rfl) ?_
       refine LM.val (ov_field Tryz.underlying135 rfl Tryz.sizeOf3 rfl (k := 2) rfl rfl) ?_
       first | refine LM.rd (om_ld Tryz.isAgg3 rfl rfl) ?_
       refine LM.val (ov_build (cs := #[_, _, _, _]) rfl (by first | rfl | kernel_rfl)) ?_
       refine LM.single Tryz.underlying23 Tryz.sizeOf65 Tryz.zeroValue65 rfl rfl rfl rfl rfl (fun b60 hb60 => ?_)
       refine LM.app (a := (⟨2, [], (xs.getD i default).b, 0⟩ : Wrd)) Tryz.underlying23 Tryz.typeInfo65 rfl rfl rfl rfl rfl rfl rfl (by assumption) (by rfl) (by intro _; rfl) (by intro _ u hu; simp [fW] at hu; (repeat (first | (rcases hu with rfl | hu) | subst hu | rfl))) (by first | exact Nat.le_refl _ | omega) (fun p hp hlt => absurd hlt (Nat.not_lt_of_le (Sl.ge (by assumption) p hp))) (by first | omega | (unfold maxLen; omega)) (by simp only [Tryz.t65]; omega) (fun ad61 n61 cap61 m61 hn61 hs61 hin61 => ?_)
       refine LM.val (ov_assign rfl) ?_
       refine LM.nil ?_
       refine QM.sub (e' := [(4, _), (25, _), (26, _), (27, _)]) ⟨rfl, rfl, rfl, rfl, trivial⟩ ?_
       refine QM.meetK ((l2 ++ [(⟨2, [], (xs.getD i default).b, 0⟩ : Wrd)], ad61, n61, cap61, m61)) ⟨(by first | rfl | exact lk rfl (by congr 1; omega) | exact lk rfl (by simp)), rfl, rfl, rfl, trivial⟩ (by (repeat' (first | exact SubM.nil _ | refine SubM.cons rfl ?_ | refine SubM.app ?_))) ?_
       · exact ⟨by simp; omega, by rw [if_pos h5], by rw [hn61]; simp, hs61⟩
      ·
       refine wpM.skip ?_
       refine QM.meetK ((l2, ad2, n2, cap2, m2)) ⟨(by first | rfl | exact lk rfl (by congr 1; omega) | exact lk rfl (by simp)), rfl, rfl, rfl, trivial⟩ (by (repeat' (first | exact SubM.nil _ | refine SubM.cons rfl ?_ | refine SubM.app ?_))) ?_
       · exact ⟨by omega, by rw [if_neg h5]; simp, hn2, hs2⟩
     ·
      rintro ⟨l3, ad3, n3, cap3, m3⟩ ⟨hz3, hl3, hn3, hs3⟩
      change QM _ _ _ _ _ (m3 ++ (pB b1 fv ad n cap :: [])) _ _ _
      refine QM.then ?_
      refine wpM.region ?_
      refine LM.val (ov_move rfl) ?_
      refine LM.callE (oc_call (enters_fn Tryz.func104 (by kernel_rfl) rfl) rfl) (fun w hm hc hg => pmark_spec [59] w) ?_
      refine LM.single Tryz.underlying23 Tryz.sizeOf65 Tryz.zeroValue65 rfl rfl rfl rfl rfl (fun b64 hb64 => ?_)
      refine LM.app (a := mk3 [59]) Tryz.underlying23 Tryz.typeInfo65 rfl rfl rfl rfl rfl rfl rfl (by assumption) (by rfl) (by intro _; rfl) (by intro _ u hu; simp [fW] at hu; (repeat (first | (rcases hu with rfl | hu) | subst hu | rfl))) (by first | exact Nat.le_refl _ | omega) (fun p hp hlt => absurd hlt (Nat.not_lt_of_le (Sl.ge (by assumption) p hp))) (by first | omega | (unfold maxLen; omega)) (by simp only [Tryz.t65]; omega) (fun ad65 n65 cap65 m65 hn65 hs65 hin65 => ?_)
      refine LM.val (ov_assign rfl) ?_
      refine LM.nil ?_
      refine QM.sub (e' := [(4, _), (25, _), (26, _), (27, _)]) ⟨rfl, rfl, rfl, rfl, trivial⟩ ?_
      refine QM.block_normal ?_
      refine QM.then ?_
      refine wpM.region ?_
      refine LM.val (ov_add64 rfl rfl (by omega)) ?_
      refine LM.val (ov_move rfl) ?_
      refine LM.nil ?_
      refine QM.sub (e' := [(4, _), (25, _), (26, _), (27, _)]) ⟨rfl, rfl, rfl, rfl, trivial⟩ ?_
      refine QM.againK ((i + 1, l3 ++ [mk3 [59]], ad65, n65, cap65, m65)) ⟨(by first | rfl | exact lk rfl (by congr 1; omega) | exact lk rfl (by simp)), (by first | rfl | exact lk rfl (by congr 1; omega) | exact lk rfl (by simp)), rfl, rfl, trivial⟩ (by (repeat' (first | exact SubM.nil _ | refine SubM.cons rfl ?_ | refine SubM.app ?_))) (fun _ h => h) ?_ ?_
      · exact ⟨by omega, by simp; omega, by rw [hl3, hl2, hl1, flat_snoc (by omega)]; simp [opW], by rw [hn65]; simp, hs65⟩
      · first | omega | (dsimp only; omega)
   ·
    refine wpM.exit ?_
    refine QM.then_exit ?_
    refine QM.then_exit ?_
    refine QM.block_hit ?_
    refine QM.then ?_
    refine wpM.seq ?_
    refine wpM.region ?_
    refine LM.val (ov_move rfl) ?_
    refine LM.callE (oc_call (enters_fn Tryz.func104 (by kernel_rfl) rfl) rfl) (fun w hm hc hg => pmark_spec [125] w) ?_
    refine LM.single Tryz.underlying23 Tryz.sizeOf65 Tryz.zeroValue65 rfl rfl rfl rfl rfl (fun b69 hb69 => ?_)
    refine LM.app (a := mk3 [125]) Tryz.underlying23 Tryz.typeInfo65 rfl rfl rfl rfl rfl rfl rfl (by assumption) (by rfl) (by intro _; rfl) (by intro _ u hu; simp [fW] at hu; (repeat (first | (rcases hu with rfl | hu) | subst hu | rfl))) (by first | exact Nat.le_refl _ | omega) (fun p hp hlt => absurd hlt (Nat.not_lt_of_le (Sl.ge (by assumption) p hp))) (by first | omega | (unfold maxLen; omega)) (by simp only [Tryz.t65]; omega) (fun ad70 n70 cap70 m70 hn70 hs70 hin70 => ?_)
    refine LM.val (ov_assign rfl) ?_
    refine LM.val (ov_assign rfl) ?_
    refine LM.nil ?_
    refine QM.sub (e' := [(2, _), (3, _)]) ⟨rfl, rfl, trivial⟩ ?_
    refine QM.then ?_
    refine wpM.ret ?_
    refine QM.leave (.inl rfl) [.tmp 2, .tmp 3] Tryz.results58 rfl ?_
    intro w' hm' hc' hg'
    have hm : mayB xs = true := (by simpa using h1); have hil : i = xs.length := (by omega); subst hil; rw [List.take_length] at hl1; have hw : wordsO fv xs = (l1 ++ [mk3 [125]], 0) := (by unfold wordsO wordsF; rw [if_pos hm, hl1, hl0]); rw [hw]; exact ⟨hc', m70, ⟨ad70, n70, cap70, rfl, by rw [hn70]; simp, hs70⟩, hm'.pick _, fun p hp => Sl.ge hs70 p hp⟩

set_option maxRecDepth 100000 in
theorem rsame_spec {xs ys : List COp} {f1 f2 : Bool} {ad1 ad2 : Option Addr} {n1 n2 cap1 cap2 : Nat} (w : World) (hn1 : n1 = xs.length) (hl1 : Sr fO 3 xs (.slice ad1 n1 cap1) w) (hn2 : n2 = ys.length) (hl2 : Sr fO 3 ys (.slice ad2 n2 cap2) w) (hx : xs.length ≤ 1000000000) : Ret Tryz.prog 47 #[pV f1 ad1 n1 cap1, pV f2 ad2 n2 cap2] w (fun v w' => v = .bool (decide (f1 = f2) && decide (xs = ys)) ∧ Ext w w') := by
 refine Ret.enterM (l := [pV f1 ad1 n1 cap1, pV f2 ad2 n2 cap2]) Tryz.func47 rfl Tryz.ntmps47 rfl ([]) (no) (Mem.nil w) ?_
 refine wpM.seq ?_
 refine wpM.region ?_
 refine LM.box rfl rfl (fun b2 hb2 => ?_)
 refine LM.box rfl rfl (fun b3 hb3 => ?_)
 refine LM.val (ov_assign rfl) ?_
 refine LM.nil ?_
 refine QM.sub (e' := [(2, _), (3, _)]) ⟨rfl, rfl, trivial⟩ ?_
 refine QM.then ?_
 refine wpM.seq ?_
 refine wpM.seq ?_
 refine wpM.region ?_
 refine LM.val (ov_field Tryz.underlying87 rfl Tryz.sizeOf4 rfl (k := 0) rfl rfl) ?_
 first | refine LM.rd (om_ld Tryz.isAgg4 rfl rfl) ?_
 refine LM.val (ov_field Tryz.underlying87 rfl Tryz.sizeOf4 rfl (k := 0) rfl rfl) ?_
 first | refine LM.rd (om_ld Tryz.isAgg4 rfl rfl) ?_
 refine LM.val (ov_bneq Tryz.underlying4 rfl rfl) ?_
 refine LM.val (ov_move rfl) ?_
 first | refine LM.splitD (t := 11) rfl (fun h1 => ?_) (fun h1 => ?_) | refine LM.splitB (t := 11) rfl (fun h1 => ?_) (fun h1 => ?_)
 ·
  refine LM.drop (t := 11) rfl rfl rfl ?_
  refine LM.drop (t := 11) rfl rfl rfl ?_
  refine LM.drop (t := 11) rfl rfl rfl ?_
  refine LM.drop (t := 11) rfl rfl rfl ?_
  refine LM.drop (t := 11) rfl rfl rfl ?_
  refine LM.drop (t := 11) rfl rfl rfl ?_
  refine LM.drop (t := 11) rfl rfl rfl ?_
  refine LM.val (ov_pickT rfl rfl) ?_
  refine LM.nil ?_
  refine QM.sub (e' := [(2, _), (3, _), (19, _)]) ⟨rfl, rfl, rfl, trivial⟩ ?_
  refine QM.then ?_
  refine wpM.condT rfl ?_
  refine wpM.seq ?_
  refine wpM.region ?_
  refine LM.val (ov_assign rfl) ?_
  refine LM.nil ?_
  refine QM.sub (e' := [(4, _)]) ⟨rfl, trivial⟩ ?_
  refine QM.then ?_
  refine wpM.ret ?_
  refine QM.then_ret ?_
  refine QM.leave (.inl rfl) [.tmp 4] Tryz.results47 rfl ?_
  intro w' hm' hc' hg'
  refine ⟨?_, hc'⟩; show Value.bool false = _; rw [decide_eq_false (show ¬ f1 = f2 by simpa using h1), Bool.false_and]
 ·
  refine LM.strip (t := 11) rfl rfl rfl ?_
  refine LM.val (ov_field Tryz.underlying87 rfl Tryz.sizeOf85 rfl (k := 1) rfl rfl) ?_
  refine LM.strip (t := 11) rfl rfl rfl ?_
  first | refine LM.rd (om_ld Tryz.isAgg85 rfl rfl) ?_
  refine LM.strip (t := 11) rfl rfl rfl ?_
  refine LM.val (ov_len Tryz.underlying85 rfl) ?_
  refine LM.strip (t := 11) rfl rfl rfl ?_
  refine LM.val (ov_field Tryz.underlying87 rfl Tryz.sizeOf85 rfl (k := 1) rfl rfl) ?_
  refine LM.strip (t := 11) rfl rfl rfl ?_
  first | refine LM.rd (om_ld Tryz.isAgg85 rfl rfl) ?_
  refine LM.strip (t := 11) rfl rfl rfl ?_
  refine LM.val (ov_len Tryz.underlying85 rfl) ?_
  refine LM.strip (t := 11) rfl rfl rfl ?_
  refine LM.val (ov_neq rfl rfl) ?_
  refine LM.val (ov_pickF rfl rfl) ?_
  refine LM.nil ?_
  refine QM.sub (e' := [(2, _), (3, _), (19, _)]) ⟨rfl, rfl, rfl, trivial⟩ ?_
  refine QM.then ?_
  refine wpM.condD rfl (fun h2 => ?_) (fun h2 => ?_)
  ·
   refine wpM.seq ?_
   refine wpM.region ?_
   refine LM.val (ov_assign rfl) ?_
   refine LM.nil ?_
   refine QM.sub (e' := [(4, _)]) ⟨rfl, trivial⟩ ?_
   refine QM.then ?_
   refine wpM.ret ?_
   refine QM.then_ret ?_
   refine QM.leave (.inl rfl) [.tmp 4] Tryz.results47 rfl ?_
   intro w' hm' hc' hg'
   refine ⟨?_, hc'⟩; show Value.bool false = _; rw [decide_eq_false (show ¬ xs = ys by intro q; have := congrArg List.length q; omega), Bool.and_false]
  ·
   refine wpM.skip ?_
   refine QM.then ?_
   refine wpM.seq ?_
   refine wpM.seq ?_
   refine wpM.region ?_
   refine LM.val (ov_assign rfl) ?_
   refine LM.nil ?_
   refine QM.sub (e' := [(2, _), (3, _), (5, _)]) ⟨rfl, rfl, rfl, trivial⟩ ?_
   refine QM.then ?_
   refine wpM.block ?_
   refine wpM.loopK0 (α := Nat) (fun i => [(5, .int .i64 (i : Nat))]) [(2, _), (3, _)] (fun i => pB b2 f1 ad1 n1 cap1 :: pB b3 f2 ad2 n2 cap2 :: []) (fun i => i ≤ xs.length ∧ xs.take i = ys.take i) (fun i => xs.length - i) (0) ⟨(by first | rfl | exact lk rfl (by congr 1; omega) | exact lk rfl (by simp)), rfl, rfl, trivial⟩ (by (repeat' (first | exact SubM.nil _ | refine SubM.cons rfl ?_ | refine SubM.app ?_))) ⟨Nat.zero_le _, rfl⟩ ?_
   rintro i ⟨hi, ha⟩
   change wpM _ _ _ _ _ _ _ (pB b2 f1 ad1 n1 cap1 :: pB b3 f2 ad2 n2 cap2 :: []) _ _ _
   refine wpM.seq ?_
   refine wpM.seq ?_
   refine wpM.region ?_
   refine LM.val (ov_move rfl) ?_
   refine LM.val (ov_field Tryz.underlying87 rfl Tryz.sizeOf85 rfl (k := 1) rfl rfl) ?_
   first | refine LM.rd (om_ld Tryz.isAgg85 rfl rfl) ?_
   refine LM.val (ov_len Tryz.underlying85 rfl) ?_
   refine LM.val (ov_lss rfl rfl) ?_
   refine LM.nil ?_
   refine QM.sub (e' := [(2, _), (3, _), (5, _), (24, _)]) ⟨rfl, rfl, rfl, rfl, trivial⟩ ?_
   refine QM.then ?_
   refine wpM.condD rfl (fun h3 => ?_) (fun h3 => ?_)
   ·
    refine wpM.skip ?_
    refine QM.then ?_
    refine wpM.seq ?_
    refine wpM.block ?_
    refine wpM.seq ?_
    refine wpM.draw [(0, 0), (1, 1), (2, 0), (3, 0), (4, 1), (5, 0), (6, 1), (7, 0), (8, 0), (9, 1), (10, 0)] (by kernel_rfl) (by kernel_rfl) ?_
    refine LD.val rfl rfl (ov_field Tryz.underlying87 rfl Tryz.sizeOf85 rfl (k := 1) rfl rfl) ?_
    first | refine LD.rd rfl rfl (om_ld Tryz.isAgg85 rfl rfl) ?_
    refine LD.val rfl rfl (ov_move rfl) ?_
    refine LD.val rfl rfl (ov_idxSN (by first | exact Sr.spt (by assumption) | exact Sl.spt (by assumption)) Tryz.underlying85 Tryz.sizeOf135 rfl rfl (by omega)) ?_
    first | refine LD.rd rfl rfl (om_slA (by assumption) (by intro _; rfl) Tryz.isAgg135 Tryz.sizeOf135 rfl (by exact getq default (by first | omega | (simp only [List.length_set, List.length_append, List.length_cons, List.length_nil]; omega)))) ?_ | refine LD.rdC rfl rfl (om_srEA (by assumption) (by intro _; rfl) Tryz.isAgg135 Tryz.sizeOf135 rfl (by exact getq default (by first | omega | (simp only [List.length_set, List.length_append, List.length_cons, List.length_nil]; omega))) id) ?_ | refine LD.rd rfl rfl (om_ldW Tryz.isAgg135 Tryz.sizeOf135 rfl rfl) ?_ | refine LD.rd rfl rfl (om_ldA Tryz.isAgg135 Tryz.sizeOf135 rfl (vs := [_, _, _]) rfl ⟨rfl, rfl, rfl, trivial⟩) ?_
    refine LD.val rfl rfl (ov_field Tryz.underlying87 rfl Tryz.sizeOf85 rfl (k := 1) rfl rfl) ?_
    first | refine LD.rd rfl rfl (om_ld Tryz.isAgg85 rfl rfl) ?_
    refine LD.val rfl rfl (ov_move rfl) ?_
    refine LD.val rfl rfl (ov_idxSN (by first | exact Sr.spt (by assumption) | exact Sl.spt (by assumption)) Tryz.underlying85 Tryz.sizeOf135 rfl rfl (by omega)) ?_
    first | refine LD.rd rfl rfl (om_slA (by assumption) (by intro _; rfl) Tryz.isAgg135 Tryz.sizeOf135 rfl (by exact getq default (by first | omega | (simp only [List.length_set, List.length_append, List.length_cons, List.length_nil]; omega)))) ?_ | refine LD.rdC rfl rfl (om_srEA (by assumption) (by intro _; rfl) Tryz.isAgg135 Tryz.sizeOf135 rfl (by exact getq default (by first | omega | (simp only [List.length_set, List.length_append, List.length_cons, List.length_nil]; omega))) id) ?_ | refine LD.rd rfl rfl (om_ldW Tryz.isAgg135 Tryz.sizeOf135 rfl rfl) ?_ | refine LD.rd rfl rfl (om_ldA Tryz.isAgg135 Tryz.sizeOf135 rfl (vs := [_, _, _]) rfl ⟨rfl, rfl, rfl, trivial⟩) ?_
    refine LD.val rfl rfl (ov_aneq Tryz.underlying135 (by kernel_rfl) (by kernel_rfl) (by decide) rfl rfl (by rfl) ⟨(by first | rfl | trivial), (by first | rfl | trivial), (by first | rfl | trivial), trivial⟩) ?_
    refine LD.nil ?_
    refine QM.sub (e' := [(2, _), (3, _), (5, _), (37, _)]) ⟨rfl, rfl, rfl, rfl, trivial⟩ ?_
    refine QM.then ?_
    first | refine wpM.condD rfl (fun h4 => ?_) (fun h4 => ?_) | refine wpM.condB rfl (fun h4 => ?_) (fun h4 => ?_)
    ·
     refine wpM.seq ?_
     refine wpM.region ?_
     refine LM.val (ov_assign rfl) ?_
     refine LM.nil ?_
     refine QM.sub (e' := [(4, _)]) ⟨rfl, trivial⟩ ?_
     refine QM.then ?_
     refine wpM.ret ?_
     refine QM.block_ret ?_
     refine QM.then_ret ?_
     refine QM.then_ret ?_
     refine QM.block_ret ?_
     refine QM.then_ret ?_
     refine QM.leave (.inl rfl) [.tmp 4] Tryz.results47 rfl ?_
     intro w' hm' hc' hg'
     refine ⟨?_, hc'⟩; show Value.bool false = _; rw [decide_eq_false (show ¬ xs = ys by intro q; rw [fO_veqs, q] at h4; simp at h4), Bool.and_false]
    ·
     refine wpM.skip ?_
     refine QM.block_normal ?_
     refine QM.then ?_
     refine wpM.region ?_
     refine LM.val (ov_move rfl) ?_
     refine LM.val (ov_add64 rfl rfl (by omega)) ?_
     refine LM.val (ov_assign rfl) ?_
     refine LM.nil ?_
     refine QM.sub (e' := [(2, _), (3, _), (5, _)]) ⟨rfl, rfl, rfl, trivial⟩ ?_
     refine QM.againK (i + 1) ⟨(by first | rfl | exact lk rfl (by congr 1; omega) | exact lk rfl (by simp)), rfl, rfl, trivial⟩ (by (repeat' (first | exact SubM.nil _ | refine SubM.cons rfl ?_ | refine SubM.app ?_))) (fun _ h => h) ?_ ?_
     · exact ⟨by omega, eq_at (by omega) (by omega) ha (by rw [fO_veqs] at h4; simpa using h4)⟩
     · omega
   ·
    refine wpM.exit ?_
    refine QM.then_exit ?_
    refine QM.then_exit ?_
    refine QM.block_hit ?_
    refine QM.then ?_
    refine wpM.seq ?_
    refine wpM.region ?_
    refine LM.val (ov_assign rfl) ?_
    refine LM.nil ?_
    refine QM.sub (e' := [(4, _)]) ⟨rfl, trivial⟩ ?_
    refine QM.then ?_
    refine wpM.ret ?_
    refine QM.leave (.inl rfl) [.tmp 4] Tryz.results47 rfl ?_
    intro w' hm' hc' hg'
    refine ⟨?_, hc'⟩; show Value.bool true = _; rw [decide_eq_true (show f1 = f2 by simpa using h1), Bool.true_and, decide_eq_true]; have e1 : xs.take i = xs := List.take_of_length_le (by omega); have e2 : ys.take i = ys := List.take_of_length_le (by omega); rw [← e1, ← e2, ha]

end Go.Eng
set_option linter.unusedVariables false
set_option linter.unusedSimpArgs false
namespace Go.Eng
open Go Go.Proofs Go.RowKit

theorem mayB_inv {xs : List COp} (h : mayB xs = true) : 0 < xs.length ∧ xs.length ≤ 12 ∧ xs.all rightB = true := by
  unfold mayB at h; simp only [Bool.and_eq_true, decide_eq_true_eq] at h; exact ⟨h.1.1, h.1.2, h.2⟩
/-! a program's text -/
end Go.Eng
set_option linter.unusedVariables false
set_option linter.unusedSimpArgs false
namespace Go.Eng
open Go Go.RowKit

deriving instance DecidableEq for CLk
/-- a program: what it says -/
structure PgC where
  fv : Bool
  xs : List COp
deriving DecidableEq
instance : Inhabited PgC := ⟨⟨false, []⟩⟩
/-- a setup: what it says -/
structure StC where
  cr : Int
  gr : Int
  gs : List Int
  ls : List CLk
  ps : List PgC
deriving DecidableEq
instance : Inhabited StC := ⟨⟨0, 0, [], [], []⟩⟩
abbrev wCores : List UInt8 := [99, 111, 114, 101, 115]
abbrev wGrain : List UInt8 := [103, 114, 97, 105, 110]
abbrev wGroup : List UInt8 := [103, 114, 111, 117, 112]
abbrev wLock : List UInt8 := [108, 111, 99, 107]
abbrev wShared : List UInt8 := [115, 104, 97, 114, 101, 100]
abbrev wSlice : List UInt8 := [115, 108, 105, 99, 101]
abbrev wCrit : List UInt8 := [99, 114, 105, 116]
abbrev wRead : List UInt8 := [114, 101, 97, 100]
abbrev wWrite : List UInt8 := [119, 114, 105, 116, 101]
/-- a name and a number -/
def fldE (ws : List Wrd) (i : Nat) (e : Int) (nm : List UInt8) (most : Int) : Nat × Int × Int := numE ws (needE ws i e 1 nm).1 (needE ws i e 1 nm).2 1 most
/-- ... and an end -/
def linE (ws : List Wrd) (i : Nat) (e : Int) (nm : List UInt8) (most : Int) : Nat × Int × Int := ((needE ws (fldE ws i e nm most).1 (fldE ws i e nm most).2.1 3 [59]).1, (needE ws (fldE ws i e nm most).1 (fldE ws i e nm most).2.1 3 [59]).2, (fldE ws i e nm most).2.2)
def lkA (ws : List Wrd) (i : Nat) (e : Int) : Nat × Int × Int := fldE ws i e wSlice 16
def lkB (ws : List Wrd) (i : Nat) (e : Int) : Nat × Int × Int := fldE ws (lkA ws i e).1 (lkA ws i e).2.1 wCrit 32
def lkC (ws : List Wrd) (sh : Bool) (i : Nat) (e : Int) : Nat × Int × Int := if sh then fldE ws (lkB ws i e).1 (lkB ws i e).2.1 wRead 16 else ((lkB ws i e).1, (lkB ws i e).2.1, 0)
def lkD (ws : List Wrd) (sh : Bool) (i : Nat) (e : Int) : Nat × Int × Int := if sh then fldE ws (lkC ws sh i e).1 (lkC ws sh i e).2.1 wWrite 16 else ((lkC ws sh i e).1, (lkC ws sh i e).2.1, 0)
/-- a lock, behind its first word -/
def lckE (ws : List Wrd) (sh : Bool) (i : Nat) (e : Int) : Nat × Int × CLk :=
  ((needE ws (lkD ws sh i e).1 (lkD ws sh i e).2.1 3 [59]).1, (needE ws (lkD ws sh i e).1 (lkD ws sh i e).2.1 3 [59]).2, ⟨sh, (lkA ws i e).2.2, (lkB ws i e).2.2, (lkC ws sh i e).2.2, (lkD ws sh i e).2.2⟩)
def gpF (ws : List Wrd) : Nat → Nat → Int → List Int → List Int × Nat × Int
  | 0, i, e, gs => if isE ws i e 1 wGroup then (gs, i, 6) else (gs, i, e)
  | f + 1, i, e, gs => if isE ws i e 1 wGroup then gpF ws f (linE ws i e wGroup 16).1 (linE ws i e wGroup 16).2.1 (gs ++ [(linE ws i e wGroup 16).2.2]) else (gs, i, e)
def gpL (ws : List Wrd) (i : Nat) (e : Int) (gs : List Int) : List Int × Nat × Int := gpF ws (4 - gs.length) i e gs
def gpO (ws : List Wrd) (i : Nat) (e : Int) : List Int × Nat × Int := gpL ws (linE ws i e wGroup 16).1 (linE ws i e wGroup 16).2.1 [(linE ws i e wGroup 16).2.2]
def isL (ws : List Wrd) (i : Nat) (e : Int) : Bool := isE ws i e 1 wLock || isE ws i e 1 wShared
def lkF (ws : List Wrd) : Nat → Nat → Int → List CLk → List CLk × Nat × Int
  | 0, i, e, ls => if isL ws i e then (ls, i, 6) else (ls, i, e)
  | f + 1, i, e, ls => if isL ws i e then lkF ws f (lckE ws (isE ws i e 1 wShared) (i + 1) e).1 (lckE ws (isE ws i e 1 wShared) (i + 1) e).2.1 (ls ++ [(lckE ws (isE ws i e 1 wShared) (i + 1) e).2.2]) else (ls, i, e)
def lkL (ws : List Wrd) (i : Nat) (e : Int) (ls : List CLk) : List CLk × Nat × Int := lkF ws (8 - ls.length) i e ls
def isP (ws : List Wrd) (i : Nat) (e : Int) (ps : List PgC) : Bool := decide (e = 0) && (decide (ps.length = 0) || isE ws i e 1 wProg)
def prC (r : Bool × List COp × Int × Int) : PgC := ⟨r.1, r.2.1⟩
def pgF (ws : List Wrd) : Nat → Nat → Int → List PgC → List Int → List PgC × List Int × Nat × Int
  | 0, i, e, ps, pl => if isP ws i e ps then (ps, pl, i, 6) else (ps, pl, i, e)
  | f + 1, i, e, ps, pl => if isP ws i e ps then pgF ws f (parseO ws (i : Int)).2.2.1.toNat (parseO ws (i : Int)).2.2.2 (ps ++ [prC (parseO ws (i : Int))]) (pl ++ [(i : Int)]) else (ps, pl, i, e)
def pgL (ws : List Wrd) (i : Nat) (e : Int) (ps : List PgC) (pl : List Int) : List PgC × List Int × Nat × Int := pgF ws (8 - ps.length) i e ps pl
/-- does it not fit? -/
def misB (ls : List CLk) (n : Nat) (p : PgC) : Bool := decide ((ckO p.fv p.xs ls (n : Int)).2 ≠ 0)
/-- the first that doesn't; below 0: there is none -/
def misI (ls : List CLk) (ps : List PgC) : Int := fixI (misB ls ps.length) ps
def misE (ls : List CLk) (ps : List PgC) (j : Int) : Int := if j < 0 then 0 else (ckO (ps.getD j.toNat default).fv (ps.getD j.toNat default).xs ls (ps.length : Int)).2
def sA (ws : List Wrd) (i : Nat) : Nat × Int × Int := linE ws i 0 wCores 4
def sB2 (ws : List Wrd) (i : Nat) : Nat × Int × Int := linE ws (sA ws i).1 (sA ws i).2.1 wGrain 8
def sG (ws : List Wrd) (i : Nat) : List Int × Nat × Int := gpO ws (sB2 ws i).1 (sB2 ws i).2.1
def sL (ws : List Wrd) (i : Nat) : List CLk × Nat × Int := lkL ws (sG ws i).2.1 (sG ws i).2.2 []
def sP (ws : List Wrd) (i : Nat) : List PgC × List Int × Nat × Int := pgL ws (sL ws i).2.1 (sL ws i).2.2 [] []
def stpR (ws : List Wrd) (i : Nat) : StC × Int × Int :=
  if (sP ws i).2.2.2 ≠ 0 then (default, ((sP ws i).2.2.1 : Int), (sP ws i).2.2.2)
  else if 0 ≤ misI (sL ws i).1 (sP ws i).1 then (default, (sP ws i).2.1.getD (misI (sL ws i).1 (sP ws i).1).toNat 0, misE (sL ws i).1 (sP ws i).1 (misI (sL ws i).1 (sP ws i).1))
  else (⟨(sA ws i).2.2, (sB2 ws i).2.2, (sG ws i).1, (sL ws i).1, (sP ws i).1⟩, ((sP ws i).2.2.1 : Int), 0)
/-- the setup that begins at a place, where it ends, the error -/
def setO (ws : List Wrd) (p : Int) : StC × Int × Int := if p < 0 ∨ (ws.length : Int) < p then (default, 0, 5) else stpR ws p.toNat
theorem set_nat {ws : List Wrd} {i : Nat} (h : i ≤ ws.length) : setO ws (i : Int) = stpR ws i := by
  unfold setO; rw [if_neg (by omega), Int.toNat_natCast]

/-! where they stand -/
theorem need_le {ws : List Wrd} {i : Nat} {e k : Int} {t : List UInt8} (h : i ≤ ws.length) : (needE ws i e k t).1 ≤ ws.length := by
  unfold needE; split
  · rename_i q; exact (isE_lt q).1
  · split <;> exact h
theorem fld_le {ws : List Wrd} {i : Nat} {e : Int} {nm : List UInt8} {m : Int} (h : i ≤ ws.length) : (fldE ws i e nm m).1 ≤ ws.length := by
  have h1 := need_le (ws := ws) (i := i) (e := e) (k := 1) (t := nm) h
  unfold fldE numE; split
  · exact h1
  · exact (numR_le h1).2
theorem lin_le {ws : List Wrd} {i : Nat} {e : Int} {nm : List UInt8} {m : Int} (h : i ≤ ws.length) : (linE ws i e nm m).1 ≤ ws.length := need_le (fld_le h)
theorem lkA_le {ws : List Wrd} {i : Nat} {e : Int} (h : i ≤ ws.length) : (lkA ws i e).1 ≤ ws.length := fld_le h
theorem lkB_le {ws : List Wrd} {i : Nat} {e : Int} (h : i ≤ ws.length) : (lkB ws i e).1 ≤ ws.length := fld_le (lkA_le h)
theorem lkC_le {ws : List Wrd} {i : Nat} {e : Int} {sh : Bool} (h : i ≤ ws.length) : (lkC ws sh i e).1 ≤ ws.length := by
  unfold lkC; split
  · exact fld_le (lkB_le h)
  · exact lkB_le h
theorem lkD_le {ws : List Wrd} {i : Nat} {e : Int} {sh : Bool} (h : i ≤ ws.length) : (lkD ws sh i e).1 ≤ ws.length := by
  unfold lkD; split
  · exact fld_le (lkC_le h)
  · exact lkC_le h
theorem lck_le {ws : List Wrd} {i : Nat} {e : Int} {sh : Bool} (h : i ≤ ws.length) : (lckE ws sh i e).1 ≤ ws.length := need_le (lkD_le h)
/-! a state with an error stays -/
theorem need_bad {ws : List Wrd} {i : Nat} {e k : Int} {t : List UInt8} (h : e ≠ 0) : needE ws i e k t = (i, e) := by
  unfold needE; rw [isE_bad h, if_neg (by simp), if_neg h]
theorem fld_bad {ws : List Wrd} {i : Nat} {e : Int} {nm : List UInt8} {m : Int} (h : e ≠ 0) : fldE ws i e nm m = (i, e, 0) := by
  unfold fldE; rw [need_bad h]; exact num_b h
theorem lin_bad {ws : List Wrd} {i : Nat} {e : Int} {nm : List UInt8} {m : Int} (h : e ≠ 0) : linE ws i e nm m = (i, e, 0) := by
  unfold linE; rw [fld_bad h, need_bad h]
/-! steps of the loops -/
theorem gpL_stop {ws : List Wrd} {i : Nat} {e : Int} {gs : List Int} (h : isE ws i e 1 wGroup = false) : gpL ws i e gs = (gs, i, e) := by
  unfold gpL; cases 4 - gs.length <;> (unfold gpF; rw [if_neg (by rw [h]; simp)])
theorem gpL_full {ws : List Wrd} {i : Nat} {e : Int} {gs : List Int} (h : isE ws i e 1 wGroup = true) (hl : 4 ≤ gs.length) : gpL ws i e gs = (gs, i, 6) := by
  unfold gpL; rw [show 4 - gs.length = 0 by omega]; unfold gpF; rw [if_pos h]
theorem gpL_next {ws : List Wrd} {i : Nat} {e : Int} {gs : List Int} (h : isE ws i e 1 wGroup = true) (hl : gs.length < 4) : gpL ws i e gs = gpL ws (linE ws i e wGroup 16).1 (linE ws i e wGroup 16).2.1 (gs ++ [(linE ws i e wGroup 16).2.2]) := by
  unfold gpL
  obtain ⟨f, hf⟩ : ∃ f, 4 - gs.length = f + 1 := ⟨4 - gs.length - 1, by omega⟩
  rw [hf, gpF, if_pos h, List.length_append, List.length_singleton, show 4 - (gs.length + 1) = f by omega]
theorem lkL_stop {ws : List Wrd} {i : Nat} {e : Int} {ls : List CLk} (h : isL ws i e = false) : lkL ws i e ls = (ls, i, e) := by
  unfold lkL; cases 8 - ls.length <;> (unfold lkF; rw [if_neg (by rw [h]; simp)])
theorem lkL_full {ws : List Wrd} {i : Nat} {e : Int} {ls : List CLk} (h : isL ws i e = true) (hl : 8 ≤ ls.length) : lkL ws i e ls = (ls, i, 6) := by
  unfold lkL; rw [show 8 - ls.length = 0 by omega]; unfold lkF; rw [if_pos h]
theorem lkL_next {ws : List Wrd} {i : Nat} {e : Int} {ls : List CLk} (h : isL ws i e = true) (hl : ls.length < 8) : lkL ws i e ls = lkL ws (lckE ws (isE ws i e 1 wShared) (i + 1) e).1 (lckE ws (isE ws i e 1 wShared) (i + 1) e).2.1 (ls ++ [(lckE ws (isE ws i e 1 wShared) (i + 1) e).2.2]) := by
  unfold lkL
  obtain ⟨f, hf⟩ : ∃ f, 8 - ls.length = f + 1 := ⟨8 - ls.length - 1, by omega⟩
  rw [hf, lkF, if_pos h, List.length_append, List.length_singleton, show 8 - (ls.length + 1) = f by omega]
theorem pgL_stop {ws : List Wrd} {i : Nat} {e : Int} {ps : List PgC} {pl : List Int} (h : isP ws i e ps = false) : pgL ws i e ps pl = (ps, pl, i, e) := by
  unfold pgL; cases 8 - ps.length <;> (unfold pgF; rw [if_neg (by rw [h]; simp)])
theorem pgL_full {ws : List Wrd} {i : Nat} {e : Int} {ps : List PgC} {pl : List Int} (h : isP ws i e ps = true) (hl : 8 ≤ ps.length) : pgL ws i e ps pl = (ps, pl, i, 6) := by
  unfold pgL; rw [show 8 - ps.length = 0 by omega]; unfold pgF; rw [if_pos h]
theorem pgL_next {ws : List Wrd} {i : Nat} {e : Int} {ps : List PgC} {pl : List Int} (h : isP ws i e ps = true) (hl : ps.length < 8) : pgL ws i e ps pl = pgL ws (parseO ws (i : Int)).2.2.1.toNat (parseO ws (i : Int)).2.2.2 (ps ++ [prC (parseO ws (i : Int))]) (pl ++ [(i : Int)]) := by
  unfold pgL
  obtain ⟨f, hf⟩ : ∃ f, 8 - ps.length = f + 1 := ⟨8 - ps.length - 1, by omega⟩
  rw [hf, pgF, if_pos h, List.length_append, List.length_singleton, show 8 - (ps.length + 1) = f by omega]
/-! which may be -/
def winB (n most : Int) : Bool := decide (1 ≤ n) && decide (n ≤ most)
def lokB (x : CLk) : Bool := (if x.sh then winB x.rd 16 && winB x.wr 16 else decide (x.rd = 0) && decide (x.wr = 0)) && winB x.sl 16 && winB x.cr 32
def mayS (s : StC) : Bool := winB s.cr 4 && winB s.gr 8 && (winB (s.gs.length : Int) 4 && s.gs.all (fun n => winB n 16)) && (decide (s.ls.length ≤ 8) && s.ls.all lokB) && winB (s.ps.length : Int) 8 && !s.ps.any (misB s.ls s.ps.length)
/-! its words -/
def nmE (t : List UInt8) : Wrd := ⟨1, t, 0, 0⟩
def noE (n : Int) : Wrd := ⟨2, [], n, 0⟩
def fldW (t : List UInt8) (n : Int) : List Wrd := [nmE t, noE n]
def linW (t : List UInt8) (n : Int) : List Wrd := fldW t n ++ [mk3 [59]]
def lckW (x : CLk) : List Wrd := nmE (if x.sh then wShared else wLock) :: (fldW wSlice x.sl ++ fldW wCrit x.cr ++ (if x.sh then fldW wRead x.rd ++ fldW wWrite x.wr else []) ++ [mk3 [59]])
def setW (s : StC) : List Wrd := linW wCores s.cr ++ linW wGrain s.gr ++ s.gs.flatMap (linW wGroup) ++ s.ls.flatMap lckW ++ s.ps.flatMap (fun p => wordsF p.fv p.xs)
def wordsS (s : StC) : List Wrd × Int := if mayS s then (setW s, 0) else ([], 1)
def printS (s : StC) : List UInt8 × Int := if mayS s then joinO (setW s) else ([], 1)
end Go.Eng
set_option linter.unusedVariables false
set_option linter.unusedSimpArgs false
namespace Go.Eng
open Go Go.RowKit

theorem fix_ge {α : Type} {p : α → Bool} {xs : List α} (d : α) (h : 0 ≤ fixI p xs) : (fixI p xs).toNat < xs.length ∧ p (xs.getD (fixI p xs).toNat d) = true := by
  unfold fixI at h ⊢
  split at h
  · rename_i q
    rw [if_pos q, Int.toNat_natCast]
    have hlt : xs.findIdx p < xs.length := by
      obtain ⟨x, hx, hp⟩ := List.any_eq_true.1 q
      exact List.findIdx_lt_length_of_exists ⟨x, hx, hp⟩
    refine ⟨hlt, ?_⟩
    have e := getq d hlt
    rw [List.getElem?_eq_getElem hlt] at e
    rw [← Option.some.inj e]
    exact List.findIdx_getElem (w := hlt)
  · omega
theorem fix_lt {α : Type} {p : α → Bool} {xs : List α} (h : ¬ 0 ≤ fixI p xs) : xs.any p = false := by
  unfold fixI at h
  cases q : xs.any p with
  | false => rfl
  | true => rw [if_pos q] at h; omega
/-! what is parsed may be -/
theorem need_zero {ws : List Wrd} {i : Nat} {e k : Int} {t : List UInt8} (h : (needE ws i e k t).2 = 0) : e = 0 := by
  unfold needE at h; split at h
  · exact h
  · split at h
    · cases h
    · exact h
theorem num_win {ws : List Wrd} {i : Nat} {e m : Int} (h : (numE ws i e 1 m).2.1 = 0) : e = 0 ∧ winB (numE ws i e 1 m).2.2 m = true := by
  unfold numE numR at h ⊢
  split at h
  · rename_i q; exact absurd h q
  rename_i q
  rw [if_neg q, if_neg (by decide)]
  rw [if_neg (by decide)] at h
  refine ⟨Classical.not_not.1 q, ?_⟩
  split at h
  · cases h
  rename_i q2
  rw [if_neg q2]
  split at h
  · rename_i q3
    rw [if_pos q3]
    unfold hasB at q3; rw [if_neg (by decide)] at q3; exact q3
  · cases h
theorem fld_win {ws : List Wrd} {i : Nat} {e m : Int} {nm : List UInt8} (h : (fldE ws i e nm m).2.1 = 0) : e = 0 ∧ winB (fldE ws i e nm m).2.2 m = true :=
  ⟨need_zero (num_win h).1, (num_win h).2⟩
theorem lin_win {ws : List Wrd} {i : Nat} {e m : Int} {nm : List UInt8} (h : (linE ws i e nm m).2.1 = 0) : e = 0 ∧ winB (linE ws i e nm m).2.2 m = true :=
  fld_win (need_zero h)
theorem gpF_zero {ws : List Wrd} : ∀ (f i : Nat) (e : Int) (gs : List Int), (gpF ws f i e gs).2.2 = 0 → e = 0
  | 0, i, e, gs, h => by
    unfold gpF at h; split at h
    · rename_i q; exact (isE_lt q).2
    · exact h
  | f + 1, i, e, gs, h => by
    unfold gpF at h; split at h
    · rename_i q; exact (isE_lt q).2
    · exact h
theorem gpF_win {ws : List Wrd} : ∀ (f i : Nat) (e : Int) (gs : List Int), (gpF ws f i e gs).2.2 = 0 → (e = 0 → gs.all (fun n => winB n 16) = true) → 1 ≤ gs.length → gs.length + f ≤ 4 →
    (gpF ws f i e gs).1.all (fun n => winB n 16) = true ∧ 1 ≤ (gpF ws f i e gs).1.length ∧ (gpF ws f i e gs).1.length ≤ 4
  | 0, i, e, gs, h, ha, h1, h2 => by
    have he := gpF_zero 0 i e gs h
    unfold gpF; split <;> exact ⟨ha he, h1, h2⟩
  | f + 1, i, e, gs, h, ha, h1, h2 => by
    have he := gpF_zero (f + 1) i e gs h
    unfold gpF at h ⊢; split
    · rename_i q
      rw [if_pos q] at h
      refine gpF_win f _ _ _ h (fun h3 => ?_) (by simp) (by simp; omega)
      rw [List.all_append, ha he, Bool.true_and]
      simp [(lin_win h3).2]
    · exact ⟨ha he, h1, by show gs.length ≤ 4; omega⟩
theorem lck_win {ws : List Wrd} {i : Nat} {e : Int} {sh : Bool} (h : (lckE ws sh i e).2.1 = 0) : e = 0 ∧ lokB (lckE ws sh i e).2.2 = true := by
  have hD : (lkD ws sh i e).2.1 = 0 := need_zero h
  cases sh with
  | true =>
    have d := fld_win (show (fldE ws (lkC ws true i e).1 (lkC ws true i e).2.1 wWrite 16).2.1 = 0 from hD)
    have c := fld_win (show (fldE ws (lkB ws i e).1 (lkB ws i e).2.1 wRead 16).2.1 = 0 from d.1)
    have b := fld_win (show (fldE ws (lkA ws i e).1 (lkA ws i e).2.1 wCrit 32).2.1 = 0 from c.1)
    have a := fld_win (show (fldE ws i e wSlice 16).2.1 = 0 from b.1)
    refine ⟨a.1, ?_⟩
    show ((if true = true then winB (fldE ws (lkB ws i e).1 (lkB ws i e).2.1 wRead 16).2.2 16 && winB (fldE ws (lkC ws true i e).1 (lkC ws true i e).2.1 wWrite 16).2.2 16 else _) && winB (fldE ws i e wSlice 16).2.2 16 && winB (fldE ws (lkA ws i e).1 (lkA ws i e).2.1 wCrit 32).2.2 32) = true
    rw [if_pos rfl, a.2, b.2, c.2, d.2]; rfl
  | false =>
    have b := fld_win (show (fldE ws (lkA ws i e).1 (lkA ws i e).2.1 wCrit 32).2.1 = 0 from hD)
    have a := fld_win (show (fldE ws i e wSlice 16).2.1 = 0 from b.1)
    refine ⟨a.1, ?_⟩
    show (true && winB (fldE ws i e wSlice 16).2.2 16 && winB (fldE ws (lkA ws i e).1 (lkA ws i e).2.1 wCrit 32).2.2 32) = true
    rw [a.2, b.2]; rfl
theorem isL_lt {ws : List Wrd} {i : Nat} {e : Int} (h : isL ws i e = true) : i < ws.length ∧ e = 0 := by
  unfold isL at h; rw [Bool.or_eq_true] at h
  rcases h with h | h <;> exact isE_lt h
theorem lkF_zero {ws : List Wrd} : ∀ (f i : Nat) (e : Int) (ls : List CLk), (lkF ws f i e ls).2.2 = 0 → e = 0
  | 0, i, e, ls, h => by
    unfold lkF at h; split at h
    · rename_i q; exact (isL_lt q).2
    · exact h
  | f + 1, i, e, ls, h => by
    unfold lkF at h; split at h
    · rename_i q; exact (isL_lt q).2
    · exact h
theorem lkF_win {ws : List Wrd} : ∀ (f i : Nat) (e : Int) (ls : List CLk), (lkF ws f i e ls).2.2 = 0 → (e = 0 → ls.all lokB = true) → ls.length + f ≤ 8 →
    (lkF ws f i e ls).1.all lokB = true ∧ (lkF ws f i e ls).1.length ≤ 8
  | 0, i, e, ls, h, ha, h2 => by
    have he := lkF_zero 0 i e ls h
    unfold lkF; split <;> exact ⟨ha he, h2⟩
  | f + 1, i, e, ls, h, ha, h2 => by
    have he := lkF_zero (f + 1) i e ls h
    unfold lkF at h ⊢; split
    · rename_i q
      rw [if_pos q] at h
      refine lkF_win f _ _ _ h (fun h3 => ?_) (by simp; omega)
      rw [List.all_append, ha he, Bool.true_and]
      simp [(lck_win h3).2]
    · exact ⟨ha he, by show ls.length ≤ 8; omega⟩
theorem isP_zero {ws : List Wrd} {i : Nat} {e : Int} {ps : List PgC} (h : isP ws i e ps = true) : e = 0 := by
  unfold isP at h; simp only [Bool.and_eq_true, decide_eq_true_eq] at h; exact h.1
theorem pgF_zero {ws : List Wrd} : ∀ (f i : Nat) (e : Int) (ps : List PgC) (pl : List Int), (pgF ws f i e ps pl).2.2.2 = 0 → e = 0
  | 0, i, e, ps, pl, h => by
    unfold pgF at h; split at h
    · rename_i q; exact isP_zero q
    · exact h
  | f + 1, i, e, ps, pl, h => by
    unfold pgF at h; split at h
    · rename_i q; exact isP_zero q
    · exact h
theorem pgF_win {ws : List Wrd} : ∀ (f i : Nat) (e : Int) (ps : List PgC) (pl : List Int), (pgF ws f i e ps pl).2.2.2 = 0 → ps.length + f ≤ 8 →
    1 ≤ (pgF ws f i e ps pl).1.length ∧ (pgF ws f i e ps pl).1.length ≤ 8
  | 0, i, e, ps, pl, h, h2 => by
    have he := pgF_zero 0 i e ps pl h
    subst he
    unfold pgF at h ⊢; split
    · rename_i q; rw [if_pos q] at h; cases h
    · rename_i q
      unfold isP at q; simp only [decide_true, Bool.true_and, Bool.or_eq_true, decide_eq_true_eq, not_or] at q
      exact ⟨by show 1 ≤ ps.length; omega, h2⟩
  | f + 1, i, e, ps, pl, h, h2 => by
    have he := pgF_zero (f + 1) i e ps pl h
    subst he
    unfold pgF at h ⊢; split
    · rename_i q
      rw [if_pos q] at h
      exact pgF_win f _ _ _ _ h (by simp; omega)
    · rename_i q
      unfold isP at q; simp only [decide_true, Bool.true_and, Bool.or_eq_true, decide_eq_true_eq, not_or] at q
      exact ⟨by show 1 ≤ ps.length; omega, by show ps.length ≤ 8; omega⟩
theorem mis_err {ls : List CLk} {ps : List PgC} (h : 0 ≤ misI ls ps) : misE ls ps (misI ls ps) ≠ 0 := by
  have : misB ls ps.length (ps.getD (misI ls ps).toNat default) = true := (fix_ge default h).2
  unfold misE; rw [if_neg (by omega)]
  simpa [misB] using this
theorem winL (n : Nat) (m : Int) : winB (n : Int) m = true ↔ 1 ≤ n ∧ (n : Int) ≤ m := by
  unfold winB; simp only [Bool.and_eq_true, decide_eq_true_eq]; omega
theorem stpR_may {ws : List Wrd} {i : Nat} (h : (stpR ws i).2.2 = 0) : mayS (stpR ws i).1 = true := by
  unfold stpR at h ⊢
  split at h
  · rename_i q; exact absurd h q
  rename_i q
  rw [if_neg q]
  split at h
  · rename_i q2; exact absurd h (mis_err q2)
  rename_i q2
  rw [if_neg q2]
  have hP := Classical.not_not.1 q
  have p0 := pgF_zero _ _ _ _ _ hP
  have p1 := pgF_win _ _ _ _ _ hP (by simp)
  have l0 := lkF_zero _ _ _ _ p0
  have l1 := lkF_win _ _ _ _ p0 (fun _ => rfl) (by simp)
  have g0 := gpF_zero _ _ _ _ l0
  have g1 := gpF_win _ _ _ _ l0 (fun h3 => by simp [(lin_win h3).2]) (by simp) (by simp)
  have b0 := lin_win g0
  have b1 := lin_win b0.1
  have a0 := lin_win b1.1
  unfold mayS
  simp only [Bool.and_eq_true, decide_eq_true_eq, Bool.not_eq_true']
  exact ⟨⟨⟨⟨⟨a0.2, b1.2⟩, ⟨(winL _ _).2 ⟨g1.2.1, by have : (sG ws i).1.length ≤ 4 := g1.2.2; omega⟩, g1.1⟩⟩, ⟨l1.2, l1.1⟩⟩, (winL _ _).2 ⟨p1.1, by have : (sP ws i).1.length ≤ 8 := p1.2; omega⟩⟩, fix_lt q2⟩
theorem set_may {ws : List Wrd} {p : Int} (h : (setO ws p).2.2 = 0) : mayS (setO ws p).1 = true := by
  unfold setO at h ⊢
  split at h
  · cases h
  · rename_i q; rw [if_neg q]; exact stpR_may h
/-! words are parsed again -/
theorem lckW_len (x : CLk) : (lckW x).length = 1 + (if x.sh then 9 else 5) := by
  unfold lckW fldW; cases x.sh <;> simp
theorem mayS_inv {s : StC} (h : mayS s = true) : winB s.cr 4 = true ∧ winB s.gr 8 = true ∧ (1 ≤ s.gs.length ∧ s.gs.length ≤ 4) ∧ s.gs.all (fun n => winB n 16) = true ∧ s.ls.length ≤ 8 ∧ s.ls.all lokB = true ∧ (1 ≤ s.ps.length ∧ s.ps.length ≤ 8) ∧ s.ps.any (misB s.ls s.ps.length) = false := by
  unfold mayS at h
  simp only [Bool.and_eq_true, decide_eq_true_eq, Bool.not_eq_true', winL] at h
  obtain ⟨⟨⟨⟨⟨a, b⟩, ⟨c, d⟩⟩, ⟨e, f⟩⟩, g⟩, k⟩ := h
  exact ⟨a, b, ⟨c.1, by omega⟩, d, e, f, ⟨g.1, by omega⟩, k⟩
theorem mayS_progs {s : StC} (h : mayS s = true) : s.ps.all (fun p => mayB p.xs) = true := by
  have h1 := (mayS_inv h).2.2.2.2.2.2.2
  rw [List.all_eq_true]
  intro p hp
  have h2 := List.any_eq_false.1 h1 p hp
  have h3 : (ckO p.fv p.xs s.ls (s.ps.length : Int)).2 = 0 := by
    unfold misB at h2; simpa using h2
  exact (ck_zero h3).1
/-! how many words -/
theorem setW_text (s : StC) : ∀ x ∈ setW s, x.t.length ≤ 7 := by
  have hf : ∀ (t : List UInt8) (n : Int), t.length ≤ 7 → ∀ x ∈ fldW t n, x.t.length ≤ 7 := by
    intro t n ht x hx
    simp only [fldW, List.mem_cons, List.not_mem_nil, or_false] at hx
    rcases hx with rfl | rfl
    · exact ht
    · simp [noE]
  have hl : ∀ (t : List UInt8) (n : Int), t.length ≤ 7 → ∀ x ∈ linW t n, x.t.length ≤ 7 := by
    intro t n ht x hx
    simp only [linW, List.mem_append, List.mem_cons, List.not_mem_nil, or_false] at hx
    rcases hx with hx | rfl
    · exact hf t n ht x hx
    · simp [mk3]
  intro x hx
  simp only [setW, List.mem_append, List.mem_flatMap] at hx
  rcases hx with (((hx | hx) | ⟨g, _, hx⟩) | ⟨l, _, hx⟩) | ⟨p, _, hx⟩
  · exact hl _ _ (by decide) x hx
  · exact hl _ _ (by decide) x hx
  · exact hl _ _ (by decide) x hx
  · simp only [lckW, List.mem_cons, List.mem_append, List.not_mem_nil, or_false] at hx
    rcases hx with rfl | ((hx | hx) | hx) | rfl
    · cases l.sh <;> simp [nmE]
    · exact hf _ _ (by decide) x hx
    · exact hf _ _ (by decide) x hx
    · split at hx
      · rcases List.mem_append.1 hx with hx | hx
        · exact hf _ _ (by decide) x hx
        · exact hf _ _ (by decide) x hx
      · cases hx
    · simp [mk3]
  · exact words_text p.fv p.xs x hx
end Go.Eng
set_option linter.unusedVariables false
set_option linter.unusedSimpArgs false
namespace Go.Eng
open Go Go.Proofs Go.RowKit

theorem row_sr {α : Type} {f : α → List Value} {s : Nat} {xs : List α} {b : Nat} {cs : Array Value} {E : TypeId} {fz : Nat × Nat} {w : World} (n : Nat) (h : w.heap[b]? = some (.cells cs E fz)) (hn : n = xs.length) (hcs : cs = arr f xs []) (hf : ∀ a, (f a).length = s) : Sr f s xs (.slice (some ⟨b, 0, none⟩) n n) w := by
  subst hn; exact Sr.row h hcs rfl (Nat.le_refl _) hf
set_option maxRecDepth 100000 in
theorem index_int {xs : List Int} {ad : Option Addr} {n cap : Nat} (x : Int) (w : World) (hn : n = xs.length) (hl : Sr fI 1 xs (.slice ad n cap) w) (hx : xs.length ≤ 1000) : Ret Tryz.prog 170 #[.slice ad n cap, .int .i64 x] w (fun v w' => v = .int .i64 (fixI (fun y => decide (x = y)) xs) ∧ Ext w w') := by
 refine Ret.enterM (l := [.slice ad n cap, .int .i64 x]) Tryz.func170 rfl Tryz.ntmps170 rfl ([]) (no) (Mem.nil w) ?_
 refine wpM.seq ?_
 refine wpM.region ?_
 refine LM.val (ov_assign rfl) ?_
 refine LM.nil ?_
 refine QM.sub (e' := [(0, _), (1, _)]) ⟨rfl, rfl, trivial⟩ ?_
 refine QM.then ?_
 refine wpM.seq ?_
 refine wpM.seq ?_
 refine wpM.region ?_
 refine LM.val (ov_move rfl) ?_
 refine LM.val (ov_len Tryz.underlying26 rfl) ?_
 refine LM.val (ov_move rfl) ?_
 refine LM.nil ?_
 refine QM.sub (e' := [(0, _), (1, _), (7, _), (8, _)]) ⟨rfl, rfl, rfl, rfl, trivial⟩ ?_
 refine QM.then ?_
 refine wpM.block ?_
 refine wpM.loopK0 (α := Nat) (fun i => [(8, .int .i64 (i : Nat))]) [(0, _), (1, _), (7, _)] (fun i => []) (fun i => i ≤ xs.length ∧ (xs.take i).any (fun y => decide (x = y)) = false) (fun i => xs.length - i) (0) ⟨(by first | rfl | exact lk rfl (by congr 1; omega) | exact lk rfl (by simp)), rfl, rfl, rfl, trivial⟩ (by (repeat' (first | exact SubM.nil _ | refine SubM.cons rfl ?_ | refine SubM.app ?_))) ⟨Nat.zero_le _, rfl⟩ ?_
 rintro i ⟨hi, ha⟩
 change wpM _ _ _ _ _ _ _ ([]) _ _ _
 refine wpM.seq ?_
 refine wpM.region ?_
 refine LM.val (ov_lss rfl rfl) ?_
 refine LM.nil ?_
 refine QM.sub (e' := [(0, _), (1, _), (7, _), (8, _), (9, _)]) ⟨rfl, rfl, rfl, rfl, rfl, trivial⟩ ?_
 refine QM.then ?_
 refine wpM.seq ?_
 refine wpM.condD rfl (fun h1 => ?_) (fun h1 => ?_)
 ·
  refine wpM.skip ?_
  refine QM.then ?_
  refine wpM.seq ?_
  refine wpM.block ?_
  refine wpM.seq ?_
  refine wpM.region ?_
  refine LM.val (ov_move rfl) ?_
  refine LM.val (ov_assign rfl) ?_
  refine LM.nil ?_
  refine QM.sub (e' := [(0, _), (1, _), (5, _), (7, _), (8, _)]) ⟨rfl, rfl, rfl, rfl, rfl, trivial⟩ ?_
  refine QM.then ?_
  refine wpM.seq ?_
  refine wpM.region ?_
  refine LM.val (ov_move rfl) ?_
  refine LM.val (ov_move rfl) ?_
  refine LM.val (ov_move rfl) ?_
  refine LM.val (ov_idxSN (by first | exact Sr.spt (by assumption) | exact Sl.spt (by assumption)) Tryz.underlying26 Tryz.sizeOf3 rfl rfl (by omega)) ?_
  first | refine LM.rd (om_sl1 (by assumption) (by intro _; rfl) Tryz.isAgg3 rfl rfl (by exact getq 0 (by first | omega | (simp only [List.length_set, List.length_append, List.length_cons, List.length_nil]; omega))) (by rfl)) ?_ | refine LM.rdC (om_sr1 (by assumption) Tryz.isAgg3 rfl rfl (by exact getq 0 (by first | omega | (simp only [List.length_set, List.length_append, List.length_cons, List.length_nil]; omega))) (by rfl) id) ?_ | refine LM.rd (om_ld Tryz.isAgg3 rfl rfl) ?_
  refine LM.val (ov_eql rfl rfl) ?_
  refine LM.nil ?_
  refine QM.sub (e' := [(0, _), (1, _), (5, _), (7, _), (8, _), (16, _)]) ⟨rfl, rfl, rfl, rfl, rfl, rfl, trivial⟩ ?_
  refine QM.then ?_
  refine wpM.condD rfl (fun h2 => ?_) (fun h2 => ?_)
  ·
   refine wpM.seq ?_
   refine wpM.region ?_
   refine LM.val (ov_move rfl) ?_
   refine LM.val (ov_assign rfl) ?_
   refine LM.nil ?_
   refine QM.sub (e' := [(4, _)]) ⟨rfl, trivial⟩ ?_
   refine QM.then ?_
   refine wpM.ret ?_
   refine QM.block_ret ?_
   refine QM.then_ret ?_
   refine QM.then_ret ?_
   refine QM.block_ret ?_
   refine QM.then_ret ?_
   refine QM.leave (.inl rfl) [.tmp 4] Tryz.results170 rfl ?_
   intro w' hm' hc' hg'
   exact ⟨by show Value.int .i64 _ = _; rw [fix_hit 0 ha (by omega) (decide_eq_true h2)], hc'⟩
  ·
   refine wpM.skip ?_
   refine QM.block_normal ?_
   refine QM.then ?_
   refine wpM.region ?_
   refine LM.val (ov_add64 rfl rfl (by omega)) ?_
   refine LM.val (ov_move rfl) ?_
   refine LM.nil ?_
   refine QM.sub (e' := [(0, _), (1, _), (7, _), (8, _)]) ⟨rfl, rfl, rfl, rfl, trivial⟩ ?_
   refine QM.againK (i + 1) ⟨(by first | rfl | exact lk rfl (by congr 1; omega) | exact lk rfl (by simp)), rfl, rfl, rfl, trivial⟩ (by (repeat' (first | exact SubM.nil _ | refine SubM.cons rfl ?_ | refine SubM.app ?_))) (fun _ h => h) ?_ ?_
   · exact ⟨by omega, by rw [any_snoc 0 (by omega), ha, Bool.false_or]; exact decide_eq_false h2⟩
   · omega
 ·
  refine wpM.exit ?_
  refine QM.then_exit ?_
  refine QM.then_exit ?_
  refine QM.block_hit ?_
  refine QM.then ?_
  refine wpM.seq ?_
  refine wpM.region ?_
  refine LM.val (ov_assign rfl) ?_
  refine LM.nil ?_
  refine QM.sub (e' := [(4, _)]) ⟨rfl, trivial⟩ ?_
  refine QM.then ?_
  refine wpM.ret ?_
  refine QM.leave (.inl rfl) [.tmp 4] Tryz.results170 rfl ?_
  intro w' hm' hc' hg'
  have hil : i = xs.length := (by omega); subst hil; rw [List.take_length] at ha; exact ⟨by show Value.int .i64 _ = _; rw [fix_miss ha], hc'⟩

set_option maxRecDepth 100000 in
theorem contains_int {xs : List Int} {ad : Option Addr} {n cap : Nat} (x : Int) (w : World) (hn : n = xs.length) (hl : Sr fI 1 xs (.slice ad n cap) w) (hx : xs.length ≤ 1000) : Ret Tryz.prog 154 #[.slice ad n cap, .int .i64 x] w (fun v w' => v = .bool (xs.any (fun y => decide (x = y))) ∧ Ext w w') := by
 refine Ret.enterM (l := [.slice ad n cap, .int .i64 x]) Tryz.func154 rfl Tryz.ntmps154 rfl ([]) (no) (Mem.nil w) ?_
 refine wpM.seq ?_
 refine wpM.region ?_
 refine LM.val (ov_assign rfl) ?_
 refine LM.nil ?_
 refine QM.sub (e' := [(0, _), (1, _)]) ⟨rfl, rfl, trivial⟩ ?_
 refine QM.then ?_
 refine wpM.seq ?_
 refine wpM.region ?_
 refine LM.val (ov_move rfl) ?_
 refine LM.val (ov_move rfl) ?_
 refine LM.callE (oc_call (enters_fn Tryz.func170 (by kernel_rfl) rfl) rfl) (fun w hm hc hg => index_int x w hn (hl.ext hc) hx) ?_
 refine LM.val (ov_geq rfl rfl) ?_
 refine LM.val (ov_assign rfl) ?_
 refine LM.nil ?_
 refine QM.sub (e' := [(4, _)]) ⟨rfl, trivial⟩ ?_
 refine QM.then ?_
 refine wpM.ret ?_
 refine QM.leave (.inl rfl) [.tmp 4] Tryz.results154 rfl ?_
 intro w' hm' hc' hg'
 exact ⟨by show Value.bool _ = _; rw [← fix_pos], hc'⟩

set_option maxRecDepth 100000 in
theorem takes_spec (k : Int) (w : World) : Ret Tryz.prog 151 #[.int .i64 k] w (fun v w' => v = .bool (takesB k) ∧ Ext w w') := by
 refine Ret.enterM (l := [.int .i64 k]) Tryz.func151 rfl Tryz.ntmps151 rfl ([]) (no) (Mem.nil w) ?_
 refine wpM.seq ?_
 refine wpM.region ?_
 refine LM.val (ov_assign rfl) ?_
 refine LM.nil ?_
 refine QM.sub (e' := [(0, _)]) ⟨rfl, trivial⟩ ?_
 refine QM.then ?_
 refine wpM.seq ?_
 refine wpM.region ?_
 refine LM.row (vs := [_, _, _, _]) Tryz.underlying26 Tryz.sizeOf3 Tryz.zeroValue3 rfl rfl rfl rfl rfl rfl (fun b3 hb3 => ?_)
 refine LM.val (ov_move rfl) ?_
 refine LM.callE (oc_call (enters_fn Tryz.func154 (by kernel_rfl) rfl) rfl) (fun w hm hc hg => contains_int (xs := [2, 3, 4, 5]) k w rfl (row_sr 4 (hm.at b3) rfl rfl (fun _ => rfl)) (by decide)) ?_
 refine LM.val (ov_assign rfl) ?_
 refine LM.nil ?_
 refine QM.sub (e' := [(2, _)]) ⟨rfl, trivial⟩ ?_
 refine QM.then ?_
 refine wpM.ret ?_
 refine QM.leave (.inl rfl) [.tmp 2] Tryz.results151 rfl ?_
 intro w' hm' hc' hg'
 exact ⟨by show Value.bool _ = _; rw [takes_row], hc'⟩

set_option maxRecDepth 100000 in
theorem passes_spec (o : COp) (w : World) : Ret Tryz.prog 132 #[.agg (fO o).toArray] w (fun v w' => v = .bool (passB o.k) ∧ Ext w w') := by
 refine Ret.enterM (l := [.agg (fO o).toArray]) Tryz.func132 rfl Tryz.ntmps132 rfl ([]) (no) (Mem.nil w) ?_
 refine wpM.seq ?_
 refine wpM.region ?_
 refine LM.box rfl rfl (fun b1 hb1 => ?_)
 refine LM.val (ov_assign rfl) ?_
 refine LM.nil ?_
 refine QM.sub (e' := [(1, _)]) ⟨rfl, trivial⟩ ?_
 refine QM.then ?_
 refine wpM.seq ?_
 refine wpM.region ?_
 refine LM.row (vs := [_, _, _, _]) Tryz.underlying26 Tryz.sizeOf3 Tryz.zeroValue3 rfl rfl rfl rfl rfl rfl (fun b3 hb3 => ?_)
 refine LM.val (ov_field Tryz.underlying135 rfl Tryz.sizeOf3 rfl (k := 0) rfl rfl) ?_
 first | refine LM.rd (om_ld Tryz.isAgg3 rfl rfl) ?_
 refine LM.callE (oc_call (enters_fn Tryz.func154 (by kernel_rfl) rfl) rfl) (fun w hm hc hg => contains_int (xs := [1, 7, 8, 11]) o.k w rfl (row_sr 4 (hm.at b3) rfl rfl (fun _ => rfl)) (by decide)) ?_
 refine LM.val (ov_assign rfl) ?_
 refine LM.nil ?_
 refine QM.sub (e' := [(2, _)]) ⟨rfl, trivial⟩ ?_
 refine QM.then ?_
 refine wpM.ret ?_
 refine QM.leave (.inl rfl) [.tmp 2] Tryz.results132 rfl ?_
 intro w' hm' hc' hg'
 exact ⟨by show Value.bool _ = _; rw [pass_row], hc'⟩

set_option maxRecDepth 100000 in
theorem ixf_pass {xs : List COp} {ad : Option Addr} {n cap : Nat} (w : World) (hn : n = xs.length) (hl : Sr fO 3 xs (.slice ad n cap) w) (hx : xs.length ≤ 1000000) : Ret Tryz.prog 153 #[.slice ad n cap, .func (.func 132) #[] #[]] w (fun v w' => v = .int .i64 (fixI (fun o => passB o.k) xs) ∧ Ext w w') := by
 refine Ret.enterM (l := [.slice ad n cap, .func (.func 132) #[] #[]]) Tryz.func153 rfl Tryz.ntmps153 rfl ([]) (no) (Mem.nil w) ?_
 refine wpM.seq ?_
 refine wpM.region ?_
 refine LM.val (ov_assign rfl) ?_
 refine LM.nil ?_
 refine QM.sub (e' := [(0, _), (1, _)]) ⟨rfl, rfl, trivial⟩ ?_
 refine QM.then ?_
 refine wpM.seq ?_
 refine wpM.seq ?_
 refine wpM.region ?_
 refine LM.val (ov_move rfl) ?_
 refine LM.val (ov_len Tryz.underlying85 rfl) ?_
 refine LM.val (ov_move rfl) ?_
 refine LM.nil ?_
 refine QM.sub (e' := [(0, _), (1, _), (7, _), (8, _)]) ⟨rfl, rfl, rfl, rfl, trivial⟩ ?_
 refine QM.then ?_
 refine wpM.block ?_
 refine wpM.loopK0 (α := Nat) (fun i => [(8, .int .i64 (i : Nat))]) [(0, _), (1, _), (7, _)] (fun i => []) (fun i => i ≤ xs.length ∧ (xs.take i).any (fun o => passB o.k) = false) (fun i => xs.length - i) (0) ⟨(by first | rfl | exact lk rfl (by congr 1; omega) | exact lk rfl (by simp)), rfl, rfl, rfl, trivial⟩ (by (repeat' (first | exact SubM.nil _ | refine SubM.cons rfl ?_ | refine SubM.app ?_))) ⟨Nat.zero_le _, rfl⟩ ?_
 rintro i ⟨hi, ha⟩
 change wpM _ _ _ _ _ _ _ ([]) _ _ _
 refine wpM.seq ?_
 refine wpM.region ?_
 refine LM.val (ov_lss rfl rfl) ?_
 refine LM.nil ?_
 refine QM.sub (e' := [(0, _), (1, _), (7, _), (8, _), (9, _)]) ⟨rfl, rfl, rfl, rfl, rfl, trivial⟩ ?_
 refine QM.then ?_
 refine wpM.seq ?_
 refine wpM.condD rfl (fun h1 => ?_) (fun h1 => ?_)
 ·
  refine wpM.skip ?_
  refine QM.then ?_
  refine wpM.seq ?_
  refine wpM.block ?_
  refine wpM.seq ?_
  refine wpM.region ?_
  refine LM.val (ov_move rfl) ?_
  refine LM.val (ov_assign rfl) ?_
  refine LM.nil ?_
  refine QM.sub (e' := [(0, _), (1, _), (5, _), (7, _), (8, _)]) ⟨rfl, rfl, rfl, rfl, rfl, trivial⟩ ?_
  refine QM.then ?_
  refine wpM.seq ?_
  refine wpM.region ?_
  refine LM.val (ov_move rfl) ?_
  refine LM.val (ov_move rfl) ?_
  refine LM.val (ov_move rfl) ?_
  refine LM.val (ov_idxSN (by first | exact Sr.spt (by assumption) | exact Sl.spt (by assumption)) Tryz.underlying85 Tryz.sizeOf135 rfl rfl (by omega)) ?_
  first | refine LM.rd (om_slA (by assumption) (by intro _; rfl) Tryz.isAgg135 Tryz.sizeOf135 rfl (by exact getq default (by first | omega | (simp only [List.length_set, List.length_append, List.length_cons, List.length_nil]; omega)))) ?_ | refine LM.rdC (om_srEA (by assumption) (by intro _; rfl) Tryz.isAgg135 Tryz.sizeOf135 rfl (by exact getq default (by first | omega | (simp only [List.length_set, List.length_append, List.length_cons, List.length_nil]; omega))) id) ?_ | refine LM.rd (om_ldW Tryz.isAgg135 Tryz.sizeOf135 rfl rfl) ?_ | refine LM.rd (om_ldA Tryz.isAgg135 Tryz.sizeOf135 rfl (vs := [_, _, _]) rfl ⟨rfl, rfl, rfl, trivial⟩) ?_
  refine LM.callE (oc_callV rfl (enters_fn Tryz.func132 (by kernel_rfl) rfl) rfl) (fun w hm hc hg => passes_spec _ w) ?_
  refine LM.nil ?_
  refine QM.sub (e' := [(0, _), (1, _), (5, _), (7, _), (8, _), (16, _)]) ⟨rfl, rfl, rfl, rfl, rfl, rfl, trivial⟩ ?_
  refine QM.then ?_
  first | refine wpM.condD rfl (fun h2 => ?_) (fun h2 => ?_) | refine wpM.condB rfl (fun h2 => ?_) (fun h2 => ?_)
  ·
   refine wpM.seq ?_
   refine wpM.region ?_
   refine LM.val (ov_move rfl) ?_
   refine LM.val (ov_assign rfl) ?_
   refine LM.nil ?_
   refine QM.sub (e' := [(4, _)]) ⟨rfl, trivial⟩ ?_
   refine QM.then ?_
   refine wpM.ret ?_
   refine QM.block_ret ?_
   refine QM.then_ret ?_
   refine QM.then_ret ?_
   refine QM.block_ret ?_
   refine QM.then_ret ?_
   refine QM.leave (.inl rfl) [.tmp 4] Tryz.results153 rfl ?_
   intro w' hm' hc' hg'
   exact ⟨by show Value.int .i64 _ = _; rw [fix_hit default ha (by omega) (by simpa using h2)], hc'⟩
  ·
   refine wpM.skip ?_
   refine QM.block_normal ?_
   refine QM.then ?_
   refine wpM.region ?_
   refine LM.val (ov_add64 rfl rfl (by omega)) ?_
   refine LM.val (ov_move rfl) ?_
   refine LM.nil ?_
   refine QM.sub (e' := [(0, _), (1, _), (7, _), (8, _)]) ⟨rfl, rfl, rfl, rfl, trivial⟩ ?_
   refine QM.againK (i + 1) ⟨(by first | rfl | exact lk rfl (by congr 1; omega) | exact lk rfl (by simp)), rfl, rfl, rfl, trivial⟩ (by (repeat' (first | exact SubM.nil _ | refine SubM.cons rfl ?_ | refine SubM.app ?_))) (fun _ h => h) ?_ ?_
   · exact ⟨by omega, by rw [any_snoc default (by omega), ha, Bool.false_or]; simpa using h2⟩
   · omega
 ·
  refine wpM.exit ?_
  refine QM.then_exit ?_
  refine QM.then_exit ?_
  refine QM.block_hit ?_
  refine QM.then ?_
  refine wpM.seq ?_
  refine wpM.region ?_
  refine LM.val (ov_assign rfl) ?_
  refine LM.nil ?_
  refine QM.sub (e' := [(4, _)]) ⟨rfl, trivial⟩ ?_
  refine QM.then ?_
  refine wpM.ret ?_
  refine QM.leave (.inl rfl) [.tmp 4] Tryz.results153 rfl ?_
  intro w' hm' hc' hg'
  have hil : i = xs.length := (by omega); subst hil; rw [List.take_length] at ha; exact ⟨by show Value.int .i64 _ = _; rw [fix_miss ha], hc'⟩

set_option maxRecDepth 100000 in
theorem cof_pass {xs : List COp} {ad : Option Addr} {n cap : Nat} (w : World) (hn : n = xs.length) (hl : Sr fO 3 xs (.slice ad n cap) w) (hx : xs.length ≤ 1000000) : Ret Tryz.prog 131 #[.slice ad n cap, .func (.func 132) #[] #[]] w (fun v w' => v = .bool (xs.any (fun o => passB o.k)) ∧ Ext w w') := by
 refine Ret.enterM (l := [.slice ad n cap, .func (.func 132) #[] #[]]) Tryz.func131 rfl Tryz.ntmps131 rfl ([]) (no) (Mem.nil w) ?_
 refine wpM.seq ?_
 refine wpM.region ?_
 refine LM.val (ov_assign rfl) ?_
 refine LM.nil ?_
 refine QM.sub (e' := [(0, _), (1, _)]) ⟨rfl, rfl, trivial⟩ ?_
 refine QM.then ?_
 refine wpM.seq ?_
 refine wpM.region ?_
 refine LM.val (ov_move rfl) ?_
 refine LM.val (ov_move rfl) ?_
 refine LM.callE (oc_call (enters_fn Tryz.func153 (by kernel_rfl) rfl) rfl) (fun w hm hc hg => ixf_pass w hn (hl.ext hc) hx) ?_
 refine LM.val (ov_geq rfl rfl) ?_
 refine LM.val (ov_assign rfl) ?_
 refine LM.nil ?_
 refine QM.sub (e' := [(4, _)]) ⟨rfl, trivial⟩ ?_
 refine QM.then ?_
 refine wpM.ret ?_
 refine QM.leave (.inl rfl) [.tmp 4] Tryz.results131 rfl ?_
 intro w' hm' hc' hg'
 exact ⟨by show Value.bool _ = _; rw [← fix_pos], hc'⟩

set_option maxRecDepth 100000 in
theorem rtakes_spec (o : COp) (w : World) : Ret Tryz.prog 91 #[.agg (fO o).toArray] w (fun v w' => v = .bool (takesB o.k) ∧ Ext w w') := by
 refine Ret.enterM (l := [.agg (fO o).toArray]) Tryz.func91 rfl Tryz.ntmps91 rfl ([]) (no) (Mem.nil w) ?_
 refine wpM.seq ?_
 refine wpM.region ?_
 refine LM.box rfl rfl (fun b1 hb1 => ?_)
 refine LM.val (ov_assign rfl) ?_
 refine LM.nil ?_
 refine QM.sub (e' := [(1, _)]) ⟨rfl, trivial⟩ ?_
 refine QM.then ?_
 refine wpM.seq ?_
 refine wpM.region ?_
 refine LM.val (ov_field Tryz.underlying135 rfl Tryz.sizeOf3 rfl (k := 0) rfl rfl) ?_
 first | refine LM.rd (om_ld Tryz.isAgg3 rfl rfl) ?_
 refine LM.val (ov_geq rfl rfl) ?_
 refine LM.val (ov_move rfl) ?_
 refine LM.splitD (t := 6) rfl (fun h1 => ?_) (fun h1 => ?_)
 ·
  refine LM.strip (t := 6) rfl rfl rfl ?_
  refine LM.val (ov_field Tryz.underlying135 rfl Tryz.sizeOf3 rfl (k := 0) rfl rfl) ?_
  refine LM.strip (t := 6) rfl rfl rfl ?_
  first | refine LM.rd (om_ld Tryz.isAgg3 rfl rfl) ?_
  refine LM.strip (t := 6) rfl rfl rfl ?_
  refine LM.val (ov_leq rfl rfl) ?_
  refine LM.val (ov_pickT rfl rfl) ?_
  refine LM.val (ov_assign rfl) ?_
  refine LM.nil ?_
  refine QM.sub (e' := [(2, _)]) ⟨rfl, trivial⟩ ?_
  refine QM.then ?_
  refine wpM.ret ?_
  refine QM.leave (.inl rfl) [.tmp 2] Tryz.results91 rfl ?_
  intro w' hm' hc' hg'
  refine ⟨?_, hc'⟩; simp only [resV, takesB]; congr 1; first | (rw [decide_eq_false (show ¬ 2 ≤ o.k by omega)]; rfl) | (rw [decide_eq_true (show 2 ≤ o.k by omega)]; rfl)
 ·
  refine LM.drop (t := 6) rfl rfl rfl ?_
  refine LM.drop (t := 6) rfl rfl rfl ?_
  refine LM.drop (t := 6) rfl rfl rfl ?_
  refine LM.val (ov_pickF rfl rfl) ?_
  refine LM.val (ov_assign rfl) ?_
  refine LM.nil ?_
  refine QM.sub (e' := [(2, _)]) ⟨rfl, trivial⟩ ?_
  refine QM.then ?_
  refine wpM.ret ?_
  refine QM.leave (.inl rfl) [.tmp 2] Tryz.results91 rfl ?_
  intro w' hm' hc' hg'
  refine ⟨?_, hc'⟩; simp only [resV, takesB]; congr 1; first | (rw [decide_eq_false (show ¬ 2 ≤ o.k by omega)]; rfl) | (rw [decide_eq_true (show 2 ≤ o.k by omega)]; rfl)

end Go.Eng
set_option linter.unusedVariables false
set_option linter.unusedSimpArgs false
namespace Go.Eng
open Go Go.Proofs Go.RowKit

theorem smallO.drop {xs : List COp} (h : smallO xs) (k : Nat) : smallO (xs.drop k) := ⟨by rw [List.length_drop]; have := h.1; omega, fun o ho => h.2 o (List.mem_of_mem_drop ho)⟩
theorem getD_drop {xs : List COp} {i j : Nat} : (xs.drop i).getD j default = xs.getD (i + j) default := by rw [List.getD_eq_getElem?_getD, List.getElem?_drop, ← List.getD_eq_getElem?_getD]
abbrev sV (i to lock ticks : Int) : Value := .agg #[.int .i64 i, .int .i64 to, .int .i64 lock, .int .i64 ticks]
abbrev sBc (b : Nat) (i to lock ticks : Int) : Nat × Obj := (b, .cells #[.int .i64 i, .int .i64 to, .int .i64 lock, .int .i64 ticks] 140 (0, 0))
abbrev oB (b : Nat) (o : COp) : Nat × Obj := (b, .cells (fO o).toArray 135 (0, 0))
theorem stop_no {lock : Int} {o : COp} (h1 : ¬ o.k = 11) (h2 : ¬ (o.k = 6 ∧ o.a = lock)) : stopB lock o = false := by
  unfold stopB; rw [decide_eq_false h1]
  by_cases h : o.k = 6
  · rw [decide_eq_false (fun q => h2 ⟨h, q⟩)]; simp
  · rw [decide_eq_false h]; rfl
theorem stop_11 {lock : Int} {o : COp} (h1 : o.k = 11) : stopB lock o = true := by unfold stopB; rw [decide_eq_true h1]; rfl
theorem stop_6 {lock : Int} {o : COp} (h1 : o.k = 6) (h2 : o.a = lock) : stopB lock o = true := by unfold stopB; rw [decide_eq_true h1, decide_eq_true h2]; simp
/-- what is known between the steps of a section -/
def SecI (lock : Int) (ys : List COp) (j : Nat) (acc : Int) : Prop :=
  j ≤ ys.length ∧ (secT lock ys).1 = j + (secT lock (ys.drop j)).1 ∧ (secT lock ys).2 = acc + (secT lock (ys.drop j)).2 ∧ -((j : Int) * 1125899906842624) ≤ acc ∧ acc ≤ (j : Int) * 1125899906842624
theorem SecI.zero (lock : Int) (ys : List COp) : SecI lock ys 0 0 := ⟨Nat.zero_le _, by simp, by simp, by simp, by simp⟩
theorem SecI.step {lock : Int} {ys : List COp} {j : Nat} {acc acc' : Int} (h : SecI lock ys j acc) (hs : smallO ys) (hj : j < ys.length) (hn : stopB lock (ys.getD j default) = false) (ha : acc' = acc + if (ys.getD j default).k = 1 then (ys.getD j default).a else 0) : SecI lock ys (j + 1) acc' := by
  obtain ⟨h1, h2, h3, h4, h5⟩ := h
  have e := sec_step hj hn
  have hb := hs.at j
  rw [e] at h2 h3
  dsimp only at h2 h3
  have : ((j + 1 : Nat) : Int) * 1125899906842624 = (j : Int) * 1125899906842624 + 1125899906842624 := by push_cast; omega
  refine ⟨by omega, by omega, by rw [ha]; omega, ?_, ?_⟩ <;> rw [this, ha] <;> split <;> omega
theorem SecI.stop {lock : Int} {ys : List COp} {j : Nat} {acc : Int} (h : SecI lock ys j acc) (hj : j < ys.length) (hn : stopB lock (ys.getD j default) = true) : secT lock ys = (j, acc) := by
  obtain ⟨h1, h2, h3, h4, h5⟩ := h
  rw [sec_stop hj hn] at h2 h3
  exact Prod.ext (by simpa using h2) (by simpa using h3)
theorem SecI.fin {lock : Int} {ys : List COp} {j : Nat} {acc : Int} (h : SecI lock ys j acc) (hj : ys.length ≤ j) : secT lock ys = (ys.length, acc) := by
  obtain ⟨h1, h2, h3, h4, h5⟩ := h
  rw [sec_end hj] at h2 h3
  exact Prod.ext (by dsimp only at h2 ⊢; omega) (by simpa using h3)
set_option maxRecDepth 100000 in
theorem section_spec {xs : List COp} {fv : Bool} {ad : Option Addr} {n cap : Nat} (i : Nat) (w : World) (hn : n = xs.length) (hl : Sr fO 3 xs (.slice ad n cap) w) (hs : smallO xs) (hi : i < xs.length) : Ret Tryz.prog 152 #[pV fv ad n cap, .int .i64 (i : Nat)] w (fun v w' => v = secV xs i ∧ Ext w w') := by
 have hx20 := hs.1; have hld := hl.drop (l := i + 1) (by omega); have hsy := hs.drop (i + 1); obtain ⟨ys, hys⟩ : ∃ ys, xs.drop (i + 1) = ys := ⟨_, rfl⟩; have hyl : ys.length = xs.length - (i + 1) := (by rw [← hys, List.length_drop]); have hsec : secO xs i = secT (xs.getD i default).a ys := (by unfold secO; rw [hys]); rw [hys] at hld hsy; simp only [secV, hsec]
 refine Ret.enterM (l := [pV fv ad n cap, .int .i64 (i : Nat)]) Tryz.func152 rfl Tryz.ntmps152 rfl ([]) (no) (Mem.nil w) ?_
 refine wpM.seq ?_
 refine wpM.region ?_
 refine LM.box rfl rfl (fun b2 hb2 => ?_)
 refine LM.alloc Tryz.zeroValue140 rfl (fun b4 hb4 => ?_)
 refine LM.nil ?_
 refine QM.sub (e' := [(1, _), (2, _), (4, _)]) ⟨rfl, rfl, rfl, trivial⟩ ?_
 refine QM.then ?_
 refine wpM.seq ?_
 refine wpM.draw [(0, 0), (1, 0), (2, 1), (3, 0), (4, 0), (5, 1), (6, 0), (7, 0), (8, 0), (9, 1), (10, 0), (11, 2), (12, 3)] (by kernel_rfl) (by kernel_rfl) ?_
 refine LD.val rfl rfl (ov_move rfl) ?_
 refine LD.val rfl rfl (ov_field Tryz.underlying87 rfl Tryz.sizeOf85 rfl (k := 1) rfl rfl) ?_
 first | refine LD.rd rfl rfl (om_ld Tryz.isAgg85 rfl rfl) ?_
 refine LD.val rfl rfl (ov_len Tryz.underlying85 rfl) ?_
 refine LD.val rfl rfl (ov_field Tryz.underlying87 rfl Tryz.sizeOf85 rfl (k := 1) rfl rfl) ?_
 first | refine LD.rd rfl rfl (om_ld Tryz.isAgg85 rfl rfl) ?_
 refine LD.val rfl rfl (ov_move rfl) ?_
 refine LD.val rfl rfl (ov_idxSN (by first | exact Sr.spt (by assumption) | exact Sl.spt (by assumption)) Tryz.underlying85 Tryz.sizeOf135 rfl rfl (by omega)) ?_
 refine LD.val rfl rfl (ov_field Tryz.underlying135 rfl Tryz.sizeOf3 rfl (k := 1) rfl rfl) ?_
 first | refine LD.rd rfl rfl (om_slE (j := 1) (by assumption) (by intro _; rfl) Tryz.isAgg3 rfl rfl (by exact getq default (by first | omega | (simp only [List.length_set, List.length_append, List.length_cons, List.length_nil]; omega))) rfl (by rfl)) ?_ | refine LD.rdC rfl rfl (om_srE (j := 1) (by assumption) Tryz.isAgg3 rfl rfl (by exact getq default (by first | omega | (simp only [List.length_set, List.length_append, List.length_cons, List.length_nil]; omega))) (by rfl) (by rfl) id) ?_ | refine LD.rd rfl rfl (om_ld Tryz.isAgg3 rfl rfl) ?_
 refine LD.val rfl rfl (ov_build (cs := #[_, _, _, _]) rfl (by first | rfl | kernel_rfl)) ?_
 refine LD.alloc rfl rfl Tryz.zeroValue140 rfl (fun b5 hb5 => ?_)
 refine LD.tail rfl rfl ?_
 refine LM.stW Tryz.sizeOf140 rfl rfl rfl rfl (by first | rfl | decide | (simp; done)) (fun hlt => absurd hlt (by omega)) ?_
 refine LM.nil ?_
 refine QM.qn ?_
 refine QM.sub (e' := [(1, _), (2, _), (4, _), (5, _)]) ⟨rfl, rfl, rfl, rfl, trivial⟩ ?_
 refine QM.then ?_
 refine wpM.seq ?_
 refine wpM.seq ?_
 refine wpM.region ?_
 refine LM.val (ov_field Tryz.underlying87 rfl Tryz.sizeOf85 rfl (k := 1) rfl rfl) ?_
 first | refine LM.rd (om_ld Tryz.isAgg85 rfl rfl) ?_
 refine LM.val (ov_move rfl) ?_
 refine LM.val (ov_add64 rfl rfl (by omega)) ?_
 refine LM.val (ov_subLo (i + 1) Tryz.underlying85 Tryz.sizeOf135 rfl rfl (by omega) (by omega)) ?_
 refine LM.val (ov_len Tryz.underlying85 rfl) ?_
 refine LM.val (ov_move rfl) ?_
 refine LM.nil ?_
 refine QM.sub (e' := [(1, _), (4, _), (5, _), (23, _), (24, _), (25, _)]) ⟨rfl, rfl, rfl, rfl, rfl, rfl, trivial⟩ ?_
 refine QM.then ?_
 refine wpM.block ?_
 refine wpM.loopK0 (α := Nat × Int) (fun ⟨j, acc⟩ => [(25, .int .i64 (j : Nat))]) [(1, _), (4, _), (5, _), (23, _), (24, _)] (fun ⟨j, acc⟩ => sBc b5 (i : Nat) n (xs.getD i default).a acc :: sBc b4 0 0 0 0 :: pB b2 fv ad n cap :: []) (fun ⟨j, acc⟩ => SecI (xs.getD i default).a ys j acc) (fun ⟨j, acc⟩ => ys.length - j) ((0, 0)) ⟨(by first | rfl | exact lk rfl (by congr 1; omega) | exact lk rfl (by simp)), rfl, rfl, rfl, rfl, rfl, trivial⟩ (by (repeat' (first | exact SubM.nil _ | refine SubM.cons rfl ?_ | refine SubM.app ?_))) (SecI.zero _ ys) ?_
 rintro ⟨j, acc⟩ hI
 change wpM _ _ _ _ _ _ _ (sBc b5 (i : Nat) n (xs.getD i default).a acc :: sBc b4 0 0 0 0 :: pB b2 fv ad n cap :: []) _ _ _
 have hj := hI.1; have hb := hsy.at j; obtain ⟨-, -, -, hb1, hb2⟩ := id hI
 refine wpM.seq ?_
 refine wpM.region ?_
 refine LM.val (ov_lss rfl rfl) ?_
 refine LM.nil ?_
 refine QM.sub (e' := [(1, _), (4, _), (5, _), (23, _), (24, _), (25, _), (26, _)]) ⟨rfl, rfl, rfl, rfl, rfl, rfl, rfl, trivial⟩ ?_
 refine QM.then ?_
 refine wpM.seq ?_
 refine wpM.condD rfl (fun h1 => ?_) (fun h1 => ?_)
 ·
  refine wpM.skip ?_
  refine QM.then ?_
  refine wpM.seq ?_
  refine wpM.block ?_
  refine wpM.seq ?_
  refine wpM.region ?_
  refine LM.val (ov_move rfl) ?_
  refine LM.val (ov_idxSN (by first | exact Sr.spt (by assumption) | exact Sl.spt (by assumption)) Tryz.underlying85 Tryz.sizeOf135 rfl rfl (by omega)) ?_
  first | refine LM.rd (om_slA (by assumption) (by intro _; rfl) Tryz.isAgg135 Tryz.sizeOf135 rfl (by exact getq default (by first | omega | (simp only [List.length_set, List.length_append, List.length_cons, List.length_nil]; omega)))) ?_ | refine LM.rdC (om_srEA (by assumption) (by intro _; rfl) Tryz.isAgg135 Tryz.sizeOf135 rfl (by exact getq default (by first | omega | (simp only [List.length_set, List.length_append, List.length_cons, List.length_nil]; omega))) id) ?_ | refine LM.rd (om_ldW Tryz.isAgg135 Tryz.sizeOf135 rfl rfl) ?_ | refine LM.rd (om_ldA Tryz.isAgg135 Tryz.sizeOf135 rfl (vs := [_, _, _]) rfl ⟨rfl, rfl, rfl, trivial⟩) ?_
  refine LM.alloc Tryz.zeroValue135 rfl (fun b7 hb7 => ?_)
  refine LM.val (ov_assign rfl) ?_
  refine LM.stW Tryz.sizeOf135 rfl rfl rfl rfl (by first | rfl | decide | (simp; done)) (fun hlt => absurd hlt (by omega)) ?_
  refine LM.nil ?_
  refine QM.sub (e' := [(1, _), (4, _), (5, _), (6, _), (7, _), (23, _), (24, _), (25, _)]) ⟨rfl, rfl, rfl, rfl, rfl, rfl, rfl, rfl, trivial⟩ ?_
  refine QM.then ?_
  refine wpM.block ?_
  refine wpM.seq ?_
  refine wpM.seq ?_
  refine wpM.region ?_
  refine LM.val (ov_field Tryz.underlying135 rfl Tryz.sizeOf3 rfl (k := 0) rfl rfl) ?_
  first | refine LM.rd (om_ld Tryz.isAgg3 rfl rfl) ?_
  refine LM.val (ov_eql rfl rfl) ?_
  refine LM.val (ov_assign rfl) ?_
  refine LM.nil ?_
  refine QM.sub (e' := [(1, _), (4, _), (5, _), (6, _), (7, _), (23, _), (24, _), (25, _), (30, _)]) ⟨rfl, rfl, rfl, rfl, rfl, rfl, rfl, rfl, rfl, trivial⟩ ?_
  refine QM.then ?_
  refine wpM.condXD (t := 30) rfl (fun h2 => ?_) (fun h2 => ?_)
  ·
   refine wpM.skip ?_
   refine QM.then ?_
   refine wpM.condT rfl ?_
   refine wpM.seq ?_
   refine wpM.region ?_
   refine LM.val (ov_move rfl) ?_
   refine LM.val (ov_add64 rfl rfl (by omega)) ?_
   refine LM.val (ov_move rfl) ?_
   refine LM.val (ov_add64 rfl rfl (by omega)) ?_
   refine LM.val (ov_field Tryz.underlying140 rfl Tryz.sizeOf3 rfl (k := 1) rfl rfl) ?_
   refine LM.st Tryz.sizeOf3 rfl rfl rfl (by first | decide | exact Nat.le_of_ble_eq_true rfl | (simp; done) | (simp; omega)) rfl (fun hlt => absurd hlt (by omega)) ?_
   refine LM.nil ?_
   refine QM.sub (e' := [(4, _), (5, _)]) ⟨rfl, rfl, trivial⟩ ?_
   refine QM.then ?_
   refine wpM.seq ?_
   refine wpM.region ?_
   refine LM.rd (om_ldW Tryz.isAgg140 Tryz.sizeOf140 rfl rfl) ?_
   refine LM.stW Tryz.sizeOf140 rfl rfl rfl rfl (by first | rfl | decide | (simp; done)) (fun hlt => absurd hlt (by omega)) ?_
   refine LM.nil ?_
   refine QM.sub (e' := [(4, _)]) ⟨rfl, trivial⟩ ?_
   refine QM.then ?_
   refine wpM.ret ?_
   refine QM.block_ret ?_
   refine QM.block_ret ?_
   refine QM.then_ret ?_
   refine QM.then_ret ?_
   refine QM.block_ret ?_
   refine QM.then_ret ?_
   refine QM.leaveCs (ds := ([])) (.inl rfl) [.cell 4 140] Tryz.results152 hd_nil (rc_w rfl Tryz.isAgg140 Tryz.sizeOf140 rfl rc_nil) ?_
   intro w' hm' hc'
   have hq := hI.stop (by omega) (stop_11 h2); refine ⟨?_, hc'⟩; rw [hq]; show sV _ _ _ _ = _; congr 5
  ·
   refine wpM.region ?_
   refine LM.val (ov_field Tryz.underlying135 rfl Tryz.sizeOf3 rfl (k := 0) rfl rfl) ?_
   first | refine LM.rd (om_ld Tryz.isAgg3 rfl rfl) ?_
   refine LM.val (ov_eql rfl rfl) ?_
   refine LM.val (ov_move rfl) ?_
   refine LM.splitD (t := 37) rfl (fun h3 => ?_) (fun h3 => ?_)
   ·
    refine LM.strip (t := 37) rfl rfl rfl ?_
    refine LM.val (ov_field Tryz.underlying135 rfl Tryz.sizeOf3 rfl (k := 1) rfl rfl) ?_
    refine LM.strip (t := 37) rfl rfl rfl ?_
    first | refine LM.rd (om_ld Tryz.isAgg3 rfl rfl) ?_
    refine LM.strip (t := 37) rfl rfl rfl ?_
    refine LM.val (ov_field Tryz.underlying140 rfl Tryz.sizeOf3 rfl (k := 2) rfl rfl) ?_
    refine LM.strip (t := 37) rfl rfl rfl ?_
    first | refine LM.rd (om_ld Tryz.isAgg3 rfl rfl) ?_
    refine LM.strip (t := 37) rfl rfl rfl ?_
    refine LM.val (ov_eql rfl rfl) ?_
    refine LM.val (ov_pickT rfl rfl) ?_
    refine LM.val (ov_assign rfl) ?_
    refine LM.nil ?_
    refine QM.sub (e' := [(1, _), (4, _), (5, _), (6, _), (7, _), (23, _), (24, _), (25, _), (30, _)]) ⟨rfl, rfl, rfl, rfl, rfl, rfl, rfl, rfl, rfl, trivial⟩ ?_
    refine QM.then ?_
    refine wpM.condD rfl (fun h4 => ?_) (fun h4 => ?_)
    ·
     refine wpM.seq ?_
     refine wpM.region ?_
     refine LM.val (ov_move rfl) ?_
     refine LM.val (ov_add64 rfl rfl (by omega)) ?_
     refine LM.val (ov_move rfl) ?_
     refine LM.val (ov_add64 rfl rfl (by omega)) ?_
     refine LM.val (ov_field Tryz.underlying140 rfl Tryz.sizeOf3 rfl (k := 1) rfl rfl) ?_
     refine LM.st Tryz.sizeOf3 rfl rfl rfl (by first | decide | exact Nat.le_of_ble_eq_true rfl | (simp; done) | (simp; omega)) rfl (fun hlt => absurd hlt (by omega)) ?_
     refine LM.nil ?_
     refine QM.sub (e' := [(4, _), (5, _)]) ⟨rfl, rfl, trivial⟩ ?_
     refine QM.then ?_
     refine wpM.seq ?_
     refine wpM.region ?_
     refine LM.rd (om_ldW Tryz.isAgg140 Tryz.sizeOf140 rfl rfl) ?_
     refine LM.stW Tryz.sizeOf140 rfl rfl rfl rfl (by first | rfl | decide | (simp; done)) (fun hlt => absurd hlt (by omega)) ?_
     refine LM.nil ?_
     refine QM.sub (e' := [(4, _)]) ⟨rfl, trivial⟩ ?_
     refine QM.then ?_
     refine wpM.ret ?_
     refine QM.block_ret ?_
     refine QM.block_ret ?_
     refine QM.then_ret ?_
     refine QM.then_ret ?_
     refine QM.block_ret ?_
     refine QM.then_ret ?_
     refine QM.leaveCs (ds := ([])) (.inl rfl) [.cell 4 140] Tryz.results152 hd_nil (rc_w rfl Tryz.isAgg140 Tryz.sizeOf140 rfl rc_nil) ?_
     intro w' hm' hc'
     have hq := hI.stop (by omega) (stop_6 h3 h4); refine ⟨?_, hc'⟩; rw [hq]; show sV _ _ _ _ = _; congr 5
    ·
     refine wpM.seq ?_
     refine wpM.region ?_
     refine LM.val (ov_field Tryz.underlying135 rfl Tryz.sizeOf3 rfl (k := 0) rfl rfl) ?_
     first | refine LM.rd (om_ld Tryz.isAgg3 rfl rfl) ?_
     refine LM.val (ov_eql rfl rfl) ?_
     refine LM.val (ov_assign rfl) ?_
     refine LM.nil ?_
     refine QM.sub (e' := [(1, _), (4, _), (5, _), (7, _), (23, _), (24, _), (25, _), (50, _)]) ⟨rfl, rfl, rfl, rfl, rfl, rfl, rfl, rfl, trivial⟩ ?_
     refine QM.then ?_
     refine wpM.condD rfl (fun h5 => ?_) (fun h5 => ?_)
     ·
      refine wpM.region ?_
      refine LM.val (ov_field Tryz.underlying140 rfl Tryz.sizeOf3 rfl (k := 3) rfl rfl) ?_
      first | refine LM.rd (om_ld Tryz.isAgg3 rfl rfl) ?_
      refine LM.val (ov_field Tryz.underlying135 rfl Tryz.sizeOf3 rfl (k := 1) rfl rfl) ?_
      first | refine LM.rd (om_ld Tryz.isAgg3 rfl rfl) ?_
      refine LM.val (ov_add64 rfl rfl (by omega)) ?_
      refine LM.val (ov_field Tryz.underlying140 rfl Tryz.sizeOf3 rfl (k := 3) rfl rfl) ?_
      refine LM.st Tryz.sizeOf3 rfl rfl rfl (by first | decide | exact Nat.le_of_ble_eq_true rfl | (simp; done) | (simp; omega)) rfl (fun hlt => absurd hlt (by omega)) ?_
      refine LM.nil ?_
      refine QM.sub (e' := [(1, _), (4, _), (5, _), (23, _), (24, _), (25, _)]) ⟨rfl, rfl, rfl, rfl, rfl, rfl, trivial⟩ ?_
      refine QM.block_normal ?_
      refine QM.block_normal ?_
      refine QM.then ?_
      refine wpM.region ?_
      refine LM.val (ov_add64 rfl rfl (by omega)) ?_
      refine LM.val (ov_move rfl) ?_
      refine LM.nil ?_
      refine QM.sub (e' := [(1, _), (4, _), (5, _), (23, _), (24, _), (25, _)]) ⟨rfl, rfl, rfl, rfl, rfl, rfl, trivial⟩ ?_
      refine QM.againK ((j + 1, acc + (ys.getD j default).a)) ⟨(by first | rfl | exact lk rfl (by congr 1; omega) | exact lk rfl (by simp)), rfl, rfl, rfl, rfl, rfl, trivial⟩ (by (repeat' (first | exact SubM.nil _ | refine SubM.cons rfl ?_ | refine SubM.app ?_))) (fun _ h => h) ?_ ?_
      · exact hI.step hsy (by omega) (stop_no h2 (fun q => by first | exact h4 q.2 | exact h3 q.1)) (by rw [if_pos h5])
      · omega
     ·
      refine wpM.skip ?_
      refine QM.block_normal ?_
      refine QM.block_normal ?_
      refine QM.then ?_
      refine wpM.region ?_
      refine LM.val (ov_add64 rfl rfl (by omega)) ?_
      refine LM.val (ov_move rfl) ?_
      refine LM.nil ?_
      refine QM.sub (e' := [(1, _), (4, _), (5, _), (23, _), (24, _), (25, _)]) ⟨rfl, rfl, rfl, rfl, rfl, rfl, trivial⟩ ?_
      refine QM.againK ((j + 1, acc)) ⟨(by first | rfl | exact lk rfl (by congr 1; omega) | exact lk rfl (by simp)), rfl, rfl, rfl, rfl, rfl, trivial⟩ (by (repeat' (first | exact SubM.nil _ | refine SubM.cons rfl ?_ | refine SubM.app ?_))) (fun _ h => h) ?_ ?_
      · exact hI.step hsy (by omega) (stop_no h2 (fun q => by first | exact h4 q.2 | exact h3 q.1)) (by rw [if_neg h5]; omega)
      · first | omega | (dsimp only; omega)
   ·
    refine LM.drop (t := 37) rfl rfl rfl ?_
    refine LM.drop (t := 37) rfl rfl rfl ?_
    refine LM.drop (t := 37) rfl rfl rfl ?_
    refine LM.drop (t := 37) rfl rfl rfl ?_
    refine LM.drop (t := 37) rfl rfl rfl ?_
    refine LM.val (ov_pickF rfl rfl) ?_
    refine LM.val (ov_assign rfl) ?_
    refine LM.nil ?_
    refine QM.sub (e' := [(1, _), (4, _), (5, _), (6, _), (7, _), (23, _), (24, _), (25, _), (30, _)]) ⟨rfl, rfl, rfl, rfl, rfl, rfl, rfl, rfl, rfl, trivial⟩ ?_
    refine QM.then ?_
    refine wpM.condF rfl ?_
    refine wpM.seq ?_
    refine wpM.region ?_
    refine LM.val (ov_field Tryz.underlying135 rfl Tryz.sizeOf3 rfl (k := 0) rfl rfl) ?_
    first | refine LM.rd (om_ld Tryz.isAgg3 rfl rfl) ?_
    refine LM.val (ov_eql rfl rfl) ?_
    refine LM.val (ov_assign rfl) ?_
    refine LM.nil ?_
    refine QM.sub (e' := [(1, _), (4, _), (5, _), (7, _), (23, _), (24, _), (25, _), (50, _)]) ⟨rfl, rfl, rfl, rfl, rfl, rfl, rfl, rfl, trivial⟩ ?_
    refine QM.then ?_
    refine wpM.condD rfl (fun h6 => ?_) (fun h6 => ?_)
    ·
     refine wpM.region ?_
     refine LM.val (ov_field Tryz.underlying140 rfl Tryz.sizeOf3 rfl (k := 3) rfl rfl) ?_
     first | refine LM.rd (om_ld Tryz.isAgg3 rfl rfl) ?_
     refine LM.val (ov_field Tryz.underlying135 rfl Tryz.sizeOf3 rfl (k := 1) rfl rfl) ?_
     first | refine LM.rd (om_ld Tryz.isAgg3 rfl rfl) ?_
     refine LM.val (ov_add64 rfl rfl (by omega)) ?_
     refine LM.val (ov_field Tryz.underlying140 rfl Tryz.sizeOf3 rfl (k := 3) rfl rfl) ?_
     refine LM.st Tryz.sizeOf3 rfl rfl rfl (by first | decide | exact Nat.le_of_ble_eq_true rfl | (simp; done) | (simp; omega)) rfl (fun hlt => absurd hlt (by omega)) ?_
     refine LM.nil ?_
     refine QM.sub (e' := [(1, _), (4, _), (5, _), (23, _), (24, _), (25, _)]) ⟨rfl, rfl, rfl, rfl, rfl, rfl, trivial⟩ ?_
     refine QM.block_normal ?_
     refine QM.block_normal ?_
     refine QM.then ?_
     refine wpM.region ?_
     refine LM.val (ov_add64 rfl rfl (by omega)) ?_
     refine LM.val (ov_move rfl) ?_
     refine LM.nil ?_
     refine QM.sub (e' := [(1, _), (4, _), (5, _), (23, _), (24, _), (25, _)]) ⟨rfl, rfl, rfl, rfl, rfl, rfl, trivial⟩ ?_
     refine QM.againK ((j + 1, acc + (ys.getD j default).a)) ⟨(by first | rfl | exact lk rfl (by congr 1; omega) | exact lk rfl (by simp)), rfl, rfl, rfl, rfl, rfl, trivial⟩ (by (repeat' (first | exact SubM.nil _ | refine SubM.cons rfl ?_ | refine SubM.app ?_))) (fun _ h => h) ?_ ?_
     · exact hI.step hsy (by omega) (stop_no h2 (fun q => by first | exact h4 q.2 | exact h3 q.1)) (by rw [if_pos h6])
     · first | omega | (dsimp only; omega)
    ·
     refine wpM.skip ?_
     refine QM.block_normal ?_
     refine QM.block_normal ?_
     refine QM.then ?_
     refine wpM.region ?_
     refine LM.val (ov_add64 rfl rfl (by omega)) ?_
     refine LM.val (ov_move rfl) ?_
     refine LM.nil ?_
     refine QM.sub (e' := [(1, _), (4, _), (5, _), (23, _), (24, _), (25, _)]) ⟨rfl, rfl, rfl, rfl, rfl, rfl, trivial⟩ ?_
     refine QM.againK ((j + 1, acc)) ⟨(by first | rfl | exact lk rfl (by congr 1; omega) | exact lk rfl (by simp)), rfl, rfl, rfl, rfl, rfl, trivial⟩ (by (repeat' (first | exact SubM.nil _ | refine SubM.cons rfl ?_ | refine SubM.app ?_))) (fun _ h => h) ?_ ?_
     · exact hI.step hsy (by omega) (stop_no h2 (fun q => by first | exact h4 q.2 | exact h3 q.1)) (by rw [if_neg h6]; omega)
     · first | omega | (dsimp only; omega)
 ·
  refine wpM.exit ?_
  refine QM.then_exit ?_
  refine QM.then_exit ?_
  refine QM.block_hit ?_
  refine QM.then ?_
  refine wpM.seq ?_
  refine wpM.region ?_
  refine LM.rd (om_ldW Tryz.isAgg140 Tryz.sizeOf140 rfl rfl) ?_
  refine LM.stW Tryz.sizeOf140 rfl rfl rfl rfl (by first | rfl | decide | (simp; done)) (fun hlt => absurd hlt (by omega)) ?_
  refine LM.nil ?_
  refine QM.sub (e' := [(4, _)]) ⟨rfl, trivial⟩ ?_
  refine QM.then ?_
  refine wpM.ret ?_
  refine QM.leaveCs (ds := ([])) (.inl rfl) [.cell 4 140] Tryz.results152 hd_nil (rc_w rfl Tryz.isAgg140 Tryz.sizeOf140 rfl rc_nil) ?_
  intro w' hm' hc'
  have hq := hI.fin (by omega); refine ⟨?_, hc'⟩; rw [hq]; show sV _ _ _ _ = _; congr 5; omega

set_option maxRecDepth 100000 in
theorem rsection_spec {xs : List COp} {fv : Bool} {ad : Option Addr} {n cap : Nat} (i : Nat) (w : World) (hn : n = xs.length) (hl : Sr fO 3 xs (.slice ad n cap) w) (hs : smallO xs) (hi : i < xs.length) : Ret Tryz.prog 92 #[pV fv ad n cap, .int .i64 (i : Nat)] w (fun v w' => v = secV xs i ∧ Ext w w') := by
 have hx20 := hs.1; have hsy := hs.drop (i + 1); obtain ⟨ys, hys⟩ : ∃ ys, xs.drop (i + 1) = ys := ⟨_, rfl⟩; have hyl : ys.length = xs.length - (i + 1) := (by rw [← hys, List.length_drop]); have hsec : secO xs i = secT (xs.getD i default).a ys := (by unfold secO; rw [hys]); have hyx : ∀ j, ys.getD j default = xs.getD (i + 1 + j) default := (fun j => by rw [← hys, getD_drop]); rw [hys] at hsy; simp only [secV, hsec]
 refine Ret.enterM (l := [pV fv ad n cap, .int .i64 (i : Nat)]) Tryz.func92 rfl Tryz.ntmps92 rfl ([]) (no) (Mem.nil w) ?_
 refine wpM.seq ?_
 refine wpM.region ?_
 refine LM.box rfl rfl (fun b2 hb2 => ?_)
 refine LM.alloc Tryz.zeroValue140 rfl (fun b4 hb4 => ?_)
 refine LM.nil ?_
 refine QM.sub (e' := [(1, _), (2, _), (4, _)]) ⟨rfl, rfl, rfl, trivial⟩ ?_
 refine QM.then ?_
 refine wpM.seq ?_
 refine wpM.region ?_
 refine LM.val (ov_move rfl) ?_
 refine LM.val (ov_move rfl) ?_
 refine LM.val (ov_add64 rfl rfl (by omega)) ?_
 refine LM.val (ov_field Tryz.underlying87 rfl Tryz.sizeOf85 rfl (k := 1) rfl rfl) ?_
 first | refine LM.rd (om_ld Tryz.isAgg85 rfl rfl) ?_
 refine LM.val (ov_move rfl) ?_
 refine LM.val (ov_idxSN (by first | exact Sr.spt (by assumption) | exact Sl.spt (by assumption)) Tryz.underlying85 Tryz.sizeOf135 rfl rfl (by omega)) ?_
 refine LM.val (ov_field Tryz.underlying135 rfl Tryz.sizeOf3 rfl (k := 1) rfl rfl) ?_
 first | refine LM.rd (om_slE (j := 1) (by assumption) (by intro _; rfl) Tryz.isAgg3 rfl rfl (by exact getq default (by first | omega | (simp only [List.length_set, List.length_append, List.length_cons, List.length_nil]; omega))) rfl (by rfl)) ?_ | refine LM.rdC (om_srE (j := 1) (by assumption) Tryz.isAgg3 rfl rfl (by exact getq default (by first | omega | (simp only [List.length_set, List.length_append, List.length_cons, List.length_nil]; omega))) (by rfl) (by rfl) id) ?_ | refine LM.rd (om_ld Tryz.isAgg3 rfl rfl) ?_
 refine LM.val (ov_build (cs := #[_, _, _, _]) rfl (by first | rfl | kernel_rfl)) ?_
 refine LM.alloc Tryz.zeroValue140 rfl (fun b5 hb5 => ?_)
 refine LM.stW Tryz.sizeOf140 rfl rfl rfl rfl (by first | rfl | decide | (simp; done)) (fun hlt => absurd hlt (by omega)) ?_
 refine LM.nil ?_
 refine QM.sub (e' := [(2, _), (4, _), (5, _)]) ⟨rfl, rfl, rfl, trivial⟩ ?_
 refine QM.then ?_
 refine wpM.seq ?_
 refine wpM.block ?_
 refine wpM.loopK0 (α := Nat × Int × Int) (fun ⟨j, to, acc⟩ => []) [(2, _), (4, _), (5, _)] (fun ⟨j, to, acc⟩ => sBc b5 (i : Nat) to (xs.getD i default).a acc :: sBc b4 0 0 0 0 :: pB b2 fv ad n cap :: []) (fun ⟨j, to, acc⟩ => SecI (xs.getD i default).a ys j acc ∧ to = (i : Int) + 1 + (j : Nat)) (fun ⟨j, to, acc⟩ => ys.length - j) ((0, (i : Int) + 1, 0)) ⟨rfl, rfl, rfl, trivial⟩ (by (repeat' (first | exact SubM.nil _ | refine SubM.cons rfl ?_ | refine SubM.app ?_))) ⟨SecI.zero _ ys, by simp⟩ ?_
 rintro ⟨j, to, acc⟩ ⟨hI, hto⟩
 change wpM _ _ _ _ _ _ _ (sBc b5 (i : Nat) to (xs.getD i default).a acc :: sBc b4 0 0 0 0 :: pB b2 fv ad n cap :: []) _ _ _
 have hj := hI.1; have htn : to.toNat = i + 1 + j := (by omega); have hyt : ys.getD j default = xs.getD to.toNat default := (by rw [hyx, htn]); have hb := hsy.at j; rw [hyt] at hb; obtain ⟨-, -, -, hb1, hb2⟩ := id hI
 refine wpM.seq ?_
 refine wpM.seq ?_
 refine wpM.region ?_
 refine LM.val (ov_field Tryz.underlying140 rfl Tryz.sizeOf3 rfl (k := 1) rfl rfl) ?_
 first | refine LM.rd (om_ld Tryz.isAgg3 rfl rfl) ?_
 refine LM.val (ov_field Tryz.underlying87 rfl Tryz.sizeOf85 rfl (k := 1) rfl rfl) ?_
 first | refine LM.rd (om_ld Tryz.isAgg85 rfl rfl) ?_
 refine LM.val (ov_len Tryz.underlying85 rfl) ?_
 refine LM.val (ov_lss rfl rfl) ?_
 refine LM.nil ?_
 refine QM.sub (e' := [(2, _), (4, _), (5, _), (22, _)]) ⟨rfl, rfl, rfl, rfl, trivial⟩ ?_
 refine QM.then ?_
 refine wpM.condD rfl (fun h1 => ?_) (fun h1 => ?_)
 ·
  refine wpM.skip ?_
  refine QM.then ?_
  refine wpM.block ?_
  refine wpM.seq ?_
  refine wpM.region ?_
  refine LM.val (ov_field Tryz.underlying87 rfl Tryz.sizeOf85 rfl (k := 1) rfl rfl) ?_
  first | refine LM.rd (om_ld Tryz.isAgg85 rfl rfl) ?_
  refine LM.val (ov_field Tryz.underlying140 rfl Tryz.sizeOf3 rfl (k := 1) rfl rfl) ?_
  first | refine LM.rd (om_ld Tryz.isAgg3 rfl rfl) ?_
  first | refine LM.val (ov_idxSN (by first | exact Sr.spt (by assumption) | exact Sl.spt (by assumption)) Tryz.underlying85 Tryz.sizeOf135 rfl rfl (by omega)) ?_ | refine LM.val (ov_idxS (by first | exact Sr.spt (by assumption) | exact Sl.spt (by assumption)) Tryz.underlying85 Tryz.sizeOf135 rfl rfl (by omega)) ?_ | refine LM.val (ov_idx Tryz.underlying85 Tryz.sizeOf135 rfl rfl (by omega)) ?_
  first | refine LM.rd (om_slA (by assumption) (by intro _; rfl) Tryz.isAgg135 Tryz.sizeOf135 rfl (by exact getq default (by first | omega | (simp only [List.length_set, List.length_append, List.length_cons, List.length_nil]; omega)))) ?_ | refine LM.rdC (om_srEA (by assumption) (by intro _; rfl) Tryz.isAgg135 Tryz.sizeOf135 rfl (by exact getq default (by first | omega | (simp only [List.length_set, List.length_append, List.length_cons, List.length_nil]; omega))) id) ?_ | refine LM.rd (om_ldW Tryz.isAgg135 Tryz.sizeOf135 rfl rfl) ?_ | refine LM.rd (om_ldA Tryz.isAgg135 Tryz.sizeOf135 rfl (vs := [_, _, _]) rfl ⟨rfl, rfl, rfl, trivial⟩) ?_
  refine LM.alloc Tryz.zeroValue135 rfl (fun b6 hb6 => ?_)
  refine LM.stW Tryz.sizeOf135 rfl rfl rfl rfl (by first | rfl | decide | (simp; done)) (fun hlt => absurd hlt (by omega)) ?_
  refine LM.nil ?_
  refine QM.sub (e' := [(2, _), (4, _), (5, _), (6, _)]) ⟨rfl, rfl, rfl, rfl, trivial⟩ ?_
  refine QM.then ?_
  refine wpM.seq ?_
  refine wpM.seq ?_
  refine wpM.region ?_
  refine LM.val (ov_field Tryz.underlying135 rfl Tryz.sizeOf3 rfl (k := 0) rfl rfl) ?_
  first | refine LM.rd (om_ld Tryz.isAgg3 rfl rfl) ?_
  refine LM.val (ov_eql rfl rfl) ?_
  refine LM.val (ov_move rfl) ?_
  refine LM.splitD (t := 32) rfl (fun h2 => ?_) (fun h2 => ?_)
  ·
   refine LM.drop (t := 32) rfl rfl rfl ?_
   refine LM.drop (t := 32) rfl rfl rfl ?_
   refine LM.drop (t := 32) rfl rfl rfl ?_
   refine LM.dropU (t := 32) rfl rfl rfl ?_
   refine LM.dropX (t := 36) rfl rfl ?_
   refine LM.dropX (t := 36) rfl rfl ?_
   refine LM.dropX (t := 36) rfl rfl ?_
   refine LM.dropX (t := 36) rfl rfl ?_
   refine LM.dropX (t := 36) rfl rfl ?_
   refine LM.drop (t := 32) rfl rfl rfl ?_
   refine LM.val (ov_pickT rfl rfl) ?_
   refine LM.nil ?_
   refine QM.sub (e' := [(2, _), (4, _), (5, _), (6, _), (43, _)]) ⟨rfl, rfl, rfl, rfl, rfl, trivial⟩ ?_
   refine QM.then ?_
   refine wpM.condT rfl ?_
   refine wpM.seq ?_
   refine wpM.region ?_
   refine LM.rd (om_ldW Tryz.isAgg140 Tryz.sizeOf140 rfl rfl) ?_
   refine LM.stW Tryz.sizeOf140 rfl rfl rfl rfl (by first | rfl | decide | (simp; done)) (fun hlt => absurd hlt (by omega)) ?_
   refine LM.nil ?_
   refine QM.sub (e' := [(4, _)]) ⟨rfl, trivial⟩ ?_
   refine QM.then ?_
   refine wpM.ret ?_
   refine QM.then_ret ?_
   refine QM.block_ret ?_
   refine QM.then_ret ?_
   refine QM.block_ret ?_
   refine QM.then_ret ?_
   refine QM.leaveCs (ds := ([])) (.inl rfl) [.cell 4 140] Tryz.results92 hd_nil (rc_w rfl Tryz.isAgg140 Tryz.sizeOf140 rfl rc_nil) ?_
   intro w' hm' hc'
   have hq := hI.stop (by omega) (by rw [hyt]; exact stop_11 h2); refine ⟨?_, hc'⟩; rw [hq]; show sV _ _ _ _ = _; congr 5
  ·
   refine LM.strip (t := 32) rfl rfl rfl ?_
   refine LM.val (ov_field Tryz.underlying135 rfl Tryz.sizeOf3 rfl (k := 0) rfl rfl) ?_
   refine LM.strip (t := 32) rfl rfl rfl ?_
   first | refine LM.rd (om_ld Tryz.isAgg3 rfl rfl) ?_
   refine LM.strip (t := 32) rfl rfl rfl ?_
   refine LM.val (ov_eql rfl rfl) ?_
   refine LM.strip (t := 32) rfl rfl rfl ?_
   refine LM.val (ov_move rfl) ?_
   refine LM.splitD (t := 36) rfl (fun h3 => ?_) (fun h3 => ?_)
   ·
    refine LM.strip (t := 36) rfl rfl rfl ?_
    refine LM.val (ov_field Tryz.underlying135 rfl Tryz.sizeOf3 rfl (k := 1) rfl rfl) ?_
    refine LM.strip (t := 36) rfl rfl rfl ?_
    first | refine LM.rd (om_ld Tryz.isAgg3 rfl rfl) ?_
    refine LM.strip (t := 36) rfl rfl rfl ?_
    refine LM.val (ov_field Tryz.underlying140 rfl Tryz.sizeOf3 rfl (k := 2) rfl rfl) ?_
    refine LM.strip (t := 36) rfl rfl rfl ?_
    first | refine LM.rd (om_ld Tryz.isAgg3 rfl rfl) ?_
    refine LM.strip (t := 36) rfl rfl rfl ?_
    refine LM.val (ov_eql rfl rfl) ?_
    refine LM.strip (t := 32) rfl rfl rfl ?_
    refine LM.val (ov_pickT rfl rfl) ?_
    refine LM.val (ov_pickF rfl rfl) ?_
    refine LM.nil ?_
    refine QM.sub (e' := [(2, _), (4, _), (5, _), (6, _), (43, _)]) ⟨rfl, rfl, rfl, rfl, rfl, trivial⟩ ?_
    refine QM.then ?_
    refine wpM.condD rfl (fun h4 => ?_) (fun h4 => ?_)
    ·
     refine wpM.seq ?_
     refine wpM.region ?_
     refine LM.rd (om_ldW Tryz.isAgg140 Tryz.sizeOf140 rfl rfl) ?_
     refine LM.stW Tryz.sizeOf140 rfl rfl rfl rfl (by first | rfl | decide | (simp; done)) (fun hlt => absurd hlt (by omega)) ?_
     refine LM.nil ?_
     refine QM.sub (e' := [(4, _)]) ⟨rfl, trivial⟩ ?_
     refine QM.then ?_
     refine wpM.ret ?_
     refine QM.then_ret ?_
     refine QM.block_ret ?_
     refine QM.then_ret ?_
     refine QM.block_ret ?_
     refine QM.then_ret ?_
     refine QM.leaveCs (ds := ([])) (.inl rfl) [.cell 4 140] Tryz.results92 hd_nil (rc_w rfl Tryz.isAgg140 Tryz.sizeOf140 rfl rc_nil) ?_
     intro w' hm' hc'
     have hq := hI.stop (by omega) (by rw [hyt]; exact stop_6 h3 h4); refine ⟨?_, hc'⟩; rw [hq]; show sV _ _ _ _ = _; congr 5
    ·
     refine wpM.skip ?_
     refine QM.then ?_
     refine wpM.seq ?_
     refine wpM.seq ?_
     refine wpM.region ?_
     refine LM.val (ov_field Tryz.underlying135 rfl Tryz.sizeOf3 rfl (k := 0) rfl rfl) ?_
     first | refine LM.rd (om_ld Tryz.isAgg3 rfl rfl) ?_
     refine LM.val (ov_eql rfl rfl) ?_
     refine LM.nil ?_
     refine QM.sub (e' := [(2, _), (4, _), (5, _), (6, _), (47, _)]) ⟨rfl, rfl, rfl, rfl, rfl, trivial⟩ ?_
     refine QM.then ?_
     refine wpM.condD rfl (fun h5 => ?_) (fun h5 => ?_)
     ·
      refine wpM.region ?_
      refine LM.val (ov_field Tryz.underlying140 rfl Tryz.sizeOf3 rfl (k := 3) rfl rfl) ?_
      first | refine LM.rd (om_ld Tryz.isAgg3 rfl rfl) ?_
      refine LM.val (ov_field Tryz.underlying135 rfl Tryz.sizeOf3 rfl (k := 1) rfl rfl) ?_
      first | refine LM.rd (om_ld Tryz.isAgg3 rfl rfl) ?_
      refine LM.val (ov_add64 rfl rfl (by omega)) ?_
      refine LM.val (ov_field Tryz.underlying140 rfl Tryz.sizeOf3 rfl (k := 3) rfl rfl) ?_
      refine LM.st Tryz.sizeOf3 rfl rfl rfl (by first | decide | exact Nat.le_of_ble_eq_true rfl | (simp; done) | (simp; omega)) rfl (fun hlt => absurd hlt (by omega)) ?_
      refine LM.nil ?_
      refine QM.sub (e' := [(2, _), (4, _), (5, _)]) ⟨rfl, rfl, rfl, trivial⟩ ?_
      refine QM.then ?_
      refine wpM.region ?_
      refine LM.val (ov_field Tryz.underlying140 rfl Tryz.sizeOf3 rfl (k := 1) rfl rfl) ?_
      first | refine LM.rd (om_ld Tryz.isAgg3 rfl rfl) ?_
      refine LM.val (ov_add64 rfl rfl (by omega)) ?_
      refine LM.val (ov_field Tryz.underlying140 rfl Tryz.sizeOf3 rfl (k := 1) rfl rfl) ?_
      refine LM.st Tryz.sizeOf3 rfl rfl rfl (by first | decide | exact Nat.le_of_ble_eq_true rfl | (simp; done) | (simp; omega)) rfl (fun hlt => absurd hlt (by omega)) ?_
      refine LM.nil ?_
      refine QM.sub (e' := [(2, _), (4, _), (5, _)]) ⟨rfl, rfl, rfl, trivial⟩ ?_
      refine QM.block_normal ?_
      refine QM.againK ((j + 1, to + 1, acc + (xs.getD to.toNat default).a)) ⟨rfl, rfl, rfl, trivial⟩ (by (repeat' (first | exact SubM.nil _ | refine SubM.cons rfl ?_ | refine SubM.app ?_))) (fun _ h => h) ?_ ?_
      · exact ⟨hI.step hsy (by omega) (by rw [hyt]; exact stop_no h2 (fun q => by first | exact h4 q.2 | exact h3 q.1)) (by rw [hyt, if_pos h5]), by push_cast; omega⟩
      · omega
     ·
      refine wpM.skip ?_
      refine QM.then ?_
      refine wpM.region ?_
      refine LM.val (ov_field Tryz.underlying140 rfl Tryz.sizeOf3 rfl (k := 1) rfl rfl) ?_
      first | refine LM.rd (om_ld Tryz.isAgg3 rfl rfl) ?_
      refine LM.val (ov_add64 rfl rfl (by omega)) ?_
      refine LM.val (ov_field Tryz.underlying140 rfl Tryz.sizeOf3 rfl (k := 1) rfl rfl) ?_
      refine LM.st Tryz.sizeOf3 rfl rfl rfl (by first | decide | exact Nat.le_of_ble_eq_true rfl | (simp; done) | (simp; omega)) rfl (fun hlt => absurd hlt (by omega)) ?_
      refine LM.nil ?_
      refine QM.sub (e' := [(2, _), (4, _), (5, _)]) ⟨rfl, rfl, rfl, trivial⟩ ?_
      refine QM.block_normal ?_
      refine QM.againK ((j + 1, to + 1, acc)) ⟨rfl, rfl, rfl, trivial⟩ (by (repeat' (first | exact SubM.nil _ | refine SubM.cons rfl ?_ | refine SubM.app ?_))) (fun _ h => h) ?_ ?_
      · exact ⟨hI.step hsy (by omega) (by rw [hyt]; exact stop_no h2 (fun q => by first | exact h4 q.2 | exact h3 q.1)) (by rw [hyt, if_neg h5]; omega), by push_cast; omega⟩
      · first | omega | (dsimp only; omega)
   ·
    refine LM.drop (t := 36) rfl rfl rfl ?_
    refine LM.drop (t := 36) rfl rfl rfl ?_
    refine LM.drop (t := 36) rfl rfl rfl ?_
    refine LM.drop (t := 36) rfl rfl rfl ?_
    refine LM.drop (t := 36) rfl rfl rfl ?_
    refine LM.strip (t := 32) rfl rfl rfl ?_
    refine LM.val (ov_pickF rfl rfl) ?_
    refine LM.val (ov_pickF rfl rfl) ?_
    refine LM.nil ?_
    refine QM.sub (e' := [(2, _), (4, _), (5, _), (6, _), (43, _)]) ⟨rfl, rfl, rfl, rfl, rfl, trivial⟩ ?_
    refine QM.then ?_
    refine wpM.condF rfl ?_
    refine wpM.skip ?_
    refine QM.then ?_
    refine wpM.seq ?_
    refine wpM.seq ?_
    refine wpM.region ?_
    refine LM.val (ov_field Tryz.underlying135 rfl Tryz.sizeOf3 rfl (k := 0) rfl rfl) ?_
    first | refine LM.rd (om_ld Tryz.isAgg3 rfl rfl) ?_
    refine LM.val (ov_eql rfl rfl) ?_
    refine LM.nil ?_
    refine QM.sub (e' := [(2, _), (4, _), (5, _), (6, _), (47, _)]) ⟨rfl, rfl, rfl, rfl, rfl, trivial⟩ ?_
    refine QM.then ?_
    refine wpM.condD rfl (fun h6 => ?_) (fun h6 => ?_)
    ·
     refine wpM.region ?_
     refine LM.val (ov_field Tryz.underlying140 rfl Tryz.sizeOf3 rfl (k := 3) rfl rfl) ?_
     first | refine LM.rd (om_ld Tryz.isAgg3 rfl rfl) ?_
     refine LM.val (ov_field Tryz.underlying135 rfl Tryz.sizeOf3 rfl (k := 1) rfl rfl) ?_
     first | refine LM.rd (om_ld Tryz.isAgg3 rfl rfl) ?_
     refine LM.val (ov_add64 rfl rfl (by omega)) ?_
     refine LM.val (ov_field Tryz.underlying140 rfl Tryz.sizeOf3 rfl (k := 3) rfl rfl) ?_
     refine LM.st Tryz.sizeOf3 rfl rfl rfl (by first | decide | exact Nat.le_of_ble_eq_true rfl | (simp; done) | (simp; omega)) rfl (fun hlt => absurd hlt (by omega)) ?_
     refine LM.nil ?_
     refine QM.sub (e' := [(2, _), (4, _), (5, _)]) ⟨rfl, rfl, rfl, trivial⟩ ?_
     refine QM.then ?_
     refine wpM.region ?_
     refine LM.val (ov_field Tryz.underlying140 rfl Tryz.sizeOf3 rfl (k := 1) rfl rfl) ?_
     first | refine LM.rd (om_ld Tryz.isAgg3 rfl rfl) ?_
     refine LM.val (ov_add64 rfl rfl (by omega)) ?_
     refine LM.val (ov_field Tryz.underlying140 rfl Tryz.sizeOf3 rfl (k := 1) rfl rfl) ?_
     refine LM.st Tryz.sizeOf3 rfl rfl rfl (by first | decide | exact Nat.le_of_ble_eq_true rfl | (simp; done) | (simp; omega)) rfl (fun hlt => absurd hlt (by omega)) ?_
     refine LM.nil ?_
     refine QM.sub (e' := [(2, _), (4, _), (5, _)]) ⟨rfl, rfl, rfl, trivial⟩ ?_
     refine QM.block_normal ?_
     refine QM.againK ((j + 1, to + 1, acc + (xs.getD to.toNat default).a)) ⟨rfl, rfl, rfl, trivial⟩ (by (repeat' (first | exact SubM.nil _ | refine SubM.cons rfl ?_ | refine SubM.app ?_))) (fun _ h => h) ?_ ?_
     · exact ⟨hI.step hsy (by omega) (by rw [hyt]; exact stop_no h2 (fun q => by first | exact h4 q.2 | exact h3 q.1)) (by rw [hyt, if_pos h6]), by push_cast; omega⟩
     · first | omega | (dsimp only; omega)
    ·
     refine wpM.skip ?_
     refine QM.then ?_
     refine wpM.region ?_
     refine LM.val (ov_field Tryz.underlying140 rfl Tryz.sizeOf3 rfl (k := 1) rfl rfl) ?_
     first | refine LM.rd (om_ld Tryz.isAgg3 rfl rfl) ?_
     refine LM.val (ov_add64 rfl rfl (by omega)) ?_
     refine LM.val (ov_field Tryz.underlying140 rfl Tryz.sizeOf3 rfl (k := 1) rfl rfl) ?_
     refine LM.st Tryz.sizeOf3 rfl rfl rfl (by first | decide | exact Nat.le_of_ble_eq_true rfl | (simp; done) | (simp; omega)) rfl (fun hlt => absurd hlt (by omega)) ?_
     refine LM.nil ?_
     refine QM.sub (e' := [(2, _), (4, _), (5, _)]) ⟨rfl, rfl, rfl, trivial⟩ ?_
     refine QM.block_normal ?_
     refine QM.againK ((j + 1, to + 1, acc)) ⟨rfl, rfl, rfl, trivial⟩ (by (repeat' (first | exact SubM.nil _ | refine SubM.cons rfl ?_ | refine SubM.app ?_))) (fun _ h => h) ?_ ?_
     · exact ⟨hI.step hsy (by omega) (by rw [hyt]; exact stop_no h2 (fun q => by first | exact h4 q.2 | exact h3 q.1)) (by rw [hyt, if_neg h6]; omega), by push_cast; omega⟩
     · first | omega | (dsimp only; omega)
 ·
  refine wpM.exit ?_
  refine QM.then_exit ?_
  refine QM.then_exit ?_
  refine QM.block_hit ?_
  refine QM.then ?_
  refine wpM.seq ?_
  refine wpM.region ?_
  refine LM.rd (om_ldW Tryz.isAgg140 Tryz.sizeOf140 rfl rfl) ?_
  refine LM.stW Tryz.sizeOf140 rfl rfl rfl rfl (by first | rfl | decide | (simp; done)) (fun hlt => absurd hlt (by omega)) ?_
  refine LM.nil ?_
  refine QM.sub (e' := [(4, _)]) ⟨rfl, trivial⟩ ?_
  refine QM.then ?_
  refine wpM.ret ?_
  refine QM.leaveCs (ds := ([])) (.inl rfl) [.cell 4 140] Tryz.results92 hd_nil (rc_w rfl Tryz.isAgg140 Tryz.sizeOf140 rfl rc_nil) ?_
  intro w' hm' hc'
  have hq := hI.fin (by omega); refine ⟨?_, hc'⟩; rw [hq]; show sV _ _ _ _ = _; congr 5; omega

end Go.Eng
set_option linter.unusedVariables false
set_option linter.unusedSimpArgs false
namespace Go.Eng
open Go Go.Proofs Go.RowKit

abbrev lBc (b : Nat) (ad : Option Addr) (n cap : Nat) : Nat × Obj := (b, .cells #[.slice ad n cap] 27 (0, 0))
abbrev iBc (b : Nat) (x : Int) : Nat × Obj := (b, .cells #[.int .i64 x] 3 (0, 0))
abbrev eBc (b : Nat) (x : Int) : Nat × Obj := (b, .cells #[.int .i64 x] 31 (0, 0))
def EachTc (fv : Bool) (ad : Option Addr) (n cap : Nat) (n0 : Nat) (v : Value) (m : Mem0) : Prop := ∃ b1, v = .func (.func 150) #[] #[.pointer (some ⟨b1, 0, none⟩)] ∧ m = [pB b1 fv ad n cap] ∧ n0 ≤ b1
theorem EachTc.mono {fv : Bool} {ad : Option Addr} {n cap : Nat} : ∀ (k k' : Nat) u m, k' ≤ k → EachTc fv ad n cap k u m → EachTc fv ad n cap k' u m := fun k k' u m h ⟨b1, h1, h2, h3⟩ => ⟨b1, h1, h2, by omega⟩
def SecsT (fv : Bool) (ad : Option Addr) (n cap : Nat) (n0 : Nat) (v : Value) (m : Mem0) : Prop := ∃ b1, v = .func (.func 99999) #[] #[.pointer (some ⟨b1, 0, none⟩)] ∧ m = [pB b1 fv ad n cap] ∧ n0 ≤ b1
theorem SecsT.mono {fv : Bool} {ad : Option Addr} {n cap : Nat} : ∀ (k k' : Nat) u m, k' ≤ k → SecsT fv ad n cap k u m → SecsT fv ad n cap k' u m := fun k k' u m h ⟨b1, h1, h2, h3⟩ => ⟨b1, h1, h2, by omega⟩
theorem fits_lt {T K : Bool} {q : Bool} {a : Int} {n : Nat} (hq : q = ((T || K) && decide (a ≥ n))) (h : q = false) (ht : T = true) : a < n := by
  rw [h, ht, Bool.true_or, Bool.true_and] at hq
  have := of_decide_eq_false hq.symm
  omega
set_option maxRecDepth 100000 in
set_option maxHeartbeats 1000000 in
theorem fits_spec {xs : List COp} {ls : List CLk} {fv : Bool} {ad ad2 : Option Addr} {n cap n2 cap2 : Nat} (i : Nat) (progs : Int) (w : World) (hn : n = xs.length) (hl : Sr fO 3 xs (.slice ad n cap) w) (hn2 : n2 = ls.length) (hl2 : Sr fL 5 ls (.slice ad2 n2 cap2) w) (hm0 : mayB xs = true) (hi : i < xs.length) : Ret Tryz.prog 130 #[pV fv ad n cap, .int .i64 (i : Nat), .slice ad2 n2 cap2, .int .i64 progs] w (fun v w' => v = .int .i64 (fitsO fv xs ls progs i) ∧ Ext w w') := by
 have hs := may_small hm0; have hr := right_a (may_at hm0 hi)
 refine Ret.enterM (l := [pV fv ad n cap, .int .i64 (i : Nat), .slice ad2 n2 cap2, .int .i64 progs]) Tryz.func130 rfl Tryz.ntmps130 rfl ([]) (no) (Mem.nil w) ?_
 refine wpM.seq ?_
 refine wpM.region ?_
 refine LM.box rfl rfl (fun b4 hb4 => ?_)
 refine LM.val (ov_assign rfl) ?_
 refine LM.nil ?_
 refine QM.sub (e' := [(1, _), (2, _), (3, _), (4, _)]) ⟨rfl, rfl, rfl, rfl, trivial⟩ ?_
 refine QM.then ?_
 refine wpM.seq ?_
 refine wpM.region ?_
 refine LM.val (ov_field Tryz.underlying87 rfl Tryz.sizeOf85 rfl (k := 1) rfl rfl) ?_
 first | refine LM.rd (om_ld Tryz.isAgg85 rfl rfl) ?_
 refine LM.val (ov_move rfl) ?_
 refine LM.val (ov_idxSN (by first | exact Sr.spt (by assumption) | exact Sl.spt (by assumption)) Tryz.underlying85 Tryz.sizeOf135 rfl rfl (by omega)) ?_
 first | refine LM.rd (om_slA (by assumption) (by intro _; rfl) Tryz.isAgg135 Tryz.sizeOf135 rfl (by exact getq default (by first | omega | (simp only [List.length_set, List.length_append, List.length_cons, List.length_nil]; omega)))) ?_ | refine LM.rdC (om_srEA (by assumption) (by intro _; rfl) Tryz.isAgg135 Tryz.sizeOf135 rfl (by exact getq default (by first | omega | (simp only [List.length_set, List.length_append, List.length_cons, List.length_nil]; omega))) id) ?_ | refine LM.rd (om_ldW Tryz.isAgg135 Tryz.sizeOf135 rfl rfl) ?_ | refine LM.rd (om_ldA Tryz.isAgg135 Tryz.sizeOf135 rfl (vs := [_, _, _]) rfl ⟨rfl, rfl, rfl, trivial⟩) ?_
 refine LM.alloc Tryz.zeroValue135 rfl (fun b9 hb9 => ?_)
 refine LM.stW Tryz.sizeOf135 rfl rfl rfl rfl (by first | rfl | decide | (simp; done)) (fun hlt => absurd hlt (by omega)) ?_
 refine LM.nil ?_
 refine QM.sub (e' := [(1, _), (2, _), (3, _), (4, _), (9, _)]) ⟨rfl, rfl, rfl, rfl, rfl, trivial⟩ ?_
 refine QM.then ?_
 refine wpM.seq ?_
 refine wpM.region ?_
 refine LM.val (ov_field Tryz.underlying135 rfl Tryz.sizeOf3 rfl (k := 0) rfl rfl) ?_
 first | refine LM.rd (om_ld Tryz.isAgg3 rfl rfl) ?_
 refine LM.callE (oc_call (enters_fn Tryz.func151 (by kernel_rfl) rfl) rfl) (fun w hm hc hg => takes_spec _ w) ?_
 refine LM.val (ov_assign rfl) ?_
 refine LM.nil ?_
 refine QM.sub (e' := [(1, _), (2, _), (3, _), (4, _), (9, _), (10, _)]) ⟨rfl, rfl, rfl, rfl, rfl, rfl, trivial⟩ ?_
 refine QM.then ?_
 refine wpM.seq ?_
 refine wpM.block ?_
 refine wpM.seq ?_
 refine wpM.seq ?_
 refine wpM.joinK (α := Bool) (fun q => [(20, .bool q)]) [(1, _), (2, _), (3, _), (4, _), (9, _), (10, _)] (fun q => oB b9 (xs.getD i default) :: pB b4 fv ad n cap :: []) (fun q => q = ((takesB (xs.getD i default).k || decide ((xs.getD i default).k = 6)) && decide ((xs.getD i default).a ≥ n2))) ⟨rfl, rfl, rfl, rfl, rfl, rfl, trivial⟩ ?_ ?_
 ·
  refine wpM.region ?_
  refine LM.val (ov_move rfl) ?_
  refine LM.val (ov_move rfl) ?_
  first | refine LM.splitD (t := 22) rfl (fun h1 => ?_) (fun h1 => ?_) | refine LM.splitB (t := 22) rfl (fun h1 => ?_) (fun h1 => ?_)
  ·
   refine LM.drop (t := 22) rfl rfl rfl ?_
   refine LM.drop (t := 22) rfl rfl rfl ?_
   refine LM.drop (t := 22) rfl rfl rfl ?_
   refine LM.val (ov_pickT rfl rfl) ?_
   refine LM.val (ov_move rfl) ?_
   refine LM.strip (t := 27) rfl rfl rfl ?_
   refine LM.val (ov_field Tryz.underlying135 rfl Tryz.sizeOf3 rfl (k := 1) rfl rfl) ?_
   refine LM.strip (t := 27) rfl rfl rfl ?_
   first | refine LM.rd (om_ld Tryz.isAgg3 rfl rfl) ?_
   refine LM.strip (t := 27) rfl rfl rfl ?_
   refine LM.val (ov_move rfl) ?_
   refine LM.strip (t := 27) rfl rfl rfl ?_
   refine LM.val (ov_len Tryz.underlying27 rfl) ?_
   refine LM.strip (t := 27) rfl rfl rfl ?_
   refine LM.val (ov_geq rfl rfl) ?_
   refine LM.val (ov_pickT rfl rfl) ?_
   refine LM.val (ov_assign rfl) ?_
   refine LM.nil ?_
   refine QM.sub (e' := [(1, _), (2, _), (3, _), (4, _), (9, _), (10, _), (20, _)]) ⟨rfl, rfl, rfl, rfl, rfl, rfl, rfl, trivial⟩ ?_
   refine QM.meetK (_) ⟨(by first | rfl | exact lk rfl (by congr 1; omega) | exact lk rfl (by simp)), rfl, rfl, rfl, rfl, rfl, rfl, trivial⟩ (by (repeat' (first | exact SubM.nil _ | refine SubM.cons rfl ?_ | refine SubM.app ?_))) ?_
   · simp only [h1, decide_true, decide_false, Bool.true_and, Bool.false_and, Bool.and_true, Bool.and_false, Bool.not_true, Bool.not_false, Bool.true_or, Bool.false_or, Bool.or_true, Bool.or_false, ne_eq, not_true_eq_false, not_false_eq_true, Bool.and_self]
  ·
   refine LM.strip (t := 22) rfl rfl rfl ?_
   refine LM.val (ov_field Tryz.underlying135 rfl Tryz.sizeOf3 rfl (k := 0) rfl rfl) ?_
   refine LM.strip (t := 22) rfl rfl rfl ?_
   first | refine LM.rd (om_ld Tryz.isAgg3 rfl rfl) ?_
   refine LM.strip (t := 22) rfl rfl rfl ?_
   refine LM.val (ov_eql rfl rfl) ?_
   refine LM.val (ov_pickF rfl rfl) ?_
   refine LM.val (ov_move rfl) ?_
   refine LM.splitD (t := 27) rfl (fun h2 => ?_) (fun h2 => ?_)
   ·
    refine LM.strip (t := 27) rfl rfl rfl ?_
    refine LM.val (ov_field Tryz.underlying135 rfl Tryz.sizeOf3 rfl (k := 1) rfl rfl) ?_
    refine LM.strip (t := 27) rfl rfl rfl ?_
    first | refine LM.rd (om_ld Tryz.isAgg3 rfl rfl) ?_
    refine LM.strip (t := 27) rfl rfl rfl ?_
    refine LM.val (ov_move rfl) ?_
    refine LM.strip (t := 27) rfl rfl rfl ?_
    refine LM.val (ov_len Tryz.underlying27 rfl) ?_
    refine LM.strip (t := 27) rfl rfl rfl ?_
    refine LM.val (ov_geq rfl rfl) ?_
    refine LM.val (ov_pickT rfl rfl) ?_
    refine LM.val (ov_assign rfl) ?_
    refine LM.nil ?_
    refine QM.sub (e' := [(1, _), (2, _), (3, _), (4, _), (9, _), (10, _), (20, _)]) ⟨rfl, rfl, rfl, rfl, rfl, rfl, rfl, trivial⟩ ?_
    refine QM.meetK (_) ⟨(by first | rfl | exact lk rfl (by congr 1; omega) | exact lk rfl (by simp)), rfl, rfl, rfl, rfl, rfl, rfl, trivial⟩ (by (repeat' (first | exact SubM.nil _ | refine SubM.cons rfl ?_ | refine SubM.app ?_))) ?_
    · simp only [h1, h2, decide_true, decide_false, Bool.true_and, Bool.false_and, Bool.and_true, Bool.and_false, Bool.not_true, Bool.not_false, Bool.true_or, Bool.false_or, Bool.or_true, Bool.or_false, ne_eq, not_true_eq_false, not_false_eq_true, Bool.and_self]
   ·
    refine LM.drop (t := 27) rfl rfl rfl ?_
    refine LM.drop (t := 27) rfl rfl rfl ?_
    refine LM.drop (t := 27) rfl rfl rfl ?_
    refine LM.drop (t := 27) rfl rfl rfl ?_
    refine LM.drop (t := 27) rfl rfl rfl ?_
    refine LM.val (ov_pickF rfl rfl) ?_
    refine LM.val (ov_assign rfl) ?_
    refine LM.nil ?_
    refine QM.sub (e' := [(1, _), (2, _), (3, _), (4, _), (9, _), (10, _), (20, _)]) ⟨rfl, rfl, rfl, rfl, rfl, rfl, rfl, trivial⟩ ?_
    refine QM.meetK (_) ⟨(by first | rfl | exact lk rfl (by congr 1; omega) | exact lk rfl (by simp)), rfl, rfl, rfl, rfl, rfl, rfl, trivial⟩ (by (repeat' (first | exact SubM.nil _ | refine SubM.cons rfl ?_ | refine SubM.app ?_))) ?_
    · simp only [h1, h2, decide_true, decide_false, Bool.true_and, Bool.false_and, Bool.and_true, Bool.and_false, Bool.not_true, Bool.not_false, Bool.true_or, Bool.false_or, Bool.or_true, Bool.or_false, ne_eq, not_true_eq_false, not_false_eq_true, Bool.and_self]
 ·
  rintro q hq
  change QM _ _ _ _ _ (oB b9 (xs.getD i default) :: pB b4 fv ad n cap :: []) _ _ _
  refine QM.then ?_
  first | refine wpM.condXD (t := 20) rfl (fun h3 => ?_) (fun h3 => ?_) | refine wpM.condXB (t := 20) rfl (fun h3 => ?_) (fun h3 => ?_)
  ·
   refine wpM.skip ?_
   refine QM.then ?_
   refine wpM.condT rfl ?_
   refine wpM.seq ?_
   refine wpM.region ?_
   refine LM.val (ov_assign rfl) ?_
   refine LM.nil ?_
   refine QM.sub (e' := [(8, _)]) ⟨rfl, trivial⟩ ?_
   refine QM.then ?_
   refine wpM.ret ?_
   refine QM.block_ret ?_
   refine QM.then_ret ?_
   refine QM.leave (.inl rfl) [.tmp 8] Tryz.results130 rfl ?_
   intro w' hm' hc' hg'
   refine ⟨?_, hc'⟩; simp only [resV, fitsO, ← hn, ← hn2, ← hq]; simp only [h3, decide_true, decide_false, Bool.true_and, Bool.false_and, Bool.and_true, Bool.and_false, Bool.not_true, Bool.not_false, Bool.true_or, Bool.false_or, Bool.or_true, Bool.or_false, ne_eq, not_true_eq_false, not_false_eq_true, Bool.and_self, if_true, ite_true]
  ·
   refine wpM.joinK (α := Bool) (fun q2 => [(20, .bool q2)]) [(1, _), (2, _), (4, _), (9, _), (10, _)] (fun q2 => oB b9 (xs.getD i default) :: pB b4 fv ad n cap :: []) (fun q2 => q2 = (decide ((xs.getD i default).k = 9) && decide ((xs.getD i default).a ≥ progs))) ⟨rfl, rfl, rfl, rfl, rfl, trivial⟩ ?_ ?_
   ·
    refine wpM.region ?_
    refine LM.val (ov_field Tryz.underlying135 rfl Tryz.sizeOf3 rfl (k := 0) rfl rfl) ?_
    first | refine LM.rd (om_ld Tryz.isAgg3 rfl rfl) ?_
    refine LM.val (ov_eql rfl rfl) ?_
    refine LM.val (ov_move rfl) ?_
    refine LM.splitD (t := 37) rfl (fun h4 => ?_) (fun h4 => ?_)
    ·
     refine LM.strip (t := 37) rfl rfl rfl ?_
     refine LM.val (ov_field Tryz.underlying135 rfl Tryz.sizeOf3 rfl (k := 1) rfl rfl) ?_
     refine LM.strip (t := 37) rfl rfl rfl ?_
     first | refine LM.rd (om_ld Tryz.isAgg3 rfl rfl) ?_
     refine LM.strip (t := 37) rfl rfl rfl ?_
     refine LM.val (ov_move rfl) ?_
     refine LM.strip (t := 37) rfl rfl rfl ?_
     refine LM.val (ov_geq rfl rfl) ?_
     refine LM.val (ov_pickT rfl rfl) ?_
     refine LM.val (ov_assign rfl) ?_
     refine LM.nil ?_
     refine QM.sub (e' := [(1, _), (2, _), (4, _), (9, _), (10, _), (20, _)]) ⟨rfl, rfl, rfl, rfl, rfl, rfl, trivial⟩ ?_
     refine QM.meetK (_) ⟨(by first | rfl | exact lk rfl (by congr 1; omega) | exact lk rfl (by simp)), rfl, rfl, rfl, rfl, rfl, trivial⟩ (by (repeat' (first | exact SubM.nil _ | refine SubM.cons rfl ?_ | refine SubM.app ?_))) ?_
     · simp only [h3, h4, decide_true, decide_false, Bool.true_and, Bool.false_and, Bool.and_true, Bool.and_false, Bool.not_true, Bool.not_false, Bool.true_or, Bool.false_or, Bool.or_true, Bool.or_false, ne_eq, not_true_eq_false, not_false_eq_true, Bool.and_self]
    ·
     refine LM.drop (t := 37) rfl rfl rfl ?_
     refine LM.drop (t := 37) rfl rfl rfl ?_
     refine LM.drop (t := 37) rfl rfl rfl ?_
     refine LM.drop (t := 37) rfl rfl rfl ?_
     refine LM.val (ov_pickF rfl rfl) ?_
     refine LM.val (ov_assign rfl) ?_
     refine LM.nil ?_
     refine QM.sub (e' := [(1, _), (2, _), (4, _), (9, _), (10, _), (20, _)]) ⟨rfl, rfl, rfl, rfl, rfl, rfl, trivial⟩ ?_
     refine QM.meetK (_) ⟨(by first | rfl | exact lk rfl (by congr 1; omega) | exact lk rfl (by simp)), rfl, rfl, rfl, rfl, rfl, trivial⟩ (by (repeat' (first | exact SubM.nil _ | refine SubM.cons rfl ?_ | refine SubM.app ?_))) ?_
     · simp only [h3, h4, decide_true, decide_false, Bool.true_and, Bool.false_and, Bool.and_true, Bool.and_false, Bool.not_true, Bool.not_false, Bool.true_or, Bool.false_or, Bool.or_true, Bool.or_false, ne_eq, not_true_eq_false, not_false_eq_true, Bool.and_self]
   ·
    rintro q2 hq2
    change QM _ _ _ _ _ (oB b9 (xs.getD i default) :: pB b4 fv ad n cap :: []) _ _ _
    refine QM.then ?_
    first | refine wpM.condD rfl (fun h5 => ?_) (fun h5 => ?_) | refine wpM.condB rfl (fun h5 => ?_) (fun h5 => ?_)
    ·
     refine wpM.seq ?_
     refine wpM.region ?_
     refine LM.val (ov_assign rfl) ?_
     refine LM.nil ?_
     refine QM.sub (e' := [(8, _)]) ⟨rfl, trivial⟩ ?_
     refine QM.then ?_
     refine wpM.ret ?_
     refine QM.block_ret ?_
     refine QM.then_ret ?_
     refine QM.leave (.inl rfl) [.tmp 8] Tryz.results130 rfl ?_
     intro w' hm' hc' hg'
     refine ⟨?_, hc'⟩; simp only [resV, fitsO, ← hn, ← hn2, ← hq, ← hq2]; simp only [h3, h5, decide_true, decide_false, Bool.true_and, Bool.false_and, Bool.and_true, Bool.and_false, Bool.not_true, Bool.not_false, Bool.true_or, Bool.false_or, Bool.or_true, Bool.or_false, ne_eq, not_true_eq_false, not_false_eq_true, Bool.and_self, if_true, ite_true]
    ·
     refine wpM.seq ?_
     refine wpM.joinK (α := Bool) (fun q3 => [(43, .bool q3)]) [(1, _), (2, _), (4, _), (9, _), (10, _)] (fun q3 => oB b9 (xs.getD i default) :: pB b4 fv ad n cap :: []) (fun q3 => q3 = (decide ((xs.getD i default).k = 3) && !(ls.getD (xs.getD i default).a.toNat default).sh)) ⟨rfl, rfl, rfl, rfl, rfl, trivial⟩ ?_ ?_
     ·
      refine wpM.region ?_
      refine LM.val (ov_field Tryz.underlying135 rfl Tryz.sizeOf3 rfl (k := 0) rfl rfl) ?_
      first | refine LM.rd (om_ld Tryz.isAgg3 rfl rfl) ?_
      refine LM.val (ov_eql rfl rfl) ?_
      refine LM.val (ov_move rfl) ?_
      refine LM.splitD (t := 47) rfl (fun h6 => ?_) (fun h6 => ?_)
      ·
       have hlt := fits_lt hq h3 (by rw [h6]; rfl)
       refine LM.strip (t := 47) rfl rfl rfl ?_
       refine LM.val (ov_move rfl) ?_
       refine LM.strip (t := 47) rfl rfl rfl ?_
       refine LM.val (ov_field Tryz.underlying135 rfl Tryz.sizeOf3 rfl (k := 1) rfl rfl) ?_
       refine LM.strip (t := 47) rfl rfl rfl ?_
       first | refine LM.rd (om_ld Tryz.isAgg3 rfl rfl) ?_
       refine LM.strip (t := 47) rfl rfl rfl ?_
       first | refine LM.val (ov_idxSN (by first | exact Sr.spt (by assumption) | exact Sl.spt (by assumption)) Tryz.underlying27 Tryz.sizeOf63 rfl rfl (by omega)) ?_ | refine LM.val (ov_idxS (by first | exact Sr.spt (by assumption) | exact Sl.spt (by assumption)) Tryz.underlying27 Tryz.sizeOf63 rfl rfl (by omega)) ?_ | refine LM.val (ov_idx Tryz.underlying27 Tryz.sizeOf63 rfl rfl (by omega)) ?_
       refine LM.strip (t := 47) rfl rfl rfl ?_
       refine LM.val (ov_field Tryz.underlying63 rfl Tryz.sizeOf4 rfl (k := 0) rfl rfl) ?_
       refine LM.strip (t := 47) rfl rfl rfl ?_
       first | refine LM.rd (om_slE (j := 0) (by assumption) (by intro _; rfl) Tryz.isAgg4 rfl rfl (by exact getq default (by first | omega | (simp only [List.length_set, List.length_append, List.length_cons, List.length_nil]; omega))) rfl (by rfl)) ?_ | refine LM.rdC (om_srE (j := 0) (by assumption) Tryz.isAgg4 rfl rfl (by exact getq default (by first | omega | (simp only [List.length_set, List.length_append, List.length_cons, List.length_nil]; omega))) (by rfl) (by rfl) id) ?_ | refine LM.rd (om_ld Tryz.isAgg4 rfl rfl) ?_
       refine LM.strip (t := 47) rfl rfl rfl ?_
       first | refine LM.val (ov_notD rfl) ?_ | refine LM.val (ov_not rfl) ?_
       refine LM.val (ov_pickT rfl rfl) ?_
       refine LM.val (ov_assign rfl) ?_
       refine LM.nil ?_
       refine QM.sub (e' := [(1, _), (2, _), (4, _), (9, _), (10, _), (43, _)]) ⟨rfl, rfl, rfl, rfl, rfl, rfl, trivial⟩ ?_
       refine QM.meetK (_) ⟨(by first | rfl | exact lk rfl (by congr 1; omega) | exact lk rfl (by simp)), rfl, rfl, rfl, rfl, rfl, trivial⟩ (by (repeat' (first | exact SubM.nil _ | refine SubM.cons rfl ?_ | refine SubM.app ?_))) ?_
       · simp only [h3, h5, h6, decide_true, decide_false, Bool.true_and, Bool.false_and, Bool.and_true, Bool.and_false, Bool.not_true, Bool.not_false, Bool.true_or, Bool.false_or, Bool.or_true, Bool.or_false, ne_eq, not_true_eq_false, not_false_eq_true, Bool.and_self]
      ·
       refine LM.drop (t := 47) rfl rfl rfl ?_
       refine LM.drop (t := 47) rfl rfl rfl ?_
       refine LM.drop (t := 47) rfl rfl rfl ?_
       refine LM.drop (t := 47) rfl rfl rfl ?_
       refine LM.drop (t := 47) rfl rfl rfl ?_
       refine LM.drop (t := 47) rfl rfl rfl ?_
       refine LM.drop (t := 47) rfl rfl rfl ?_
       refine LM.val (ov_pickF rfl rfl) ?_
       refine LM.val (ov_assign rfl) ?_
       refine LM.nil ?_
       refine QM.sub (e' := [(1, _), (2, _), (4, _), (9, _), (10, _), (43, _)]) ⟨rfl, rfl, rfl, rfl, rfl, rfl, trivial⟩ ?_
       refine QM.meetK (_) ⟨(by first | rfl | exact lk rfl (by congr 1; omega) | exact lk rfl (by simp)), rfl, rfl, rfl, rfl, rfl, trivial⟩ (by (repeat' (first | exact SubM.nil _ | refine SubM.cons rfl ?_ | refine SubM.app ?_))) ?_
       · simp only [h3, h5, h6, decide_true, decide_false, Bool.true_and, Bool.false_and, Bool.and_true, Bool.and_false, Bool.not_true, Bool.not_false, Bool.true_or, Bool.false_or, Bool.or_true, Bool.or_false, ne_eq, not_true_eq_false, not_false_eq_true, Bool.and_self]
     ·
      rintro q3 hq3
      change QM _ _ _ _ _ (oB b9 (xs.getD i default) :: pB b4 fv ad n cap :: []) _ _ _
      refine QM.then ?_
      first | refine wpM.condD rfl (fun h7 => ?_) (fun h7 => ?_) | refine wpM.condB rfl (fun h7 => ?_) (fun h7 => ?_)
      ·
       refine wpM.seq ?_
       refine wpM.region ?_
       refine LM.val (ov_assign rfl) ?_
       refine LM.nil ?_
       refine QM.sub (e' := [(8, _)]) ⟨rfl, trivial⟩ ?_
       refine QM.then ?_
       refine wpM.ret ?_
       refine QM.block_ret ?_
       refine QM.then_ret ?_
       refine QM.leave (.inl rfl) [.tmp 8] Tryz.results130 rfl ?_
       intro w' hm' hc' hg'
       refine ⟨?_, hc'⟩; simp only [resV, fitsO, ← hn, ← hn2, ← hq, ← hq2, ← hq3]; simp only [h3, h5, h7, decide_true, decide_false, Bool.true_and, Bool.false_and, Bool.and_true, Bool.and_false, Bool.not_true, Bool.not_false, Bool.true_or, Bool.false_or, Bool.or_true, Bool.or_false, ne_eq, not_true_eq_false, not_false_eq_true, Bool.and_self, if_true, if_false, ite_true, Bool.false_eq_true]
      ·
       refine wpM.seq ?_
       refine wpM.region ?_
       refine LM.val (ov_move rfl) ?_
       first | refine LM.val (ov_notD rfl) ?_ | refine LM.val (ov_not rfl) ?_
       refine LM.val (ov_assign rfl) ?_
       refine LM.nil ?_
       refine QM.sub (e' := [(1, _), (2, _), (4, _), (9, _), (56, _)]) ⟨rfl, rfl, rfl, rfl, rfl, trivial⟩ ?_
       refine QM.then ?_
       first | refine wpM.condD rfl (fun h8 => ?_) (fun h8 => ?_) | refine wpM.condB rfl (fun h8 => ?_) (fun h8 => ?_)
       ·
        refine wpM.seq ?_
        refine wpM.region ?_
        refine LM.val (ov_assign rfl) ?_
        refine LM.nil ?_
        refine QM.sub (e' := [(8, _)]) ⟨rfl, trivial⟩ ?_
        refine QM.then ?_
        refine wpM.ret ?_
        refine QM.block_ret ?_
        refine QM.then_ret ?_
        refine QM.leave (.inl rfl) [.tmp 8] Tryz.results130 rfl ?_
        intro w' hm' hc' hg'
        refine ⟨?_, hc'⟩; simp only [resV, fitsO, ← hn, ← hn2, ← hq, ← hq2, ← hq3]; simp only [h3, h5, h7, h8, decide_true, decide_false, Bool.true_and, Bool.false_and, Bool.and_true, Bool.and_false, Bool.not_true, Bool.not_false, Bool.true_or, Bool.false_or, Bool.or_true, Bool.or_false, ne_eq, not_true_eq_false, not_false_eq_true, Bool.and_self, if_true, if_false, ite_true, Bool.false_eq_true]
       ·
        have hlt := fits_lt hq h3 (by simpa using h8)
        refine wpM.skip ?_
        refine QM.block_normal ?_
        refine QM.then ?_
        refine wpM.seq ?_
        refine wpM.region ?_
        refine LM.rd (om_ldW Tryz.isAgg87 Tryz.sizeOf87 rfl rfl) ?_
        refine LM.val (ov_move rfl) ?_
        refine LM.callE (oc_call (enters_fn Tryz.func152 (by kernel_rfl) rfl) rfl) (fun w hm hc hg => section_spec i w hn (hl.ext hc) hs hi) ?_
        refine LM.alloc Tryz.zeroValue140 rfl (fun b11 hb11 => ?_)
        refine LM.stW Tryz.sizeOf140 rfl rfl rfl rfl (by first | rfl | decide | (simp; done)) (fun hlt => absurd hlt (by omega)) ?_
        refine LM.nil ?_
        refine QM.sub (e' := [(2, _), (4, _), (9, _), (11, _)]) ⟨rfl, rfl, rfl, rfl, trivial⟩ ?_
        refine QM.then ?_
        refine wpM.seq ?_
        refine wpM.seq ?_
        refine wpM.joinK (α := Bool) (fun q4 => [(87, .bool q4)]) [] (fun q4 => []) (fun q4 => q4 = (decide ((secO xs i).2 < 1) || decide ((secO xs i).2 > (ls.getD (xs.getD i default).a.toNat default).cr) || fv && decide (((i + 1 + (secO xs i).1 : Nat) : Int) = n))) trivial ?_ ?_
        ·
         refine wpM.draw [(0, 0), (1, 1), (2, 0), (3, 0), (4, 0), (5, 1), (6, 0), (7, 0), (8, 1), (9, 0), (10, 0), (11, 1), (12, 0), (13, 0), (14, 0), (15, 0), (16, 1), (17, 0), (18, 0), (19, 1), (20, 0), (21, 1), (22, 0), (23, 0), (24, 0), (25, 0)] (by kernel_rfl) (by kernel_rfl) ?_
         refine LD.val rfl rfl (ov_field Tryz.underlying140 rfl Tryz.sizeOf3 rfl (k := 3) rfl rfl) ?_
         first | refine LD.rd rfl rfl (om_ld Tryz.isAgg3 rfl rfl) ?_
         refine LD.val rfl rfl (ov_lss rfl rfl) ?_
         refine LD.val rfl rfl (ov_move rfl) ?_
         refine LD.splitD (t := 65) rfl (fun h9 => ?_) (fun h9 => ?_)
         ·
          refine LD.drop rfl rfl ⟨65, _, rfl, rfl, rfl⟩ ?_
          refine LD.drop rfl rfl ⟨65, _, rfl, rfl, rfl⟩ ?_
          refine LD.drop rfl rfl ⟨65, _, rfl, rfl, rfl⟩ ?_
          refine LD.drop rfl rfl ⟨65, _, rfl, rfl, rfl⟩ ?_
          refine LD.drop rfl rfl ⟨65, _, rfl, rfl, rfl⟩ ?_
          refine LD.drop rfl rfl ⟨65, _, rfl, rfl, rfl⟩ ?_
          refine LD.drop rfl rfl ⟨65, _, rfl, rfl, rfl⟩ ?_
          refine LD.drop rfl rfl ⟨65, _, rfl, rfl, rfl⟩ ?_
          refine LD.drop rfl rfl ⟨65, _, rfl, rfl, rfl⟩ ?_
          refine LD.val rfl rfl (ov_pickT rfl rfl) ?_
          refine LD.val rfl rfl (ov_move rfl) ?_
          refine LD.drop rfl rfl ⟨76, _, rfl, rfl, rfl⟩ ?_
          refine LD.drop rfl rfl ⟨76, _, rfl, rfl, rfl⟩ ?_
          refine LD.dropU rfl rfl ⟨76, _, rfl, rfl, rfl⟩ ?_
          refine LD.dropX rfl rfl rfl rfl ?_
          refine LD.dropX rfl rfl rfl rfl ?_
          refine LD.dropX rfl rfl rfl rfl ?_
          refine LD.dropX rfl rfl rfl rfl ?_
          refine LD.dropX rfl rfl rfl rfl ?_
          refine LD.dropX rfl rfl rfl rfl ?_
          refine LD.drop rfl rfl ⟨76, _, rfl, rfl, rfl⟩ ?_
          refine LD.val rfl rfl (ov_pickT rfl rfl) ?_
          refine LD.nil ?_
          refine QM.sub (e' := [(87, _)]) ⟨rfl, trivial⟩ ?_
          refine QM.meetK (_) ⟨(by first | rfl | exact lk rfl (by congr 1; omega) | exact lk rfl (by simp)), trivial⟩ (by (repeat' (first | exact SubM.nil _ | refine SubM.cons rfl ?_ | refine SubM.app ?_))) ?_
          · simp only [h3, h5, h7, h8, h9, decide_true, decide_false, Bool.true_and, Bool.false_and, Bool.and_true, Bool.and_false, Bool.not_true, Bool.not_false, Bool.true_or, Bool.false_or, Bool.or_true, Bool.or_false, ne_eq, not_true_eq_false, not_false_eq_true, Bool.and_self]
         ·
          refine LD.val rfl ⟨65, _, rfl, rfl, rfl⟩ (ov_field Tryz.underlying140 rfl Tryz.sizeOf3 rfl (k := 3) rfl rfl) ?_
          first | refine LD.rd rfl ⟨65, _, rfl, rfl, rfl⟩ (om_ld Tryz.isAgg3 rfl rfl) ?_
          refine LD.val rfl ⟨65, _, rfl, rfl, rfl⟩ (ov_move rfl) ?_
          refine LD.val rfl ⟨65, _, rfl, rfl, rfl⟩ (ov_field Tryz.underlying135 rfl Tryz.sizeOf3 rfl (k := 1) rfl rfl) ?_
          first | refine LD.rd rfl ⟨65, _, rfl, rfl, rfl⟩ (om_ld Tryz.isAgg3 rfl rfl) ?_
          first | refine LD.val rfl ⟨65, _, rfl, rfl, rfl⟩ (ov_idxSN (by first | exact Sr.spt (by assumption) | exact Sl.spt (by assumption)) Tryz.underlying27 Tryz.sizeOf63 rfl rfl (by omega)) ?_ | refine LD.val rfl ⟨65, _, rfl, rfl, rfl⟩ (ov_idxS (by first | exact Sr.spt (by assumption) | exact Sl.spt (by assumption)) Tryz.underlying27 Tryz.sizeOf63 rfl rfl (by omega)) ?_ | refine LD.val rfl ⟨65, _, rfl, rfl, rfl⟩ (ov_idx Tryz.underlying27 Tryz.sizeOf63 rfl rfl (by omega)) ?_
          refine LD.val rfl ⟨65, _, rfl, rfl, rfl⟩ (ov_field Tryz.underlying63 rfl Tryz.sizeOf3 rfl (k := 2) rfl rfl) ?_
          first | refine LD.rd rfl ⟨65, _, rfl, rfl, rfl⟩ (om_slE (j := 2) (by assumption) (by intro _; rfl) Tryz.isAgg3 rfl rfl (by exact getq default (by first | omega | (simp only [List.length_set, List.length_append, List.length_cons, List.length_nil]; omega))) rfl (by rfl)) ?_ | refine LD.rdC rfl ⟨65, _, rfl, rfl, rfl⟩ (om_srE (j := 2) (by assumption) Tryz.isAgg3 rfl rfl (by exact getq default (by first | omega | (simp only [List.length_set, List.length_append, List.length_cons, List.length_nil]; omega))) (by rfl) (by rfl) id) ?_ | refine LD.rd rfl ⟨65, _, rfl, rfl, rfl⟩ (om_ld Tryz.isAgg3 rfl rfl) ?_
          refine LD.val rfl ⟨65, _, rfl, rfl, rfl⟩ (ov_gtr rfl rfl) ?_
          refine LD.val rfl rfl (ov_pickF rfl rfl) ?_
          refine LD.val rfl rfl (ov_move rfl) ?_
          refine LD.splitD (t := 76) rfl (fun h10 => ?_) (fun h10 => ?_)
          ·
           refine LD.drop rfl rfl ⟨76, _, rfl, rfl, rfl⟩ ?_
           refine LD.drop rfl rfl ⟨76, _, rfl, rfl, rfl⟩ ?_
           refine LD.dropU rfl rfl ⟨76, _, rfl, rfl, rfl⟩ ?_
           refine LD.dropX rfl rfl rfl rfl ?_
           refine LD.dropX rfl rfl rfl rfl ?_
           refine LD.dropX rfl rfl rfl rfl ?_
           refine LD.dropX rfl rfl rfl rfl ?_
           refine LD.dropX rfl rfl rfl rfl ?_
           refine LD.dropX rfl rfl rfl rfl ?_
           refine LD.drop rfl rfl ⟨76, _, rfl, rfl, rfl⟩ ?_
           refine LD.val rfl rfl (ov_pickT rfl rfl) ?_
           refine LD.nil ?_
           refine QM.sub (e' := [(87, _)]) ⟨rfl, trivial⟩ ?_
           refine QM.meetK (_) ⟨(by first | rfl | exact lk rfl (by congr 1; omega) | exact lk rfl (by simp)), trivial⟩ (by (repeat' (first | exact SubM.nil _ | refine SubM.cons rfl ?_ | refine SubM.app ?_))) ?_
           · simp only [h3, h5, h7, h8, h9, h10, decide_true, decide_false, Bool.true_and, Bool.false_and, Bool.and_true, Bool.and_false, Bool.not_true, Bool.not_false, Bool.true_or, Bool.false_or, Bool.or_true, Bool.or_false, ne_eq, not_true_eq_false, not_false_eq_true, Bool.and_self]
          ·
           refine LD.val rfl ⟨76, _, rfl, rfl, rfl⟩ (ov_field Tryz.underlying87 rfl Tryz.sizeOf4 rfl (k := 0) rfl rfl) ?_
           first | refine LD.rd rfl ⟨76, _, rfl, rfl, rfl⟩ (om_ld Tryz.isAgg4 rfl rfl) ?_
           refine LD.val rfl ⟨76, _, rfl, rfl, rfl⟩ (ov_move rfl) ?_
           first | refine LD.splitD (t := 79) rfl (fun h11 => ?_) (fun h11 => ?_) | refine LD.splitB (t := 79) rfl (fun h11 => ?_) (fun h11 => ?_)
           ·
            refine LD.val rfl ⟨79, _, rfl, rfl, rfl⟩ (ov_field Tryz.underlying140 rfl Tryz.sizeOf3 rfl (k := 1) rfl rfl) ?_
            first | refine LD.rd rfl ⟨79, _, rfl, rfl, rfl⟩ (om_ld Tryz.isAgg3 rfl rfl) ?_
            refine LD.val rfl ⟨79, _, rfl, rfl, rfl⟩ (ov_field Tryz.underlying87 rfl Tryz.sizeOf85 rfl (k := 1) rfl rfl) ?_
            first | refine LD.rd rfl ⟨79, _, rfl, rfl, rfl⟩ (om_ld Tryz.isAgg85 rfl rfl) ?_
            refine LD.val rfl ⟨79, _, rfl, rfl, rfl⟩ (ov_len Tryz.underlying85 rfl) ?_
            refine LD.val rfl ⟨79, _, rfl, rfl, rfl⟩ (ov_eql rfl rfl) ?_
            refine LD.val rfl ⟨76, _, rfl, rfl, rfl⟩ (ov_pickT rfl rfl) ?_
            refine LD.val rfl rfl (ov_pickF rfl rfl) ?_
            refine LD.nil ?_
            refine QM.sub (e' := [(87, _)]) ⟨rfl, trivial⟩ ?_
            refine QM.meetK (_) ⟨(by first | rfl | exact lk rfl (by congr 1; omega) | exact lk rfl (by simp)), trivial⟩ (by (repeat' (first | exact SubM.nil _ | refine SubM.cons rfl ?_ | refine SubM.app ?_))) ?_
            · simp only [h3, h5, h7, h8, h9, h10, h11, decide_true, decide_false, Bool.true_and, Bool.false_and, Bool.and_true, Bool.and_false, Bool.not_true, Bool.not_false, Bool.true_or, Bool.false_or, Bool.or_true, Bool.or_false, ne_eq, not_true_eq_false, not_false_eq_true, Bool.and_self]
           ·
            refine LD.drop rfl rfl ⟨79, _, rfl, rfl, rfl⟩ ?_
            refine LD.drop rfl rfl ⟨79, _, rfl, rfl, rfl⟩ ?_
            refine LD.drop rfl rfl ⟨79, _, rfl, rfl, rfl⟩ ?_
            refine LD.drop rfl rfl ⟨79, _, rfl, rfl, rfl⟩ ?_
            refine LD.drop rfl rfl ⟨79, _, rfl, rfl, rfl⟩ ?_
            refine LD.drop rfl rfl ⟨79, _, rfl, rfl, rfl⟩ ?_
            refine LD.val rfl ⟨76, _, rfl, rfl, rfl⟩ (ov_pickF rfl rfl) ?_
            refine LD.val rfl rfl (ov_pickF rfl rfl) ?_
            refine LD.nil ?_
            refine QM.sub (e' := [(87, _)]) ⟨rfl, trivial⟩ ?_
            refine QM.meetK (_) ⟨(by first | rfl | exact lk rfl (by congr 1; omega) | exact lk rfl (by simp)), trivial⟩ (by (repeat' (first | exact SubM.nil _ | refine SubM.cons rfl ?_ | refine SubM.app ?_))) ?_
            · simp only [h3, h5, h7, h8, h9, h10, h11, decide_true, decide_false, Bool.true_and, Bool.false_and, Bool.and_true, Bool.and_false, Bool.not_true, Bool.not_false, Bool.true_or, Bool.false_or, Bool.or_true, Bool.or_false, ne_eq, not_true_eq_false, not_false_eq_true, Bool.and_self]
        ·
         rintro q4 hq4
         change QM _ _ _ _ _ ([]) _ _ _
         refine QM.then ?_
         first | refine wpM.condD rfl (fun h12 => ?_) (fun h12 => ?_) | refine wpM.condB rfl (fun h12 => ?_) (fun h12 => ?_)
         ·
          refine wpM.seq ?_
          refine wpM.region ?_
          refine LM.val (ov_assign rfl) ?_
          refine LM.nil ?_
          refine QM.sub (e' := [(8, _)]) ⟨rfl, trivial⟩ ?_
          refine QM.then ?_
          refine wpM.ret ?_
          refine QM.then_ret ?_
          refine QM.leave (.inl rfl) [.tmp 8] Tryz.results130 rfl ?_
          intro w' hm' hc' hg'
          refine ⟨?_, hc'⟩; simp only [resV, fitsO, ← hn, ← hn2, ← hq, ← hq2, ← hq3, ← hq4]; simp only [h3, h5, h7, h8, h12, decide_true, decide_false, Bool.true_and, Bool.false_and, Bool.and_true, Bool.and_false, Bool.not_true, Bool.not_false, Bool.true_or, Bool.false_or, Bool.or_true, Bool.or_false, ne_eq, not_true_eq_false, not_false_eq_true, Bool.and_self, if_true, if_false, ite_true, Bool.false_eq_true]
         ·
          refine wpM.skip ?_
          refine QM.then ?_
          refine wpM.seq ?_
          refine wpM.region ?_
          refine LM.val (ov_assign rfl) ?_
          refine LM.nil ?_
          refine QM.sub (e' := [(8, _)]) ⟨rfl, trivial⟩ ?_
          refine QM.then ?_
          refine wpM.ret ?_
          refine QM.leave (.inl rfl) [.tmp 8] Tryz.results130 rfl ?_
          intro w' hm' hc' hg'
          refine ⟨?_, hc'⟩; simp only [resV, fitsO, ← hn, ← hn2, ← hq, ← hq2, ← hq3, ← hq4]; simp only [h3, h5, h7, h8, h12, decide_true, decide_false, Bool.true_and, Bool.false_and, Bool.and_true, Bool.and_false, Bool.not_true, Bool.not_false, Bool.true_or, Bool.false_or, Bool.or_true, Bool.or_false, ne_eq, not_true_eq_false, not_false_eq_true, Bool.and_self, if_true, if_false, ite_true, Bool.false_eq_true]

set_option maxRecDepth 100000 in
theorem each_specC (fv : Bool) (ad : Option Addr) (n cap : Nat) (w : World) : Ret Tryz.prog 129 #[pV fv ad n cap] w (fun v w' => Ext w w' ∧ ∃ m, EachTc fv ad n cap w.heap.size v m ∧ Mem w' m ∧ ∀ p ∈ m, w.heap.size ≤ p.1) := by
 refine Ret.enterM (l := [pV fv ad n cap]) Tryz.func129 rfl Tryz.ntmps129 rfl ([]) (no) (Mem.nil w) ?_
 refine wpM.seq ?_
 refine wpM.region ?_
 refine LM.box rfl rfl (fun b1 hb1 => ?_)
 refine LM.val (ov_assign rfl) ?_
 refine LM.nil ?_
 refine QM.sub (e' := [(1, _)]) ⟨rfl, trivial⟩ ?_
 refine QM.then ?_
 refine wpM.seq ?_
 refine wpM.region ?_
 refine LM.val (ov_makeFunc rfl) ?_
 refine LM.val (ov_assign rfl) ?_
 refine LM.nil ?_
 refine QM.sub (e' := [(2, _)]) ⟨rfl, trivial⟩ ?_
 refine QM.then ?_
 refine wpM.ret ?_
 refine QM.leave (.inl rfl) [.tmp 2] Tryz.results129 rfl ?_
 intro w' hm' hc' hg'
 exact ⟨hc', _, ⟨b1, rfl, rfl, hb1⟩, hm', fun p hp => by simp only [List.mem_cons, List.not_mem_nil, or_false] at hp; subst hp; assumption⟩

set_option maxRecDepth 100000 in
set_option maxHeartbeats 1000000 in
theorem each_seqC {xs : List COp} {fv : Bool} {ad : Option Addr} {n cap : Nat} {b1 : Nat} (hn : n = xs.length) (hx2 : xs.length ≤ 1000000000000) : SeqC Tryz.prog 150 #[.pointer (some ⟨b1, 0, none⟩)] (eachA xs) (fun w => Mem w [pB b1 fv ad n cap] ∧ Sr fO 3 xs (.slice ad n cap) w) (True) := by
 refine SeqC.enter (lb := [.pointer (some ⟨b1, 0, none⟩)]) Tryz.func150 rfl Tryz.ntmps150 rfl ?_
 intro l n0 J Jx w0 hfin hJr gJ gJx hy
 refine wpM.seq ?_
 refine wpM.region ?_
 refine LM.val (ov_field Tryz.underlying87 rfl Tryz.sizeOf85 rfl (k := 1) rfl rfl) ?_
 refine LM.rdC (fun w _ _ hg => om_load 0 Tryz.isAgg85 rfl rfl rfl w (hJr _ w hg).1) ?_
 refine LM.val (ov_len Tryz.underlying85 rfl) ?_
 refine LM.val (ov_move rfl) ?_
 refine LM.nil ?_
 refine QM.sub (e' := [(0, _), (6, _), (7, _), (8, _)]) ⟨rfl, rfl, rfl, rfl, trivial⟩ ?_
 refine QM.then ?_
 refine wpM.block ?_
 refine wpM.loopK (α := Nat) (fun i => [(8, .int .i64 (i : Nat))]) [(0, _), (6, _), (7, _)] (fun i => []) (fun i => J i) (fun i => i ≤ xs.length) (fun i => xs.length - i) (0) ⟨(by first | rfl | exact lk rfl (by congr 1; omega) | exact lk rfl (by simp)), rfl, rfl, rfl, trivial⟩ (by (repeat' (first | exact SubM.nil _ | refine SubM.cons rfl ?_ | refine SubM.app ?_))) (fun _ h => h) (Nat.zero_le _) ?_
 rintro i hi
 change wpM _ _ _ _ _ _ _ ([]) _ _ _
 refine wpM.seq ?_
 refine wpM.region ?_
 refine LM.val (ov_lss rfl rfl) ?_
 refine LM.nil ?_
 refine QM.sub (e' := [(0, _), (6, _), (7, _), (8, _), (9, _)]) ⟨rfl, rfl, rfl, rfl, rfl, trivial⟩ ?_
 refine QM.then ?_
 refine wpM.seq ?_
 refine wpM.condD rfl (fun h1 => ?_) (fun h1 => ?_)
 ·
  refine wpM.skip ?_
  refine QM.then ?_
  refine wpM.seq ?_
  refine wpM.block ?_
  refine wpM.seq ?_
  refine wpM.region ?_
  refine LM.val (ov_move rfl) ?_
  refine LM.know (fun w _ _ hg => (hJr _ w hg).2.spt) (fun hsp => ?_); refine LM.val (ov_idxSN hsp Tryz.underlying85 Tryz.sizeOf135 rfl rfl (by omega)) ?_
  refine LM.rdC (fun w hm hc hg => ow_srEA (hJr _ w hg).2 (by intro _; rfl) Tryz.isAgg135 Tryz.sizeOf135 rfl (getq default (by omega))) ?_
  refine LM.allocF Tryz.zeroValue135 rfl (fun b4 hb4 => ?_)
  refine LM.val (ov_assign rfl) ?_
  refine LM.stWF Tryz.sizeOf135 rfl rfl rfl rfl (by first | rfl | decide | (simp; done)) (fun hlt => absurd hlt (by omega)) (by omega) ?_
  refine LM.unF ?_
  refine LM.nil ?_
  refine QM.sub (e' := [(0, _), (3, _), (4, _), (6, _), (7, _), (8, _)]) ⟨rfl, rfl, rfl, rfl, rfl, rfl, trivial⟩ ?_
  refine QM.then ?_
  refine wpM.seq ?_
  refine wpM.region ?_
  refine LM.val (ov_move rfl) ?_
  refine LM.val (ov_move rfl) ?_
  refine LM.rd (om_ldW Tryz.isAgg135 Tryz.sizeOf135 rfl rfl) ?_
  refine LM.mem (M' := []) (fun w _ => Mem.nil w) ?_
  refine LM.yield (n := n0) (G1 := J (i + 1)) (G2 := Jx) rfl rfl (fun w hj => hy (i) _ w (eachA_get (by omega)) hj) (fun _ => trivial) ?_ ?_
  ·
   first | refine LM.val (ov_notD rfl) ?_ | refine LM.val (ov_not rfl) ?_
   refine LM.nil ?_
   refine QM.sub (e' := [(0, _), (6, _), (7, _), (8, _), (17, _)]) ⟨rfl, rfl, rfl, rfl, rfl, trivial⟩ ?_
   refine QM.then ?_
   refine wpM.condF rfl ?_
   refine wpM.skip ?_
   refine QM.block_normal ?_
   refine QM.then ?_
   refine wpM.region ?_
   refine LM.val (ov_add64 rfl rfl (by omega)) ?_
   refine LM.val (ov_move rfl) ?_
   refine LM.nil ?_
   refine QM.sub (e' := [(0, _), (6, _), (7, _), (8, _)]) ⟨rfl, rfl, rfl, rfl, trivial⟩ ?_
   refine QM.againK (i + 1) ⟨(by first | rfl | exact lk rfl (by congr 1; omega) | exact lk rfl (by simp)), rfl, rfl, rfl, trivial⟩ (by (repeat' (first | exact SubM.nil _ | refine SubM.cons rfl ?_ | refine SubM.app ?_))) (fun w h => h) ?_ ?_
   · omega
   · omega
  ·
   first | refine LM.val (ov_notD rfl) ?_ | refine LM.val (ov_not rfl) ?_
   refine LM.nil ?_
   refine QM.sub (e' := [(0, _), (6, _), (7, _), (8, _), (17, _)]) ⟨rfl, rfl, rfl, rfl, rfl, trivial⟩ ?_
   refine QM.then ?_
   refine wpM.condT rfl ?_
   refine wpM.ret ?_
   refine QM.block_ret ?_
   refine QM.then_ret ?_
   refine QM.then_ret ?_
   refine QM.block_ret ?_
   refine QM.leave (.inl rfl) [] Tryz.results150 rfl ?_
   intro w' hm' hc' hg'
   exact .inr hg'
 ·
  refine wpM.exit ?_
  refine QM.then_exit ?_
  refine QM.then_exit ?_
  refine QM.block_hit ?_
  refine QM.leave (.inr rfl) [] Tryz.results150 rfl ?_
  intro w' hm' hc' hg'
  first | exact .inr hg' | (have hil : i = xs.length := (by omega); subst hil; exact .inl (by rw [eachA_len]; exact hg'))

end Go.Eng
