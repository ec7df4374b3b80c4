/- The walk of the document's parser of programs. No condition. -/
import Derived.Test.YtoeojcnodjjpgaaDoorPgmD
set_option linter.unusedVariables false
set_option linter.unusedSimpArgs false
namespace Go.Eng
open Go Go.Proofs Go.RowKit

def kacc (ws : List Wrd) (i : Nat) : Nat → Int
  | 0 => 0
  | m + 1 => if isR ws i 1 (nmT ((m + 1 : Nat) : Int)) then ((m + 1 : Nat) : Int) else kacc ws i m
theorem nmT_nat {k : Nat} (h : k < 12) : nmT (k : Int) = nmW.getD k [] := by unfold nmT; rw [if_pos (by omega), Int.toNat_natCast]
theorem kacc_eq (ws : List Wrd) (i : Nat) : kacc ws i 11 = kindR ws i := by
  unfold kindR
  cases hc : (decide (i < ws.length) && decide ((ws.getD i default).k = 1)) with
  | false =>
    rw [if_neg (by simp)]
    have : ∀ m, kacc ws i m = 0 := by
      intro m
      induction m with
      | zero => rfl
      | succ m ih => unfold kacc isR; rw [hc, Bool.false_and, if_neg (by simp), ih]
    exact this 11
  | true =>
    rw [if_pos rfl, ← refK_eq]
    have : ∀ m, m ≤ 11 → kacc ws i m = refK (ws.getD i default).t m := by
      intro m
      induction m with
      | zero => intro _; rfl
      | succ m ih =>
        intro hm
        unfold kacc refK isR; rw [hc, Bool.true_and, ih (by omega), nmT_nat (by omega)]
        by_cases q : (ws.getD i default).t = nmW.getD (m + 1) []
        · rw [if_pos q, if_pos (decide_eq_true q)]
        · rw [if_neg q, if_neg (by rw [decide_eq_false q]; simp)]
    exact this 11 (Nat.le_refl _)
theorem kacc_t {ws : List Wrd} {i k : Nat} (h1 : 1 ≤ k) (h : isR ws i 1 (nmT (k : Int)) = true) : kacc ws i k = (k : Int) := by
  obtain ⟨m, rfl⟩ : ∃ m, k = m + 1 := ⟨k - 1, by omega⟩
  unfold kacc; rw [if_pos h]
theorem kacc_f {ws : List Wrd} {i k : Nat} (h1 : 1 ≤ k) (h : isR ws i 1 (nmT (k : Int)) = false) : kacc ws i k = kacc ws i (k - 1) := by
  obtain ⟨m, rfl⟩ : ∃ m, k = m + 1 := ⟨k - 1, by omega⟩
  rw [show m + 1 - 1 = m by omega]
  conv => lhs; unfold kacc
  rw [if_neg (by rw [h]; simp)]
theorem body_a {ws : List Wrd} {i : Nat} (h : isR ws i 1 wProg = false) : bodyR ws i = ([], (i : Int), 5) := by unfold bodyR; rw [if_neg (by rw [h]; simp)]
theorem body_b {ws : List Wrd} {i : Nat} (h : isR ws i 1 wProg = true) (h2 : isR ws (headR ws i).2 3 [123] = false) : bodyR ws i = ([], ((headR ws i).2 : Int), 5) := by unfold bodyR; rw [if_pos h, if_neg (by rw [h2]; simp)]
theorem body_c {ws : List Wrd} {i : Nat} (h : isR ws i 1 wProg = true) (h2 : isR ws (headR ws i).2 3 [123] = true) : loopR ws ((headR ws i).2 + 1) [] = bodyR ws i := by unfold bodyR; rw [if_pos h, if_pos h2]
theorem nR1 {ws : List Wrd} {i : Nat} {lo hi : Int} (h : lo = -1) : numR ws i lo hi = (i, 0, 0) := by unfold numR; rw [if_pos h]
theorem nR2 {ws : List Wrd} {i : Nat} {lo hi : Int} (h : ¬ lo = -1) (h2 : ws.length ≤ i ∨ (ws.getD i default).k ≠ 2) : numR ws i lo hi = (i, 5, 0) := by
  unfold numR; rw [if_neg h, if_pos (by simp only [Bool.or_eq_true, decide_eq_true_eq]; exact h2)]
theorem nR3 {ws : List Wrd} {i : Nat} {lo hi : Int} (h : ¬ lo = -1) (h2 : i < ws.length) (h3 : (ws.getD i default).k = 2) (h4 : (ws.getD i default).n < lo ∨ hi < (ws.getD i default).n) : numR ws i lo hi = (i, 1, 0) := by
  unfold numR hasB; rw [if_neg h, if_neg (by simp only [Bool.or_eq_true, decide_eq_true_eq, not_or]; exact ⟨by omega, fun q => q h3⟩), if_neg h, if_neg (by simp only [Bool.and_eq_true, decide_eq_true_eq]; omega)]
theorem nR4 {ws : List Wrd} {i : Nat} {lo hi : Int} (h : ¬ lo = -1) (h2 : i < ws.length) (h3 : (ws.getD i default).k = 2) (h4 : lo ≤ (ws.getD i default).n ∧ (ws.getD i default).n ≤ hi) : numR ws i lo hi = (i + 1, 0, (ws.getD i default).n) := by
  unfold numR hasB; rw [if_neg h, if_neg (by simp only [Bool.or_eq_true, decide_eq_true_eq, not_or]; exact ⟨by omega, fun q => q h3⟩), if_neg h, if_pos (by simp only [Bool.and_eq_true, decide_eq_true_eq]; exact h4)]
theorem opB_of {ws : List Wrd} {i j : Nat} {a : Int} (h : opA ws i = (j, 0, a)) : opB ws i = numR ws j (loB (kindR ws i)) (hiB (kindR ws i)) := by unfold opB num2; rw [h, if_neg (by simp)]
theorem opR_Ab {ws : List Wrd} {i j ah : Nat} {e a : Int} (h1 : kindR ws i ≠ 0) (h2 : ah < 12) (h : opA ws i = (j, e, a)) (he : e ≠ 0) : (opR ws i ah).1 = j ∧ (opR ws i ah).2.1 = e := by
  have hB : opB ws i = (j, e, 0) := by unfold opB num2; rw [h, if_pos he]
  unfold opR; rw [if_neg h1, if_neg (by omega), hB, if_pos he]; exact ⟨rfl, rfl⟩
theorem opR_Bb {ws : List Wrd} {i j ah : Nat} {e b : Int} (h1 : kindR ws i ≠ 0) (h2 : ah < 12) (h : opB ws i = (j, e, b)) (he : e ≠ 0) : (opR ws i ah).1 = j ∧ (opR ws i ah).2.1 = e := by
  unfold opR; rw [if_neg h1, if_neg (by omega), h, if_pos he]; exact ⟨rfl, rfl⟩
theorem opR_sb {ws : List Wrd} {i j ah : Nat} {b : Int} (h1 : kindR ws i ≠ 0) (h2 : ah < 12) (h : opB ws i = (j, 0, b)) (he : isR ws j 3 [59] = false) : (opR ws i ah).1 = j ∧ (opR ws i ah).2.1 = 5 := by
  unfold opR; rw [if_neg h1, if_neg (by omega), h, if_neg (by simp), if_neg (by rw [he]; simp)]; exact ⟨rfl, rfl⟩
theorem opR_ok {ws : List Wrd} {i j ah : Nat} {a b : Int} (h1 : kindR ws i ≠ 0) (h2 : ah < 12) (hA : (opA ws i).2.2 = a) (h : opB ws i = (j, 0, b)) (he : isR ws j 3 [59] = true) : opR ws i ah = (j + 1, 0, ⟨kindR ws i, a, b⟩) := by
  unfold opR; rw [if_neg h1, if_neg (by omega), h, if_neg (by simp), if_pos he, hA]
theorem bad_of {ws : List Wrd} {R : List COp × Int × Int} {i j : Nat} {e : Int} {ops : List COp} (h : loopR ws i ops = R) (hn : isR ws i 3 [125] = false) (h1 : (opR ws i ops.length).1 = j ∧ (opR ws i ops.length).2.1 = e) (he : e ≠ 0) : R = ([], (j : Int), e) := by
  rw [← h, loopR_bad hn (by rw [h1.2]; exact he), h1.1, h1.2]
theorem fin_ok2 {ws : List Wrd} {i0 : Nat} {i : Int} {n0 : Nat} {ops : List COp} {ad : Option Addr} {n cap : Nat} {m : Mem0} (hi : i0 ≤ ws.length) (h : bodyR ws i0 = (ops, i, 0)) (hn : n = ops.length) (hs : Sl fO 69 3 n0 ops (.slice ad n cap) m) : ParT (parseO ws (i0 : Int)) n0 (.tuple #[.agg #[.bool (headR ws i0).1, .slice ad n cap], .int .i64 i, .int .i64 0]) m := by
  rw [parse_nat hi, h]; exact ⟨ad, n, cap, rfl, hn, hs⟩
/-- what is known between an op's numbers -/
def NumI (ws : List Wrd) (i k j : Nat) (lo hi a b : Int) : Prop :=
  k ≤ 2 ∧ j ≤ ws.length ∧ (k = 0 → j = i + 1 ∧ lo = loA (kindR ws i) ∧ hi = hiA (kindR ws i) ∧ a = 0 ∧ b = 0) ∧ (k = 1 → opA ws i = (j, 0, a) ∧ b = 0) ∧ (k = 2 → (opA ws i).2.2 = a ∧ opB ws i = (j, 0, b))
theorem NumI.skip {ws : List Wrd} {i k j : Nat} {lo hi a b : Int} (h : NumI ws i k j lo hi a b) (hq : (k = 0 ∧ lo < 0) ∨ (k = 1 ∧ kindR ws i ≠ 5)) : NumI ws i (k + 1) j lo hi a b := by
  obtain ⟨h1, h2, h3, h4, h5⟩ := h
  rcases hq with ⟨rfl, hq⟩ | ⟨rfl, hq⟩
  · obtain ⟨e1, e2, e3, e4, e5⟩ := h3 rfl
    subst e1; subst e4; subst e5; subst e2; subst e3
    have := loA_cases (kindR ws i)
    exact ⟨by omega, h2, fun q => by omega, fun _ => ⟨nR1 (by omega), rfl⟩, fun q => by omega⟩
  · obtain ⟨e1, e2⟩ := h4 rfl
    subst e2
    exact ⟨by omega, h2, fun q => by omega, fun q => by omega, fun _ => ⟨by rw [e1], by rw [opB_of e1, nR1 (by unfold loB; rw [if_neg hq])]⟩⟩
theorem NumI.take0 {ws : List Wrd} {i j : Nat} {lo hi a b : Int} (h : NumI ws i 0 j lo hi a b) (hq : ¬ lo < 0) (h2 : j < ws.length) (h3 : (ws.getD j default).k = 2) (h4 : lo ≤ (ws.getD j default).n ∧ (ws.getD j default).n ≤ hi) : NumI ws i 1 (j + 1) lo hi (ws.getD j default).n b := by
  obtain ⟨h1, _, h5, _, _⟩ := h
  obtain ⟨e1, e2, e3, e4, e5⟩ := h5 rfl
  subst e1; subst e2; subst e3; subst e5
  exact ⟨by omega, h2, fun q => by omega, fun _ => ⟨nR4 (by omega) h2 h3 h4, rfl⟩, fun q => by omega⟩
theorem NumI.take1 {ws : List Wrd} {i j : Nat} {lo hi lo' hi' a b : Int} (h : NumI ws i 1 j lo hi a b) (hq : kindR ws i = 5) (h2 : j < ws.length) (h3 : (ws.getD j default).k = 2) (h4 : 1 ≤ (ws.getD j default).n ∧ (ws.getD j default).n ≤ 64) : NumI ws i 2 (j + 1) lo' hi' a (ws.getD j default).n := by
  obtain ⟨h1, _, _, h5, _⟩ := h
  obtain ⟨e1, e2⟩ := h5 rfl
  exact ⟨by omega, h2, fun q => by omega, fun q => by omega, fun _ => ⟨by rw [e1], by rw [opB_of e1]; unfold loB hiB; rw [if_pos hq, if_pos hq]; exact nR4 (by decide) h2 h3 h4⟩⟩
theorem NumI.bad {ws : List Wrd} {i k j ah : Nat} {lo hi a b e : Int} (h : NumI ws i k j lo hi a b) (hk : k < 2) (h1 : kindR ws i ≠ 0) (h2 : ah < 12) (hq : ¬ ((k = 0 ∧ lo < 0) ∨ (k = 1 ∧ kindR ws i ≠ 5))) (he : e ≠ 0)
    (h3 : (e = 5 ∧ (ws.length ≤ j ∨ (ws.getD j default).k ≠ 2)) ∨ (e = 1 ∧ j < ws.length ∧ (ws.getD j default).k = 2 ∧ ((k = 0 ∧ ((ws.getD j default).n < lo ∨ hi < (ws.getD j default).n)) ∨ (k = 1 ∧ ((ws.getD j default).n < 1 ∨ 64 < (ws.getD j default).n))))) : (opR ws i ah).1 = j ∧ (opR ws i ah).2.1 = e := by
  obtain ⟨_, _, h5, h6, _⟩ := h
  have : k = 0 ∨ k = 1 := by omega
  rcases this with rfl | rfl
  · obtain ⟨e1, e2, e3, e4, e5⟩ := h5 rfl
    subst e1; subst e2; subst e3
    have hlo : ¬ loA (kindR ws i) = -1 := by omega
    rcases h3 with ⟨rfl, h3⟩ | ⟨rfl, a1, a2, a3⟩
    · exact opR_Ab h1 h2 (nR2 hlo h3) he
    · rcases a3 with ⟨_, a3⟩ | ⟨a3, _⟩
      · exact opR_Ab h1 h2 (nR3 hlo a1 a2 a3) he
      · cases a3
  · obtain ⟨e1, e2⟩ := h6 rfl
    have h5' : kindR ws i = 5 := by omega
    have e3 := opB_of e1
    unfold loB hiB at e3; rw [if_pos h5', if_pos h5'] at e3
    rcases h3 with ⟨rfl, h3⟩ | ⟨rfl, a1, a2, a3⟩
    · exact opR_Bb h1 h2 (e3.trans (nR2 (by decide) h3)) he
    · rcases a3 with ⟨a3, _⟩ | ⟨_, a3⟩
      · cases a3
      · exact opR_Bb h1 h2 (e3.trans (nR3 (by decide) a1 a2 a3)) he
set_option maxRecDepth 100000 in
theorem ris_spec {ws : List Wrd} {ad : Option Addr} {n cap : Nat} (i : Nat) (k : Int) (t : List UInt8) (w : World) (hn : n = ws.length) (hl : Sr fW 4 ws (.slice ad n cap) w) : Ret Tryd.prog 63 #[.slice ad n cap, .int .i64 (i : Nat), .int .i64 k, vS t] w (fun v w' => v = .bool (isR ws i k t) ∧ Ext w w') := by
  refine Ret.enterM (l := [.slice ad n cap, .int .i64 (i : Nat), .int .i64 k, vS t]) Tryd.func63 rfl Tryd.ntmps63 rfl ([]) (no) (Mem.nil w) ?_
  refine wpM.seq ?_
  refine wpM.region ?_
  refine LM.val (ov_assign rfl) ?_
  refine LM.nil ?_
  refine QM.sub (e' := [(0, _), (1, _), (2, _), (3, _)]) ⟨rfl, rfl, rfl, rfl, trivial⟩ ?_
  refine QM.then ?_
  refine wpM.seq ?_
  refine wpM.region ?_
  refine LM.val (ov_move rfl) ?_
  refine LM.val (ov_move rfl) ?_
  refine LM.val (ov_len Tryd.underlying24 rfl) ?_
  refine LM.val (ov_lss rfl rfl) ?_
  refine LM.val (ov_move rfl) ?_
  first | refine LM.splitD (t := 13) rfl (fun h1 => ?_) (fun h1 => ?_) | refine LM.splitB (t := 13) rfl (fun h1 => ?_) (fun h1 => ?_)
  ·
    refine LM.strip (t := 13) rfl rfl rfl ?_
    refine LM.val (ov_move rfl) ?_
    refine LM.strip (t := 13) rfl rfl rfl ?_
    refine LM.val (ov_move rfl) ?_
    refine LM.strip (t := 13) rfl rfl rfl ?_
    first | refine LM.val (ov_idxSN (by first | exact Sr.spt (by assumption) | exact Sl.spt (by assumption)) Tryd.underlying24 Tryd.sizeOf72 rfl rfl (by omega)) ?_ | refine LM.val (ov_idxS (by first | exact Sr.spt (by assumption) | exact Sl.spt (by assumption)) Tryd.underlying24 Tryd.sizeOf72 rfl rfl (by omega)) ?_ | refine LM.val (ov_idx Tryd.underlying24 Tryd.sizeOf72 rfl rfl (by omega)) ?_
    refine LM.strip (t := 13) rfl rfl rfl ?_
    refine LM.val (ov_field Tryd.underlying72 rfl Tryd.sizeOf3 rfl (k := 0) rfl rfl) ?_
    refine LM.strip (t := 13) rfl rfl rfl ?_
    first | refine LM.rd (om_slE (j := 0) (by assumption) (by intro _; rfl) Tryd.isAgg3 rfl rfl (by exact getq default (by first | omega | (simp only [List.length_set, List.length_append, List.length_cons, List.length_nil]; omega))) rfl (by rfl)) ?_ | refine LM.rdC (om_srE (j := 0) (by assumption) Tryd.isAgg3 rfl rfl (by exact getq default (by first | omega | (simp only [List.length_set, List.length_append, List.length_cons, List.length_nil]; omega))) (by rfl) (by rfl) id) ?_ | refine LM.rd (om_ld Tryd.isAgg3 rfl rfl) ?_
    refine LM.strip (t := 13) rfl rfl rfl ?_
    refine LM.val (ov_move rfl) ?_
    refine LM.strip (t := 13) rfl rfl rfl ?_
    refine LM.val (ov_eql rfl rfl) ?_
    refine LM.val (ov_pickT rfl rfl) ?_
    refine LM.val (ov_move rfl) ?_
    first | refine LM.splitD (t := 22) rfl (fun h2 => ?_) (fun h2 => ?_) | refine LM.splitB (t := 22) rfl (fun h2 => ?_) (fun h2 => ?_)
    ·
      refine LM.strip (t := 22) rfl rfl rfl ?_
      refine LM.val (ov_move rfl) ?_
      refine LM.strip (t := 22) rfl rfl rfl ?_
      refine LM.val (ov_move rfl) ?_
      refine LM.strip (t := 22) rfl rfl rfl ?_
      first | refine LM.val (ov_idxSN (by first | exact Sr.spt (by assumption) | exact Sl.spt (by assumption)) Tryd.underlying24 Tryd.sizeOf72 rfl rfl (by omega)) ?_ | refine LM.val (ov_idxS (by first | exact Sr.spt (by assumption) | exact Sl.spt (by assumption)) Tryd.underlying24 Tryd.sizeOf72 rfl rfl (by omega)) ?_ | refine LM.val (ov_idx Tryd.underlying24 Tryd.sizeOf72 rfl rfl (by omega)) ?_
      refine LM.strip (t := 22) rfl rfl rfl ?_
      refine LM.val (ov_field Tryd.underlying72 rfl Tryd.sizeOf9 rfl (k := 1) rfl rfl) ?_
      refine LM.strip (t := 22) rfl rfl rfl ?_
      first | refine LM.rd (om_slE (j := 1) (by assumption) (by intro _; rfl) Tryd.isAgg9 rfl rfl (by exact getq default (by first | omega | (simp only [List.length_set, List.length_append, List.length_cons, List.length_nil]; omega))) rfl (by rfl)) ?_ | refine LM.rdC (om_srE (j := 1) (by assumption) Tryd.isAgg9 rfl rfl (by exact getq default (by first | omega | (simp only [List.length_set, List.length_append, List.length_cons, List.length_nil]; omega))) (by rfl) (by rfl) id) ?_ | refine LM.rd (om_ld Tryd.isAgg9 rfl rfl) ?_
      refine LM.strip (t := 22) rfl rfl rfl ?_
      refine LM.val (ov_move rfl) ?_
      refine LM.strip (t := 22) rfl rfl rfl ?_
      refine LM.val (ov_seqlL rfl rfl) ?_
      refine LM.val (ov_pickT rfl rfl) ?_
      refine LM.val (ov_assign rfl) ?_
      refine LM.nil ?_
      refine QM.sub (e' := [(8, _)]) ⟨rfl, trivial⟩ ?_
      refine QM.then ?_
      refine wpM.ret ?_
      refine QM.leave (.inl rfl) [.tmp 8] Tryd.results63 rfl ?_
      intro w' hm' hc' hg'
      -- leaf 1: h1+ h2+
      refine ⟨?_, hc'⟩; simp only [resV, isR]; rw [decide_eq_true (show i < ws.length by omega), decide_eq_true h2]; simp only [Bool.true_and]
    ·
      refine LM.drop (t := 22) rfl rfl rfl ?_
      refine LM.drop (t := 22) rfl rfl rfl ?_
      refine LM.drop (t := 22) rfl rfl rfl ?_
      refine LM.drop (t := 22) rfl rfl rfl ?_
      refine LM.drop (t := 22) rfl rfl rfl ?_
      refine LM.drop (t := 22) rfl rfl rfl ?_
      refine LM.drop (t := 22) rfl rfl rfl ?_
      refine LM.val (ov_pickF rfl rfl) ?_
      refine LM.val (ov_assign rfl) ?_
      refine LM.nil ?_
      refine QM.sub (e' := [(8, _)]) ⟨rfl, trivial⟩ ?_
      refine QM.then ?_
      refine wpM.ret ?_
      refine QM.leave (.inl rfl) [.tmp 8] Tryd.results63 rfl ?_
      intro w' hm' hc' hg'
      -- leaf 2: h1+ h2-
      refine ⟨?_, hc'⟩; simp only [resV, isR]; rw [decide_eq_false h2]; simp only [Bool.and_false, Bool.false_and]
  ·
    refine LM.drop (t := 13) rfl rfl rfl ?_
    refine LM.drop (t := 13) rfl rfl rfl ?_
    refine LM.drop (t := 13) rfl rfl rfl ?_
    refine LM.drop (t := 13) rfl rfl rfl ?_
    refine LM.drop (t := 13) rfl rfl rfl ?_
    refine LM.drop (t := 13) rfl rfl rfl ?_
    refine LM.drop (t := 13) rfl rfl rfl ?_
    refine LM.val (ov_pickF rfl rfl) ?_
    refine LM.val (ov_move rfl) ?_
    refine LM.drop (t := 22) rfl rfl rfl ?_
    refine LM.drop (t := 22) rfl rfl rfl ?_
    refine LM.drop (t := 22) rfl rfl rfl ?_
    refine LM.drop (t := 22) rfl rfl rfl ?_
    refine LM.drop (t := 22) rfl rfl rfl ?_
    refine LM.drop (t := 22) rfl rfl rfl ?_
    refine LM.drop (t := 22) rfl rfl rfl ?_
    refine LM.val (ov_pickF rfl rfl) ?_
    refine LM.val (ov_assign rfl) ?_
    refine LM.nil ?_
    refine QM.sub (e' := [(8, _)]) ⟨rfl, trivial⟩ ?_
    refine QM.then ?_
    refine wpM.ret ?_
    refine QM.leave (.inl rfl) [.tmp 8] Tryd.results63 rfl ?_
    intro w' hm' hc' hg'
    -- leaf 3: h1-
    refine ⟨?_, hc'⟩; simp only [resV, isR]; rw [decide_eq_false (show ¬ i < ws.length by omega)]; simp only [Bool.and_false, Bool.false_and]

set_option maxRecDepth 100000 in
set_option maxHeartbeats 1000000 in
theorem rparse_spec {ws : List Wrd} {ad : Option Addr} {n cap : Nat} (p : Int) (w : World) (hn : n = ws.length) (hx : ws.length ≤ 1000000000) (hl : Sr fW 4 ws (.slice ad n cap) w) : Ret Tryd.prog 27 #[.slice ad n cap, .int .i64 p] w (fun v w' => Ext w w' ∧ ∃ m, ParT (parseO ws p) w.heap.size v m ∧ Mem w' m ∧ ∀ p ∈ m, w.heap.size ≤ p.1) := by
  refine Ret.enterM (l := [.slice ad n cap, .int .i64 p]) Tryd.func27 rfl Tryd.ntmps27 rfl ([]) (no) (Mem.nil w) ?_
  refine wpM.seq ?_
  refine wpM.region ?_
  refine LM.alloc Tryd.zeroValue53 rfl (fun b4 hb4 => ?_)
  refine LM.val (ov_assign rfl) ?_
  refine LM.val (ov_assign rfl) ?_
  refine LM.nil ?_
  refine QM.sub (e' := [(0, _), (1, _), (4, _)]) ⟨rfl, rfl, rfl, trivial⟩ ?_
  refine QM.then ?_
  refine wpM.seq ?_
  refine wpM.region ?_
  refine LM.val (ov_build (cs := #[_, _]) rfl (by first | rfl | kernel_rfl)) ?_
  refine LM.alloc Tryd.zeroValue53 rfl (fun b7 hb7 => ?_)
  first | refine LM.stW Tryd.sizeOf53 rfl rfl rfl rfl (by first | rfl | decide | (simp; done)) (fun hlt => absurd hlt (by omega)) ?_ | refine LM.st Tryd.sizeOf53 rfl rfl rfl (by first | decide | exact Nat.le_of_ble_eq_true rfl | (simp; done) | (simp; omega)) rfl (fun hlt => absurd hlt (by omega)) ?_
  refine LM.nil ?_
  refine QM.sub (e' := [(0, _), (1, _), (4, _), (7, _)]) ⟨rfl, rfl, rfl, rfl, trivial⟩ ?_
  refine QM.then ?_
  refine wpM.seq ?_
  refine wpM.seq ?_
  refine wpM.region ?_
  refine LM.val (ov_move rfl) ?_
  refine LM.val (ov_lss rfl rfl) ?_
  refine LM.val (ov_move rfl) ?_
  first | refine LM.splitD (t := 18) rfl (fun h1 => ?_) (fun h1 => ?_) | refine LM.splitB (t := 18) rfl (fun h1 => ?_) (fun h1 => ?_)
  ·
    refine LM.drop (t := 18) rfl rfl rfl ?_
    refine LM.drop (t := 18) rfl rfl rfl ?_
    refine LM.drop (t := 18) rfl rfl rfl ?_
    refine LM.drop (t := 18) rfl rfl rfl ?_
    refine LM.val (ov_pickT rfl rfl) ?_
    refine LM.nil ?_
    refine QM.sub (e' := [(0, _), (1, _), (4, _), (7, _), (23, _)]) ⟨rfl, rfl, rfl, rfl, rfl, trivial⟩ ?_
    refine QM.then ?_
    refine wpM.condT rfl ?_
    refine wpM.seq ?_
    refine wpM.region ?_
    first | refine LM.rd (om_ldW Tryd.isAgg53 Tryd.sizeOf53 rfl rfl) ?_ | refine LM.rd (om_ldA Tryd.isAgg53 Tryd.sizeOf53 rfl (vs := [_, _]) rfl ⟨rfl, rfl, trivial⟩) ?_
    first | refine LM.stW Tryd.sizeOf53 rfl rfl rfl rfl (by first | rfl | decide | (simp; done)) (fun hlt => absurd hlt (by omega)) ?_ | refine LM.st Tryd.sizeOf53 rfl rfl rfl (by first | decide | exact Nat.le_of_ble_eq_true rfl | (simp; done) | (simp; omega)) rfl (fun hlt => absurd hlt (by omega)) ?_
    refine LM.val (ov_assign rfl) ?_
    refine LM.val (ov_assign rfl) ?_
    refine LM.nil ?_
    refine QM.sub (e' := [(4, _), (5, _), (6, _)]) ⟨rfl, rfl, rfl, trivial⟩ ?_
    refine QM.then ?_
    refine wpM.ret ?_
    refine QM.then_ret ?_
    refine QM.leaveCs (ds := ([])) (.inl rfl) [.cell 4 53, .tmp 5, .tmp 6] Tryd.results27 hd_nil (rc_w rfl Tryd.isAgg53 Tryd.sizeOf53 rfl (rc_tmp rfl (rc_tmp rfl rc_nil))) ?_
    intro w' hm' hc'
    -- leaf 1: h1+
    have hpar : parseO ws p = (false, [], 0, 5) := (by unfold parseO; rw [if_pos (by omega)]); rw [hpar]; exact ⟨hc', [], ⟨none, 0, 0, rfl, rfl, .nil _ _ _ _⟩, Mem.nil _, fun p hp => by cases hp⟩
  ·
    refine LM.strip (t := 18) rfl rfl rfl ?_
    refine LM.val (ov_move rfl) ?_
    refine LM.strip (t := 18) rfl rfl rfl ?_
    refine LM.val (ov_move rfl) ?_
    refine LM.strip (t := 18) rfl rfl rfl ?_
    refine LM.val (ov_len Tryd.underlying24 rfl) ?_
    refine LM.strip (t := 18) rfl rfl rfl ?_
    refine LM.val (ov_gtr rfl rfl) ?_
    refine LM.val (ov_pickF rfl rfl) ?_
    refine LM.nil ?_
    refine QM.sub (e' := [(0, _), (1, _), (4, _), (7, _), (23, _)]) ⟨rfl, rfl, rfl, rfl, rfl, trivial⟩ ?_
    refine QM.then ?_
    first | refine wpM.condD rfl (fun h2 => ?_) (fun h2 => ?_) | refine wpM.condB rfl (fun h2 => ?_) (fun h2 => ?_)
    ·
      refine wpM.seq ?_
      refine wpM.region ?_
      first | refine LM.rd (om_ldW Tryd.isAgg53 Tryd.sizeOf53 rfl rfl) ?_ | refine LM.rd (om_ldA Tryd.isAgg53 Tryd.sizeOf53 rfl (vs := [_, _]) rfl ⟨rfl, rfl, trivial⟩) ?_
      first | refine LM.stW Tryd.sizeOf53 rfl rfl rfl rfl (by first | rfl | decide | (simp; done)) (fun hlt => absurd hlt (by omega)) ?_ | refine LM.st Tryd.sizeOf53 rfl rfl rfl (by first | decide | exact Nat.le_of_ble_eq_true rfl | (simp; done) | (simp; omega)) rfl (fun hlt => absurd hlt (by omega)) ?_
      refine LM.val (ov_assign rfl) ?_
      refine LM.val (ov_assign rfl) ?_
      refine LM.nil ?_
      refine QM.sub (e' := [(4, _), (5, _), (6, _)]) ⟨rfl, rfl, rfl, trivial⟩ ?_
      refine QM.then ?_
      refine wpM.ret ?_
      refine QM.then_ret ?_
      refine QM.leaveCs (ds := ([])) (.inl rfl) [.cell 4 53, .tmp 5, .tmp 6] Tryd.results27 hd_nil (rc_w rfl Tryd.isAgg53 Tryd.sizeOf53 rfl (rc_tmp rfl (rc_tmp rfl rc_nil))) ?_
      intro w' hm' hc'
      -- leaf 2: h1- h2+
      have hpar : parseO ws p = (false, [], 0, 5) := (by unfold parseO; rw [if_pos (by omega)]); rw [hpar]; exact ⟨hc', [], ⟨none, 0, 0, rfl, rfl, .nil _ _ _ _⟩, Mem.nil _, fun p hp => by cases hp⟩
    ·
      obtain ⟨i0, rfl⟩ : ∃ i0 : Nat, p = (i0 : Nat) := ⟨p.toNat, by omega⟩; have hi0 : i0 ≤ ws.length := (by omega)
      refine wpM.skip ?_
      refine QM.then ?_
      refine wpM.seq ?_
      refine wpM.seq ?_
      refine wpM.region ?_
      refine LM.val (ov_move rfl) ?_
      refine LM.val (ov_move rfl) ?_
      refine LM.callE (oc_call (enters_fn Tryd.func63 (by kernel_rfl) rfl) rfl) (fun w hm hc hg => ris_spec i0 1 wProg w hn (hl.ext hc)) ?_
      first | refine LM.val (ov_notD rfl) ?_ | refine LM.val (ov_not rfl) ?_
      refine LM.nil ?_
      refine QM.sub (e' := [(0, _), (1, _), (4, _), (7, _), (28, _)]) ⟨rfl, rfl, rfl, rfl, rfl, trivial⟩ ?_
      refine QM.then ?_
      first | refine wpM.condD rfl (fun h3 => ?_) (fun h3 => ?_) | refine wpM.condB rfl (fun h3 => ?_) (fun h3 => ?_)
      ·
        refine wpM.seq ?_
        refine wpM.region ?_
        first | refine LM.rd (om_ldW Tryd.isAgg53 Tryd.sizeOf53 rfl rfl) ?_ | refine LM.rd (om_ldA Tryd.isAgg53 Tryd.sizeOf53 rfl (vs := [_, _]) rfl ⟨rfl, rfl, trivial⟩) ?_
        refine LM.val (ov_move rfl) ?_
        first | refine LM.stW Tryd.sizeOf53 rfl rfl rfl rfl (by first | rfl | decide | (simp; done)) (fun hlt => absurd hlt (by omega)) ?_ | refine LM.st Tryd.sizeOf53 rfl rfl rfl (by first | decide | exact Nat.le_of_ble_eq_true rfl | (simp; done) | (simp; omega)) rfl (fun hlt => absurd hlt (by omega)) ?_
        refine LM.val (ov_assign rfl) ?_
        refine LM.val (ov_assign rfl) ?_
        refine LM.nil ?_
        refine QM.sub (e' := [(4, _), (5, _), (6, _)]) ⟨rfl, rfl, rfl, trivial⟩ ?_
        refine QM.then ?_
        refine wpM.ret ?_
        refine QM.then_ret ?_
        refine QM.leaveCs (ds := ([])) (.inl rfl) [.cell 4 53, .tmp 5, .tmp 6] Tryd.results27 hd_nil (rc_w rfl Tryd.isAgg53 Tryd.sizeOf53 rfl (rc_tmp rfl (rc_tmp rfl rc_nil))) ?_
        intro w' hm' hc'
        -- leaf 3: h1- h2- h3+
        exact ⟨hc', [], fin_bad hi0 (body_a (by simpa using h3)) (by decide), Mem.nil _, fun p hp => by cases hp⟩
      ·
        have hp : isR ws i0 1 wProg = true := (by simpa using h3)
        refine wpM.skip ?_
        refine QM.then ?_
        refine wpM.seq ?_
        refine wpM.region ?_
        refine LM.val (ov_move rfl) ?_
        refine LM.val (ov_add64 rfl rfl (by omega)) ?_
        refine LM.val (ov_assign rfl) ?_
        refine LM.nil ?_
        refine QM.sub (e' := [(0, _), (1, _), (4, _), (7, _)]) ⟨rfl, rfl, rfl, rfl, trivial⟩ ?_
        refine QM.then ?_
        refine wpM.seq ?_
        refine wpM.seq ?_
        refine wpM.region ?_
        refine LM.val (ov_move rfl) ?_
        refine LM.val (ov_move rfl) ?_
        rw [show ((i0 : Int) + 1) = ((i0 + 1 : Nat) : Int) from rfl]
        refine LM.callE (oc_call (enters_fn Tryd.func63 (by kernel_rfl) rfl) rfl) (fun w hm hc hg => ris_spec (i0 + 1) 1 wForever w hn (hl.ext hc)) ?_
        refine LM.nil ?_
        refine QM.sub (e' := [(0, _), (1, _), (4, _), (7, _), (35, _)]) ⟨rfl, rfl, rfl, rfl, rfl, trivial⟩ ?_
        refine QM.then ?_
        refine wpM.joinK (α := Nat) (fun jj => [(1, .int .i64 (jj : Nat))]) [(0, _), (4, _), (7, _)] (fun jj => (b7, .cells #[.bool (headR ws i0).1, .slice none 0 0] 53 (0, 0)) :: (b4, .cells #[.bool false, .slice none 0 0] 53 (0, 0)) :: []) (fun jj => jj = (headR ws i0).2) ⟨rfl, rfl, rfl, trivial⟩ ?_ ?_
        ·
          first | refine wpM.condD rfl (fun h4 => ?_) (fun h4 => ?_) | refine wpM.condB rfl (fun h4 => ?_) (fun h4 => ?_)
          ·
            refine wpM.seq ?_
            refine wpM.region ?_
            refine LM.val (ov_field Tryd.underlying53 rfl Tryd.sizeOf4 rfl (k := 0) rfl rfl) ?_
            refine LM.st Tryd.sizeOf4 rfl rfl rfl (by first | decide | exact Nat.le_of_ble_eq_true rfl | (simp; done) | (simp; omega)) rfl (fun hlt => absurd hlt (by omega)) ?_
            refine LM.nil ?_
            refine QM.sub (e' := [(0, _), (1, _), (4, _), (7, _)]) ⟨rfl, rfl, rfl, rfl, trivial⟩ ?_
            refine QM.then ?_
            refine wpM.region ?_
            refine LM.val (ov_move rfl) ?_
            refine LM.val (ov_add64 rfl rfl (by omega)) ?_
            refine LM.val (ov_assign rfl) ?_
            refine LM.nil ?_
            refine QM.sub (e' := [(0, _), (1, _), (4, _), (7, _)]) ⟨rfl, rfl, rfl, rfl, trivial⟩ ?_
            -- meet1: h1- h2- h3- h4+
            rw [show (headR ws i0).1 = true from h4]
            refine QM.meetK (i0 + 1 + 1) ⟨(by first | rfl | exact lk rfl (by congr 1; omega) | exact lk rfl (by simp)), rfl, rfl, rfl, trivial⟩ (by (repeat' (first | exact SubM.nil _ | refine SubM.cons rfl ?_ | refine SubM.app ?_))) ?_
            · show i0 + 1 + 1 = (if isR ws (i0 + 1) 1 wForever then i0 + 2 else i0 + 1); rw [if_pos h4]
          ·
            refine wpM.skip ?_
            -- meet2: h1- h2- h3- h4-
            rw [show (headR ws i0).1 = false from h4]
            refine QM.meetK (i0 + 1) ⟨(by first | rfl | exact lk rfl (by congr 1; omega) | exact lk rfl (by simp)), rfl, rfl, rfl, trivial⟩ (by (repeat' (first | exact SubM.nil _ | refine SubM.cons rfl ?_ | refine SubM.app ?_))) ?_
            · show i0 + 1 = (if isR ws (i0 + 1) 1 wForever then i0 + 2 else i0 + 1); rw [if_neg (by rw [h4]; simp)]
        ·
          rintro jj rfl
          change QM _ _ _ _ _ ((b7, .cells #[.bool (headR ws i0).1, .slice none 0 0] 53 (0, 0)) :: (b4, .cells #[.bool false, .slice none 0 0] 53 (0, 0)) :: []) _ _ _
          refine QM.then ?_
          refine wpM.seq ?_
          refine wpM.seq ?_
          refine wpM.region ?_
          refine LM.val (ov_move rfl) ?_
          refine LM.val (ov_move rfl) ?_
          refine LM.callE (oc_call (enters_fn Tryd.func63 (by kernel_rfl) rfl) rfl) (fun w hm hc hg => ris_spec (headR ws i0).2 3 [123] w hn (hl.ext hc)) ?_
          first | refine LM.val (ov_notD rfl) ?_ | refine LM.val (ov_not rfl) ?_
          refine LM.nil ?_
          refine QM.sub (e' := [(0, _), (1, _), (4, _), (7, _), (42, _)]) ⟨rfl, rfl, rfl, rfl, rfl, trivial⟩ ?_
          refine QM.then ?_
          first | refine wpM.condD rfl (fun h5 => ?_) (fun h5 => ?_) | refine wpM.condB rfl (fun h5 => ?_) (fun h5 => ?_)
          ·
            refine wpM.seq ?_
            refine wpM.region ?_
            refine LM.val (ov_build (cs := #[_, _]) rfl (by first | rfl | kernel_rfl)) ?_
            refine LM.val (ov_move rfl) ?_
            first | refine LM.stW Tryd.sizeOf53 rfl rfl rfl rfl (by first | rfl | decide | (simp; done)) (fun hlt => absurd hlt (by omega)) ?_ | refine LM.st Tryd.sizeOf53 rfl rfl rfl (by first | decide | exact Nat.le_of_ble_eq_true rfl | (simp; done) | (simp; omega)) rfl (fun hlt => absurd hlt (by omega)) ?_
            refine LM.val (ov_assign rfl) ?_
            refine LM.val (ov_assign rfl) ?_
            refine LM.nil ?_
            refine QM.sub (e' := [(4, _), (5, _), (6, _)]) ⟨rfl, rfl, rfl, trivial⟩ ?_
            refine QM.then ?_
            refine wpM.ret ?_
            refine QM.then_ret ?_
            refine QM.leaveCs (ds := ([])) (.inl rfl) [.cell 4 53, .tmp 5, .tmp 6] Tryd.results27 hd_nil (rc_w rfl Tryd.isAgg53 Tryd.sizeOf53 rfl (rc_tmp rfl (rc_tmp rfl rc_nil))) ?_
            intro w' hm' hc'
            -- leaf 4: h1- h2- h3- h5+
            exact ⟨hc', [], fin_bad hi0 (body_b hp (by simpa using h5)) (by decide), Mem.nil _, fun p hp => by cases hp⟩
          ·
            have hbr : isR ws (headR ws i0).2 3 [123] = true := (by simpa using h5); have hbr2 := isR_lt hbr
            refine wpM.skip ?_
            refine QM.then ?_
            refine wpM.seq ?_
            refine wpM.region ?_
            refine LM.val (ov_move rfl) ?_
            refine LM.val (ov_add64 rfl rfl (by omega)) ?_
            refine LM.val (ov_assign rfl) ?_
            refine LM.nil ?_
            refine QM.sub (e' := [(0, _), (1, _), (4, _), (7, _)]) ⟨rfl, rfl, rfl, rfl, trivial⟩ ?_
            refine QM.then ?_
            refine wpM.seq ?_
            refine wpM.block ?_
            refine wpM.loopK0 (α := Nat × List COp × Option Addr × Nat × Nat × Mem0) (fun ⟨i, ops, ado, no, capo, mo⟩ => [(1, .int .i64 (i : Nat))]) [(0, _), (4, _), (7, _)] (fun ⟨i, ops, ado, no, capo, mo⟩ => mo ++ ((b7, .cells #[.bool (headR ws i0).1, .slice ado no capo] 53 (0, 0)) :: (b4, .cells #[.bool false, .slice none 0 0] 53 (0, 0)) :: [])) (fun ⟨i, ops, ado, no, capo, mo⟩ => loopR ws i ops = bodyR ws i0 ∧ i ≤ ws.length ∧ no = ops.length ∧ Sl fO 69 3 w.heap.size ops (.slice ado no capo) mo ∧ ops.length ≤ 12) (fun ⟨i, ops, ado, no, capo, mo⟩ => ws.length - i) (((headR ws i0).2 + 1, [], none, 0, 0, [])) ⟨(by first | rfl | exact lk rfl (by congr 1; omega) | exact lk rfl (by simp)), rfl, rfl, rfl, trivial⟩ (by (repeat' (first | exact SubM.nil _ | refine SubM.cons rfl ?_ | refine SubM.app ?_))) ⟨body_c hp hbr, isR_lt hbr, rfl, .nil _ _ _ _, by decide⟩ ?_
            rintro ⟨i, ops, ado, no, capo, mo⟩ ⟨hL, hile, hno, hso, hol⟩
            change wpM _ _ _ _ _ _ _ (mo ++ ((b7, .cells #[.bool (headR ws i0).1, .slice ado no capo] 53 (0, 0)) :: (b4, .cells #[.bool false, .slice none 0 0] 53 (0, 0)) :: [])) _ _ _
            refine wpM.seq ?_
            refine wpM.seq ?_
            refine wpM.region ?_
            refine LM.val (ov_move rfl) ?_
            refine LM.val (ov_move rfl) ?_
            refine LM.callE (oc_call (enters_fn Tryd.func63 (by kernel_rfl) rfl) rfl) (fun w hm hc hg => ris_spec i 3 [125] w hn (hl.ext hc)) ?_
            first | refine LM.val (ov_notD rfl) ?_ | refine LM.val (ov_not rfl) ?_
            refine LM.nil ?_
            refine QM.sub (e' := [(0, _), (1, _), (4, _), (7, _), (50, _)]) ⟨rfl, rfl, rfl, rfl, rfl, trivial⟩ ?_
            refine QM.then ?_
            first | refine wpM.condD rfl (fun h6 => ?_) (fun h6 => ?_) | refine wpM.condB rfl (fun h6 => ?_) (fun h6 => ?_)
            ·
              have hn0 : isR ws i 3 [125] = false := (by simpa using h6)
              refine wpM.skip ?_
              refine QM.then ?_
              refine wpM.block ?_
              refine wpM.seq ?_
              refine wpM.region ?_
              refine LM.val (ov_assign rfl) ?_
              refine LM.nil ?_
              refine QM.sub (e' := [(0, _), (1, _), (4, _), (7, _), (8, _)]) ⟨rfl, rfl, rfl, rfl, rfl, trivial⟩ ?_
              refine QM.then ?_
              refine wpM.seq ?_
              refine wpM.seq ?_
              refine wpM.region ?_
              refine LM.val (ov_assign rfl) ?_
              refine LM.nil ?_
              refine QM.sub (e' := [(0, _), (1, _), (4, _), (7, _), (8, _), (9, _)]) ⟨rfl, rfl, rfl, rfl, rfl, rfl, trivial⟩ ?_
              refine QM.then ?_
              refine wpM.block ?_
              refine wpM.loopK0 (α := Nat × Int) (fun ⟨k, kd⟩ => [(8, .int .i64 kd), (9, .int .i64 (k : Nat))]) [(0, _), (1, _), (4, _), (7, _)] (fun ⟨k, kd⟩ => mo ++ ((b7, .cells #[.bool (headR ws i0).1, .slice ado no capo] 53 (0, 0)) :: (b4, .cells #[.bool false, .slice none 0 0] 53 (0, 0)) :: [])) (fun ⟨k, kd⟩ => 1 ≤ k ∧ k ≤ 12 ∧ kd = kacc ws i (k - 1)) (fun ⟨k, kd⟩ => 12 - k) ((1, 0)) ⟨(by first | rfl | exact lk rfl (by congr 1; omega) | exact lk rfl (by simp)), (by first | rfl | exact lk rfl (by congr 1; omega) | exact lk rfl (by simp)), rfl, rfl, rfl, rfl, trivial⟩ (by (repeat' (first | exact SubM.nil _ | refine SubM.cons rfl ?_ | refine SubM.app ?_))) ⟨by omega, by omega, rfl⟩ ?_
              rintro ⟨k, kd⟩ ⟨hk1, hk2, hkd⟩
              change wpM _ _ _ _ _ _ _ (mo ++ ((b7, .cells #[.bool (headR ws i0).1, .slice ado no capo] 53 (0, 0)) :: (b4, .cells #[.bool false, .slice none 0 0] 53 (0, 0)) :: [])) _ _ _
              refine wpM.seq ?_
              refine wpM.seq ?_
              refine wpM.region ?_
              refine LM.val (ov_move rfl) ?_
              refine LM.val (ov_leq rfl rfl) ?_
              refine LM.nil ?_
              refine QM.sub (e' := [(0, _), (1, _), (4, _), (7, _), (8, _), (9, _), (52, _)]) ⟨rfl, rfl, rfl, rfl, rfl, rfl, rfl, trivial⟩ ?_
              refine QM.then ?_
              first | refine wpM.condD rfl (fun h7 => ?_) (fun h7 => ?_) | refine wpM.condB rfl (fun h7 => ?_) (fun h7 => ?_)
              ·
                refine wpM.skip ?_
                refine QM.then ?_
                refine wpM.seq ?_
                refine wpM.block ?_
                refine wpM.seq ?_
                refine wpM.region ?_
                refine LM.val (ov_move rfl) ?_
                refine LM.val (ov_move rfl) ?_
                refine LM.val (ov_move rfl) ?_
                refine LM.callE (oc_call (enters_fn Tryd.func32 (by kernel_rfl) rfl) rfl) (fun w hm hc hg => rname_spec _ w) ?_
                refine LM.callE (oc_call (enters_fn Tryd.func63 (by kernel_rfl) rfl) rfl) (fun w hm hc hg => ris_spec i 1 _ w hn (hl.ext hc)) ?_
                refine LM.nil ?_
                refine QM.sub (e' := [(0, _), (1, _), (4, _), (7, _), (8, _), (9, _), (59, _)]) ⟨rfl, rfl, rfl, rfl, rfl, rfl, rfl, trivial⟩ ?_
                refine QM.then ?_
                first | refine wpM.condD rfl (fun h8 => ?_) (fun h8 => ?_) | refine wpM.condB rfl (fun h8 => ?_) (fun h8 => ?_)
                ·
                  refine wpM.region ?_
                  refine LM.val (ov_move rfl) ?_
                  refine LM.val (ov_assign rfl) ?_
                  refine LM.nil ?_
                  refine QM.sub (e' := [(0, _), (1, _), (4, _), (7, _), (8, _), (9, _)]) ⟨rfl, rfl, rfl, rfl, rfl, rfl, trivial⟩ ?_
                  refine QM.block_normal ?_
                  refine QM.then ?_
                  refine wpM.region ?_
                  refine LM.val (ov_move rfl) ?_
                  refine LM.val (ov_add64 rfl rfl (by omega)) ?_
                  refine LM.val (ov_assign rfl) ?_
                  refine LM.nil ?_
                  refine QM.sub (e' := [(0, _), (1, _), (4, _), (7, _), (8, _), (9, _)]) ⟨rfl, rfl, rfl, rfl, rfl, rfl, trivial⟩ ?_
                  -- again1: h1- h2- h3- h5- h6+ h7+ h8+
                  refine QM.againK ((k + 1, (k : Int))) ⟨(by first | rfl | exact lk rfl (by congr 1; omega) | exact lk rfl (by simp)), (by first | rfl | exact lk rfl (by congr 1; omega) | exact lk rfl (by simp)), rfl, rfl, rfl, rfl, trivial⟩ (by (repeat' (first | exact SubM.nil _ | refine SubM.cons rfl ?_ | refine SubM.app ?_))) (fun _ h => h) ?_ ?_
                  · exact ⟨by omega, by omega, (kacc_t hk1 h8).symm⟩
                  · first | omega | (dsimp only; omega)
                ·
                  refine wpM.skip ?_
                  refine QM.block_normal ?_
                  refine QM.then ?_
                  refine wpM.region ?_
                  refine LM.val (ov_move rfl) ?_
                  refine LM.val (ov_add64 rfl rfl (by omega)) ?_
                  refine LM.val (ov_assign rfl) ?_
                  refine LM.nil ?_
                  refine QM.sub (e' := [(0, _), (1, _), (4, _), (7, _), (8, _), (9, _)]) ⟨rfl, rfl, rfl, rfl, rfl, rfl, trivial⟩ ?_
                  -- again2: h1- h2- h3- h5- h6+ h7+ h8-
                  refine QM.againK ((k + 1, kd)) ⟨(by first | rfl | exact lk rfl (by congr 1; omega) | exact lk rfl (by simp)), (by first | rfl | exact lk rfl (by congr 1; omega) | exact lk rfl (by simp)), rfl, rfl, rfl, rfl, trivial⟩ (by (repeat' (first | exact SubM.nil _ | refine SubM.cons rfl ?_ | refine SubM.app ?_))) (fun _ h => h) ?_ ?_
                  · exact ⟨by omega, by omega, by rw [hkd]; exact (kacc_f hk1 h8).symm⟩
                  · first | omega | (dsimp only; omega)
              ·
                obtain rfl : kd = kindR ws i := (by rw [hkd, show k - 1 = 11 by omega, kacc_eq])
                refine wpM.exit ?_
                refine QM.then_exit ?_
                refine QM.then_exit ?_
                refine QM.block_hit ?_
                refine QM.then ?_
                refine wpM.seq ?_
                refine wpM.seq ?_
                refine wpM.region ?_
                refine LM.val (ov_move rfl) ?_
                refine LM.val (ov_eql rfl rfl) ?_
                refine LM.nil ?_
                refine QM.sub (e' := [(0, _), (1, _), (4, _), (7, _), (8, _), (62, _)]) ⟨rfl, rfl, rfl, rfl, rfl, rfl, trivial⟩ ?_
                refine QM.then ?_
                first | refine wpM.condD rfl (fun h9 => ?_) (fun h9 => ?_) | refine wpM.condB rfl (fun h9 => ?_) (fun h9 => ?_)
                ·
                  refine wpM.seq ?_
                  refine wpM.region ?_
                  refine LM.val (ov_build (cs := #[_, _]) rfl (by first | rfl | kernel_rfl)) ?_
                  refine LM.val (ov_move rfl) ?_
                  first | refine LM.stW Tryd.sizeOf53 rfl rfl rfl rfl (by first | rfl | decide | (simp; done)) (fun hlt => absurd hlt (by omega)) ?_ | refine LM.st Tryd.sizeOf53 rfl rfl rfl (by first | decide | exact Nat.le_of_ble_eq_true rfl | (simp; done) | (simp; omega)) rfl (fun hlt => absurd hlt (by omega)) ?_
                  refine LM.val (ov_assign rfl) ?_
                  refine LM.val (ov_assign rfl) ?_
                  refine LM.nil ?_
                  refine QM.sub (e' := [(4, _), (5, _), (6, _)]) ⟨rfl, rfl, rfl, trivial⟩ ?_
                  refine QM.then ?_
                  refine wpM.ret ?_
                  refine QM.then_ret ?_
                  refine QM.block_ret ?_
                  refine QM.then_ret ?_
                  refine QM.block_ret ?_
                  refine QM.then_ret ?_
                  refine QM.leaveCs (ds := ([])) (.inl rfl) [.cell 4 53, .tmp 5, .tmp 6] Tryd.results27 hd_nil (rc_w rfl Tryd.isAgg53 Tryd.sizeOf53 rfl (rc_tmp rfl (rc_tmp rfl rc_nil))) ?_
                  intro w' hm' hc'
                  -- leaf 5: h1- h2- h3- h5- h6+ h7- h9+
                  exact ⟨hc', [], fin_bad hi0 (bad_of hL hn0 (by rw [op_a h9]; exact ⟨rfl, rfl⟩) (by decide)) (by decide), Mem.nil _, fun p hp => by cases hp⟩
                ·
                  have hk0 : kindR ws i ≠ 0 := h9; have hklt := kindR_lt hk0
                  refine wpM.skip ?_
                  refine QM.then ?_
                  refine wpM.seq ?_
                  refine wpM.seq ?_
                  refine wpM.region ?_
                  refine LM.val (ov_field Tryd.underlying53 rfl Tryd.sizeOf51 rfl (k := 1) rfl rfl) ?_
                  first | refine LM.rd (om_ld Tryd.isAgg51 rfl rfl) ?_
                  refine LM.val (ov_len Tryd.underlying51 rfl) ?_
                  refine LM.val (ov_eql rfl rfl) ?_
                  refine LM.nil ?_
                  refine QM.sub (e' := [(0, _), (1, _), (4, _), (7, _), (8, _), (68, _)]) ⟨rfl, rfl, rfl, rfl, rfl, rfl, trivial⟩ ?_
                  refine QM.then ?_
                  first | refine wpM.condD rfl (fun h10 => ?_) (fun h10 => ?_) | refine wpM.condB rfl (fun h10 => ?_) (fun h10 => ?_)
                  ·
                    refine wpM.seq ?_
                    refine wpM.region ?_
                    refine LM.val (ov_build (cs := #[_, _]) rfl (by first | rfl | kernel_rfl)) ?_
                    refine LM.val (ov_move rfl) ?_
                    first | refine LM.stW Tryd.sizeOf53 rfl rfl rfl rfl (by first | rfl | decide | (simp; done)) (fun hlt => absurd hlt (by omega)) ?_ | refine LM.st Tryd.sizeOf53 rfl rfl rfl (by first | decide | exact Nat.le_of_ble_eq_true rfl | (simp; done) | (simp; omega)) rfl (fun hlt => absurd hlt (by omega)) ?_
                    refine LM.val (ov_assign rfl) ?_
                    refine LM.val (ov_assign rfl) ?_
                    refine LM.nil ?_
                    refine QM.sub (e' := [(4, _), (5, _), (6, _)]) ⟨rfl, rfl, rfl, trivial⟩ ?_
                    refine QM.then ?_
                    refine wpM.ret ?_
                    refine QM.then_ret ?_
                    refine QM.block_ret ?_
                    refine QM.then_ret ?_
                    refine QM.block_ret ?_
                    refine QM.then_ret ?_
                    refine QM.leaveCs (ds := ([])) (.inl rfl) [.cell 4 53, .tmp 5, .tmp 6] Tryd.results27 hd_nil (rc_w rfl Tryd.isAgg53 Tryd.sizeOf53 rfl (rc_tmp rfl (rc_tmp rfl rc_nil))) ?_
                    intro w' hm' hc'
                    -- leaf 6: h1- h2- h3- h5- h6+ h7- h9- h10+
                    exact ⟨hc', [], fin_bad hi0 (bad_of hL hn0 (by rw [op_b hk0 (by omega)]; exact ⟨rfl, rfl⟩) (by decide)) (by decide), Mem.nil _, fun p hp => by cases hp⟩
                  ·
                    have hah : ops.length < 12 := (by omega)
                    refine wpM.skip ?_
                    refine QM.then ?_
                    refine wpM.seq ?_
                    refine wpM.region ?_
                    refine LM.val (ov_move rfl) ?_
                    refine LM.val (ov_add64 rfl rfl (by omega)) ?_
                    refine LM.val (ov_assign rfl) ?_
                    refine LM.nil ?_
                    refine QM.sub (e' := [(0, _), (1, _), (4, _), (7, _), (8, _)]) ⟨rfl, rfl, rfl, rfl, rfl, trivial⟩ ?_
                    refine QM.then ?_
                    refine wpM.seq ?_
                    refine wpM.region ?_
                    refine LM.val (ov_move rfl) ?_
                    refine LM.val (ov_build (cs := #[_, _, _]) rfl (by first | rfl | kernel_rfl)) ?_
                    refine LM.alloc Tryd.zeroValue69 rfl (fun b10 hb10 => ?_)
                    first | refine LM.stW Tryd.sizeOf69 rfl rfl rfl rfl (by first | rfl | decide | (simp; done)) (fun hlt => absurd hlt (by omega)) ?_ | refine LM.st Tryd.sizeOf69 rfl rfl rfl (by first | decide | exact Nat.le_of_ble_eq_true rfl | (simp; done) | (simp; omega)) rfl (fun hlt => absurd hlt (by omega)) ?_
                    refine LM.nil ?_
                    refine QM.sub (e' := [(0, _), (1, _), (4, _), (7, _), (8, _), (10, _)]) ⟨rfl, rfl, rfl, rfl, rfl, rfl, trivial⟩ ?_
                    refine QM.then ?_
                    refine wpM.seq ?_
                    refine wpM.region ?_
                    refine LM.val (ov_move rfl) ?_
                    refine LM.callE (oc_call (enters_fn Tryd.func64 (by kernel_rfl) rfl) rfl) (fun w hm hc hg => limits_spec _ w) ?_
                    refine LM.val (ov_move rfl) ?_
                    refine LM.val (ov_extract rfl rfl) ?_
                    refine LM.val (ov_extract rfl rfl) ?_
                    refine LM.val (ov_assign rfl) ?_
                    refine LM.val (ov_assign rfl) ?_
                    refine LM.nil ?_
                    refine QM.sub (e' := [(0, _), (1, _), (4, _), (7, _), (8, _), (10, _), (11, _), (12, _)]) ⟨rfl, rfl, rfl, rfl, rfl, rfl, rfl, rfl, trivial⟩ ?_
                    refine QM.then ?_
                    refine wpM.seq ?_
                    refine wpM.seq ?_
                    refine wpM.region ?_
                    refine LM.val (ov_assign rfl) ?_
                    refine LM.nil ?_
                    refine QM.sub (e' := [(0, _), (1, _), (4, _), (7, _), (8, _), (10, _), (11, _), (12, _), (13, _)]) ⟨rfl, rfl, rfl, rfl, rfl, rfl, rfl, rfl, rfl, trivial⟩ ?_
                    refine QM.then ?_
                    refine wpM.block ?_
                    refine wpM.loopK0 (α := Nat × Nat × Int × Int × Int × Int) (fun ⟨k, j, lo, hi, a, b⟩ => [(1, .int .i64 (j : Nat)), (11, .int .i64 lo), (12, .int .i64 hi), (13, .int .i64 (k : Nat))]) [(0, _), (4, _), (7, _), (8, _), (10, _)] (fun ⟨k, j, lo, hi, a, b⟩ => mo ++ ((b10, .cells #[.int .i64 (kindR ws i), .int .i64 a, .int .i64 b] 69 (0, 0)) :: (b7, .cells #[.bool (headR ws i0).1, .slice ado no capo] 53 (0, 0)) :: (b4, .cells #[.bool false, .slice none 0 0] 53 (0, 0)) :: [])) (fun ⟨k, j, lo, hi, a, b⟩ => NumI ws i k j lo hi a b) (fun ⟨k, j, lo, hi, a, b⟩ => 2 - k) ((0, i + 1, loA (kindR ws i), hiA (kindR ws i), 0, 0)) ⟨(by first | rfl | exact lk rfl (by congr 1; omega) | exact lk rfl (by simp)), (by first | rfl | exact lk rfl (by congr 1; omega) | exact lk rfl (by simp)), (by first | rfl | exact lk rfl (by congr 1; omega) | exact lk rfl (by simp)), (by first | rfl | exact lk rfl (by congr 1; omega) | exact lk rfl (by simp)), rfl, rfl, rfl, rfl, rfl, trivial⟩ (by (repeat' (first | exact SubM.nil _ | refine SubM.cons rfl ?_ | refine SubM.app ?_))) ⟨by omega, kindR_lt hk0, fun _ => ⟨rfl, rfl, rfl, rfl, rfl⟩, fun q => by omega, fun q => by omega⟩ ?_
                    rintro ⟨k, j, lo, hi, a, b⟩ hN
                    change wpM _ _ _ _ _ _ _ (mo ++ ((b10, .cells #[.int .i64 (kindR ws i), .int .i64 a, .int .i64 b] 69 (0, 0)) :: (b7, .cells #[.bool (headR ws i0).1, .slice ado no capo] 53 (0, 0)) :: (b4, .cells #[.bool false, .slice none 0 0] 53 (0, 0)) :: [])) _ _ _
                    have hjl := hN.2.1; have hk2 := hN.1
                    refine wpM.seq ?_
                    refine wpM.seq ?_
                    refine wpM.region ?_
                    refine LM.val (ov_move rfl) ?_
                    refine LM.val (ov_lss rfl rfl) ?_
                    refine LM.nil ?_
                    refine QM.sub (e' := [(0, _), (1, _), (4, _), (7, _), (8, _), (10, _), (11, _), (12, _), (13, _), (81, _)]) ⟨rfl, rfl, rfl, rfl, rfl, rfl, rfl, rfl, rfl, rfl, trivial⟩ ?_
                    refine QM.then ?_
                    first | refine wpM.condD rfl (fun h11 => ?_) (fun h11 => ?_) | refine wpM.condB rfl (fun h11 => ?_) (fun h11 => ?_)
                    ·
                      refine wpM.skip ?_
                      refine QM.then ?_
                      refine wpM.seq ?_
                      refine wpM.block ?_
                      refine wpM.seq ?_
                      refine wpM.seq ?_
                      refine wpM.joinK (α := Bool) (fun q => [(97, .bool q)]) [(0, _), (1, _), (4, _), (7, _), (8, _), (10, _), (11, _), (12, _), (13, _)] (fun q => mo ++ ((b10, .cells #[.int .i64 (kindR ws i), .int .i64 a, .int .i64 b] 69 (0, 0)) :: (b7, .cells #[.bool (headR ws i0).1, .slice ado no capo] 53 (0, 0)) :: (b4, .cells #[.bool false, .slice none 0 0] 53 (0, 0)) :: [])) (fun q => q = decide ((k = 0 ∧ lo < 0) ∨ (k = 1 ∧ kindR ws i ≠ 5))) ⟨rfl, rfl, rfl, rfl, rfl, rfl, rfl, rfl, rfl, trivial⟩ ?_ ?_
                      ·
                        refine wpM.region ?_
                        refine LM.val (ov_move rfl) ?_
                        refine LM.val (ov_eql rfl rfl) ?_
                        refine LM.val (ov_move rfl) ?_
                        first | refine LM.splitD (t := 86) rfl (fun h12 => ?_) (fun h12 => ?_) | refine LM.splitB (t := 86) rfl (fun h12 => ?_) (fun h12 => ?_)
                        ·
                          refine LM.strip (t := 86) rfl rfl rfl ?_
                          refine LM.val (ov_move rfl) ?_
                          refine LM.strip (t := 86) rfl rfl rfl ?_
                          refine LM.val (ov_lss rfl rfl) ?_
                          refine LM.val (ov_pickT rfl rfl) ?_
                          refine LM.val (ov_move rfl) ?_
                          first | refine LM.splitD (t := 90) rfl (fun h13 => ?_) (fun h13 => ?_) | refine LM.splitB (t := 90) rfl (fun h13 => ?_) (fun h13 => ?_)
                          ·
                            refine LM.drop (t := 90) rfl rfl rfl ?_
                            refine LM.drop (t := 90) rfl rfl rfl ?_
                            refine LM.dropU (t := 90) rfl rfl rfl ?_
                            refine LM.dropX (t := 93) rfl rfl ?_
                            refine LM.dropX (t := 93) rfl rfl ?_
                            refine LM.drop (t := 90) rfl rfl rfl ?_
                            refine LM.val (ov_pickT rfl rfl) ?_
                            refine LM.nil ?_
                            refine QM.sub (e' := [(0, _), (1, _), (4, _), (7, _), (8, _), (10, _), (11, _), (12, _), (13, _), (97, _)]) ⟨rfl, rfl, rfl, rfl, rfl, rfl, rfl, rfl, rfl, rfl, trivial⟩ ?_
                            -- meet1: h1- h2- h3- h5- h6+ h7- h9- h10- h11+ h12+ h13+
                            refine QM.meetK (_) ⟨(by first | rfl | exact lk rfl (by congr 1; omega) | exact lk rfl (by simp)), rfl, rfl, rfl, rfl, rfl, rfl, rfl, rfl, rfl, trivial⟩ (by (repeat' (first | exact SubM.nil _ | refine SubM.cons rfl ?_ | refine SubM.app ?_))) ?_
                            · exact (decide_eq_true (.inl ⟨by omega, h13⟩)).symm
                          ·
                            refine LM.strip (t := 90) rfl rfl rfl ?_
                            refine LM.val (ov_move rfl) ?_
                            refine LM.strip (t := 90) rfl rfl rfl ?_
                            refine LM.val (ov_eql rfl rfl) ?_
                            refine LM.strip (t := 90) rfl rfl rfl ?_
                            refine LM.val (ov_move rfl) ?_
                            first | refine LM.splitD (t := 93) rfl (fun h14 => ?_) (fun h14 => ?_) | refine LM.splitB (t := 93) rfl (fun h14 => ?_) (fun h14 => ?_)
                            ·
                              refine LM.strip (t := 93) rfl rfl rfl ?_
                              refine LM.val (ov_move rfl) ?_
                              refine LM.strip (t := 93) rfl rfl rfl ?_
                              refine LM.val (ov_neq rfl rfl) ?_
                              refine LM.strip (t := 90) rfl rfl rfl ?_
                              refine LM.val (ov_pickT rfl rfl) ?_
                              refine LM.val (ov_pickF rfl rfl) ?_
                              refine LM.nil ?_
                              refine QM.sub (e' := [(0, _), (1, _), (4, _), (7, _), (8, _), (10, _), (11, _), (12, _), (13, _), (97, _)]) ⟨rfl, rfl, rfl, rfl, rfl, rfl, rfl, rfl, rfl, rfl, trivial⟩ ?_
                              -- meet2: h1- h2- h3- h5- h6+ h7- h9- h10- h11+ h12+ h13- h14+
                              refine QM.meetK (_) ⟨(by first | rfl | exact lk rfl (by congr 1; omega) | exact lk rfl (by simp)), rfl, rfl, rfl, rfl, rfl, rfl, rfl, rfl, rfl, trivial⟩ (by (repeat' (first | exact SubM.nil _ | refine SubM.cons rfl ?_ | refine SubM.app ?_))) ?_
                              · exfalso; omega
                            ·
                              refine LM.drop (t := 93) rfl rfl rfl ?_
                              refine LM.drop (t := 93) rfl rfl rfl ?_
                              refine LM.strip (t := 90) rfl rfl rfl ?_
                              refine LM.val (ov_pickF rfl rfl) ?_
                              refine LM.val (ov_pickF rfl rfl) ?_
                              refine LM.nil ?_
                              refine QM.sub (e' := [(0, _), (1, _), (4, _), (7, _), (8, _), (10, _), (11, _), (12, _), (13, _), (97, _)]) ⟨rfl, rfl, rfl, rfl, rfl, rfl, rfl, rfl, rfl, rfl, trivial⟩ ?_
                              -- meet3: h1- h2- h3- h5- h6+ h7- h9- h10- h11+ h12+ h13- h14-
                              refine QM.meetK (_) ⟨(by first | rfl | exact lk rfl (by congr 1; omega) | exact lk rfl (by simp)), rfl, rfl, rfl, rfl, rfl, rfl, rfl, rfl, rfl, trivial⟩ (by (repeat' (first | exact SubM.nil _ | refine SubM.cons rfl ?_ | refine SubM.app ?_))) ?_
                              · exact (decide_eq_false (fun q => by rcases q with ⟨_, q⟩ | ⟨q, _⟩; exact h13 q; omega)).symm
                        ·
                          refine LM.drop (t := 86) rfl rfl rfl ?_
                          refine LM.drop (t := 86) rfl rfl rfl ?_
                          refine LM.val (ov_pickF rfl rfl) ?_
                          refine LM.val (ov_move rfl) ?_
                          refine LM.strip (t := 90) rfl rfl rfl ?_
                          refine LM.val (ov_move rfl) ?_
                          refine LM.strip (t := 90) rfl rfl rfl ?_
                          refine LM.val (ov_eql rfl rfl) ?_
                          refine LM.strip (t := 90) rfl rfl rfl ?_
                          refine LM.val (ov_move rfl) ?_
                          first | refine LM.splitD (t := 93) rfl (fun h15 => ?_) (fun h15 => ?_) | refine LM.splitB (t := 93) rfl (fun h15 => ?_) (fun h15 => ?_)
                          ·
                            refine LM.strip (t := 93) rfl rfl rfl ?_
                            refine LM.val (ov_move rfl) ?_
                            refine LM.strip (t := 93) rfl rfl rfl ?_
                            refine LM.val (ov_neq rfl rfl) ?_
                            refine LM.strip (t := 90) rfl rfl rfl ?_
                            refine LM.val (ov_pickT rfl rfl) ?_
                            refine LM.val (ov_pickF rfl rfl) ?_
                            refine LM.nil ?_
                            refine QM.sub (e' := [(0, _), (1, _), (4, _), (7, _), (8, _), (10, _), (11, _), (12, _), (13, _), (97, _)]) ⟨rfl, rfl, rfl, rfl, rfl, rfl, rfl, rfl, rfl, rfl, trivial⟩ ?_
                            -- meet4: h1- h2- h3- h5- h6+ h7- h9- h10- h11+ h12- h15+
                            refine QM.meetK (_) ⟨(by first | rfl | exact lk rfl (by congr 1; omega) | exact lk rfl (by simp)), rfl, rfl, rfl, rfl, rfl, rfl, rfl, rfl, rfl, trivial⟩ (by (repeat' (first | exact SubM.nil _ | refine SubM.cons rfl ?_ | refine SubM.app ?_))) ?_
                            · exact decide_eq_decide.2 ⟨fun q => .inr ⟨by omega, q⟩, fun q => by rcases q with ⟨q, _⟩ | ⟨_, q⟩; (exfalso; omega); exact q⟩
                          ·
                            refine LM.drop (t := 93) rfl rfl rfl ?_
                            refine LM.drop (t := 93) rfl rfl rfl ?_
                            refine LM.strip (t := 90) rfl rfl rfl ?_
                            refine LM.val (ov_pickF rfl rfl) ?_
                            refine LM.val (ov_pickF rfl rfl) ?_
                            refine LM.nil ?_
                            refine QM.sub (e' := [(0, _), (1, _), (4, _), (7, _), (8, _), (10, _), (11, _), (12, _), (13, _), (97, _)]) ⟨rfl, rfl, rfl, rfl, rfl, rfl, rfl, rfl, rfl, rfl, trivial⟩ ?_
                            -- meet5: h1- h2- h3- h5- h6+ h7- h9- h10- h11+ h12- h15-
                            refine QM.meetK (_) ⟨(by first | rfl | exact lk rfl (by congr 1; omega) | exact lk rfl (by simp)), rfl, rfl, rfl, rfl, rfl, rfl, rfl, rfl, rfl, trivial⟩ (by (repeat' (first | exact SubM.nil _ | refine SubM.cons rfl ?_ | refine SubM.app ?_))) ?_
                            · exact (decide_eq_false (fun q => by rcases q with ⟨q, _⟩ | ⟨q, _⟩ <;> omega)).symm
                      ·
                        rintro q hq
                        change QM _ _ _ _ _ (mo ++ ((b10, .cells #[.int .i64 (kindR ws i), .int .i64 a, .int .i64 b] 69 (0, 0)) :: (b7, .cells #[.bool (headR ws i0).1, .slice ado no capo] 53 (0, 0)) :: (b4, .cells #[.bool false, .slice none 0 0] 53 (0, 0)) :: [])) _ _ _
                        refine QM.then ?_
                        first | refine wpM.condD rfl (fun h16 => ?_) (fun h16 => ?_) | refine wpM.condB rfl (fun h16 => ?_) (fun h16 => ?_)
                        ·
                          refine wpM.exit ?_
                          refine QM.then_exit ?_
                          refine QM.block_hit ?_
                          refine QM.then ?_
                          refine wpM.region ?_
                          refine LM.val (ov_move rfl) ?_
                          refine LM.val (ov_add64 rfl rfl (by omega)) ?_
                          refine LM.val (ov_assign rfl) ?_
                          refine LM.nil ?_
                          refine QM.sub (e' := [(0, _), (1, _), (4, _), (7, _), (8, _), (10, _), (11, _), (12, _), (13, _)]) ⟨rfl, rfl, rfl, rfl, rfl, rfl, rfl, rfl, rfl, trivial⟩ ?_
                          -- again1: h1- h2- h3- h5- h6+ h7- h9- h10- h11+ h16+
                          refine QM.againK ((k + 1, j, lo, hi, a, b)) ⟨(by first | rfl | exact lk rfl (by congr 1; omega) | exact lk rfl (by simp)), (by first | rfl | exact lk rfl (by congr 1; omega) | exact lk rfl (by simp)), (by first | rfl | exact lk rfl (by congr 1; omega) | exact lk rfl (by simp)), (by first | rfl | exact lk rfl (by congr 1; omega) | exact lk rfl (by simp)), rfl, rfl, rfl, rfl, rfl, trivial⟩ (by (repeat' (first | exact SubM.nil _ | refine SubM.cons rfl ?_ | refine SubM.app ?_))) (fun _ h => h) ?_ ?_
                          · exact hN.skip (of_decide_eq_true (hq ▸ h16))
                          · first | omega | (dsimp only; omega)
                        ·
                          have hnq : ¬ ((k = 0 ∧ lo < 0) ∨ (k = 1 ∧ kindR ws i ≠ 5)) := of_decide_eq_false (hq ▸ h16)
                          refine wpM.skip ?_
                          refine QM.then ?_
                          refine wpM.seq ?_
                          refine wpM.seq ?_
                          refine wpM.region ?_
                          refine LM.val (ov_move rfl) ?_
                          refine LM.val (ov_move rfl) ?_
                          refine LM.val (ov_len Tryd.underlying24 rfl) ?_
                          refine LM.val (ov_geq rfl rfl) ?_
                          refine LM.val (ov_move rfl) ?_
                          first | refine LM.splitD (t := 102) rfl (fun h17 => ?_) (fun h17 => ?_) | refine LM.splitB (t := 102) rfl (fun h17 => ?_) (fun h17 => ?_)
                          ·
                            refine LM.drop (t := 102) rfl rfl rfl ?_
                            refine LM.drop (t := 102) rfl rfl rfl ?_
                            refine LM.drop (t := 102) rfl rfl rfl ?_
                            refine LM.drop (t := 102) rfl rfl rfl ?_
                            refine LM.drop (t := 102) rfl rfl rfl ?_
                            refine LM.drop (t := 102) rfl rfl rfl ?_
                            refine LM.val (ov_pickT rfl rfl) ?_
                            refine LM.nil ?_
                            refine QM.sub (e' := [(0, _), (1, _), (4, _), (7, _), (8, _), (10, _), (11, _), (12, _), (13, _), (109, _)]) ⟨rfl, rfl, rfl, rfl, rfl, rfl, rfl, rfl, rfl, rfl, trivial⟩ ?_
                            refine QM.then ?_
                            refine wpM.condT rfl ?_
                            refine wpM.seq ?_
                            refine wpM.region ?_
                            refine LM.val (ov_build (cs := #[_, _]) rfl (by first | rfl | kernel_rfl)) ?_
                            refine LM.val (ov_move rfl) ?_
                            first | refine LM.stW Tryd.sizeOf53 rfl rfl rfl rfl (by first | rfl | decide | (simp; done)) (fun hlt => absurd hlt (by omega)) ?_ | refine LM.st Tryd.sizeOf53 rfl rfl rfl (by first | decide | exact Nat.le_of_ble_eq_true rfl | (simp; done) | (simp; omega)) rfl (fun hlt => absurd hlt (by omega)) ?_
                            refine LM.val (ov_assign rfl) ?_
                            refine LM.val (ov_assign rfl) ?_
                            refine LM.nil ?_
                            refine QM.sub (e' := [(4, _), (5, _), (6, _)]) ⟨rfl, rfl, rfl, trivial⟩ ?_
                            refine QM.then ?_
                            refine wpM.ret ?_
                            refine QM.then_ret ?_
                            refine QM.block_ret ?_
                            refine QM.then_ret ?_
                            refine QM.then_ret ?_
                            refine QM.block_ret ?_
                            refine QM.then_ret ?_
                            refine QM.block_ret ?_
                            refine QM.then_ret ?_
                            refine QM.block_ret ?_
                            refine QM.then_ret ?_
                            refine QM.leaveCs (ds := ([])) (.inl rfl) [.cell 4 53, .tmp 5, .tmp 6] Tryd.results27 hd_nil (rc_w rfl Tryd.isAgg53 Tryd.sizeOf53 rfl (rc_tmp rfl (rc_tmp rfl rc_nil))) ?_
                            intro w' hm' hc'
                            -- leaf 7: h1- h2- h3- h5- h6+ h7- h9- h10- h11+ h16- h17+
                            exact ⟨hc', [], fin_bad hi0 (bad_of hL hn0 (hN.bad (e := 5) (by omega) hk0 hah hnq (by decide) (.inl ⟨rfl, .inl (by omega)⟩)) (by decide)) (by decide), Mem.nil _, fun p hp => by cases hp⟩
                          ·
                            refine LM.strip (t := 102) rfl rfl rfl ?_
                            refine LM.val (ov_move rfl) ?_
                            refine LM.strip (t := 102) rfl rfl rfl ?_
                            refine LM.val (ov_move rfl) ?_
                            refine LM.strip (t := 102) rfl rfl rfl ?_
                            first | refine LM.val (ov_idxSN (by first | exact Sr.spt (by assumption) | exact Sl.spt (by assumption)) Tryd.underlying24 Tryd.sizeOf72 rfl rfl (by omega)) ?_ | refine LM.val (ov_idxS (by first | exact Sr.spt (by assumption) | exact Sl.spt (by assumption)) Tryd.underlying24 Tryd.sizeOf72 rfl rfl (by omega)) ?_ | refine LM.val (ov_idx Tryd.underlying24 Tryd.sizeOf72 rfl rfl (by omega)) ?_
                            refine LM.strip (t := 102) rfl rfl rfl ?_
                            refine LM.val (ov_field Tryd.underlying72 rfl Tryd.sizeOf3 rfl (k := 0) rfl rfl) ?_
                            refine LM.strip (t := 102) rfl rfl rfl ?_
                            first | refine LM.rd (om_slE (j := 0) (by assumption) (by intro _; rfl) Tryd.isAgg3 rfl rfl (by exact getq default (by first | omega | (simp only [List.length_set, List.length_append, List.length_cons, List.length_nil]; omega))) rfl (by rfl)) ?_ | refine LM.rdC (om_srE (j := 0) (by assumption) Tryd.isAgg3 rfl rfl (by exact getq default (by first | omega | (simp only [List.length_set, List.length_append, List.length_cons, List.length_nil]; omega))) (by rfl) (by rfl) id) ?_ | refine LM.rd (om_ld Tryd.isAgg3 rfl rfl) ?_
                            refine LM.strip (t := 102) rfl rfl rfl ?_
                            refine LM.val (ov_neq rfl rfl) ?_
                            refine LM.val (ov_pickF rfl rfl) ?_
                            refine LM.nil ?_
                            refine QM.sub (e' := [(0, _), (1, _), (4, _), (7, _), (8, _), (10, _), (11, _), (12, _), (13, _), (109, _)]) ⟨rfl, rfl, rfl, rfl, rfl, rfl, rfl, rfl, rfl, rfl, trivial⟩ ?_
                            refine QM.then ?_
                            first | refine wpM.condD rfl (fun h18 => ?_) (fun h18 => ?_) | refine wpM.condB rfl (fun h18 => ?_) (fun h18 => ?_)
                            ·
                              refine wpM.seq ?_
                              refine wpM.region ?_
                              refine LM.val (ov_build (cs := #[_, _]) rfl (by first | rfl | kernel_rfl)) ?_
                              refine LM.val (ov_move rfl) ?_
                              first | refine LM.stW Tryd.sizeOf53 rfl rfl rfl rfl (by first | rfl | decide | (simp; done)) (fun hlt => absurd hlt (by omega)) ?_ | refine LM.st Tryd.sizeOf53 rfl rfl rfl (by first | decide | exact Nat.le_of_ble_eq_true rfl | (simp; done) | (simp; omega)) rfl (fun hlt => absurd hlt (by omega)) ?_
                              refine LM.val (ov_assign rfl) ?_
                              refine LM.val (ov_assign rfl) ?_
                              refine LM.nil ?_
                              refine QM.sub (e' := [(4, _), (5, _), (6, _)]) ⟨rfl, rfl, rfl, trivial⟩ ?_
                              refine QM.then ?_
                              refine wpM.ret ?_
                              refine QM.then_ret ?_
                              refine QM.block_ret ?_
                              refine QM.then_ret ?_
                              refine QM.then_ret ?_
                              refine QM.block_ret ?_
                              refine QM.then_ret ?_
                              refine QM.block_ret ?_
                              refine QM.then_ret ?_
                              refine QM.block_ret ?_
                              refine QM.then_ret ?_
                              refine QM.leaveCs (ds := ([])) (.inl rfl) [.cell 4 53, .tmp 5, .tmp 6] Tryd.results27 hd_nil (rc_w rfl Tryd.isAgg53 Tryd.sizeOf53 rfl (rc_tmp rfl (rc_tmp rfl rc_nil))) ?_
                              intro w' hm' hc'
                              -- leaf 8: h1- h2- h3- h5- h6+ h7- h9- h10- h11+ h16- h17- h18+
                              exact ⟨hc', [], fin_bad hi0 (bad_of hL hn0 (hN.bad (e := 5) (by omega) hk0 hah hnq (by decide) (.inl ⟨rfl, .inr h18⟩)) (by decide)) (by decide), Mem.nil _, fun p hp => by cases hp⟩
                            ·
                              refine wpM.skip ?_
                              refine QM.then ?_
                              refine wpM.seq ?_
                              refine wpM.region ?_
                              refine LM.val (ov_move rfl) ?_
                              refine LM.val (ov_move rfl) ?_
                              first | refine LM.val (ov_idxSN (by first | exact Sr.spt (by assumption) | exact Sl.spt (by assumption)) Tryd.underlying24 Tryd.sizeOf72 rfl rfl (by omega)) ?_ | refine LM.val (ov_idxS (by first | exact Sr.spt (by assumption) | exact Sl.spt (by assumption)) Tryd.underlying24 Tryd.sizeOf72 rfl rfl (by omega)) ?_ | refine LM.val (ov_idx Tryd.underlying24 Tryd.sizeOf72 rfl rfl (by omega)) ?_
                              refine LM.val (ov_field Tryd.underlying72 rfl Tryd.sizeOf3 rfl (k := 2) rfl rfl) ?_
                              first | refine LM.rd (om_slE (j := 2) (by assumption) (by intro _; rfl) Tryd.isAgg3 rfl rfl (by exact getq default (by first | omega | (simp only [List.length_set, List.length_append, List.length_cons, List.length_nil]; omega))) rfl (by rfl)) ?_ | refine LM.rdC (om_srE (j := 2) (by assumption) Tryd.isAgg3 rfl rfl (by exact getq default (by first | omega | (simp only [List.length_set, List.length_append, List.length_cons, List.length_nil]; omega))) (by rfl) (by rfl) id) ?_ | refine LM.rd (om_ld Tryd.isAgg3 rfl rfl) ?_
                              refine LM.val (ov_assign rfl) ?_
                              refine LM.nil ?_
                              refine QM.sub (e' := [(0, _), (1, _), (4, _), (7, _), (8, _), (10, _), (11, _), (12, _), (13, _), (14, _)]) ⟨rfl, rfl, rfl, rfl, rfl, rfl, rfl, rfl, rfl, rfl, trivial⟩ ?_
                              refine QM.then ?_
                              refine wpM.seq ?_
                              refine wpM.seq ?_
                              refine wpM.region ?_
                              refine LM.val (ov_move rfl) ?_
                              refine LM.val (ov_eql rfl rfl) ?_
                              refine LM.nil ?_
                              refine QM.sub (e' := [(0, _), (1, _), (4, _), (7, _), (8, _), (10, _), (11, _), (12, _), (13, _), (14, _), (118, _)]) ⟨rfl, rfl, rfl, rfl, rfl, rfl, rfl, rfl, rfl, rfl, rfl, trivial⟩ ?_
                              refine QM.then ?_
                              first | refine wpM.condD rfl (fun h19 => ?_) (fun h19 => ?_) | refine wpM.condB rfl (fun h19 => ?_) (fun h19 => ?_)
                              ·
                                refine wpM.seq ?_
                                refine wpM.region ?_
                                refine LM.val (ov_assign rfl) ?_
                                refine LM.nil ?_
                                refine QM.sub (e' := [(0, _), (1, _), (4, _), (7, _), (8, _), (10, _), (11, _), (13, _), (14, _)]) ⟨rfl, rfl, rfl, rfl, rfl, rfl, rfl, rfl, rfl, trivial⟩ ?_
                                refine QM.then ?_
                                refine wpM.seq ?_
                                refine wpM.region ?_
                                refine LM.val (ov_assign rfl) ?_
                                refine LM.nil ?_
                                refine QM.sub (e' := [(0, _), (1, _), (4, _), (7, _), (8, _), (10, _), (11, _), (12, _), (13, _), (14, _)]) ⟨rfl, rfl, rfl, rfl, rfl, rfl, rfl, rfl, rfl, rfl, trivial⟩ ?_
                                refine QM.then ?_
                                refine wpM.region ?_
                                refine LM.val (ov_move rfl) ?_
                                refine LM.val (ov_field Tryd.underlying69 rfl Tryd.sizeOf3 rfl (k := 2) rfl rfl) ?_
                                refine LM.st Tryd.sizeOf3 rfl rfl rfl (by first | decide | exact Nat.le_of_ble_eq_true rfl | (simp; done) | (simp; omega)) rfl (fun hlt => absurd hlt (by omega)) ?_
                                refine LM.nil ?_
                                refine QM.sub (e' := [(0, _), (1, _), (4, _), (7, _), (8, _), (10, _), (11, _), (12, _), (13, _), (14, _)]) ⟨rfl, rfl, rfl, rfl, rfl, rfl, rfl, rfl, rfl, rfl, trivial⟩ ?_
                                refine QM.then ?_
                                refine wpM.seq ?_
                                refine wpM.seq ?_
                                refine wpM.region ?_
                                refine LM.val (ov_move rfl) ?_
                                refine LM.val (ov_move rfl) ?_
                                refine LM.val (ov_lss rfl rfl) ?_
                                refine LM.val (ov_move rfl) ?_
                                first | refine LM.splitD (t := 126) rfl (fun h20 => ?_) (fun h20 => ?_) | refine LM.splitB (t := 126) rfl (fun h20 => ?_) (fun h20 => ?_)
                                ·
                                  refine LM.drop (t := 126) rfl rfl rfl ?_
                                  refine LM.drop (t := 126) rfl rfl rfl ?_
                                  refine LM.drop (t := 126) rfl rfl rfl ?_
                                  refine LM.val (ov_pickT rfl rfl) ?_
                                  refine LM.nil ?_
                                  refine QM.sub (e' := [(0, _), (1, _), (4, _), (7, _), (8, _), (10, _), (11, _), (12, _), (13, _), (130, _)]) ⟨rfl, rfl, rfl, rfl, rfl, rfl, rfl, rfl, rfl, rfl, trivial⟩ ?_
                                  refine QM.then ?_
                                  refine wpM.condT rfl ?_
                                  refine wpM.seq ?_
                                  refine wpM.region ?_
                                  refine LM.val (ov_build (cs := #[_, _]) rfl (by first | rfl | kernel_rfl)) ?_
                                  refine LM.val (ov_move rfl) ?_
                                  first | refine LM.stW Tryd.sizeOf53 rfl rfl rfl rfl (by first | rfl | decide | (simp; done)) (fun hlt => absurd hlt (by omega)) ?_ | refine LM.st Tryd.sizeOf53 rfl rfl rfl (by first | decide | exact Nat.le_of_ble_eq_true rfl | (simp; done) | (simp; omega)) rfl (fun hlt => absurd hlt (by omega)) ?_
                                  refine LM.val (ov_assign rfl) ?_
                                  refine LM.val (ov_assign rfl) ?_
                                  refine LM.nil ?_
                                  refine QM.sub (e' := [(4, _), (5, _), (6, _)]) ⟨rfl, rfl, rfl, trivial⟩ ?_
                                  refine QM.then ?_
                                  refine wpM.ret ?_
                                  refine QM.then_ret ?_
                                  refine QM.block_ret ?_
                                  refine QM.then_ret ?_
                                  refine QM.then_ret ?_
                                  refine QM.block_ret ?_
                                  refine QM.then_ret ?_
                                  refine QM.block_ret ?_
                                  refine QM.then_ret ?_
                                  refine QM.block_ret ?_
                                  refine QM.then_ret ?_
                                  refine QM.leaveCs (ds := ([])) (.inl rfl) [.cell 4 53, .tmp 5, .tmp 6] Tryd.results27 hd_nil (rc_w rfl Tryd.isAgg53 Tryd.sizeOf53 rfl (rc_tmp rfl (rc_tmp rfl rc_nil))) ?_
                                  intro w' hm' hc'
                                  -- leaf 9: h1- h2- h3- h5- h6+ h7- h9- h10- h11+ h16- h17- h18- h19+ h20+
                                  exact ⟨hc', [], fin_bad hi0 (bad_of hL hn0 (hN.bad (e := 1) (by omega) hk0 hah hnq (by decide) (.inr ⟨rfl, by omega, Classical.not_not.1 h18, .inr ⟨by omega, .inl h20⟩⟩)) (by decide)) (by decide), Mem.nil _, fun p hp => by cases hp⟩
                                ·
                                  refine LM.strip (t := 126) rfl rfl rfl ?_
                                  refine LM.val (ov_move rfl) ?_
                                  refine LM.strip (t := 126) rfl rfl rfl ?_
                                  refine LM.val (ov_move rfl) ?_
                                  refine LM.strip (t := 126) rfl rfl rfl ?_
                                  refine LM.val (ov_gtr rfl rfl) ?_
                                  refine LM.val (ov_pickF rfl rfl) ?_
                                  refine LM.nil ?_
                                  refine QM.sub (e' := [(0, _), (1, _), (4, _), (7, _), (8, _), (10, _), (11, _), (12, _), (13, _), (130, _)]) ⟨rfl, rfl, rfl, rfl, rfl, rfl, rfl, rfl, rfl, rfl, trivial⟩ ?_
                                  refine QM.then ?_
                                  first | refine wpM.condD rfl (fun h21 => ?_) (fun h21 => ?_) | refine wpM.condB rfl (fun h21 => ?_) (fun h21 => ?_)
                                  ·
                                    refine wpM.seq ?_
                                    refine wpM.region ?_
                                    refine LM.val (ov_build (cs := #[_, _]) rfl (by first | rfl | kernel_rfl)) ?_
                                    refine LM.val (ov_move rfl) ?_
                                    first | refine LM.stW Tryd.sizeOf53 rfl rfl rfl rfl (by first | rfl | decide | (simp; done)) (fun hlt => absurd hlt (by omega)) ?_ | refine LM.st Tryd.sizeOf53 rfl rfl rfl (by first | decide | exact Nat.le_of_ble_eq_true rfl | (simp; done) | (simp; omega)) rfl (fun hlt => absurd hlt (by omega)) ?_
                                    refine LM.val (ov_assign rfl) ?_
                                    refine LM.val (ov_assign rfl) ?_
                                    refine LM.nil ?_
                                    refine QM.sub (e' := [(4, _), (5, _), (6, _)]) ⟨rfl, rfl, rfl, trivial⟩ ?_
                                    refine QM.then ?_
                                    refine wpM.ret ?_
                                    refine QM.then_ret ?_
                                    refine QM.block_ret ?_
                                    refine QM.then_ret ?_
                                    refine QM.then_ret ?_
                                    refine QM.block_ret ?_
                                    refine QM.then_ret ?_
                                    refine QM.block_ret ?_
                                    refine QM.then_ret ?_
                                    refine QM.block_ret ?_
                                    refine QM.then_ret ?_
                                    refine QM.leaveCs (ds := ([])) (.inl rfl) [.cell 4 53, .tmp 5, .tmp 6] Tryd.results27 hd_nil (rc_w rfl Tryd.isAgg53 Tryd.sizeOf53 rfl (rc_tmp rfl (rc_tmp rfl rc_nil))) ?_
                                    intro w' hm' hc'
                                    -- leaf 10: h1- h2- h3- h5- h6+ h7- h9- h10- h11+ h16- h17- h18- h19+ h20- h21+
                                    exact ⟨hc', [], fin_bad hi0 (bad_of hL hn0 (hN.bad (e := 1) (by omega) hk0 hah hnq (by decide) (.inr ⟨rfl, by omega, Classical.not_not.1 h18, .inr ⟨by omega, .inr (by omega)⟩⟩)) (by decide)) (by decide), Mem.nil _, fun p hp => by cases hp⟩
                                  ·
                                    refine wpM.skip ?_
                                    refine QM.then ?_
                                    refine wpM.region ?_
                                    refine LM.val (ov_move rfl) ?_
                                    refine LM.val (ov_add64 rfl rfl (by omega)) ?_
                                    refine LM.val (ov_assign rfl) ?_
                                    refine LM.nil ?_
                                    refine QM.sub (e' := [(0, _), (1, _), (4, _), (7, _), (8, _), (10, _), (11, _), (12, _), (13, _)]) ⟨rfl, rfl, rfl, rfl, rfl, rfl, rfl, rfl, rfl, trivial⟩ ?_
                                    refine QM.block_normal ?_
                                    refine QM.then ?_
                                    refine wpM.region ?_
                                    refine LM.val (ov_move rfl) ?_
                                    refine LM.val (ov_add64 rfl rfl (by omega)) ?_
                                    refine LM.val (ov_assign rfl) ?_
                                    refine LM.nil ?_
                                    refine QM.sub (e' := [(0, _), (1, _), (4, _), (7, _), (8, _), (10, _), (11, _), (12, _), (13, _)]) ⟨rfl, rfl, rfl, rfl, rfl, rfl, rfl, rfl, rfl, trivial⟩ ?_
                                    -- again2: h1- h2- h3- h5- h6+ h7- h9- h10- h11+ h16- h17- h18- h19+ h20- h21-
                                    obtain rfl : k = 1 := (by omega)
                                    refine QM.againK ((2, j + 1, 1, 64, a, (ws.getD j default).n)) ⟨(by first | rfl | exact lk rfl (by congr 1; omega) | exact lk rfl (by simp)), (by first | rfl | exact lk rfl (by congr 1; omega) | exact lk rfl (by simp)), (by first | rfl | exact lk rfl (by congr 1; omega) | exact lk rfl (by simp)), (by first | rfl | exact lk rfl (by congr 1; omega) | exact lk rfl (by simp)), rfl, rfl, rfl, rfl, rfl, trivial⟩ (by (repeat' (first | exact SubM.nil _ | refine SubM.cons rfl ?_ | refine SubM.app ?_))) (fun _ h => h) ?_ ?_
                                    · exact hN.take1 (Classical.byContradiction fun q => hnq (.inr ⟨rfl, q⟩)) (by omega) (Classical.not_not.1 h18) ⟨by omega, by omega⟩
                                    · first | omega | (dsimp only; omega)
                              ·
                                refine wpM.region ?_
                                refine LM.val (ov_move rfl) ?_
                                refine LM.val (ov_field Tryd.underlying69 rfl Tryd.sizeOf3 rfl (k := 1) rfl rfl) ?_
                                refine LM.st Tryd.sizeOf3 rfl rfl rfl (by first | decide | exact Nat.le_of_ble_eq_true rfl | (simp; done) | (simp; omega)) rfl (fun hlt => absurd hlt (by omega)) ?_
                                refine LM.nil ?_
                                refine QM.sub (e' := [(0, _), (1, _), (4, _), (7, _), (8, _), (10, _), (11, _), (12, _), (13, _), (14, _)]) ⟨rfl, rfl, rfl, rfl, rfl, rfl, rfl, rfl, rfl, rfl, trivial⟩ ?_
                                refine QM.then ?_
                                refine wpM.seq ?_
                                refine wpM.seq ?_
                                refine wpM.region ?_
                                refine LM.val (ov_move rfl) ?_
                                refine LM.val (ov_move rfl) ?_
                                refine LM.val (ov_lss rfl rfl) ?_
                                refine LM.val (ov_move rfl) ?_
                                first | refine LM.splitD (t := 126) rfl (fun h22 => ?_) (fun h22 => ?_) | refine LM.splitB (t := 126) rfl (fun h22 => ?_) (fun h22 => ?_)
                                ·
                                  refine LM.drop (t := 126) rfl rfl rfl ?_
                                  refine LM.drop (t := 126) rfl rfl rfl ?_
                                  refine LM.drop (t := 126) rfl rfl rfl ?_
                                  refine LM.val (ov_pickT rfl rfl) ?_
                                  refine LM.nil ?_
                                  refine QM.sub (e' := [(0, _), (1, _), (4, _), (7, _), (8, _), (10, _), (11, _), (12, _), (13, _), (130, _)]) ⟨rfl, rfl, rfl, rfl, rfl, rfl, rfl, rfl, rfl, rfl, trivial⟩ ?_
                                  refine QM.then ?_
                                  refine wpM.condT rfl ?_
                                  refine wpM.seq ?_
                                  refine wpM.region ?_
                                  refine LM.val (ov_build (cs := #[_, _]) rfl (by first | rfl | kernel_rfl)) ?_
                                  refine LM.val (ov_move rfl) ?_
                                  first | refine LM.stW Tryd.sizeOf53 rfl rfl rfl rfl (by first | rfl | decide | (simp; done)) (fun hlt => absurd hlt (by omega)) ?_ | refine LM.st Tryd.sizeOf53 rfl rfl rfl (by first | decide | exact Nat.le_of_ble_eq_true rfl | (simp; done) | (simp; omega)) rfl (fun hlt => absurd hlt (by omega)) ?_
                                  refine LM.val (ov_assign rfl) ?_
                                  refine LM.val (ov_assign rfl) ?_
                                  refine LM.nil ?_
                                  refine QM.sub (e' := [(4, _), (5, _), (6, _)]) ⟨rfl, rfl, rfl, trivial⟩ ?_
                                  refine QM.then ?_
                                  refine wpM.ret ?_
                                  refine QM.then_ret ?_
                                  refine QM.block_ret ?_
                                  refine QM.then_ret ?_
                                  refine QM.then_ret ?_
                                  refine QM.block_ret ?_
                                  refine QM.then_ret ?_
                                  refine QM.block_ret ?_
                                  refine QM.then_ret ?_
                                  refine QM.block_ret ?_
                                  refine QM.then_ret ?_
                                  refine QM.leaveCs (ds := ([])) (.inl rfl) [.cell 4 53, .tmp 5, .tmp 6] Tryd.results27 hd_nil (rc_w rfl Tryd.isAgg53 Tryd.sizeOf53 rfl (rc_tmp rfl (rc_tmp rfl rc_nil))) ?_
                                  intro w' hm' hc'
                                  -- leaf 11: h1- h2- h3- h5- h6+ h7- h9- h10- h11+ h16- h17- h18- h19- h22+
                                  exact ⟨hc', [], fin_bad hi0 (bad_of hL hn0 (hN.bad (e := 1) (by omega) hk0 hah hnq (by decide) (.inr ⟨rfl, by omega, Classical.not_not.1 h18, .inl ⟨by omega, .inl h22⟩⟩)) (by decide)) (by decide), Mem.nil _, fun p hp => by cases hp⟩
                                ·
                                  refine LM.strip (t := 126) rfl rfl rfl ?_
                                  refine LM.val (ov_move rfl) ?_
                                  refine LM.strip (t := 126) rfl rfl rfl ?_
                                  refine LM.val (ov_move rfl) ?_
                                  refine LM.strip (t := 126) rfl rfl rfl ?_
                                  refine LM.val (ov_gtr rfl rfl) ?_
                                  refine LM.val (ov_pickF rfl rfl) ?_
                                  refine LM.nil ?_
                                  refine QM.sub (e' := [(0, _), (1, _), (4, _), (7, _), (8, _), (10, _), (11, _), (12, _), (13, _), (130, _)]) ⟨rfl, rfl, rfl, rfl, rfl, rfl, rfl, rfl, rfl, rfl, trivial⟩ ?_
                                  refine QM.then ?_
                                  first | refine wpM.condD rfl (fun h23 => ?_) (fun h23 => ?_) | refine wpM.condB rfl (fun h23 => ?_) (fun h23 => ?_)
                                  ·
                                    refine wpM.seq ?_
                                    refine wpM.region ?_
                                    refine LM.val (ov_build (cs := #[_, _]) rfl (by first | rfl | kernel_rfl)) ?_
                                    refine LM.val (ov_move rfl) ?_
                                    first | refine LM.stW Tryd.sizeOf53 rfl rfl rfl rfl (by first | rfl | decide | (simp; done)) (fun hlt => absurd hlt (by omega)) ?_ | refine LM.st Tryd.sizeOf53 rfl rfl rfl (by first | decide | exact Nat.le_of_ble_eq_true rfl | (simp; done) | (simp; omega)) rfl (fun hlt => absurd hlt (by omega)) ?_
                                    refine LM.val (ov_assign rfl) ?_
                                    refine LM.val (ov_assign rfl) ?_
                                    refine LM.nil ?_
                                    refine QM.sub (e' := [(4, _), (5, _), (6, _)]) ⟨rfl, rfl, rfl, trivial⟩ ?_
                                    refine QM.then ?_
                                    refine wpM.ret ?_
                                    refine QM.then_ret ?_
                                    refine QM.block_ret ?_
                                    refine QM.then_ret ?_
                                    refine QM.then_ret ?_
                                    refine QM.block_ret ?_
                                    refine QM.then_ret ?_
                                    refine QM.block_ret ?_
                                    refine QM.then_ret ?_
                                    refine QM.block_ret ?_
                                    refine QM.then_ret ?_
                                    refine QM.leaveCs (ds := ([])) (.inl rfl) [.cell 4 53, .tmp 5, .tmp 6] Tryd.results27 hd_nil (rc_w rfl Tryd.isAgg53 Tryd.sizeOf53 rfl (rc_tmp rfl (rc_tmp rfl rc_nil))) ?_
                                    intro w' hm' hc'
                                    -- leaf 12: h1- h2- h3- h5- h6+ h7- h9- h10- h11+ h16- h17- h18- h19- h22- h23+
                                    exact ⟨hc', [], fin_bad hi0 (bad_of hL hn0 (hN.bad (e := 1) (by omega) hk0 hah hnq (by decide) (.inr ⟨rfl, by omega, Classical.not_not.1 h18, .inl ⟨by omega, .inr (by omega)⟩⟩)) (by decide)) (by decide), Mem.nil _, fun p hp => by cases hp⟩
                                  ·
                                    refine wpM.skip ?_
                                    refine QM.then ?_
                                    refine wpM.region ?_
                                    refine LM.val (ov_move rfl) ?_
                                    refine LM.val (ov_add64 rfl rfl (by omega)) ?_
                                    refine LM.val (ov_assign rfl) ?_
                                    refine LM.nil ?_
                                    refine QM.sub (e' := [(0, _), (1, _), (4, _), (7, _), (8, _), (10, _), (11, _), (12, _), (13, _)]) ⟨rfl, rfl, rfl, rfl, rfl, rfl, rfl, rfl, rfl, trivial⟩ ?_
                                    refine QM.block_normal ?_
                                    refine QM.then ?_
                                    refine wpM.region ?_
                                    refine LM.val (ov_move rfl) ?_
                                    refine LM.val (ov_add64 rfl rfl (by omega)) ?_
                                    refine LM.val (ov_assign rfl) ?_
                                    refine LM.nil ?_
                                    refine QM.sub (e' := [(0, _), (1, _), (4, _), (7, _), (8, _), (10, _), (11, _), (12, _), (13, _)]) ⟨rfl, rfl, rfl, rfl, rfl, rfl, rfl, rfl, rfl, trivial⟩ ?_
                                    -- again3: h1- h2- h3- h5- h6+ h7- h9- h10- h11+ h16- h17- h18- h19- h22- h23-
                                    obtain rfl : k = 0 := (by omega)
                                    refine QM.againK ((1, j + 1, lo, hi, (ws.getD j default).n, b)) ⟨(by first | rfl | exact lk rfl (by congr 1; omega) | exact lk rfl (by simp)), (by first | rfl | exact lk rfl (by congr 1; omega) | exact lk rfl (by simp)), (by first | rfl | exact lk rfl (by congr 1; omega) | exact lk rfl (by simp)), (by first | rfl | exact lk rfl (by congr 1; omega) | exact lk rfl (by simp)), rfl, rfl, rfl, rfl, rfl, trivial⟩ (by (repeat' (first | exact SubM.nil _ | refine SubM.cons rfl ?_ | refine SubM.app ?_))) (fun _ h => h) ?_ ?_
                                    · exact hN.take0 (fun q => hnq (.inl ⟨rfl, q⟩)) (by omega) (Classical.not_not.1 h18) ⟨by omega, by omega⟩
                                    · first | omega | (dsimp only; omega)
                    ·
                      refine wpM.exit ?_
                      refine QM.then_exit ?_
                      refine QM.then_exit ?_
                      refine QM.block_hit ?_
                      refine QM.then ?_
                      refine wpM.seq ?_
                      refine wpM.seq ?_
                      refine wpM.region ?_
                      refine LM.val (ov_move rfl) ?_
                      refine LM.val (ov_move rfl) ?_
                      refine LM.callE (oc_call (enters_fn Tryd.func63 (by kernel_rfl) rfl) rfl) (fun w hm hc hg => ris_spec j 3 [59] w hn (hl.ext hc)) ?_
                      first | refine LM.val (ov_notD rfl) ?_ | refine LM.val (ov_not rfl) ?_
                      refine LM.nil ?_
                      refine QM.sub (e' := [(0, _), (1, _), (4, _), (7, _), (10, _), (138, _)]) ⟨rfl, rfl, rfl, rfl, rfl, rfl, trivial⟩ ?_
                      refine QM.then ?_
                      first | refine wpM.condD rfl (fun h24 => ?_) (fun h24 => ?_) | refine wpM.condB rfl (fun h24 => ?_) (fun h24 => ?_)
                      ·
                        refine wpM.seq ?_
                        refine wpM.region ?_
                        refine LM.val (ov_build (cs := #[_, _]) rfl (by first | rfl | kernel_rfl)) ?_
                        refine LM.val (ov_move rfl) ?_
                        first | refine LM.stW Tryd.sizeOf53 rfl rfl rfl rfl (by first | rfl | decide | (simp; done)) (fun hlt => absurd hlt (by omega)) ?_ | refine LM.st Tryd.sizeOf53 rfl rfl rfl (by first | decide | exact Nat.le_of_ble_eq_true rfl | (simp; done) | (simp; omega)) rfl (fun hlt => absurd hlt (by omega)) ?_
                        refine LM.val (ov_assign rfl) ?_
                        refine LM.val (ov_assign rfl) ?_
                        refine LM.nil ?_
                        refine QM.sub (e' := [(4, _), (5, _), (6, _)]) ⟨rfl, rfl, rfl, trivial⟩ ?_
                        refine QM.then ?_
                        refine wpM.ret ?_
                        refine QM.then_ret ?_
                        refine QM.block_ret ?_
                        refine QM.then_ret ?_
                        refine QM.block_ret ?_
                        refine QM.then_ret ?_
                        refine QM.leaveCs (ds := ([])) (.inl rfl) [.cell 4 53, .tmp 5, .tmp 6] Tryd.results27 hd_nil (rc_w rfl Tryd.isAgg53 Tryd.sizeOf53 rfl (rc_tmp rfl (rc_tmp rfl rc_nil))) ?_
                        intro w' hm' hc'
                        -- leaf 13: h1- h2- h3- h5- h6+ h7- h9- h10- h11- h24+
                        have hA := hN.2.2.2.2 (by omega); exact ⟨hc', [], fin_bad hi0 (bad_of hL hn0 (opR_sb hk0 hah hA.2 (by simpa using h24)) (by decide)) (by decide), Mem.nil _, fun p hp => by cases hp⟩
                      ·
                        refine wpM.skip ?_
                        refine QM.then ?_
                        refine wpM.seq ?_
                        refine wpM.region ?_
                        refine LM.val (ov_move rfl) ?_
                        refine LM.val (ov_add64 rfl rfl (by omega)) ?_
                        refine LM.val (ov_assign rfl) ?_
                        refine LM.nil ?_
                        refine QM.sub (e' := [(0, _), (1, _), (4, _), (7, _), (10, _)]) ⟨rfl, rfl, rfl, rfl, rfl, trivial⟩ ?_
                        refine QM.then ?_
                        refine wpM.region ?_
                        refine LM.val (ov_field Tryd.underlying53 rfl Tryd.sizeOf51 rfl (k := 1) rfl rfl) ?_
                        first | refine LM.rd (om_ld Tryd.isAgg51 rfl rfl) ?_
                        first | refine LM.rd (om_ldW Tryd.isAgg69 Tryd.sizeOf69 rfl rfl) ?_ | refine LM.rd (om_ldA Tryd.isAgg69 Tryd.sizeOf69 rfl (vs := [_, _, _]) rfl ⟨rfl, rfl, rfl, trivial⟩) ?_
                        refine LM.single Tryd.underlying51 Tryd.sizeOf69 Tryd.zeroValue69 rfl rfl rfl rfl rfl (fun b146 hb146 => ?_)
                        refine LM.app (a := COp.mk (kindR ws i) a b) Tryd.underlying51 Tryd.typeInfo69 rfl rfl rfl rfl rfl rfl rfl (by assumption) (by rfl) (by intro _; rfl) (by intro _ u hu; simp [fO] at hu; (repeat (first | (rcases hu with rfl | hu) | subst hu | rfl))) (by first | exact Nat.le_refl _ | omega) (fun p hp hlt => absurd hlt (Nat.not_lt_of_le (Sl.ge (by assumption) p hp))) (by first | omega | (unfold maxLen; omega)) (by simp only [Tryd.t69]; omega) (fun ad147 n147 cap147 m147 hn147 hs147 hin147 => ?_)
                        refine LM.val (ov_field Tryd.underlying53 rfl Tryd.sizeOf51 rfl (k := 1) rfl rfl) ?_
                        refine LM.st Tryd.sizeOf51 rfl rfl rfl (by first | decide | exact Nat.le_of_ble_eq_true rfl | (simp; done) | (simp; omega)) rfl (fun hlt => absurd hlt (by omega)) ?_
                        refine LM.nil ?_
                        refine QM.sub (e' := [(0, _), (1, _), (4, _), (7, _)]) ⟨rfl, rfl, rfl, rfl, trivial⟩ ?_
                        refine QM.block_normal ?_
                        -- again1: h1- h2- h3- h5- h6+ h7- h9- h10- h11- h24-
                        have hA := hN.2.2.2.2 (by omega); have hok := opR_ok hk0 hah hA.1 hA.2 (show isR ws j 3 [59] = true by simpa using h24); have hlt := opR_lt (ws := ws) (i := i) (ahead := ops.length) (by rw [hok]); rw [hok] at hlt; have hlt : i < j + 1 ∧ j + 1 ≤ ws.length := hlt
                        refine QM.againK ((j + 1, ops ++ [⟨kindR ws i, a, b⟩], ad147, n147, cap147, m147)) ⟨(by first | rfl | exact lk rfl (by congr 1; omega) | exact lk rfl (by simp)), rfl, rfl, rfl, trivial⟩ (by (repeat' (first | exact SubM.nil _ | refine SubM.cons rfl ?_ | refine SubM.app ?_))) (fun _ h => h) ?_ ?_
                        · exact ⟨by rw [← hL, loopR_next hn0 (by rw [hok]), hok], hlt.2, by rw [hn147]; simp, hs147, by simp; omega⟩
                        · first | omega | (dsimp only; omega)
            ·
              refine wpM.exit ?_
              refine QM.then_exit ?_
              refine QM.then_exit ?_
              refine QM.block_hit ?_
              refine QM.then ?_
              refine wpM.seq ?_
              refine wpM.seq ?_
              refine wpM.region ?_
              refine LM.val (ov_field Tryd.underlying53 rfl Tryd.sizeOf51 rfl (k := 1) rfl rfl) ?_
              first | refine LM.rd (om_ld Tryd.isAgg51 rfl rfl) ?_
              refine LM.val (ov_len Tryd.underlying51 rfl) ?_
              refine LM.val (ov_eql rfl rfl) ?_
              refine LM.nil ?_
              refine QM.sub (e' := [(1, _), (4, _), (7, _), (152, _)]) ⟨rfl, rfl, rfl, rfl, trivial⟩ ?_
              refine QM.then ?_
              first | refine wpM.condD rfl (fun h25 => ?_) (fun h25 => ?_) | refine wpM.condB rfl (fun h25 => ?_) (fun h25 => ?_)
              ·
                refine wpM.seq ?_
                refine wpM.region ?_
                refine LM.val (ov_build (cs := #[_, _]) rfl (by first | rfl | kernel_rfl)) ?_
                refine LM.val (ov_move rfl) ?_
                first | refine LM.stW Tryd.sizeOf53 rfl rfl rfl rfl (by first | rfl | decide | (simp; done)) (fun hlt => absurd hlt (by omega)) ?_ | refine LM.st Tryd.sizeOf53 rfl rfl rfl (by first | decide | exact Nat.le_of_ble_eq_true rfl | (simp; done) | (simp; omega)) rfl (fun hlt => absurd hlt (by omega)) ?_
                refine LM.val (ov_assign rfl) ?_
                refine LM.val (ov_assign rfl) ?_
                refine LM.nil ?_
                refine QM.sub (e' := [(4, _), (5, _), (6, _)]) ⟨rfl, rfl, rfl, trivial⟩ ?_
                refine QM.then ?_
                refine wpM.ret ?_
                refine QM.then_ret ?_
                refine QM.leaveCs (ds := ([])) (.inl rfl) [.cell 4 53, .tmp 5, .tmp 6] Tryd.results27 hd_nil (rc_w rfl Tryd.isAgg53 Tryd.sizeOf53 rfl (rc_tmp rfl (rc_tmp rfl rc_nil))) ?_
                intro w' hm' hc'
                -- leaf 14: h1- h2- h3- h5- h6- h25+
                have hn1 : isR ws i 3 [125] = true := (by simpa using h6); have hb := hL; rw [loopR_done hn1, if_pos (by omega)] at hb; exact ⟨hc', [], fin_bad hi0 hb.symm (by decide), Mem.nil _, fun p hp => by cases hp⟩
              ·
                refine wpM.skip ?_
                refine QM.then ?_
                refine wpM.seq ?_
                refine wpM.region ?_
                first | refine LM.rd (om_ldW Tryd.isAgg53 Tryd.sizeOf53 rfl rfl) ?_ | refine LM.rd (om_ldA Tryd.isAgg53 Tryd.sizeOf53 rfl (vs := [_, _]) rfl ⟨rfl, rfl, trivial⟩) ?_
                refine LM.val (ov_move rfl) ?_
                refine LM.val (ov_add64 rfl rfl (by omega)) ?_
                first | refine LM.stW Tryd.sizeOf53 rfl rfl rfl rfl (by first | rfl | decide | (simp; done)) (fun hlt => absurd hlt (by omega)) ?_ | refine LM.st Tryd.sizeOf53 rfl rfl rfl (by first | decide | exact Nat.le_of_ble_eq_true rfl | (simp; done) | (simp; omega)) rfl (fun hlt => absurd hlt (by omega)) ?_
                refine LM.val (ov_assign rfl) ?_
                refine LM.val (ov_assign rfl) ?_
                refine LM.nil ?_
                refine QM.sub (e' := [(4, _), (5, _), (6, _)]) ⟨rfl, rfl, rfl, trivial⟩ ?_
                refine QM.then ?_
                refine wpM.ret ?_
                refine QM.leaveCs (ds := ([])) (.inl rfl) [.cell 4 53, .tmp 5, .tmp 6] Tryd.results27 hd_nil (rc_w rfl Tryd.isAgg53 Tryd.sizeOf53 rfl (rc_tmp rfl (rc_tmp rfl rc_nil))) ?_
                intro w' hm' hc'
                -- leaf 15: h1- h2- h3- h5- h6- h25-
                have hn1 : isR ws i 3 [125] = true := (by simpa using h6); have hb := hL; rw [loopR_done hn1, if_neg (by omega)] at hb; exact ⟨hc', mo, fin_ok2 hi0 hb.symm hno hso, hm'.pick mo, fun p hp => Sl.ge hso p hp⟩

end Go.Eng

