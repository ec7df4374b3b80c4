/- The walk of the document's parser of programs. No condition. -/
import Derived.Test.YtpllacnmiaommaaM2
import Derived.Test.YtpllacnmiaommaaM1
set_option linter.unusedVariables false
set_option linter.unusedSimpArgs false
set_option maxRecDepth 100000
namespace Go.Eng
open Go Go.Proofs Go.RowKit
def kacc (ws : List Wrd) (i : Nat) : Nat → Int
  | 0 => 0
  | m + 1 => if isR ws i 1 (nmT ((m + 1 : Nat) : Int)) then ((m + 1 : Nat) : Int) else kacc ws i m
theorem nmT_nat {k : Nat} (h : k < 12) : nmT (k : Int) = nmW.getD k [] := by unfold nmT; rw [if_pos om, Int.toNat_natCast]
theorem kacc_eq (ws : List Wrd) (i : Nat) : kacc ws i 11 = kindR ws i := by
  unfold kindR
  cases hc : (decide (i < ws.length) && decide ((ws.getD i default).k = 1)) with
  | false =>
    rw [if_neg (by simp)]
    have : ∀ m, kacc ws i m = 0 := by
      intro m
      induction m with
      | zero => rfl
      | succ m ih => unfold kacc isR; rw [hc, Bool.false_and, if_neg (by simp), ih]
    exact this 11
  | true =>
    rw [if_pos rfl, ← refK_eq]
    have : ∀ m, m ≤ 11 → kacc ws i m = refK (ws.getD i default).t m := by
      intro m
      induction m with
      | zero => intro _; rfl
      | succ m ih =>
        intro hm
        unfold kacc refK isR; rw [hc, Bool.true_and, ih om, nmT_nat om]
        by_cases q : (ws.getD i default).t = nmW.getD (m + 1) []
        · rw [if_pos q, if_pos (decide_eq_true q)]
        · rw [if_neg q, if_neg (by rw [decide_eq_false q]; simp)]
    exact this 11 (Nat.le_refl _)
theorem kacc_t {ws : List Wrd} {i k : Nat} (h1 : 1 ≤ k) (h : isR ws i 1 (nmT (k : Int)) = true) : kacc ws i k = (k : Int) := by
  obtain ⟨m, rfl⟩ : ∃ m, k = m + 1 := ⟨k - 1, by omega⟩
  unfold kacc; rw [if_pos h]
theorem kacc_f {ws : List Wrd} {i k : Nat} (h1 : 1 ≤ k) (h : isR ws i 1 (nmT (k : Int)) = false) : kacc ws i k = kacc ws i (k - 1) := by
  obtain ⟨m, rfl⟩ : ∃ m, k = m + 1 := ⟨k - 1, by omega⟩
  rw [show m + 1 - 1 = m by omega]
  conv => lhs; unfold kacc
  rw [if_neg (by rw [h]; simp)]
theorem body_a {ws : List Wrd} {i : Nat} (h : isR ws i 1 wProg = false) : bodyR ws i = ([], (i : Int), 5) := by unfold bodyR; rw [if_neg (by rw [h]; simp)]
theorem body_b {ws : List Wrd} {i : Nat} (h : isR ws i 1 wProg = true) (h2 : isR ws (headR ws i).2 3 [123] = false) : bodyR ws i = ([], ((headR ws i).2 : Int), 5) := by unfold bodyR; rw [if_pos h, if_neg (by rw [h2]; simp)]
theorem body_c {ws : List Wrd} {i : Nat} (h : isR ws i 1 wProg = true) (h2 : isR ws (headR ws i).2 3 [123] = true) : loopR ws ((headR ws i).2 + 1) [] = bodyR ws i := by unfold bodyR; rw [if_pos h, if_pos h2]
theorem nR1 {ws : List Wrd} {i : Nat} {lo hi : Int} (h : lo = -1) : numR ws i lo hi = (i, 0, 0) := by unfold numR; rw [if_pos h]
theorem nR2 {ws : List Wrd} {i : Nat} {lo hi : Int} (h : ¬ lo = -1) (h2 : ws.length ≤ i ∨ (ws.getD i default).k ≠ 2) : numR ws i lo hi = (i, 5, 0) := by
  unfold numR; rw [if_neg h, if_pos (by simp only [Bool.or_eq_true, decide_eq_true_eq]; exact h2)]
theorem nR3 {ws : List Wrd} {i : Nat} {lo hi : Int} (h : ¬ lo = -1) (h2 : i < ws.length) (h3 : (ws.getD i default).k = 2) (h4 : (ws.getD i default).n < lo ∨ hi < (ws.getD i default).n) : numR ws i lo hi = (i, 1, 0) := by
  unfold numR hasB; rw [if_neg h, if_neg (by simp only [Bool.or_eq_true, decide_eq_true_eq, not_or]; exact ⟨by omega, fun q => q h3⟩), if_neg h, if_neg (by simp only [Bool.and_eq_true, decide_eq_true_eq]; omega)]
theorem nR4 {ws : List Wrd} {i : Nat} {lo hi : Int} (h : ¬ lo = -1) (h2 : i < ws.length) (h3 : (ws.getD i default).k = 2) (h4 : lo ≤ (ws.getD i default).n ∧ (ws.getD i default).n ≤ hi) : numR ws i lo hi = (i + 1, 0, (ws.getD i default).n) := by
  unfold numR hasB; rw [if_neg h, if_neg (by simp only [Bool.or_eq_true, decide_eq_true_eq, not_or]; exact ⟨by omega, fun q => q h3⟩), if_neg h, if_pos (by simp only [Bool.and_eq_true, decide_eq_true_eq]; exact h4)]
theorem opB_of {ws : List Wrd} {i j : Nat} {a : Int} (h : opA ws i = (j, 0, a)) : opB ws i = numR ws j (loB (kindR ws i)) (hiB (kindR ws i)) := by unfold opB num2; rw [h, if_neg (by simp)]
theorem opR_Ab {ws : List Wrd} {i j ah : Nat} {e a : Int} (h1 : kindR ws i ≠ 0) (h2 : ah < 12) (h : opA ws i = (j, e, a)) (he : e ≠ 0) : (opR ws i ah).1 = j ∧ (opR ws i ah).2.1 = e := by
  have hB : opB ws i = (j, e, 0) := by unfold opB num2; rw [h, if_pos he]
  unfold opR; rw [if_neg h1, if_neg om, hB, if_pos he]; exact ⟨rfl, rfl⟩
theorem opR_Bb {ws : List Wrd} {i j ah : Nat} {e b : Int} (h1 : kindR ws i ≠ 0) (h2 : ah < 12) (h : opB ws i = (j, e, b)) (he : e ≠ 0) : (opR ws i ah).1 = j ∧ (opR ws i ah).2.1 = e := by
  unfold opR; rw [if_neg h1, if_neg om, h, if_pos he]; exact ⟨rfl, rfl⟩
theorem opR_sb {ws : List Wrd} {i j ah : Nat} {b : Int} (h1 : kindR ws i ≠ 0) (h2 : ah < 12) (h : opB ws i = (j, 0, b)) (he : isR ws j 3 [59] = false) : (opR ws i ah).1 = j ∧ (opR ws i ah).2.1 = 5 := by
  unfold opR; rw [if_neg h1, if_neg om, h, if_neg (by simp), if_neg (by rw [he]; simp)]; exact ⟨rfl, rfl⟩
theorem opR_ok {ws : List Wrd} {i j ah : Nat} {a b : Int} (h1 : kindR ws i ≠ 0) (h2 : ah < 12) (hA : (opA ws i).2.2 = a) (h : opB ws i = (j, 0, b)) (he : isR ws j 3 [59] = true) : opR ws i ah = (j + 1, 0, ⟨kindR ws i, a, b⟩) := by
  unfold opR; rw [if_neg h1, if_neg om, h, if_neg (by simp), if_pos he, hA]
theorem bad_of {ws : List Wrd} {R : List COp × Int × Int} {i j : Nat} {e : Int} {ops : List COp} (h : loopR ws i ops = R) (hn : isR ws i 3 [125] = false) (h1 : (opR ws i ops.length).1 = j ∧ (opR ws i ops.length).2.1 = e) (he : e ≠ 0) : R = ([], (j : Int), e) := by
  rw [← h, loopR_bad hn (by rw [h1.2]; exact he), h1.1, h1.2]
theorem fin_ok2 {ws : List Wrd} {i0 : Nat} {i : Int} {n0 : Nat} {ops : List COp} {ad : Option Addr} {n cap : Nat} {m : Mem0} (hi : i0 ≤ ws.length) (h : bodyR ws i0 = (ops, i, 0)) (hn : n = ops.length) (hs : Sl fO 102 3 n0 ops (.slice ad n cap) m) : ParT (parseO ws (i0 : Int)) n0 (.tuple #[.agg #[.bool (headR ws i0).1, .slice ad n cap], .int .i64 i, .int .i64 0]) m := by
  rw [parse_nat hi, h]; exact ⟨ad, n, cap, rfl, hn, hs⟩
def NumI (ws : List Wrd) (i k j : Nat) (lo hi a b : Int) : Prop :=
  k ≤ 2 ∧ j ≤ ws.length ∧ (k = 0 → j = i + 1 ∧ lo = loA (kindR ws i) ∧ hi = hiA (kindR ws i) ∧ a = 0 ∧ b = 0) ∧ (k = 1 → opA ws i = (j, 0, a) ∧ b = 0) ∧ (k = 2 → (opA ws i).2.2 = a ∧ opB ws i = (j, 0, b))
theorem NumI.skip {ws : List Wrd} {i k j : Nat} {lo hi a b : Int} (h : NumI ws i k j lo hi a b) (hq : (k = 0 ∧ lo < 0) ∨ (k = 1 ∧ kindR ws i ≠ 5)) : NumI ws i (k + 1) j lo hi a b := by
  obtain ⟨h1, h2, h3, h4, h5⟩ := h
  rcases hq with ⟨rfl, hq⟩ | ⟨rfl, hq⟩
  · obtain ⟨e1, e2, e3, e4, e5⟩ := h3 rfl
    subst e1; subst e4; subst e5; subst e2; subst e3
    have := loA_cases (kindR ws i)
    exact ⟨by omega, h2, fun q => by omega, fun _ => ⟨nR1 om, rfl⟩, fun q => by omega⟩
  · obtain ⟨e1, e2⟩ := h4 rfl
    subst e2
    exact ⟨by omega, h2, fun q => by omega, fun q => by omega, fun _ => ⟨by rw [e1], by rw [opB_of e1, nR1 (by unfold loB; rw [if_neg hq])]⟩⟩
theorem NumI.take0 {ws : List Wrd} {i j : Nat} {lo hi a b : Int} (h : NumI ws i 0 j lo hi a b) (hq : ¬ lo < 0) (h2 : j < ws.length) (h3 : (ws.getD j default).k = 2) (h4 : lo ≤ (ws.getD j default).n ∧ (ws.getD j default).n ≤ hi) : NumI ws i 1 (j + 1) lo hi (ws.getD j default).n b := by
  obtain ⟨h1, _, h5, _, _⟩ := h
  obtain ⟨e1, e2, e3, e4, e5⟩ := h5 rfl
  subst e1; subst e2; subst e3; subst e5
  exact ⟨by omega, h2, fun q => by omega, fun _ => ⟨nR4 om h2 h3 h4, rfl⟩, fun q => by omega⟩
theorem NumI.take1 {ws : List Wrd} {i j : Nat} {lo hi lo' hi' a b : Int} (h : NumI ws i 1 j lo hi a b) (hq : kindR ws i = 5) (h2 : j < ws.length) (h3 : (ws.getD j default).k = 2) (h4 : 1 ≤ (ws.getD j default).n ∧ (ws.getD j default).n ≤ 64) : NumI ws i 2 (j + 1) lo' hi' a (ws.getD j default).n := by
  obtain ⟨h1, _, _, h5, _⟩ := h
  obtain ⟨e1, e2⟩ := h5 rfl
  exact ⟨by omega, h2, fun q => by omega, fun q => by omega, fun _ => ⟨by rw [e1], by rw [opB_of e1]; unfold loB hiB; rw [if_pos hq, if_pos hq]; exact nR4 (by decide) h2 h3 h4⟩⟩
theorem NumI.bad {ws : List Wrd} {i k j ah : Nat} {lo hi a b e : Int} (h : NumI ws i k j lo hi a b) (hk : k < 2) (h1 : kindR ws i ≠ 0) (h2 : ah < 12) (hq : ¬ ((k = 0 ∧ lo < 0) ∨ (k = 1 ∧ kindR ws i ≠ 5))) (he : e ≠ 0)
    (h3 : (e = 5 ∧ (ws.length ≤ j ∨ (ws.getD j default).k ≠ 2)) ∨ (e = 1 ∧ j < ws.length ∧ (ws.getD j default).k = 2 ∧ ((k = 0 ∧ ((ws.getD j default).n < lo ∨ hi < (ws.getD j default).n)) ∨ (k = 1 ∧ ((ws.getD j default).n < 1 ∨ 64 < (ws.getD j default).n))))) : (opR ws i ah).1 = j ∧ (opR ws i ah).2.1 = e := by
  obtain ⟨_, _, h5, h6, _⟩ := h
  have : k = 0 ∨ k = 1 := by omega
  rcases this with rfl | rfl
  · obtain ⟨e1, e2, e3, e4, e5⟩ := h5 rfl
    subst e1; subst e2; subst e3
    have hlo : ¬ loA (kindR ws i) = -1 := by omega
    rcases h3 with ⟨rfl, h3⟩ | ⟨rfl, a1, a2, a3⟩
    · exact opR_Ab h1 h2 (nR2 hlo h3) he
    · rcases a3 with ⟨_, a3⟩ | ⟨a3, _⟩
      · exact opR_Ab h1 h2 (nR3 hlo a1 a2 a3) he
      · cases a3
  · obtain ⟨e1, e2⟩ := h6 rfl
    have h5' : kindR ws i = 5 := by omega
    have e3 := opB_of e1
    unfold loB hiB at e3; rw [if_pos h5', if_pos h5'] at e3
    rcases h3 with ⟨rfl, h3⟩ | ⟨rfl, a1, a2, a3⟩
    · exact opR_Bb h1 h2 (e3.trans (nR2 (by decide) h3)) he
    · rcases a3 with ⟨a3, _⟩ | ⟨_, a3⟩
      · cases a3
      · exact opR_Bb h1 h2 (e3.trans (nR3 (by decide) a1 a2 a3)) he
theorem ris_spec {ws : List Wrd} {ad : Option Addr} {n cap : Nat} (i : Nat) (k : Int) (t : List UInt8) (w : World) (hn : n = ws.length) (hl : Sr fW 4 ws (.slice ad n cap) w) : Ret Try.prog 44 #[.slice ad n cap, .int .i64 (i : Nat), .int .i64 k, vS t] w (fun v w' => v = .bool (isR ws i k t) ∧ Ext w w') := by
 refine Ret.enterM Try.func44 rfl Try.ntmps44 rfl ([]) (no) (Mem.nil w) ?_
 refine wR <| LM.as rfl <| nB [(0, _), (1, _), (2, _), (3, _)] <| LM.mv rfl <| LM.mv rfl <| LM.val (ov_len Try.underlying49 rfl) <| LM.val (ov_lss rfl rfl) <| LM.mv rfl ?_
 refine LM.splitD (t := 13) rfl (fun h1 => ?_) (fun h1 => ?_)
 ·
  refine LM.sp 13 rfl rfl rfl <| LM.mv rfl <| LM.sp 13 rfl rfl rfl <| LM.mv rfl <| LM.sp 13 rfl rfl rfl ?_
  refine LM.val (ov_idxSN au6 Try.underlying49 Try.sizeOf67 rfl rfl om) ?_
  refine LM.sp 13 rfl rfl rfl <| LM.val (ovf 3 rfl rfl rfl rfl) <| LM.sp 13 rfl rfl rfl ?_
  refine LM.rdC (om_srE (j := 0) asm Try.isAgg3 rfl rfl au3 (by rfl) (by rfl) id) ?_
  refine LM.sp 13 rfl rfl rfl <| LM.mv rfl <| LM.sp 13 rfl rfl rfl <| LM.val (ov_eql rfl rfl) <| LM.val (ov_pickT rfl rfl) <| LM.mv rfl ?_
  refine LM.splitD (t := 22) rfl (fun h2 => ?_) (fun h2 => ?_)
  ·
   refine LM.sp 22 rfl rfl rfl <| LM.mv rfl <| LM.sp 22 rfl rfl rfl <| LM.mv rfl <| LM.sp 22 rfl rfl rfl ?_
   refine LM.val (ov_idxSN au6 Try.underlying49 Try.sizeOf67 rfl rfl om) ?_
   refine LM.sp 22 rfl rfl rfl <| LM.val (ovf 9 rfl rfl rfl rfl) <| LM.sp 22 rfl rfl rfl ?_
   refine LM.rdC (om_srE (j := 1) asm Try.isAgg9 rfl rfl au3 (by rfl) (by rfl) id) ?_
   refine LM.sp 22 rfl rfl rfl <| LM.mv rfl <| LM.sp 22 rfl rfl rfl ?_
   refine LM.val (ov_seqlL rfl rfl) ?_
   refine LM.val (ov_pickT rfl rfl) <| LM.as rfl <| nA [(8, _)] <| wpM.ret ?_
   refine qL Try.results44 rfl fun w' hm' hc' hg' => ?_
   refine ⟨?_, hc'⟩; simp only [resV, isR]; rw [decide_eq_true (show i < ws.length by omega), decide_eq_true h2]; simp only [Bool.true_and]
  refine LM.dr 22 rfl rfl rfl <| LM.dr 22 rfl rfl rfl <| LM.dr 22 rfl rfl rfl <| LM.dr 22 rfl rfl rfl <| LM.dr 22 rfl rfl rfl <| LM.dr 22 rfl rfl rfl <| LM.dr 22 rfl rfl rfl <| LM.val (ov_pickF rfl rfl) <| LM.as rfl <| nA [(8, _)] <| wpM.ret ?_
  refine qL Try.results44 rfl fun w' hm' hc' hg' => ?_
  refine ⟨?_, hc'⟩; simp only [resV, isR]; rw [decide_eq_false h2]; simp only [Bool.and_false, Bool.false_and]
 refine LM.dr 13 rfl rfl rfl <| LM.dr 13 rfl rfl rfl <| LM.dr 13 rfl rfl rfl <| LM.dr 13 rfl rfl rfl <| LM.dr 13 rfl rfl rfl <| LM.dr 13 rfl rfl rfl <| LM.dr 13 rfl rfl rfl <| LM.val (ov_pickF rfl rfl) <| LM.mv rfl <| LM.dr 22 rfl rfl rfl <| LM.dr 22 rfl rfl rfl <| LM.dr 22 rfl rfl rfl <| LM.dr 22 rfl rfl rfl <| LM.dr 22 rfl rfl rfl <| LM.dr 22 rfl rfl rfl <| LM.dr 22 rfl rfl rfl <| LM.val (ov_pickF rfl rfl) <| LM.as rfl <| nA [(8, _)] <| wpM.ret ?_
 refine qL Try.results44 rfl fun w' hm' hc' hg' => ?_
 refine ⟨?_, hc'⟩; simp only [resV, isR]; rw [decide_eq_false (show ¬ i < ws.length by omega)]; simp only [Bool.and_false, Bool.false_and]
set_option maxHeartbeats 1000000 in
theorem rparse_spec {ws : List Wrd} {ad : Option Addr} {n cap : Nat} (p : Int) (w : World) (hn : n = ws.length) (hx : ws.length ≤ 1000000000) (hl : Sr fW 4 ws (.slice ad n cap) w) : Ret Try.prog 25 #[.slice ad n cap, .int .i64 p] w (fun v w' => Ext w w' ∧ ∃ m, ParT (parseO ws p) w.heap.size v m ∧ Mem w' m ∧ ∀ p ∈ m, w.heap.size ≤ p.1) := by
 refine Ret.enterM Try.func25 rfl Try.ntmps25 rfl ([]) (no) (Mem.nil w) ?_
 refine wR ?_
 refine LM.alloc Try.zeroValue45 rfl (fun b4 hb4 => ?_)
 refine LM.as rfl <| LM.as rfl <| nB [(0, _), (1, _), (4, _)] ?_
 refine LM.val (ov_build (cs := #[_, _]) rfl (by first | rfl | kernel_rfl)) ?_
 refine LM.alloc Try.zeroValue45 rfl (fun b7 hb7 => ?_)
 refine LM.stW Try.sizeOf45 rfl rfl rfl rfl au7 au8 ?_
 refine nA [(0, _), (1, _), (4, _), (7, _)] <| wpM.seq <| wR <| LM.mv rfl <| LM.val (ov_lss rfl rfl) <| LM.mv rfl ?_
 refine LM.splitD (t := 18) rfl (fun h1 => ?_) (fun h1 => ?_)
 ·
  refine LM.dr 18 rfl rfl rfl <| LM.dr 18 rfl rfl rfl <| LM.dr 18 rfl rfl rfl <| LM.dr 18 rfl rfl rfl <| LM.val (ov_pickT rfl rfl) <| nA [(0, _), (1, _), (4, _), (7, _), (23, _)] ?_
  refine wpM.condT rfl ?_
  refine wR ?_
  refine LM.rd (om_ldW Try.isAgg45 Try.sizeOf45 rfl rfl) ?_
  refine LM.stW Try.sizeOf45 rfl rfl rfl rfl au7 au8 ?_
  refine LM.as rfl <| LM.as rfl <| nA [(4, _), (5, _), (6, _)] <| wpM.ret <| QM.then_ret ?_
  refine QM.leaveCs (ds := ([])) (.inl rfl) [.cell 4 45, .tmp 5, .tmp 6] Try.results25 hd_nil (rc_w rfl Try.isAgg45 Try.sizeOf45 rfl (rc_tmp rfl (rc_tmp rfl rc_nil))) ?_
  intro w' hm' hc'
  have hpar : parseO ws p = (false, [], 0, 5) := (by unfold parseO; rw [if_pos om]); rw [hpar]; exact ⟨hc', [], ⟨none, 0, 0, rfl, rfl, .nil _ _ _ _⟩, Mem.nil _, fun p hp => by cases hp⟩
 refine LM.sp 18 rfl rfl rfl <| LM.mv rfl <| LM.sp 18 rfl rfl rfl <| LM.mv rfl <| LM.sp 18 rfl rfl rfl <| LM.val (ov_len Try.underlying49 rfl) <| LM.sp 18 rfl rfl rfl <| LM.val (ov_gtr rfl rfl) <| LM.val (ov_pickF rfl rfl) <| nA [(0, _), (1, _), (4, _), (7, _), (23, _)] ?_
 refine wpM.condD rfl (fun h2 => ?_) (fun h2 => ?_)
 ·
  refine wR ?_
  refine LM.rd (om_ldW Try.isAgg45 Try.sizeOf45 rfl rfl) ?_
  refine LM.stW Try.sizeOf45 rfl rfl rfl rfl au7 au8 ?_
  refine LM.as rfl <| LM.as rfl <| nA [(4, _), (5, _), (6, _)] <| wpM.ret <| QM.then_ret ?_
  refine QM.leaveCs (ds := ([])) (.inl rfl) [.cell 4 45, .tmp 5, .tmp 6] Try.results25 hd_nil (rc_w rfl Try.isAgg45 Try.sizeOf45 rfl (rc_tmp rfl (rc_tmp rfl rc_nil))) ?_
  intro w' hm' hc'
  have hpar : parseO ws p = (false, [], 0, 5) := (by unfold parseO; rw [if_pos om]); rw [hpar]; exact ⟨hc', [], ⟨none, 0, 0, rfl, rfl, .nil _ _ _ _⟩, Mem.nil _, fun p hp => by cases hp⟩
 obtain ⟨i0, rfl⟩ : ∃ i0 : Nat, p = (i0 : Nat) := ⟨p.toNat, by omega⟩; have hi0 : i0 ≤ ws.length := om
 refine wpM.skip <| QM.then <| wpM.seq <| wR <| LM.mv rfl <| LM.mv rfl ?_
 refine cE Try.func44 rfl (fun w hm hc hg => ris_spec i0 1 wProg w hn (hl.ext hc)) ?_
 refine LM.val (ov_not rfl) ?_
 refine nA [(0, _), (1, _), (4, _), (7, _), (28, _)] ?_
 refine wpM.condB rfl (fun h3 => ?_) (fun h3 => ?_)
 ·
  refine wR ?_
  refine LM.rd (om_ldW Try.isAgg45 Try.sizeOf45 rfl rfl) ?_
  refine LM.mv rfl ?_
  refine LM.stW Try.sizeOf45 rfl rfl rfl rfl au7 au8 ?_
  refine LM.as rfl <| LM.as rfl <| nA [(4, _), (5, _), (6, _)] <| wpM.ret <| QM.then_ret ?_
  refine QM.leaveCs (ds := ([])) (.inl rfl) [.cell 4 45, .tmp 5, .tmp 6] Try.results25 hd_nil (rc_w rfl Try.isAgg45 Try.sizeOf45 rfl (rc_tmp rfl (rc_tmp rfl rc_nil))) ?_
  intro w' hm' hc'
  exact ⟨hc', [], fin_bad hi0 (body_a (by simpa using h3)) (by decide), Mem.nil _, fun p hp => by cases hp⟩
 have hp : isR ws i0 1 wProg = true := (by simpa using h3)
 refine wpM.skip <| tR <| LM.mv rfl ?_
 refine LM.val (ov_add64 rfl rfl om) ?_
 refine LM.as rfl <| nA [(0, _), (1, _), (4, _), (7, _)] <| wpM.seq <| wR <| LM.mv rfl <| LM.mv rfl ?_
 rw [show ((i0 : Int) + 1) = ((i0 + 1 : Nat) : Int) from rfl]
 refine cE Try.func44 rfl (fun w hm hc hg => ris_spec (i0 + 1) 1 wForever w hn (hl.ext hc)) ?_
 refine nA [(0, _), (1, _), (4, _), (7, _), (35, _)] ?_
 refine wpM.joinK (α := Nat) (fun jj => [(1, .int .i64 (jj : Nat))]) [(0, _), (4, _), (7, _)] (fun jj => (b7, .cells #[.bool (headR ws i0).1, .slice none 0 0] 45 (0, 0)) :: (b4, .cells #[.bool false, .slice none 0 0] 45 (0, 0)) :: []) (fun jj => jj = (headR ws i0).2) ⟨rfl, rfl, rfl, trivial⟩ ?_ ?_
 ·
  refine wpM.condB rfl (fun h4 => ?_) (fun h4 => ?_)
  ·
   refine wR <| LM.val (ovf 4 rfl rfl rfl rfl) ?_
   refine LM.st Try.sizeOf4 rfl rfl rfl au5 rfl au8 ?_
   refine LM.nil (QM.sub (e' := [(0, _), (1, _), (4, _), (7, _)]) au9 (QM.then (wpM.region ?_)))
   refine LM.mv rfl ?_
   refine LM.val (ov_add64 rfl rfl om) ?_
   refine LM.as rfl <| nC [(0, _), (1, _), (4, _), (7, _)] ?_
   rw [show (headR ws i0).1 = true from h4]
   refine QM.meetK (i0 + 1 + 1) ⟨au2, rfl, rfl, rfl, trivial⟩ au1 ?_
   · show i0 + 1 + 1 = (if isR ws (i0 + 1) 1 wForever then i0 + 2 else i0 + 1); rw [if_pos h4]
  refine wpM.skip ?_
  rw [show (headR ws i0).1 = false from h4]
  refine QM.meetK (i0 + 1) ⟨au2, rfl, rfl, rfl, trivial⟩ au1 ?_
  · show i0 + 1 = (if isR ws (i0 + 1) 1 wForever then i0 + 2 else i0 + 1); rw [if_neg (by rw [h4]; simp)]
 rintro jj rfl
 change QM _ _ _ _ _ ((b7, .cells #[.bool (headR ws i0).1, .slice none 0 0] 45 (0, 0)) :: (b4, .cells #[.bool false, .slice none 0 0] 45 (0, 0)) :: []) _ _ _
 refine QM.then <| wpM.seq <| wR <| LM.mv rfl <| LM.mv rfl ?_
 refine cE Try.func44 rfl (fun w hm hc hg => ris_spec (headR ws i0).2 3 [123] w hn (hl.ext hc)) ?_
 refine LM.val (ov_not rfl) ?_
 refine nA [(0, _), (1, _), (4, _), (7, _), (42, _)] ?_
 refine wpM.condB rfl (fun h5 => ?_) (fun h5 => ?_)
 ·
  refine wR ?_
  refine LM.val (ov_build (cs := #[_, _]) rfl (by first | rfl | kernel_rfl)) ?_
  refine LM.mv rfl ?_
  refine LM.stW Try.sizeOf45 rfl rfl rfl rfl au7 au8 ?_
  refine LM.as rfl <| LM.as rfl <| nA [(4, _), (5, _), (6, _)] <| wpM.ret <| QM.then_ret ?_
  refine QM.leaveCs (ds := ([])) (.inl rfl) [.cell 4 45, .tmp 5, .tmp 6] Try.results25 hd_nil (rc_w rfl Try.isAgg45 Try.sizeOf45 rfl (rc_tmp rfl (rc_tmp rfl rc_nil))) ?_
  intro w' hm' hc'
  exact ⟨hc', [], fin_bad hi0 (body_b hp (by simpa using h5)) (by decide), Mem.nil _, fun p hp => by cases hp⟩
 have hbr : isR ws (headR ws i0).2 3 [123] = true := (by simpa using h5); have hbr2 := isR_lt hbr
 refine wpM.skip <| tR <| LM.mv rfl ?_
 refine LM.val (ov_add64 rfl rfl om) ?_
 refine LM.as rfl <| nA [(0, _), (1, _), (4, _), (7, _)] <| wpM.seq <| wpM.block ?_
 refine wpM.loopK0 (α := Nat × List COp × Option Addr × Nat × Nat × Mem0) (fun ⟨i, ops, ado, no, capo, mo⟩ => [(1, .int .i64 (i : Nat))]) [(0, _), (4, _), (7, _)] (fun ⟨i, ops, ado, no, capo, mo⟩ => mo ++ ((b7, .cells #[.bool (headR ws i0).1, .slice ado no capo] 45 (0, 0)) :: (b4, .cells #[.bool false, .slice none 0 0] 45 (0, 0)) :: [])) (fun ⟨i, ops, ado, no, capo, mo⟩ => loopR ws i ops = bodyR ws i0 ∧ i ≤ ws.length ∧ no = ops.length ∧ Sl fO 102 3 w.heap.size ops (.slice ado no capo) mo ∧ ops.length ≤ 12) (fun ⟨i, ops, ado, no, capo, mo⟩ => ws.length - i) (((headR ws i0).2 + 1, [], none, 0, 0, [])) ⟨au2, rfl, rfl, rfl, trivial⟩ au1 ⟨body_c hp hbr, isR_lt hbr, rfl, .nil _ _ _ _, by decide⟩ ?_
 rintro ⟨i, ops, ado, no, capo, mo⟩ ⟨hL, hile, hno, hso, hol⟩
 change wpM _ _ _ _ _ _ _ (mo ++ ((b7, .cells #[.bool (headR ws i0).1, .slice ado no capo] 45 (0, 0)) :: (b4, .cells #[.bool false, .slice none 0 0] 45 (0, 0)) :: [])) _ _ _
 refine wpM.seq <| wR <| LM.mv rfl <| LM.mv rfl ?_
 refine cE Try.func44 rfl (fun w hm hc hg => ris_spec i 3 [125] w hn (hl.ext hc)) ?_
 refine LM.val (ov_not rfl) ?_
 refine nA [(0, _), (1, _), (4, _), (7, _), (50, _)] ?_
 refine wpM.condB rfl (fun h6 => ?_) (fun h6 => ?_)
 ·
  have hn0 : isR ws i 3 [125] = false := (by simpa using h6)
  refine wpM.skip <| QM.then <| wpM.block <| wR <| LM.as rfl <| nA [(0, _), (1, _), (4, _), (7, _), (8, _)] <| wpM.seq <| wR <| LM.as rfl <| nA [(0, _), (1, _), (4, _), (7, _), (8, _), (9, _)] <| wpM.block ?_
  refine wpM.loopK0 (α := Nat × Int) (fun ⟨k, kd⟩ => [(8, .int .i64 kd), (9, .int .i64 (k : Nat))]) [(0, _), (1, _), (4, _), (7, _)] (fun ⟨k, kd⟩ => mo ++ ((b7, .cells #[.bool (headR ws i0).1, .slice ado no capo] 45 (0, 0)) :: (b4, .cells #[.bool false, .slice none 0 0] 45 (0, 0)) :: [])) (fun ⟨k, kd⟩ => 1 ≤ k ∧ k ≤ 12 ∧ kd = kacc ws i (k - 1)) (fun ⟨k, kd⟩ => 12 - k) ((1, 0)) ⟨au2, au2, rfl, rfl, rfl, rfl, trivial⟩ au1 ⟨by omega, by omega, rfl⟩ ?_
  rintro ⟨k, kd⟩ ⟨hk1, hk2, hkd⟩
  change wpM _ _ _ _ _ _ _ (mo ++ ((b7, .cells #[.bool (headR ws i0).1, .slice ado no capo] 45 (0, 0)) :: (b4, .cells #[.bool false, .slice none 0 0] 45 (0, 0)) :: [])) _ _ _
  refine wpM.seq <| wR <| LM.mv rfl <| LM.val (ov_leq rfl rfl) <| nA [(0, _), (1, _), (4, _), (7, _), (8, _), (9, _), (52, _)] ?_
  refine wpM.condD rfl (fun h7 => ?_) (fun h7 => ?_)
  ·
   refine wpM.skip <| QM.then <| wpM.seq <| wpM.block <| wR <| LM.mv rfl <| LM.mv rfl <| LM.mv rfl ?_
   refine cE Try.func45 rfl (fun w hm hc hg => rname_spec _ w) ?_
   refine cE Try.func44 rfl (fun w hm hc hg => ris_spec i 1 _ w hn (hl.ext hc)) ?_
   refine nA [(0, _), (1, _), (4, _), (7, _), (8, _), (9, _), (59, _)] ?_
   refine wpM.condB rfl (fun h8 => ?_) (fun h8 => ?_)
   ·
    refine wpM.region ?_
    refine LM.mv rfl <| LM.as rfl <| nC [(0, _), (1, _), (4, _), (7, _), (8, _), (9, _)] <| QM.block_normal ?_
    refine QM.then (wpM.region ?_)
    refine LM.mv rfl ?_
    refine LM.val (ov_add64 rfl rfl om) ?_
    refine LM.as rfl <| nC [(0, _), (1, _), (4, _), (7, _), (8, _), (9, _)] ?_
    refine QM.againK ((k + 1, (k : Int))) ⟨au2, au2, rfl, rfl, rfl, rfl, trivial⟩ au1 (fun _ h => h) ?_ ?_
    · exact ⟨by omega, by omega, (kacc_t hk1 h8).symm⟩
    · (dsimp only; omega)
   refine wpM.skip <| QM.block_normal ?_
   refine QM.then (wpM.region ?_)
   refine LM.mv rfl ?_
   refine LM.val (ov_add64 rfl rfl om) ?_
   refine LM.as rfl <| nC [(0, _), (1, _), (4, _), (7, _), (8, _), (9, _)] ?_
   refine QM.againK ((k + 1, kd)) ⟨au2, au2, rfl, rfl, rfl, rfl, trivial⟩ au1 (fun _ h => h) ?_ ?_
   · exact ⟨by omega, by omega, by rw [hkd]; exact (kacc_f hk1 h8).symm⟩
   · (dsimp only; omega)
  obtain rfl : kd = kindR ws i := (by rw [hkd, show k - 1 = 11 by omega, kacc_eq])
  refine wpM.exit <| QM.then_exit <| QM.then_exit <| QM.block_hit <| QM.then <| wpM.seq <| wR <| LM.mv rfl <| LM.val (ov_eql rfl rfl) <| nA [(0, _), (1, _), (4, _), (7, _), (8, _), (62, _)] ?_
  refine wpM.condD rfl (fun h9 => ?_) (fun h9 => ?_)
  ·
   refine wR ?_
   refine LM.val (ov_build (cs := #[_, _]) rfl (by first | rfl | kernel_rfl)) ?_
   refine LM.mv rfl ?_
   refine LM.stW Try.sizeOf45 rfl rfl rfl rfl au7 au8 ?_
   refine LM.as rfl <| LM.as rfl <| nA [(4, _), (5, _), (6, _)] <| wpM.ret <| QM.then_ret <| QM.block_ret <| QM.then_ret <| QM.block_ret <| QM.then_ret ?_
   refine QM.leaveCs (ds := ([])) (.inl rfl) [.cell 4 45, .tmp 5, .tmp 6] Try.results25 hd_nil (rc_w rfl Try.isAgg45 Try.sizeOf45 rfl (rc_tmp rfl (rc_tmp rfl rc_nil))) ?_
   intro w' hm' hc'
   exact ⟨hc', [], fin_bad hi0 (bad_of hL hn0 (by rw [op_a h9]; exact ⟨rfl, rfl⟩) (by decide)) (by decide), Mem.nil _, fun p hp => by cases hp⟩
  have hk0 : kindR ws i ≠ 0 := h9; have hklt := kindR_lt hk0
  refine wpM.skip <| QM.then <| wpM.seq <| wR <| LM.val (ovf 43 rfl rfl rfl rfl) ?_
  refine LM.rd (oml rfl rfl rfl) ?_
  refine LM.val (ov_len Try.underlying43 rfl) <| LM.val (ov_eql rfl rfl) <| nA [(0, _), (1, _), (4, _), (7, _), (8, _), (68, _)] ?_
  refine wpM.condD rfl (fun h10 => ?_) (fun h10 => ?_)
  ·
   refine wR ?_
   refine LM.val (ov_build (cs := #[_, _]) rfl (by first | rfl | kernel_rfl)) ?_
   refine LM.mv rfl ?_
   refine LM.stW Try.sizeOf45 rfl rfl rfl rfl au7 au8 ?_
   refine LM.as rfl <| LM.as rfl <| nA [(4, _), (5, _), (6, _)] <| wpM.ret <| QM.then_ret <| QM.block_ret <| QM.then_ret <| QM.block_ret <| QM.then_ret ?_
   refine QM.leaveCs (ds := ([])) (.inl rfl) [.cell 4 45, .tmp 5, .tmp 6] Try.results25 hd_nil (rc_w rfl Try.isAgg45 Try.sizeOf45 rfl (rc_tmp rfl (rc_tmp rfl rc_nil))) ?_
   intro w' hm' hc'
   exact ⟨hc', [], fin_bad hi0 (bad_of hL hn0 (by rw [op_b hk0 om]; exact ⟨rfl, rfl⟩) (by decide)) (by decide), Mem.nil _, fun p hp => by cases hp⟩
  have hah : ops.length < 12 := om
  refine wpM.skip <| tR <| LM.mv rfl ?_
  refine LM.val (ov_add64 rfl rfl om) ?_
  refine LM.as rfl <| nB [(0, _), (1, _), (4, _), (7, _), (8, _)] <| LM.mv rfl ?_
  refine LM.val (ov_build (cs := #[_, _, _]) rfl (by first | rfl | kernel_rfl)) ?_
  refine LM.alloc Try.zeroValue102 rfl (fun b10 hb10 => ?_)
  refine LM.stW Try.sizeOf102 rfl rfl rfl rfl au7 au8 ?_
  refine nB [(0, _), (1, _), (4, _), (7, _), (8, _), (10, _)] <| LM.mv rfl ?_
  refine cE Try.func46 rfl (fun w hm hc hg => limits_spec _ w) ?_
  refine LM.mv rfl <| LM.val (ov_extract rfl rfl) <| LM.val (ov_extract rfl rfl) <| LM.as rfl <| LM.as rfl <| nA [(0, _), (1, _), (4, _), (7, _), (8, _), (10, _), (11, _), (12, _)] <| wpM.seq <| wR <| LM.as rfl <| nA [(0, _), (1, _), (4, _), (7, _), (8, _), (10, _), (11, _), (12, _), (13, _)] <| wpM.block ?_
  refine wpM.loopK0 (α := Nat × Nat × Int × Int × Int × Int) (fun ⟨k, j, lo, hi, a, b⟩ => [(1, .int .i64 (j : Nat)), (11, .int .i64 lo), (12, .int .i64 hi), (13, .int .i64 (k : Nat))]) [(0, _), (4, _), (7, _), (8, _), (10, _)] (fun ⟨k, j, lo, hi, a, b⟩ => mo ++ ((b10, .cells #[.int .i64 (kindR ws i), .int .i64 a, .int .i64 b] 102 (0, 0)) :: (b7, .cells #[.bool (headR ws i0).1, .slice ado no capo] 45 (0, 0)) :: (b4, .cells #[.bool false, .slice none 0 0] 45 (0, 0)) :: [])) (fun ⟨k, j, lo, hi, a, b⟩ => NumI ws i k j lo hi a b) (fun ⟨k, j, lo, hi, a, b⟩ => 2 - k) ((0, i + 1, loA (kindR ws i), hiA (kindR ws i), 0, 0)) ⟨au2, au2, au2, au2, rfl, rfl, rfl, rfl, rfl, trivial⟩ au1 ⟨by omega, kindR_lt hk0, fun _ => ⟨rfl, rfl, rfl, rfl, rfl⟩, fun q => by omega, fun q => by omega⟩ ?_
  rintro ⟨k, j, lo, hi, a, b⟩ hN
  change wpM _ _ _ _ _ _ _ (mo ++ ((b10, .cells #[.int .i64 (kindR ws i), .int .i64 a, .int .i64 b] 102 (0, 0)) :: (b7, .cells #[.bool (headR ws i0).1, .slice ado no capo] 45 (0, 0)) :: (b4, .cells #[.bool false, .slice none 0 0] 45 (0, 0)) :: [])) _ _ _
  have hjl := hN.2.1; have hk2 := hN.1
  refine wpM.seq <| wR <| LM.mv rfl <| LM.val (ov_lss rfl rfl) <| nA [(0, _), (1, _), (4, _), (7, _), (8, _), (10, _), (11, _), (12, _), (13, _), (81, _)] ?_
  refine wpM.condD rfl (fun h11 => ?_) (fun h11 => ?_)
  ·
   refine wpM.skip <| QM.then <| wpM.seq <| wpM.block <| wpM.seq <| wpM.seq ?_
   refine wpM.joinK (α := Bool) (fun q => [(97, .bool q)]) [(0, _), (1, _), (4, _), (7, _), (8, _), (10, _), (11, _), (12, _), (13, _)] (fun q => mo ++ ((b10, .cells #[.int .i64 (kindR ws i), .int .i64 a, .int .i64 b] 102 (0, 0)) :: (b7, .cells #[.bool (headR ws i0).1, .slice ado no capo] 45 (0, 0)) :: (b4, .cells #[.bool false, .slice none 0 0] 45 (0, 0)) :: [])) (fun q => q = decide ((k = 0 ∧ lo < 0) ∨ (k = 1 ∧ kindR ws i ≠ 5))) ⟨rfl, rfl, rfl, rfl, rfl, rfl, rfl, rfl, rfl, trivial⟩ ?_ ?_
   ·
    refine wpM.region ?_
    refine LM.mv rfl <| LM.val (ov_eql rfl rfl) <| LM.mv rfl ?_
    refine LM.splitD (t := 86) rfl (fun h12 => ?_) (fun h12 => ?_)
    ·
     refine LM.sp 86 rfl rfl rfl <| LM.mv rfl <| LM.sp 86 rfl rfl rfl <| LM.val (ov_lss rfl rfl) <| LM.val (ov_pickT rfl rfl) <| LM.mv rfl ?_
     refine LM.splitD (t := 90) rfl (fun h13 => ?_) (fun h13 => ?_)
     ·
      refine LM.dr 90 rfl rfl rfl <| LM.dr 90 rfl rfl rfl ?_
      refine LM.dropU (t := 90) rfl rfl rfl ?_
      refine LM.dropX (t := 93) rfl rfl ?_
      refine LM.dropX (t := 93) rfl rfl ?_
      refine LM.dr 90 rfl rfl rfl <| LM.val (ov_pickT rfl rfl) <| nC [(0, _), (1, _), (4, _), (7, _), (8, _), (10, _), (11, _), (12, _), (13, _), (97, _)] ?_
      refine QM.meetK (_) ⟨au2, rfl, rfl, rfl, rfl, rfl, rfl, rfl, rfl, rfl, trivial⟩ au1 ?_
      · exact (decide_eq_true (.inl ⟨by omega, h13⟩)).symm
     refine LM.sp 90 rfl rfl rfl <| LM.mv rfl <| LM.sp 90 rfl rfl rfl <| LM.val (ov_eql rfl rfl) <| LM.sp 90 rfl rfl rfl <| LM.mv rfl ?_
     refine LM.splitD (t := 93) rfl (fun h14 => ?_) (fun h14 => ?_)
     ·
      refine LM.sp 93 rfl rfl rfl <| LM.mv rfl <| LM.sp 93 rfl rfl rfl <| LM.val (ov_neq rfl rfl) <| LM.sp 90 rfl rfl rfl <| LM.val (ov_pickT rfl rfl) <| LM.val (ov_pickF rfl rfl) <| nC [(0, _), (1, _), (4, _), (7, _), (8, _), (10, _), (11, _), (12, _), (13, _), (97, _)] ?_
      refine QM.meetK (_) ⟨au2, rfl, rfl, rfl, rfl, rfl, rfl, rfl, rfl, rfl, trivial⟩ au1 ?_
      · exfalso; omega
     refine LM.dr 93 rfl rfl rfl <| LM.dr 93 rfl rfl rfl <| LM.sp 90 rfl rfl rfl <| LM.val (ov_pickF rfl rfl) <| LM.val (ov_pickF rfl rfl) <| nC [(0, _), (1, _), (4, _), (7, _), (8, _), (10, _), (11, _), (12, _), (13, _), (97, _)] ?_
     refine QM.meetK (_) ⟨au2, rfl, rfl, rfl, rfl, rfl, rfl, rfl, rfl, rfl, trivial⟩ au1 ?_
     · exact (decide_eq_false (fun q => by rcases q with ⟨_, q⟩ | ⟨q, _⟩; exact h13 q; omega)).symm
    refine LM.dr 86 rfl rfl rfl <| LM.dr 86 rfl rfl rfl <| LM.val (ov_pickF rfl rfl) <| LM.mv rfl <| LM.sp 90 rfl rfl rfl <| LM.mv rfl <| LM.sp 90 rfl rfl rfl <| LM.val (ov_eql rfl rfl) <| LM.sp 90 rfl rfl rfl <| LM.mv rfl ?_
    refine LM.splitD (t := 93) rfl (fun h15 => ?_) (fun h15 => ?_)
    ·
     refine LM.sp 93 rfl rfl rfl <| LM.mv rfl <| LM.sp 93 rfl rfl rfl <| LM.val (ov_neq rfl rfl) <| LM.sp 90 rfl rfl rfl <| LM.val (ov_pickT rfl rfl) <| LM.val (ov_pickF rfl rfl) <| nC [(0, _), (1, _), (4, _), (7, _), (8, _), (10, _), (11, _), (12, _), (13, _), (97, _)] ?_
     refine QM.meetK (_) ⟨au2, rfl, rfl, rfl, rfl, rfl, rfl, rfl, rfl, rfl, trivial⟩ au1 ?_
     · exact decide_eq_decide.2 ⟨fun q => .inr ⟨by omega, q⟩, fun q => by rcases q with ⟨q, _⟩ | ⟨_, q⟩; (exfalso; omega); exact q⟩
    refine LM.dr 93 rfl rfl rfl <| LM.dr 93 rfl rfl rfl <| LM.sp 90 rfl rfl rfl <| LM.val (ov_pickF rfl rfl) <| LM.val (ov_pickF rfl rfl) <| nC [(0, _), (1, _), (4, _), (7, _), (8, _), (10, _), (11, _), (12, _), (13, _), (97, _)] ?_
    refine QM.meetK (_) ⟨au2, rfl, rfl, rfl, rfl, rfl, rfl, rfl, rfl, rfl, trivial⟩ au1 ?_
    · exact (decide_eq_false (fun q => by rcases q with ⟨q, _⟩ | ⟨q, _⟩ <;> omega)).symm
   rintro q hq
   change QM _ _ _ _ _ (mo ++ ((b10, .cells #[.int .i64 (kindR ws i), .int .i64 a, .int .i64 b] 102 (0, 0)) :: (b7, .cells #[.bool (headR ws i0).1, .slice ado no capo] 45 (0, 0)) :: (b4, .cells #[.bool false, .slice none 0 0] 45 (0, 0)) :: [])) _ _ _
   refine QM.then ?_
   refine wpM.condB rfl (fun h16 => ?_) (fun h16 => ?_)
   ·
    refine wpM.exit <| QM.then_exit <| QM.block_hit ?_
    refine QM.then (wpM.region ?_)
    refine LM.mv rfl ?_
    refine LM.val (ov_add64 rfl rfl om) ?_
    refine LM.as rfl <| nC [(0, _), (1, _), (4, _), (7, _), (8, _), (10, _), (11, _), (12, _), (13, _)] ?_
    refine QM.againK ((k + 1, j, lo, hi, a, b)) ⟨au2, au2, au2, au2, rfl, rfl, rfl, rfl, rfl, trivial⟩ au1 (fun _ h => h) ?_ ?_
    · exact hN.skip (of_decide_eq_true (hq ▸ h16))
    · (dsimp only; omega)
   have hnq : ¬ ((k = 0 ∧ lo < 0) ∨ (k = 1 ∧ kindR ws i ≠ 5)) := of_decide_eq_false (hq ▸ h16)
   refine wpM.skip <| QM.then <| wpM.seq <| wR <| LM.mv rfl <| LM.mv rfl <| LM.val (ov_len Try.underlying49 rfl) <| LM.val (ov_geq rfl rfl) <| LM.mv rfl ?_
   refine LM.splitD (t := 102) rfl (fun h17 => ?_) (fun h17 => ?_)
   ·
    refine LM.dr 102 rfl rfl rfl <| LM.dr 102 rfl rfl rfl <| LM.dr 102 rfl rfl rfl <| LM.dr 102 rfl rfl rfl <| LM.dr 102 rfl rfl rfl <| LM.dr 102 rfl rfl rfl <| LM.val (ov_pickT rfl rfl) <| nA [(0, _), (1, _), (4, _), (7, _), (8, _), (10, _), (11, _), (12, _), (13, _), (109, _)] ?_
    refine wpM.condT rfl ?_
    refine wR ?_
    refine LM.val (ov_build (cs := #[_, _]) rfl (by first | rfl | kernel_rfl)) ?_
    refine LM.mv rfl ?_
    refine LM.stW Try.sizeOf45 rfl rfl rfl rfl au7 au8 ?_
    refine LM.as rfl <| LM.as rfl <| nA [(4, _), (5, _), (6, _)] <| wpM.ret <| QM.then_ret <| QM.block_ret <| QM.then_ret <| QM.then_ret <| QM.block_ret <| QM.then_ret <| QM.block_ret <| QM.then_ret <| QM.block_ret <| QM.then_ret ?_
    refine QM.leaveCs (ds := ([])) (.inl rfl) [.cell 4 45, .tmp 5, .tmp 6] Try.results25 hd_nil (rc_w rfl Try.isAgg45 Try.sizeOf45 rfl (rc_tmp rfl (rc_tmp rfl rc_nil))) ?_
    intro w' hm' hc'
    exact ⟨hc', [], fin_bad hi0 (bad_of hL hn0 (hN.bad (e := 5) om hk0 hah hnq (by decide) (.inl ⟨rfl, .inl om⟩)) (by decide)) (by decide), Mem.nil _, fun p hp => by cases hp⟩
   refine LM.sp 102 rfl rfl rfl <| LM.mv rfl <| LM.sp 102 rfl rfl rfl <| LM.mv rfl <| LM.sp 102 rfl rfl rfl ?_
   refine LM.val (ov_idxSN au6 Try.underlying49 Try.sizeOf67 rfl rfl om) ?_
   refine LM.sp 102 rfl rfl rfl <| LM.val (ovf 3 rfl rfl rfl rfl) <| LM.sp 102 rfl rfl rfl ?_
   refine LM.rdC (om_srE (j := 0) asm Try.isAgg3 rfl rfl au3 (by rfl) (by rfl) id) ?_
   refine LM.sp 102 rfl rfl rfl <| LM.val (ov_neq rfl rfl) <| LM.val (ov_pickF rfl rfl) <| nA [(0, _), (1, _), (4, _), (7, _), (8, _), (10, _), (11, _), (12, _), (13, _), (109, _)] ?_
   refine wpM.condD rfl (fun h18 => ?_) (fun h18 => ?_)
   ·
    refine wR ?_
    refine LM.val (ov_build (cs := #[_, _]) rfl (by first | rfl | kernel_rfl)) ?_
    refine LM.mv rfl ?_
    refine LM.stW Try.sizeOf45 rfl rfl rfl rfl au7 au8 ?_
    refine LM.as rfl <| LM.as rfl <| nA [(4, _), (5, _), (6, _)] <| wpM.ret <| QM.then_ret <| QM.block_ret <| QM.then_ret <| QM.then_ret <| QM.block_ret <| QM.then_ret <| QM.block_ret <| QM.then_ret <| QM.block_ret <| QM.then_ret ?_
    refine QM.leaveCs (ds := ([])) (.inl rfl) [.cell 4 45, .tmp 5, .tmp 6] Try.results25 hd_nil (rc_w rfl Try.isAgg45 Try.sizeOf45 rfl (rc_tmp rfl (rc_tmp rfl rc_nil))) ?_
    intro w' hm' hc'
    exact ⟨hc', [], fin_bad hi0 (bad_of hL hn0 (hN.bad (e := 5) om hk0 hah hnq (by decide) (.inl ⟨rfl, .inr h18⟩)) (by decide)) (by decide), Mem.nil _, fun p hp => by cases hp⟩
   refine wpM.skip <| tR <| LM.mv rfl <| LM.mv rfl ?_
   refine LM.val (ov_idxSN au6 Try.underlying49 Try.sizeOf67 rfl rfl om) ?_
   refine LM.val (ovf 3 rfl rfl rfl rfl) ?_
   refine LM.rdC (om_srE (j := 2) asm Try.isAgg3 rfl rfl au3 (by rfl) (by rfl) id) ?_
   refine LM.as rfl <| nA [(0, _), (1, _), (4, _), (7, _), (8, _), (10, _), (11, _), (12, _), (13, _), (14, _)] <| wpM.seq <| wR <| LM.mv rfl <| LM.val (ov_eql rfl rfl) <| nA [(0, _), (1, _), (4, _), (7, _), (8, _), (10, _), (11, _), (12, _), (13, _), (14, _), (118, _)] ?_
   refine wpM.condD rfl (fun h19 => ?_) (fun h19 => ?_)
   ·
    refine wR <| LM.as rfl <| nB [(0, _), (1, _), (4, _), (7, _), (8, _), (10, _), (11, _), (13, _), (14, _)] <| LM.as rfl ?_
    refine LM.nil (QM.sub (e' := [(0, _), (1, _), (4, _), (7, _), (8, _), (10, _), (11, _), (12, _), (13, _), (14, _)]) au9 (QM.then (wpM.region ?_)))
    refine LM.mv rfl <| LM.val (ovf 3 rfl rfl rfl rfl) ?_
    refine LM.st Try.sizeOf3 rfl rfl rfl au5 rfl au8 ?_
    refine nA [(0, _), (1, _), (4, _), (7, _), (8, _), (10, _), (11, _), (12, _), (13, _), (14, _)] <| wpM.seq <| wR <| LM.mv rfl <| LM.mv rfl <| LM.val (ov_lss rfl rfl) <| LM.mv rfl ?_
    refine LM.splitD (t := 126) rfl (fun h20 => ?_) (fun h20 => ?_)
    ·
     refine LM.dr 126 rfl rfl rfl <| LM.dr 126 rfl rfl rfl <| LM.dr 126 rfl rfl rfl <| LM.val (ov_pickT rfl rfl) <| nA [(0, _), (1, _), (4, _), (7, _), (8, _), (10, _), (11, _), (12, _), (13, _), (130, _)] ?_
     refine wpM.condT rfl ?_
     refine wR ?_
     refine LM.val (ov_build (cs := #[_, _]) rfl (by first | rfl | kernel_rfl)) ?_
     refine LM.mv rfl ?_
     refine LM.stW Try.sizeOf45 rfl rfl rfl rfl au7 au8 ?_
     refine LM.as rfl <| LM.as rfl <| nA [(4, _), (5, _), (6, _)] <| wpM.ret <| QM.then_ret <| QM.block_ret <| QM.then_ret <| QM.then_ret <| QM.block_ret <| QM.then_ret <| QM.block_ret <| QM.then_ret <| QM.block_ret <| QM.then_ret ?_
     refine QM.leaveCs (ds := ([])) (.inl rfl) [.cell 4 45, .tmp 5, .tmp 6] Try.results25 hd_nil (rc_w rfl Try.isAgg45 Try.sizeOf45 rfl (rc_tmp rfl (rc_tmp rfl rc_nil))) ?_
     intro w' hm' hc'
     exact ⟨hc', [], fin_bad hi0 (bad_of hL hn0 (hN.bad (e := 1) om hk0 hah hnq (by decide) (.inr ⟨rfl, by omega, Classical.not_not.1 h18, .inr ⟨by omega, .inl h20⟩⟩)) (by decide)) (by decide), Mem.nil _, fun p hp => by cases hp⟩
    refine LM.sp 126 rfl rfl rfl <| LM.mv rfl <| LM.sp 126 rfl rfl rfl <| LM.mv rfl <| LM.sp 126 rfl rfl rfl <| LM.val (ov_gtr rfl rfl) <| LM.val (ov_pickF rfl rfl) <| nA [(0, _), (1, _), (4, _), (7, _), (8, _), (10, _), (11, _), (12, _), (13, _), (130, _)] ?_
    refine wpM.condD rfl (fun h21 => ?_) (fun h21 => ?_)
    ·
     refine wR ?_
     refine LM.val (ov_build (cs := #[_, _]) rfl (by first | rfl | kernel_rfl)) ?_
     refine LM.mv rfl ?_
     refine LM.stW Try.sizeOf45 rfl rfl rfl rfl au7 au8 ?_
     refine LM.as rfl <| LM.as rfl <| nA [(4, _), (5, _), (6, _)] <| wpM.ret <| QM.then_ret <| QM.block_ret <| QM.then_ret <| QM.then_ret <| QM.block_ret <| QM.then_ret <| QM.block_ret <| QM.then_ret <| QM.block_ret <| QM.then_ret ?_
     refine QM.leaveCs (ds := ([])) (.inl rfl) [.cell 4 45, .tmp 5, .tmp 6] Try.results25 hd_nil (rc_w rfl Try.isAgg45 Try.sizeOf45 rfl (rc_tmp rfl (rc_tmp rfl rc_nil))) ?_
     intro w' hm' hc'
     exact ⟨hc', [], fin_bad hi0 (bad_of hL hn0 (hN.bad (e := 1) om hk0 hah hnq (by decide) (.inr ⟨rfl, by omega, Classical.not_not.1 h18, .inr ⟨by omega, .inr om⟩⟩)) (by decide)) (by decide), Mem.nil _, fun p hp => by cases hp⟩
    refine wpM.skip ?_
    refine QM.then (wpM.region ?_)
    refine LM.mv rfl ?_
    refine LM.val (ov_add64 rfl rfl om) ?_
    refine LM.as rfl <| nC [(0, _), (1, _), (4, _), (7, _), (8, _), (10, _), (11, _), (12, _), (13, _)] <| QM.block_normal ?_
    refine QM.then (wpM.region ?_)
    refine LM.mv rfl ?_
    refine LM.val (ov_add64 rfl rfl om) ?_
    refine LM.as rfl <| nC [(0, _), (1, _), (4, _), (7, _), (8, _), (10, _), (11, _), (12, _), (13, _)] ?_
    obtain rfl : k = 1 := om
    refine QM.againK ((2, j + 1, 1, 64, a, (ws.getD j default).n)) ⟨au2, au2, au2, au2, rfl, rfl, rfl, rfl, rfl, trivial⟩ au1 (fun _ h => h) ?_ ?_
    · exact hN.take1 (Classical.byContradiction fun q => hnq (.inr ⟨rfl, q⟩)) om (Classical.not_not.1 h18) ⟨by omega, by omega⟩
    · (dsimp only; omega)
   refine wpM.region ?_
   refine LM.mv rfl <| LM.val (ovf 3 rfl rfl rfl rfl) ?_
   refine LM.st Try.sizeOf3 rfl rfl rfl au5 rfl au8 ?_
   refine nA [(0, _), (1, _), (4, _), (7, _), (8, _), (10, _), (11, _), (12, _), (13, _), (14, _)] <| wpM.seq <| wR <| LM.mv rfl <| LM.mv rfl <| LM.val (ov_lss rfl rfl) <| LM.mv rfl ?_
   refine LM.splitD (t := 126) rfl (fun h22 => ?_) (fun h22 => ?_)
   ·
    refine LM.dr 126 rfl rfl rfl <| LM.dr 126 rfl rfl rfl <| LM.dr 126 rfl rfl rfl <| LM.val (ov_pickT rfl rfl) <| nA [(0, _), (1, _), (4, _), (7, _), (8, _), (10, _), (11, _), (12, _), (13, _), (130, _)] ?_
    refine wpM.condT rfl ?_
    refine wR ?_
    refine LM.val (ov_build (cs := #[_, _]) rfl (by first | rfl | kernel_rfl)) ?_
    refine LM.mv rfl ?_
    refine LM.stW Try.sizeOf45 rfl rfl rfl rfl au7 au8 ?_
    refine LM.as rfl <| LM.as rfl <| nA [(4, _), (5, _), (6, _)] <| wpM.ret <| QM.then_ret <| QM.block_ret <| QM.then_ret <| QM.then_ret <| QM.block_ret <| QM.then_ret <| QM.block_ret <| QM.then_ret <| QM.block_ret <| QM.then_ret ?_
    refine QM.leaveCs (ds := ([])) (.inl rfl) [.cell 4 45, .tmp 5, .tmp 6] Try.results25 hd_nil (rc_w rfl Try.isAgg45 Try.sizeOf45 rfl (rc_tmp rfl (rc_tmp rfl rc_nil))) ?_
    intro w' hm' hc'
    exact ⟨hc', [], fin_bad hi0 (bad_of hL hn0 (hN.bad (e := 1) om hk0 hah hnq (by decide) (.inr ⟨rfl, by omega, Classical.not_not.1 h18, .inl ⟨by omega, .inl h22⟩⟩)) (by decide)) (by decide), Mem.nil _, fun p hp => by cases hp⟩
   refine LM.sp 126 rfl rfl rfl <| LM.mv rfl <| LM.sp 126 rfl rfl rfl <| LM.mv rfl <| LM.sp 126 rfl rfl rfl <| LM.val (ov_gtr rfl rfl) <| LM.val (ov_pickF rfl rfl) <| nA [(0, _), (1, _), (4, _), (7, _), (8, _), (10, _), (11, _), (12, _), (13, _), (130, _)] ?_
   refine wpM.condD rfl (fun h23 => ?_) (fun h23 => ?_)
   ·
    refine wR ?_
    refine LM.val (ov_build (cs := #[_, _]) rfl (by first | rfl | kernel_rfl)) ?_
    refine LM.mv rfl ?_
    refine LM.stW Try.sizeOf45 rfl rfl rfl rfl au7 au8 ?_
    refine LM.as rfl <| LM.as rfl <| nA [(4, _), (5, _), (6, _)] <| wpM.ret <| QM.then_ret <| QM.block_ret <| QM.then_ret <| QM.then_ret <| QM.block_ret <| QM.then_ret <| QM.block_ret <| QM.then_ret <| QM.block_ret <| QM.then_ret ?_
    refine QM.leaveCs (ds := ([])) (.inl rfl) [.cell 4 45, .tmp 5, .tmp 6] Try.results25 hd_nil (rc_w rfl Try.isAgg45 Try.sizeOf45 rfl (rc_tmp rfl (rc_tmp rfl rc_nil))) ?_
    intro w' hm' hc'
    exact ⟨hc', [], fin_bad hi0 (bad_of hL hn0 (hN.bad (e := 1) om hk0 hah hnq (by decide) (.inr ⟨rfl, by omega, Classical.not_not.1 h18, .inl ⟨by omega, .inr om⟩⟩)) (by decide)) (by decide), Mem.nil _, fun p hp => by cases hp⟩
   refine wpM.skip ?_
   refine QM.then (wpM.region ?_)
   refine LM.mv rfl ?_
   refine LM.val (ov_add64 rfl rfl om) ?_
   refine LM.as rfl <| nC [(0, _), (1, _), (4, _), (7, _), (8, _), (10, _), (11, _), (12, _), (13, _)] <| QM.block_normal ?_
   refine QM.then (wpM.region ?_)
   refine LM.mv rfl ?_
   refine LM.val (ov_add64 rfl rfl om) ?_
   refine LM.as rfl <| nC [(0, _), (1, _), (4, _), (7, _), (8, _), (10, _), (11, _), (12, _), (13, _)] ?_
   obtain rfl : k = 0 := om
   refine QM.againK ((1, j + 1, lo, hi, (ws.getD j default).n, b)) ⟨au2, au2, au2, au2, rfl, rfl, rfl, rfl, rfl, trivial⟩ au1 (fun _ h => h) ?_ ?_
   · exact hN.take0 (fun q => hnq (.inl ⟨rfl, q⟩)) om (Classical.not_not.1 h18) ⟨by omega, by omega⟩
   · (dsimp only; omega)
  refine wpM.exit <| QM.then_exit <| QM.then_exit <| QM.block_hit <| QM.then <| wpM.seq <| wR <| LM.mv rfl <| LM.mv rfl ?_
  refine cE Try.func44 rfl (fun w hm hc hg => ris_spec j 3 [59] w hn (hl.ext hc)) ?_
  refine LM.val (ov_not rfl) ?_
  refine nA [(0, _), (1, _), (4, _), (7, _), (10, _), (138, _)] ?_
  refine wpM.condB rfl (fun h24 => ?_) (fun h24 => ?_)
  ·
   refine wR ?_
   refine LM.val (ov_build (cs := #[_, _]) rfl (by first | rfl | kernel_rfl)) ?_
   refine LM.mv rfl ?_
   refine LM.stW Try.sizeOf45 rfl rfl rfl rfl au7 au8 ?_
   refine LM.as rfl <| LM.as rfl <| nA [(4, _), (5, _), (6, _)] <| wpM.ret <| QM.then_ret <| QM.block_ret <| QM.then_ret <| QM.block_ret <| QM.then_ret ?_
   refine QM.leaveCs (ds := ([])) (.inl rfl) [.cell 4 45, .tmp 5, .tmp 6] Try.results25 hd_nil (rc_w rfl Try.isAgg45 Try.sizeOf45 rfl (rc_tmp rfl (rc_tmp rfl rc_nil))) ?_
   intro w' hm' hc'
   have hA := hN.2.2.2.2 om; exact ⟨hc', [], fin_bad hi0 (bad_of hL hn0 (opR_sb hk0 hah hA.2 (by simpa using h24)) (by decide)) (by decide), Mem.nil _, fun p hp => by cases hp⟩
  refine wpM.skip <| tR <| LM.mv rfl ?_
  refine LM.val (ov_add64 rfl rfl om) ?_
  refine LM.as rfl ?_
  refine LM.nil (QM.sub (e' := [(0, _), (1, _), (4, _), (7, _), (10, _)]) au9 (QM.then (wpM.region ?_)))
  refine LM.val (ovf 43 rfl rfl rfl rfl) ?_
  refine LM.rd (oml rfl rfl rfl) ?_
  refine LM.rd (om_ldW Try.isAgg102 Try.sizeOf102 rfl rfl) ?_
  refine LM.single Try.underlying43 Try.sizeOf102 Try.zeroValue102 rfl rfl rfl rfl rfl (fun b146 hb146 => ?_)
  refine LM.app (a := COp.mk (kindR ws i) a b) Try.underlying43 Try.typeInfo102 rfl rfl rfl rfl rfl rfl rfl asm (by rfl) ir (by intro _ u hu; simp [fO] at hu; (repeat (first | (rcases hu with rfl | hu) | subst hu | rfl))) (by first | exact Nat.le_refl _ | omega) au10 (by first | omega | (unfold maxLen; omega)) (by simp only [Try.t102]; omega) (fun ad147 n147 cap147 m147 hn147 hs147 hin147 => ?_)
  refine LM.val (ovf 43 rfl rfl rfl rfl) ?_
  refine LM.st Try.sizeOf43 rfl rfl rfl au5 rfl au8 ?_
  refine nC [(0, _), (1, _), (4, _), (7, _)] <| QM.block_normal ?_
  have hA := hN.2.2.2.2 om; have hok := opR_ok hk0 hah hA.1 hA.2 (show isR ws j 3 [59] = true by simpa using h24); have hlt := opR_lt (ws := ws) (i := i) (ahead := ops.length) (by rw [hok]); rw [hok] at hlt; have hlt : i < j + 1 ∧ j + 1 ≤ ws.length := hlt
  refine QM.againK ((j + 1, ops ++ [⟨kindR ws i, a, b⟩], ad147, n147, cap147, m147)) ⟨au2, rfl, rfl, rfl, trivial⟩ au1 (fun _ h => h) ?_ ?_
  · exact ⟨by rw [← hL, loopR_next hn0 (by rw [hok]), hok], hlt.2, by rw [hn147]; simp, hs147, by simp; omega⟩
  · (dsimp only; omega)
 refine wpM.exit <| QM.then_exit <| QM.then_exit <| QM.block_hit <| QM.then <| wpM.seq <| wR <| LM.val (ovf 43 rfl rfl rfl rfl) ?_
 refine LM.rd (oml rfl rfl rfl) ?_
 refine LM.val (ov_len Try.underlying43 rfl) <| LM.val (ov_eql rfl rfl) <| nA [(1, _), (4, _), (7, _), (152, _)] ?_
 refine wpM.condD rfl (fun h25 => ?_) (fun h25 => ?_)
 ·
  refine wR ?_
  refine LM.val (ov_build (cs := #[_, _]) rfl (by first | rfl | kernel_rfl)) ?_
  refine LM.mv rfl ?_
  refine LM.stW Try.sizeOf45 rfl rfl rfl rfl au7 au8 ?_
  refine LM.as rfl <| LM.as rfl <| nA [(4, _), (5, _), (6, _)] <| wpM.ret <| QM.then_ret ?_
  refine QM.leaveCs (ds := ([])) (.inl rfl) [.cell 4 45, .tmp 5, .tmp 6] Try.results25 hd_nil (rc_w rfl Try.isAgg45 Try.sizeOf45 rfl (rc_tmp rfl (rc_tmp rfl rc_nil))) ?_
  intro w' hm' hc'
  have hn1 : isR ws i 3 [125] = true := (by simpa using h6); have hb := hL; rw [loopR_done hn1, if_pos om] at hb; exact ⟨hc', [], fin_bad hi0 hb.symm (by decide), Mem.nil _, fun p hp => by cases hp⟩
 refine wpM.skip <| tR ?_
 refine LM.rd (om_ldW Try.isAgg45 Try.sizeOf45 rfl rfl) ?_
 refine LM.mv rfl ?_
 refine LM.val (ov_add64 rfl rfl om) ?_
 refine LM.stW Try.sizeOf45 rfl rfl rfl rfl au7 au8 ?_
 refine LM.as rfl <| LM.as rfl <| nA [(4, _), (5, _), (6, _)] <| wpM.ret ?_
 refine QM.leaveCs (ds := ([])) (.inl rfl) [.cell 4 45, .tmp 5, .tmp 6] Try.results25 hd_nil (rc_w rfl Try.isAgg45 Try.sizeOf45 rfl (rc_tmp rfl (rc_tmp rfl rc_nil))) ?_
 intro w' hm' hc'
 have hn1 : isR ws i 3 [125] = true := (by simpa using h6); have hb := hL; rw [loopR_done hn1, if_neg om] at hb; exact ⟨hc', mo, fin_ok2 hi0 hb.symm hno hso, hm'.pick mo, fun p hp => Sl.ge hso p hp⟩
deriving instance DecidableEq for COp
def WoT (r : List Wrd × Int) (n0 : Nat) (v : Value) (m : Mem0) : Prop := ∃ ad n cap, v = .tuple #[.slice ad n cap, .int .i64 r.2] ∧ n = r.1.length ∧ Sl fW 67 4 n0 r.1 (.slice ad n cap) m
theorem WoT.mono {r : List Wrd × Int} : ∀ (k k' : Nat) u m, k' ≤ k → WoT r k u m → WoT r k' u m := fun k k' u m h ⟨ad, n, cap, h1, h2, h3⟩ => ⟨ad, n, cap, h1, h2, h3.mono h⟩
/-! a program's text -/
end Go.Eng
namespace Go.Eng
open Go Go.RowKit
deriving instance DecidableEq for CLk
structure PgC where
  fv : Bool
  xs : List COp
deriving DecidableEq
instance : Inhabited PgC := ⟨⟨false, []⟩⟩
structure StC where
  cr : Int
  gr : Int
  gs : List Int
  ls : List CLk
  ps : List PgC
deriving DecidableEq
instance : Inhabited StC := ⟨⟨0, 0, [], [], []⟩⟩
abbrev wCores : List UInt8 := [99, 111, 114, 101, 115]
abbrev wGrain : List UInt8 := [103, 114, 97, 105, 110]
abbrev wGroup : List UInt8 := [103, 114, 111, 117, 112]
abbrev wLock : List UInt8 := [108, 111, 99, 107]
abbrev wShared : List UInt8 := [115, 104, 97, 114, 101, 100]
abbrev wSlice : List UInt8 := [115, 108, 105, 99, 101]
abbrev wCrit : List UInt8 := [99, 114, 105, 116]
abbrev wRead : List UInt8 := [114, 101, 97, 100]
abbrev wWrite : List UInt8 := [119, 114, 105, 116, 101]
def fldE (ws : List Wrd) (i : Nat) (e : Int) (nm : List UInt8) (most : Int) : Nat × Int × Int := numE ws (needE ws i e 1 nm).1 (needE ws i e 1 nm).2 1 most
def linE (ws : List Wrd) (i : Nat) (e : Int) (nm : List UInt8) (most : Int) : Nat × Int × Int := ((needE ws (fldE ws i e nm most).1 (fldE ws i e nm most).2.1 3 [59]).1, (needE ws (fldE ws i e nm most).1 (fldE ws i e nm most).2.1 3 [59]).2, (fldE ws i e nm most).2.2)
def lkA (ws : List Wrd) (i : Nat) (e : Int) : Nat × Int × Int := fldE ws i e wSlice 16
def lkB (ws : List Wrd) (i : Nat) (e : Int) : Nat × Int × Int := fldE ws (lkA ws i e).1 (lkA ws i e).2.1 wCrit 32
def lkC (ws : List Wrd) (sh : Bool) (i : Nat) (e : Int) : Nat × Int × Int := if sh then fldE ws (lkB ws i e).1 (lkB ws i e).2.1 wRead 16 else ((lkB ws i e).1, (lkB ws i e).2.1, 0)
def lkD (ws : List Wrd) (sh : Bool) (i : Nat) (e : Int) : Nat × Int × Int := if sh then fldE ws (lkC ws sh i e).1 (lkC ws sh i e).2.1 wWrite 16 else ((lkC ws sh i e).1, (lkC ws sh i e).2.1, 0)
def lckE (ws : List Wrd) (sh : Bool) (i : Nat) (e : Int) : Nat × Int × CLk :=
  ((needE ws (lkD ws sh i e).1 (lkD ws sh i e).2.1 3 [59]).1, (needE ws (lkD ws sh i e).1 (lkD ws sh i e).2.1 3 [59]).2, ⟨sh, (lkA ws i e).2.2, (lkB ws i e).2.2, (lkC ws sh i e).2.2, (lkD ws sh i e).2.2⟩)
def gpF (ws : List Wrd) : Nat → Nat → Int → List Int → List Int × Nat × Int
  | 0, i, e, gs => if isE ws i e 1 wGroup then (gs, i, 6) else (gs, i, e)
  | f + 1, i, e, gs => if isE ws i e 1 wGroup then gpF ws f (linE ws i e wGroup 16).1 (linE ws i e wGroup 16).2.1 (gs ++ [(linE ws i e wGroup 16).2.2]) else (gs, i, e)
def gpL (ws : List Wrd) (i : Nat) (e : Int) (gs : List Int) : List Int × Nat × Int := gpF ws (4 - gs.length) i e gs
def gpO (ws : List Wrd) (i : Nat) (e : Int) : List Int × Nat × Int := gpL ws (linE ws i e wGroup 16).1 (linE ws i e wGroup 16).2.1 [(linE ws i e wGroup 16).2.2]
def isL (ws : List Wrd) (i : Nat) (e : Int) : Bool := isE ws i e 1 wLock || isE ws i e 1 wShared
def lkF (ws : List Wrd) : Nat → Nat → Int → List CLk → List CLk × Nat × Int
  | 0, i, e, ls => if isL ws i e then (ls, i, 6) else (ls, i, e)
  | f + 1, i, e, ls => if isL ws i e then lkF ws f (lckE ws (isE ws i e 1 wShared) (i + 1) e).1 (lckE ws (isE ws i e 1 wShared) (i + 1) e).2.1 (ls ++ [(lckE ws (isE ws i e 1 wShared) (i + 1) e).2.2]) else (ls, i, e)
def lkL (ws : List Wrd) (i : Nat) (e : Int) (ls : List CLk) : List CLk × Nat × Int := lkF ws (8 - ls.length) i e ls
def isP (ws : List Wrd) (i : Nat) (e : Int) (ps : List PgC) : Bool := decide (e = 0) && (decide (ps.length = 0) || isE ws i e 1 wProg)
def prC (r : Bool × List COp × Int × Int) : PgC := ⟨r.1, r.2.1⟩
def pgF (ws : List Wrd) : Nat → Nat → Int → List PgC → List Int → List PgC × List Int × Nat × Int
  | 0, i, e, ps, pl => if isP ws i e ps then (ps, pl, i, 6) else (ps, pl, i, e)
  | f + 1, i, e, ps, pl => if isP ws i e ps then pgF ws f (parseO ws (i : Int)).2.2.1.toNat (parseO ws (i : Int)).2.2.2 (ps ++ [prC (parseO ws (i : Int))]) (pl ++ [(i : Int)]) else (ps, pl, i, e)
def pgL (ws : List Wrd) (i : Nat) (e : Int) (ps : List PgC) (pl : List Int) : List PgC × List Int × Nat × Int := pgF ws (8 - ps.length) i e ps pl
def misB (ls : List CLk) (n : Nat) (p : PgC) : Bool := decide ((ckO p.fv p.xs ls (n : Int)).2 ≠ 0)
def misI (ls : List CLk) (ps : List PgC) : Int := fixI (misB ls ps.length) ps
def misE (ls : List CLk) (ps : List PgC) (j : Int) : Int := if j < 0 then 0 else (ckO (ps.getD j.toNat default).fv (ps.getD j.toNat default).xs ls (ps.length : Int)).2
def sA (ws : List Wrd) (i : Nat) : Nat × Int × Int := linE ws i 0 wCores 4
def sB2 (ws : List Wrd) (i : Nat) : Nat × Int × Int := linE ws (sA ws i).1 (sA ws i).2.1 wGrain 8
def sG (ws : List Wrd) (i : Nat) : List Int × Nat × Int := gpO ws (sB2 ws i).1 (sB2 ws i).2.1
def sL (ws : List Wrd) (i : Nat) : List CLk × Nat × Int := lkL ws (sG ws i).2.1 (sG ws i).2.2 []
def sP (ws : List Wrd) (i : Nat) : List PgC × List Int × Nat × Int := pgL ws (sL ws i).2.1 (sL ws i).2.2 [] []
def stpR (ws : List Wrd) (i : Nat) : StC × Int × Int :=
  if (sP ws i).2.2.2 ≠ 0 then (default, ((sP ws i).2.2.1 : Int), (sP ws i).2.2.2)
  else if 0 ≤ misI (sL ws i).1 (sP ws i).1 then (default, (sP ws i).2.1.getD (misI (sL ws i).1 (sP ws i).1).toNat 0, misE (sL ws i).1 (sP ws i).1 (misI (sL ws i).1 (sP ws i).1))
  else (⟨(sA ws i).2.2, (sB2 ws i).2.2, (sG ws i).1, (sL ws i).1, (sP ws i).1⟩, ((sP ws i).2.2.1 : Int), 0)
def setO (ws : List Wrd) (p : Int) : StC × Int × Int := if p < 0 ∨ (ws.length : Int) < p then (default, 0, 5) else stpR ws p.toNat
theorem set_nat {ws : List Wrd} {i : Nat} (h : i ≤ ws.length) : setO ws (i : Int) = stpR ws i := by
  unfold setO; rw [if_neg om, Int.toNat_natCast]
/-! where they stand -/
theorem need_le {ws : List Wrd} {i : Nat} {e k : Int} {t : List UInt8} (h : i ≤ ws.length) : (needE ws i e k t).1 ≤ ws.length := by
  unfold needE; split
  · rename_i q; exact (isE_lt q).1
  · split <;> exact h
theorem fld_le {ws : List Wrd} {i : Nat} {e : Int} {nm : List UInt8} {m : Int} (h : i ≤ ws.length) : (fldE ws i e nm m).1 ≤ ws.length := by
  have h1 := need_le (ws := ws) (i := i) (e := e) (k := 1) (t := nm) h
  unfold fldE numE; split
  · exact h1
  · exact (numR_le h1).2
theorem lin_le {ws : List Wrd} {i : Nat} {e : Int} {nm : List UInt8} {m : Int} (h : i ≤ ws.length) : (linE ws i e nm m).1 ≤ ws.length := need_le (fld_le h)
theorem lkA_le {ws : List Wrd} {i : Nat} {e : Int} (h : i ≤ ws.length) : (lkA ws i e).1 ≤ ws.length := fld_le h
theorem lkB_le {ws : List Wrd} {i : Nat} {e : Int} (h : i ≤ ws.length) : (lkB ws i e).1 ≤ ws.length := fld_le (lkA_le h)
theorem lkC_le {ws : List Wrd} {i : Nat} {e : Int} {sh : Bool} (h : i ≤ ws.length) : (lkC ws sh i e).1 ≤ ws.length := by
  unfold lkC; split
  · exact fld_le (lkB_le h)
  · exact lkB_le h
theorem lkD_le {ws : List Wrd} {i : Nat} {e : Int} {sh : Bool} (h : i ≤ ws.length) : (lkD ws sh i e).1 ≤ ws.length := by
  unfold lkD; split
  · exact fld_le (lkC_le h)
  · exact lkC_le h
theorem lck_le {ws : List Wrd} {i : Nat} {e : Int} {sh : Bool} (h : i ≤ ws.length) : (lckE ws sh i e).1 ≤ ws.length := need_le (lkD_le h)
/-! a state with an error stays -/
theorem need_bad {ws : List Wrd} {i : Nat} {e k : Int} {t : List UInt8} (h : e ≠ 0) : needE ws i e k t = (i, e) := by
  unfold needE; rw [isE_bad h, if_neg (by simp), if_neg h]
theorem fld_bad {ws : List Wrd} {i : Nat} {e : Int} {nm : List UInt8} {m : Int} (h : e ≠ 0) : fldE ws i e nm m = (i, e, 0) := by
  unfold fldE; rw [need_bad h]; exact num_b h
theorem lin_bad {ws : List Wrd} {i : Nat} {e : Int} {nm : List UInt8} {m : Int} (h : e ≠ 0) : linE ws i e nm m = (i, e, 0) := by
  unfold linE; rw [fld_bad h, need_bad h]
/-! steps of the loops -/
theorem gpL_stop {ws : List Wrd} {i : Nat} {e : Int} {gs : List Int} (h : isE ws i e 1 wGroup = false) : gpL ws i e gs = (gs, i, e) := by
  unfold gpL; cases 4 - gs.length <;> (unfold gpF; rw [if_neg (by rw [h]; simp)])
theorem gpL_full {ws : List Wrd} {i : Nat} {e : Int} {gs : List Int} (h : isE ws i e 1 wGroup = true) (hl : 4 ≤ gs.length) : gpL ws i e gs = (gs, i, 6) := by
  unfold gpL; rw [show 4 - gs.length = 0 by omega]; unfold gpF; rw [if_pos h]
theorem gpL_next {ws : List Wrd} {i : Nat} {e : Int} {gs : List Int} (h : isE ws i e 1 wGroup = true) (hl : gs.length < 4) : gpL ws i e gs = gpL ws (linE ws i e wGroup 16).1 (linE ws i e wGroup 16).2.1 (gs ++ [(linE ws i e wGroup 16).2.2]) := by
  unfold gpL
  obtain ⟨f, hf⟩ : ∃ f, 4 - gs.length = f + 1 := ⟨4 - gs.length - 1, by omega⟩
  rw [hf, gpF, if_pos h, List.length_append, List.length_singleton, show 4 - (gs.length + 1) = f by omega]
theorem lkL_stop {ws : List Wrd} {i : Nat} {e : Int} {ls : List CLk} (h : isL ws i e = false) : lkL ws i e ls = (ls, i, e) := by
  unfold lkL; cases 8 - ls.length <;> (unfold lkF; rw [if_neg (by rw [h]; simp)])
theorem lkL_full {ws : List Wrd} {i : Nat} {e : Int} {ls : List CLk} (h : isL ws i e = true) (hl : 8 ≤ ls.length) : lkL ws i e ls = (ls, i, 6) := by
  unfold lkL; rw [show 8 - ls.length = 0 by omega]; unfold lkF; rw [if_pos h]
theorem lkL_next {ws : List Wrd} {i : Nat} {e : Int} {ls : List CLk} (h : isL ws i e = true) (hl : ls.length < 8) : lkL ws i e ls = lkL ws (lckE ws (isE ws i e 1 wShared) (i + 1) e).1 (lckE ws (isE ws i e 1 wShared) (i + 1) e).2.1 (ls ++ [(lckE ws (isE ws i e 1 wShared) (i + 1) e).2.2]) := by
  unfold lkL
  obtain ⟨f, hf⟩ : ∃ f, 8 - ls.length = f + 1 := ⟨8 - ls.length - 1, by omega⟩
  rw [hf, lkF, if_pos h, List.length_append, List.length_singleton, show 8 - (ls.length + 1) = f by omega]
theorem pgL_stop {ws : List Wrd} {i : Nat} {e : Int} {ps : List PgC} {pl : List Int} (h : isP ws i e ps = false) : pgL ws i e ps pl = (ps, pl, i, e) := by
  unfold pgL; cases 8 - ps.length <;> (unfold pgF; rw [if_neg (by rw [h]; simp)])
theorem pgL_full {ws : List Wrd} {i : Nat} {e : Int} {ps : List PgC} {pl : List Int} (h : isP ws i e ps = true) (hl : 8 ≤ ps.length) : pgL ws i e ps pl = (ps, pl, i, 6) := by
  unfold pgL; rw [show 8 - ps.length = 0 by omega]; unfold pgF; rw [if_pos h]
theorem pgL_next {ws : List Wrd} {i : Nat} {e : Int} {ps : List PgC} {pl : List Int} (h : isP ws i e ps = true) (hl : ps.length < 8) : pgL ws i e ps pl = pgL ws (parseO ws (i : Int)).2.2.1.toNat (parseO ws (i : Int)).2.2.2 (ps ++ [prC (parseO ws (i : Int))]) (pl ++ [(i : Int)]) := by
  unfold pgL
  obtain ⟨f, hf⟩ : ∃ f, 8 - ps.length = f + 1 := ⟨8 - ps.length - 1, by omega⟩
  rw [hf, pgF, if_pos h, List.length_append, List.length_singleton, show 8 - (ps.length + 1) = f by omega]
/-! which may be -/
def winB (n most : Int) : Bool := decide (1 ≤ n) && decide (n ≤ most)
def lokB (x : CLk) : Bool := (if x.sh then winB x.rd 16 && winB x.wr 16 else decide (x.rd = 0) && decide (x.wr = 0)) && winB x.sl 16 && winB x.cr 32
def mayS (s : StC) : Bool := winB s.cr 4 && winB s.gr 8 && (winB (s.gs.length : Int) 4 && s.gs.all (fun n => winB n 16)) && (decide (s.ls.length ≤ 8) && s.ls.all lokB) && winB (s.ps.length : Int) 8 && !s.ps.any (misB s.ls s.ps.length)
/-! its words -/
/-! what is parsed may be -/
theorem isL_lt {ws : List Wrd} {i : Nat} {e : Int} (h : isL ws i e = true) : i < ws.length ∧ e = 0 := by
  unfold isL at h; rw [Bool.or_eq_true] at h
  rcases h with h | h <;> exact isE_lt h
theorem lkF_zero {ws : List Wrd} : ∀ (f i : Nat) (e : Int) (ls : List CLk), (lkF ws f i e ls).2.2 = 0 → e = 0
  | 0, i, e, ls, h => by
    unfold lkF at h; split at h
    · rename_i q; exact (isL_lt q).2
    · exact h
  | f + 1, i, e, ls, h => by
    unfold lkF at h; split at h
    · rename_i q; exact (isL_lt q).2
    · exact h
theorem isP_zero {ws : List Wrd} {i : Nat} {e : Int} {ps : List PgC} (h : isP ws i e ps = true) : e = 0 := by
  unfold isP at h; simp only [Bool.and_eq_true, decide_eq_true_eq] at h; exact h.1
theorem pgF_zero {ws : List Wrd} : ∀ (f i : Nat) (e : Int) (ps : List PgC) (pl : List Int), (pgF ws f i e ps pl).2.2.2 = 0 → e = 0
  | 0, i, e, ps, pl, h => by
    unfold pgF at h; split at h
    · rename_i q; exact isP_zero q
    · exact h
  | f + 1, i, e, ps, pl, h => by
    unfold pgF at h; split at h
    · rename_i q; exact isP_zero q
    · exact h
theorem winL (n : Nat) (m : Int) : winB (n : Int) m = true ↔ 1 ≤ n ∧ (n : Int) ≤ m := by
  unfold winB; simp only [Bool.and_eq_true, decide_eq_true_eq]; omega
/-! words are parsed again -/
/-! how many words -/
end Go.Eng
namespace Go.Eng
open Go Go.Proofs Go.RowKit
theorem row_sr {α : Type} {f : α → List Value} {s : Nat} {xs : List α} {b : Nat} {cs : Array Value} {E : TypeId} {fz : Nat × Nat} {w : World} (n : Nat) (h : w.heap[b]? = some (.cells cs E fz)) (hn : n = xs.length) (hcs : cs = arr f xs []) (hf : ∀ a, (f a).length = s) : Sr f s xs (.slice (some ⟨b, 0, none⟩) n n) w := by
  subst hn; exact Sr.row h hcs rfl (Nat.le_refl _) hf
theorem index_int {xs : List Int} {ad : Option Addr} {n cap : Nat} (x : Int) (w : World) (hn : n = xs.length) (hl : Sr fI 1 xs (.slice ad n cap) w) (hx : xs.length ≤ 1000) : Ret Try.prog 83 #[.slice ad n cap, .int .i64 x] w (fun v w' => v = .int .i64 (fixI (fun y => decide (x = y)) xs) ∧ Ext w w') := by
 refine Ret.enterM Try.func83 rfl Try.ntmps83 rfl ([]) (no) (Mem.nil w) ?_
 refine wR <| LM.as rfl <| nA [(0, _), (1, _)] <| wpM.seq <| wR <| LM.mv rfl <| LM.val (ov_len Try.underlying22 rfl) <| LM.mv rfl <| nA [(0, _), (1, _), (7, _), (8, _)] <| wpM.block ?_
 refine wpM.loopK0 (α := Nat) (fun i => [(8, .int .i64 (i : Nat))]) [(0, _), (1, _), (7, _)] (fun i => []) (fun i => i ≤ xs.length ∧ (xs.take i).any (fun y => decide (x = y)) = false) (fun i => xs.length - i) (0) ⟨au2, rfl, rfl, rfl, trivial⟩ au1 ⟨Nat.zero_le _, rfl⟩ ?_
 rintro i ⟨hi, ha⟩
 change wpM _ _ _ _ _ _ _ ([]) _ _ _
 refine wR <| LM.val (ov_lss rfl rfl) <| nA [(0, _), (1, _), (7, _), (8, _), (9, _)] <| wpM.seq ?_
 refine wpM.condD rfl (fun h1 => ?_) (fun h1 => ?_)
 ·
  refine wpM.skip <| QM.then <| wpM.seq <| wpM.block <| wR <| LM.mv rfl <| LM.as rfl <| nB [(0, _), (1, _), (5, _), (7, _), (8, _)] <| LM.mv rfl <| LM.mv rfl <| LM.mv rfl ?_
  refine LM.val (ov_idxSN au6 Try.underlying22 Try.sizeOf3 rfl rfl om) ?_
  refine LM.rdC (om_sr1 asm Try.isAgg3 rfl rfl (by exact getq 0 au4) (by rfl) id) ?_
  refine LM.val (ov_eql rfl rfl) <| nA [(0, _), (1, _), (5, _), (7, _), (8, _), (16, _)] ?_
  refine wpM.condD rfl (fun h2 => ?_) (fun h2 => ?_)
  ·
   refine wR <| LM.mv rfl <| LM.as rfl <| nA [(4, _)] <| wpM.ret <| QM.block_ret <| QM.then_ret <| QM.then_ret <| QM.block_ret <| QM.then_ret ?_
   refine qL Try.results83 rfl fun w' hm' hc' hg' => ?_
   exact ⟨by show Value.int .i64 _ = _; rw [fix_hit 0 ha om (decide_eq_true h2)], hc'⟩
  refine wpM.skip <| QM.block_normal ?_
  refine QM.then (wpM.region ?_)
  refine LM.val (ov_add64 rfl rfl om) ?_
  refine LM.mv rfl <| nC [(0, _), (1, _), (7, _), (8, _)] ?_
  refine QM.againK (i + 1) ⟨au2, rfl, rfl, rfl, trivial⟩ au1 (fun _ h => h) ?_ ?_
  · exact ⟨by omega, by rw [any_snoc 0 om, ha, Bool.false_or]; exact decide_eq_false h2⟩
  · omega
 refine wpM.exit <| QM.then_exit <| QM.then_exit <| QM.block_hit <| tR <| LM.as rfl <| nA [(4, _)] <| wpM.ret ?_
 refine qL Try.results83 rfl fun w' hm' hc' hg' => ?_
 have hil : i = xs.length := om; subst hil; rw [List.take_length] at ha; exact ⟨by show Value.int .i64 _ = _; rw [fix_miss ha], hc'⟩
theorem contains_int {xs : List Int} {ad : Option Addr} {n cap : Nat} (x : Int) (w : World) (hn : n = xs.length) (hl : Sr fI 1 xs (.slice ad n cap) w) (hx : xs.length ≤ 1000) : Ret Try.prog 70 #[.slice ad n cap, .int .i64 x] w (fun v w' => v = .bool (xs.any (fun y => decide (x = y))) ∧ Ext w w') := by
 refine Ret.enterM Try.func70 rfl Try.ntmps70 rfl ([]) (no) (Mem.nil w) ?_
 refine wR <| LM.as rfl <| nB [(0, _), (1, _)] <| LM.mv rfl <| LM.mv rfl ?_
 refine cE Try.func83 rfl (fun w hm hc hg => index_int x w hn (hl.ext hc) hx) ?_
 refine LM.val (ov_geq rfl rfl) <| LM.as rfl <| nA [(4, _)] <| wpM.ret ?_
 refine qL Try.results70 rfl fun w' hm' hc' hg' => ?_
 exact ⟨by show Value.bool _ = _; rw [← fix_pos], hc'⟩
theorem takes_spec (k : Int) (w : World) : Ret Try.prog 80 #[.int .i64 k] w (fun v w' => v = .bool (takesB k) ∧ Ext w w') := by
 refine Ret.enterM Try.func80 rfl Try.ntmps80 rfl ([]) (no) (Mem.nil w) ?_
 refine wR <| LM.as rfl <| nB [(0, _)] ?_
 refine LM.row (vs := [_, _, _, _]) Try.underlying22 Try.sizeOf3 Try.zeroValue3 rfl rfl rfl rfl rfl rfl (fun b3 hb3 => ?_)
 refine LM.mv rfl ?_
 refine cE Try.func70 rfl (fun w hm hc hg => contains_int (xs := [2, 3, 4, 5]) k w rfl (row_sr 4 (hm.at b3) rfl rfl (fun _ => rfl)) (by decide)) ?_
 refine LM.as rfl <| nA [(2, _)] <| wpM.ret ?_
 refine qL Try.results80 rfl fun w' hm' hc' hg' => ?_
 exact ⟨by show Value.bool _ = _; rw [takes_row], hc'⟩
theorem passes_spec (o : COp) (w : World) : Ret Try.prog 69 #[.agg (fO o).toArray] w (fun v w' => v = .bool (passB o.k) ∧ Ext w w') := by
 refine Ret.enterM Try.func69 rfl Try.ntmps69 rfl ([]) (no) (Mem.nil w) ?_
 refine wR ?_
 refine LM.box rfl rfl (fun b1 hb1 => ?_)
 refine LM.as rfl <| nB [(1, _)] ?_
 refine LM.row (vs := [_, _, _, _]) Try.underlying22 Try.sizeOf3 Try.zeroValue3 rfl rfl rfl rfl rfl rfl (fun b3 hb3 => ?_)
 refine LM.val (ovf 3 rfl rfl rfl rfl) ?_
 refine LM.rd (oml rfl rfl rfl) ?_
 refine cE Try.func70 rfl (fun w hm hc hg => contains_int (xs := [1, 7, 8, 11]) o.k w rfl (row_sr 4 (hm.at b3) rfl rfl (fun _ => rfl)) (by decide)) ?_
 refine LM.as rfl <| nA [(2, _)] <| wpM.ret ?_
 refine qL Try.results69 rfl fun w' hm' hc' hg' => ?_
 exact ⟨by show Value.bool _ = _; rw [pass_row], hc'⟩
theorem ixf_pass {xs : List COp} {ad : Option Addr} {n cap : Nat} (w : World) (hn : n = xs.length) (hl : Sr fO 3 xs (.slice ad n cap) w) (hx : xs.length ≤ 1000000) : Ret Try.prog 82 #[.slice ad n cap, .func (.func 69) #[] #[]] w (fun v w' => v = .int .i64 (fixI (fun o => passB o.k) xs) ∧ Ext w w') := by
 refine Ret.enterM Try.func82 rfl Try.ntmps82 rfl ([]) (no) (Mem.nil w) ?_
 refine wR <| LM.as rfl <| nA [(0, _), (1, _)] <| wpM.seq <| wR <| LM.mv rfl <| LM.val (ov_len Try.underlying43 rfl) <| LM.mv rfl <| nA [(0, _), (1, _), (7, _), (8, _)] <| wpM.block ?_
 refine wpM.loopK0 (α := Nat) (fun i => [(8, .int .i64 (i : Nat))]) [(0, _), (1, _), (7, _)] (fun i => []) (fun i => i ≤ xs.length ∧ (xs.take i).any (fun o => passB o.k) = false) (fun i => xs.length - i) (0) ⟨au2, rfl, rfl, rfl, trivial⟩ au1 ⟨Nat.zero_le _, rfl⟩ ?_
 rintro i ⟨hi, ha⟩
 change wpM _ _ _ _ _ _ _ ([]) _ _ _
 refine wR <| LM.val (ov_lss rfl rfl) <| nA [(0, _), (1, _), (7, _), (8, _), (9, _)] <| wpM.seq ?_
 refine wpM.condD rfl (fun h1 => ?_) (fun h1 => ?_)
 ·
  refine wpM.skip <| QM.then <| wpM.seq <| wpM.block <| wR <| LM.mv rfl <| LM.as rfl <| nB [(0, _), (1, _), (5, _), (7, _), (8, _)] <| LM.mv rfl <| LM.mv rfl <| LM.mv rfl ?_
  refine LM.val (ov_idxSN au6 Try.underlying43 Try.sizeOf102 rfl rfl om) ?_
  refine LM.rdC (om_srEA asm ir Try.isAgg102 Try.sizeOf102 rfl au3 id) ?_
  refine LM.callE (oc_callV rfl (enters_fn Try.func69 kr rfl) rfl) (fun w hm hc hg => passes_spec _ w) ?_
  refine nA [(0, _), (1, _), (5, _), (7, _), (8, _), (16, _)] ?_
  refine wpM.condB rfl (fun h2 => ?_) (fun h2 => ?_)
  ·
   refine wR <| LM.mv rfl <| LM.as rfl <| nA [(4, _)] <| wpM.ret <| QM.block_ret <| QM.then_ret <| QM.then_ret <| QM.block_ret <| QM.then_ret ?_
   refine qL Try.results82 rfl fun w' hm' hc' hg' => ?_
   exact ⟨by show Value.int .i64 _ = _; rw [fix_hit default ha om (by simpa using h2)], hc'⟩
  refine wpM.skip <| QM.block_normal ?_
  refine QM.then (wpM.region ?_)
  refine LM.val (ov_add64 rfl rfl om) ?_
  refine LM.mv rfl <| nC [(0, _), (1, _), (7, _), (8, _)] ?_
  refine QM.againK (i + 1) ⟨au2, rfl, rfl, rfl, trivial⟩ au1 (fun _ h => h) ?_ ?_
  · exact ⟨by omega, by rw [any_snoc default om, ha, Bool.false_or]; simpa using h2⟩
  · omega
 refine wpM.exit <| QM.then_exit <| QM.then_exit <| QM.block_hit <| tR <| LM.as rfl <| nA [(4, _)] <| wpM.ret ?_
 refine qL Try.results82 rfl fun w' hm' hc' hg' => ?_
 have hil : i = xs.length := om; subst hil; rw [List.take_length] at ha; exact ⟨by show Value.int .i64 _ = _; rw [fix_miss ha], hc'⟩
theorem cof_pass {xs : List COp} {ad : Option Addr} {n cap : Nat} (w : World) (hn : n = xs.length) (hl : Sr fO 3 xs (.slice ad n cap) w) (hx : xs.length ≤ 1000000) : Ret Try.prog 68 #[.slice ad n cap, .func (.func 69) #[] #[]] w (fun v w' => v = .bool (xs.any (fun o => passB o.k)) ∧ Ext w w') := by
 refine Ret.enterM Try.func68 rfl Try.ntmps68 rfl ([]) (no) (Mem.nil w) ?_
 refine wR <| LM.as rfl <| nB [(0, _), (1, _)] <| LM.mv rfl <| LM.mv rfl ?_
 refine cE Try.func82 rfl (fun w hm hc hg => ixf_pass w hn (hl.ext hc) hx) ?_
 refine LM.val (ov_geq rfl rfl) <| LM.as rfl <| nA [(4, _)] <| wpM.ret ?_
 refine qL Try.results68 rfl fun w' hm' hc' hg' => ?_
 exact ⟨by show Value.bool _ = _; rw [← fix_pos], hc'⟩
theorem rtakes_spec (o : COp) (w : World) : Ret Try.prog 48 #[.agg (fO o).toArray] w (fun v w' => v = .bool (takesB o.k) ∧ Ext w w') := by
 refine Ret.enterM Try.func48 rfl Try.ntmps48 rfl ([]) (no) (Mem.nil w) ?_
 refine wR ?_
 refine LM.box rfl rfl (fun b1 hb1 => ?_)
 refine LM.as rfl <| nB [(1, _)] <| LM.val (ovf 3 rfl rfl rfl rfl) ?_
 refine LM.rd (oml rfl rfl rfl) ?_
 refine LM.val (ov_geq rfl rfl) <| LM.mv rfl ?_
 refine LM.splitD (t := 6) rfl (fun h1 => ?_) (fun h1 => ?_)
 ·
  refine LM.sp 6 rfl rfl rfl <| LM.val (ovf 3 rfl rfl rfl rfl) <| LM.sp 6 rfl rfl rfl ?_
  refine LM.rd (oml rfl rfl rfl) ?_
  refine LM.sp 6 rfl rfl rfl <| LM.val (ov_leq rfl rfl) <| LM.val (ov_pickT rfl rfl) <| LM.as rfl <| nA [(2, _)] <| wpM.ret ?_
  refine qL Try.results48 rfl fun w' hm' hc' hg' => ?_
  refine ⟨?_, hc'⟩; simp only [resV, takesB]; congr 1; first | (rw [decide_eq_false (show ¬ 2 ≤ o.k by omega)]; rfl) | (rw [decide_eq_true (show 2 ≤ o.k by omega)]; rfl)
 refine LM.dr 6 rfl rfl rfl <| LM.dr 6 rfl rfl rfl <| LM.dr 6 rfl rfl rfl <| LM.val (ov_pickF rfl rfl) <| LM.as rfl <| nA [(2, _)] <| wpM.ret ?_
 refine qL Try.results48 rfl fun w' hm' hc' hg' => ?_
 refine ⟨?_, hc'⟩; simp only [resV, takesB]; congr 1; first | (rw [decide_eq_false (show ¬ 2 ≤ o.k by omega)]; rfl) | (rw [decide_eq_true (show 2 ≤ o.k by omega)]; rfl)
theorem smallO.drop {xs : List COp} (h : smallO xs) (k : Nat) : smallO (xs.drop k) := ⟨by rw [List.length_drop]; have := h.1; omega, fun o ho => h.2 o (List.mem_of_mem_drop ho)⟩
theorem getD_drop {xs : List COp} {i j : Nat} : (xs.drop i).getD j default = xs.getD (i + j) default := by rw [List.getD_eq_getElem?_getD, List.getElem?_drop, ← List.getD_eq_getElem?_getD]
abbrev sV (i to lock ticks : Int) : Value := .agg #[.int .i64 i, .int .i64 to, .int .i64 lock, .int .i64 ticks]
abbrev sBc (b : Nat) (i to lock ticks : Int) : Nat × Obj := (b, .cells #[.int .i64 i, .int .i64 to, .int .i64 lock, .int .i64 ticks] 107 (0, 0))
abbrev oB (b : Nat) (o : COp) : Nat × Obj := (b, .cells (fO o).toArray 102 (0, 0))
theorem stop_no {lock : Int} {o : COp} (h1 : ¬ o.k = 11) (h2 : ¬ (o.k = 6 ∧ o.a = lock)) : stopB lock o = false := by
  unfold stopB; rw [decide_eq_false h1]
  by_cases h : o.k = 6
  · rw [decide_eq_false (fun q => h2 ⟨h, q⟩)]; simp
  · rw [decide_eq_false h]; rfl
theorem stop_11 {lock : Int} {o : COp} (h1 : o.k = 11) : stopB lock o = true := by unfold stopB; rw [decide_eq_true h1]; rfl
theorem stop_6 {lock : Int} {o : COp} (h1 : o.k = 6) (h2 : o.a = lock) : stopB lock o = true := by unfold stopB; rw [decide_eq_true h1, decide_eq_true h2]; simp
def SecI (lock : Int) (ys : List COp) (j : Nat) (acc : Int) : Prop :=
  j ≤ ys.length ∧ (secT lock ys).1 = j + (secT lock (ys.drop j)).1 ∧ (secT lock ys).2 = acc + (secT lock (ys.drop j)).2 ∧ -((j : Int) * 1125899906842624) ≤ acc ∧ acc ≤ (j : Int) * 1125899906842624
theorem SecI.zero (lock : Int) (ys : List COp) : SecI lock ys 0 0 := ⟨Nat.zero_le _, by simp, by simp, by simp, by simp⟩
theorem SecI.step {lock : Int} {ys : List COp} {j : Nat} {acc acc' : Int} (h : SecI lock ys j acc) (hs : smallO ys) (hj : j < ys.length) (hn : stopB lock (ys.getD j default) = false) (ha : acc' = acc + if (ys.getD j default).k = 1 then (ys.getD j default).a else 0) : SecI lock ys (j + 1) acc' := by
  obtain ⟨h1, h2, h3, h4, h5⟩ := h
  have e := sec_step hj hn
  have hb := hs.at j
  rw [e] at h2 h3
  dsimp only at h2 h3
  have : ((j + 1 : Nat) : Int) * 1125899906842624 = (j : Int) * 1125899906842624 + 1125899906842624 := by push_cast; omega
  refine ⟨by omega, by omega, by rw [ha]; omega, ?_, ?_⟩ <;> rw [this, ha] <;> split <;> omega
theorem SecI.stop {lock : Int} {ys : List COp} {j : Nat} {acc : Int} (h : SecI lock ys j acc) (hj : j < ys.length) (hn : stopB lock (ys.getD j default) = true) : secT lock ys = (j, acc) := by
  obtain ⟨h1, h2, h3, h4, h5⟩ := h
  rw [sec_stop hj hn] at h2 h3
  exact Prod.ext (by simpa using h2) (by simpa using h3)
theorem SecI.fin {lock : Int} {ys : List COp} {j : Nat} {acc : Int} (h : SecI lock ys j acc) (hj : ys.length ≤ j) : secT lock ys = (ys.length, acc) := by
  obtain ⟨h1, h2, h3, h4, h5⟩ := h
  rw [sec_end hj] at h2 h3
  exact Prod.ext (by dsimp only at h2 ⊢; omega) (by simpa using h3)
theorem section_spec {xs : List COp} {fv : Bool} {ad : Option Addr} {n cap : Nat} (i : Nat) (w : World) (hn : n = xs.length) (hl : Sr fO 3 xs (.slice ad n cap) w) (hs : smallO xs) (hi : i < xs.length) : Ret Try.prog 81 #[pV fv ad n cap, .int .i64 (i : Nat)] w (fun v w' => v = secV xs i ∧ Ext w w') := by
 have hx20 := hs.1; have hld := hl.drop (l := i + 1) om; have hsy := hs.drop (i + 1); obtain ⟨ys, hys⟩ : ∃ ys, xs.drop (i + 1) = ys := ⟨_, rfl⟩; have hyl : ys.length = xs.length - (i + 1) := (by rw [← hys, List.length_drop]); have hsec : secO xs i = secT (xs.getD i default).a ys := (by unfold secO; rw [hys]); rw [hys] at hld hsy; simp only [secV, hsec]
 refine Ret.enterM Try.func81 rfl Try.ntmps81 rfl ([]) (no) (Mem.nil w) ?_
 refine wR ?_
 refine LM.box rfl rfl (fun b2 hb2 => ?_)
 refine LM.alloc Try.zeroValue107 rfl (fun b4 hb4 => ?_)
 refine nA [(1, _), (2, _), (4, _)] <| wpM.seq ?_
 refine wpM.draw [(0, 0), (1, 0), (2, 1), (3, 0), (4, 0), (5, 1), (6, 0), (7, 0), (8, 0), (9, 1), (10, 0), (11, 2), (12, 3)] kr kr ?_
 refine LD.val rfl rfl (ov_move rfl) <| LD.val rfl rfl (ovf 43 rfl rfl rfl rfl) ?_
 refine LD.rd rfl rfl (oml rfl rfl rfl) ?_
 refine LD.val rfl rfl (ov_len Try.underlying43 rfl) ?_
 refine LD.val rfl rfl (ovf 43 rfl rfl rfl rfl) ?_
 refine LD.rd rfl rfl (oml rfl rfl rfl) ?_
 refine LD.val rfl rfl (ov_move rfl) ?_
 refine LD.val rfl rfl (ov_idxSN au6 Try.underlying43 Try.sizeOf102 rfl rfl om) ?_
 refine LD.val rfl rfl (ovf 3 rfl rfl rfl rfl) ?_
 refine LD.rdC rfl rfl (om_srE (j := 1) asm Try.isAgg3 rfl rfl au3 (by rfl) (by rfl) id) ?_
 refine LD.val rfl rfl (ov_build (cs := #[_, _, _, _]) rfl (by first | rfl | kernel_rfl)) ?_
 refine LD.alloc rfl rfl Try.zeroValue107 rfl (fun b5 hb5 => ?_)
 refine LD.tail rfl rfl ?_
 refine LM.stW Try.sizeOf107 rfl rfl rfl rfl au7 au8 ?_
 refine LM.nil ?_
 refine QM.qn ?_
 refine QM.sub (e' := [(1, _), (2, _), (4, _), (5, _)]) au9 (QM.then ?_)
 refine wpM.seq <| wR <| LM.val (ovf 43 rfl rfl rfl rfl) ?_
 refine LM.rd (oml rfl rfl rfl) ?_
 refine LM.mv rfl ?_
 refine LM.val (ov_add64 rfl rfl om) ?_
 refine LM.val (ov_subLo (i + 1) Try.underlying43 Try.sizeOf102 rfl rfl om om) ?_
 refine LM.val (ov_len Try.underlying43 rfl) <| LM.mv rfl <| nA [(1, _), (4, _), (5, _), (23, _), (24, _), (25, _)] <| wpM.block ?_
 refine wpM.loopK0 (α := Nat × Int) (fun ⟨j, acc⟩ => [(25, .int .i64 (j : Nat))]) [(1, _), (4, _), (5, _), (23, _), (24, _)] (fun ⟨j, acc⟩ => sBc b5 (i : Nat) n (xs.getD i default).a acc :: sBc b4 0 0 0 0 :: pB b2 fv ad n cap :: []) (fun ⟨j, acc⟩ => SecI (xs.getD i default).a ys j acc) (fun ⟨j, acc⟩ => ys.length - j) ((0, 0)) ⟨au2, rfl, rfl, rfl, rfl, rfl, trivial⟩ au1 (SecI.zero _ ys) ?_
 rintro ⟨j, acc⟩ hI
 change wpM _ _ _ _ _ _ _ (sBc b5 (i : Nat) n (xs.getD i default).a acc :: sBc b4 0 0 0 0 :: pB b2 fv ad n cap :: []) _ _ _
 have hj := hI.1; have hb := hsy.at j; obtain ⟨-, -, -, hb1, hb2⟩ := id hI
 refine wR <| LM.val (ov_lss rfl rfl) <| nA [(1, _), (4, _), (5, _), (23, _), (24, _), (25, _), (26, _)] <| wpM.seq ?_
 refine wpM.condD rfl (fun h1 => ?_) (fun h1 => ?_)
 ·
  refine wpM.skip <| QM.then <| wpM.seq <| wpM.block <| wR <| LM.mv rfl ?_
  refine LM.val (ov_idxSN au6 Try.underlying43 Try.sizeOf102 rfl rfl om) ?_
  refine LM.rdC (om_srEA asm ir Try.isAgg102 Try.sizeOf102 rfl au3 id) ?_
  refine LM.alloc Try.zeroValue102 rfl (fun b7 hb7 => ?_)
  refine LM.as rfl ?_
  refine LM.stW Try.sizeOf102 rfl rfl rfl rfl au7 au8 ?_
  refine nA [(1, _), (4, _), (5, _), (6, _), (7, _), (23, _), (24, _), (25, _)] <| wpM.block <| wpM.seq <| wR <| LM.val (ovf 3 rfl rfl rfl rfl) ?_
  refine LM.rd (oml rfl rfl rfl) ?_
  refine LM.val (ov_eql rfl rfl) <| LM.as rfl <| nA [(1, _), (4, _), (5, _), (6, _), (7, _), (23, _), (24, _), (25, _), (30, _)] ?_
  refine wpM.condXD (t := 30) rfl (fun h2 => ?_) (fun h2 => ?_)
  ·
   refine wpM.skip <| QM.then ?_
   refine wpM.condT rfl ?_
   refine wR <| LM.mv rfl ?_
   refine LM.val (ov_add64 rfl rfl om) ?_
   refine LM.mv rfl ?_
   refine LM.val (ov_add64 rfl rfl om) ?_
   refine LM.val (ovf 3 rfl rfl rfl rfl) ?_
   refine LM.st Try.sizeOf3 rfl rfl rfl au5 rfl au8 ?_
   refine nB [(4, _), (5, _)] ?_
   refine LM.rd (om_ldW Try.isAgg107 Try.sizeOf107 rfl rfl) ?_
   refine LM.stW Try.sizeOf107 rfl rfl rfl rfl au7 au8 ?_
   refine nA [(4, _)] <| wpM.ret <| QM.block_ret <| QM.block_ret <| QM.then_ret <| QM.then_ret <| QM.block_ret <| QM.then_ret ?_
   refine QM.leaveCs (ds := ([])) (.inl rfl) [.cell 4 107] Try.results81 hd_nil (rc_w rfl Try.isAgg107 Try.sizeOf107 rfl rc_nil) ?_
   intro w' hm' hc'
   have hq := hI.stop om (stop_11 h2); refine ⟨?_, hc'⟩; rw [hq]; show sV _ _ _ _ = _; congr 5
  refine wpM.region ?_
  refine LM.val (ovf 3 rfl rfl rfl rfl) ?_
  refine LM.rd (oml rfl rfl rfl) ?_
  refine LM.val (ov_eql rfl rfl) <| LM.mv rfl ?_
  refine LM.splitD (t := 37) rfl (fun h3 => ?_) (fun h3 => ?_)
  ·
   refine LM.sp 37 rfl rfl rfl <| LM.val (ovf 3 rfl rfl rfl rfl) <| LM.sp 37 rfl rfl rfl ?_
   refine LM.rd (oml rfl rfl rfl) ?_
   refine LM.sp 37 rfl rfl rfl <| LM.val (ovf 3 rfl rfl rfl rfl) <| LM.sp 37 rfl rfl rfl ?_
   refine LM.rd (oml rfl rfl rfl) ?_
   refine LM.sp 37 rfl rfl rfl <| LM.val (ov_eql rfl rfl) <| LM.val (ov_pickT rfl rfl) <| LM.as rfl <| nA [(1, _), (4, _), (5, _), (6, _), (7, _), (23, _), (24, _), (25, _), (30, _)] ?_
   refine wpM.condD rfl (fun h4 => ?_) (fun h4 => ?_)
   ·
    refine wR <| LM.mv rfl ?_
    refine LM.val (ov_add64 rfl rfl om) ?_
    refine LM.mv rfl ?_
    refine LM.val (ov_add64 rfl rfl om) ?_
    refine LM.val (ovf 3 rfl rfl rfl rfl) ?_
    refine LM.st Try.sizeOf3 rfl rfl rfl au5 rfl au8 ?_
    refine nB [(4, _), (5, _)] ?_
    refine LM.rd (om_ldW Try.isAgg107 Try.sizeOf107 rfl rfl) ?_
    refine LM.stW Try.sizeOf107 rfl rfl rfl rfl au7 au8 ?_
    refine nA [(4, _)] <| wpM.ret <| QM.block_ret <| QM.block_ret <| QM.then_ret <| QM.then_ret <| QM.block_ret <| QM.then_ret ?_
    refine QM.leaveCs (ds := ([])) (.inl rfl) [.cell 4 107] Try.results81 hd_nil (rc_w rfl Try.isAgg107 Try.sizeOf107 rfl rc_nil) ?_
    intro w' hm' hc'
    have hq := hI.stop om (stop_6 h3 h4); refine ⟨?_, hc'⟩; rw [hq]; show sV _ _ _ _ = _; congr 5
   refine wR <| LM.val (ovf 3 rfl rfl rfl rfl) ?_
   refine LM.rd (oml rfl rfl rfl) ?_
   refine LM.val (ov_eql rfl rfl) <| LM.as rfl <| nA [(1, _), (4, _), (5, _), (7, _), (23, _), (24, _), (25, _), (50, _)] ?_
   refine wpM.condD rfl (fun h5 => ?_) (fun h5 => ?_)
   ·
    refine wpM.region ?_
    refine LM.val (ovf 3 rfl rfl rfl rfl) ?_
    refine LM.rd (oml rfl rfl rfl) ?_
    refine LM.val (ovf 3 rfl rfl rfl rfl) ?_
    refine LM.rd (oml rfl rfl rfl) ?_
    refine LM.val (ov_add64 rfl rfl om) ?_
    refine LM.val (ovf 3 rfl rfl rfl rfl) ?_
    refine LM.st Try.sizeOf3 rfl rfl rfl au5 rfl au8 ?_
    refine nC [(1, _), (4, _), (5, _), (23, _), (24, _), (25, _)] <| QM.block_normal <| QM.block_normal ?_
    refine QM.then (wpM.region ?_)
    refine LM.val (ov_add64 rfl rfl om) ?_
    refine LM.mv rfl <| nC [(1, _), (4, _), (5, _), (23, _), (24, _), (25, _)] ?_
    refine QM.againK ((j + 1, acc + (ys.getD j default).a)) ⟨au2, rfl, rfl, rfl, rfl, rfl, trivial⟩ au1 (fun _ h => h) ?_ ?_
    · exact hI.step hsy om (stop_no h2 (fun q => by first | exact h4 q.2 | exact h3 q.1)) (by rw [if_pos h5])
    · omega
   refine wpM.skip <| QM.block_normal <| QM.block_normal ?_
   refine QM.then (wpM.region ?_)
   refine LM.val (ov_add64 rfl rfl om) ?_
   refine LM.mv rfl <| nC [(1, _), (4, _), (5, _), (23, _), (24, _), (25, _)] ?_
   refine QM.againK ((j + 1, acc)) ⟨au2, rfl, rfl, rfl, rfl, rfl, trivial⟩ au1 (fun _ h => h) ?_ ?_
   · exact hI.step hsy om (stop_no h2 (fun q => by first | exact h4 q.2 | exact h3 q.1)) (by rw [if_neg h5]; omega)
   · (dsimp only; omega)
  refine LM.dr 37 rfl rfl rfl <| LM.dr 37 rfl rfl rfl <| LM.dr 37 rfl rfl rfl <| LM.dr 37 rfl rfl rfl <| LM.dr 37 rfl rfl rfl <| LM.val (ov_pickF rfl rfl) <| LM.as rfl <| nA [(1, _), (4, _), (5, _), (6, _), (7, _), (23, _), (24, _), (25, _), (30, _)] ?_
  refine wpM.condF rfl ?_
  refine wR <| LM.val (ovf 3 rfl rfl rfl rfl) ?_
  refine LM.rd (oml rfl rfl rfl) ?_
  refine LM.val (ov_eql rfl rfl) <| LM.as rfl <| nA [(1, _), (4, _), (5, _), (7, _), (23, _), (24, _), (25, _), (50, _)] ?_
  refine wpM.condD rfl (fun h6 => ?_) (fun h6 => ?_)
  ·
   refine wpM.region ?_
   refine LM.val (ovf 3 rfl rfl rfl rfl) ?_
   refine LM.rd (oml rfl rfl rfl) ?_
   refine LM.val (ovf 3 rfl rfl rfl rfl) ?_
   refine LM.rd (oml rfl rfl rfl) ?_
   refine LM.val (ov_add64 rfl rfl om) ?_
   refine LM.val (ovf 3 rfl rfl rfl rfl) ?_
   refine LM.st Try.sizeOf3 rfl rfl rfl au5 rfl au8 ?_
   refine nC [(1, _), (4, _), (5, _), (23, _), (24, _), (25, _)] <| QM.block_normal <| QM.block_normal ?_
   refine QM.then (wpM.region ?_)
   refine LM.val (ov_add64 rfl rfl om) ?_
   refine LM.mv rfl <| nC [(1, _), (4, _), (5, _), (23, _), (24, _), (25, _)] ?_
   refine QM.againK ((j + 1, acc + (ys.getD j default).a)) ⟨au2, rfl, rfl, rfl, rfl, rfl, trivial⟩ au1 (fun _ h => h) ?_ ?_
   · exact hI.step hsy om (stop_no h2 (fun q => by first | exact h4 q.2 | exact h3 q.1)) (by rw [if_pos h6])
   · (dsimp only; omega)
  refine wpM.skip <| QM.block_normal <| QM.block_normal ?_
  refine QM.then (wpM.region ?_)
  refine LM.val (ov_add64 rfl rfl om) ?_
  refine LM.mv rfl <| nC [(1, _), (4, _), (5, _), (23, _), (24, _), (25, _)] ?_
  refine QM.againK ((j + 1, acc)) ⟨au2, rfl, rfl, rfl, rfl, rfl, trivial⟩ au1 (fun _ h => h) ?_ ?_
  · exact hI.step hsy om (stop_no h2 (fun q => by first | exact h4 q.2 | exact h3 q.1)) (by rw [if_neg h6]; omega)
  · (dsimp only; omega)
 refine wpM.exit <| QM.then_exit <| QM.then_exit <| QM.block_hit <| tR ?_
 refine LM.rd (om_ldW Try.isAgg107 Try.sizeOf107 rfl rfl) ?_
 refine LM.stW Try.sizeOf107 rfl rfl rfl rfl au7 au8 ?_
 refine nA [(4, _)] <| wpM.ret ?_
 refine QM.leaveCs (ds := ([])) (.inl rfl) [.cell 4 107] Try.results81 hd_nil (rc_w rfl Try.isAgg107 Try.sizeOf107 rfl rc_nil) ?_
 intro w' hm' hc'
 have hq := hI.fin om; refine ⟨?_, hc'⟩; rw [hq]; show sV _ _ _ _ = _; congr 5; omega
theorem rsection_spec {xs : List COp} {fv : Bool} {ad : Option Addr} {n cap : Nat} (i : Nat) (w : World) (hn : n = xs.length) (hl : Sr fO 3 xs (.slice ad n cap) w) (hs : smallO xs) (hi : i < xs.length) : Ret Try.prog 49 #[pV fv ad n cap, .int .i64 (i : Nat)] w (fun v w' => v = secV xs i ∧ Ext w w') := by
 have hx20 := hs.1; have hsy := hs.drop (i + 1); obtain ⟨ys, hys⟩ : ∃ ys, xs.drop (i + 1) = ys := ⟨_, rfl⟩; have hyl : ys.length = xs.length - (i + 1) := (by rw [← hys, List.length_drop]); have hsec : secO xs i = secT (xs.getD i default).a ys := (by unfold secO; rw [hys]); have hyx : ∀ j, ys.getD j default = xs.getD (i + 1 + j) default := (fun j => by rw [← hys, getD_drop]); rw [hys] at hsy; simp only [secV, hsec]
 refine Ret.enterM Try.func49 rfl Try.ntmps49 rfl ([]) (no) (Mem.nil w) ?_
 refine wR ?_
 refine LM.box rfl rfl (fun b2 hb2 => ?_)
 refine LM.alloc Try.zeroValue107 rfl (fun b4 hb4 => ?_)
 refine nB [(1, _), (2, _), (4, _)] <| LM.mv rfl <| LM.mv rfl ?_
 refine LM.val (ov_add64 rfl rfl om) ?_
 refine LM.val (ovf 43 rfl rfl rfl rfl) ?_
 refine LM.rd (oml rfl rfl rfl) ?_
 refine LM.mv rfl ?_
 refine LM.val (ov_idxSN au6 Try.underlying43 Try.sizeOf102 rfl rfl om) ?_
 refine LM.val (ovf 3 rfl rfl rfl rfl) ?_
 refine LM.rdC (om_srE (j := 1) asm Try.isAgg3 rfl rfl au3 (by rfl) (by rfl) id) ?_
 refine LM.val (ov_build (cs := #[_, _, _, _]) rfl (by first | rfl | kernel_rfl)) ?_
 refine LM.alloc Try.zeroValue107 rfl (fun b5 hb5 => ?_)
 refine LM.stW Try.sizeOf107 rfl rfl rfl rfl au7 au8 ?_
 refine nA [(2, _), (4, _), (5, _)] <| wpM.seq <| wpM.block ?_
 refine wpM.loopK0 (α := Nat × Int × Int) (fun ⟨j, to, acc⟩ => []) [(2, _), (4, _), (5, _)] (fun ⟨j, to, acc⟩ => sBc b5 (i : Nat) to (xs.getD i default).a acc :: sBc b4 0 0 0 0 :: pB b2 fv ad n cap :: []) (fun ⟨j, to, acc⟩ => SecI (xs.getD i default).a ys j acc ∧ to = (i : Int) + 1 + (j : Nat)) (fun ⟨j, to, acc⟩ => ys.length - j) ((0, (i : Int) + 1, 0)) ⟨rfl, rfl, rfl, trivial⟩ au1 ⟨SecI.zero _ ys, by simp⟩ ?_
 rintro ⟨j, to, acc⟩ ⟨hI, hto⟩
 change wpM _ _ _ _ _ _ _ (sBc b5 (i : Nat) to (xs.getD i default).a acc :: sBc b4 0 0 0 0 :: pB b2 fv ad n cap :: []) _ _ _
 have hj := hI.1; have htn : to.toNat = i + 1 + j := om; have hyt : ys.getD j default = xs.getD to.toNat default := (by rw [hyx, htn]); have hb := hsy.at j; rw [hyt] at hb; obtain ⟨-, -, -, hb1, hb2⟩ := id hI
 refine wpM.seq <| wR <| LM.val (ovf 3 rfl rfl rfl rfl) ?_
 refine LM.rd (oml rfl rfl rfl) ?_
 refine LM.val (ovf 43 rfl rfl rfl rfl) ?_
 refine LM.rd (oml rfl rfl rfl) ?_
 refine LM.val (ov_len Try.underlying43 rfl) <| LM.val (ov_lss rfl rfl) <| nA [(2, _), (4, _), (5, _), (22, _)] ?_
 refine wpM.condD rfl (fun h1 => ?_) (fun h1 => ?_)
 ·
  refine wpM.skip <| QM.then <| wpM.block <| wR <| LM.val (ovf 43 rfl rfl rfl rfl) ?_
  refine LM.rd (oml rfl rfl rfl) ?_
  refine LM.val (ovf 3 rfl rfl rfl rfl) ?_
  refine LM.rd (oml rfl rfl rfl) ?_
  refine LM.val (ov_idxS au6 Try.underlying43 Try.sizeOf102 rfl rfl om) ?_
  refine LM.rdC (om_srEA asm ir Try.isAgg102 Try.sizeOf102 rfl au3 id) ?_
  refine LM.alloc Try.zeroValue102 rfl (fun b6 hb6 => ?_)
  refine LM.stW Try.sizeOf102 rfl rfl rfl rfl au7 au8 ?_
  refine nA [(2, _), (4, _), (5, _), (6, _)] <| wpM.seq <| wR <| LM.val (ovf 3 rfl rfl rfl rfl) ?_
  refine LM.rd (oml rfl rfl rfl) ?_
  refine LM.val (ov_eql rfl rfl) <| LM.mv rfl ?_
  refine LM.splitD (t := 32) rfl (fun h2 => ?_) (fun h2 => ?_)
  ·
   refine LM.dr 32 rfl rfl rfl <| LM.dr 32 rfl rfl rfl <| LM.dr 32 rfl rfl rfl ?_
   refine LM.dropU (t := 32) rfl rfl rfl ?_
   refine LM.dropX (t := 36) rfl rfl ?_
   refine LM.dropX (t := 36) rfl rfl ?_
   refine LM.dropX (t := 36) rfl rfl ?_
   refine LM.dropX (t := 36) rfl rfl ?_
   refine LM.dropX (t := 36) rfl rfl ?_
   refine LM.dr 32 rfl rfl rfl <| LM.val (ov_pickT rfl rfl) <| nA [(2, _), (4, _), (5, _), (6, _), (43, _)] ?_
   refine wpM.condT rfl ?_
   refine wR ?_
   refine LM.rd (om_ldW Try.isAgg107 Try.sizeOf107 rfl rfl) ?_
   refine LM.stW Try.sizeOf107 rfl rfl rfl rfl au7 au8 ?_
   refine nA [(4, _)] <| wpM.ret <| QM.then_ret <| QM.block_ret <| QM.then_ret <| QM.block_ret <| QM.then_ret ?_
   refine QM.leaveCs (ds := ([])) (.inl rfl) [.cell 4 107] Try.results49 hd_nil (rc_w rfl Try.isAgg107 Try.sizeOf107 rfl rc_nil) ?_
   intro w' hm' hc'
   have hq := hI.stop om (by rw [hyt]; exact stop_11 h2); refine ⟨?_, hc'⟩; rw [hq]; show sV _ _ _ _ = _; congr 5
  refine LM.sp 32 rfl rfl rfl <| LM.val (ovf 3 rfl rfl rfl rfl) <| LM.sp 32 rfl rfl rfl ?_
  refine LM.rd (oml rfl rfl rfl) ?_
  refine LM.sp 32 rfl rfl rfl <| LM.val (ov_eql rfl rfl) <| LM.sp 32 rfl rfl rfl <| LM.mv rfl ?_
  refine LM.splitD (t := 36) rfl (fun h3 => ?_) (fun h3 => ?_)
  ·
   refine LM.sp 36 rfl rfl rfl <| LM.val (ovf 3 rfl rfl rfl rfl) <| LM.sp 36 rfl rfl rfl ?_
   refine LM.rd (oml rfl rfl rfl) ?_
   refine LM.sp 36 rfl rfl rfl <| LM.val (ovf 3 rfl rfl rfl rfl) <| LM.sp 36 rfl rfl rfl ?_
   refine LM.rd (oml rfl rfl rfl) ?_
   refine LM.sp 36 rfl rfl rfl <| LM.val (ov_eql rfl rfl) <| LM.sp 32 rfl rfl rfl <| LM.val (ov_pickT rfl rfl) <| LM.val (ov_pickF rfl rfl) <| nA [(2, _), (4, _), (5, _), (6, _), (43, _)] ?_
   refine wpM.condD rfl (fun h4 => ?_) (fun h4 => ?_)
   ·
    refine wR ?_
    refine LM.rd (om_ldW Try.isAgg107 Try.sizeOf107 rfl rfl) ?_
    refine LM.stW Try.sizeOf107 rfl rfl rfl rfl au7 au8 ?_
    refine nA [(4, _)] <| wpM.ret <| QM.then_ret <| QM.block_ret <| QM.then_ret <| QM.block_ret <| QM.then_ret ?_
    refine QM.leaveCs (ds := ([])) (.inl rfl) [.cell 4 107] Try.results49 hd_nil (rc_w rfl Try.isAgg107 Try.sizeOf107 rfl rc_nil) ?_
    intro w' hm' hc'
    have hq := hI.stop om (by rw [hyt]; exact stop_6 h3 h4); refine ⟨?_, hc'⟩; rw [hq]; show sV _ _ _ _ = _; congr 5
   refine wpM.skip <| QM.then <| wpM.seq <| wR <| LM.val (ovf 3 rfl rfl rfl rfl) ?_
   refine LM.rd (oml rfl rfl rfl) ?_
   refine LM.val (ov_eql rfl rfl) <| nA [(2, _), (4, _), (5, _), (6, _), (47, _)] ?_
   refine wpM.condD rfl (fun h5 => ?_) (fun h5 => ?_)
   ·
    refine wpM.region ?_
    refine LM.val (ovf 3 rfl rfl rfl rfl) ?_
    refine LM.rd (oml rfl rfl rfl) ?_
    refine LM.val (ovf 3 rfl rfl rfl rfl) ?_
    refine LM.rd (oml rfl rfl rfl) ?_
    refine LM.val (ov_add64 rfl rfl om) ?_
    refine LM.val (ovf 3 rfl rfl rfl rfl) ?_
    refine LM.st Try.sizeOf3 rfl rfl rfl au5 rfl au8 ?_
    refine LM.nil (QM.sub (e' := [(2, _), (4, _), (5, _)]) au9 (QM.then (wpM.region ?_)))
    refine LM.val (ovf 3 rfl rfl rfl rfl) ?_
    refine LM.rd (oml rfl rfl rfl) ?_
    refine LM.val (ov_add64 rfl rfl om) ?_
    refine LM.val (ovf 3 rfl rfl rfl rfl) ?_
    refine LM.st Try.sizeOf3 rfl rfl rfl au5 rfl au8 ?_
    refine nC [(2, _), (4, _), (5, _)] <| QM.block_normal ?_
    refine QM.againK ((j + 1, to + 1, acc + (xs.getD to.toNat default).a)) ⟨rfl, rfl, rfl, trivial⟩ au1 (fun _ h => h) ?_ ?_
    · exact ⟨hI.step hsy om (by rw [hyt]; exact stop_no h2 (fun q => by first | exact h4 q.2 | exact h3 q.1)) (by rw [hyt, if_pos h5]), by push_cast; omega⟩
    · omega
   refine wpM.skip ?_
   refine QM.then (wpM.region ?_)
   refine LM.val (ovf 3 rfl rfl rfl rfl) ?_
   refine LM.rd (oml rfl rfl rfl) ?_
   refine LM.val (ov_add64 rfl rfl om) ?_
   refine LM.val (ovf 3 rfl rfl rfl rfl) ?_
   refine LM.st Try.sizeOf3 rfl rfl rfl au5 rfl au8 ?_
   refine nC [(2, _), (4, _), (5, _)] <| QM.block_normal ?_
   refine QM.againK ((j + 1, to + 1, acc)) ⟨rfl, rfl, rfl, trivial⟩ au1 (fun _ h => h) ?_ ?_
   · exact ⟨hI.step hsy om (by rw [hyt]; exact stop_no h2 (fun q => by first | exact h4 q.2 | exact h3 q.1)) (by rw [hyt, if_neg h5]; omega), by push_cast; omega⟩
   · (dsimp only; omega)
  refine LM.dr 36 rfl rfl rfl <| LM.dr 36 rfl rfl rfl <| LM.dr 36 rfl rfl rfl <| LM.dr 36 rfl rfl rfl <| LM.dr 36 rfl rfl rfl <| LM.sp 32 rfl rfl rfl <| LM.val (ov_pickF rfl rfl) <| LM.val (ov_pickF rfl rfl) <| nA [(2, _), (4, _), (5, _), (6, _), (43, _)] ?_
  refine wpM.condF rfl ?_
  refine wpM.skip <| QM.then <| wpM.seq <| wR <| LM.val (ovf 3 rfl rfl rfl rfl) ?_
  refine LM.rd (oml rfl rfl rfl) ?_
  refine LM.val (ov_eql rfl rfl) <| nA [(2, _), (4, _), (5, _), (6, _), (47, _)] ?_
  refine wpM.condD rfl (fun h6 => ?_) (fun h6 => ?_)
  ·
   refine wpM.region ?_
   refine LM.val (ovf 3 rfl rfl rfl rfl) ?_
   refine LM.rd (oml rfl rfl rfl) ?_
   refine LM.val (ovf 3 rfl rfl rfl rfl) ?_
   refine LM.rd (oml rfl rfl rfl) ?_
   refine LM.val (ov_add64 rfl rfl om) ?_
   refine LM.val (ovf 3 rfl rfl rfl rfl) ?_
   refine LM.st Try.sizeOf3 rfl rfl rfl au5 rfl au8 ?_
   refine LM.nil (QM.sub (e' := [(2, _), (4, _), (5, _)]) au9 (QM.then (wpM.region ?_)))
   refine LM.val (ovf 3 rfl rfl rfl rfl) ?_
   refine LM.rd (oml rfl rfl rfl) ?_
   refine LM.val (ov_add64 rfl rfl om) ?_
   refine LM.val (ovf 3 rfl rfl rfl rfl) ?_
   refine LM.st Try.sizeOf3 rfl rfl rfl au5 rfl au8 ?_
   refine nC [(2, _), (4, _), (5, _)] <| QM.block_normal ?_
   refine QM.againK ((j + 1, to + 1, acc + (xs.getD to.toNat default).a)) ⟨rfl, rfl, rfl, trivial⟩ au1 (fun _ h => h) ?_ ?_
   · exact ⟨hI.step hsy om (by rw [hyt]; exact stop_no h2 (fun q => by first | exact h4 q.2 | exact h3 q.1)) (by rw [hyt, if_pos h6]), by push_cast; omega⟩
   · (dsimp only; omega)
  refine wpM.skip ?_
  refine QM.then (wpM.region ?_)
  refine LM.val (ovf 3 rfl rfl rfl rfl) ?_
  refine LM.rd (oml rfl rfl rfl) ?_
  refine LM.val (ov_add64 rfl rfl om) ?_
  refine LM.val (ovf 3 rfl rfl rfl rfl) ?_
  refine LM.st Try.sizeOf3 rfl rfl rfl au5 rfl au8 ?_
  refine nC [(2, _), (4, _), (5, _)] <| QM.block_normal ?_
  refine QM.againK ((j + 1, to + 1, acc)) ⟨rfl, rfl, rfl, trivial⟩ au1 (fun _ h => h) ?_ ?_
  · exact ⟨hI.step hsy om (by rw [hyt]; exact stop_no h2 (fun q => by first | exact h4 q.2 | exact h3 q.1)) (by rw [hyt, if_neg h6]; omega), by push_cast; omega⟩
  · (dsimp only; omega)
 refine wpM.exit <| QM.then_exit <| QM.then_exit <| QM.block_hit <| tR ?_
 refine LM.rd (om_ldW Try.isAgg107 Try.sizeOf107 rfl rfl) ?_
 refine LM.stW Try.sizeOf107 rfl rfl rfl rfl au7 au8 ?_
 refine nA [(4, _)] <| wpM.ret ?_
 refine QM.leaveCs (ds := ([])) (.inl rfl) [.cell 4 107] Try.results49 hd_nil (rc_w rfl Try.isAgg107 Try.sizeOf107 rfl rc_nil) ?_
 intro w' hm' hc'
 have hq := hI.fin om; refine ⟨?_, hc'⟩; rw [hq]; show sV _ _ _ _ = _; congr 5; omega
abbrev lBc (b : Nat) (ad : Option Addr) (n cap : Nat) : Nat × Obj := (b, .cells #[.slice ad n cap] 23 (0, 0))
abbrev iBc (b : Nat) (x : Int) : Nat × Obj := (b, .cells #[.int .i64 x] 3 (0, 0))
abbrev eBc (b : Nat) (x : Int) : Nat × Obj := (b, .cells #[.int .i64 x] 94 (0, 0))
def EachTc (fv : Bool) (ad : Option Addr) (n cap : Nat) (n0 : Nat) (v : Value) (m : Mem0) : Prop := ∃ b1, v = .func (.func 79) #[] #[.pointer (some ⟨b1, 0, none⟩)] ∧ m = [pB b1 fv ad n cap] ∧ n0 ≤ b1
theorem EachTc.mono {fv : Bool} {ad : Option Addr} {n cap : Nat} : ∀ (k k' : Nat) u m, k' ≤ k → EachTc fv ad n cap k u m → EachTc fv ad n cap k' u m := fun k k' u m h ⟨b1, h1, h2, h3⟩ => ⟨b1, h1, h2, by omega⟩
def SecsT (fv : Bool) (ad : Option Addr) (n cap : Nat) (n0 : Nat) (v : Value) (m : Mem0) : Prop := ∃ b1, v = .func (.func 99999) #[] #[.pointer (some ⟨b1, 0, none⟩)] ∧ m = [pB b1 fv ad n cap] ∧ n0 ≤ b1
theorem SecsT.mono {fv : Bool} {ad : Option Addr} {n cap : Nat} : ∀ (k k' : Nat) u m, k' ≤ k → SecsT fv ad n cap k u m → SecsT fv ad n cap k' u m := fun k k' u m h ⟨b1, h1, h2, h3⟩ => ⟨b1, h1, h2, by omega⟩
theorem fits_lt {T K : Bool} {q : Bool} {a : Int} {n : Nat} (hq : q = ((T || K) && decide (a ≥ n))) (h : q = false) (ht : T = true) : a < n := by
  rw [h, ht, Bool.true_or, Bool.true_and] at hq
  have := of_decide_eq_false hq.symm
  omega
set_option maxHeartbeats 1000000 in
theorem fits_spec {xs : List COp} {ls : List CLk} {fv : Bool} {ad ad2 : Option Addr} {n cap n2 cap2 : Nat} (i : Nat) (progs : Int) (w : World) (hn : n = xs.length) (hl : Sr fO 3 xs (.slice ad n cap) w) (hn2 : n2 = ls.length) (hl2 : Sr fL 5 ls (.slice ad2 n2 cap2) w) (hm0 : mayB xs = true) (hi : i < xs.length) : Ret Try.prog 67 #[pV fv ad n cap, .int .i64 (i : Nat), .slice ad2 n2 cap2, .int .i64 progs] w (fun v w' => v = .int .i64 (fitsO fv xs ls progs i) ∧ Ext w w') := by
 have hs := may_small hm0; have hr := right_a (may_at hm0 hi)
 refine Ret.enterM Try.func67 rfl Try.ntmps67 rfl ([]) (no) (Mem.nil w) ?_
 refine wR ?_
 refine LM.box rfl rfl (fun b4 hb4 => ?_)
 refine LM.as rfl <| nB [(1, _), (2, _), (3, _), (4, _)] <| LM.val (ovf 43 rfl rfl rfl rfl) ?_
 refine LM.rd (oml rfl rfl rfl) ?_
 refine LM.mv rfl ?_
 refine LM.val (ov_idxSN au6 Try.underlying43 Try.sizeOf102 rfl rfl om) ?_
 refine LM.rdC (om_srEA asm ir Try.isAgg102 Try.sizeOf102 rfl au3 id) ?_
 refine LM.alloc Try.zeroValue102 rfl (fun b9 hb9 => ?_)
 refine LM.stW Try.sizeOf102 rfl rfl rfl rfl au7 au8 ?_
 refine nB [(1, _), (2, _), (3, _), (4, _), (9, _)] <| LM.val (ovf 3 rfl rfl rfl rfl) ?_
 refine LM.rd (oml rfl rfl rfl) ?_
 refine cE Try.func80 rfl (fun w hm hc hg => takes_spec _ w) ?_
 refine LM.as rfl <| nA [(1, _), (2, _), (3, _), (4, _), (9, _), (10, _)] <| wpM.seq <| wpM.block <| wpM.seq <| wpM.seq ?_
 refine wpM.joinK (α := Bool) (fun q => [(20, .bool q)]) [(1, _), (2, _), (3, _), (4, _), (9, _), (10, _)] (fun q => oB b9 (xs.getD i default) :: pB b4 fv ad n cap :: []) (fun q => q = ((takesB (xs.getD i default).k || decide ((xs.getD i default).k = 6)) && decide ((xs.getD i default).a ≥ n2))) ⟨rfl, rfl, rfl, rfl, rfl, rfl, trivial⟩ ?_ ?_
 ·
  refine wpM.region ?_
  refine LM.mv rfl <| LM.mv rfl ?_
  refine LM.splitB (t := 22) rfl (fun h1 => ?_) (fun h1 => ?_)
  ·
   refine LM.dr 22 rfl rfl rfl <| LM.dr 22 rfl rfl rfl <| LM.dr 22 rfl rfl rfl <| LM.val (ov_pickT rfl rfl) <| LM.mv rfl <| LM.sp 27 rfl rfl rfl <| LM.val (ovf 3 rfl rfl rfl rfl) <| LM.sp 27 rfl rfl rfl ?_
   refine LM.rd (oml rfl rfl rfl) ?_
   refine LM.sp 27 rfl rfl rfl <| LM.mv rfl <| LM.sp 27 rfl rfl rfl <| LM.val (ov_len Try.underlying23 rfl) <| LM.sp 27 rfl rfl rfl <| LM.val (ov_geq rfl rfl) <| LM.val (ov_pickT rfl rfl) <| LM.as rfl <| nC [(1, _), (2, _), (3, _), (4, _), (9, _), (10, _), (20, _)] ?_
   refine QM.meetK (_) ⟨au2, rfl, rfl, rfl, rfl, rfl, rfl, trivial⟩ au1 ?_
   · simp only [h1, decide_true, decide_false, Bool.true_and, Bool.false_and, Bool.and_true, Bool.and_false, Bool.not_true, Bool.not_false, Bool.true_or, Bool.false_or, Bool.or_true, Bool.or_false, ne_eq, not_true_eq_false, not_false_eq_true, Bool.and_self]
  refine LM.sp 22 rfl rfl rfl <| LM.val (ovf 3 rfl rfl rfl rfl) <| LM.sp 22 rfl rfl rfl ?_
  refine LM.rd (oml rfl rfl rfl) ?_
  refine LM.sp 22 rfl rfl rfl <| LM.val (ov_eql rfl rfl) <| LM.val (ov_pickF rfl rfl) <| LM.mv rfl ?_
  refine LM.splitD (t := 27) rfl (fun h2 => ?_) (fun h2 => ?_)
  ·
   refine LM.sp 27 rfl rfl rfl <| LM.val (ovf 3 rfl rfl rfl rfl) <| LM.sp 27 rfl rfl rfl ?_
   refine LM.rd (oml rfl rfl rfl) ?_
   refine LM.sp 27 rfl rfl rfl <| LM.mv rfl <| LM.sp 27 rfl rfl rfl <| LM.val (ov_len Try.underlying23 rfl) <| LM.sp 27 rfl rfl rfl <| LM.val (ov_geq rfl rfl) <| LM.val (ov_pickT rfl rfl) <| LM.as rfl <| nC [(1, _), (2, _), (3, _), (4, _), (9, _), (10, _), (20, _)] ?_
   refine QM.meetK (_) ⟨au2, rfl, rfl, rfl, rfl, rfl, rfl, trivial⟩ au1 ?_
   · simp only [h1, h2, decide_true, decide_false, Bool.true_and, Bool.false_and, Bool.and_true, Bool.and_false, Bool.not_true, Bool.not_false, Bool.true_or, Bool.false_or, Bool.or_true, Bool.or_false, ne_eq, not_true_eq_false, not_false_eq_true, Bool.and_self]
  refine LM.dr 27 rfl rfl rfl <| LM.dr 27 rfl rfl rfl <| LM.dr 27 rfl rfl rfl <| LM.dr 27 rfl rfl rfl <| LM.dr 27 rfl rfl rfl <| LM.val (ov_pickF rfl rfl) <| LM.as rfl <| nC [(1, _), (2, _), (3, _), (4, _), (9, _), (10, _), (20, _)] ?_
  refine QM.meetK (_) ⟨au2, rfl, rfl, rfl, rfl, rfl, rfl, trivial⟩ au1 ?_
  · simp only [h1, h2, decide_true, decide_false, Bool.true_and, Bool.false_and, Bool.and_true, Bool.and_false, Bool.not_true, Bool.not_false, Bool.true_or, Bool.false_or, Bool.or_true, Bool.or_false, ne_eq, not_true_eq_false, not_false_eq_true, Bool.and_self]
 rintro q hq
 change QM _ _ _ _ _ (oB b9 (xs.getD i default) :: pB b4 fv ad n cap :: []) _ _ _
 refine QM.then ?_
 refine wpM.condXB (t := 20) rfl (fun h3 => ?_) (fun h3 => ?_)
 ·
  refine wpM.skip <| QM.then ?_
  refine wpM.condT rfl ?_
  refine wR <| LM.as rfl <| nA [(8, _)] <| wpM.ret <| QM.block_ret <| QM.then_ret ?_
  refine qL Try.results67 rfl fun w' hm' hc' hg' => ?_
  refine ⟨?_, hc'⟩; simp only [resV, fitsO, ← hn, ← hn2, ← hq]; simp only [h3, decide_true, decide_false, Bool.true_and, Bool.false_and, Bool.and_true, Bool.and_false, Bool.not_true, Bool.not_false, Bool.true_or, Bool.false_or, Bool.or_true, Bool.or_false, ne_eq, not_true_eq_false, not_false_eq_true, Bool.and_self, if_true, ite_true]
 refine wpM.joinK (α := Bool) (fun q2 => [(20, .bool q2)]) [(1, _), (2, _), (4, _), (9, _), (10, _)] (fun q2 => oB b9 (xs.getD i default) :: pB b4 fv ad n cap :: []) (fun q2 => q2 = (decide ((xs.getD i default).k = 9) && decide ((xs.getD i default).a ≥ progs))) ⟨rfl, rfl, rfl, rfl, rfl, trivial⟩ ?_ ?_
 ·
  refine wpM.region ?_
  refine LM.val (ovf 3 rfl rfl rfl rfl) ?_
  refine LM.rd (oml rfl rfl rfl) ?_
  refine LM.val (ov_eql rfl rfl) <| LM.mv rfl ?_
  refine LM.splitD (t := 37) rfl (fun h4 => ?_) (fun h4 => ?_)
  ·
   refine LM.sp 37 rfl rfl rfl <| LM.val (ovf 3 rfl rfl rfl rfl) <| LM.sp 37 rfl rfl rfl ?_
   refine LM.rd (oml rfl rfl rfl) ?_
   refine LM.sp 37 rfl rfl rfl <| LM.mv rfl <| LM.sp 37 rfl rfl rfl <| LM.val (ov_geq rfl rfl) <| LM.val (ov_pickT rfl rfl) <| LM.as rfl <| nC [(1, _), (2, _), (4, _), (9, _), (10, _), (20, _)] ?_
   refine QM.meetK (_) ⟨au2, rfl, rfl, rfl, rfl, rfl, trivial⟩ au1 ?_
   · simp only [h3, h4, decide_true, decide_false, Bool.true_and, Bool.false_and, Bool.and_true, Bool.and_false, Bool.not_true, Bool.not_false, Bool.true_or, Bool.false_or, Bool.or_true, Bool.or_false, ne_eq, not_true_eq_false, not_false_eq_true, Bool.and_self]
  refine LM.dr 37 rfl rfl rfl <| LM.dr 37 rfl rfl rfl <| LM.dr 37 rfl rfl rfl <| LM.dr 37 rfl rfl rfl <| LM.val (ov_pickF rfl rfl) <| LM.as rfl <| nC [(1, _), (2, _), (4, _), (9, _), (10, _), (20, _)] ?_
  refine QM.meetK (_) ⟨au2, rfl, rfl, rfl, rfl, rfl, trivial⟩ au1 ?_
  · simp only [h3, h4, decide_true, decide_false, Bool.true_and, Bool.false_and, Bool.and_true, Bool.and_false, Bool.not_true, Bool.not_false, Bool.true_or, Bool.false_or, Bool.or_true, Bool.or_false, ne_eq, not_true_eq_false, not_false_eq_true, Bool.and_self]
 rintro q2 hq2
 change QM _ _ _ _ _ (oB b9 (xs.getD i default) :: pB b4 fv ad n cap :: []) _ _ _
 refine QM.then ?_
 refine wpM.condB rfl (fun h5 => ?_) (fun h5 => ?_)
 ·
  refine wR <| LM.as rfl <| nA [(8, _)] <| wpM.ret <| QM.block_ret <| QM.then_ret ?_
  refine qL Try.results67 rfl fun w' hm' hc' hg' => ?_
  refine ⟨?_, hc'⟩; simp only [resV, fitsO, ← hn, ← hn2, ← hq, ← hq2]; simp only [h3, h5, decide_true, decide_false, Bool.true_and, Bool.false_and, Bool.and_true, Bool.and_false, Bool.not_true, Bool.not_false, Bool.true_or, Bool.false_or, Bool.or_true, Bool.or_false, ne_eq, not_true_eq_false, not_false_eq_true, Bool.and_self, if_true, ite_true]
 refine wpM.seq ?_
 refine wpM.joinK (α := Bool) (fun q3 => [(43, .bool q3)]) [(1, _), (2, _), (4, _), (9, _), (10, _)] (fun q3 => oB b9 (xs.getD i default) :: pB b4 fv ad n cap :: []) (fun q3 => q3 = (decide ((xs.getD i default).k = 3) && !(ls.getD (xs.getD i default).a.toNat default).sh)) ⟨rfl, rfl, rfl, rfl, rfl, trivial⟩ ?_ ?_
 ·
  refine wpM.region ?_
  refine LM.val (ovf 3 rfl rfl rfl rfl) ?_
  refine LM.rd (oml rfl rfl rfl) ?_
  refine LM.val (ov_eql rfl rfl) <| LM.mv rfl ?_
  refine LM.splitD (t := 47) rfl (fun h6 => ?_) (fun h6 => ?_)
  ·
   have hlt := fits_lt hq h3 (by rw [h6]; rfl)
   refine LM.sp 47 rfl rfl rfl <| LM.mv rfl <| LM.sp 47 rfl rfl rfl <| LM.val (ovf 3 rfl rfl rfl rfl) <| LM.sp 47 rfl rfl rfl ?_
   refine LM.rd (oml rfl rfl rfl) ?_
   refine LM.sp 47 rfl rfl rfl ?_
   refine LM.val (ov_idxS au6 Try.underlying23 Try.sizeOf78 rfl rfl om) ?_
   refine LM.sp 47 rfl rfl rfl <| LM.val (ovf 4 rfl rfl rfl rfl) <| LM.sp 47 rfl rfl rfl ?_
   refine LM.rdC (om_srE (j := 0) asm Try.isAgg4 rfl rfl au3 (by rfl) (by rfl) id) ?_
   refine LM.sp 47 rfl rfl rfl ?_
   refine LM.val (ov_not rfl) ?_
   refine LM.val (ov_pickT rfl rfl) <| LM.as rfl <| nC [(1, _), (2, _), (4, _), (9, _), (10, _), (43, _)] ?_
   refine QM.meetK (_) ⟨au2, rfl, rfl, rfl, rfl, rfl, trivial⟩ au1 ?_
   · simp only [h3, h5, h6, decide_true, decide_false, Bool.true_and, Bool.false_and, Bool.and_true, Bool.and_false, Bool.not_true, Bool.not_false, Bool.true_or, Bool.false_or, Bool.or_true, Bool.or_false, ne_eq, not_true_eq_false, not_false_eq_true, Bool.and_self]
  refine LM.dr 47 rfl rfl rfl <| LM.dr 47 rfl rfl rfl <| LM.dr 47 rfl rfl rfl <| LM.dr 47 rfl rfl rfl <| LM.dr 47 rfl rfl rfl <| LM.dr 47 rfl rfl rfl <| LM.dr 47 rfl rfl rfl <| LM.val (ov_pickF rfl rfl) <| LM.as rfl <| nC [(1, _), (2, _), (4, _), (9, _), (10, _), (43, _)] ?_
  refine QM.meetK (_) ⟨au2, rfl, rfl, rfl, rfl, rfl, trivial⟩ au1 ?_
  · simp only [h3, h5, h6, decide_true, decide_false, Bool.true_and, Bool.false_and, Bool.and_true, Bool.and_false, Bool.not_true, Bool.not_false, Bool.true_or, Bool.false_or, Bool.or_true, Bool.or_false, ne_eq, not_true_eq_false, not_false_eq_true, Bool.and_self]
 rintro q3 hq3
 change QM _ _ _ _ _ (oB b9 (xs.getD i default) :: pB b4 fv ad n cap :: []) _ _ _
 refine QM.then ?_
 refine wpM.condB rfl (fun h7 => ?_) (fun h7 => ?_)
 ·
  refine wR <| LM.as rfl <| nA [(8, _)] <| wpM.ret <| QM.block_ret <| QM.then_ret ?_
  refine qL Try.results67 rfl fun w' hm' hc' hg' => ?_
  refine ⟨?_, hc'⟩; simp only [resV, fitsO, ← hn, ← hn2, ← hq, ← hq2, ← hq3]; simp only [h3, h5, h7, decide_true, decide_false, Bool.true_and, Bool.false_and, Bool.and_true, Bool.and_false, Bool.not_true, Bool.not_false, Bool.true_or, Bool.false_or, Bool.or_true, Bool.or_false, ne_eq, not_true_eq_false, not_false_eq_true, Bool.and_self, if_true, if_false, ite_true, Bool.false_eq_true]
 refine wR <| LM.mv rfl ?_
 refine LM.val (ov_not rfl) ?_
 refine LM.as rfl <| nA [(1, _), (2, _), (4, _), (9, _), (56, _)] ?_
 refine wpM.condB rfl (fun h8 => ?_) (fun h8 => ?_)
 ·
  refine wR <| LM.as rfl <| nA [(8, _)] <| wpM.ret <| QM.block_ret <| QM.then_ret ?_
  refine qL Try.results67 rfl fun w' hm' hc' hg' => ?_
  refine ⟨?_, hc'⟩; simp only [resV, fitsO, ← hn, ← hn2, ← hq, ← hq2, ← hq3]; simp only [h3, h5, h7, h8, decide_true, decide_false, Bool.true_and, Bool.false_and, Bool.and_true, Bool.and_false, Bool.not_true, Bool.not_false, Bool.true_or, Bool.false_or, Bool.or_true, Bool.or_false, ne_eq, not_true_eq_false, not_false_eq_true, Bool.and_self, if_true, if_false, ite_true, Bool.false_eq_true]
 have hlt := fits_lt hq h3 (by simpa using h8)
 refine wpM.skip <| QM.block_normal <| tR ?_
 refine LM.rd (om_ldW Try.isAgg45 Try.sizeOf45 rfl rfl) ?_
 refine LM.mv rfl ?_
 refine cE Try.func81 rfl (fun w hm hc hg => section_spec i w hn (hl.ext hc) hs hi) ?_
 refine LM.alloc Try.zeroValue107 rfl (fun b11 hb11 => ?_)
 refine LM.stW Try.sizeOf107 rfl rfl rfl rfl au7 au8 ?_
 refine nA [(2, _), (4, _), (9, _), (11, _)] <| wpM.seq <| wpM.seq ?_
 refine wpM.joinK (α := Bool) (fun q4 => [(87, .bool q4)]) [] (fun q4 => []) (fun q4 => q4 = (decide ((secO xs i).2 < 1) || decide ((secO xs i).2 > (ls.getD (xs.getD i default).a.toNat default).cr) || fv && decide (((i + 1 + (secO xs i).1 : Nat) : Int) = n))) trivial ?_ ?_
 ·
  refine wpM.draw [(0, 0), (1, 1), (2, 0), (3, 0), (4, 0), (5, 1), (6, 0), (7, 0), (8, 1), (9, 0), (10, 0), (11, 1), (12, 0), (13, 0), (14, 0), (15, 0), (16, 1), (17, 0), (18, 0), (19, 1), (20, 0), (21, 1), (22, 0), (23, 0), (24, 0), (25, 0)] kr kr ?_
  refine LD.val rfl rfl (ovf 3 rfl rfl rfl rfl) ?_
  refine LD.rd rfl rfl (oml rfl rfl rfl) ?_
  refine LD.val rfl rfl (ov_lss rfl rfl) ?_
  refine LD.val rfl rfl (ov_move rfl) ?_
  refine LD.splitD (t := 65) rfl (fun h9 => ?_) (fun h9 => ?_)
  ·
   refine LD.drop rfl rfl ⟨65, _, rfl, rfl, rfl⟩ <| LD.drop rfl rfl ⟨65, _, rfl, rfl, rfl⟩ <| LD.drop rfl rfl ⟨65, _, rfl, rfl, rfl⟩ <| LD.drop rfl rfl ⟨65, _, rfl, rfl, rfl⟩ <| LD.drop rfl rfl ⟨65, _, rfl, rfl, rfl⟩ <| LD.drop rfl rfl ⟨65, _, rfl, rfl, rfl⟩ <| LD.drop rfl rfl ⟨65, _, rfl, rfl, rfl⟩ <| LD.drop rfl rfl ⟨65, _, rfl, rfl, rfl⟩ <| LD.drop rfl rfl ⟨65, _, rfl, rfl, rfl⟩ ?_
   refine LD.val rfl rfl (ov_pickT rfl rfl) ?_
   refine LD.val rfl rfl (ov_move rfl) <| LD.drop rfl rfl ⟨76, _, rfl, rfl, rfl⟩ <| LD.drop rfl rfl ⟨76, _, rfl, rfl, rfl⟩ ?_
   refine LD.dropU rfl rfl ⟨76, _, rfl, rfl, rfl⟩ ?_
   refine LD.dropX rfl rfl rfl rfl <| LD.dropX rfl rfl rfl rfl <| LD.dropX rfl rfl rfl rfl <| LD.dropX rfl rfl rfl rfl <| LD.dropX rfl rfl rfl rfl <| LD.dropX rfl rfl rfl rfl <| LD.drop rfl rfl ⟨76, _, rfl, rfl, rfl⟩ ?_
   refine LD.val rfl rfl (ov_pickT rfl rfl) ?_
   refine LD.nil ?_
   refine QM.sub (e' := [(87, _)]) ⟨rfl, trivial⟩ ?_
   refine QM.meetK (_) ⟨au2, trivial⟩ au1 ?_
   · simp only [h3, h5, h7, h8, h9, decide_true, decide_false, Bool.true_and, Bool.false_and, Bool.and_true, Bool.and_false, Bool.not_true, Bool.not_false, Bool.true_or, Bool.false_or, Bool.or_true, Bool.or_false, ne_eq, not_true_eq_false, not_false_eq_true, Bool.and_self]
  refine LD.val rfl ⟨65, _, rfl, rfl, rfl⟩ (ovf 3 rfl rfl rfl rfl) ?_
  refine LD.rd rfl ⟨65, _, rfl, rfl, rfl⟩ (oml rfl rfl rfl) ?_
  refine LD.val rfl ⟨65, _, rfl, rfl, rfl⟩ (ov_move rfl) <| LD.val rfl ⟨65, _, rfl, rfl, rfl⟩ (ovf 3 rfl rfl rfl rfl) ?_
  refine LD.rd rfl ⟨65, _, rfl, rfl, rfl⟩ (oml rfl rfl rfl) ?_
  refine LD.val rfl ⟨65, _, rfl, rfl, rfl⟩ (ov_idxS au6 Try.underlying23 Try.sizeOf78 rfl rfl om) ?_
  refine LD.val rfl ⟨65, _, rfl, rfl, rfl⟩ (ovf 3 rfl rfl rfl rfl) ?_
  refine LD.rdC rfl ⟨65, _, rfl, rfl, rfl⟩ (om_srE (j := 2) asm Try.isAgg3 rfl rfl au3 (by rfl) (by rfl) id) ?_
  refine LD.val rfl ⟨65, _, rfl, rfl, rfl⟩ (ov_gtr rfl rfl) ?_
  refine LD.val rfl rfl (ov_pickF rfl rfl) ?_
  refine LD.val rfl rfl (ov_move rfl) ?_
  refine LD.splitD (t := 76) rfl (fun h10 => ?_) (fun h10 => ?_)
  ·
   refine LD.drop rfl rfl ⟨76, _, rfl, rfl, rfl⟩ <| LD.drop rfl rfl ⟨76, _, rfl, rfl, rfl⟩ ?_
   refine LD.dropU rfl rfl ⟨76, _, rfl, rfl, rfl⟩ ?_
   refine LD.dropX rfl rfl rfl rfl <| LD.dropX rfl rfl rfl rfl <| LD.dropX rfl rfl rfl rfl <| LD.dropX rfl rfl rfl rfl <| LD.dropX rfl rfl rfl rfl <| LD.dropX rfl rfl rfl rfl <| LD.drop rfl rfl ⟨76, _, rfl, rfl, rfl⟩ ?_
   refine LD.val rfl rfl (ov_pickT rfl rfl) ?_
   refine LD.nil ?_
   refine QM.sub (e' := [(87, _)]) ⟨rfl, trivial⟩ ?_
   refine QM.meetK (_) ⟨au2, trivial⟩ au1 ?_
   · simp only [h3, h5, h7, h8, h9, h10, decide_true, decide_false, Bool.true_and, Bool.false_and, Bool.and_true, Bool.and_false, Bool.not_true, Bool.not_false, Bool.true_or, Bool.false_or, Bool.or_true, Bool.or_false, ne_eq, not_true_eq_false, not_false_eq_true, Bool.and_self]
  refine LD.val rfl ⟨76, _, rfl, rfl, rfl⟩ (ovf 4 rfl rfl rfl rfl) ?_
  refine LD.rd rfl ⟨76, _, rfl, rfl, rfl⟩ (oml rfl rfl rfl) ?_
  refine LD.val rfl ⟨76, _, rfl, rfl, rfl⟩ (ov_move rfl) ?_
  refine LD.splitB (t := 79) rfl (fun h11 => ?_) (fun h11 => ?_)
  ·
   refine LD.val rfl ⟨79, _, rfl, rfl, rfl⟩ (ovf 3 rfl rfl rfl rfl) ?_
   refine LD.rd rfl ⟨79, _, rfl, rfl, rfl⟩ (oml rfl rfl rfl) ?_
   refine LD.val rfl ⟨79, _, rfl, rfl, rfl⟩ (ovf 43 rfl rfl rfl rfl) ?_
   refine LD.rd rfl ⟨79, _, rfl, rfl, rfl⟩ (oml rfl rfl rfl) ?_
   refine LD.val rfl ⟨79, _, rfl, rfl, rfl⟩ (ov_len Try.underlying43 rfl) ?_
   refine LD.val rfl ⟨79, _, rfl, rfl, rfl⟩ (ov_eql rfl rfl) ?_
   refine LD.val rfl ⟨76, _, rfl, rfl, rfl⟩ (ov_pickT rfl rfl) ?_
   refine LD.val rfl rfl (ov_pickF rfl rfl) ?_
   refine LD.nil ?_
   refine QM.sub (e' := [(87, _)]) ⟨rfl, trivial⟩ ?_
   refine QM.meetK (_) ⟨au2, trivial⟩ au1 ?_
   · simp only [h3, h5, h7, h8, h9, h10, h11, decide_true, decide_false, Bool.true_and, Bool.false_and, Bool.and_true, Bool.and_false, Bool.not_true, Bool.not_false, Bool.true_or, Bool.false_or, Bool.or_true, Bool.or_false, ne_eq, not_true_eq_false, not_false_eq_true, Bool.and_self]
  refine LD.drop rfl rfl ⟨79, _, rfl, rfl, rfl⟩ <| LD.drop rfl rfl ⟨79, _, rfl, rfl, rfl⟩ <| LD.drop rfl rfl ⟨79, _, rfl, rfl, rfl⟩ <| LD.drop rfl rfl ⟨79, _, rfl, rfl, rfl⟩ <| LD.drop rfl rfl ⟨79, _, rfl, rfl, rfl⟩ <| LD.drop rfl rfl ⟨79, _, rfl, rfl, rfl⟩ ?_
  refine LD.val rfl ⟨76, _, rfl, rfl, rfl⟩ (ov_pickF rfl rfl) ?_
  refine LD.val rfl rfl (ov_pickF rfl rfl) ?_
  refine LD.nil ?_
  refine QM.sub (e' := [(87, _)]) ⟨rfl, trivial⟩ ?_
  refine QM.meetK (_) ⟨au2, trivial⟩ au1 ?_
  · simp only [h3, h5, h7, h8, h9, h10, h11, decide_true, decide_false, Bool.true_and, Bool.false_and, Bool.and_true, Bool.and_false, Bool.not_true, Bool.not_false, Bool.true_or, Bool.false_or, Bool.or_true, Bool.or_false, ne_eq, not_true_eq_false, not_false_eq_true, Bool.and_self]
 rintro q4 hq4
 change QM _ _ _ _ _ ([]) _ _ _
 refine QM.then ?_
 refine wpM.condB rfl (fun h12 => ?_) (fun h12 => ?_)
 ·
  refine wR <| LM.as rfl <| nA [(8, _)] <| wpM.ret <| QM.then_ret ?_
  refine qL Try.results67 rfl fun w' hm' hc' hg' => ?_
  refine ⟨?_, hc'⟩; simp only [resV, fitsO, ← hn, ← hn2, ← hq, ← hq2, ← hq3, ← hq4]; simp only [h3, h5, h7, h8, h12, decide_true, decide_false, Bool.true_and, Bool.false_and, Bool.and_true, Bool.and_false, Bool.not_true, Bool.not_false, Bool.true_or, Bool.false_or, Bool.or_true, Bool.or_false, ne_eq, not_true_eq_false, not_false_eq_true, Bool.and_self, if_true, if_false, ite_true, Bool.false_eq_true]
 refine wpM.skip <| tR <| LM.as rfl <| nA [(8, _)] <| wpM.ret ?_
 refine qL Try.results67 rfl fun w' hm' hc' hg' => ?_
 refine ⟨?_, hc'⟩; simp only [resV, fitsO, ← hn, ← hn2, ← hq, ← hq2, ← hq3, ← hq4]; simp only [h3, h5, h7, h8, h12, decide_true, decide_false, Bool.true_and, Bool.false_and, Bool.and_true, Bool.and_false, Bool.not_true, Bool.not_false, Bool.true_or, Bool.false_or, Bool.or_true, Bool.or_false, ne_eq, not_true_eq_false, not_false_eq_true, Bool.and_self, if_true, if_false, ite_true, Bool.false_eq_true]
theorem each_specC (fv : Bool) (ad : Option Addr) (n cap : Nat) (w : World) : Ret Try.prog 66 #[pV fv ad n cap] w (fun v w' => Ext w w' ∧ ∃ m, EachTc fv ad n cap w.heap.size v m ∧ Mem w' m ∧ ∀ p ∈ m, w.heap.size ≤ p.1) := by
 refine Ret.enterM Try.func66 rfl Try.ntmps66 rfl ([]) (no) (Mem.nil w) ?_
 refine wR ?_
 refine LM.box rfl rfl (fun b1 hb1 => ?_)
 refine LM.as rfl <| nB [(1, _)] ?_
 refine LM.val (ov_makeFunc rfl) ?_
 refine LM.as rfl <| nA [(2, _)] <| wpM.ret ?_
 refine qL Try.results66 rfl fun w' hm' hc' hg' => ?_
 exact ⟨hc', _, ⟨b1, rfl, rfl, hb1⟩, hm', fun p hp => by simp only [List.mem_cons, List.not_mem_nil, or_false] at hp; subst hp; assumption⟩
set_option maxHeartbeats 1000000 in
theorem each_seqC {xs : List COp} {fv : Bool} {ad : Option Addr} {n cap : Nat} {b1 : Nat} (hn : n = xs.length) (hx2 : xs.length ≤ 1000000000000) : SeqC Try.prog 79 #[.pointer (some ⟨b1, 0, none⟩)] (eachA xs) (fun w => Mem w [pB b1 fv ad n cap] ∧ Sr fO 3 xs (.slice ad n cap) w) (True) := by
 refine SeqC.enter (lb := [.pointer (some ⟨b1, 0, none⟩)]) Try.func79 rfl Try.ntmps79 rfl ?_
 intro l n0 J Jx w0 hfin hJr gJ gJx hy
 refine wR <| LM.val (ovf 43 rfl rfl rfl rfl) ?_
 refine LM.rdC (fun w _ _ hg => om_load 0 Try.isAgg43 rfl rfl rfl w (hJr _ w hg).1) ?_
 refine LM.val (ov_len Try.underlying43 rfl) <| LM.mv rfl <| nA [(0, _), (6, _), (7, _), (8, _)] <| wpM.block ?_
 refine wpM.loopK (α := Nat) (fun i => [(8, .int .i64 (i : Nat))]) [(0, _), (6, _), (7, _)] (fun i => []) (fun i => J i) (fun i => i ≤ xs.length) (fun i => xs.length - i) (0) ⟨au2, rfl, rfl, rfl, trivial⟩ au1 (fun _ h => h) (Nat.zero_le _) ?_
 rintro i hi
 change wpM _ _ _ _ _ _ _ ([]) _ _ _
 refine wR <| LM.val (ov_lss rfl rfl) <| nA [(0, _), (6, _), (7, _), (8, _), (9, _)] <| wpM.seq ?_
 refine wpM.condD rfl (fun h1 => ?_) (fun h1 => ?_)
 ·
  refine wpM.skip <| QM.then <| wpM.seq <| wpM.block <| wR <| LM.mv rfl ?_
  refine LM.know (fun w _ _ hg => (hJr _ w hg).2.spt) (fun hsp => ?_); refine LM.val (ov_idxSN hsp Try.underlying43 Try.sizeOf102 rfl rfl om) ?_
  refine LM.rdC (fun w hm hc hg => ow_srEA (hJr _ w hg).2 ir Try.isAgg102 Try.sizeOf102 rfl (getq default om)) ?_
  refine LM.allocF Try.zeroValue102 rfl (fun b4 hb4 => ?_)
  refine LM.as rfl ?_
  refine LM.stWF Try.sizeOf102 rfl rfl rfl rfl au7 au8 om ?_
  refine LM.unF ?_
  refine nB [(0, _), (3, _), (4, _), (6, _), (7, _), (8, _)] <| LM.mv rfl <| LM.mv rfl ?_
  refine LM.rd (om_ldW Try.isAgg102 Try.sizeOf102 rfl rfl) ?_
  refine LM.mem (M' := []) (fun w _ => Mem.nil w) ?_
  refine LM.yield (n := n0) (G1 := J (i + 1)) (G2 := Jx) rfl rfl (fun w hj => hy (i) _ w (eachA_get om) hj) (fun _ => trivial) ?_ ?_
  ·
   refine LM.val (ov_not rfl) ?_
   refine nA [(0, _), (6, _), (7, _), (8, _), (17, _)] ?_
   refine wpM.condF rfl ?_
   refine wpM.skip <| QM.block_normal ?_
   refine QM.then (wpM.region ?_)
   refine LM.val (ov_add64 rfl rfl om) ?_
   refine LM.mv rfl <| nC [(0, _), (6, _), (7, _), (8, _)] ?_
   refine QM.againK (i + 1) ⟨au2, rfl, rfl, rfl, trivial⟩ au1 (fun w h => h) ?_ ?_
   · omega
   · omega
  refine LM.val (ov_not rfl) ?_
  refine nA [(0, _), (6, _), (7, _), (8, _), (17, _)] ?_
  refine wpM.condT rfl ?_
  refine wpM.ret <| QM.block_ret <| QM.then_ret <| QM.then_ret <| QM.block_ret ?_
  refine QM.leave (.inl rfl) [] Try.results79 rfl ?_
  intro w' hm' hc' hg'
  exact .inr hg'
 refine wpM.exit <| QM.then_exit <| QM.then_exit <| QM.block_hit ?_
 refine QM.leave (.inr rfl) [] Try.results79 rfl ?_
 intro w' hm' hc' hg'
 (have hil : i = xs.length := om; subst hil; exact .inl (by rw [eachA_len]; exact hg'))
def ckV (fv : Bool) (xs : List COp) (ls : List CLk) (progs : Int) : Value := .tuple #[.int .i64 (ckO fv xs ls progs).1, .int .i64 (ckO fv xs ls progs).2]
theorem fits_lt2 {T K r : Bool} {q : Bool} {a : Int} {n : Nat} (hq : q = ((T || K) && decide (a ≥ n) || r)) (h : q = false) (ht : T = true) : a < n := by
  rw [h, ht, Bool.true_or, Bool.true_and] at hq
  have := (Bool.or_eq_false_iff.1 hq.symm).1
  have := of_decide_eq_false this
  omega
theorem ckV_at {fv : Bool} {xs : List COp} {ls : List CLk} {progs e : Int} {i : Nat} (h : mayB xs = true) (h0 : ∀ j, j < i → fitsO fv xs ls progs j = 0) (hi : i < xs.length) (hf : fitsO fv xs ls progs i = e) (he : e ≠ 0) : ckV fv xs ls progs = .tuple #[.int .i64 (i : Nat), .int .i64 e] := by
  unfold ckV; rw [ck_at h h0 hi (by rw [hf]; exact he), hf]
theorem ckV_end {fv : Bool} {xs : List COp} {ls : List CLk} {progs : Int} {b : Bool} (h : mayB xs = true) (h0 : ∀ j, j < xs.length → fitsO fv xs ls progs j = 0) (hb : (fv && !xs.any (fun o => passB o.k)) = b) : ckV fv xs ls progs = .tuple #[.int .i64 0, .int .i64 (if b then 1 else 0)] := by
  unfold ckV; rw [ck_end h h0, hb]; cases b <;> rfl
theorem ckV_none {fv : Bool} {xs : List COp} {ls : List CLk} {progs : Int} (h : mayB xs = false) : ckV fv xs ls progs = .tuple #[.int .i64 0, .int .i64 1] := by
  unfold ckV; rw [ck_none h]
theorem check_spec {xs : List COp} {ls : List CLk} {fv : Bool} {ad ad2 : Option Addr} {n cap n2 cap2 : Nat} (progs : Int) (w : World) (hn : n = xs.length) (hl : Sr fO 3 xs (.slice ad n cap) w) (hn2 : n2 = ls.length) (hl2 : Sr fL 5 ls (.slice ad2 n2 cap2) w) : Ret Try.prog 53 #[pV fv ad n cap, .slice ad2 n2 cap2, .int .i64 progs] w (fun v w' => v = ckV fv xs ls progs ∧ Ext w w') := by
 refine Ret.enterM Try.func53 rfl Try.ntmps53 rfl ([]) (no) (Mem.nil w) ?_
 refine wR ?_
 refine LM.box rfl rfl (fun b3 hb3 => ?_)
 refine LM.box rfl rfl (fun b4 hb4 => ?_)
 refine LM.box rfl rfl (fun b5 hb5 => ?_)
 refine LM.alloc Try.zeroValue3 rfl (fun b6 hb6 => ?_)
 refine LM.alloc Try.zeroValue94 rfl (fun b7 hb7 => ?_)
 refine nA [(3, _), (4, _), (5, _), (6, _), (7, _)] <| wpM.seq <| wR ?_
 refine LM.rd (om_ldW Try.isAgg45 Try.sizeOf45 rfl rfl) ?_
 refine cE Try.func65 rfl (fun w hm hc hg => pmay_spec w hn (hl.ext hc)) ?_
 refine LM.val (ov_not rfl) ?_
 refine nA [(3, _), (4, _), (5, _), (6, _), (7, _), (12, _)] ?_
 refine wpM.condB rfl (fun h1 => ?_) (fun h1 => ?_)
 ·
  refine wR ?_
  refine LM.st Try.sizeOf3 rfl rfl rfl au5 rfl au8 ?_
  refine LM.st Try.sizeOf94 rfl rfl rfl au5 rfl au8 ?_
  refine nA [(6, _), (7, _)] <| wpM.ret <| QM.then_ret ?_
  refine QM.leaveCs (ds := ([])) (.inl rfl) [.cell 6 3, .cell 7 94] Try.results53 hd_nil (rc_c rfl Try.isAgg3 rfl (rc_c rfl Try.isAgg94 rfl rc_nil)) ?_
  intro w' hm' hc'
  exact ⟨(ckV_none (by simpa using h1)).symm, hc'⟩
 have hm0 : mayB xs = true := (by simpa using h1); have hx20 := (may_small hm0).1
 refine wpM.skip <| QM.then <| wpM.seq <| wR ?_
 refine LM.rd (om_ldW Try.isAgg45 Try.sizeOf45 rfl rfl) ?_
 refine LM.callT (oc_call (enters_fn Try.func66 kr rfl) rfl) EachTc.mono (fun w hm hc hg => each_specC fv ad n cap w) ?_
 rintro u14 m14 ⟨c1, rfl, rfl, hc1⟩ -
 refine nA [(3, _), (4, _), (5, _), (6, _), (7, _), (14, _)] <| wpM.block ?_
 refine wpM.toRange (α := Unit) (fun k ⟨⟩ => pB c1 fv ad n cap :: eBc b7 0 :: iBc b6 0 :: iBc b5 progs :: lBc b4 ad2 n2 cap2 :: pB b3 fv ad n cap :: []) (⟨⟩) au1 ?_
 refine wpM.range (α := Unit) (β := Nat) (enters_fn Try.func79 kr rfl) rfl (each_seqC (xs := xs) hn om) (fun k ⟨⟩ => pB c1 fv ad n cap :: eBc b7 0 :: iBc b6 0 :: iBc b5 progs :: lBc b4 ad2 n2 cap2 :: pB b3 fv ad n cap :: []) (fun _ _ => top) (fun k ⟨⟩ => k ≤ xs.length ∧ ∀ j, j < k → fitsO fv xs ls progs j = 0) (fun i => eBc b7 (fitsO fv xs ls progs i) :: iBc b6 (i : Nat) :: []) (fun _ => top) (fun c i => c = .ret ∧ i < xs.length ∧ (∀ j, j < i → fitsO fv xs ls progs j = 0) ∧ fitsO fv xs ls progs i ≠ 0) ⟨⟩ rfl (fun _ h => h) ⟨Nat.zero_le _, fun j hj => absurd hj (Nat.not_lt_zero _)⟩ kr (by intro k av hav; obtain ⟨hkx, rfl⟩ := eachA_inv hav; rfl) (.inl trivial) (fun k a w hm hc _ _ => ⟨SubM.mem au1 w hm, hl.ext hc⟩) (fun _ _ _ _ => gl_top _) (fun _ _ _ => gl_top _) (fun k x _ => by ((repeat (refine mm_cons rfl ?_)); exact fun p hp => .inl (by first | exact hp | (simp at hp; done) | (simp [hp]; done) | (simp at hp ⊢; first | exact .inl hp | exact hp | (simp [hp]; done))))) (fun c z _ => by ((repeat (refine mm_cons rfl ?_)); exact fun p hp => .inl (by first | exact hp | (simp at hp; done) | (simp [hp]; done) | (simp at hp ⊢; first | exact .inl hp | exact hp | (simp [hp]; done))))) ?_ ?_ ?_ ?_
 ·
  rintro k av ⟨⟩ l D rc n1 W1 hD hll hput hrc hav ⟨hk, h0⟩
  change wpM _ _ _ _ _ _ _ ((l, Obj.loop rc) :: ([(D, Obj.deferred (some []))] ++ (pB c1 fv ad n cap :: eBc b7 0 :: iBc b6 0 :: iBc b5 progs :: lBc b4 ad2 n2 cap2 :: pB b3 fv ad n cap :: []))) _ _ _
  obtain ⟨hkx, rfl⟩ := eachA_inv hav
  refine wpM.region ?_
  refine LM.as rfl <| nC [(3, _), (4, _), (5, _), (6, _), (7, _), (8, _)] ?_
  refine QM.toBodyF (hput k ⟨⟩) hll ?_
  refine wpM.block <| wR ?_
  refine LM.rd (om_ldW Try.isAgg45 Try.sizeOf45 rfl rfl) ?_
  refine LM.mv rfl ?_
  refine LM.rd (oml rfl rfl rfl) ?_
  refine LM.rd (oml rfl rfl rfl) ?_
  refine cE Try.func67 rfl (fun w hm hc hg => fits_spec k progs w hn (hl.ext hc) hn2 (hl2.ext hc) hm0 hkx) ?_
  refine LM.as rfl <| nB [(6, _), (7, _), (8, _), (9, _)] <| LM.mv rfl <| LM.val (ov_neq rfl rfl) <| nA [(6, _), (7, _), (8, _), (9, _), (23, _)] ?_
  refine wpM.condD rfl (fun h2 => ?_) (fun h2 => ?_)
  ·
   refine wR <| LM.mv rfl <| LM.mv rfl ?_
   refine LM.st Try.sizeOf3 rfl rfl rfl au5 rfl au8 ?_
   refine LM.st Try.sizeOf94 rfl rfl rfl au5 rfl au8 ?_
   refine nA [(6, _), (7, _)] <| wpM.ret <| QM.block_ret ?_
   refine QM.rret (k) (SubM.mem au1) (fun _ h => h) ?_
   · exact ⟨rfl, hkx, h0, by simpa using h2⟩
  refine wpM.skip <| QM.block_normal ?_
  refine QM.next (⟨⟩) (SubM.mem au1) (fun _ h => h) ?_
  · exact ⟨by omega, before_succ h0 (by simpa using h2)⟩
 ·
  rintro ⟨⟩ D0 hD0 ⟨hk, h0⟩
  refine QM.sub (e' := [(3, _), (6, _), (7, _)]) au9 ?_
  refine QM.block_normal <| QM.then <| wpM.seq <| wR <| LM.val (ovf 4 rfl rfl rfl rfl) ?_
  refine LM.rd (oml rfl rfl rfl) ?_
  refine LM.mv rfl ?_
  refine LM.splitB (t := 28) rfl (fun h3 => ?_) (fun h3 => ?_)
  ·
   refine LM.sp 28 rfl rfl rfl <| LM.val (ovf 43 rfl rfl rfl rfl) <| LM.sp 28 rfl rfl rfl ?_
   refine LM.rd (oml rfl rfl rfl) ?_
   refine LM.sp 28 rfl rfl rfl ?_
   refine cE Try.func68 rfl (fun w hm hc hg => cof_pass w hn (hl.ext hc) om) ?_
   refine LM.sp 28 rfl rfl rfl ?_
   refine LM.val (ov_not rfl) ?_
   refine LM.val (ov_pickT rfl rfl) <| nA [(6, _), (7, _), (33, _)] ?_
   refine wpM.condB rfl (fun h4 => ?_) (fun h4 => ?_)
   ·
    refine wR ?_
    refine LM.st Try.sizeOf3 rfl rfl rfl au5 rfl au8 ?_
    refine LM.st Try.sizeOf94 rfl rfl rfl au5 rfl au8 ?_
    refine nA [(6, _), (7, _)] <| wpM.ret <| QM.then_ret ?_
    refine QM.leaveCs (ds := (D0 :: [])) (.inl rfl) [.cell 6 3, .cell 7 94] Try.results53 (hd_cons hD0 hd_nil) (rc_c rfl Try.isAgg3 rfl (rc_c rfl Try.isAgg94 rfl rc_nil)) ?_
    intro w' hm' hc'
    exact ⟨(ckV_end (b := true) hm0 (fun j hj => h0 j (by rw [eachA_len]; exact hj)) (by rw [h3, h4]; rfl)).symm, hc'⟩
   refine wpM.skip <| tR ?_
   refine LM.st Try.sizeOf3 rfl rfl rfl au5 rfl au8 ?_
   refine LM.st Try.sizeOf94 rfl rfl rfl au5 rfl au8 ?_
   refine nA [(6, _), (7, _)] <| wpM.ret ?_
   refine QM.leaveCs (ds := (D0 :: [])) (.inl rfl) [.cell 6 3, .cell 7 94] Try.results53 (hd_cons hD0 hd_nil) (rc_c rfl Try.isAgg3 rfl (rc_c rfl Try.isAgg94 rfl rc_nil)) ?_
   intro w' hm' hc'
   exact ⟨(ckV_end (b := false) hm0 (fun j hj => h0 j (by rw [eachA_len]; exact hj)) (by rw [h3, h4]; rfl)).symm, hc'⟩
  refine LM.dr 28 rfl rfl rfl <| LM.dr 28 rfl rfl rfl <| LM.dr 28 rfl rfl rfl <| LM.dr 28 rfl rfl rfl <| LM.val (ov_pickF rfl rfl) <| nA [(6, _), (7, _), (33, _)] ?_
  refine wpM.condF rfl ?_
  refine wpM.skip <| tR ?_
  refine LM.st Try.sizeOf3 rfl rfl rfl au5 rfl au8 ?_
  refine LM.st Try.sizeOf94 rfl rfl rfl au5 rfl au8 ?_
  refine nA [(6, _), (7, _)] <| wpM.ret ?_
  refine QM.leaveCs (ds := (D0 :: [])) (.inl rfl) [.cell 6 3, .cell 7 94] Try.results53 (hd_cons hD0 hd_nil) (rc_c rfl Try.isAgg3 rfl (rc_c rfl Try.isAgg94 rfl rc_nil)) ?_
  intro w' hm' hc'
  exact ⟨(ckV_end (b := false) hm0 (fun j hj => h0 j (by rw [eachA_len]; exact hj)) (by rw [h3]; rfl)).symm, hc'⟩
 ·
  rintro i D0 hD0 hx
  obtain ⟨-, hi, h0, hne⟩ := hx
  refine QM.block_ret <| QM.then_ret ?_
  refine QM.leaveCs (ds := (D0 :: [])) (.inl rfl) [.cell 6 3, .cell 7 94] Try.results53 (hd_cons hD0 hd_nil) (rc_c rfl Try.isAgg3 rfl (rc_c rfl Try.isAgg94 rfl rc_nil)) ?_
  intro w' hm' hc'
  exact ⟨(ckV_at hm0 h0 hi rfl hne).symm, hc'⟩
 rintro id i D0 hD0 hx
 cases hx.1
set_option maxHeartbeats 1000000 in
theorem rcheck_spec {xs : List COp} {ls : List CLk} {fv : Bool} {ad ad2 : Option Addr} {n cap n2 cap2 : Nat} (progs : Int) (w : World) (hn : n = xs.length) (hl : Sr fO 3 xs (.slice ad n cap) w) (hn2 : n2 = ls.length) (hl2 : Sr fL 5 ls (.slice ad2 n2 cap2) w) : Ret Try.prog 26 #[pV fv ad n cap, .slice ad2 n2 cap2, .int .i64 progs] w (fun v w' => v = ckV fv xs ls progs ∧ Ext w w') := by
 refine Ret.enterM Try.func26 rfl Try.ntmps26 rfl ([]) (no) (Mem.nil w) ?_
 refine wR ?_
 refine LM.box rfl rfl (fun b3 hb3 => ?_)
 refine LM.as rfl <| LM.as rfl <| nA [(1, _), (2, _), (3, _)] <| wpM.seq <| wR ?_
 refine LM.rd (om_ldW Try.isAgg45 Try.sizeOf45 rfl rfl) ?_
 refine cE Try.func47 rfl (fun w hm hc hg => rmay_spec w hn (hl.ext hc)) ?_
 refine LM.val (ov_not rfl) ?_
 refine nA [(1, _), (2, _), (3, _), (14, _)] ?_
 refine wpM.condB rfl (fun h1 => ?_) (fun h1 => ?_)
 ·
  refine wR <| LM.as rfl <| LM.as rfl <| nA [(6, _), (7, _)] <| wpM.ret <| QM.then_ret ?_
  refine QM.leave (.inl rfl) [.tmp 6, .tmp 7] Try.results26 rfl ?_
  intro w' hm' hc' hg'
  exact ⟨(ckV_none (by simpa using h1)).symm, hc'⟩
 have hm0 : mayB xs = true := (by simpa using h1); have hsm := may_small hm0; have hx20 := hsm.1
 refine wpM.skip <| tR <| LM.as rfl <| nA [(1, _), (2, _), (3, _), (8, _)] <| wpM.seq <| wR <| LM.as rfl <| nA [(1, _), (2, _), (3, _), (8, _), (9, _)] <| wpM.block ?_
 refine wpM.loopK0 (α := Nat) (fun i => [(8, .bool ((xs.take i).any (fun o => passB o.k))), (9, .int .i64 (i : Nat))]) [(1, _), (2, _), (3, _)] (fun i => pB b3 fv ad n cap :: []) (fun i => i ≤ xs.length ∧ ∀ j, j < i → fitsO fv xs ls progs j = 0) (fun i => xs.length - i) (0) ⟨au2, au2, rfl, rfl, rfl, trivial⟩ au1 ⟨Nat.zero_le _, fun j hj => absurd hj (Nat.not_lt_zero _)⟩ ?_
 rintro i ⟨hi, h0⟩
 change wpM _ _ _ _ _ _ _ (pB b3 fv ad n cap :: []) _ _ _
 refine wpM.seq <| wR <| LM.mv rfl <| LM.val (ovf 43 rfl rfl rfl rfl) ?_
 refine LM.rd (oml rfl rfl rfl) ?_
 refine LM.val (ov_len Try.underlying43 rfl) <| LM.val (ov_lss rfl rfl) <| nA [(1, _), (2, _), (3, _), (8, _), (9, _), (19, _)] ?_
 refine wpM.condD rfl (fun h2 => ?_) (fun h2 => ?_)
 ·
  refine wpM.skip <| QM.then <| wpM.seq <| wpM.block <| wR <| LM.val (ovf 43 rfl rfl rfl rfl) ?_
  refine LM.rd (oml rfl rfl rfl) ?_
  refine LM.mv rfl ?_
  refine LM.val (ov_idxSN au6 Try.underlying43 Try.sizeOf102 rfl rfl om) ?_
  refine LM.rdC (om_srEA asm ir Try.isAgg102 Try.sizeOf102 rfl au3 id) ?_
  refine LM.alloc Try.zeroValue102 rfl (fun b10 hb10 => ?_)
  refine LM.stW Try.sizeOf102 rfl rfl rfl rfl au7 au8 ?_
  refine nA [(1, _), (2, _), (3, _), (8, _), (9, _), (10, _)] <| wpM.seq ?_
  refine wpM.joinK (α := Bool) (fun t => [(8, .bool t)]) [(1, _), (2, _), (3, _), (9, _), (10, _)] (fun t => oB b10 (xs.getD i default) :: pB b3 fv ad n cap :: []) (fun t => t = (xs.take (i + 1)).any (fun o => passB o.k)) ⟨rfl, rfl, rfl, rfl, rfl, trivial⟩ ?_ ?_
  ·
   refine wpM.region ?_
   refine LM.mv rfl <| LM.mv rfl ?_
   refine LM.splitB (t := 28) rfl (fun h3 => ?_) (fun h3 => ?_)
   ·
    refine LM.dr 28 rfl rfl rfl <| LM.dr 28 rfl rfl rfl <| LM.dr 28 rfl rfl rfl <| LM.val (ov_pickT rfl rfl) <| LM.mv rfl <| LM.dr 33 rfl rfl rfl <| LM.dr 33 rfl rfl rfl <| LM.dr 33 rfl rfl rfl <| LM.val (ov_pickT rfl rfl) <| LM.mv rfl <| LM.dr 38 rfl rfl rfl <| LM.dr 38 rfl rfl rfl <| LM.dr 38 rfl rfl rfl <| LM.val (ov_pickT rfl rfl) <| LM.mv rfl <| LM.dr 43 rfl rfl rfl <| LM.dr 43 rfl rfl rfl <| LM.dr 43 rfl rfl rfl <| LM.val (ov_pickT rfl rfl) <| LM.as rfl <| nC [(1, _), (2, _), (3, _), (8, _), (9, _), (10, _)] ?_
    refine QM.meetK (_) ⟨au2, rfl, rfl, rfl, rfl, rfl, trivial⟩ au1 ?_
    · rw [any_snoc default om, passB]; simp only [h1, h2, h3, decide_true, decide_false, Bool.true_and, Bool.false_and, Bool.and_true, Bool.and_false, Bool.not_true, Bool.not_false, Bool.true_or, Bool.false_or, Bool.or_true, Bool.or_false, ne_eq, not_true_eq_false, not_false_eq_true, Bool.and_self]
   refine LM.sp 28 rfl rfl rfl <| LM.val (ovf 3 rfl rfl rfl rfl) <| LM.sp 28 rfl rfl rfl ?_
   refine LM.rd (oml rfl rfl rfl) ?_
   refine LM.sp 28 rfl rfl rfl <| LM.val (ov_eql rfl rfl) <| LM.val (ov_pickF rfl rfl) <| LM.mv rfl ?_
   refine LM.splitD (t := 33) rfl (fun h4 => ?_) (fun h4 => ?_)
   ·
    refine LM.dr 33 rfl rfl rfl <| LM.dr 33 rfl rfl rfl <| LM.dr 33 rfl rfl rfl <| LM.val (ov_pickT rfl rfl) <| LM.mv rfl <| LM.dr 38 rfl rfl rfl <| LM.dr 38 rfl rfl rfl <| LM.dr 38 rfl rfl rfl <| LM.val (ov_pickT rfl rfl) <| LM.mv rfl <| LM.dr 43 rfl rfl rfl <| LM.dr 43 rfl rfl rfl <| LM.dr 43 rfl rfl rfl <| LM.val (ov_pickT rfl rfl) <| LM.as rfl <| nC [(1, _), (2, _), (3, _), (8, _), (9, _), (10, _)] ?_
    refine QM.meetK (_) ⟨au2, rfl, rfl, rfl, rfl, rfl, trivial⟩ au1 ?_
    · rw [any_snoc default om, passB]; simp only [h1, h2, h3, h4, decide_true, decide_false, Bool.true_and, Bool.false_and, Bool.and_true, Bool.and_false, Bool.not_true, Bool.not_false, Bool.true_or, Bool.false_or, Bool.or_true, Bool.or_false, ne_eq, not_true_eq_false, not_false_eq_true, Bool.and_self]
   refine LM.sp 33 rfl rfl rfl <| LM.val (ovf 3 rfl rfl rfl rfl) <| LM.sp 33 rfl rfl rfl ?_
   refine LM.rd (oml rfl rfl rfl) ?_
   refine LM.sp 33 rfl rfl rfl <| LM.val (ov_eql rfl rfl) <| LM.val (ov_pickF rfl rfl) <| LM.mv rfl ?_
   refine LM.splitD (t := 38) rfl (fun h5 => ?_) (fun h5 => ?_)
   ·
    refine LM.dr 38 rfl rfl rfl <| LM.dr 38 rfl rfl rfl <| LM.dr 38 rfl rfl rfl <| LM.val (ov_pickT rfl rfl) <| LM.mv rfl <| LM.dr 43 rfl rfl rfl <| LM.dr 43 rfl rfl rfl <| LM.dr 43 rfl rfl rfl <| LM.val (ov_pickT rfl rfl) <| LM.as rfl <| nC [(1, _), (2, _), (3, _), (8, _), (9, _), (10, _)] ?_
    refine QM.meetK (_) ⟨au2, rfl, rfl, rfl, rfl, rfl, trivial⟩ au1 ?_
    · rw [any_snoc default om, passB]; simp only [h1, h2, h3, h4, h5, decide_true, decide_false, Bool.true_and, Bool.false_and, Bool.and_true, Bool.and_false, Bool.not_true, Bool.not_false, Bool.true_or, Bool.false_or, Bool.or_true, Bool.or_false, ne_eq, not_true_eq_false, not_false_eq_true, Bool.and_self]
   refine LM.sp 38 rfl rfl rfl <| LM.val (ovf 3 rfl rfl rfl rfl) <| LM.sp 38 rfl rfl rfl ?_
   refine LM.rd (oml rfl rfl rfl) ?_
   refine LM.sp 38 rfl rfl rfl <| LM.val (ov_eql rfl rfl) <| LM.val (ov_pickF rfl rfl) <| LM.mv rfl ?_
   refine LM.splitD (t := 43) rfl (fun h6 => ?_) (fun h6 => ?_)
   ·
    refine LM.dr 43 rfl rfl rfl <| LM.dr 43 rfl rfl rfl <| LM.dr 43 rfl rfl rfl <| LM.val (ov_pickT rfl rfl) <| LM.as rfl <| nC [(1, _), (2, _), (3, _), (8, _), (9, _), (10, _)] ?_
    refine QM.meetK (_) ⟨au2, rfl, rfl, rfl, rfl, rfl, trivial⟩ au1 ?_
    · rw [any_snoc default om, passB]; simp only [h1, h2, h3, h4, h5, h6, decide_true, decide_false, Bool.true_and, Bool.false_and, Bool.and_true, Bool.and_false, Bool.not_true, Bool.not_false, Bool.true_or, Bool.false_or, Bool.or_true, Bool.or_false, ne_eq, not_true_eq_false, not_false_eq_true, Bool.and_self]
   refine LM.sp 43 rfl rfl rfl <| LM.val (ovf 3 rfl rfl rfl rfl) <| LM.sp 43 rfl rfl rfl ?_
   refine LM.rd (oml rfl rfl rfl) ?_
   refine LM.sp 43 rfl rfl rfl <| LM.val (ov_eql rfl rfl) <| LM.val (ov_pickF rfl rfl) <| LM.as rfl <| nC [(1, _), (2, _), (3, _), (8, _), (9, _), (10, _)] ?_
   refine QM.meetK (_) ⟨au2, rfl, rfl, rfl, rfl, rfl, trivial⟩ au1 ?_
   · rw [any_snoc default om, passB]; simp only [h1, h2, h3, h4, h5, h6, decide_true, decide_false, Bool.true_and, Bool.false_and, Bool.and_true, Bool.and_false, Bool.not_true, Bool.not_false, Bool.true_or, Bool.false_or, Bool.or_true, Bool.or_false, ne_eq, not_true_eq_false, not_false_eq_true, Bool.and_self]
  rintro t rfl
  change QM _ _ _ _ _ (oB b10 (xs.getD i default) :: pB b3 fv ad n cap :: []) _ _ _
  have hr := right_a (may_at hm0 (show i < xs.length by omega))
  refine QM.then <| wpM.seq <| wpM.seq ?_
  refine wpM.joinK (α := Bool) (fun q => [(72, .bool q)]) [(1, _), (2, _), (3, _), (8, _), (9, _), (10, _)] (fun q => oB b10 (xs.getD i default) :: pB b3 fv ad n cap :: []) (fun q => q = ((takesB (xs.getD i default).k || decide ((xs.getD i default).k = 6)) && decide ((xs.getD i default).a ≥ n2) || decide ((xs.getD i default).k = 9) && decide ((xs.getD i default).a ≥ progs))) ⟨rfl, rfl, rfl, rfl, rfl, rfl, trivial⟩ ?_ ?_
  ·
   refine wpM.region ?_
   refine LM.rd (om_ldW Try.isAgg102 Try.sizeOf102 rfl rfl) ?_
   refine cE Try.func48 rfl (fun w hm hc hg => rtakes_spec _ w) ?_
   refine LM.mv rfl ?_
   refine LM.splitB (t := 50) rfl (fun h7 => ?_) (fun h7 => ?_)
   ·
    refine LM.dr 50 rfl rfl rfl <| LM.dr 50 rfl rfl rfl <| LM.dr 50 rfl rfl rfl <| LM.val (ov_pickT rfl rfl) <| LM.mv rfl <| LM.sp 55 rfl rfl rfl <| LM.val (ovf 3 rfl rfl rfl rfl) <| LM.sp 55 rfl rfl rfl ?_
    refine LM.rd (oml rfl rfl rfl) ?_
    refine LM.sp 55 rfl rfl rfl <| LM.mv rfl <| LM.sp 55 rfl rfl rfl <| LM.val (ov_len Try.underlying23 rfl) <| LM.sp 55 rfl rfl rfl <| LM.val (ov_geq rfl rfl) <| LM.val (ov_pickT rfl rfl) <| LM.mv rfl ?_
    refine LM.splitD (t := 62) rfl (fun h8 => ?_) (fun h8 => ?_)
    ·
     refine LM.dr 62 rfl rfl rfl <| LM.dr 62 rfl rfl rfl <| LM.dr 62 rfl rfl rfl ?_
     refine LM.dropU (t := 62) rfl rfl rfl ?_
     refine LM.dropX (t := 66) rfl rfl ?_
     refine LM.dropX (t := 66) rfl rfl ?_
     refine LM.dropX (t := 66) rfl rfl ?_
     refine LM.dropX (t := 66) rfl rfl ?_
     refine LM.dr 62 rfl rfl rfl <| LM.val (ov_pickT rfl rfl) <| nC [(1, _), (2, _), (3, _), (8, _), (9, _), (10, _), (72, _)] ?_
     refine QM.meetK (_) ⟨au2, rfl, rfl, rfl, rfl, rfl, rfl, trivial⟩ au1 ?_
     · (simp only [h1, h2, h7, h8, decide_true, decide_false, Bool.true_and, Bool.false_and, Bool.and_true, Bool.and_false, Bool.not_true, Bool.not_false, Bool.true_or, Bool.false_or, Bool.or_true, Bool.or_false, ne_eq, not_true_eq_false, not_false_eq_true, Bool.and_self]; done)
    refine LM.sp 62 rfl rfl rfl <| LM.val (ovf 3 rfl rfl rfl rfl) <| LM.sp 62 rfl rfl rfl ?_
    refine LM.rd (oml rfl rfl rfl) ?_
    refine LM.sp 62 rfl rfl rfl <| LM.val (ov_eql rfl rfl) <| LM.sp 62 rfl rfl rfl <| LM.mv rfl ?_
    refine LM.splitD (t := 66) rfl (fun h9 => ?_) (fun h9 => ?_)
    ·
     refine LM.sp 66 rfl rfl rfl <| LM.val (ovf 3 rfl rfl rfl rfl) <| LM.sp 66 rfl rfl rfl ?_
     refine LM.rd (oml rfl rfl rfl) ?_
     refine LM.sp 66 rfl rfl rfl <| LM.mv rfl <| LM.sp 66 rfl rfl rfl <| LM.val (ov_geq rfl rfl) <| LM.sp 62 rfl rfl rfl <| LM.val (ov_pickT rfl rfl) <| LM.val (ov_pickF rfl rfl) <| nC [(1, _), (2, _), (3, _), (8, _), (9, _), (10, _), (72, _)] ?_
     refine QM.meetK (_) ⟨au2, rfl, rfl, rfl, rfl, rfl, rfl, trivial⟩ au1 ?_
     · (simp only [h1, h2, h7, h8, h9, decide_true, decide_false, Bool.true_and, Bool.false_and, Bool.and_true, Bool.and_false, Bool.not_true, Bool.not_false, Bool.true_or, Bool.false_or, Bool.or_true, Bool.or_false, ne_eq, not_true_eq_false, not_false_eq_true, Bool.and_self]; done)
    refine LM.dr 66 rfl rfl rfl <| LM.dr 66 rfl rfl rfl <| LM.dr 66 rfl rfl rfl <| LM.dr 66 rfl rfl rfl <| LM.sp 62 rfl rfl rfl <| LM.val (ov_pickF rfl rfl) <| LM.val (ov_pickF rfl rfl) <| nC [(1, _), (2, _), (3, _), (8, _), (9, _), (10, _), (72, _)] ?_
    refine QM.meetK (_) ⟨au2, rfl, rfl, rfl, rfl, rfl, rfl, trivial⟩ au1 ?_
    · (simp only [h1, h2, h7, h8, h9, decide_true, decide_false, Bool.true_and, Bool.false_and, Bool.and_true, Bool.and_false, Bool.not_true, Bool.not_false, Bool.true_or, Bool.false_or, Bool.or_true, Bool.or_false, ne_eq, not_true_eq_false, not_false_eq_true, Bool.and_self]; done)
   refine LM.sp 50 rfl rfl rfl <| LM.val (ovf 3 rfl rfl rfl rfl) <| LM.sp 50 rfl rfl rfl ?_
   refine LM.rd (oml rfl rfl rfl) ?_
   refine LM.sp 50 rfl rfl rfl <| LM.val (ov_eql rfl rfl) <| LM.val (ov_pickF rfl rfl) <| LM.mv rfl ?_
   refine LM.splitD (t := 55) rfl (fun h10 => ?_) (fun h10 => ?_)
   ·
    refine LM.sp 55 rfl rfl rfl <| LM.val (ovf 3 rfl rfl rfl rfl) <| LM.sp 55 rfl rfl rfl ?_
    refine LM.rd (oml rfl rfl rfl) ?_
    refine LM.sp 55 rfl rfl rfl <| LM.mv rfl <| LM.sp 55 rfl rfl rfl <| LM.val (ov_len Try.underlying23 rfl) <| LM.sp 55 rfl rfl rfl <| LM.val (ov_geq rfl rfl) <| LM.val (ov_pickT rfl rfl) <| LM.mv rfl ?_
    refine LM.splitD (t := 62) rfl (fun h11 => ?_) (fun h11 => ?_)
    ·
     refine LM.dr 62 rfl rfl rfl <| LM.dr 62 rfl rfl rfl <| LM.dr 62 rfl rfl rfl ?_
     refine LM.dropU (t := 62) rfl rfl rfl ?_
     refine LM.dropX (t := 66) rfl rfl ?_
     refine LM.dropX (t := 66) rfl rfl ?_
     refine LM.dropX (t := 66) rfl rfl ?_
     refine LM.dropX (t := 66) rfl rfl ?_
     refine LM.dr 62 rfl rfl rfl <| LM.val (ov_pickT rfl rfl) <| nC [(1, _), (2, _), (3, _), (8, _), (9, _), (10, _), (72, _)] ?_
     refine QM.meetK (_) ⟨au2, rfl, rfl, rfl, rfl, rfl, rfl, trivial⟩ au1 ?_
     · (simp only [h1, h2, h7, h10, h11, decide_true, decide_false, Bool.true_and, Bool.false_and, Bool.and_true, Bool.and_false, Bool.not_true, Bool.not_false, Bool.true_or, Bool.false_or, Bool.or_true, Bool.or_false, ne_eq, not_true_eq_false, not_false_eq_true, Bool.and_self]; done)
    refine LM.sp 62 rfl rfl rfl <| LM.val (ovf 3 rfl rfl rfl rfl) <| LM.sp 62 rfl rfl rfl ?_
    refine LM.rd (oml rfl rfl rfl) ?_
    refine LM.sp 62 rfl rfl rfl <| LM.val (ov_eql rfl rfl) <| LM.sp 62 rfl rfl rfl <| LM.mv rfl ?_
    refine LM.splitD (t := 66) rfl (fun h12 => ?_) (fun h12 => ?_)
    ·
     refine LM.sp 66 rfl rfl rfl <| LM.val (ovf 3 rfl rfl rfl rfl) <| LM.sp 66 rfl rfl rfl ?_
     refine LM.rd (oml rfl rfl rfl) ?_
     refine LM.sp 66 rfl rfl rfl <| LM.mv rfl <| LM.sp 66 rfl rfl rfl <| LM.val (ov_geq rfl rfl) <| LM.sp 62 rfl rfl rfl <| LM.val (ov_pickT rfl rfl) <| LM.val (ov_pickF rfl rfl) <| nC [(1, _), (2, _), (3, _), (8, _), (9, _), (10, _), (72, _)] ?_
     refine QM.meetK (_) ⟨au2, rfl, rfl, rfl, rfl, rfl, rfl, trivial⟩ au1 ?_
     · (exfalso; omega)
    refine LM.dr 66 rfl rfl rfl <| LM.dr 66 rfl rfl rfl <| LM.dr 66 rfl rfl rfl <| LM.dr 66 rfl rfl rfl <| LM.sp 62 rfl rfl rfl <| LM.val (ov_pickF rfl rfl) <| LM.val (ov_pickF rfl rfl) <| nC [(1, _), (2, _), (3, _), (8, _), (9, _), (10, _), (72, _)] ?_
    refine QM.meetK (_) ⟨au2, rfl, rfl, rfl, rfl, rfl, rfl, trivial⟩ au1 ?_
    · (simp only [h1, h2, h7, h10, h11, h12, decide_true, decide_false, Bool.true_and, Bool.false_and, Bool.and_true, Bool.and_false, Bool.not_true, Bool.not_false, Bool.true_or, Bool.false_or, Bool.or_true, Bool.or_false, ne_eq, not_true_eq_false, not_false_eq_true, Bool.and_self]; rfl)
   refine LM.dr 55 rfl rfl rfl <| LM.dr 55 rfl rfl rfl <| LM.dr 55 rfl rfl rfl <| LM.dr 55 rfl rfl rfl <| LM.dr 55 rfl rfl rfl <| LM.val (ov_pickF rfl rfl) <| LM.mv rfl <| LM.sp 62 rfl rfl rfl <| LM.val (ovf 3 rfl rfl rfl rfl) <| LM.sp 62 rfl rfl rfl ?_
   refine LM.rd (oml rfl rfl rfl) ?_
   refine LM.sp 62 rfl rfl rfl <| LM.val (ov_eql rfl rfl) <| LM.sp 62 rfl rfl rfl <| LM.mv rfl ?_
   refine LM.splitD (t := 66) rfl (fun h13 => ?_) (fun h13 => ?_)
   ·
    refine LM.sp 66 rfl rfl rfl <| LM.val (ovf 3 rfl rfl rfl rfl) <| LM.sp 66 rfl rfl rfl ?_
    refine LM.rd (oml rfl rfl rfl) ?_
    refine LM.sp 66 rfl rfl rfl <| LM.mv rfl <| LM.sp 66 rfl rfl rfl <| LM.val (ov_geq rfl rfl) <| LM.sp 62 rfl rfl rfl <| LM.val (ov_pickT rfl rfl) <| LM.val (ov_pickF rfl rfl) <| nC [(1, _), (2, _), (3, _), (8, _), (9, _), (10, _), (72, _)] ?_
    refine QM.meetK (_) ⟨au2, rfl, rfl, rfl, rfl, rfl, rfl, trivial⟩ au1 ?_
    · (simp only [h1, h2, h7, h10, h13, decide_true, decide_false, Bool.true_and, Bool.false_and, Bool.and_true, Bool.and_false, Bool.not_true, Bool.not_false, Bool.true_or, Bool.false_or, Bool.or_true, Bool.or_false, ne_eq, not_true_eq_false, not_false_eq_true, Bool.and_self]; rfl)
   refine LM.dr 66 rfl rfl rfl <| LM.dr 66 rfl rfl rfl <| LM.dr 66 rfl rfl rfl <| LM.dr 66 rfl rfl rfl <| LM.sp 62 rfl rfl rfl <| LM.val (ov_pickF rfl rfl) <| LM.val (ov_pickF rfl rfl) <| nC [(1, _), (2, _), (3, _), (8, _), (9, _), (10, _), (72, _)] ?_
   refine QM.meetK (_) ⟨au2, rfl, rfl, rfl, rfl, rfl, rfl, trivial⟩ au1 ?_
   · (simp only [h1, h2, h7, h10, h13, decide_true, decide_false, Bool.true_and, Bool.false_and, Bool.and_true, Bool.and_false, Bool.not_true, Bool.not_false, Bool.true_or, Bool.false_or, Bool.or_true, Bool.or_false, ne_eq, not_true_eq_false, not_false_eq_true, Bool.and_self]; done)
  rintro q hq
  change QM _ _ _ _ _ (oB b10 (xs.getD i default) :: pB b3 fv ad n cap :: []) _ _ _
  refine QM.then ?_
  refine wpM.condB rfl (fun h14 => ?_) (fun h14 => ?_)
  ·
   refine wR <| LM.mv rfl <| LM.as rfl <| LM.as rfl <| nA [(6, _), (7, _)] <| wpM.ret <| QM.then_ret <| QM.block_ret <| QM.then_ret <| QM.then_ret <| QM.block_ret <| QM.then_ret ?_
   refine QM.leave (.inl rfl) [.tmp 6, .tmp 7] Try.results26 rfl ?_
   intro w' hm' hc' hg'
   exact ⟨(ckV_at (e := 4) hm0 h0 om (by simp only [fitsO, ← hn, ← hn2, ← hq]; simp only [h1, h2, h14, decide_true, decide_false, Bool.true_and, Bool.false_and, Bool.and_true, Bool.and_false, Bool.not_true, Bool.not_false, Bool.true_or, Bool.false_or, Bool.or_true, Bool.or_false, ne_eq, not_true_eq_false, not_false_eq_true, Bool.and_self, if_true]) (by decide)).symm, hc'⟩
  refine wpM.skip <| QM.then <| wpM.seq <| wpM.seq ?_
  refine wpM.joinK (α := Bool) (fun q3 => [(85, .bool q3)]) [(1, _), (2, _), (3, _), (8, _), (9, _), (10, _)] (fun q3 => oB b10 (xs.getD i default) :: pB b3 fv ad n cap :: []) (fun q3 => q3 = (decide ((xs.getD i default).k = 3) && !(ls.getD (xs.getD i default).a.toNat default).sh)) ⟨rfl, rfl, rfl, rfl, rfl, rfl, trivial⟩ ?_ ?_
  ·
   refine wpM.region ?_
   refine LM.val (ovf 3 rfl rfl rfl rfl) ?_
   refine LM.rd (oml rfl rfl rfl) ?_
   refine LM.val (ov_eql rfl rfl) <| LM.mv rfl ?_
   refine LM.splitD (t := 77) rfl (fun h15 => ?_) (fun h15 => ?_)
   ·
    have hlt := fits_lt2 hq h14 (by rw [h15]; rfl)
    refine LM.sp 77 rfl rfl rfl <| LM.mv rfl <| LM.sp 77 rfl rfl rfl <| LM.val (ovf 3 rfl rfl rfl rfl) <| LM.sp 77 rfl rfl rfl ?_
    refine LM.rd (oml rfl rfl rfl) ?_
    refine LM.sp 77 rfl rfl rfl ?_
    refine LM.val (ov_idxS au6 Try.underlying23 Try.sizeOf78 rfl rfl om) ?_
    refine LM.sp 77 rfl rfl rfl <| LM.val (ovf 4 rfl rfl rfl rfl) <| LM.sp 77 rfl rfl rfl ?_
    refine LM.rdC (om_srE (j := 0) asm Try.isAgg4 rfl rfl au3 (by rfl) (by rfl) id) ?_
    refine LM.sp 77 rfl rfl rfl ?_
    refine LM.val (ov_not rfl) ?_
    refine LM.val (ov_pickT rfl rfl) <| nC [(1, _), (2, _), (3, _), (8, _), (9, _), (10, _), (85, _)] ?_
    refine QM.meetK (_) ⟨au2, rfl, rfl, rfl, rfl, rfl, rfl, trivial⟩ au1 ?_
    · simp only [h1, h2, h14, h15, decide_true, decide_false, Bool.true_and, Bool.false_and, Bool.and_true, Bool.and_false, Bool.not_true, Bool.not_false, Bool.true_or, Bool.false_or, Bool.or_true, Bool.or_false, ne_eq, not_true_eq_false, not_false_eq_true, Bool.and_self]
   refine LM.dr 77 rfl rfl rfl <| LM.dr 77 rfl rfl rfl <| LM.dr 77 rfl rfl rfl <| LM.dr 77 rfl rfl rfl <| LM.dr 77 rfl rfl rfl <| LM.dr 77 rfl rfl rfl <| LM.dr 77 rfl rfl rfl <| LM.val (ov_pickF rfl rfl) <| nC [(1, _), (2, _), (3, _), (8, _), (9, _), (10, _), (85, _)] ?_
   refine QM.meetK (_) ⟨au2, rfl, rfl, rfl, rfl, rfl, rfl, trivial⟩ au1 ?_
   · simp only [h1, h2, h14, h15, decide_true, decide_false, Bool.true_and, Bool.false_and, Bool.and_true, Bool.and_false, Bool.not_true, Bool.not_false, Bool.true_or, Bool.false_or, Bool.or_true, Bool.or_false, ne_eq, not_true_eq_false, not_false_eq_true, Bool.and_self]
  rintro q3 hq3
  change QM _ _ _ _ _ (oB b10 (xs.getD i default) :: pB b3 fv ad n cap :: []) _ _ _
  refine QM.then ?_
  refine wpM.condB rfl (fun h16 => ?_) (fun h16 => ?_)
  ·
   refine wR <| LM.mv rfl <| LM.as rfl <| LM.as rfl <| nA [(6, _), (7, _)] <| wpM.ret <| QM.then_ret <| QM.block_ret <| QM.then_ret <| QM.then_ret <| QM.block_ret <| QM.then_ret ?_
   refine QM.leave (.inl rfl) [.tmp 6, .tmp 7] Try.results26 rfl ?_
   intro w' hm' hc' hg'
   exact ⟨(ckV_at (e := 1) hm0 h0 om (by simp only [fitsO, ← hn, ← hn2, ← hq, ← hq3]; simp only [h1, h2, h14, h16, decide_true, decide_false, Bool.true_and, Bool.false_and, Bool.and_true, Bool.and_false, Bool.not_true, Bool.not_false, Bool.true_or, Bool.false_or, Bool.or_true, Bool.or_false, ne_eq, not_true_eq_false, not_false_eq_true, Bool.and_self, if_true, if_false, Bool.false_eq_true]) (by decide)).symm, hc'⟩
  refine wpM.skip <| tR ?_
  refine LM.rd (om_ldW Try.isAgg102 Try.sizeOf102 rfl rfl) ?_
  refine cE Try.func48 rfl (fun w hm hc hg => rtakes_spec _ w) ?_
  refine nA [(1, _), (2, _), (3, _), (8, _), (9, _), (10, _), (88, _)] ?_
  refine wpM.condB rfl (fun h17 => ?_) (fun h17 => ?_)
  ·
   have hlt := fits_lt2 hq h14 h17
   refine wR ?_
   refine LM.rd (om_ldW Try.isAgg45 Try.sizeOf45 rfl rfl) ?_
   refine LM.mv rfl ?_
   refine cE Try.func49 rfl (fun w hm hc hg => rsection_spec i w hn (hl.ext hc) hsm om) ?_
   refine LM.alloc Try.zeroValue107 rfl (fun b11 hb11 => ?_)
   refine LM.stW Try.sizeOf107 rfl rfl rfl rfl au7 au8 ?_
   refine nA [(1, _), (2, _), (3, _), (8, _), (9, _), (10, _), (11, _)] <| wpM.seq ?_
   refine wpM.joinK (α := Bool) (fun q4 => [(117, .bool q4)]) [(1, _), (2, _), (3, _), (8, _), (9, _)] (fun q4 => pB b3 fv ad n cap :: []) (fun q4 => q4 = (decide ((secO xs i).2 < 1) || decide ((secO xs i).2 > (ls.getD (xs.getD i default).a.toNat default).cr) || fv && decide (((i + 1 + (secO xs i).1 : Nat) : Int) = n))) ⟨rfl, rfl, rfl, rfl, rfl, trivial⟩ ?_ ?_
   ·
    refine wpM.draw [(0, 0), (1, 1), (2, 0), (3, 0), (4, 0), (5, 1), (6, 0), (7, 0), (8, 1), (9, 0), (10, 0), (11, 1), (12, 0), (13, 0), (14, 0), (15, 0), (16, 1), (17, 0), (18, 0), (19, 1), (20, 0), (21, 1), (22, 0), (23, 0), (24, 0), (25, 0)] kr kr ?_
    refine LD.val rfl rfl (ovf 3 rfl rfl rfl rfl) ?_
    refine LD.rd rfl rfl (oml rfl rfl rfl) ?_
    refine LD.val rfl rfl (ov_lss rfl rfl) ?_
    refine LD.val rfl rfl (ov_move rfl) ?_
    refine LD.splitD (t := 95) rfl (fun h18 => ?_) (fun h18 => ?_)
    ·
     refine LD.drop rfl rfl ⟨95, _, rfl, rfl, rfl⟩ <| LD.drop rfl rfl ⟨95, _, rfl, rfl, rfl⟩ <| LD.drop rfl rfl ⟨95, _, rfl, rfl, rfl⟩ <| LD.drop rfl rfl ⟨95, _, rfl, rfl, rfl⟩ <| LD.drop rfl rfl ⟨95, _, rfl, rfl, rfl⟩ <| LD.drop rfl rfl ⟨95, _, rfl, rfl, rfl⟩ <| LD.drop rfl rfl ⟨95, _, rfl, rfl, rfl⟩ <| LD.drop rfl rfl ⟨95, _, rfl, rfl, rfl⟩ <| LD.drop rfl rfl ⟨95, _, rfl, rfl, rfl⟩ ?_
     refine LD.val rfl rfl (ov_pickT rfl rfl) ?_
     refine LD.val rfl rfl (ov_move rfl) <| LD.drop rfl rfl ⟨106, _, rfl, rfl, rfl⟩ <| LD.drop rfl rfl ⟨106, _, rfl, rfl, rfl⟩ ?_
     refine LD.dropU rfl rfl ⟨106, _, rfl, rfl, rfl⟩ ?_
     refine LD.dropX rfl rfl rfl rfl <| LD.dropX rfl rfl rfl rfl <| LD.dropX rfl rfl rfl rfl <| LD.dropX rfl rfl rfl rfl <| LD.dropX rfl rfl rfl rfl <| LD.dropX rfl rfl rfl rfl <| LD.drop rfl rfl ⟨106, _, rfl, rfl, rfl⟩ ?_
     refine LD.val rfl rfl (ov_pickT rfl rfl) ?_
     refine LD.nil ?_
     refine QM.sub (e' := [(1, _), (2, _), (3, _), (8, _), (9, _), (117, _)]) au9 ?_
     refine QM.meetK (_) ⟨au2, rfl, rfl, rfl, rfl, rfl, trivial⟩ au1 ?_
     · simp only [h1, h2, h14, h16, h17, h18, decide_true, decide_false, Bool.true_and, Bool.false_and, Bool.and_true, Bool.and_false, Bool.not_true, Bool.not_false, Bool.true_or, Bool.false_or, Bool.or_true, Bool.or_false, ne_eq, not_true_eq_false, not_false_eq_true, Bool.and_self]
    refine LD.val rfl ⟨95, _, rfl, rfl, rfl⟩ (ovf 3 rfl rfl rfl rfl) ?_
    refine LD.rd rfl ⟨95, _, rfl, rfl, rfl⟩ (oml rfl rfl rfl) ?_
    refine LD.val rfl ⟨95, _, rfl, rfl, rfl⟩ (ov_move rfl) <| LD.val rfl ⟨95, _, rfl, rfl, rfl⟩ (ovf 3 rfl rfl rfl rfl) ?_
    refine LD.rd rfl ⟨95, _, rfl, rfl, rfl⟩ (oml rfl rfl rfl) ?_
    refine LD.val rfl ⟨95, _, rfl, rfl, rfl⟩ (ov_idxS au6 Try.underlying23 Try.sizeOf78 rfl rfl om) ?_
    refine LD.val rfl ⟨95, _, rfl, rfl, rfl⟩ (ovf 3 rfl rfl rfl rfl) ?_
    refine LD.rdC rfl ⟨95, _, rfl, rfl, rfl⟩ (om_srE (j := 2) asm Try.isAgg3 rfl rfl au3 (by rfl) (by rfl) id) ?_
    refine LD.val rfl ⟨95, _, rfl, rfl, rfl⟩ (ov_gtr rfl rfl) ?_
    refine LD.val rfl rfl (ov_pickF rfl rfl) ?_
    refine LD.val rfl rfl (ov_move rfl) ?_
    refine LD.splitD (t := 106) rfl (fun h19 => ?_) (fun h19 => ?_)
    ·
     refine LD.drop rfl rfl ⟨106, _, rfl, rfl, rfl⟩ <| LD.drop rfl rfl ⟨106, _, rfl, rfl, rfl⟩ ?_
     refine LD.dropU rfl rfl ⟨106, _, rfl, rfl, rfl⟩ ?_
     refine LD.dropX rfl rfl rfl rfl <| LD.dropX rfl rfl rfl rfl <| LD.dropX rfl rfl rfl rfl <| LD.dropX rfl rfl rfl rfl <| LD.dropX rfl rfl rfl rfl <| LD.dropX rfl rfl rfl rfl <| LD.drop rfl rfl ⟨106, _, rfl, rfl, rfl⟩ ?_
     refine LD.val rfl rfl (ov_pickT rfl rfl) ?_
     refine LD.nil ?_
     refine QM.sub (e' := [(1, _), (2, _), (3, _), (8, _), (9, _), (117, _)]) au9 ?_
     refine QM.meetK (_) ⟨au2, rfl, rfl, rfl, rfl, rfl, trivial⟩ au1 ?_
     · simp only [h1, h2, h14, h16, h17, h18, h19, decide_true, decide_false, Bool.true_and, Bool.false_and, Bool.and_true, Bool.and_false, Bool.not_true, Bool.not_false, Bool.true_or, Bool.false_or, Bool.or_true, Bool.or_false, ne_eq, not_true_eq_false, not_false_eq_true, Bool.and_self]
    refine LD.val rfl ⟨106, _, rfl, rfl, rfl⟩ (ovf 4 rfl rfl rfl rfl) ?_
    refine LD.rd rfl ⟨106, _, rfl, rfl, rfl⟩ (oml rfl rfl rfl) ?_
    refine LD.val rfl ⟨106, _, rfl, rfl, rfl⟩ (ov_move rfl) ?_
    refine LD.splitB (t := 109) rfl (fun h20 => ?_) (fun h20 => ?_)
    ·
     refine LD.val rfl ⟨109, _, rfl, rfl, rfl⟩ (ovf 3 rfl rfl rfl rfl) ?_
     refine LD.rd rfl ⟨109, _, rfl, rfl, rfl⟩ (oml rfl rfl rfl) ?_
     refine LD.val rfl ⟨109, _, rfl, rfl, rfl⟩ (ovf 43 rfl rfl rfl rfl) ?_
     refine LD.rd rfl ⟨109, _, rfl, rfl, rfl⟩ (oml rfl rfl rfl) ?_
     refine LD.val rfl ⟨109, _, rfl, rfl, rfl⟩ (ov_len Try.underlying43 rfl) ?_
     refine LD.val rfl ⟨109, _, rfl, rfl, rfl⟩ (ov_eql rfl rfl) ?_
     refine LD.val rfl ⟨106, _, rfl, rfl, rfl⟩ (ov_pickT rfl rfl) ?_
     refine LD.val rfl rfl (ov_pickF rfl rfl) ?_
     refine LD.nil ?_
     refine QM.sub (e' := [(1, _), (2, _), (3, _), (8, _), (9, _), (117, _)]) au9 ?_
     refine QM.meetK (_) ⟨au2, rfl, rfl, rfl, rfl, rfl, trivial⟩ au1 ?_
     · simp only [h1, h2, h14, h16, h17, h18, h19, h20, decide_true, decide_false, Bool.true_and, Bool.false_and, Bool.and_true, Bool.and_false, Bool.not_true, Bool.not_false, Bool.true_or, Bool.false_or, Bool.or_true, Bool.or_false, ne_eq, not_true_eq_false, not_false_eq_true, Bool.and_self]
    refine LD.drop rfl rfl ⟨109, _, rfl, rfl, rfl⟩ <| LD.drop rfl rfl ⟨109, _, rfl, rfl, rfl⟩ <| LD.drop rfl rfl ⟨109, _, rfl, rfl, rfl⟩ <| LD.drop rfl rfl ⟨109, _, rfl, rfl, rfl⟩ <| LD.drop rfl rfl ⟨109, _, rfl, rfl, rfl⟩ <| LD.drop rfl rfl ⟨109, _, rfl, rfl, rfl⟩ ?_
    refine LD.val rfl ⟨106, _, rfl, rfl, rfl⟩ (ov_pickF rfl rfl) ?_
    refine LD.val rfl rfl (ov_pickF rfl rfl) ?_
    refine LD.nil ?_
    refine QM.sub (e' := [(1, _), (2, _), (3, _), (8, _), (9, _), (117, _)]) au9 ?_
    refine QM.meetK (_) ⟨au2, rfl, rfl, rfl, rfl, rfl, trivial⟩ au1 ?_
    · simp only [h1, h2, h14, h16, h17, h18, h19, h20, decide_true, decide_false, Bool.true_and, Bool.false_and, Bool.and_true, Bool.and_false, Bool.not_true, Bool.not_false, Bool.true_or, Bool.false_or, Bool.or_true, Bool.or_false, ne_eq, not_true_eq_false, not_false_eq_true, Bool.and_self]
   rintro q4 hq4
   change QM _ _ _ _ _ (pB b3 fv ad n cap :: []) _ _ _
   refine QM.then ?_
   refine wpM.condB rfl (fun h21 => ?_) (fun h21 => ?_)
   ·
    refine wR <| LM.mv rfl <| LM.as rfl <| LM.as rfl <| nA [(6, _), (7, _)] <| wpM.ret <| QM.block_ret <| QM.then_ret <| QM.then_ret <| QM.block_ret <| QM.then_ret ?_
    refine QM.leave (.inl rfl) [.tmp 6, .tmp 7] Try.results26 rfl ?_
    intro w' hm' hc' hg'
    exact ⟨(ckV_at (e := 13) hm0 h0 om (by simp only [fitsO, ← hn, ← hn2, ← hq, ← hq3, ← hq4]; simp only [h1, h2, h14, h16, h17, h21, decide_true, decide_false, Bool.true_and, Bool.false_and, Bool.and_true, Bool.and_false, Bool.not_true, Bool.not_false, Bool.true_or, Bool.false_or, Bool.or_true, Bool.or_false, ne_eq, not_true_eq_false, not_false_eq_true, Bool.and_self, if_true, if_false, Bool.false_eq_true]) (by decide)).symm, hc'⟩
   refine wpM.skip <| QM.block_normal ?_
   refine QM.then (wpM.region ?_)
   refine LM.mv rfl ?_
   refine LM.val (ov_add64 rfl rfl om) ?_
   refine LM.as rfl <| nC [(1, _), (2, _), (3, _), (8, _), (9, _)] ?_
   refine QM.againK (i + 1) ⟨au2, au2, rfl, rfl, rfl, trivial⟩ au1 (fun _ h => h) ?_ ?_
   · exact ⟨by omega, before_succ h0 (by simp only [fitsO, ← hn, ← hn2, ← hq, ← hq3, ← hq4]; simp only [h1, h2, h14, h16, h17, h21, decide_true, decide_false, Bool.true_and, Bool.false_and, Bool.and_true, Bool.and_false, Bool.not_true, Bool.not_false, Bool.true_or, Bool.false_or, Bool.or_true, Bool.or_false, ne_eq, not_true_eq_false, not_false_eq_true, Bool.and_self, if_true, if_false, ite_true, Bool.false_eq_true])⟩
   · omega
  refine wpM.skip <| QM.block_normal ?_
  refine QM.then (wpM.region ?_)
  refine LM.mv rfl ?_
  refine LM.val (ov_add64 rfl rfl om) ?_
  refine LM.as rfl <| nC [(1, _), (2, _), (3, _), (8, _), (9, _)] ?_
  refine QM.againK (i + 1) ⟨au2, au2, rfl, rfl, rfl, trivial⟩ au1 (fun _ h => h) ?_ ?_
  · exact ⟨by omega, before_succ h0 (by simp only [fitsO, ← hn, ← hn2, ← hq, ← hq3]; simp only [h1, h2, h14, h16, h17, decide_true, decide_false, Bool.true_and, Bool.false_and, Bool.and_true, Bool.and_false, Bool.not_true, Bool.not_false, Bool.true_or, Bool.false_or, Bool.or_true, Bool.or_false, ne_eq, not_true_eq_false, not_false_eq_true, Bool.and_self, if_true, if_false, ite_true, Bool.false_eq_true])⟩
  · omega
 refine wpM.exit <| QM.then_exit <| QM.then_exit <| QM.block_hit <| QM.then <| wpM.seq <| wR <| LM.val (ovf 4 rfl rfl rfl rfl) ?_
 refine LM.rd (oml rfl rfl rfl) ?_
 refine LM.mv rfl ?_
 refine LM.splitB (t := 121) rfl (fun h22 => ?_) (fun h22 => ?_)
 ·
  refine LM.sp 121 rfl rfl rfl <| LM.mv rfl <| LM.sp 121 rfl rfl rfl ?_
  refine LM.val (ov_not rfl) ?_
  refine LM.val (ov_pickT rfl rfl) <| nA [(124, _)] ?_
  refine wpM.condB rfl (fun h23 => ?_) (fun h23 => ?_)
  ·
   refine wR <| LM.as rfl <| LM.as rfl <| nA [(6, _), (7, _)] <| wpM.ret <| QM.then_ret ?_
   refine QM.leave (.inl rfl) [.tmp 6, .tmp 7] Try.results26 rfl ?_
   intro w' hm' hc' hg'
   have hil : i = xs.length := om; subst hil; rw [List.take_length] at h23; exact ⟨(ckV_end (b := true) hm0 h0 (by rw [h22, h23]; rfl)).symm, hc'⟩
  refine wpM.skip <| tR <| LM.as rfl <| LM.as rfl <| nA [(6, _), (7, _)] <| wpM.ret ?_
  refine QM.leave (.inl rfl) [.tmp 6, .tmp 7] Try.results26 rfl ?_
  intro w' hm' hc' hg'
  have hil : i = xs.length := om; subst hil; rw [List.take_length] at h23; exact ⟨(ckV_end (b := false) hm0 h0 (by rw [h22, h23]; rfl)).symm, hc'⟩
 refine LM.dr 121 rfl rfl rfl <| LM.dr 121 rfl rfl rfl <| LM.val (ov_pickF rfl rfl) <| nA [(124, _)] ?_
 refine wpM.condF rfl ?_
 refine wpM.skip <| tR <| LM.as rfl <| LM.as rfl <| nA [(6, _), (7, _)] <| wpM.ret ?_
 refine QM.leave (.inl rfl) [.tmp 6, .tmp 7] Try.results26 rfl ?_
 intro w' hm' hc' hg'
 have hil : i = xs.length := om; subst hil; exact ⟨(ckV_end (b := false) hm0 h0 (by rw [h22]; rfl)).symm, hc'⟩
structure PgV where
  c : PgC
  ad : Option Addr
  n : Nat
  cap : Nat
instance : Inhabited PgV := ⟨⟨default, none, 0, 0⟩⟩
def fPg (p : PgV) : List Value := [.bool p.c.fv, .slice p.ad p.n p.cap]
def PgV.In (p : PgV) (w : World) : Prop := p.n = p.c.xs.length ∧ Sr fO 3 p.c.xs (.slice p.ad p.n p.cap) w
theorem PgV.In.ext {p : PgV} {w w' : World} (h : p.In w) (k : Ext w w') : p.In w' := ⟨h.1, h.2.ext k⟩
def PgsIn (ps : List PgV) (w : World) : Prop := ∀ p ∈ ps, p.In w
theorem PgsIn.ext {ps : List PgV} {w w' : World} (h : PgsIn ps w) (k : Ext w w') : PgsIn ps w' := fun p hp => (h p hp).ext k
structure StV where
  cr : Int
  gr : Int
  gs : List Int
  ga : Option Addr
  gn : Nat
  gc : Nat
  ls : List CLk
  la : Option Addr
  ln : Nat
  lc : Nat
  ps : List PgV
  pa : Option Addr
  pn : Nat
  pc : Nat
instance : Inhabited StV := ⟨⟨0, 0, [], none, 0, 0, [], none, 0, 0, [], none, 0, 0⟩⟩
def StV.cs (s : StV) : List Value := [.int .i64 s.cr, .int .i64 s.gr, .slice s.ga s.gn s.gc, .slice s.la s.ln s.lc, .slice s.pa s.pn s.pc]
abbrev StV.val (s : StV) : Value := .agg #[.int .i64 s.cr, .int .i64 s.gr, .slice s.ga s.gn s.gc, .slice s.la s.ln s.lc, .slice s.pa s.pn s.pc]
def StV.C (s : StV) : StC := ⟨s.cr, s.gr, s.gs, s.ls, s.ps.map PgV.c⟩
structure StV.In (s : StV) (w : World) : Prop where
  hgn : s.gn = s.gs.length
  hg : Sr fI 1 s.gs (.slice s.ga s.gn s.gc) w
  hln : s.ln = s.ls.length
  hl : Sr fL 5 s.ls (.slice s.la s.ln s.lc) w
  hpn : s.pn = s.ps.length
  hp : Sr fPg 2 s.ps (.slice s.pa s.pn s.pc) w
  ops : PgsIn s.ps w
theorem StV.In.ext {s : StV} {w w' : World} (h : s.In w) (k : Ext w w') : s.In w' := ⟨h.hgn, h.hg.ext k, h.hln, h.hl.ext k, h.hpn, h.hp.ext k, h.ops.ext k⟩
theorem map_getD {ps : List PgV} {i : Nat} : (ps.map PgV.c).getD i default = (ps.getD i default).c := by
  rw [List.getD_eq_getElem?_getD, List.getD_eq_getElem?_getD, List.getElem?_map]; cases ps[i]? <;> rfl
abbrev qO (ad : Option Addr) (n cap : Nat) (i : Nat) (e : Int) : Obj := .cells #[.slice ad n cap, .int .i64 (i : Nat), .int .i64 e] 72 (0, 0)
abbrev qB (b : Nat) (ad : Option Addr) (n cap : Nat) (i : Nat) (e : Int) : Nat × Obj := (b, qO ad n cap i e)
set_option maxHeartbeats 1000000 in
theorem qis_spec {ws : List Wrd} (b : Nat) {ad : Option Addr} {n cap : Nat} (i : Nat) (e k : Int) (t : List UInt8) (w : World) (hn : n = ws.length) (hl : Sr fW 4 ws (.slice ad n cap) w) (hM : Mem w [qB b ad n cap i e]) : Ret Try.prog 22 #[.pointer (some ⟨b, 0, none⟩), .int .i64 k, vS t] w (fun v w' => v = .bool (isE ws i e k t) ∧ Ext w w') := by
 refine Ret.enterM Try.func22 rfl Try.ntmps22 rfl ([qB b ad n cap i e]) (no) hM ?_
 refine wR <| LM.as rfl <| nA [(0, _), (1, _), (2, _)] <| wpM.seq ?_
 refine wpM.draw [(0, 0), (1, 0), (2, 0), (3, 1), (4, 0), (5, 0), (6, 0), (7, 0), (8, 0), (9, 1), (10, 0), (11, 0), (12, 0), (13, 1), (14, 0), (15, 0), (16, 0), (17, 0), (18, 0), (19, 0), (20, 0), (21, 1), (22, 0), (23, 0), (24, 0), (25, 1), (26, 0), (27, 0), (28, 1), (29, 0), (30, 0), (31, 0), (32, 0), (33, 0), (34, 0), (35, 0), (36, 1), (37, 0), (38, 0), (39, 0), (40, 1), (41, 0), (42, 0), (43, 1), (44, 0), (45, 0), (46, 0), (47, 0)] kr kr ?_
 refine LD.val rfl rfl (ov_move rfl) <| LD.val rfl rfl (ov_nilCheck rfl) <| LD.val rfl rfl (ovf 3 rfl rfl rfl rfl) ?_
 refine LD.rd rfl rfl (oml rfl rfl rfl) ?_
 refine LD.val rfl rfl (ov_eql rfl rfl) ?_
 refine LD.val rfl rfl (ov_move rfl) ?_
 refine LD.splitD (t := 12) rfl (fun h1 => ?_) (fun h1 => ?_)
 ·
  refine LD.val rfl ⟨12, _, rfl, rfl, rfl⟩ (ov_move rfl) <| LD.val rfl ⟨12, _, rfl, rfl, rfl⟩ (ov_nilCheck rfl) <| LD.val rfl ⟨12, _, rfl, rfl, rfl⟩ (ovf 3 rfl rfl rfl rfl) ?_
  refine LD.rd rfl ⟨12, _, rfl, rfl, rfl⟩ (oml rfl rfl rfl) ?_
  refine LD.val rfl ⟨12, _, rfl, rfl, rfl⟩ (ov_move rfl) <| LD.val rfl ⟨12, _, rfl, rfl, rfl⟩ (ov_nilCheck rfl) <| LD.val rfl ⟨12, _, rfl, rfl, rfl⟩ (ovf 49 rfl rfl rfl rfl) ?_
  refine LD.rd rfl ⟨12, _, rfl, rfl, rfl⟩ (oml rfl rfl rfl) ?_
  refine LD.val rfl ⟨12, _, rfl, rfl, rfl⟩ (ov_len Try.underlying49 rfl) ?_
  refine LD.val rfl ⟨12, _, rfl, rfl, rfl⟩ (ov_lss rfl rfl) ?_
  refine LD.val rfl rfl (ov_pickT rfl rfl) ?_
  refine LD.val rfl rfl (ov_move rfl) ?_
  refine LD.splitD (t := 24) rfl (fun h2 => ?_) (fun h2 => ?_)
  ·
   refine LD.val rfl ⟨24, _, rfl, rfl, rfl⟩ (ov_move rfl) <| LD.val rfl ⟨24, _, rfl, rfl, rfl⟩ (ov_nilCheck rfl) <| LD.val rfl ⟨24, _, rfl, rfl, rfl⟩ (ovf 49 rfl rfl rfl rfl) ?_
   refine LD.rd rfl ⟨24, _, rfl, rfl, rfl⟩ (oml rfl rfl rfl) ?_
   refine LD.val rfl ⟨24, _, rfl, rfl, rfl⟩ (ov_move rfl) <| LD.val rfl ⟨24, _, rfl, rfl, rfl⟩ (ov_nilCheck rfl) <| LD.val rfl ⟨24, _, rfl, rfl, rfl⟩ (ovf 3 rfl rfl rfl rfl) ?_
   refine LD.rd rfl ⟨24, _, rfl, rfl, rfl⟩ (oml rfl rfl rfl) ?_
   refine LD.val rfl ⟨24, _, rfl, rfl, rfl⟩ (ov_idxSN au6 Try.underlying49 Try.sizeOf67 rfl rfl om) ?_
   refine LD.val rfl ⟨24, _, rfl, rfl, rfl⟩ (ovf 3 rfl rfl rfl rfl) ?_
   refine LD.rdC rfl ⟨24, _, rfl, rfl, rfl⟩ (om_srE (j := 0) asm Try.isAgg3 rfl rfl au3 (by rfl) (by rfl) id) ?_
   refine LD.val rfl ⟨24, _, rfl, rfl, rfl⟩ (ov_move rfl) ?_
   refine LD.val rfl ⟨24, _, rfl, rfl, rfl⟩ (ov_eql rfl rfl) ?_
   refine LD.val rfl rfl (ov_pickT rfl rfl) ?_
   refine LD.val rfl rfl (ov_move rfl) ?_
   refine LD.splitD (t := 39) rfl (fun h3 => ?_) (fun h3 => ?_)
   ·
    refine LD.val rfl ⟨39, _, rfl, rfl, rfl⟩ (ov_move rfl) <| LD.val rfl ⟨39, _, rfl, rfl, rfl⟩ (ov_nilCheck rfl) <| LD.val rfl ⟨39, _, rfl, rfl, rfl⟩ (ovf 49 rfl rfl rfl rfl) ?_
    refine LD.rd rfl ⟨39, _, rfl, rfl, rfl⟩ (oml rfl rfl rfl) ?_
    refine LD.val rfl ⟨39, _, rfl, rfl, rfl⟩ (ov_move rfl) <| LD.val rfl ⟨39, _, rfl, rfl, rfl⟩ (ov_nilCheck rfl) <| LD.val rfl ⟨39, _, rfl, rfl, rfl⟩ (ovf 3 rfl rfl rfl rfl) ?_
    refine LD.rd rfl ⟨39, _, rfl, rfl, rfl⟩ (oml rfl rfl rfl) ?_
    refine LD.val rfl ⟨39, _, rfl, rfl, rfl⟩ (ov_idxSN au6 Try.underlying49 Try.sizeOf67 rfl rfl om) ?_
    refine LD.val rfl ⟨39, _, rfl, rfl, rfl⟩ (ovf 9 rfl rfl rfl rfl) ?_
    refine LD.rdC rfl ⟨39, _, rfl, rfl, rfl⟩ (om_srE (j := 1) asm Try.isAgg9 rfl rfl au3 (by rfl) (by rfl) id) ?_
    refine LD.val rfl ⟨39, _, rfl, rfl, rfl⟩ (ov_move rfl) ?_
    refine LD.val rfl ⟨39, _, rfl, rfl, rfl⟩ (ov_seqlL rfl rfl) ?_
    refine LD.val rfl rfl (ov_pickT rfl rfl) ?_
    refine LD.val rfl rfl (ov_assign rfl) <| LD.nil ?_
    refine QM.sub (e' := [(6, _)]) ⟨rfl, trivial⟩ (QM.then ?_)
    refine wpM.ret ?_
    refine qL Try.results22 rfl fun w' hm' hc' hg' => ?_
    refine ⟨?_, hc'⟩; simp only [resV, isE]; rw [decide_eq_true h1, decide_eq_true (show i < ws.length by omega), decide_eq_true h3]; simp only [Bool.true_and]
   refine LD.drop rfl rfl ⟨39, _, rfl, rfl, rfl⟩ <| LD.drop rfl rfl ⟨39, _, rfl, rfl, rfl⟩ <| LD.drop rfl rfl ⟨39, _, rfl, rfl, rfl⟩ <| LD.drop rfl rfl ⟨39, _, rfl, rfl, rfl⟩ <| LD.drop rfl rfl ⟨39, _, rfl, rfl, rfl⟩ <| LD.drop rfl rfl ⟨39, _, rfl, rfl, rfl⟩ <| LD.drop rfl rfl ⟨39, _, rfl, rfl, rfl⟩ <| LD.drop rfl rfl ⟨39, _, rfl, rfl, rfl⟩ <| LD.drop rfl rfl ⟨39, _, rfl, rfl, rfl⟩ <| LD.drop rfl rfl ⟨39, _, rfl, rfl, rfl⟩ <| LD.drop rfl rfl ⟨39, _, rfl, rfl, rfl⟩ <| LD.drop rfl rfl ⟨39, _, rfl, rfl, rfl⟩ <| LD.drop rfl rfl ⟨39, _, rfl, rfl, rfl⟩ ?_
   refine LD.val rfl rfl (ov_pickF rfl rfl) ?_
   refine LD.val rfl rfl (ov_assign rfl) <| LD.nil ?_
   refine QM.sub (e' := [(6, _)]) ⟨rfl, trivial⟩ (QM.then ?_)
   refine wpM.ret ?_
   refine qL Try.results22 rfl fun w' hm' hc' hg' => ?_
   refine ⟨?_, hc'⟩; simp only [resV, isE]; rw [decide_eq_false h3]; simp only [Bool.and_false, Bool.false_and]
  refine LD.drop rfl rfl ⟨24, _, rfl, rfl, rfl⟩ <| LD.drop rfl rfl ⟨24, _, rfl, rfl, rfl⟩ <| LD.drop rfl rfl ⟨24, _, rfl, rfl, rfl⟩ <| LD.drop rfl rfl ⟨24, _, rfl, rfl, rfl⟩ <| LD.drop rfl rfl ⟨24, _, rfl, rfl, rfl⟩ <| LD.drop rfl rfl ⟨24, _, rfl, rfl, rfl⟩ <| LD.drop rfl rfl ⟨24, _, rfl, rfl, rfl⟩ <| LD.drop rfl rfl ⟨24, _, rfl, rfl, rfl⟩ <| LD.drop rfl rfl ⟨24, _, rfl, rfl, rfl⟩ <| LD.drop rfl rfl ⟨24, _, rfl, rfl, rfl⟩ <| LD.drop rfl rfl ⟨24, _, rfl, rfl, rfl⟩ <| LD.drop rfl rfl ⟨24, _, rfl, rfl, rfl⟩ <| LD.drop rfl rfl ⟨24, _, rfl, rfl, rfl⟩ ?_
  refine LD.val rfl rfl (ov_pickF rfl rfl) ?_
  refine LD.val rfl rfl (ov_move rfl) <| LD.drop rfl rfl ⟨39, _, rfl, rfl, rfl⟩ <| LD.drop rfl rfl ⟨39, _, rfl, rfl, rfl⟩ <| LD.drop rfl rfl ⟨39, _, rfl, rfl, rfl⟩ <| LD.drop rfl rfl ⟨39, _, rfl, rfl, rfl⟩ <| LD.drop rfl rfl ⟨39, _, rfl, rfl, rfl⟩ <| LD.drop rfl rfl ⟨39, _, rfl, rfl, rfl⟩ <| LD.drop rfl rfl ⟨39, _, rfl, rfl, rfl⟩ <| LD.drop rfl rfl ⟨39, _, rfl, rfl, rfl⟩ <| LD.drop rfl rfl ⟨39, _, rfl, rfl, rfl⟩ <| LD.drop rfl rfl ⟨39, _, rfl, rfl, rfl⟩ <| LD.drop rfl rfl ⟨39, _, rfl, rfl, rfl⟩ <| LD.drop rfl rfl ⟨39, _, rfl, rfl, rfl⟩ <| LD.drop rfl rfl ⟨39, _, rfl, rfl, rfl⟩ ?_
  refine LD.val rfl rfl (ov_pickF rfl rfl) ?_
  refine LD.val rfl rfl (ov_assign rfl) <| LD.nil ?_
  refine QM.sub (e' := [(6, _)]) ⟨rfl, trivial⟩ (QM.then ?_)
  refine wpM.ret ?_
  refine qL Try.results22 rfl fun w' hm' hc' hg' => ?_
  refine ⟨?_, hc'⟩; simp only [resV, isE]; rw [decide_eq_false (show ¬ i < ws.length by omega)]; simp only [Bool.and_false, Bool.false_and]
 refine LD.drop rfl rfl ⟨12, _, rfl, rfl, rfl⟩ <| LD.drop rfl rfl ⟨12, _, rfl, rfl, rfl⟩ <| LD.drop rfl rfl ⟨12, _, rfl, rfl, rfl⟩ <| LD.drop rfl rfl ⟨12, _, rfl, rfl, rfl⟩ <| LD.drop rfl rfl ⟨12, _, rfl, rfl, rfl⟩ <| LD.drop rfl rfl ⟨12, _, rfl, rfl, rfl⟩ <| LD.drop rfl rfl ⟨12, _, rfl, rfl, rfl⟩ <| LD.drop rfl rfl ⟨12, _, rfl, rfl, rfl⟩ <| LD.drop rfl rfl ⟨12, _, rfl, rfl, rfl⟩ <| LD.drop rfl rfl ⟨12, _, rfl, rfl, rfl⟩ ?_
 refine LD.val rfl rfl (ov_pickF rfl rfl) ?_
 refine LD.val rfl rfl (ov_move rfl) <| LD.drop rfl rfl ⟨24, _, rfl, rfl, rfl⟩ <| LD.drop rfl rfl ⟨24, _, rfl, rfl, rfl⟩ <| LD.drop rfl rfl ⟨24, _, rfl, rfl, rfl⟩ <| LD.drop rfl rfl ⟨24, _, rfl, rfl, rfl⟩ <| LD.drop rfl rfl ⟨24, _, rfl, rfl, rfl⟩ <| LD.drop rfl rfl ⟨24, _, rfl, rfl, rfl⟩ <| LD.drop rfl rfl ⟨24, _, rfl, rfl, rfl⟩ <| LD.drop rfl rfl ⟨24, _, rfl, rfl, rfl⟩ <| LD.drop rfl rfl ⟨24, _, rfl, rfl, rfl⟩ <| LD.drop rfl rfl ⟨24, _, rfl, rfl, rfl⟩ <| LD.drop rfl rfl ⟨24, _, rfl, rfl, rfl⟩ <| LD.drop rfl rfl ⟨24, _, rfl, rfl, rfl⟩ <| LD.drop rfl rfl ⟨24, _, rfl, rfl, rfl⟩ ?_
 refine LD.val rfl rfl (ov_pickF rfl rfl) ?_
 refine LD.val rfl rfl (ov_move rfl) <| LD.drop rfl rfl ⟨39, _, rfl, rfl, rfl⟩ <| LD.drop rfl rfl ⟨39, _, rfl, rfl, rfl⟩ <| LD.drop rfl rfl ⟨39, _, rfl, rfl, rfl⟩ <| LD.drop rfl rfl ⟨39, _, rfl, rfl, rfl⟩ <| LD.drop rfl rfl ⟨39, _, rfl, rfl, rfl⟩ <| LD.drop rfl rfl ⟨39, _, rfl, rfl, rfl⟩ <| LD.drop rfl rfl ⟨39, _, rfl, rfl, rfl⟩ <| LD.drop rfl rfl ⟨39, _, rfl, rfl, rfl⟩ <| LD.drop rfl rfl ⟨39, _, rfl, rfl, rfl⟩ <| LD.drop rfl rfl ⟨39, _, rfl, rfl, rfl⟩ <| LD.drop rfl rfl ⟨39, _, rfl, rfl, rfl⟩ <| LD.drop rfl rfl ⟨39, _, rfl, rfl, rfl⟩ <| LD.drop rfl rfl ⟨39, _, rfl, rfl, rfl⟩ ?_
 refine LD.val rfl rfl (ov_pickF rfl rfl) ?_
 refine LD.val rfl rfl (ov_assign rfl) <| LD.nil ?_
 refine QM.sub (e' := [(6, _)]) ⟨rfl, trivial⟩ (QM.then ?_)
 refine wpM.ret ?_
 refine qL Try.results22 rfl fun w' hm' hc' hg' => ?_
 refine ⟨?_, hc'⟩; simp only [resV, isE]; rw [decide_eq_false h1]; simp only [Bool.and_false, Bool.false_and]
theorem qneed_spec {ws : List Wrd} (b : Nat) {ad : Option Addr} {n cap : Nat} (i : Nat) (e k : Int) (t : List UInt8) (w : World) (hn : n = ws.length) (hx : ws.length ≤ 1000000000) (hl : Sr fW 4 ws (.slice ad n cap) w) (hab : 0 < ws.length → adB ad ≠ b) (hM : Mem w [qB b ad n cap i e]) : Ret Try.prog 21 #[.pointer (some ⟨b, 0, none⟩), .int .i64 k, vS t] w (WrP b (.tuple #[]) (qO ad n cap (needE ws i e k t).1 (needE ws i e k t).2) w) := by
 refine Ret.enterM Try.func21 rfl Try.ntmps21 rfl ([qB b ad n cap i e]) ((fun x => x = b)) hM ?_
 refine wR <| LM.mv rfl <| LM.mv rfl <| LM.mv rfl ?_
 refine cE Try.func22 rfl (fun w hm hc hg => qis_spec b i e k t w hn (hl.kp hc hab) (hm.pick _)) ?_
 refine nA [(0, _), (9, _)] ?_
 refine wpM.condB rfl (fun h1 => ?_) (fun h1 => ?_)
 ·
  have hlt := (isE_lt h1).1
  refine wpM.region ?_
  refine LM.mv rfl <| LM.nc rfl <| LM.val (ovf 3 rfl rfl rfl rfl) ?_
  refine LM.rd (oml rfl rfl rfl) ?_
  refine LM.val (ov_add64 rfl rfl om) ?_
  refine LM.nc rfl <| LM.val (ovf 3 rfl rfl rfl rfl) ?_
  refine LM.st Try.sizeOf3 rfl rfl rfl au5 rfl (fun _ => rfl) ?_
  refine LM.nil (QM.sub (e' := []) trivial ?_)
  refine QM.leave (.inr rfl) [] Try.results21 rfl ?_
  intro w' hm' hc' hg'
  refine ⟨rfl, hc', ?_⟩; have h3 := hm'.at b; unfold needE; rw [if_pos h1]; exact h3
 refine wR <| LM.mv rfl <| LM.nc rfl <| LM.val (ovf 3 rfl rfl rfl rfl) ?_
 refine LM.rd (oml rfl rfl rfl) ?_
 refine LM.val (ov_eql rfl rfl) <| nA [(0, _), (21, _)] ?_
 refine wpM.condD rfl (fun h2 => ?_) (fun h2 => ?_)
 ·
  refine wpM.region ?_
  refine LM.mv rfl <| LM.nc rfl <| LM.val (ovf 3 rfl rfl rfl rfl) ?_
  refine LM.st Try.sizeOf3 rfl rfl rfl au5 rfl (fun _ => rfl) ?_
  refine LM.nil (QM.sub (e' := []) trivial ?_)
  refine QM.leave (.inr rfl) [] Try.results21 rfl ?_
  intro w' hm' hc' hg'
  refine ⟨rfl, hc', ?_⟩; have h3 := hm'.at b; unfold needE; rw [if_neg (by rw [h1]; simp), if_pos h2]; exact h3
 refine wpM.skip ?_
 refine QM.leave (.inr rfl) [] Try.results21 rfl ?_
 intro w' hm' hc' hg'
 refine ⟨rfl, hc', ?_⟩; have h3 := hm'.at b; unfold needE; rw [if_neg (by rw [h1]; simp), if_neg h2]; exact h3
set_option maxHeartbeats 1000000 in
theorem qfield_spec {ws : List Wrd} (b : Nat) {ad : Option Addr} {n cap : Nat} (i : Nat) (e most : Int) (nm : List UInt8) (w : World) (hn : n = ws.length) (hx : ws.length ≤ 1000000000) (hl : Sr fW 4 ws (.slice ad n cap) w) (hab : 0 < ws.length → adB ad ≠ b) (hM : Mem w [qB b ad n cap i e]) : Ret Try.prog 20 #[.pointer (some ⟨b, 0, none⟩), vS nm, .int .i64 most] w (WrP b (.int .i64 (fldE ws i e nm most).2.2) (qO ad n cap (fldE ws i e nm most).1 (fldE ws i e nm most).2.1) w) := by
 refine Ret.enterM Try.func20 rfl Try.ntmps20 rfl ([qB b ad n cap i e]) ((fun x => x = b)) hM ?_
 refine wR <| LM.as rfl <| nB [(0, _), (1, _), (2, _)] <| LM.mv rfl <| LM.mv rfl ?_
 refine LM.cW (oc_call (enters_fn Try.func21 kr rfl) rfl) (fun w hm hc hg => qneed_spec b i e 1 nm w hn hx (hl.kp hc hab) hab (hm.pick _)) rfl (fun _ => rfl) ?_
 refine nA [(0, _), (2, _)] <| wpM.seq <| wR <| LM.mv rfl <| LM.nc rfl <| LM.val (ovf 3 rfl rfl rfl rfl) ?_
 refine LM.rd (oml rfl rfl rfl) ?_
 refine LM.val (ov_neq rfl rfl) <| nA [(0, _), (2, _), (15, _)] ?_
 refine wpM.condD rfl (fun h1 => ?_) (fun h1 => ?_)
 ·
  refine wR <| LM.as rfl <| nA [(6, _)] <| wpM.ret <| QM.then_ret ?_
  refine qL Try.results20 rfl fun w' hm' hc' hg' => ?_
  unfold fldE; rw [num_b h1]; exact ⟨rfl, hc', hm'.at b⟩
 have he0 : (needE ws i e 1 nm).2 = 0 := Classical.not_not.1 h1
 refine wpM.skip <| QM.then <| wpM.seq <| wpM.seq ?_
 refine wpM.draw [(0, 0), (1, 0), (2, 0), (3, 1), (4, 0), (5, 0), (6, 0), (7, 1), (8, 0), (9, 0), (10, 0), (11, 0), (12, 0), (13, 0), (14, 1), (15, 0), (16, 0), (17, 0), (18, 1), (19, 0), (20, 0), (21, 1), (22, 0), (23, 0)] kr kr ?_
 refine LD.val rfl rfl (ov_move rfl) <| LD.val rfl rfl (ov_nilCheck rfl) <| LD.val rfl rfl (ovf 3 rfl rfl rfl rfl) ?_
 refine LD.rd rfl rfl (oml rfl rfl rfl) ?_
 refine LD.val rfl rfl (ov_move rfl) <| LD.val rfl rfl (ov_nilCheck rfl) <| LD.val rfl rfl (ovf 49 rfl rfl rfl rfl) ?_
 refine LD.rd rfl rfl (oml rfl rfl rfl) ?_
 refine LD.val rfl rfl (ov_len Try.underlying49 rfl) ?_
 refine LD.val rfl rfl (ov_geq rfl rfl) ?_
 refine LD.val rfl rfl (ov_move rfl) ?_
 refine LD.splitD (t := 26) rfl (fun h2 => ?_) (fun h2 => ?_)
 ·
  refine LD.drop rfl rfl ⟨26, _, rfl, rfl, rfl⟩ <| LD.drop rfl rfl ⟨26, _, rfl, rfl, rfl⟩ <| LD.drop rfl rfl ⟨26, _, rfl, rfl, rfl⟩ <| LD.drop rfl rfl ⟨26, _, rfl, rfl, rfl⟩ <| LD.drop rfl rfl ⟨26, _, rfl, rfl, rfl⟩ <| LD.drop rfl rfl ⟨26, _, rfl, rfl, rfl⟩ <| LD.drop rfl rfl ⟨26, _, rfl, rfl, rfl⟩ <| LD.drop rfl rfl ⟨26, _, rfl, rfl, rfl⟩ <| LD.drop rfl rfl ⟨26, _, rfl, rfl, rfl⟩ <| LD.drop rfl rfl ⟨26, _, rfl, rfl, rfl⟩ <| LD.drop rfl rfl ⟨26, _, rfl, rfl, rfl⟩ <| LD.drop rfl rfl ⟨26, _, rfl, rfl, rfl⟩ ?_
  refine LD.val rfl rfl (ov_pickT rfl rfl) ?_
  refine LD.nil ?_
  refine QM.sub (e' := [(0, _), (2, _), (39, _)]) au9 (QM.then ?_)
  refine wpM.condT rfl ?_
  refine wR <| LM.mv rfl <| LM.nc rfl <| LM.val (ovf 3 rfl rfl rfl rfl) ?_
  refine LM.st Try.sizeOf3 rfl rfl rfl au5 rfl (fun _ => rfl) ?_
  refine LM.nil (QM.sub (e' := []) trivial (QM.then (wpM.seq (wpM.region ?_))))
  refine LM.as rfl <| nA [(6, _)] <| wpM.ret <| QM.then_ret ?_
  refine qL Try.results20 rfl fun w' hm' hc' hg' => ?_
  unfold fldE; rw [he0, num_c (by decide) (.inl om)]; exact ⟨rfl, hc', hm'.at b⟩
 refine LD.val rfl ⟨26, _, rfl, rfl, rfl⟩ (ov_move rfl) <| LD.val rfl ⟨26, _, rfl, rfl, rfl⟩ (ov_nilCheck rfl) <| LD.val rfl ⟨26, _, rfl, rfl, rfl⟩ (ovf 49 rfl rfl rfl rfl) ?_
 refine LD.rd rfl ⟨26, _, rfl, rfl, rfl⟩ (oml rfl rfl rfl) ?_
 refine LD.val rfl ⟨26, _, rfl, rfl, rfl⟩ (ov_move rfl) <| LD.val rfl ⟨26, _, rfl, rfl, rfl⟩ (ov_nilCheck rfl) <| LD.val rfl ⟨26, _, rfl, rfl, rfl⟩ (ovf 3 rfl rfl rfl rfl) ?_
 refine LD.rd rfl ⟨26, _, rfl, rfl, rfl⟩ (oml rfl rfl rfl) ?_
 refine LD.val rfl ⟨26, _, rfl, rfl, rfl⟩ (ov_idxSN au6 Try.underlying49 Try.sizeOf67 rfl rfl om) ?_
 refine LD.val rfl ⟨26, _, rfl, rfl, rfl⟩ (ovf 3 rfl rfl rfl rfl) ?_
 refine LD.rdC rfl ⟨26, _, rfl, rfl, rfl⟩ (om_srE (j := 0) asm Try.isAgg3 rfl rfl au3 (by rfl) (by rfl) (by exact hab om)) ?_
 refine LD.val rfl ⟨26, _, rfl, rfl, rfl⟩ (ov_neq rfl rfl) ?_
 refine LD.val rfl rfl (ov_pickF rfl rfl) ?_
 refine LD.nil ?_
 refine QM.sub (e' := [(0, _), (2, _), (39, _)]) au9 (QM.then ?_)
 refine wpM.condD rfl (fun h3 => ?_) (fun h3 => ?_)
 ·
  refine wR <| LM.mv rfl <| LM.nc rfl <| LM.val (ovf 3 rfl rfl rfl rfl) ?_
  refine LM.st Try.sizeOf3 rfl rfl rfl au5 rfl (fun _ => rfl) ?_
  refine LM.nil (QM.sub (e' := []) trivial (QM.then (wpM.seq (wpM.region ?_))))
  refine LM.as rfl <| nA [(6, _)] <| wpM.ret <| QM.then_ret ?_
  refine qL Try.results20 rfl fun w' hm' hc' hg' => ?_
  unfold fldE; rw [he0, num_c (by decide) (.inr h3)]; exact ⟨rfl, hc', hm'.at b⟩
 refine wpM.skip <| QM.then <| wpM.seq ?_
 refine wpM.draw [(0, 0), (1, 0), (2, 0), (3, 1), (4, 0), (5, 0), (6, 0), (7, 1), (8, 0), (9, 0), (10, 1), (11, 0)] kr kr ?_
 refine LD.val rfl rfl (ov_move rfl) <| LD.val rfl rfl (ov_nilCheck rfl) <| LD.val rfl rfl (ovf 49 rfl rfl rfl rfl) ?_
 refine LD.rd rfl rfl (oml rfl rfl rfl) ?_
 refine LD.val rfl rfl (ov_move rfl) <| LD.val rfl rfl (ov_nilCheck rfl) <| LD.val rfl rfl (ovf 3 rfl rfl rfl rfl) ?_
 refine LD.rd rfl rfl (oml rfl rfl rfl) ?_
 refine LD.val rfl rfl (ov_idxSN au6 Try.underlying49 Try.sizeOf67 rfl rfl om) ?_
 refine LD.val rfl rfl (ovf 3 rfl rfl rfl rfl) ?_
 refine LD.rdC rfl rfl (om_srE (j := 2) asm Try.isAgg3 rfl rfl au3 (by rfl) (by rfl) (by exact hab om)) ?_
 refine LD.val rfl rfl (ov_assign rfl) <| LD.nil ?_
 refine QM.sub (e' := [(0, _), (2, _), (7, _)]) au9 (QM.then ?_)
 refine wpM.seq <| wR <| LM.mv rfl <| LM.val (ov_lss rfl rfl) <| LM.mv rfl ?_
 refine LM.splitD (t := 56) rfl (fun h4 => ?_) (fun h4 => ?_)
 ·
  refine LM.dr 56 rfl rfl rfl <| LM.dr 56 rfl rfl rfl <| LM.dr 56 rfl rfl rfl <| LM.val (ov_pickT rfl rfl) <| nA [(0, _), (7, _), (60, _)] ?_
  refine wpM.condT rfl ?_
  refine wR <| LM.mv rfl <| LM.nc rfl <| LM.val (ovf 3 rfl rfl rfl rfl) ?_
  refine LM.st Try.sizeOf3 rfl rfl rfl au5 rfl (fun _ => rfl) ?_
  refine LM.nil (QM.sub (e' := []) trivial (QM.then (wpM.seq (wpM.region ?_))))
  refine LM.as rfl <| nA [(6, _)] <| wpM.ret <| QM.then_ret ?_
  refine qL Try.results20 rfl fun w' hm' hc' hg' => ?_
  unfold fldE; rw [he0, num_d (by decide) om (Classical.not_not.1 h3) (by unfold hasB; rw [if_neg (by decide), decide_eq_false om]; rfl)]; exact ⟨rfl, hc', hm'.at b⟩
 refine LM.sp 56 rfl rfl rfl <| LM.mv rfl <| LM.sp 56 rfl rfl rfl <| LM.mv rfl <| LM.sp 56 rfl rfl rfl <| LM.val (ov_gtr rfl rfl) <| LM.val (ov_pickF rfl rfl) <| nA [(0, _), (7, _), (60, _)] ?_
 refine wpM.condD rfl (fun h5 => ?_) (fun h5 => ?_)
 ·
  refine wR <| LM.mv rfl <| LM.nc rfl <| LM.val (ovf 3 rfl rfl rfl rfl) ?_
  refine LM.st Try.sizeOf3 rfl rfl rfl au5 rfl (fun _ => rfl) ?_
  refine LM.nil (QM.sub (e' := []) trivial (QM.then (wpM.seq (wpM.region ?_))))
  refine LM.as rfl <| nA [(6, _)] <| wpM.ret <| QM.then_ret ?_
  refine qL Try.results20 rfl fun w' hm' hc' hg' => ?_
  unfold fldE; rw [he0, num_d (by decide) om (Classical.not_not.1 h3) (by unfold hasB; rw [if_neg (by decide), decide_eq_true om, decide_eq_false om]; rfl)]; exact ⟨rfl, hc', hm'.at b⟩
 refine wpM.skip <| tR <| LM.mv rfl <| LM.nc rfl <| LM.val (ovf 3 rfl rfl rfl rfl) ?_
 refine LM.rd (oml rfl rfl rfl) ?_
 refine LM.val (ov_add64 rfl rfl om) ?_
 refine LM.nc rfl <| LM.val (ovf 3 rfl rfl rfl rfl) ?_
 refine LM.st Try.sizeOf3 rfl rfl rfl au5 rfl (fun _ => rfl) ?_
 refine nB [(7, _)] <| LM.mv rfl <| LM.as rfl <| nA [(6, _)] <| wpM.ret ?_
 refine qL Try.results20 rfl fun w' hm' hc' hg' => ?_
 unfold fldE; rw [he0, num_e (by decide) om (Classical.not_not.1 h3) (by unfold hasB; rw [if_neg (by decide), decide_eq_true om, decide_eq_true om]; rfl)]; exact ⟨rfl, hc', by have := hm'.at b; rw [he0] at this; exact this⟩
theorem qlong_spec {ws : List Wrd} (b : Nat) {ad : Option Addr} {n cap : Nat} (i : Nat) (e k most : Int) (w : World) (hM : Mem w [qB b ad n cap i e]) : Ret Try.prog 23 #[.pointer (some ⟨b, 0, none⟩), .int .i64 k, .int .i64 most] w (WrP b (.bool (decide (e ≠ 0) || decide (most ≤ k))) (qO ad n cap i (if e = 0 ∧ most ≤ k then 6 else e)) w) := by
 refine Ret.enterM Try.func23 rfl Try.ntmps23 rfl ([qB b ad n cap i e]) ((fun x => x = b)) hM ?_
 refine wR <| LM.as rfl <| nA [(0, _), (1, _), (2, _)] <| wpM.seq <| wR <| LM.mv rfl <| LM.nc rfl <| LM.val (ovf 3 rfl rfl rfl rfl) ?_
 refine LM.rd (oml rfl rfl rfl) ?_
 refine LM.val (ov_eql rfl rfl) <| LM.mv rfl ?_
 refine LM.splitD (t := 12) rfl (fun h1 => ?_) (fun h1 => ?_)
 ·
  refine LM.sp 12 rfl rfl rfl <| LM.mv rfl <| LM.sp 12 rfl rfl rfl <| LM.mv rfl <| LM.sp 12 rfl rfl rfl <| LM.val (ov_geq rfl rfl) <| LM.val (ov_pickT rfl rfl) <| nA [(0, _), (16, _)] ?_
  refine wpM.condD rfl (fun h2 => ?_) (fun h2 => ?_)
  ·
   refine wpM.region ?_
   refine LM.mv rfl <| LM.nc rfl <| LM.val (ovf 3 rfl rfl rfl rfl) ?_
   refine LM.st Try.sizeOf3 rfl rfl rfl au5 rfl (fun _ => rfl) ?_
   refine nB [(0, _)] <| LM.mv rfl <| LM.nc rfl <| LM.val (ovf 3 rfl rfl rfl rfl) ?_
   refine LM.rd (oml rfl rfl rfl) ?_
   refine LM.val (ov_neq rfl rfl) <| LM.as rfl <| nA [(6, _)] <| wpM.ret ?_
   refine qL Try.results23 rfl fun w' hm' hc' hg' => ?_
   refine ⟨?_, hc', ?_⟩; (rw [decide_eq_true (show most ≤ k from h2), Bool.or_true]; rfl); (rw [if_pos ⟨h1, h2⟩]; exact hm'.at b)
  refine wpM.skip <| tR <| LM.mv rfl <| LM.nc rfl <| LM.val (ovf 3 rfl rfl rfl rfl) ?_
  refine LM.rd (oml rfl rfl rfl) ?_
  refine LM.val (ov_neq rfl rfl) <| LM.as rfl <| nA [(6, _)] <| wpM.ret ?_
  refine qL Try.results23 rfl fun w' hm' hc' hg' => ?_
  refine ⟨?_, hc', ?_⟩; (rw [decide_eq_false (show ¬ most ≤ k from h2), Bool.or_false]; rfl); (rw [if_neg (fun q => h2 q.2)]; exact hm'.at b)
 refine LM.dr 12 rfl rfl rfl <| LM.dr 12 rfl rfl rfl <| LM.dr 12 rfl rfl rfl <| LM.val (ov_pickF rfl rfl) <| nA [(0, _), (16, _)] ?_
 refine wpM.condF rfl ?_
 refine wpM.skip <| tR <| LM.mv rfl <| LM.nc rfl <| LM.val (ovf 3 rfl rfl rfl rfl) ?_
 refine LM.rd (oml rfl rfl rfl) ?_
 refine LM.val (ov_neq rfl rfl) <| LM.as rfl <| nA [(6, _)] <| wpM.ret ?_
 refine qL Try.results23 rfl fun w' hm' hc' hg' => ?_
 refine ⟨?_, hc', ?_⟩; (rw [decide_eq_true (show e ≠ 0 from h1)]; rfl); (rw [if_neg (fun q => h1 q.1)]; exact hm'.at b)
set_option maxHeartbeats 1000000 in
theorem qlockT_spec {ws : List Wrd} (b : Nat) {ad : Option Addr} {n cap : Nat} (i : Nat) (e : Int) (w : World) (hn : n = ws.length) (hx : ws.length ≤ 1000000000) (hl : Sr fW 4 ws (.slice ad n cap) w) (hab : 0 < ws.length → adB ad ≠ b) (hM : Mem w [qB b ad n cap i e]) : Ret Try.prog 24 #[.pointer (some ⟨b, 0, none⟩), .bool true] w (WrP b (.agg (fL (lckE ws true i e).2.2).toArray) (qO ad n cap (lckE ws true i e).1 (lckE ws true i e).2.1) w) := by
 refine Ret.enterM Try.func24 rfl Try.ntmps24 rfl ([qB b ad n cap i e]) ((fun x => x = b)) hM ?_
 refine wR ?_
 refine LM.alloc Try.zeroValue78 rfl (fun b4 hb4 => ?_)
 refine nB [(0, _), (1, _), (4, _)] <| LM.mv rfl ?_
 refine LM.val (ov_build (cs := #[_, _, _, _, _]) rfl (by first | rfl | kernel_rfl)) ?_
 refine LM.alloc Try.zeroValue78 rfl (fun b5 hb5 => ?_)
 refine LM.stW Try.sizeOf78 rfl rfl rfl rfl au7 (fun hlt => by first | exact rfl | exact absurd hlt om) ?_
 refine nB [(0, _), (1, _), (4, _), (5, _)] <| LM.mv rfl ?_
 refine LM.cW (oc_call (enters_fn Try.func20 kr rfl) rfl) (fun w hm hc hg => qfield_spec b i e 16 wSlice w hn hx (hl.kp hc hab) hab (SubM.mem au1 w hm)) rfl (fun hlt => by first | exact rfl | exact absurd hlt om) ?_
 refine LM.val (ovf 3 rfl rfl rfl rfl) ?_
 refine LM.st Try.sizeOf3 rfl rfl rfl au5 rfl (fun hlt => by first | exact rfl | exact absurd hlt om) ?_
 refine nB [(0, _), (1, _), (4, _), (5, _)] <| LM.mv rfl ?_
 refine LM.cW (oc_call (enters_fn Try.func20 kr rfl) rfl) (fun w hm hc hg => qfield_spec b (lkA ws i e).1 (lkA ws i e).2.1 32 wCrit w hn hx (hl.kp hc hab) hab (SubM.mem au1 w hm)) rfl (fun hlt => by first | exact rfl | exact absurd hlt om) ?_
 refine LM.val (ovf 3 rfl rfl rfl rfl) ?_
 refine LM.st Try.sizeOf3 rfl rfl rfl au5 rfl (fun hlt => by first | exact rfl | exact absurd hlt om) ?_
 refine nA [(0, _), (1, _), (4, _), (5, _)] <| wpM.seq <| wR <| LM.mv rfl <| nA [(0, _), (4, _), (5, _), (14, _)] ?_
 refine wpM.condB rfl (fun h1 => ?_) (fun h1 => ?_)
 ·
  refine wR <| LM.mv rfl ?_
  refine LM.cW (oc_call (enters_fn Try.func20 kr rfl) rfl) (fun w hm hc hg => qfield_spec b (lkB ws i e).1 (lkB ws i e).2.1 16 wRead w hn hx (hl.kp hc hab) hab (SubM.mem au1 w hm)) rfl (fun hlt => by first | exact rfl | exact absurd hlt om) ?_
  refine LM.val (ovf 3 rfl rfl rfl rfl) ?_
  refine LM.st Try.sizeOf3 rfl rfl rfl au5 rfl (fun hlt => by first | exact rfl | exact absurd hlt om) ?_
  refine LM.nil (QM.sub (e' := [(0, _), (4, _), (5, _)]) au9 (QM.then (wpM.region ?_)))
  refine LM.mv rfl ?_
  refine LM.cW (oc_call (enters_fn Try.func20 kr rfl) rfl) (fun w hm hc hg => qfield_spec b (lkC ws true i e).1 (lkC ws true i e).2.1 16 wWrite w hn hx (hl.kp hc hab) hab (SubM.mem au1 w hm)) rfl (fun hlt => by first | exact rfl | exact absurd hlt om) ?_
  refine LM.val (ovf 3 rfl rfl rfl rfl) ?_
  refine LM.st Try.sizeOf3 rfl rfl rfl au5 rfl (fun hlt => by first | exact rfl | exact absurd hlt om) ?_
  refine nB [(0, _), (4, _), (5, _)] <| LM.mv rfl ?_
  refine LM.cW (oc_call (enters_fn Try.func21 kr rfl) rfl) (fun w hm hc hg => qneed_spec b (lkD ws true i e).1 (lkD ws true i e).2.1 3 [59] w hn hx (hl.kp hc hab) hab (SubM.mem au1 w hm)) rfl (fun hlt => by first | exact rfl | exact absurd hlt om) ?_
  refine nB [(4, _), (5, _)] ?_
  refine LM.rd (om_ldW Try.isAgg78 Try.sizeOf78 rfl rfl) ?_
  refine LM.stW Try.sizeOf78 rfl rfl rfl rfl au7 (fun hlt => by first | exact rfl | exact absurd hlt om) ?_
  refine nA [(4, _)] <| wpM.ret ?_
  refine QM.leaveCs (ds := ([])) (.inl rfl) [.cell 4 78] Try.results24 hd_nil (rc_w rfl Try.isAgg78 Try.sizeOf78 rfl rc_nil) ?_
  intro w' hm' hc'
  exact ⟨rfl, hc', hm'.at b⟩
 cases h1
set_option maxHeartbeats 1000000 in
theorem qlockF_spec {ws : List Wrd} (b : Nat) {ad : Option Addr} {n cap : Nat} (i : Nat) (e : Int) (w : World) (hn : n = ws.length) (hx : ws.length ≤ 1000000000) (hl : Sr fW 4 ws (.slice ad n cap) w) (hab : 0 < ws.length → adB ad ≠ b) (hM : Mem w [qB b ad n cap i e]) : Ret Try.prog 24 #[.pointer (some ⟨b, 0, none⟩), .bool false] w (WrP b (.agg (fL (lckE ws false i e).2.2).toArray) (qO ad n cap (lckE ws false i e).1 (lckE ws false i e).2.1) w) := by
 refine Ret.enterM Try.func24 rfl Try.ntmps24 rfl ([qB b ad n cap i e]) ((fun x => x = b)) hM ?_
 refine wR ?_
 refine LM.alloc Try.zeroValue78 rfl (fun b4 hb4 => ?_)
 refine nB [(0, _), (1, _), (4, _)] <| LM.mv rfl ?_
 refine LM.val (ov_build (cs := #[_, _, _, _, _]) rfl (by first | rfl | kernel_rfl)) ?_
 refine LM.alloc Try.zeroValue78 rfl (fun b5 hb5 => ?_)
 refine LM.stW Try.sizeOf78 rfl rfl rfl rfl au7 (fun hlt => by first | exact rfl | exact absurd hlt om) ?_
 refine nB [(0, _), (1, _), (4, _), (5, _)] <| LM.mv rfl ?_
 refine LM.cW (oc_call (enters_fn Try.func20 kr rfl) rfl) (fun w hm hc hg => qfield_spec b i e 16 wSlice w hn hx (hl.kp hc hab) hab (SubM.mem au1 w hm)) rfl (fun hlt => by first | exact rfl | exact absurd hlt om) ?_
 refine LM.val (ovf 3 rfl rfl rfl rfl) ?_
 refine LM.st Try.sizeOf3 rfl rfl rfl au5 rfl (fun hlt => by first | exact rfl | exact absurd hlt om) ?_
 refine nB [(0, _), (1, _), (4, _), (5, _)] <| LM.mv rfl ?_
 refine LM.cW (oc_call (enters_fn Try.func20 kr rfl) rfl) (fun w hm hc hg => qfield_spec b (lkA ws i e).1 (lkA ws i e).2.1 32 wCrit w hn hx (hl.kp hc hab) hab (SubM.mem au1 w hm)) rfl (fun hlt => by first | exact rfl | exact absurd hlt om) ?_
 refine LM.val (ovf 3 rfl rfl rfl rfl) ?_
 refine LM.st Try.sizeOf3 rfl rfl rfl au5 rfl (fun hlt => by first | exact rfl | exact absurd hlt om) ?_
 refine nA [(0, _), (1, _), (4, _), (5, _)] <| wpM.seq <| wR <| LM.mv rfl <| nA [(0, _), (4, _), (5, _), (14, _)] ?_
 refine wpM.condB rfl (fun h1 => ?_) (fun h1 => ?_)
 ·
  cases h1
 refine wpM.skip <| tR <| LM.mv rfl ?_
 refine LM.cW (oc_call (enters_fn Try.func21 kr rfl) rfl) (fun w hm hc hg => qneed_spec b (lkD ws false i e).1 (lkD ws false i e).2.1 3 [59] w hn hx (hl.kp hc hab) hab (SubM.mem au1 w hm)) rfl (fun hlt => by first | exact rfl | exact absurd hlt om) ?_
 refine nB [(4, _), (5, _)] ?_
 refine LM.rd (om_ldW Try.isAgg78 Try.sizeOf78 rfl rfl) ?_
 refine LM.stW Try.sizeOf78 rfl rfl rfl rfl au7 (fun hlt => by first | exact rfl | exact absurd hlt om) ?_
 refine nA [(4, _)] <| wpM.ret ?_
 refine QM.leaveCs (ds := ([])) (.inl rfl) [.cell 4 78] Try.results24 hd_nil (rc_w rfl Try.isAgg78 Try.sizeOf78 rfl rc_nil) ?_
 intro w' hm' hc'
 exact ⟨rfl, hc', hm'.at b⟩
theorem qlock_spec {ws : List Wrd} (sh : Bool) (b : Nat) {ad : Option Addr} {n cap : Nat} (i : Nat) (e : Int) (w : World) (hn : n = ws.length) (hx : ws.length ≤ 1000000000) (hl : Sr fW 4 ws (.slice ad n cap) w) (hab : 0 < ws.length → adB ad ≠ b) (hM : Mem w [qB b ad n cap i e]) :
    Ret Try.prog 24 #[.pointer (some ⟨b, 0, none⟩), .bool sh] w (WrP b (.agg (fL (lckE ws sh i e).2.2).toArray) (qO ad n cap (lckE ws sh i e).1 (lckE ws sh i e).2.1) w) := by
  cases sh
  · exact qlockF_spec b i e w hn hx hl hab hM
  · exact qlockT_spec b i e w hn hx hl hab hM
end Go.Eng
namespace Go.Eng
open Go Go.Proofs Go.RowKit Go.ChangeShapes Go.WideShapes
theorem rdb_api_Op : Rdb Try.prog 102 fO (fun a => (-9223372036854775808 ≤ a.k ∧ a.k ≤ 9223372036854775807) ∧ (-9223372036854775808 ≤ a.a ∧ a.a ≤ 9223372036854775807) ∧ (-9223372036854775808 ≤ a.b ∧ a.b ≤ 9223372036854775807)) := fun {H enc w base sp held fuel cs x} h => by
  obtain ⟨h1, h2⟩ := trod_fields Try.underlying102 h
  rw [show Try.prog.cellsOf 102 = 3 by kernel_rfl] at h1
  have c3 : Try.prog.cellsOf 3 = 1 := by kernel_rfl
  match cs, h1 with
  | [a0, a1, a2], _ =>
    simp only [List.forall_mem_cons, c3, List.drop_succ_cons, List.drop_zero, List.take_succ_cons, List.take_zero] at h2
    obtain ⟨⟨_, _, f0⟩, ⟨_, _, f1⟩, ⟨_, _, f2⟩, _⟩ := h2
    obtain ⟨m0, e0, _, w0⟩ := DataW.trod_int Try.underlying3 f0
    obtain ⟨m1, e1, _, w1⟩ := DataW.trod_int Try.underlying3 f1
    obtain ⟨m2, e2, _, w2⟩ := DataW.trod_int Try.underlying3 f2
    simp only [List.cons.injEq, and_true] at e0 e1 e2
    subst e0
    subst e1
    subst e2
    exact ⟨⟨m0, m1, m2⟩, rfl, ⟨bounds_i64 w0, bounds_i64 w1, bounds_i64 w2⟩⟩
theorem rdb_api_Lock : Rdb Try.prog 78 fL (fun a => (-9223372036854775808 ≤ a.sl ∧ a.sl ≤ 9223372036854775807) ∧ (-9223372036854775808 ≤ a.cr ∧ a.cr ≤ 9223372036854775807) ∧ (-9223372036854775808 ≤ a.rd ∧ a.rd ≤ 9223372036854775807) ∧ (-9223372036854775808 ≤ a.wr ∧ a.wr ≤ 9223372036854775807)) := fun {H enc w base sp held fuel cs x} h => by
  obtain ⟨h1, h2⟩ := trod_fields Try.underlying78 h
  rw [show Try.prog.cellsOf 78 = 5 by kernel_rfl] at h1
  have c3 : Try.prog.cellsOf 3 = 1 := by kernel_rfl
  have c4 : Try.prog.cellsOf 4 = 1 := by kernel_rfl
  match cs, h1 with
  | [a0, a1, a2, a3, a4], _ =>
    simp only [List.forall_mem_cons, c3, c4, List.drop_succ_cons, List.drop_zero, List.take_succ_cons, List.take_zero] at h2
    obtain ⟨⟨_, _, f0⟩, ⟨_, _, f1⟩, ⟨_, _, f2⟩, ⟨_, _, f3⟩, ⟨_, _, f4⟩, _⟩ := h2
    obtain ⟨m0, e0, _⟩ := DataW.trod_bool Try.underlying4 f0
    obtain ⟨m1, e1, _, w1⟩ := DataW.trod_int Try.underlying3 f1
    obtain ⟨m2, e2, _, w2⟩ := DataW.trod_int Try.underlying3 f2
    obtain ⟨m3, e3, _, w3⟩ := DataW.trod_int Try.underlying3 f3
    obtain ⟨m4, e4, _, w4⟩ := DataW.trod_int Try.underlying3 f4
    simp only [List.cons.injEq, and_true] at e0 e1 e2 e3 e4
    subst e0
    subst e1
    subst e2
    subst e3
    subst e4
    exact ⟨⟨m0, m1, m2, m3, m4⟩, rfl, ⟨bounds_i64 w1, bounds_i64 w2, bounds_i64 w3, bounds_i64 w4⟩⟩
theorem rdW_Prog (w : World) : RdW Try.prog w 45 fPg (fun p => p.In w) := fun {H enc base sp held fuel cs x} h => by
  obtain ⟨h1, h2⟩ := trod_fields Try.underlying45 h
  rw [show Try.prog.cellsOf 45 = 2 by kernel_rfl] at h1
  have c0 : Try.prog.cellsOf 4 = 1 := by kernel_rfl
  have c1 : Try.prog.cellsOf 43 = 1 := by kernel_rfl
  match cs, h1 with
  | [a0, a1], _ =>
    simp only [List.forall_mem_cons, c0, c1, List.drop_succ_cons, List.drop_zero, List.take_succ_cons, List.take_zero] at h2
    obtain ⟨⟨_, _, f0⟩, ⟨n1, y1, f1⟩, _⟩ := h2
    obtain ⟨m0, e0, _⟩ := DataW.trod_bool Try.underlying4 f0
    simp only [List.cons.injEq, and_true] at e0
    subst e0
    obtain ⟨xs, ad, cap, e1, h3, _, h4⟩ := rdW_sl (s := 3) Try.underlying43 (rdb_api_Op.at w) kr (by decide) (fun _ => rfl) f1
    simp only [List.cons.injEq, and_true] at e1
    subst e1
    exact ⟨⟨⟨m0, xs⟩, ad, xs.length, cap⟩, rfl, rfl, h3⟩
theorem rdW_Setup (w : World) : RdW Try.prog w 26 StV.cs (fun s => s.In w) := fun {H enc base sp held fuel cs x} h => by
  obtain ⟨h1, h2⟩ := trod_fields Try.underlying26 h
  rw [show Try.prog.cellsOf 26 = 5 by kernel_rfl] at h1
  have c0 : Try.prog.cellsOf 3 = 1 := by kernel_rfl
  have c1 : Try.prog.cellsOf 22 = 1 := by kernel_rfl
  have c2 : Try.prog.cellsOf 23 = 1 := by kernel_rfl
  have c3 : Try.prog.cellsOf 24 = 1 := by kernel_rfl
  match cs, h1 with
  | [a0, a1, a2, a3, a4], _ =>
    simp only [List.forall_mem_cons, c0, c1, c2, c3, List.drop_succ_cons, List.drop_zero, List.take_succ_cons, List.take_zero] at h2
    obtain ⟨⟨_, _, f0⟩, ⟨_, _, f1⟩, ⟨_, _, f2⟩, ⟨_, _, f3⟩, ⟨_, _, f4⟩, _⟩ := h2
    obtain ⟨m0, e0, _, _⟩ := DataW.trod_int Try.underlying3 f0
    obtain ⟨m1, e1, _, _⟩ := DataW.trod_int Try.underlying3 f1
    obtain ⟨gs, ga, gc, e2, h3, _, _⟩ := rdW_sl (s := 1) Try.underlying22 (Rdb.at (rdb_I Try.underlying3) w) kr (by decide) (fun _ => rfl) f2
    obtain ⟨ls, la, lc, e3, h4, _, _⟩ := rdW_sl (s := 5) Try.underlying23 (rdb_api_Lock.at w) kr (by decide) (fun _ => rfl) f3
    obtain ⟨ps, pa, pc, e4, h5, h6, _⟩ := rdW_sl (s := 2) Try.underlying24 (rdW_Prog w) kr (by decide) (fun _ => rfl) f4
    simp only [List.cons.injEq, and_true] at e0 e1 e2 e3 e4
    subst e0; subst e1; subst e2; subst e3; subst e4
    exact ⟨⟨m0, m1, gs, ga, gs.length, gc, ls, la, ls.length, lc, ps, pa, ps.length, pc⟩, rfl, ⟨rfl, h3, rfl, h4, rfl, h5, h6⟩⟩
theorem open_api_Setup {H : Type} {enc : TypeId × Value → H} {w : World} {base : Nat} {sp : Nat → Bool} {held : Bool} {r : Reach} {b0 : Nat} {v : Value} {d : DataW H} {ps : List MemPlace}
    (hval : Value.okWide Try.prog w r b0 26 v) (h : DataW.Trod enc Try.prog w base sp held 26 v d ps) : ∃ s : StV, v = s.val ∧ s.In w := by
  obtain ⟨s, h1, h2⟩ := open_aggW (rdW_Setup w) (.inr ⟨_, Try.underlying26⟩) hval h
  exact ⟨s, h1, h2⟩
end Go.Eng
namespace Go.Eng
open Go Go.RowKit
def debT : List Int := [0, 1, 56, 2, 57, 49, 28, 3, 61, 58, 42, 50, 38, 29, 17, 4, 62, 47, 59, 36, 45, 43, 51, 22, 53, 39, 33, 30, 24, 18, 12, 5, 63, 55, 48, 27, 60, 41, 37, 16, 46, 35, 44, 21, 52, 32, 23, 11, 54, 26, 40, 15, 34, 20, 31, 10, 25, 14, 19, 9, 13, 8, 7, 6]
/-! the members -/
/-! one number -/
def bitU (i : Int) : BitVec 64 := if i < 0 ∨ 63 < i then 0#64 else 1#64 <<< i.toNat
def sHas (s : BitVec 64) (i : Int) : Bool := decide (0 ≤ i) && (decide (i < 64) && s.getLsbD i.toNat)
theorem bitU_get (i : Int) (j : Nat) : (bitU i).getLsbD j = (decide ((j : Int) = i) && decide (j < 64)) := by
  unfold bitU
  split
  · rename_i h
    rw [BitVec.getLsbD_zero]
    by_cases hj : (j : Int) = i
    · rw [decide_eq_false (show ¬ j < 64 by omega)]; simp
    · rw [decide_eq_false hj]; rfl
  · rename_i h
    rw [BitVec.getLsbD_shiftLeft, BitVec.getLsbD_one]
    by_cases hj : (j : Int) = i
    · have : i.toNat = j := by omega
      subst hj
      simp [show j < 64 by omega]
    · rw [decide_eq_false hj]
      by_cases h1 : j < i.toNat
      · simp [h1]
      · have : ¬ j - i.toNat = 0 := by omega
        simp [this]
theorem has_bit (s : BitVec 64) (i : Int) : decide (s &&& bitU i ≠ 0#64) = sHas s i := by
  unfold sHas
  rw [Bool.eq_iff_iff]
  simp only [decide_eq_true_eq, Bool.and_eq_true]
  constructor
  · intro h
    have hi : 0 ≤ i ∧ i < 64 := by
      apply Classical.byContradiction; intro hn; apply h
      have : bitU i = 0#64 := by unfold bitU; rw [if_pos om]
      rw [this]; simp
    refine ⟨hi.1, hi.2, ?_⟩
    apply Classical.byContradiction; intro hb; apply h
    apply BitVec.eq_of_getLsbD_eq
    intro j hj
    rw [BitVec.getLsbD_and, bitU_get, BitVec.getLsbD_zero]
    by_cases e : (j : Int) = i
    · have : i.toNat = j := by omega
      rw [this] at hb; simp [hb]
    · rw [decide_eq_false e]; simp
  · rintro ⟨h1, h2, h3⟩ e
    have : (s &&& bitU i).getLsbD i.toNat = true := by
      rw [BitVec.getLsbD_and, h3, bitU_get, decide_eq_true (show ((i.toNat : Nat) : Int) = i by omega), decide_eq_true (show i.toNat < 64 by omega)]; rfl
    rw [e, BitVec.getLsbD_zero] at this; cases this
def withS (s : BitVec 64) (i : Int) : BitVec 64 := s ||| bitU i
def witho (s : BitVec 64) (i : Int) : BitVec 64 := s &&& ~~~(bitU i)
def sub6 (a b : BitVec 64) : Prop := a &&& ~~~b = 0#64
instance (a b : BitVec 64) : Decidable (sub6 a b) := inferInstanceAs (Decidable (_ = _))
/-! the document's -/
def Tab (w : World) : Prop := ∃ cs E fz, w.heap[0]? = some (.cells cs E fz) ∧ ∀ i, i < 64 → cs[i]? = some (.int .u8 (debT.getD i 0))
theorem Tab.ext {w w' : World} (h : Tab w) (k : Ext w w') : Tab w' := by obtain ⟨cs, E, fz, h1, h2⟩ := h; exact ⟨cs, E, fz, k.get h1, h2⟩
theorem Tab.keep {S : Nat → Prop} {w w' : World} (h : Tab w) (k : Chg S w w') (hS : ¬ S 0) : Tab w' := by obtain ⟨cs, E, fz, h1, h2⟩ := h; exact ⟨cs, E, fz, k.get h1 hS, h2⟩
theorem Tab.bk {n : Nat} {w w' : World} (h : Tab w) (k : Bk n w w') : Tab w' := by obtain ⟨cs, E, fz, h1, h2⟩ := h; exact ⟨cs, E, fz, k.same 0 _ h1 (.inr rfl), h2⟩
structure Mev where
  tm : BitVec 64
  k : Int
  t : Int
  l : Int
  n : Int
instance : Inhabited Mev := ⟨⟨0#64, 0, 0, 0, 0⟩⟩
structure Tkm where
  core : Int
  how : Int
  lock : Int
deriving Inhabited
structure Wom where
  now : BitVec 64
  ts : List Tkm
  rd : List (BitVec 64)
  wr : List (BitVec 64)
  sh : List Bool
  cores : Int
abbrev gTm (w : Wom) (i : Nat) : Tkm := w.ts.getD i default
abbrev gRd (w : Wom) (l : Nat) : BitVec 64 := w.rd.getD l 0#64
abbrev gWr (w : Wom) (l : Nat) : BitVec 64 := w.wr.getD l 0#64
def Wom.put (w : Wom) (i : Nat) (t : Tkm) : Wom := { w with ts := w.ts.set i t }
def hldM (w : Wom) (id : Int) (l : Nat) : Bool := sHas (gRd w l ||| gWr w l) id
def drpM (w : Wom) (id : Int) (l : Nat) : Wom := { w with rd := w.rd.set l (witho (gRd w l) id), wr := w.wr.set l (witho (gWr w l) id) }
def lckB (k : Int) : Bool := decide (k = 4) || (decide (k = 5) || (decide (k = 6) || (decide (k = 12) || decide (k = 8))))
def barB (k : Int) : Bool := decide (k = 5) || (decide (k = 6) || (decide (k = 12) || decide (k = 11)))
def fitB (w : Wom) (e : Mev) : Bool :=
  decide (w.now.toNat ≤ e.tm.toNat) && (if lckB e.k = true then (decide (0 ≤ e.l) && decide (e.l < w.sh.length)) || (decide (e.l = -1) && (decide (e.k = 8) && decide (e.n = 3))) else decide (e.l = -1)) && (decide (e.n = 0) || !barB e.k)
def idlB (w : Wom) (core : Int) : Bool := !w.ts.any (fun t => decide (t.how = 2) && decide (t.core = core))
def spwB (w : Wom) (e : Mev) : Bool := decide (e.t = w.ts.length) && (decide (e.t < 64) && (decide (0 ≤ e.n) && decide (e.n < w.cores)))
def spwM (w : Wom) (e : Mev) : Wom := if spwB w e = true then { w with ts := w.ts ++ [⟨e.n, 1, 0⟩] } else w
def trnB (t : Tkm) (fr : Int) (may : Bool) : Bool := decide (t.how = fr) && may
def trnT (t : Tkm) (fr to : Int) (may : Bool) : Tkm := if trnB t fr may = true then { t with how := to } else t
def wtsB (t : Tkm) (e : Mev) : Bool := decide (t.how = 4) && decide (t.lock = e.l)
def acqB (w : Wom) (t : Tkm) (e : Mev) : Bool :=
  (decide (t.how = 2) || wtsB t e) && (!hldM w e.t e.l.toNat && (decide (0 ≤ e.n) && (decide (e.n ≤ 3) && (decide (gWr w e.l.toNat = 0#64) && (if 2 ≤ e.n then w.sh.getD e.l.toNat false else decide (gRd w e.l.toNat = 0#64))))))
def acqW (w : Wom) (e : Mev) : Wom := if 2 ≤ e.n then { w with rd := w.rd.set e.l.toNat (withS (gRd w e.l.toNat) e.t) } else { w with wr := w.wr.set e.l.toNat (withS (gWr w e.l.toNat) e.t) }
def acqM (w : Wom) (i : Nat) (e : Mev) : Wom :=
  if acqB w (gTm w i) e = true then (if wtsB (gTm w i) e = true then (acqW w e).put i { gTm w i with how := 6 } else acqW w e) else w
def freB (w : Wom) (id : Int) : Bool := (List.range w.sh.length).all (fun l => !hldM w id l)
def lesB (w : Wom) (e : Mev) (may : Bool) : Bool := may && hldM w e.t e.l.toNat
def lesM (w : Wom) (e : Mev) (may : Bool) : Wom := if lesB w e may = true then drpM w e.t e.l.toNat else w
def blkH (w : Wom) (e : Mev) : Bool := decide (gRd w e.l.toNat ||| gWr w e.l.toNat ≠ 0#64) && !sHas (gRd w e.l.toNat ||| gWr w e.l.toNat) e.t
def blkB (w : Wom) (t : Tkm) (e : Mev) : Bool := trnB t 2 (blkH w e)
def blkM (w : Wom) (i : Nat) (e : Mev) : Wom := if blkB w (gTm w i) e = true then w.put i { gTm w i with how := 4, lock := e.l } else w
def errB (n : Int) : Bool := decide (n = 3) || (decide (n = 7) || (decide (n = 8) || decide (n = 9)))
def falB (t : Tkm) (e : Mev) : Bool := (decide (t.how = 2) && errB e.n) || trnB t 4 (decide (t.lock = e.l) && decide (e.n = 10))
def falT (t : Tkm) (e : Mev) : Tkm := if decide (t.how = 2) && errB e.n then t else trnT t 4 7 (decide (t.lock = e.l) && decide (e.n = 10))
def wakB (t : Tkm) (may : Bool) : Bool := (decide (t.how = 3) || (decide (t.how = 6) || decide (t.how = 7))) && may
def wakT (t : Tkm) (may : Bool) : Tkm := if wakB t may = true then { t with how := 1 } else t
def ofB (w : Wom) (i : Nat) (e : Mev) : Bool :=
  if e.k = 2 then trnB (gTm w i) 1 (decide (e.n = (gTm w i).core) && idlB w (gTm w i).core)
  else if e.k = 3 ∨ e.k = 10 then trnB (gTm w i) 2 (decide (e.n = (gTm w i).core))
  else if e.k = 4 then acqB w (gTm w i) e
  else if e.k = 5 then lesB w e (decide ((gTm w i).how = 2))
  else if e.k = 12 then lesB w e (decide ((gTm w i).how ≠ 5))
  else if e.k = 6 then blkB w (gTm w i) e
  else if e.k = 7 then wakB (gTm w i) (decide (e.n = (gTm w i).core))
  else if e.k = 8 then falB (gTm w i) e
  else if e.k = 9 then trnB (gTm w i) 2 (decide (1 ≤ e.n) && decide (e.n ≤ 64))
  else if e.k = 14 then trnB (gTm w i) 2 (decide (1 ≤ e.n) && decide (e.n ≤ 16))
  else if e.k = 11 then decide ((gTm w i).how ≠ 5) && freB w e.t
  else if e.k = 13 then trnB (gTm w i) 1 (decide (e.n ≠ (gTm w i).core) && (decide (0 ≤ e.n) && decide (e.n < w.cores)))
  else false
def ofM (w : Wom) (i : Nat) (e : Mev) : Wom :=
  if e.k = 2 then w.put i (trnT (gTm w i) 1 2 (decide (e.n = (gTm w i).core) && idlB w (gTm w i).core))
  else if e.k = 3 ∨ e.k = 10 then w.put i (trnT (gTm w i) 2 1 (decide (e.n = (gTm w i).core)))
  else if e.k = 4 then acqM w i e
  else if e.k = 5 then lesM w e (decide ((gTm w i).how = 2))
  else if e.k = 12 then lesM w e (decide ((gTm w i).how ≠ 5))
  else if e.k = 6 then blkM w i e
  else if e.k = 7 then w.put i (wakT (gTm w i) (decide (e.n = (gTm w i).core)))
  else if e.k = 8 then w.put i (falT (gTm w i) e)
  else if e.k = 9 then w.put i (trnT (gTm w i) 2 3 (decide (1 ≤ e.n) && decide (e.n ≤ 64)))
  else if e.k = 14 then w.put i (trnT (gTm w i) 2 2 (decide (1 ≤ e.n) && decide (e.n ≤ 16)))
  else if e.k = 11 then (if ofB w i e = true then w.put i { gTm w i with how := 5 } else w)
  else if e.k = 13 then (if ofB w i e = true then w.put i { gTm w i with core := e.n } else w)
  else w
def nxtB (w : Wom) (e : Mev) : Bool :=
  fitB w e && (if e.k = 1 then spwB w e else decide (0 ≤ e.t) && (decide (e.t < w.ts.length) && ofB { w with now := e.tm } e.t.toNat e))
def nxtM (w : Wom) (e : Mev) : Wom :=
  if fitB w e = false then w else if e.k = 1 then spwM { w with now := e.tm } e else if e.t < 0 ∨ (w.ts.length : Int) ≤ e.t then w else ofM { w with now := e.tm } e.t.toNat e
/-! event by event -/
def staM (w : Wom) (l : List Mev) : Nat → Wom
  | 0 => w
  | i + 1 => nxtM (staM w l i) (l.getD i default)
def okM (w : Wom) (l : List Mev) (i : Nat) : Bool := nxtB (staM w l i) (l.getD i default)
def chkN (w : Wom) (l : List Mev) : Nat := (List.range l.length).findIdx (fun i => !okM w l i)
theorem chkN_eq {w : Wom} {l : List Mev} {i : Nat} (h : ∀ j, j < i → okM w l j = true) (hi : i = l.length ∨ (i < l.length ∧ okM w l i = false)) : chkN w l = i := by
  unfold chkN
  rcases hi with rfl | ⟨hl, hb⟩
  · have : (List.range l.length).findIdx (fun i => !okM w l i) = (List.range l.length).length := List.findIdx_eq_length.2 (fun x hx => by
      have := h x (List.mem_range.1 hx); simp [this])
    rw [this, List.length_range]
  · refine (List.findIdx_eq (by rw [List.length_range]; exact hl)).2 ⟨?_, fun j hj => ?_⟩
    · rw [List.getElem_range]; simp [hb]
    · rw [List.getElem_range]; simp [h j hj]
theorem chkN_le (w : Wom) (l : List Mev) : chkN w l ≤ l.length := by
  have := List.findIdx_le_length (p := fun i => !okM w l i) (xs := List.range l.length)
  rw [List.length_range] at this; exact this
theorem chkN_ok {w : Wom} {l : List Mev} {j : Nat} (h : j < chkN w l) : okM w l j = true := by
  have hl := chkN_le w l
  have := List.not_of_lt_findIdx (p := fun i => !okM w l i) (xs := List.range l.length) (i := j) h
  rw [List.getElem_range] at this
  simpa using this
theorem gd_take {α : Type} [Inhabited α] {l : List α} {m j : Nat} (h : j < m) : (l.take m).getD j default = l.getD j default := by
  rw [List.getD_eq_getElem?_getD, List.getD_eq_getElem?_getD, List.getElem?_take, if_pos h]
theorem staM_take {w : Wom} {l : List Mev} {m : Nat} : ∀ {j : Nat}, j ≤ m → staM w (l.take m) j = staM w l j
  | 0, _ => rfl
  | j + 1, h => by
    show nxtM (staM w (l.take m) j) _ = nxtM (staM w l j) _
    rw [staM_take om, gd_take om]
theorem chk_heads {w : Wom} {l : List Mev} {m : Nat} (h : m ≤ chkN w l) : chkN w (l.take m) = m := by
  have hl := chkN_le w l
  have e : (l.take m).length = m := by rw [List.length_take]; omega
  refine chkN_eq (fun j hj => ?_) (.inl e.symm)
  show nxtB (staM w (l.take m) j) _ = true
  rw [staM_take om, gd_take hj]
  exact chkN_ok om
end Go.Eng
