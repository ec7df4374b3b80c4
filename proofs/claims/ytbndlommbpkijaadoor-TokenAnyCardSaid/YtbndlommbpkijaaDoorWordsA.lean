/- The walks of the document's scanner. No condition. -/
import Derived.Test.YtbndlommbpkijaaDoorWordLaw
import Derived.Test.YtbndlommbpkijaaDoorRows
set_option linter.unusedVariables false
set_option linter.unusedSimpArgs false
namespace Go.Eng
open Go Go.Proofs Go.RowKit

set_option maxRecDepth 100000 in
theorem letter_spec (n : Int) (w : World) : Ret Tryd.prog 84 #[.int .u8 n] w (fun v w' => v = .bool (letN n) ∧ Ext w w') := by
 refine Ret.enterM (l := [.int .u8 n]) Tryd.func84 rfl Tryd.ntmps84 rfl ([]) (no) (Mem.nil w) ?_
 refine wpM.seq ?_
 refine wpM.region ?_
 refine LM.val (ov_assign rfl) ?_
 refine LM.nil ?_
 refine QM.sub (e' := [(0, _)]) ⟨rfl, trivial⟩ ?_
 refine QM.then ?_
 refine wpM.seq ?_
 refine wpM.region ?_
 refine LM.val (ov_move rfl) ?_
 refine LM.val (ov_geq rfl rfl) ?_
 refine LM.val (ov_move rfl) ?_
 first | refine LM.splitD (t := 5) rfl (fun h1 => ?_) (fun h1 => ?_) | refine LM.splitB (t := 5) rfl (fun h1 => ?_) (fun h1 => ?_)
 ·
  refine LM.strip (t := 5) rfl rfl rfl ?_
  refine LM.val (ov_move rfl) ?_
  refine LM.strip (t := 5) rfl rfl rfl ?_
  refine LM.val (ov_leq rfl rfl) ?_
  refine LM.val (ov_pickT rfl rfl) ?_
  refine LM.val (ov_assign rfl) ?_
  refine LM.nil ?_
  refine QM.sub (e' := [(2, _)]) ⟨rfl, trivial⟩ ?_
  refine QM.then ?_
  refine wpM.ret ?_
  refine QM.leave (.inl rfl) [.tmp 2] Tryd.results84 rfl ?_
  intro w' hm' hc' hg'
  refine ⟨?_, hc'⟩; simp only [resV, letN]; congr 1; first | (rw [decide_eq_false (show ¬ 97 ≤ n by omega)]; rfl) | (rw [decide_eq_true (show 97 ≤ n by omega)]; rfl)
 ·
  refine LM.drop (t := 5) rfl rfl rfl ?_
  refine LM.drop (t := 5) rfl rfl rfl ?_
  refine LM.val (ov_pickF rfl rfl) ?_
  refine LM.val (ov_assign rfl) ?_
  refine LM.nil ?_
  refine QM.sub (e' := [(2, _)]) ⟨rfl, trivial⟩ ?_
  refine QM.then ?_
  refine wpM.ret ?_
  refine QM.leave (.inl rfl) [.tmp 2] Tryd.results84 rfl ?_
  intro w' hm' hc' hg'
  refine ⟨?_, hc'⟩; simp only [resV, letN]; congr 1; first | (rw [decide_eq_false (show ¬ 97 ≤ n by omega)]; rfl) | (rw [decide_eq_true (show 97 ≤ n by omega)]; rfl)

set_option maxRecDepth 100000 in
theorem digit_spec (n : Int) (w : World) : Ret Tryd.prog 85 #[.int .u8 n] w (fun v w' => v = .bool (digN n) ∧ Ext w w') := by
 refine Ret.enterM (l := [.int .u8 n]) Tryd.func85 rfl Tryd.ntmps85 rfl ([]) (no) (Mem.nil w) ?_
 refine wpM.seq ?_
 refine wpM.region ?_
 refine LM.val (ov_assign rfl) ?_
 refine LM.nil ?_
 refine QM.sub (e' := [(0, _)]) ⟨rfl, trivial⟩ ?_
 refine QM.then ?_
 refine wpM.seq ?_
 refine wpM.region ?_
 refine LM.val (ov_move rfl) ?_
 refine LM.val (ov_geq rfl rfl) ?_
 refine LM.val (ov_move rfl) ?_
 first | refine LM.splitD (t := 5) rfl (fun h1 => ?_) (fun h1 => ?_) | refine LM.splitB (t := 5) rfl (fun h1 => ?_) (fun h1 => ?_)
 ·
  refine LM.strip (t := 5) rfl rfl rfl ?_
  refine LM.val (ov_move rfl) ?_
  refine LM.strip (t := 5) rfl rfl rfl ?_
  refine LM.val (ov_leq rfl rfl) ?_
  refine LM.val (ov_pickT rfl rfl) ?_
  refine LM.val (ov_assign rfl) ?_
  refine LM.nil ?_
  refine QM.sub (e' := [(2, _)]) ⟨rfl, trivial⟩ ?_
  refine QM.then ?_
  refine wpM.ret ?_
  refine QM.leave (.inl rfl) [.tmp 2] Tryd.results85 rfl ?_
  intro w' hm' hc' hg'
  refine ⟨?_, hc'⟩; simp only [resV, digN]; congr 1; first | (rw [decide_eq_false (show ¬ 48 ≤ n by omega)]; rfl) | (rw [decide_eq_true (show 48 ≤ n by omega)]; rfl)
 ·
  refine LM.drop (t := 5) rfl rfl rfl ?_
  refine LM.drop (t := 5) rfl rfl rfl ?_
  refine LM.val (ov_pickF rfl rfl) ?_
  refine LM.val (ov_assign rfl) ?_
  refine LM.nil ?_
  refine QM.sub (e' := [(2, _)]) ⟨rfl, trivial⟩ ?_
  refine QM.then ?_
  refine wpM.ret ?_
  refine QM.leave (.inl rfl) [.tmp 2] Tryd.results85 rfl ?_
  intro w' hm' hc' hg'
  refine ⟨?_, hc'⟩; simp only [resV, digN]; congr 1; first | (rw [decide_eq_false (show ¬ 48 ≤ n by omega)]; rfl) | (rw [decide_eq_true (show 48 ≤ n by omega)]; rfl)

set_option maxRecDepth 100000 in
theorem mark_spec (n : Int) (w : World) : Ret Tryd.prog 86 #[.int .u8 n] w (fun v w' => v = .bool (markN n) ∧ Ext w w') := by
 refine Ret.enterM (l := [.int .u8 n]) Tryd.func86 rfl Tryd.ntmps86 rfl ([]) (no) (Mem.nil w) ?_
 refine wpM.seq ?_
 refine wpM.region ?_
 refine LM.val (ov_assign rfl) ?_
 refine LM.nil ?_
 refine QM.sub (e' := [(0, _)]) ⟨rfl, trivial⟩ ?_
 refine QM.then ?_
 refine wpM.seq ?_
 refine wpM.region ?_
 refine LM.val (ov_move rfl) ?_
 refine LM.val (ov_eql rfl rfl) ?_
 refine LM.val (ov_move rfl) ?_
 first | refine LM.splitD (t := 5) rfl (fun h1 => ?_) (fun h1 => ?_) | refine LM.splitB (t := 5) rfl (fun h1 => ?_) (fun h1 => ?_)
 ·
  refine LM.drop (t := 5) rfl rfl rfl ?_
  refine LM.drop (t := 5) rfl rfl rfl ?_
  refine LM.val (ov_pickT rfl rfl) ?_
  refine LM.val (ov_move rfl) ?_
  refine LM.drop (t := 9) rfl rfl rfl ?_
  refine LM.drop (t := 9) rfl rfl rfl ?_
  refine LM.val (ov_pickT rfl rfl) ?_
  refine LM.val (ov_move rfl) ?_
  refine LM.drop (t := 13) rfl rfl rfl ?_
  refine LM.drop (t := 13) rfl rfl rfl ?_
  refine LM.val (ov_pickT rfl rfl) ?_
  refine LM.val (ov_move rfl) ?_
  refine LM.drop (t := 17) rfl rfl rfl ?_
  refine LM.drop (t := 17) rfl rfl rfl ?_
  refine LM.val (ov_pickT rfl rfl) ?_
  refine LM.val (ov_assign rfl) ?_
  refine LM.nil ?_
  refine QM.sub (e' := [(2, _)]) ⟨rfl, trivial⟩ ?_
  refine QM.then ?_
  refine wpM.ret ?_
  refine QM.leave (.inl rfl) [.tmp 2] Tryd.results86 rfl ?_
  intro w' hm' hc' hg'
  refine ⟨?_, hc'⟩; simp only [resV, markN]; simp only [h1, decide_true, decide_false, Bool.true_and, Bool.false_and, Bool.and_true, Bool.and_false, Bool.not_true, Bool.not_false, Bool.true_or, Bool.false_or, Bool.or_true, Bool.or_false, ne_eq, not_true_eq_false, not_false_eq_true, Bool.and_self]
 ·
  refine LM.strip (t := 5) rfl rfl rfl ?_
  refine LM.val (ov_move rfl) ?_
  refine LM.strip (t := 5) rfl rfl rfl ?_
  refine LM.val (ov_eql rfl rfl) ?_
  refine LM.val (ov_pickF rfl rfl) ?_
  refine LM.val (ov_move rfl) ?_
  first | refine LM.splitD (t := 9) rfl (fun h2 => ?_) (fun h2 => ?_) | refine LM.splitB (t := 9) rfl (fun h2 => ?_) (fun h2 => ?_)
  ·
   refine LM.drop (t := 9) rfl rfl rfl ?_
   refine LM.drop (t := 9) rfl rfl rfl ?_
   refine LM.val (ov_pickT rfl rfl) ?_
   refine LM.val (ov_move rfl) ?_
   refine LM.drop (t := 13) rfl rfl rfl ?_
   refine LM.drop (t := 13) rfl rfl rfl ?_
   refine LM.val (ov_pickT rfl rfl) ?_
   refine LM.val (ov_move rfl) ?_
   refine LM.drop (t := 17) rfl rfl rfl ?_
   refine LM.drop (t := 17) rfl rfl rfl ?_
   refine LM.val (ov_pickT rfl rfl) ?_
   refine LM.val (ov_assign rfl) ?_
   refine LM.nil ?_
   refine QM.sub (e' := [(2, _)]) ⟨rfl, trivial⟩ ?_
   refine QM.then ?_
   refine wpM.ret ?_
   refine QM.leave (.inl rfl) [.tmp 2] Tryd.results86 rfl ?_
   intro w' hm' hc' hg'
   refine ⟨?_, hc'⟩; simp only [resV, markN]; simp only [h1, h2, decide_true, decide_false, Bool.true_and, Bool.false_and, Bool.and_true, Bool.and_false, Bool.not_true, Bool.not_false, Bool.true_or, Bool.false_or, Bool.or_true, Bool.or_false, ne_eq, not_true_eq_false, not_false_eq_true, Bool.and_self]
  ·
   refine LM.strip (t := 9) rfl rfl rfl ?_
   refine LM.val (ov_move rfl) ?_
   refine LM.strip (t := 9) rfl rfl rfl ?_
   refine LM.val (ov_eql rfl rfl) ?_
   refine LM.val (ov_pickF rfl rfl) ?_
   refine LM.val (ov_move rfl) ?_
   first | refine LM.splitD (t := 13) rfl (fun h3 => ?_) (fun h3 => ?_) | refine LM.splitB (t := 13) rfl (fun h3 => ?_) (fun h3 => ?_)
   ·
    refine LM.drop (t := 13) rfl rfl rfl ?_
    refine LM.drop (t := 13) rfl rfl rfl ?_
    refine LM.val (ov_pickT rfl rfl) ?_
    refine LM.val (ov_move rfl) ?_
    refine LM.drop (t := 17) rfl rfl rfl ?_
    refine LM.drop (t := 17) rfl rfl rfl ?_
    refine LM.val (ov_pickT rfl rfl) ?_
    refine LM.val (ov_assign rfl) ?_
    refine LM.nil ?_
    refine QM.sub (e' := [(2, _)]) ⟨rfl, trivial⟩ ?_
    refine QM.then ?_
    refine wpM.ret ?_
    refine QM.leave (.inl rfl) [.tmp 2] Tryd.results86 rfl ?_
    intro w' hm' hc' hg'
    refine ⟨?_, hc'⟩; simp only [resV, markN]; simp only [h1, h2, h3, decide_true, decide_false, Bool.true_and, Bool.false_and, Bool.and_true, Bool.and_false, Bool.not_true, Bool.not_false, Bool.true_or, Bool.false_or, Bool.or_true, Bool.or_false, ne_eq, not_true_eq_false, not_false_eq_true, Bool.and_self]
   ·
    refine LM.strip (t := 13) rfl rfl rfl ?_
    refine LM.val (ov_move rfl) ?_
    refine LM.strip (t := 13) rfl rfl rfl ?_
    refine LM.val (ov_eql rfl rfl) ?_
    refine LM.val (ov_pickF rfl rfl) ?_
    refine LM.val (ov_move rfl) ?_
    first | refine LM.splitD (t := 17) rfl (fun h4 => ?_) (fun h4 => ?_) | refine LM.splitB (t := 17) rfl (fun h4 => ?_) (fun h4 => ?_)
    ·
     refine LM.drop (t := 17) rfl rfl rfl ?_
     refine LM.drop (t := 17) rfl rfl rfl ?_
     refine LM.val (ov_pickT rfl rfl) ?_
     refine LM.val (ov_assign rfl) ?_
     refine LM.nil ?_
     refine QM.sub (e' := [(2, _)]) ⟨rfl, trivial⟩ ?_
     refine QM.then ?_
     refine wpM.ret ?_
     refine QM.leave (.inl rfl) [.tmp 2] Tryd.results86 rfl ?_
     intro w' hm' hc' hg'
     refine ⟨?_, hc'⟩; simp only [resV, markN]; simp only [h1, h2, h3, h4, decide_true, decide_false, Bool.true_and, Bool.false_and, Bool.and_true, Bool.and_false, Bool.not_true, Bool.not_false, Bool.true_or, Bool.false_or, Bool.or_true, Bool.or_false, ne_eq, not_true_eq_false, not_false_eq_true, Bool.and_self]
    ·
     refine LM.strip (t := 17) rfl rfl rfl ?_
     refine LM.val (ov_move rfl) ?_
     refine LM.strip (t := 17) rfl rfl rfl ?_
     refine LM.val (ov_eql rfl rfl) ?_
     refine LM.val (ov_pickF rfl rfl) ?_
     refine LM.val (ov_assign rfl) ?_
     refine LM.nil ?_
     refine QM.sub (e' := [(2, _)]) ⟨rfl, trivial⟩ ?_
     refine QM.then ?_
     refine wpM.ret ?_
     refine QM.leave (.inl rfl) [.tmp 2] Tryd.results86 rfl ?_
     intro w' hm' hc' hg'
     refine ⟨?_, hc'⟩; simp only [resV, markN]; simp only [h1, h2, h3, h4, decide_true, decide_false, Bool.true_and, Bool.false_and, Bool.and_true, Bool.and_false, Bool.not_true, Bool.not_false, Bool.true_or, Bool.false_or, Bool.or_true, Bool.or_false, ne_eq, not_true_eq_false, not_false_eq_true, Bool.and_self]

def oneV (r : Wrd × Nat × Bool) : Value := .tuple #[.agg (fW r.1).toArray, .int .i64 (r.2.1 : Nat), .bool r.2.2]
theorem one_let {s : List UInt8} {i j : Nat} (h : letB (s.getD i 0) = true) (hj : j = i + runL letB s i) : oneV (oneO s i) = .tuple #[.agg #[.int .i64 1, vS ((s.drop i).take (j - i)), .int .i64 0, .int .i64 (i : Nat)], .int .i64 (j : Nat), .bool (decide ((j : Int) - (i : Nat) ≤ 12))] := by
  unfold oneO; rw [if_pos h]
  unfold oneV fW
  simp only
  rw [show j - i = runL letB s i by omega, ← hj, show decide (runL letB s i ≤ 12) = decide ((j : Int) - (i : Nat) ≤ 12) from decide_eq_decide.2 (by omega)]
theorem one_dig {s : List UInt8} {i j : Nat} {n : Int} {b : Bool} (h1 : letB (s.getD i 0) = false) (h : digB (s.getD i 0) = true) (hj : j = i + runL digB s i) (hn : numF 9 (s.drop i) 0 = n) (hb : b = (decide ((j : Int) - (i : Nat) ≤ 9) && (decide ((((s.getD i 0).toNat : Nat) : Int) ≠ 48) || decide ((j : Int) = (i : Nat) + 1)))) : oneV (oneO s i) = .tuple #[.agg #[.int .i64 2, vS [], .int .i64 n, .int .i64 (i : Nat)], .int .i64 (j : Nat), .bool b] := by
  unfold oneO; rw [if_neg (by rw [h1]; simp), if_pos h]
  unfold oneV fW
  simp only
  rw [hn, ← hj, hb, show decide (runL digB s i ≤ 9) = decide ((j : Int) - (i : Nat) ≤ 9) from decide_eq_decide.2 (by omega), show decide (runL digB s i = 1) = decide ((j : Int) = (i : Nat) + 1) from decide_eq_decide.2 (by omega)]
theorem one_mark {s : List UInt8} {i : Nat} (h1 : letB (s.getD i 0) = false) (h : digB (s.getD i 0) = false) : oneV (oneO s i) = .tuple #[.agg #[.int .i64 3, vS ((s.drop i).take (i + 1 - i)), .int .i64 0, .int .i64 (i : Nat)], .int .i64 ((i + 1 : Nat)), .bool (markB (s.getD i 0))] := by
  unfold oneO; rw [if_neg (by rw [h1]; simp), if_neg (by rw [h]; simp), show i + 1 - i = 1 by omega]; rfl
theorem dig_rng {c : UInt8} (h : digB c = true) : 48 ≤ ((c.toNat : Nat) : Int) ∧ ((c.toNat : Nat) : Int) ≤ 57 := by
  unfold digB digN at h; simp only [Bool.and_eq_true, decide_eq_true_eq] at h; exact h
theorem p10_lt {k : Nat} (h : k < 9) : 10 ^ k ≤ 100000000 := Nat.le_trans (Nat.pow_le_pow_right (by decide) (show k ≤ 8 by omega)) (by decide)
set_option maxRecDepth 100000 in
set_option maxHeartbeats 1000000 in
theorem one_spec9 {s : List UInt8} (i : Nat) (w : World) (hi : i < s.length) (hx : s.length ≤ 9223372036854775807) : Ret Tryd.prog 45 #[vS s, .int .i64 (i : Nat)] w (fun v w' => v = oneV (oneO s i) ∧ Ext w w') := by
 refine Ret.enterM (l := [vS s, .int .i64 (i : Nat)]) Tryd.func45 rfl Tryd.ntmps45 rfl ([]) (no) (Mem.nil w) ?_
 refine wpM.seq ?_
 refine wpM.region ?_
 refine LM.alloc Tryd.zeroValue80 rfl (fun b4 hb4 => ?_)
 refine LM.val (ov_assign rfl) ?_
 refine LM.val (ov_assign rfl) ?_
 refine LM.nil ?_
 refine QM.sub (e' := [(0, _), (1, _), (4, _)]) ⟨rfl, rfl, rfl, trivial⟩ ?_
 refine QM.then ?_
 refine wpM.seq ?_
 refine wpM.region ?_
 refine LM.val (ov_move rfl) ?_
 refine LM.val (ov_assign rfl) ?_
 refine LM.nil ?_
 refine QM.sub (e' := [(0, _), (1, _), (4, _), (7, _)]) ⟨rfl, rfl, rfl, rfl, trivial⟩ ?_
 refine QM.then ?_
 refine wpM.seq ?_
 refine wpM.seq ?_
 refine wpM.region ?_
 refine LM.val (ov_move rfl) ?_
 refine LM.val (ov_move rfl) ?_
 first | refine LM.val (ov_sidxN Tryd.underlying9 rfl rfl (by omega)) ?_ | refine LM.val (ov_sidxL Tryd.underlying9 rfl rfl (by omega)) ?_
 refine LM.callE (oc_call (enters_fn Tryd.func84 (by kernel_rfl) rfl) rfl) (fun w hm hc hg => letter_spec _ w) ?_
 refine LM.nil ?_
 refine QM.sub (e' := [(0, _), (1, _), (4, _), (7, _), (13, _)]) ⟨rfl, rfl, rfl, rfl, rfl, trivial⟩ ?_
 refine QM.then ?_
 first | refine wpM.condD rfl (fun h1 => ?_) (fun h1 => ?_) | refine wpM.condB rfl (fun h1 => ?_) (fun h1 => ?_)
 ·
  refine wpM.seq ?_
  refine wpM.block ?_
  refine wpM.loopK0 (α := Nat) (fun j => [(7, .int .i64 (j : Nat))]) [(0, _), (1, _), (4, _)] (fun j => (b4, .cells #[.int .i64 0, .string (bs []), .int .i64 0, .int .i64 0] 80 (0, 0)) :: []) (fun j => i ≤ j ∧ j ≤ s.length ∧ i + runL letB s i = j + runL letB s j) (fun j => s.length - j) (i) ⟨(by first | rfl | exact lk rfl (by congr 1; omega) | exact lk rfl (by simp)), rfl, rfl, rfl, trivial⟩ (by (repeat' (first | exact SubM.nil _ | refine SubM.cons rfl ?_ | refine SubM.app ?_))) ⟨Nat.le_refl _, by omega, rfl⟩ ?_
  rintro j ⟨hij, hjl, hr⟩
  change wpM _ _ _ _ _ _ _ ((b4, .cells #[.int .i64 0, .string (bs []), .int .i64 0, .int .i64 0] 80 (0, 0)) :: []) _ _ _
  refine wpM.seq ?_
  refine wpM.seq ?_
  refine wpM.region ?_
  refine LM.val (ov_move rfl) ?_
  refine LM.val (ov_move rfl) ?_
  refine LM.val (ov_slenL Tryd.underlying9 rfl) ?_
  refine LM.val (ov_lss rfl rfl) ?_
  refine LM.val (ov_move rfl) ?_
  first | refine LM.splitD (t := 18) rfl (fun h2 => ?_) (fun h2 => ?_) | refine LM.splitB (t := 18) rfl (fun h2 => ?_) (fun h2 => ?_)
  ·
   refine LM.strip (t := 18) rfl rfl rfl ?_
   refine LM.val (ov_move rfl) ?_
   refine LM.strip (t := 18) rfl rfl rfl ?_
   refine LM.val (ov_move rfl) ?_
   refine LM.strip (t := 18) rfl rfl rfl ?_
   first | refine LM.val (ov_sidxN Tryd.underlying9 rfl rfl (by omega)) ?_ | refine LM.val (ov_sidxL Tryd.underlying9 rfl rfl (by omega)) ?_
   refine LM.strip (t := 18) rfl rfl rfl ?_
   refine LM.callE (oc_call (enters_fn Tryd.func84 (by kernel_rfl) rfl) rfl) (fun w hm hc hg => letter_spec _ w) ?_
   refine LM.val (ov_pickT rfl rfl) ?_
   refine LM.nil ?_
   refine QM.sub (e' := [(0, _), (1, _), (4, _), (7, _), (23, _)]) ⟨rfl, rfl, rfl, rfl, rfl, trivial⟩ ?_
   refine QM.then ?_
   first | refine wpM.condD rfl (fun h3 => ?_) (fun h3 => ?_) | refine wpM.condB rfl (fun h3 => ?_) (fun h3 => ?_)
   ·
    refine wpM.skip ?_
    refine QM.then ?_
    refine wpM.block ?_
    refine wpM.region ?_
    refine LM.val (ov_move rfl) ?_
    refine LM.val (ov_add64 rfl rfl (by omega)) ?_
    refine LM.val (ov_assign rfl) ?_
    refine LM.nil ?_
    refine QM.sub (e' := [(0, _), (1, _), (4, _), (7, _)]) ⟨rfl, rfl, rfl, rfl, trivial⟩ ?_
    refine QM.block_normal ?_
    refine QM.againK (j + 1) ⟨(by first | rfl | exact lk rfl (by congr 1; omega) | exact lk rfl (by simp)), rfl, rfl, rfl, trivial⟩ (by (repeat' (first | exact SubM.nil _ | refine SubM.cons rfl ?_ | refine SubM.app ?_))) (fun _ h => h) ?_ ?_
    · have hs1 := runL_step (p := letB) (show j < s.length by omega) h3; exact ⟨by omega, by omega, by omega⟩
    · first | omega | (dsimp only; omega)
   ·
    refine wpM.exit ?_
    refine QM.then_exit ?_
    refine QM.then_exit ?_
    refine QM.block_hit ?_
    refine QM.then ?_
    refine wpM.seq ?_
    refine wpM.region ?_
    refine LM.val (ov_move rfl) ?_
    refine LM.val (ov_move rfl) ?_
    refine LM.val (ov_move rfl) ?_
    refine LM.val (ov_sslcL Tryd.underlying9 rfl rfl rfl (by omega) (by omega) (by omega)) ?_
    refine LM.val (ov_move rfl) ?_
    refine LM.val (ov_build (cs := #[_, _, _, _]) rfl (by first | rfl | kernel_rfl)) ?_
    refine LM.val (ov_move rfl) ?_
    refine LM.val (ov_move rfl) ?_
    refine LM.val (ov_move rfl) ?_
    refine LM.val (ov_sub64 rfl rfl (by omega)) ?_
    refine LM.val (ov_leq rfl rfl) ?_
    first | refine LM.stW Tryd.sizeOf80 rfl rfl rfl rfl (by first | rfl | decide | (simp; done)) (fun hlt => absurd hlt (by omega)) ?_ | refine LM.st Tryd.sizeOf80 rfl rfl rfl (by first | decide | exact Nat.le_of_ble_eq_true rfl | (simp; done) | (simp; omega)) rfl (fun hlt => absurd hlt (by omega)) ?_
    refine LM.val (ov_assign rfl) ?_
    refine LM.val (ov_assign rfl) ?_
    refine LM.nil ?_
    refine QM.sub (e' := [(4, _), (5, _), (6, _)]) ⟨rfl, rfl, rfl, trivial⟩ ?_
    refine QM.then ?_
    refine wpM.ret ?_
    refine QM.then_ret ?_
    refine QM.leaveCs (ds := ([])) (.inl rfl) [.cell 4 80, .tmp 5, .tmp 6] Tryd.results45 hd_nil (rc_w rfl Tryd.isAgg80 Tryd.sizeOf80 rfl (rc_tmp rfl (rc_tmp rfl rc_nil))) ?_
    intro w' hm' hc'
    have hs0 := runL_stop (p := letB) (show j < s.length by omega) h3; exact ⟨(one_let (j := j) h1 (by omega)).symm, hc'⟩
  ·
   refine LM.drop (t := 18) rfl rfl rfl ?_
   refine LM.drop (t := 18) rfl rfl rfl ?_
   refine LM.drop (t := 18) rfl rfl rfl ?_
   refine LM.drop (t := 18) rfl rfl rfl ?_
   refine LM.val (ov_pickF rfl rfl) ?_
   refine LM.nil ?_
   refine QM.sub (e' := [(0, _), (1, _), (4, _), (7, _), (23, _)]) ⟨rfl, rfl, rfl, rfl, rfl, trivial⟩ ?_
   refine QM.then ?_
   refine wpM.condF rfl ?_
   refine wpM.exit ?_
   refine QM.then_exit ?_
   refine QM.then_exit ?_
   refine QM.block_hit ?_
   refine QM.then ?_
   refine wpM.seq ?_
   refine wpM.region ?_
   refine LM.val (ov_move rfl) ?_
   refine LM.val (ov_move rfl) ?_
   refine LM.val (ov_move rfl) ?_
   refine LM.val (ov_sslcL Tryd.underlying9 rfl rfl rfl (by omega) (by omega) (by omega)) ?_
   refine LM.val (ov_move rfl) ?_
   refine LM.val (ov_build (cs := #[_, _, _, _]) rfl (by first | rfl | kernel_rfl)) ?_
   refine LM.val (ov_move rfl) ?_
   refine LM.val (ov_move rfl) ?_
   refine LM.val (ov_move rfl) ?_
   refine LM.val (ov_sub64 rfl rfl (by omega)) ?_
   refine LM.val (ov_leq rfl rfl) ?_
   first | refine LM.stW Tryd.sizeOf80 rfl rfl rfl rfl (by first | rfl | decide | (simp; done)) (fun hlt => absurd hlt (by omega)) ?_ | refine LM.st Tryd.sizeOf80 rfl rfl rfl (by first | decide | exact Nat.le_of_ble_eq_true rfl | (simp; done) | (simp; omega)) rfl (fun hlt => absurd hlt (by omega)) ?_
   refine LM.val (ov_assign rfl) ?_
   refine LM.val (ov_assign rfl) ?_
   refine LM.nil ?_
   refine QM.sub (e' := [(4, _), (5, _), (6, _)]) ⟨rfl, rfl, rfl, trivial⟩ ?_
   refine QM.then ?_
   refine wpM.ret ?_
   refine QM.then_ret ?_
   refine QM.leaveCs (ds := ([])) (.inl rfl) [.cell 4 80, .tmp 5, .tmp 6] Tryd.results45 hd_nil (rc_w rfl Tryd.isAgg80 Tryd.sizeOf80 rfl (rc_tmp rfl (rc_tmp rfl rc_nil))) ?_
   intro w' hm' hc'
   have hs0 := runL_end (p := letB) (show s.length ≤ j by omega); exact ⟨(one_let (j := j) h1 (by omega)).symm, hc'⟩
 ·
  refine wpM.skip ?_
  refine QM.then ?_
  refine wpM.seq ?_
  refine wpM.seq ?_
  refine wpM.region ?_
  refine LM.val (ov_move rfl) ?_
  refine LM.val (ov_move rfl) ?_
  first | refine LM.val (ov_sidxN Tryd.underlying9 rfl rfl (by omega)) ?_ | refine LM.val (ov_sidxL Tryd.underlying9 rfl rfl (by omega)) ?_
  refine LM.callE (oc_call (enters_fn Tryd.func85 (by kernel_rfl) rfl) rfl) (fun w hm hc hg => digit_spec _ w) ?_
  refine LM.nil ?_
  refine QM.sub (e' := [(0, _), (1, _), (4, _), (7, _), (40, _)]) ⟨rfl, rfl, rfl, rfl, rfl, trivial⟩ ?_
  refine QM.then ?_
  first | refine wpM.condD rfl (fun h4 => ?_) (fun h4 => ?_) | refine wpM.condB rfl (fun h4 => ?_) (fun h4 => ?_)
  ·
   refine wpM.seq ?_
   refine wpM.region ?_
   refine LM.val (ov_assign rfl) ?_
   refine LM.nil ?_
   refine QM.sub (e' := [(0, _), (1, _), (4, _), (7, _), (8, _)]) ⟨rfl, rfl, rfl, rfl, rfl, trivial⟩ ?_
   refine QM.then ?_
   refine wpM.seq ?_
   refine wpM.block ?_
   refine wpM.loopK0 (α := Nat × Int) (fun ⟨j, n⟩ => [(7, .int .i64 (j : Nat)), (8, .int .i64 n)]) [(0, _), (1, _), (4, _)] (fun ⟨j, n⟩ => (b4, .cells #[.int .i64 0, .string (bs []), .int .i64 0, .int .i64 0] 80 (0, 0)) :: []) (fun ⟨j, n⟩ => i ≤ j ∧ j ≤ s.length ∧ i + runL digB s i = j + runL digB s j ∧ numF 9 (s.drop i) 0 = numF (9 - (j - i)) (s.drop j) n ∧ 0 ≤ n ∧ n + 1 ≤ ((10 ^ (min (j - i) 9) : Nat) : Int)) (fun ⟨j, n⟩ => s.length - j) ((i, 0)) ⟨(by first | rfl | exact lk rfl (by congr 1; omega) | exact lk rfl (by simp)), (by first | rfl | exact lk rfl (by congr 1; omega) | exact lk rfl (by simp)), rfl, rfl, rfl, trivial⟩ (by (repeat' (first | exact SubM.nil _ | refine SubM.cons rfl ?_ | refine SubM.app ?_))) ⟨Nat.le_refl _, by omega, rfl, by simp, by simp, by simp⟩ ?_
   rintro ⟨j, n⟩ ⟨hij, hjl, hr, hnf, hn0, hn1⟩
   change wpM _ _ _ _ _ _ _ ((b4, .cells #[.int .i64 0, .string (bs []), .int .i64 0, .int .i64 0] 80 (0, 0)) :: []) _ _ _
   refine wpM.seq ?_
   refine wpM.seq ?_
   refine wpM.region ?_
   refine LM.val (ov_move rfl) ?_
   refine LM.val (ov_move rfl) ?_
   refine LM.val (ov_slenL Tryd.underlying9 rfl) ?_
   refine LM.val (ov_lss rfl rfl) ?_
   refine LM.val (ov_move rfl) ?_
   first | refine LM.splitD (t := 45) rfl (fun h5 => ?_) (fun h5 => ?_) | refine LM.splitB (t := 45) rfl (fun h5 => ?_) (fun h5 => ?_)
   ·
    refine LM.strip (t := 45) rfl rfl rfl ?_
    refine LM.val (ov_move rfl) ?_
    refine LM.strip (t := 45) rfl rfl rfl ?_
    refine LM.val (ov_move rfl) ?_
    refine LM.strip (t := 45) rfl rfl rfl ?_
    first | refine LM.val (ov_sidxN Tryd.underlying9 rfl rfl (by omega)) ?_ | refine LM.val (ov_sidxL Tryd.underlying9 rfl rfl (by omega)) ?_
    refine LM.strip (t := 45) rfl rfl rfl ?_
    refine LM.callE (oc_call (enters_fn Tryd.func85 (by kernel_rfl) rfl) rfl) (fun w hm hc hg => digit_spec _ w) ?_
    refine LM.val (ov_pickT rfl rfl) ?_
    refine LM.nil ?_
    refine QM.sub (e' := [(0, _), (1, _), (4, _), (7, _), (8, _), (50, _)]) ⟨rfl, rfl, rfl, rfl, rfl, rfl, trivial⟩ ?_
    refine QM.then ?_
    first | refine wpM.condD rfl (fun h6 => ?_) (fun h6 => ?_) | refine wpM.condB rfl (fun h6 => ?_) (fun h6 => ?_)
    ·
     refine wpM.skip ?_
     refine QM.then ?_
     refine wpM.block ?_
     refine wpM.seq ?_
     refine wpM.seq ?_
     refine wpM.region ?_
     refine LM.val (ov_move rfl) ?_
     refine LM.val (ov_move rfl) ?_
     refine LM.val (ov_sub64 rfl rfl (by omega)) ?_
     refine LM.val (ov_lss rfl rfl) ?_
     refine LM.nil ?_
     refine QM.sub (e' := [(0, _), (1, _), (4, _), (7, _), (8, _), (54, _)]) ⟨rfl, rfl, rfl, rfl, rfl, rfl, trivial⟩ ?_
     refine QM.then ?_
     first | refine wpM.condD rfl (fun h7 => ?_) (fun h7 => ?_) | refine wpM.condB rfl (fun h7 => ?_) (fun h7 => ?_)
     ·
      have hp8 := p10_lt (k := min (j - i) 9) (by omega); have hdr := dig_rng (c := s.getD j 0) h6
      refine wpM.region ?_
      refine LM.val (ov_move rfl) ?_
      refine LM.val (ov_mul64 rfl rfl (by omega)) ?_
      refine LM.val (ov_move rfl) ?_
      refine LM.val (ov_move rfl) ?_
      first | refine LM.val (ov_sidxN Tryd.underlying9 rfl rfl (by omega)) ?_ | refine LM.val (ov_sidxL Tryd.underlying9 rfl rfl (by omega)) ?_
      refine LM.val (ov_to64 Tryd.underlying5 Tryd.underlying3 rfl (by omega)) ?_
      refine LM.val (ov_add64 rfl rfl (by omega)) ?_
      refine LM.val (ov_sub64 rfl rfl (by omega)) ?_
      refine LM.val (ov_assign rfl) ?_
      refine LM.nil ?_
      refine QM.sub (e' := [(0, _), (1, _), (4, _), (7, _), (8, _)]) ⟨rfl, rfl, rfl, rfl, rfl, trivial⟩ ?_
      refine QM.then ?_
      refine wpM.region ?_
      refine LM.val (ov_move rfl) ?_
      refine LM.val (ov_add64 rfl rfl (by omega)) ?_
      refine LM.val (ov_assign rfl) ?_
      refine LM.nil ?_
      refine QM.sub (e' := [(0, _), (1, _), (4, _), (7, _), (8, _)]) ⟨rfl, rfl, rfl, rfl, rfl, trivial⟩ ?_
      refine QM.block_normal ?_
      refine QM.againK ((j + 1, n * 10 + (((s.getD j 0).toNat : Nat) : Int) - 48)) ⟨(by first | rfl | exact lk rfl (by congr 1; omega) | exact lk rfl (by simp)), (by first | rfl | exact lk rfl (by congr 1; omega) | exact lk rfl (by simp)), rfl, rfl, rfl, trivial⟩ (by (repeat' (first | exact SubM.nil _ | refine SubM.cons rfl ?_ | refine SubM.app ?_))) (fun _ h => h) ?_ ?_
      · have hs1 := runL_step (p := digB) (show j < s.length by omega) h6; refine ⟨by omega, by omega, by omega, by rw [hnf, show 9 - (j - i) = (9 - (j + 1 - i)) + 1 by omega, numF_step (by omega) h6], by omega, ?_⟩; rw [show min (j + 1 - i) 9 = min (j - i) 9 + 1 by omega, Nat.pow_succ]; omega
      · first | omega | (dsimp only; omega)
     ·
      refine wpM.skip ?_
      refine QM.then ?_
      refine wpM.region ?_
      refine LM.val (ov_move rfl) ?_
      refine LM.val (ov_add64 rfl rfl (by omega)) ?_
      refine LM.val (ov_assign rfl) ?_
      refine LM.nil ?_
      refine QM.sub (e' := [(0, _), (1, _), (4, _), (7, _), (8, _)]) ⟨rfl, rfl, rfl, rfl, rfl, trivial⟩ ?_
      refine QM.block_normal ?_
      refine QM.againK ((j + 1, n)) ⟨(by first | rfl | exact lk rfl (by congr 1; omega) | exact lk rfl (by simp)), (by first | rfl | exact lk rfl (by congr 1; omega) | exact lk rfl (by simp)), rfl, rfl, rfl, trivial⟩ (by (repeat' (first | exact SubM.nil _ | refine SubM.cons rfl ?_ | refine SubM.app ?_))) (fun _ h => h) ?_ ?_
      · have hs1 := runL_step (p := digB) (show j < s.length by omega) h6; exact ⟨by omega, by omega, by omega, by rw [hnf, show 9 - (j - i) = 0 by omega, show 9 - (j + 1 - i) = 0 by omega]; rfl, hn0, by rw [show min (j + 1 - i) 9 = min (j - i) 9 by omega]; exact hn1⟩
      · first | omega | (dsimp only; omega)
    ·
     refine wpM.exit ?_
     refine QM.then_exit ?_
     refine QM.then_exit ?_
     refine QM.block_hit ?_
     refine QM.then ?_
     refine wpM.seq ?_
     refine wpM.region ?_
     refine LM.val (ov_move rfl) ?_
     refine LM.val (ov_move rfl) ?_
     refine LM.val (ov_build (cs := #[_, _, _, _]) rfl (by first | rfl | kernel_rfl)) ?_
     refine LM.val (ov_move rfl) ?_
     refine LM.val (ov_move rfl) ?_
     refine LM.val (ov_move rfl) ?_
     refine LM.val (ov_sub64 rfl rfl (by omega)) ?_
     refine LM.val (ov_leq rfl rfl) ?_
     refine LM.val (ov_move rfl) ?_
     first | refine LM.splitD (t := 73) rfl (fun h8 => ?_) (fun h8 => ?_) | refine LM.splitB (t := 73) rfl (fun h8 => ?_) (fun h8 => ?_)
     ·
      refine LM.strip (t := 73) rfl rfl rfl ?_
      refine LM.val (ov_move rfl) ?_
      refine LM.strip (t := 73) rfl rfl rfl ?_
      refine LM.val (ov_move rfl) ?_
      refine LM.strip (t := 73) rfl rfl rfl ?_
      first | refine LM.val (ov_sidxN Tryd.underlying9 rfl rfl (by omega)) ?_ | refine LM.val (ov_sidxL Tryd.underlying9 rfl rfl (by omega)) ?_
      refine LM.strip (t := 73) rfl rfl rfl ?_
      refine LM.val (ov_neq rfl rfl) ?_
      refine LM.strip (t := 73) rfl rfl rfl ?_
      refine LM.val (ov_move rfl) ?_
      first | refine LM.splitD (t := 78) rfl (fun h9 => ?_) (fun h9 => ?_) | refine LM.splitB (t := 78) rfl (fun h9 => ?_) (fun h9 => ?_)
      ·
       refine LM.drop (t := 78) rfl rfl rfl ?_
       refine LM.drop (t := 78) rfl rfl rfl ?_
       refine LM.drop (t := 78) rfl rfl rfl ?_
       refine LM.drop (t := 78) rfl rfl rfl ?_
       refine LM.strip (t := 73) rfl rfl rfl ?_
       refine LM.val (ov_pickT rfl rfl) ?_
       refine LM.val (ov_pickT rfl rfl) ?_
       first | refine LM.stW Tryd.sizeOf80 rfl rfl rfl rfl (by first | rfl | decide | (simp; done)) (fun hlt => absurd hlt (by omega)) ?_ | refine LM.st Tryd.sizeOf80 rfl rfl rfl (by first | decide | exact Nat.le_of_ble_eq_true rfl | (simp; done) | (simp; omega)) rfl (fun hlt => absurd hlt (by omega)) ?_
       refine LM.val (ov_assign rfl) ?_
       refine LM.val (ov_assign rfl) ?_
       refine LM.nil ?_
       refine QM.sub (e' := [(4, _), (5, _), (6, _)]) ⟨rfl, rfl, rfl, trivial⟩ ?_
       refine QM.then ?_
       refine wpM.ret ?_
       refine QM.then_ret ?_
       refine QM.leaveCs (ds := ([])) (.inl rfl) [.cell 4 80, .tmp 5, .tmp 6] Tryd.results45 hd_nil (rc_w rfl Tryd.isAgg80 Tryd.sizeOf80 rfl (rc_tmp rfl (rc_tmp rfl rc_nil))) ?_
       intro w' hm' hc'
       have hs0 := runL_stop (p := digB) (show j < s.length by omega) h6; have hnf2 := hnf.trans (numF_stop (.inr h6)); exact ⟨(one_dig (j := j) h1 h4 (by omega) hnf2 (by simp only [h1, h4, h5, h6, h8, h9, decide_true, decide_false, Bool.true_and, Bool.false_and, Bool.and_true, Bool.and_false, Bool.not_true, Bool.not_false, Bool.true_or, Bool.false_or, Bool.or_true, Bool.or_false, ne_eq, not_true_eq_false, not_false_eq_true, Bool.and_self])).symm, hc'⟩
      ·
       refine LM.strip (t := 78) rfl rfl rfl ?_
       refine LM.val (ov_move rfl) ?_
       refine LM.strip (t := 78) rfl rfl rfl ?_
       refine LM.val (ov_move rfl) ?_
       refine LM.strip (t := 78) rfl rfl rfl ?_
       refine LM.val (ov_add64 rfl rfl (by omega)) ?_
       refine LM.strip (t := 78) rfl rfl rfl ?_
       refine LM.val (ov_eql rfl rfl) ?_
       refine LM.strip (t := 73) rfl rfl rfl ?_
       refine LM.val (ov_pickF rfl rfl) ?_
       refine LM.val (ov_pickT rfl rfl) ?_
       first | refine LM.stW Tryd.sizeOf80 rfl rfl rfl rfl (by first | rfl | decide | (simp; done)) (fun hlt => absurd hlt (by omega)) ?_ | refine LM.st Tryd.sizeOf80 rfl rfl rfl (by first | decide | exact Nat.le_of_ble_eq_true rfl | (simp; done) | (simp; omega)) rfl (fun hlt => absurd hlt (by omega)) ?_
       refine LM.val (ov_assign rfl) ?_
       refine LM.val (ov_assign rfl) ?_
       refine LM.nil ?_
       refine QM.sub (e' := [(4, _), (5, _), (6, _)]) ⟨rfl, rfl, rfl, trivial⟩ ?_
       refine QM.then ?_
       refine wpM.ret ?_
       refine QM.then_ret ?_
       refine QM.leaveCs (ds := ([])) (.inl rfl) [.cell 4 80, .tmp 5, .tmp 6] Tryd.results45 hd_nil (rc_w rfl Tryd.isAgg80 Tryd.sizeOf80 rfl (rc_tmp rfl (rc_tmp rfl rc_nil))) ?_
       intro w' hm' hc'
       have hs0 := runL_stop (p := digB) (show j < s.length by omega) h6; have hnf2 := hnf.trans (numF_stop (.inr h6)); exact ⟨(one_dig (j := j) h1 h4 (by omega) hnf2 (by simp only [h1, h4, h5, h6, h8, h9, decide_true, decide_false, Bool.true_and, Bool.false_and, Bool.and_true, Bool.and_false, Bool.not_true, Bool.not_false, Bool.true_or, Bool.false_or, Bool.or_true, Bool.or_false, ne_eq, not_true_eq_false, not_false_eq_true, Bool.and_self])).symm, hc'⟩
     ·
      refine LM.drop (t := 73) rfl rfl rfl ?_
      refine LM.drop (t := 73) rfl rfl rfl ?_
      refine LM.drop (t := 73) rfl rfl rfl ?_
      refine LM.drop (t := 73) rfl rfl rfl ?_
      refine LM.dropU (t := 73) rfl rfl rfl ?_
      refine LM.dropX (t := 78) rfl rfl ?_
      refine LM.dropX (t := 78) rfl rfl ?_
      refine LM.dropX (t := 78) rfl rfl ?_
      refine LM.dropX (t := 78) rfl rfl ?_
      refine LM.drop (t := 73) rfl rfl rfl ?_
      refine LM.val (ov_pickF rfl rfl) ?_
      first | refine LM.stW Tryd.sizeOf80 rfl rfl rfl rfl (by first | rfl | decide | (simp; done)) (fun hlt => absurd hlt (by omega)) ?_ | refine LM.st Tryd.sizeOf80 rfl rfl rfl (by first | decide | exact Nat.le_of_ble_eq_true rfl | (simp; done) | (simp; omega)) rfl (fun hlt => absurd hlt (by omega)) ?_
      refine LM.val (ov_assign rfl) ?_
      refine LM.val (ov_assign rfl) ?_
      refine LM.nil ?_
      refine QM.sub (e' := [(4, _), (5, _), (6, _)]) ⟨rfl, rfl, rfl, trivial⟩ ?_
      refine QM.then ?_
      refine wpM.ret ?_
      refine QM.then_ret ?_
      refine QM.leaveCs (ds := ([])) (.inl rfl) [.cell 4 80, .tmp 5, .tmp 6] Tryd.results45 hd_nil (rc_w rfl Tryd.isAgg80 Tryd.sizeOf80 rfl (rc_tmp rfl (rc_tmp rfl rc_nil))) ?_
      intro w' hm' hc'
      have hs0 := runL_stop (p := digB) (show j < s.length by omega) h6; have hnf2 := hnf.trans (numF_stop (.inr h6)); exact ⟨(one_dig (j := j) h1 h4 (by omega) hnf2 (by simp only [h1, h4, h5, h6, h8, decide_true, decide_false, Bool.true_and, Bool.false_and, Bool.and_true, Bool.and_false, Bool.not_true, Bool.not_false, Bool.true_or, Bool.false_or, Bool.or_true, Bool.or_false, ne_eq, not_true_eq_false, not_false_eq_true, Bool.and_self])).symm, hc'⟩
   ·
    refine LM.drop (t := 45) rfl rfl rfl ?_
    refine LM.drop (t := 45) rfl rfl rfl ?_
    refine LM.drop (t := 45) rfl rfl rfl ?_
    refine LM.drop (t := 45) rfl rfl rfl ?_
    refine LM.val (ov_pickF rfl rfl) ?_
    refine LM.nil ?_
    refine QM.sub (e' := [(0, _), (1, _), (4, _), (7, _), (8, _), (50, _)]) ⟨rfl, rfl, rfl, rfl, rfl, rfl, trivial⟩ ?_
    refine QM.then ?_
    refine wpM.condF rfl ?_
    refine wpM.exit ?_
    refine QM.then_exit ?_
    refine QM.then_exit ?_
    refine QM.block_hit ?_
    refine QM.then ?_
    refine wpM.seq ?_
    refine wpM.region ?_
    refine LM.val (ov_move rfl) ?_
    refine LM.val (ov_move rfl) ?_
    refine LM.val (ov_build (cs := #[_, _, _, _]) rfl (by first | rfl | kernel_rfl)) ?_
    refine LM.val (ov_move rfl) ?_
    refine LM.val (ov_move rfl) ?_
    refine LM.val (ov_move rfl) ?_
    refine LM.val (ov_sub64 rfl rfl (by omega)) ?_
    refine LM.val (ov_leq rfl rfl) ?_
    refine LM.val (ov_move rfl) ?_
    first | refine LM.splitD (t := 73) rfl (fun h10 => ?_) (fun h10 => ?_) | refine LM.splitB (t := 73) rfl (fun h10 => ?_) (fun h10 => ?_)
    ·
     refine LM.strip (t := 73) rfl rfl rfl ?_
     refine LM.val (ov_move rfl) ?_
     refine LM.strip (t := 73) rfl rfl rfl ?_
     refine LM.val (ov_move rfl) ?_
     refine LM.strip (t := 73) rfl rfl rfl ?_
     first | refine LM.val (ov_sidxN Tryd.underlying9 rfl rfl (by omega)) ?_ | refine LM.val (ov_sidxL Tryd.underlying9 rfl rfl (by omega)) ?_
     refine LM.strip (t := 73) rfl rfl rfl ?_
     refine LM.val (ov_neq rfl rfl) ?_
     refine LM.strip (t := 73) rfl rfl rfl ?_
     refine LM.val (ov_move rfl) ?_
     first | refine LM.splitD (t := 78) rfl (fun h11 => ?_) (fun h11 => ?_) | refine LM.splitB (t := 78) rfl (fun h11 => ?_) (fun h11 => ?_)
     ·
      refine LM.drop (t := 78) rfl rfl rfl ?_
      refine LM.drop (t := 78) rfl rfl rfl ?_
      refine LM.drop (t := 78) rfl rfl rfl ?_
      refine LM.drop (t := 78) rfl rfl rfl ?_
      refine LM.strip (t := 73) rfl rfl rfl ?_
      refine LM.val (ov_pickT rfl rfl) ?_
      refine LM.val (ov_pickT rfl rfl) ?_
      first | refine LM.stW Tryd.sizeOf80 rfl rfl rfl rfl (by first | rfl | decide | (simp; done)) (fun hlt => absurd hlt (by omega)) ?_ | refine LM.st Tryd.sizeOf80 rfl rfl rfl (by first | decide | exact Nat.le_of_ble_eq_true rfl | (simp; done) | (simp; omega)) rfl (fun hlt => absurd hlt (by omega)) ?_
      refine LM.val (ov_assign rfl) ?_
      refine LM.val (ov_assign rfl) ?_
      refine LM.nil ?_
      refine QM.sub (e' := [(4, _), (5, _), (6, _)]) ⟨rfl, rfl, rfl, trivial⟩ ?_
      refine QM.then ?_
      refine wpM.ret ?_
      refine QM.then_ret ?_
      refine QM.leaveCs (ds := ([])) (.inl rfl) [.cell 4 80, .tmp 5, .tmp 6] Tryd.results45 hd_nil (rc_w rfl Tryd.isAgg80 Tryd.sizeOf80 rfl (rc_tmp rfl (rc_tmp rfl rc_nil))) ?_
      intro w' hm' hc'
      have hs0 := runL_end (p := digB) (show s.length ≤ j by omega); have hnf2 := hnf.trans (numF_stop (.inl (show s.length ≤ j by omega))); exact ⟨(one_dig (j := j) h1 h4 (by omega) hnf2 (by simp only [h1, h4, h5, h10, h11, decide_true, decide_false, Bool.true_and, Bool.false_and, Bool.and_true, Bool.and_false, Bool.not_true, Bool.not_false, Bool.true_or, Bool.false_or, Bool.or_true, Bool.or_false, ne_eq, not_true_eq_false, not_false_eq_true, Bool.and_self])).symm, hc'⟩
     ·
      refine LM.strip (t := 78) rfl rfl rfl ?_
      refine LM.val (ov_move rfl) ?_
      refine LM.strip (t := 78) rfl rfl rfl ?_
      refine LM.val (ov_move rfl) ?_
      refine LM.strip (t := 78) rfl rfl rfl ?_
      refine LM.val (ov_add64 rfl rfl (by omega)) ?_
      refine LM.strip (t := 78) rfl rfl rfl ?_
      refine LM.val (ov_eql rfl rfl) ?_
      refine LM.strip (t := 73) rfl rfl rfl ?_
      refine LM.val (ov_pickF rfl rfl) ?_
      refine LM.val (ov_pickT rfl rfl) ?_
      first | refine LM.stW Tryd.sizeOf80 rfl rfl rfl rfl (by first | rfl | decide | (simp; done)) (fun hlt => absurd hlt (by omega)) ?_ | refine LM.st Tryd.sizeOf80 rfl rfl rfl (by first | decide | exact Nat.le_of_ble_eq_true rfl | (simp; done) | (simp; omega)) rfl (fun hlt => absurd hlt (by omega)) ?_
      refine LM.val (ov_assign rfl) ?_
      refine LM.val (ov_assign rfl) ?_
      refine LM.nil ?_
      refine QM.sub (e' := [(4, _), (5, _), (6, _)]) ⟨rfl, rfl, rfl, trivial⟩ ?_
      refine QM.then ?_
      refine wpM.ret ?_
      refine QM.then_ret ?_
      refine QM.leaveCs (ds := ([])) (.inl rfl) [.cell 4 80, .tmp 5, .tmp 6] Tryd.results45 hd_nil (rc_w rfl Tryd.isAgg80 Tryd.sizeOf80 rfl (rc_tmp rfl (rc_tmp rfl rc_nil))) ?_
      intro w' hm' hc'
      have hs0 := runL_end (p := digB) (show s.length ≤ j by omega); have hnf2 := hnf.trans (numF_stop (.inl (show s.length ≤ j by omega))); exact ⟨(one_dig (j := j) h1 h4 (by omega) hnf2 (by simp only [h1, h4, h5, h10, h11, decide_true, decide_false, Bool.true_and, Bool.false_and, Bool.and_true, Bool.and_false, Bool.not_true, Bool.not_false, Bool.true_or, Bool.false_or, Bool.or_true, Bool.or_false, ne_eq, not_true_eq_false, not_false_eq_true, Bool.and_self])).symm, hc'⟩
    ·
     refine LM.drop (t := 73) rfl rfl rfl ?_
     refine LM.drop (t := 73) rfl rfl rfl ?_
     refine LM.drop (t := 73) rfl rfl rfl ?_
     refine LM.drop (t := 73) rfl rfl rfl ?_
     refine LM.dropU (t := 73) rfl rfl rfl ?_
     refine LM.dropX (t := 78) rfl rfl ?_
     refine LM.dropX (t := 78) rfl rfl ?_
     refine LM.dropX (t := 78) rfl rfl ?_
     refine LM.dropX (t := 78) rfl rfl ?_
     refine LM.drop (t := 73) rfl rfl rfl ?_
     refine LM.val (ov_pickF rfl rfl) ?_
     first | refine LM.stW Tryd.sizeOf80 rfl rfl rfl rfl (by first | rfl | decide | (simp; done)) (fun hlt => absurd hlt (by omega)) ?_ | refine LM.st Tryd.sizeOf80 rfl rfl rfl (by first | decide | exact Nat.le_of_ble_eq_true rfl | (simp; done) | (simp; omega)) rfl (fun hlt => absurd hlt (by omega)) ?_
     refine LM.val (ov_assign rfl) ?_
     refine LM.val (ov_assign rfl) ?_
     refine LM.nil ?_
     refine QM.sub (e' := [(4, _), (5, _), (6, _)]) ⟨rfl, rfl, rfl, trivial⟩ ?_
     refine QM.then ?_
     refine wpM.ret ?_
     refine QM.then_ret ?_
     refine QM.leaveCs (ds := ([])) (.inl rfl) [.cell 4 80, .tmp 5, .tmp 6] Tryd.results45 hd_nil (rc_w rfl Tryd.isAgg80 Tryd.sizeOf80 rfl (rc_tmp rfl (rc_tmp rfl rc_nil))) ?_
     intro w' hm' hc'
     have hs0 := runL_end (p := digB) (show s.length ≤ j by omega); have hnf2 := hnf.trans (numF_stop (.inl (show s.length ≤ j by omega))); exact ⟨(one_dig (j := j) h1 h4 (by omega) hnf2 (by simp only [h1, h4, h5, h10, decide_true, decide_false, Bool.true_and, Bool.false_and, Bool.and_true, Bool.and_false, Bool.not_true, Bool.not_false, Bool.true_or, Bool.false_or, Bool.or_true, Bool.or_false, ne_eq, not_true_eq_false, not_false_eq_true, Bool.and_self])).symm, hc'⟩
  ·
   refine wpM.skip ?_
   refine QM.then ?_
   refine wpM.seq ?_
   refine wpM.draw [(0, 0), (1, 0), (2, 0), (3, 0), (4, 0), (5, 0), (6, 0), (7, 0), (8, 0), (9, 0), (10, 0), (11, 0), (12, 2), (13, 3), (14, 3), (15, 3)] (by kernel_rfl) (by kernel_rfl) ?_
   refine LD.val rfl rfl (ov_move rfl) ?_
   refine LD.val rfl rfl (ov_move rfl) ?_
   refine LD.val rfl rfl (ov_move rfl) ?_
   refine LD.val rfl rfl (ov_add64 rfl rfl (by omega)) ?_
   refine LD.val rfl rfl (ov_sslcL Tryd.underlying9 rfl rfl rfl (by omega) (by omega) (by omega)) ?_
   refine LD.val rfl rfl (ov_move rfl) ?_
   refine LD.val rfl rfl (ov_build (cs := #[_, _, _, _]) rfl (by first | rfl | kernel_rfl)) ?_
   refine LD.val rfl rfl (ov_move rfl) ?_
   refine LD.val rfl rfl (ov_add64 rfl rfl (by omega)) ?_
   refine LD.val rfl rfl (ov_move rfl) ?_
   refine LD.val rfl rfl (ov_move rfl) ?_
   first | refine LD.val rfl rfl (ov_sidxN Tryd.underlying9 rfl rfl (by omega)) ?_ | refine LD.val rfl rfl (ov_sidxL Tryd.underlying9 rfl rfl (by omega)) ?_
   refine LD.callE rfl rfl (oc_call (enters_fn Tryd.func86 (by kernel_rfl) rfl) rfl) (fun w hm hc hg => mark_spec _ w) ?_
   refine LD.tail rfl rfl ?_
   first | refine LM.stW Tryd.sizeOf80 rfl rfl rfl rfl (by first | rfl | decide | (simp; done)) (fun hlt => absurd hlt (by omega)) ?_ | refine LM.st Tryd.sizeOf80 rfl rfl rfl (by first | decide | exact Nat.le_of_ble_eq_true rfl | (simp; done) | (simp; omega)) rfl (fun hlt => absurd hlt (by omega)) ?_
   refine LM.val (ov_assign rfl) ?_
   refine LM.val (ov_assign rfl) ?_
   refine LM.nil ?_
   refine QM.qn ?_
   refine QM.sub (e' := [(4, _), (5, _), (6, _)]) ⟨rfl, rfl, rfl, trivial⟩ ?_
   refine QM.then ?_
   refine wpM.ret ?_
   refine QM.leaveCs (ds := ([])) (.inl rfl) [.cell 4 80, .tmp 5, .tmp 6] Tryd.results45 hd_nil (rc_w rfl Tryd.isAgg80 Tryd.sizeOf80 rfl (rc_tmp rfl (rc_tmp rfl rc_nil))) ?_
   intro w' hm' hc'
   exact ⟨(one_mark h1 h4).symm, hc'⟩

end Go.Eng

