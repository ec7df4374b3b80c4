/- The walk of the document's scanner: all words. No condition. -/
import Derived.Test.YtbndlommbpkijaaDoorWordsA
set_option linter.unusedVariables false
set_option linter.unusedSimpArgs false
namespace Go.Eng
open Go Go.Proofs Go.RowKit

def ScT (r : List Wrd × Int × Int) (n0 : Nat) (v : Value) (m : Mem0) : Prop := ∃ ad n cap, v = .tuple #[.slice ad n cap, .int .i64 r.2.1, .int .i64 r.2.2] ∧ n = r.1.length ∧ Sl fW 80 4 n0 r.1 (.slice ad n cap) m
theorem ScT.mono {r : List Wrd × Int × Int} : ∀ (k k' : Nat) u m, k' ≤ k → ScT r k u m → ScT r k' u m := fun k k' u m h ⟨ad, n, cap, h1, h2, h3⟩ => ⟨ad, n, cap, h1, h2, h3.mono h⟩
set_option maxRecDepth 100000 in
set_option maxHeartbeats 1000000 in
theorem scan_spec {s : List UInt8} (w : World) (hx : s.length ≤ 1000000000) : Ret Tryd.prog 12 #[vS s] w (fun v w' => Ext w w' ∧ ∃ m, ScT (scanO s) w.heap.size v m ∧ Mem w' m ∧ ∀ p ∈ m, w.heap.size ≤ p.1) := by
 refine Ret.enterM (l := [vS s]) Tryd.func12 rfl Tryd.ntmps12 rfl ([]) (no) (Mem.nil w) ?_
 refine wpM.seq ?_
 refine wpM.region ?_
 refine LM.val (ov_assign rfl) ?_
 refine LM.val (ov_assign rfl) ?_
 refine LM.val (ov_assign rfl) ?_
 refine LM.nil ?_
 refine QM.sub (e' := [(0, _)]) ⟨rfl, trivial⟩ ?_
 refine QM.then ?_
 refine wpM.seq ?_
 refine wpM.seq ?_
 refine wpM.region ?_
 refine LM.val (ov_move rfl) ?_
 refine LM.val (ov_slenL Tryd.underlying9 rfl) ?_
 refine LM.val (ov_gtr rfl rfl) ?_
 refine LM.nil ?_
 refine QM.sub (e' := [(0, _), (13, _)]) ⟨rfl, rfl, trivial⟩ ?_
 refine QM.then ?_
 first | refine wpM.condD rfl (fun h1 => ?_) (fun h1 => ?_) | refine wpM.condB rfl (fun h1 => ?_) (fun h1 => ?_)
 ·
  refine wpM.seq ?_
  refine wpM.region ?_
  refine LM.val (ov_assign rfl) ?_
  refine LM.val (ov_assign rfl) ?_
  refine LM.val (ov_assign rfl) ?_
  refine LM.nil ?_
  refine QM.sub (e' := [(2, _), (3, _), (4, _)]) ⟨rfl, rfl, rfl, trivial⟩ ?_
  refine QM.then ?_
  refine wpM.ret ?_
  refine QM.then_ret ?_
  refine QM.leave (.inl rfl) [.tmp 2, .tmp 3, .tmp 4] Tryd.results12 rfl ?_
  intro w' hm' hc' hg'
  have hr : scanO s = ([], 8000, 6) := (by unfold scanO; rw [if_pos (by omega)]); rw [hr]; exact ⟨hc', [], ⟨none, 0, 0, rfl, rfl, .nil _ _ _ _⟩, Mem.nil _, fun p hp => by cases hp⟩
 ·
  refine wpM.skip ?_
  refine QM.then ?_
  refine wpM.seq ?_
  refine wpM.region ?_
  refine LM.val (ov_assign rfl) ?_
  refine LM.nil ?_
  refine QM.sub (e' := [(0, _), (5, _)]) ⟨rfl, rfl, trivial⟩ ?_
  refine QM.then ?_
  refine wpM.seq ?_
  refine wpM.region ?_
  refine LM.val (ov_assign rfl) ?_
  refine LM.nil ?_
  refine QM.sub (e' := [(0, _), (5, _), (6, _)]) ⟨rfl, rfl, rfl, trivial⟩ ?_
  refine QM.then ?_
  refine wpM.seq ?_
  refine wpM.region ?_
  refine LM.val (ov_assign rfl) ?_
  refine LM.nil ?_
  refine QM.sub (e' := [(0, _), (5, _), (6, _), (7, _)]) ⟨rfl, rfl, rfl, rfl, trivial⟩ ?_
  refine QM.then ?_
  refine wpM.seq ?_
  refine wpM.block ?_
  refine wpM.loopK0 (α := Nat × Int × List Wrd × Option Addr × Nat × Nat × Mem0) (fun ⟨i, last, out, ad5, n5, cap5, m5⟩ => [(5, .slice ad5 n5 cap5), (6, .int .i64 last), (7, .int .i64 (i : Nat))]) [(0, _)] (fun ⟨i, last, out, ad5, n5, cap5, m5⟩ => m5 ++ []) (fun ⟨i, last, out, ad5, n5, cap5, m5⟩ => i ≤ s.length ∧ scanR s i last out = scanR s 0 (-1) [] ∧ n5 = out.length ∧ Sl fW 80 4 w.heap.size out (.slice ad5 n5 cap5) m5 ∧ (last = -1 ∨ out ≠ []) ∧ out.length ≤ i) (fun ⟨i, last, out, ad5, n5, cap5, m5⟩ => s.length - i) ((0, -1, [], none, 0, 0, [])) ⟨(by first | rfl | exact lk rfl (by congr 1; omega) | exact lk rfl (by simp)), (by first | rfl | exact lk rfl (by congr 1; omega) | exact lk rfl (by simp)), (by first | rfl | exact lk rfl (by congr 1; omega) | exact lk rfl (by simp)), rfl, trivial⟩ (by (repeat' (first | exact SubM.nil _ | refine SubM.cons rfl ?_ | refine SubM.app ?_))) ⟨Nat.zero_le _, rfl, rfl, .nil _ _ _ _, .inl rfl, Nat.zero_le _⟩ ?_
  rintro ⟨i, last, out, ad5, n5, cap5, m5⟩ ⟨hi, hsc, hn5, hs5, hlast, hol⟩
  change wpM _ _ _ _ _ _ _ (m5 ++ []) _ _ _
  refine wpM.seq ?_
  refine wpM.seq ?_
  refine wpM.region ?_
  refine LM.val (ov_move rfl) ?_
  refine LM.val (ov_move rfl) ?_
  refine LM.val (ov_slenL Tryd.underlying9 rfl) ?_
  refine LM.val (ov_lss rfl rfl) ?_
  refine LM.nil ?_
  refine QM.sub (e' := [(0, _), (5, _), (6, _), (7, _), (17, _)]) ⟨rfl, rfl, rfl, rfl, rfl, trivial⟩ ?_
  refine QM.then ?_
  first | refine wpM.condD rfl (fun h2 => ?_) (fun h2 => ?_) | refine wpM.condB rfl (fun h2 => ?_) (fun h2 => ?_)
  ·
   refine wpM.skip ?_
   refine QM.then ?_
   refine wpM.block ?_
   refine wpM.seq ?_
   refine wpM.seq ?_
   refine wpM.joinK (α := Bool) (fun q7 => [(33, .bool q7)]) [(0, _), (5, _), (6, _), (7, _)] (fun q7 => m5 ++ []) (fun q7 => q7 = blankB (s.getD i 0)) ⟨rfl, rfl, rfl, rfl, trivial⟩ ?_ ?_
   ·
    refine wpM.region ?_
    refine LM.val (ov_move rfl) ?_
    refine LM.val (ov_move rfl) ?_
    first | refine LM.val (ov_sidxN Tryd.underlying9 rfl rfl (by omega)) ?_ | refine LM.val (ov_sidxL Tryd.underlying9 rfl rfl (by omega)) ?_
    refine LM.val (ov_eql rfl rfl) ?_
    refine LM.val (ov_move rfl) ?_
    first | refine LM.splitD (t := 22) rfl (fun h3 => ?_) (fun h3 => ?_) | refine LM.splitB (t := 22) rfl (fun h3 => ?_) (fun h3 => ?_)
    ·
     refine LM.drop (t := 22) rfl rfl rfl ?_
     refine LM.drop (t := 22) rfl rfl rfl ?_
     refine LM.drop (t := 22) rfl rfl rfl ?_
     refine LM.drop (t := 22) rfl rfl rfl ?_
     refine LM.val (ov_pickT rfl rfl) ?_
     refine LM.val (ov_move rfl) ?_
     refine LM.drop (t := 28) rfl rfl rfl ?_
     refine LM.drop (t := 28) rfl rfl rfl ?_
     refine LM.drop (t := 28) rfl rfl rfl ?_
     refine LM.drop (t := 28) rfl rfl rfl ?_
     refine LM.val (ov_pickT rfl rfl) ?_
     refine LM.nil ?_
     refine QM.sub (e' := [(0, _), (5, _), (6, _), (7, _), (33, _)]) ⟨rfl, rfl, rfl, rfl, rfl, trivial⟩ ?_
     refine QM.meetK (_) ⟨(by first | rfl | exact lk rfl (by congr 1; omega) | exact lk rfl (by simp)), rfl, rfl, rfl, rfl, trivial⟩ (by (repeat' (first | exact SubM.nil _ | refine SubM.cons rfl ?_ | refine SubM.app ?_))) ?_
     · unfold blankB; simp only [h1, h2, h3, decide_true, decide_false, Bool.true_and, Bool.false_and, Bool.and_true, Bool.and_false, Bool.not_true, Bool.not_false, Bool.true_or, Bool.false_or, Bool.or_true, Bool.or_false, ne_eq, not_true_eq_false, not_false_eq_true, Bool.and_self]
    ·
     refine LM.strip (t := 22) rfl rfl rfl ?_
     refine LM.val (ov_move rfl) ?_
     refine LM.strip (t := 22) rfl rfl rfl ?_
     refine LM.val (ov_move rfl) ?_
     refine LM.strip (t := 22) rfl rfl rfl ?_
     first | refine LM.val (ov_sidxN Tryd.underlying9 rfl rfl (by omega)) ?_ | refine LM.val (ov_sidxL Tryd.underlying9 rfl rfl (by omega)) ?_
     refine LM.strip (t := 22) rfl rfl rfl ?_
     refine LM.val (ov_eql rfl rfl) ?_
     refine LM.val (ov_pickF rfl rfl) ?_
     refine LM.val (ov_move rfl) ?_
     first | refine LM.splitD (t := 28) rfl (fun h4 => ?_) (fun h4 => ?_) | refine LM.splitB (t := 28) rfl (fun h4 => ?_) (fun h4 => ?_)
     ·
      refine LM.drop (t := 28) rfl rfl rfl ?_
      refine LM.drop (t := 28) rfl rfl rfl ?_
      refine LM.drop (t := 28) rfl rfl rfl ?_
      refine LM.drop (t := 28) rfl rfl rfl ?_
      refine LM.val (ov_pickT rfl rfl) ?_
      refine LM.nil ?_
      refine QM.sub (e' := [(0, _), (5, _), (6, _), (7, _), (33, _)]) ⟨rfl, rfl, rfl, rfl, rfl, trivial⟩ ?_
      refine QM.meetK (_) ⟨(by first | rfl | exact lk rfl (by congr 1; omega) | exact lk rfl (by simp)), rfl, rfl, rfl, rfl, trivial⟩ (by (repeat' (first | exact SubM.nil _ | refine SubM.cons rfl ?_ | refine SubM.app ?_))) ?_
      · unfold blankB; simp only [h1, h2, h3, h4, decide_true, decide_false, Bool.true_and, Bool.false_and, Bool.and_true, Bool.and_false, Bool.not_true, Bool.not_false, Bool.true_or, Bool.false_or, Bool.or_true, Bool.or_false, ne_eq, not_true_eq_false, not_false_eq_true, Bool.and_self]
     ·
      refine LM.strip (t := 28) rfl rfl rfl ?_
      refine LM.val (ov_move rfl) ?_
      refine LM.strip (t := 28) rfl rfl rfl ?_
      refine LM.val (ov_move rfl) ?_
      refine LM.strip (t := 28) rfl rfl rfl ?_
      first | refine LM.val (ov_sidxN Tryd.underlying9 rfl rfl (by omega)) ?_ | refine LM.val (ov_sidxL Tryd.underlying9 rfl rfl (by omega)) ?_
      refine LM.strip (t := 28) rfl rfl rfl ?_
      refine LM.val (ov_eql rfl rfl) ?_
      refine LM.val (ov_pickF rfl rfl) ?_
      refine LM.nil ?_
      refine QM.sub (e' := [(0, _), (5, _), (6, _), (7, _), (33, _)]) ⟨rfl, rfl, rfl, rfl, rfl, trivial⟩ ?_
      refine QM.meetK (_) ⟨(by first | rfl | exact lk rfl (by congr 1; omega) | exact lk rfl (by simp)), rfl, rfl, rfl, rfl, trivial⟩ (by (repeat' (first | exact SubM.nil _ | refine SubM.cons rfl ?_ | refine SubM.app ?_))) ?_
      · unfold blankB; simp only [h1, h2, h3, h4, decide_true, decide_false, Bool.true_and, Bool.false_and, Bool.and_true, Bool.and_false, Bool.not_true, Bool.not_false, Bool.true_or, Bool.false_or, Bool.or_true, Bool.or_false, ne_eq, not_true_eq_false, not_false_eq_true, Bool.and_self]
   ·
    rintro q7 hq7
    change QM _ _ _ _ _ (m5 ++ []) _ _ _
    refine QM.then ?_
    first | refine wpM.condD rfl (fun h5 => ?_) (fun h5 => ?_) | refine wpM.condB rfl (fun h5 => ?_) (fun h5 => ?_)
    ·
     refine wpM.seq ?_
     refine wpM.region ?_
     refine LM.val (ov_move rfl) ?_
     refine LM.val (ov_add64 rfl rfl (by omega)) ?_
     refine LM.val (ov_assign rfl) ?_
     refine LM.nil ?_
     refine QM.sub (e' := [(0, _), (5, _), (6, _), (7, _)]) ⟨rfl, rfl, rfl, rfl, trivial⟩ ?_
     refine QM.then ?_
     refine wpM.exit ?_
     refine QM.then_exit ?_
     refine QM.block_hit ?_
     refine QM.againK ((i + 1, last, out, ad5, n5, cap5, m5)) ⟨(by first | rfl | exact lk rfl (by congr 1; omega) | exact lk rfl (by simp)), (by first | rfl | exact lk rfl (by congr 1; omega) | exact lk rfl (by simp)), (by first | rfl | exact lk rfl (by congr 1; omega) | exact lk rfl (by simp)), rfl, trivial⟩ (by (repeat' (first | exact SubM.nil _ | refine SubM.cons rfl ?_ | refine SubM.app ?_))) (fun _ h => h) ?_ ?_
     · exact ⟨by omega, (scanR_blank (by omega) (hq7 ▸ h5)).symm.trans hsc, hn5, hs5, hlast, by omega⟩
     · first | omega | (dsimp only; omega)
    ·
     refine wpM.skip ?_
     refine QM.then ?_
     refine wpM.seq ?_
     refine wpM.seq ?_
     refine wpM.region ?_
     refine LM.val (ov_move rfl) ?_
     refine LM.val (ov_move rfl) ?_
     first | refine LM.val (ov_sidxN Tryd.underlying9 rfl rfl (by omega)) ?_ | refine LM.val (ov_sidxL Tryd.underlying9 rfl rfl (by omega)) ?_
     refine LM.val (ov_eql rfl rfl) ?_
     refine LM.nil ?_
     refine QM.sub (e' := [(0, _), (5, _), (6, _), (7, _), (39, _)]) ⟨rfl, rfl, rfl, rfl, rfl, trivial⟩ ?_
     refine QM.then ?_
     first | refine wpM.condD rfl (fun h6 => ?_) (fun h6 => ?_) | refine wpM.condB rfl (fun h6 => ?_) (fun h6 => ?_)
     ·
      refine wpM.seq ?_
      refine wpM.block ?_
      refine wpM.loopK0 (α := Nat) (fun j => [(7, .int .i64 (j : Nat))]) [(0, _), (5, _), (6, _)] (fun j => m5 ++ []) (fun j => i ≤ j ∧ j ≤ s.length ∧ i + runL notNl s i = j + runL notNl s j) (fun j => s.length - j) (i) ⟨(by first | rfl | exact lk rfl (by congr 1; omega) | exact lk rfl (by simp)), rfl, rfl, rfl, trivial⟩ (by (repeat' (first | exact SubM.nil _ | refine SubM.cons rfl ?_ | refine SubM.app ?_))) ⟨Nat.le_refl _, by omega, rfl⟩ ?_
      rintro j ⟨hij, hjl, hr⟩
      change wpM _ _ _ _ _ _ _ (m5 ++ []) _ _ _
      refine wpM.seq ?_
      refine wpM.seq ?_
      refine wpM.region ?_
      refine LM.val (ov_move rfl) ?_
      refine LM.val (ov_move rfl) ?_
      refine LM.val (ov_slenL Tryd.underlying9 rfl) ?_
      refine LM.val (ov_lss rfl rfl) ?_
      refine LM.val (ov_move rfl) ?_
      first | refine LM.splitD (t := 44) rfl (fun h7 => ?_) (fun h7 => ?_) | refine LM.splitB (t := 44) rfl (fun h7 => ?_) (fun h7 => ?_)
      ·
       refine LM.strip (t := 44) rfl rfl rfl ?_
       refine LM.val (ov_move rfl) ?_
       refine LM.strip (t := 44) rfl rfl rfl ?_
       refine LM.val (ov_move rfl) ?_
       refine LM.strip (t := 44) rfl rfl rfl ?_
       first | refine LM.val (ov_sidxN Tryd.underlying9 rfl rfl (by omega)) ?_ | refine LM.val (ov_sidxL Tryd.underlying9 rfl rfl (by omega)) ?_
       refine LM.strip (t := 44) rfl rfl rfl ?_
       refine LM.val (ov_neq rfl rfl) ?_
       refine LM.val (ov_pickT rfl rfl) ?_
       refine LM.nil ?_
       refine QM.sub (e' := [(0, _), (5, _), (6, _), (7, _), (49, _)]) ⟨rfl, rfl, rfl, rfl, rfl, trivial⟩ ?_
       refine QM.then ?_
       first | refine wpM.condD rfl (fun h8 => ?_) (fun h8 => ?_) | refine wpM.condB rfl (fun h8 => ?_) (fun h8 => ?_)
       ·
        refine wpM.skip ?_
        refine QM.then ?_
        refine wpM.block ?_
        refine wpM.region ?_
        refine LM.val (ov_move rfl) ?_
        refine LM.val (ov_add64 rfl rfl (by omega)) ?_
        refine LM.val (ov_assign rfl) ?_
        refine LM.nil ?_
        refine QM.sub (e' := [(0, _), (5, _), (6, _), (7, _)]) ⟨rfl, rfl, rfl, rfl, trivial⟩ ?_
        refine QM.block_normal ?_
        refine QM.againK (j + 1) ⟨(by first | rfl | exact lk rfl (by congr 1; omega) | exact lk rfl (by simp)), rfl, rfl, rfl, trivial⟩ (by (repeat' (first | exact SubM.nil _ | refine SubM.cons rfl ?_ | refine SubM.app ?_))) (fun _ h => h) ?_ ?_
        · have hs1 := runL_step (p := notNl) (show j < s.length by omega) (decide_eq_true h8); exact ⟨by omega, by omega, by omega⟩
        · first | omega | (dsimp only; omega)
       ·
        refine wpM.exit ?_
        refine QM.then_exit ?_
        refine QM.then_exit ?_
        refine QM.block_hit ?_
        refine QM.then ?_
        refine wpM.exit ?_
        refine QM.then_exit ?_
        refine QM.block_hit ?_
        have hs0 := runL_stop (p := notNl) (show j < s.length by omega) (decide_eq_false h8); have hs3 := runL_step (p := notNl) (show i < s.length by omega) (hash_nl (decide_eq_true h6))
        refine QM.againK ((j, last, out, ad5, n5, cap5, m5)) ⟨(by first | rfl | exact lk rfl (by congr 1; omega) | exact lk rfl (by simp)), (by first | rfl | exact lk rfl (by congr 1; omega) | exact lk rfl (by simp)), (by first | rfl | exact lk rfl (by congr 1; omega) | exact lk rfl (by simp)), rfl, trivial⟩ (by (repeat' (first | exact SubM.nil _ | refine SubM.cons rfl ?_ | refine SubM.app ?_))) (fun _ h => h) ?_ ?_
        · exact ⟨by omega, (scanR_hash (j := j) (by omega) (hq7 ▸ h5) (decide_eq_true h6) (by omega)).symm.trans hsc, hn5, hs5, hlast, by omega⟩
        · first | omega | (dsimp only; omega)
      ·
       refine LM.drop (t := 44) rfl rfl rfl ?_
       refine LM.drop (t := 44) rfl rfl rfl ?_
       refine LM.drop (t := 44) rfl rfl rfl ?_
       refine LM.drop (t := 44) rfl rfl rfl ?_
       refine LM.val (ov_pickF rfl rfl) ?_
       refine LM.nil ?_
       refine QM.sub (e' := [(0, _), (5, _), (6, _), (7, _), (49, _)]) ⟨rfl, rfl, rfl, rfl, rfl, trivial⟩ ?_
       refine QM.then ?_
       refine wpM.condF rfl ?_
       refine wpM.exit ?_
       refine QM.then_exit ?_
       refine QM.then_exit ?_
       refine QM.block_hit ?_
       refine QM.then ?_
       refine wpM.exit ?_
       refine QM.then_exit ?_
       refine QM.block_hit ?_
       have hs0 := runL_end (p := notNl) (show s.length ≤ j by omega); have hs3 := runL_step (p := notNl) (show i < s.length by omega) (hash_nl (decide_eq_true h6))
       refine QM.againK ((j, last, out, ad5, n5, cap5, m5)) ⟨(by first | rfl | exact lk rfl (by congr 1; omega) | exact lk rfl (by simp)), (by first | rfl | exact lk rfl (by congr 1; omega) | exact lk rfl (by simp)), (by first | rfl | exact lk rfl (by congr 1; omega) | exact lk rfl (by simp)), rfl, trivial⟩ (by (repeat' (first | exact SubM.nil _ | refine SubM.cons rfl ?_ | refine SubM.app ?_))) (fun _ h => h) ?_ ?_
       · exact ⟨by omega, (scanR_hash (j := j) (by omega) (hq7 ▸ h5) (decide_eq_true h6) (by omega)).symm.trans hsc, hn5, hs5, hlast, by omega⟩
       · first | omega | (dsimp only; omega)
     ·
      refine wpM.skip ?_
      refine QM.then ?_
      refine wpM.seq ?_
      refine wpM.region ?_
      refine LM.val (ov_move rfl) ?_
      refine LM.val (ov_move rfl) ?_
      refine LM.callE (oc_call (enters_fn Tryd.func45 (by kernel_rfl) rfl) rfl) (fun w hm hc hg => one_spec9 i w (by omega) (by omega)) ?_
      refine LM.val (ov_move rfl) ?_
      refine LM.val (ov_extract rfl rfl) ?_
      refine LM.val (ov_extract rfl rfl) ?_
      refine LM.val (ov_extract rfl rfl) ?_
      refine LM.alloc Tryd.zeroValue80 rfl (fun b8 hb8 => ?_)
      first | refine LM.stW Tryd.sizeOf80 rfl rfl rfl rfl (by first | rfl | decide | (simp; done)) (fun hlt => absurd hlt (by omega)) ?_ | refine LM.st Tryd.sizeOf80 rfl rfl rfl (by first | decide | exact Nat.le_of_ble_eq_true rfl | (simp; done) | (simp; omega)) rfl (fun hlt => absurd hlt (by omega)) ?_
      refine LM.val (ov_assign rfl) ?_
      refine LM.val (ov_assign rfl) ?_
      refine LM.nil ?_
      refine QM.sub (e' := [(0, _), (5, _), (6, _), (7, _), (8, _), (9, _), (10, _)]) ⟨rfl, rfl, rfl, rfl, rfl, rfl, rfl, trivial⟩ ?_
      refine QM.then ?_
      refine wpM.seq ?_
      refine wpM.seq ?_
      refine wpM.joinK (α := Bool) (fun q => [(80, .bool q)]) [(0, _), (5, _), (7, _), (8, _), (9, _)] (fun q => (b8, .cells (fW (oneO s i).1).toArray 80 (0, 0)) :: (m5 ++ [])) (fun q => q = badO (oneO s i) i last out) ⟨rfl, rfl, rfl, rfl, rfl, trivial⟩ ?_ ?_
      ·
       refine wpM.region ?_
       refine LM.val (ov_move rfl) ?_
       first | refine LM.val (ov_notD rfl) ?_ | refine LM.val (ov_not rfl) ?_
       refine LM.val (ov_move rfl) ?_
       first | refine LM.splitD (t := 61) rfl (fun h9 => ?_) (fun h9 => ?_) | refine LM.splitB (t := 61) rfl (fun h9 => ?_) (fun h9 => ?_)
       ·
        refine LM.drop (t := 61) rfl rfl rfl ?_
        refine LM.drop (t := 61) rfl rfl rfl ?_
        refine LM.drop (t := 61) rfl rfl rfl ?_
        refine LM.dropU (t := 61) rfl rfl rfl ?_
        refine LM.dropX (t := 65) rfl rfl ?_
        refine LM.dropX (t := 65) rfl rfl ?_
        refine LM.dropX (t := 65) rfl rfl ?_
        refine LM.drop (t := 61) rfl rfl rfl ?_
        refine LM.dropU (t := 61) rfl rfl rfl ?_
        refine LM.dropX (t := 70) rfl rfl ?_
        refine LM.dropX (t := 70) rfl rfl ?_
        refine LM.dropX (t := 70) rfl rfl ?_
        refine LM.dropX (t := 70) rfl rfl ?_
        refine LM.dropX (t := 70) rfl rfl ?_
        refine LM.dropX (t := 70) rfl rfl ?_
        refine LM.dropX (t := 70) rfl rfl ?_
        refine LM.dropX (t := 70) rfl rfl ?_
        refine LM.drop (t := 61) rfl rfl rfl ?_
        refine LM.val (ov_pickT rfl rfl) ?_
        refine LM.nil ?_
        refine QM.sub (e' := [(0, _), (5, _), (7, _), (8, _), (9, _), (80, _)]) ⟨rfl, rfl, rfl, rfl, rfl, rfl, trivial⟩ ?_
        refine QM.meetK (_) ⟨(by first | rfl | exact lk rfl (by congr 1; omega) | exact lk rfl (by simp)), rfl, rfl, rfl, rfl, rfl, trivial⟩ (by (repeat' (first | exact SubM.nil _ | refine SubM.cons rfl ?_ | refine SubM.app ?_))) ?_
        · unfold badO; simp only [h1, h2, h5, h6, h9, decide_true, decide_false, Bool.true_and, Bool.false_and, Bool.and_true, Bool.and_false, Bool.not_true, Bool.not_false, Bool.true_or, Bool.false_or, Bool.or_true, Bool.or_false, ne_eq, not_true_eq_false, not_false_eq_true, Bool.and_self]
       ·
        refine LM.strip (t := 61) rfl rfl rfl ?_
        refine LM.val (ov_move rfl) ?_
        refine LM.strip (t := 61) rfl rfl rfl ?_
        refine LM.val (ov_move rfl) ?_
        refine LM.strip (t := 61) rfl rfl rfl ?_
        refine LM.val (ov_eql rfl rfl) ?_
        refine LM.strip (t := 61) rfl rfl rfl ?_
        refine LM.val (ov_move rfl) ?_
        first | refine LM.splitD (t := 65) rfl (fun h10 => ?_) (fun h10 => ?_) | refine LM.splitB (t := 65) rfl (fun h10 => ?_) (fun h10 => ?_)
        ·
         refine LM.strip (t := 65) rfl rfl rfl ?_
         refine LM.val (ov_field Tryd.underlying80 rfl Tryd.sizeOf3 rfl (k := 0) rfl rfl) ?_
         refine LM.strip (t := 65) rfl rfl rfl ?_
         first | refine LM.rd (om_ld Tryd.isAgg3 rfl rfl) ?_
         refine LM.strip (t := 65) rfl rfl rfl ?_
         refine LM.val (ov_neq rfl rfl) ?_
         refine LM.strip (t := 61) rfl rfl rfl ?_
         refine LM.val (ov_pickT rfl rfl) ?_
         refine LM.strip (t := 61) rfl rfl rfl ?_
         refine LM.val (ov_move rfl) ?_
         first | refine LM.splitD (t := 70) rfl (fun h11 => ?_) (fun h11 => ?_) | refine LM.splitB (t := 70) rfl (fun h11 => ?_) (fun h11 => ?_)
         ·
          have hne : 0 < out.length := (by rcases hlast with h | h; (exfalso; omega); exact List.length_pos_iff.2 h)
          refine LM.strip (t := 70) rfl rfl rfl ?_
          refine LM.val (ov_move rfl) ?_
          refine LM.strip (t := 70) rfl rfl rfl ?_
          refine LM.val (ov_move rfl) ?_
          refine LM.strip (t := 70) rfl rfl rfl ?_
          refine LM.val (ov_len Tryd.underlying24 rfl) ?_
          refine LM.strip (t := 70) rfl rfl rfl ?_
          refine LM.val (ov_sub64 rfl rfl (by omega)) ?_
          refine LM.strip (t := 70) rfl rfl rfl ?_
          first | refine LM.val (ov_idxSN (by first | exact Sr.spt (by assumption) | exact Sl.spt (by assumption)) Tryd.underlying24 Tryd.sizeOf80 rfl rfl (by omega)) ?_ | refine LM.val (ov_idxS (by first | exact Sr.spt (by assumption) | exact Sl.spt (by assumption)) Tryd.underlying24 Tryd.sizeOf80 rfl rfl (by omega)) ?_ | refine LM.val (ov_idx Tryd.underlying24 Tryd.sizeOf80 rfl rfl (by omega)) ?_
          refine LM.strip (t := 70) rfl rfl rfl ?_
          refine LM.val (ov_field Tryd.underlying80 rfl Tryd.sizeOf3 rfl (k := 0) rfl rfl) ?_
          refine LM.strip (t := 70) rfl rfl rfl ?_
          first | refine LM.rd (om_slE (j := 0) (by assumption) (by intro _; rfl) Tryd.isAgg3 rfl rfl (by exact getq default (by first | omega | (simp only [List.length_set, List.length_append, List.length_cons, List.length_nil]; omega))) rfl (by rfl)) ?_ | refine LM.rdC (om_srE (j := 0) (by assumption) Tryd.isAgg3 rfl rfl (by exact getq default (by first | omega | (simp only [List.length_set, List.length_append, List.length_cons, List.length_nil]; omega))) (by rfl) (by rfl) id) ?_ | refine LM.rd (om_ld Tryd.isAgg3 rfl rfl) ?_
          refine LM.strip (t := 70) rfl rfl rfl ?_
          refine LM.val (ov_neq rfl rfl) ?_
          refine LM.strip (t := 61) rfl rfl rfl ?_
          refine LM.val (ov_pickT rfl rfl) ?_
          refine LM.val (ov_pickF rfl rfl) ?_
          refine LM.nil ?_
          refine QM.sub (e' := [(0, _), (5, _), (7, _), (8, _), (9, _), (80, _)]) ⟨rfl, rfl, rfl, rfl, rfl, rfl, trivial⟩ ?_
          refine QM.meetK (_) ⟨(by first | rfl | exact lk rfl (by congr 1; omega) | exact lk rfl (by simp)), rfl, rfl, rfl, rfl, rfl, trivial⟩ (by (repeat' (first | exact SubM.nil _ | refine SubM.cons rfl ?_ | refine SubM.app ?_))) ?_
          · rw [show ((n5 : Int) - 1).toNat = out.length - 1 by omega]; unfold badO; simp only [h1, h2, h5, h6, h9, h10, h11, decide_true, decide_false, Bool.true_and, Bool.false_and, Bool.and_true, Bool.and_false, Bool.not_true, Bool.not_false, Bool.true_or, Bool.false_or, Bool.or_true, Bool.or_false, ne_eq, not_true_eq_false, not_false_eq_true, Bool.and_self]
         ·
          refine LM.drop (t := 70) rfl rfl rfl ?_
          refine LM.drop (t := 70) rfl rfl rfl ?_
          refine LM.drop (t := 70) rfl rfl rfl ?_
          refine LM.drop (t := 70) rfl rfl rfl ?_
          refine LM.drop (t := 70) rfl rfl rfl ?_
          refine LM.drop (t := 70) rfl rfl rfl ?_
          refine LM.drop (t := 70) rfl rfl rfl ?_
          refine LM.drop (t := 70) rfl rfl rfl ?_
          refine LM.strip (t := 61) rfl rfl rfl ?_
          refine LM.val (ov_pickF rfl rfl) ?_
          refine LM.val (ov_pickF rfl rfl) ?_
          refine LM.nil ?_
          refine QM.sub (e' := [(0, _), (5, _), (7, _), (8, _), (9, _), (80, _)]) ⟨rfl, rfl, rfl, rfl, rfl, rfl, trivial⟩ ?_
          refine QM.meetK (_) ⟨(by first | rfl | exact lk rfl (by congr 1; omega) | exact lk rfl (by simp)), rfl, rfl, rfl, rfl, rfl, trivial⟩ (by (repeat' (first | exact SubM.nil _ | refine SubM.cons rfl ?_ | refine SubM.app ?_))) ?_
          · unfold badO; simp only [h1, h2, h5, h6, h9, h10, h11, decide_true, decide_false, Bool.true_and, Bool.false_and, Bool.and_true, Bool.and_false, Bool.not_true, Bool.not_false, Bool.true_or, Bool.false_or, Bool.or_true, Bool.or_false, ne_eq, not_true_eq_false, not_false_eq_true, Bool.and_self]
        ·
         refine LM.drop (t := 65) rfl rfl rfl ?_
         refine LM.drop (t := 65) rfl rfl rfl ?_
         refine LM.drop (t := 65) rfl rfl rfl ?_
         refine LM.strip (t := 61) rfl rfl rfl ?_
         refine LM.val (ov_pickF rfl rfl) ?_
         refine LM.strip (t := 61) rfl rfl rfl ?_
         refine LM.val (ov_move rfl) ?_
         refine LM.drop (t := 70) rfl rfl rfl ?_
         refine LM.drop (t := 70) rfl rfl rfl ?_
         refine LM.drop (t := 70) rfl rfl rfl ?_
         refine LM.drop (t := 70) rfl rfl rfl ?_
         refine LM.drop (t := 70) rfl rfl rfl ?_
         refine LM.drop (t := 70) rfl rfl rfl ?_
         refine LM.drop (t := 70) rfl rfl rfl ?_
         refine LM.drop (t := 70) rfl rfl rfl ?_
         refine LM.strip (t := 61) rfl rfl rfl ?_
         refine LM.val (ov_pickF rfl rfl) ?_
         refine LM.val (ov_pickF rfl rfl) ?_
         refine LM.nil ?_
         refine QM.sub (e' := [(0, _), (5, _), (7, _), (8, _), (9, _), (80, _)]) ⟨rfl, rfl, rfl, rfl, rfl, rfl, trivial⟩ ?_
         refine QM.meetK (_) ⟨(by first | rfl | exact lk rfl (by congr 1; omega) | exact lk rfl (by simp)), rfl, rfl, rfl, rfl, rfl, trivial⟩ (by (repeat' (first | exact SubM.nil _ | refine SubM.cons rfl ?_ | refine SubM.app ?_))) ?_
         · unfold badO; simp only [h1, h2, h5, h6, h9, h10, decide_true, decide_false, Bool.true_and, Bool.false_and, Bool.and_true, Bool.and_false, Bool.not_true, Bool.not_false, Bool.true_or, Bool.false_or, Bool.or_true, Bool.or_false, ne_eq, not_true_eq_false, not_false_eq_true, Bool.and_self]
      ·
       rintro q hq
       change QM _ _ _ _ _ ((b8, .cells (fW (oneO s i).1).toArray 80 (0, 0)) :: (m5 ++ [])) _ _ _
       refine QM.then ?_
       first | refine wpM.condD rfl (fun h12 => ?_) (fun h12 => ?_) | refine wpM.condB rfl (fun h12 => ?_) (fun h12 => ?_)
       ·
        refine wpM.seq ?_
        refine wpM.region ?_
        refine LM.val (ov_move rfl) ?_
        refine LM.val (ov_assign rfl) ?_
        refine LM.val (ov_assign rfl) ?_
        refine LM.val (ov_assign rfl) ?_
        refine LM.nil ?_
        refine QM.sub (e' := [(2, _), (3, _), (4, _)]) ⟨rfl, rfl, rfl, trivial⟩ ?_
        refine QM.then ?_
        refine wpM.ret ?_
        refine QM.then_ret ?_
        refine QM.block_ret ?_
        refine QM.then_ret ?_
        refine QM.block_ret ?_
        refine QM.then_ret ?_
        refine QM.leave (.inl rfl) [.tmp 2, .tmp 3, .tmp 4] Tryd.results12 rfl ?_
        intro w' hm' hc' hg'
        have hr : scanO s = ([], (i : Int), 5) := (by unfold scanO; rw [if_neg (by omega), ← hsc, scanR_bad (by omega) (hq7 ▸ h5) (decide_eq_false h6) (hq ▸ h12)]); rw [hr]; exact ⟨hc', [], ⟨none, 0, 0, rfl, rfl, .nil _ _ _ _⟩, Mem.nil _, fun p hp => by cases hp⟩
       ·
        refine wpM.skip ?_
        refine QM.then ?_
        refine wpM.seq ?_
        refine wpM.region ?_
        refine LM.val (ov_move rfl) ?_
        first | refine LM.rd (om_ldW Tryd.isAgg80 Tryd.sizeOf80 rfl rfl) ?_ | refine LM.rd (om_ldA Tryd.isAgg80 Tryd.sizeOf80 rfl (vs := [_, _, _, _]) rfl ⟨rfl, rfl, rfl, rfl, trivial⟩) ?_
        refine LM.single Tryd.underlying24 Tryd.sizeOf80 Tryd.zeroValue80 rfl rfl rfl rfl rfl (fun b84 hb84 => ?_)
        refine LM.app (a := (oneO s i).1) Tryd.underlying24 Tryd.typeInfo80 rfl rfl rfl rfl rfl rfl rfl (by assumption) (by rfl) (by intro _; rfl) (by intro _ u hu; simp [fW] at hu; (repeat (first | (rcases hu with rfl | hu) | subst hu | rfl))) (by first | exact Nat.le_refl _ | omega) (fun p hp hlt => absurd hlt (Nat.not_lt_of_le (Sl.ge (by assumption) p hp))) (by first | omega | (unfold maxLen; omega)) (by simp only [Tryd.t80]; omega) (fun ad85 n85 cap85 m85 hn85 hs85 hin85 => ?_)
        refine LM.val (ov_assign rfl) ?_
        refine LM.nil ?_
        refine QM.sub (e' := [(0, _), (5, _), (9, _)]) ⟨rfl, rfl, rfl, trivial⟩ ?_
        refine QM.then ?_
        refine wpM.seq ?_
        refine wpM.region ?_
        refine LM.val (ov_move rfl) ?_
        refine LM.val (ov_assign rfl) ?_
        refine LM.nil ?_
        refine QM.sub (e' := [(0, _), (5, _), (7, _), (9, _)]) ⟨rfl, rfl, rfl, rfl, trivial⟩ ?_
        refine QM.then ?_
        refine wpM.region ?_
        refine LM.val (ov_move rfl) ?_
        refine LM.val (ov_assign rfl) ?_
        refine LM.nil ?_
        refine QM.sub (e' := [(0, _), (5, _), (6, _), (7, _)]) ⟨rfl, rfl, rfl, rfl, trivial⟩ ?_
        refine QM.block_normal ?_
        have hl1 := one_lt (show i < s.length by omega)
        refine QM.againK (((oneO s i).2.1, ((oneO s i).2.1 : Nat), out ++ [(oneO s i).1], ad85, n85, cap85, m85)) ⟨(by first | rfl | exact lk rfl (by congr 1; omega) | exact lk rfl (by simp)), (by first | rfl | exact lk rfl (by congr 1; omega) | exact lk rfl (by simp)), (by first | rfl | exact lk rfl (by congr 1; omega) | exact lk rfl (by simp)), rfl, trivial⟩ (by (repeat' (first | exact SubM.nil _ | refine SubM.cons rfl ?_ | refine SubM.app ?_))) (fun _ h => h) ?_ ?_
        · exact ⟨by omega, (scanR_word (by omega) (hq7 ▸ h5) (decide_eq_false h6) (hq ▸ h12)).symm.trans hsc, by rw [hn85]; simp, hs85, .inr (by simp), by simp; omega⟩
        · first | omega | (dsimp only; omega)
  ·
   refine wpM.exit ?_
   refine QM.then_exit ?_
   refine QM.then_exit ?_
   refine QM.block_hit ?_
   refine QM.then ?_
   refine wpM.seq ?_
   refine wpM.region ?_
   refine LM.val (ov_move rfl) ?_
   refine LM.val (ov_assign rfl) ?_
   refine LM.val (ov_assign rfl) ?_
   refine LM.val (ov_assign rfl) ?_
   refine LM.nil ?_
   refine QM.sub (e' := [(2, _), (3, _), (4, _)]) ⟨rfl, rfl, rfl, trivial⟩ ?_
   refine QM.then ?_
   refine wpM.ret ?_
   refine QM.leave (.inl rfl) [.tmp 2, .tmp 3, .tmp 4] Tryd.results12 rfl ?_
   intro w' hm' hc' hg'
   have hr : scanO s = (out, 0, 0) := (by unfold scanO; rw [if_neg (by omega), ← hsc, scanR_end (by omega)]); rw [hr]; exact ⟨hc', m5, ⟨ad5, n5, cap5, rfl, hn5, hs5⟩, hm'.pick m5, fun p hp => Sl.ge hs5 p hp⟩

end Go.Eng

