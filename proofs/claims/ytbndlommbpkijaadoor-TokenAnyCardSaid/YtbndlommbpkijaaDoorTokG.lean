/- The walk of token.Scan. No condition. -/
import Derived.Test.YtbndlommbpkijaaDoorTokF
set_option linter.unusedVariables false
set_option linter.unusedSimpArgs false
namespace Go.Eng
open Go Go.Proofs Go.RowKit

def okW (s : List UInt8) (i : Nat) (last kind : Int) : Bool := (oneO s i).2.2 && !besO i (oneO s i).1.k last kind
theorem okW_bad {s : List UInt8} {i : Nat} {last kind : Int} {out : List Wrd} (h : last = -1 ∨ (out ≠ [] ∧ kind = (out.getD (out.length - 1) default).k)) : badO (oneO s i) i last out = !okW s i last kind := by
  unfold okW besO badO
  rcases h with rfl | ⟨_, rfl⟩
  · rw [decide_eq_false (show ¬ (-1 : Int) = (i : Nat) by omega), decide_eq_false (show ¬ ((i : Nat) : Int) = -1 by omega)]; simp
  · rw [Bool.not_and, Bool.not_not]
    congr 2
    congr 1
    exact decide_eq_decide.2 ⟨Eq.symm, Eq.symm⟩
set_option maxRecDepth 100000 in
set_option maxHeartbeats 1000000 in
theorem tscan_spec {s : List UInt8} (w : World) : Ret Tryd.prog 11 #[vS s] w (fun v w' => Ext w w' ∧ ∃ m, ScT (scanO s) w.heap.size v m ∧ Mem w' m ∧ ∀ p ∈ m, w.heap.size ≤ p.1) := by
 refine Ret.enterM (l := [vS s]) Tryd.func11 rfl Tryd.ntmps11 rfl ([]) (no) (Mem.nil w) ?_
 refine wpM.seq ?_
 refine wpM.region ?_
 refine LM.val (ov_assign rfl) ?_
 refine LM.val (ov_assign rfl) ?_
 refine LM.val (ov_assign rfl) ?_
 refine LM.nil ?_
 refine QM.sub (e' := [(0, _)]) ⟨rfl, trivial⟩ ?_
 refine QM.then ?_
 refine wpM.seq ?_
 refine wpM.seq ?_
 refine wpM.region ?_
 refine LM.val (ov_move rfl) ?_
 refine LM.val (ov_slenL Tryd.underlying9 rfl) ?_
 refine LM.val (ov_gtr rfl rfl) ?_
 refine LM.nil ?_
 refine QM.sub (e' := [(0, _), (11, _)]) ⟨rfl, rfl, trivial⟩ ?_
 refine QM.then ?_
 first | refine wpM.condD rfl (fun h1 => ?_) (fun h1 => ?_) | refine wpM.condB rfl (fun h1 => ?_) (fun h1 => ?_)
 ·
  refine wpM.seq ?_
  refine wpM.region ?_
  refine LM.val (ov_assign rfl) ?_
  refine LM.val (ov_assign rfl) ?_
  refine LM.val (ov_assign rfl) ?_
  refine LM.nil ?_
  refine QM.sub (e' := [(2, _), (3, _), (4, _)]) ⟨rfl, rfl, rfl, trivial⟩ ?_
  refine QM.then ?_
  refine wpM.ret ?_
  refine QM.then_ret ?_
  refine QM.leave (.inl rfl) [.tmp 2, .tmp 3, .tmp 4] Tryd.results11 rfl ?_
  intro w' hm' hc' hg'
  have hr : scanO s = ([], 8000, 6) := (by unfold scanO; rw [if_pos (by omega)]); rw [hr]; exact ⟨hc', [], ⟨none, 0, 0, rfl, rfl, .nil _ _ _ _⟩, Mem.nil _, fun p hp => by cases hp⟩
 ·
  refine wpM.skip ?_
  refine QM.then ?_
  refine wpM.seq ?_
  refine wpM.region ?_
  refine LM.val (ov_move rfl) ?_
  refine LM.val (ov_build (cs := #[_, _, _, _]) rfl (by first | rfl | kernel_rfl)) ?_
  refine LM.box rfl rfl (fun b14 hb14 => ?_)
  refine LM.val (ov_assign rfl) ?_
  refine LM.nil ?_
  refine QM.sub (e' := [(0, _), (5, _)]) ⟨rfl, rfl, trivial⟩ ?_
  refine QM.then ?_
  refine wpM.seq ?_
  refine wpM.region ?_
  refine LM.val (ov_assign rfl) ?_
  refine LM.nil ?_
  refine QM.sub (e' := [(0, _), (5, _), (6, _)]) ⟨rfl, rfl, rfl, trivial⟩ ?_
  refine QM.then ?_
  refine wpM.seq ?_
  refine wpM.seq ?_
  refine wpM.region ?_
  change LM _ _ _ _ _ _ _ _ (xB b14 s 0 (-1) 0 :: []) _ _ _
  refine LM.val (ov_move rfl) ?_
  refine LM.cW (oc_call (enters_fn Tryd.func43 (by kernel_rfl) rfl) rfl) (fun w hm hc hg => skip_spec b14 s 0 (-1) 0 w (Nat.zero_le _) (by omega) (hm.pick _)) rfl (fun hlt => absurd hlt (by omega)) ?_
  refine LM.nil ?_
  refine QM.sub (e' := [(0, _), (5, _), (6, _)]) ⟨rfl, rfl, rfl, trivial⟩ ?_
  refine QM.then ?_
  refine wpM.block ?_
  refine wpM.loopK0 (α := Nat × Int × Int × List Wrd × Option Addr × Nat × Nat × Mem0) (fun ⟨i, last, kind, out, ad6, n6, cap6, m6⟩ => [(6, .slice ad6 n6 cap6)]) [(0, _), (5, _)] (fun ⟨i, last, kind, out, ad6, n6, cap6, m6⟩ => m6 ++ (xB b14 s i last kind :: [])) (fun ⟨i, last, kind, out, ad6, n6, cap6, m6⟩ => i ≤ s.length ∧ scanR s i last out = scanR s 0 (-1) [] ∧ (i < s.length → blankB (s.getD i 0) = false ∧ hashB (s.getD i 0) = false) ∧ n6 = out.length ∧ Sl fW 80 4 w.heap.size out (.slice ad6 n6 cap6) m6 ∧ (last = -1 ∨ (out ≠ [] ∧ kind = (out.getD (out.length - 1) default).k)) ∧ out.length ≤ i) (fun ⟨i, last, kind, out, ad6, n6, cap6, m6⟩ => s.length - i) ((skipO s 0, -1, 0, [], none, 0, 0, [])) ⟨(by first | rfl | exact lk rfl (by congr 1; omega) | exact lk rfl (by simp)), rfl, rfl, trivial⟩ (by (repeat' (first | exact SubM.nil _ | refine SubM.cons rfl ?_ | refine SubM.app ?_))) ⟨(skip_end (Nat.zero_le _)).2.1, (scanR_skip (Nat.zero_le _)).symm, (skip_end (Nat.zero_le _)).2.2, rfl, .nil _ _ _ _, .inl rfl, Nat.zero_le _⟩ ?_
  rintro ⟨i, last, kind, out, ad6, n6, cap6, m6⟩ ⟨hi, hsc, hbl, hn6, hs6, hlast, hol⟩
  change wpM _ _ _ _ _ _ _ (m6 ++ (xB b14 s i last kind :: [])) _ _ _
  have hlen8 : s.length ≤ 8000 := (by omega)
  refine wpM.seq ?_
  refine wpM.seq ?_
  refine wpM.region ?_
  refine LM.val (ov_move rfl) ?_
  refine LM.val (ov_nilCheck rfl) ?_
  refine LM.val (ov_field Tryd.underlying83 rfl Tryd.sizeOf3 rfl (k := 1) rfl rfl) ?_
  first | refine LM.rd (om_ld Tryd.isAgg3 rfl rfl) ?_
  refine LM.val (ov_move rfl) ?_
  refine LM.val (ov_slenL Tryd.underlying9 rfl) ?_
  refine LM.val (ov_lss rfl rfl) ?_
  refine LM.nil ?_
  refine QM.sub (e' := [(0, _), (5, _), (6, _), (23, _)]) ⟨rfl, rfl, rfl, rfl, trivial⟩ ?_
  refine QM.then ?_
  first | refine wpM.condD rfl (fun h2 => ?_) (fun h2 => ?_) | refine wpM.condB rfl (fun h2 => ?_) (fun h2 => ?_)
  ·
   have hl1 := one_lt (show i < s.length by omega)
   refine wpM.skip ?_
   refine QM.then ?_
   refine wpM.seq ?_
   refine wpM.block ?_
   refine wpM.seq ?_
   refine wpM.region ?_
   refine LM.val (ov_move rfl) ?_
   refine LM.cW (oc_call (enters_fn Tryd.func44 (by kernel_rfl) rfl) rfl) (fun w hm hc hg => tword_spec b14 s i last kind w (by omega) (by omega) (hm.pick _)) rfl (fun hlt => absurd hlt (by omega)) ?_
   refine LM.val (ov_move rfl) ?_
   refine LM.val (ov_extract rfl rfl) ?_
   refine LM.val (ov_extract rfl rfl) ?_
   refine LM.alloc Tryd.zeroValue80 rfl (fun b7 hb7 => ?_)
   first | refine LM.stW Tryd.sizeOf80 rfl rfl rfl rfl (by first | rfl | decide | (simp; done)) (fun hlt => absurd hlt (by omega)) ?_ | refine LM.st Tryd.sizeOf80 rfl rfl rfl (by first | decide | exact Nat.le_of_ble_eq_true rfl | (simp; done) | (simp; omega)) rfl (fun hlt => absurd hlt (by omega)) ?_
   refine LM.val (ov_assign rfl) ?_
   refine LM.nil ?_
   refine QM.sub (e' := [(0, _), (5, _), (6, _), (7, _), (8, _)]) ⟨rfl, rfl, rfl, rfl, rfl, trivial⟩ ?_
   refine QM.then ?_
   refine wpM.seq ?_
   refine wpM.seq ?_
   refine wpM.region ?_
   refine LM.val (ov_move rfl) ?_
   first | refine LM.val (ov_notD rfl) ?_ | refine LM.val (ov_not rfl) ?_
   refine LM.nil ?_
   refine QM.sub (e' := [(0, _), (5, _), (6, _), (7, _), (32, _)]) ⟨rfl, rfl, rfl, rfl, rfl, trivial⟩ ?_
   refine QM.then ?_
   first | refine wpM.condD rfl (fun h3 => ?_) (fun h3 => ?_) | refine wpM.condB rfl (fun h3 => ?_) (fun h3 => ?_)
   ·
    refine wpM.seq ?_
    refine wpM.draw [(0, 0), (1, 1), (2, 0), (3, 0), (4, 0)] (by kernel_rfl) (by kernel_rfl) ?_
    refine LD.val rfl rfl (ov_field Tryd.underlying80 rfl Tryd.sizeOf3 rfl (k := 3) rfl rfl) ?_
    first | refine LD.rd rfl rfl (om_ld Tryd.isAgg3 rfl rfl) ?_
    refine LD.val rfl rfl (ov_assign rfl) ?_
    refine LD.val rfl rfl (ov_assign rfl) ?_
    refine LD.val rfl rfl (ov_assign rfl) ?_
    refine LD.nil ?_
    refine QM.sub (e' := [(2, _), (3, _), (4, _)]) ⟨rfl, rfl, rfl, trivial⟩ ?_
    refine QM.then ?_
    refine wpM.ret ?_
    refine QM.then_ret ?_
    refine QM.block_ret ?_
    refine QM.then_ret ?_
    refine QM.then_ret ?_
    refine QM.block_ret ?_
    refine QM.then_ret ?_
    refine QM.leave (.inl rfl) [.tmp 2, .tmp 3, .tmp 4] Tryd.results11 rfl ?_
    intro w' hm' hc' hg'
    have hokw : okW s i last kind = false := (by have q : (!okW s i last kind) = true := h3; simpa using q); have hr : scanO s = ([], (i : Int), 5) := (by unfold scanO; rw [if_neg (by omega), ← hsc, scanR_bad (by omega) (hbl (by omega)).1 (hbl (by omega)).2 (by rw [okW_bad hlast, hokw]; rfl)]); rw [hr]; refine ⟨hc', [], ⟨none, 0, 0, ?_, rfl, .nil _ _ _ _⟩, Mem.nil _, fun p hp => by cases hp⟩; show Value.tuple #[.slice none 0 0, .int .i64 (tokW s i).p, .int .i64 5] = _; rw [tokW_p]
   ·
    have hokw : okW s i last kind = true := (by unfold okW; simpa using h3); have hwx : tokW s i = (oneO s i).1 := tokW_ok (by have q := hokw; unfold okW at q; rw [Bool.and_eq_true] at q; exact q.1)
    refine wpM.skip ?_
    refine QM.then ?_
    refine wpM.region ?_
    refine LM.val (ov_move rfl) ?_
    first | refine LM.rd (om_ldW Tryd.isAgg80 Tryd.sizeOf80 rfl rfl) ?_ | refine LM.rd (om_ldA Tryd.isAgg80 Tryd.sizeOf80 rfl (vs := [_, _, _, _]) rfl ⟨rfl, rfl, rfl, rfl, trivial⟩) ?_
    refine LM.single Tryd.underlying24 Tryd.sizeOf80 Tryd.zeroValue80 rfl rfl rfl rfl rfl (fun b37 hb37 => ?_)
    refine LM.app (a := tokW s i) Tryd.underlying24 Tryd.typeInfo80 rfl rfl rfl rfl rfl rfl rfl (by assumption) (by rfl) (by intro _; rfl) (by intro _ u hu; simp [fW] at hu; (repeat (first | (rcases hu with rfl | hu) | subst hu | rfl))) (by first | exact Nat.le_refl _ | omega) (fun p hp hlt => absurd hlt (Nat.not_lt_of_le (Sl.ge (by assumption) p hp))) (by first | omega | (unfold maxLen; omega)) (by simp only [Tryd.t80]; omega) (fun ad38 n38 cap38 m38 hn38 hs38 hin38 => ?_)
    refine LM.val (ov_assign rfl) ?_
    refine LM.nil ?_
    refine QM.sub (e' := [(0, _), (5, _), (6, _)]) ⟨rfl, rfl, rfl, trivial⟩ ?_
    refine QM.block_normal ?_
    refine QM.then ?_
    refine wpM.region ?_
    refine LM.val (ov_move rfl) ?_
    refine LM.cW (oc_call (enters_fn Tryd.func43 (by kernel_rfl) rfl) rfl) (fun w hm hc hg => skip_spec b14 s (oneO s i).2.1 ((oneO s i).2.1 : Nat) (oneO s i).1.k w (by omega) (by omega) (hm.pick _)) rfl (fun hlt => absurd hlt (by omega)) ?_
    refine LM.nil ?_
    refine QM.sub (e' := [(0, _), (5, _), (6, _)]) ⟨rfl, rfl, rfl, trivial⟩ ?_
    have hsk := skip_end hl1.2
    refine QM.againK ((skipO s (oneO s i).2.1, ((oneO s i).2.1 : Nat), (oneO s i).1.k, out ++ [tokW s i], ad38, n38, cap38, m38)) ⟨(by first | rfl | exact lk rfl (by congr 1; omega) | exact lk rfl (by simp)), rfl, rfl, trivial⟩ (by (repeat' (first | exact SubM.nil _ | refine SubM.cons rfl ?_ | refine SubM.app ?_))) (fun _ h => h) ?_ ?_
    · refine ⟨hsk.2.1, ?_, hsk.2.2, by rw [hn38]; simp, hs38, .inr ⟨by simp, ?_⟩, by simp; omega⟩; (rw [← scanR_skip hl1.2, hwx, ← scanR_word (by omega) (hbl (by omega)).1 (hbl (by omega)).2 (by rw [okW_bad hlast, hokw]; rfl)]; exact hsc); (rw [hwx]; simp)
    · first | omega | (dsimp only; omega)
  ·
   refine wpM.exit ?_
   refine QM.then_exit ?_
   refine QM.then_exit ?_
   refine QM.block_hit ?_
   refine QM.then ?_
   refine wpM.seq ?_
   refine wpM.region ?_
   refine LM.val (ov_move rfl) ?_
   refine LM.val (ov_assign rfl) ?_
   refine LM.val (ov_assign rfl) ?_
   refine LM.val (ov_assign rfl) ?_
   refine LM.nil ?_
   refine QM.sub (e' := [(2, _), (3, _), (4, _)]) ⟨rfl, rfl, rfl, trivial⟩ ?_
   refine QM.then ?_
   refine wpM.ret ?_
   refine QM.leave (.inl rfl) [.tmp 2, .tmp 3, .tmp 4] Tryd.results11 rfl ?_
   intro w' hm' hc' hg'
   have hr : scanO s = (out, 0, 0) := (by unfold scanO; rw [if_neg (by omega), ← hsc, scanR_end (by omega)]); rw [hr]; exact ⟨hc', m6, ⟨ad6, n6, cap6, rfl, hn6, hs6⟩, hm'.pick m6, fun p hp => Sl.ge hs6 p hp⟩

end Go.Eng

