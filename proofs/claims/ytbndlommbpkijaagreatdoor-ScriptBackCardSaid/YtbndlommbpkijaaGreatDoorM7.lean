/- The walks of acts' words, and of their text. No condition. -/
import Derived.Test.YtbndlommbpkijaaGreatDoorM5
import Derived.Test.YtbndlommbpkijaaGreatDoorM6
import Derived.Test.YtbndlommbpkijaaGreatDoorM1
import Derived.Test.YtbndlommbpkijaaGreatDoorM2
import Derived.Lib.AtoiErrMem
set_option linter.unusedVariables false
set_option linter.unusedSimpArgs false
namespace Go.Eng
open Go Go.Proofs Go.RowKit
def numW (n : Int) : Wrd := ⟨2, [], n, 0⟩
def actW (o : Act) : List Wrd := ⟨1, acT o.k, 0, 0⟩ :: (((numsA o).take (manyA o.k)).map numW ++ [mk3 [59]])
def wordsA (l : List Act) : List Wrd × Int := if l.all rightA then (if 4000 < l.length then ([], 6) else (l.flatMap actW, 0)) else ([], 1)
theorem acT_len (k : Int) : (acT k).length ≤ 7 := by
  unfold acT; split
  · rename_i h
    have : k = 0 ∨ k = 1 ∨ k = 2 ∨ k = 3 ∨ k = 4 ∨ k = 5 ∨ k = 6 ∨ k = 7 ∨ k = 8 := by omega
    rcases this with rfl | rfl | rfl | rfl | rfl | rfl | rfl | rfl | rfl <;> decide
  · decide
theorem actW_len (o : Act) : (actW o).length ≤ 6 := by
  have := manyA_le o.k
  unfold actW; simp [numsA]; omega
theorem actW_text (o : Act) : ∀ x ∈ actW o, x.t.length ≤ 7 := by
  have := acT_len o.k
  intro x hx
  unfold actW mk3 numW at hx
  simp only [List.mem_cons, List.mem_append, List.not_mem_nil, or_false, List.mem_map] at hx
  rcases hx with rfl | ⟨n, _, rfl⟩ | rfl
  · exact this
  · simp
  · simp
theorem flatA_len (xs : List Act) : (xs.flatMap actW).length ≤ 6 * xs.length := by
  induction xs with
  | nil => simp
  | cons o xs ih => have := actW_len o; rw [List.flatMap_cons, List.length_append, List.length_cons]; omega
theorem flatA_snoc {xs : List Act} {i : Nat} (h : i < xs.length) : (xs.take (i + 1)).flatMap actW = (xs.take i).flatMap actW ++ actW (xs.getD i default) := by
  rw [take_snoc default h, List.flatMap_append]; simp
theorem Sl.cap {α : Type} {f : α → List Value} {E s n0 : Nat} {xs : List α} {ad : Option Addr} {n cap : Nat} {m : Mem0} (h : Sl f E s n0 xs (.slice ad n cap) m) (hx : 0 < xs.length) : xs.length ≤ cap := by
  obtain ⟨b, cap', junk, h1, h2, h3, h4, h5, h6⟩ := h.ne hx
  cases h2; exact h4
theorem allA_snoc {xs : List Act} {i : Nat} (h : i < xs.length) (h0 : (xs.take i).all rightA = true) (h1 : rightA (xs.getD i default) = true) : (xs.take (i + 1)).all rightA = true := by
  rw [take_snoc default h, List.all_append, h0]; simp only [List.all_cons, List.all_nil, Bool.and_true, Bool.true_and]; exact h1
theorem allA_not {xs : List Act} {i : Nat} (h : i < xs.length) (h1 : rightA (xs.getD i default) = false) : xs.all rightA = false := by
  cases hm : xs.all rightA with
  | false => rfl
  | true => rw [List.all_eq_true.1 hm _ (List.mem_of_getElem? (getq default h))] at h1; cases h1
theorem rightA_k {o : Act} (h : rightA o = true) : 0 ≤ o.k ∧ o.k < 9 := by
  unfold rightA kindOk at h; simp only [Bool.and_eq_true, decide_eq_true_eq] at h; omega
theorem take_get {xs : List Int} {m k : Nat} (h : k < m) : (xs.take m).getD k 0 = xs.getD k 0 := by
  rw [List.getD_eq_getElem?_getD, List.getD_eq_getElem?_getD, List.getElem?_take_of_lt h]
theorem nums_snoc {o : Act} {k : Nat} (h : k < 4) : ((numsA o).take (k + 1)).map numW = ((numsA o).take k).map numW ++ [numW ((numsA o).getD k 0)] := by
  rw [take_snoc 0 (show k < (numsA o).length from h), List.map_append]; rfl
theorem Sl.pre {α : Type} {f : α → List Value} {E s n0 : Nat} {xs : List α} {ad : Option Addr} {n cap : Nat} {m : Mem0} (h : Sl f E s n0 xs (.slice ad n cap) m) (hf : ∀ a, (f a).length = s) {k : Nat} (hk : k ≤ xs.length) (hx : 0 < xs.length) : Sl f E s n0 (xs.take k) (.slice ad k cap) m := by
  obtain ⟨b, cap', junk, h1, h2, h3, h4, h5, h6⟩ := h.ne hx
  cases h2
  refine .inr ⟨b, cap, (xs.drop k).flatMap f ++ junk, h1, by rw [List.length_take, Nat.min_eq_left hk], ?_, by rw [List.length_take]; omega, h5, ?_⟩
  · rw [h3]; unfold arr; rw [← List.append_assoc, ← List.flatMap_append, List.take_append_drop]
  · rw [List.length_append, flatMap_len hf, List.length_take, List.length_drop, Nat.min_eq_left hk, ← h6, ← Nat.add_assoc, ← Nat.add_mul]; congr 2; omega
set_option maxRecDepth 100000 in
set_option maxHeartbeats 1000000 in
theorem awords_spec {xs : List Act} {ad : Option Addr} {n cap : Nat} (w : World) (hn : n = xs.length) (hl : Sr fA 5 xs (.slice ad n cap) w) (hx : xs.length ≤ 100000) : Ret Tryz.prog 72 #[.slice ad n cap] w (fun v w' => Ext w w' ∧ ∃ m, WoT (wordsA xs) w.heap.size v m ∧ Mem w' m ∧ ∀ p ∈ m, w.heap.size ≤ p.1) := by
 refine Ret.enterM (l := [.slice ad n cap]) Tryz.func72 rfl Tryz.ntmps72 rfl ([]) (no) (Mem.nil w) ?_
 refine wpM.seq (wpM.region ?_)
 refine LM.as rfl (LM.as rfl ?_)
 refine LM.nil (QM.sub (e' := [(0, _)]) ⟨rfl, trivial⟩ (QM.then (wpM.seq (wpM.region ?_))))
 refine LM.as rfl ?_
 refine LM.nil (QM.sub (e' := [(0, _), (4, _)]) au9 (QM.then ?_))
 refine wpM.seq ?_
 refine wpM.seq (wpM.region ?_)
 refine LM.mv rfl ?_
 refine LM.val (ov_len Tryz.underlying47 rfl) ?_
 refine LM.mv rfl ?_
 refine LM.nil (QM.sub (e' := [(0, _), (4, _), (9, _), (10, _), (11, _)]) au9 (QM.then ?_))
 refine wpM.block ?_
 refine wpM.loopK0 (α := Nat × List Wrd × Option Addr × Nat × Nat × Mem0) (fun ⟨i, out, ado, no, capo, mo⟩ => [(4, .slice ado no capo), (11, .int .i64 (i : Nat))]) [(0, _), (9, _), (10, _)] (fun ⟨i, out, ado, no, capo, mo⟩ => mo ++ []) (fun ⟨i, out, ado, no, capo, mo⟩ => i ≤ xs.length ∧ out.length ≤ 6 * i ∧ out = (xs.take i).flatMap actW ∧ (xs.take i).all rightA = true ∧ no = out.length ∧ Sl fW 65 4 w.heap.size out (.slice ado no capo) mo) (fun ⟨i, out, ado, no, capo, mo⟩ => xs.length - i) ((0, [], none, 0, 0, [])) ⟨au2, au2, rfl, rfl, rfl, trivial⟩ au1 ⟨Nat.zero_le _, Nat.zero_le _, rfl, rfl, rfl, .nil _ _ _ _⟩ ?_
 rintro ⟨i, out, ado, no, capo, mo⟩ ⟨hi, hz, hout, hall, hno, hso⟩
 change wpM _ _ _ _ _ _ _ (mo ++ []) _ _ _
 have hm4 := manyA_le (xs.getD i default).k
 refine wpM.seq (wpM.region ?_)
 refine LM.val (ov_lss rfl rfl) ?_
 refine LM.nil (QM.sub (e' := [(0, _), (4, _), (9, _), (10, _), (11, _), (12, _)]) au9 (QM.then ?_))
 refine wpM.seq ?_
 refine wpM.condD rfl (fun h1 => ?_) (fun h1 => ?_)
 ·
  refine wpM.skip ?_
  refine QM.then ?_
  refine wpM.seq ?_
  refine wpM.block ?_
  refine wpM.seq (wpM.region ?_)
  refine LM.val (ov_idxSN au6 Tryz.underlying47 Tryz.sizeOf123 rfl rfl (by omega)) ?_
  first | refine LM.rd (om_slA (by assumption) (by intro _; rfl) Tryz.isAgg123 Tryz.sizeOf123 rfl au3) ?_ | refine LM.rdC (om_srEA (by assumption) (by intro _; rfl) Tryz.isAgg123 Tryz.sizeOf123 rfl au3 id) ?_ | refine LM.rd (om_ldW Tryz.isAgg123 Tryz.sizeOf123 rfl rfl) ?_ | refine LM.rd (om_ldA Tryz.isAgg123 Tryz.sizeOf123 rfl (vs := [_, _, _, _, _]) rfl ⟨rfl, rfl, rfl, rfl, rfl, trivial⟩) ?_
  refine LM.alloc Tryz.zeroValue123 rfl (fun b6 hb6 => ?_)
  refine LM.stW Tryz.sizeOf123 rfl rfl rfl rfl au7 au8 ?_
  refine LM.nil (QM.sub (e' := [(0, _), (4, _), (6, _), (9, _), (10, _), (11, _)]) au9 (QM.then ?_))
  refine wpM.seq ?_
  refine wpM.seq (wpM.region ?_)
  refine LM.rd (om_ldW Tryz.isAgg123 Tryz.sizeOf123 rfl rfl) ?_
  refine LM.callE (oc_call (enters_fn Tryz.func117 (by kernel_rfl) rfl) rfl) (fun w hm hc hg => aright_spec _ w) ?_
  first | refine LM.val (ov_notD rfl) ?_ | refine LM.val (ov_not rfl) ?_
  refine LM.nil (QM.sub (e' := [(0, _), (4, _), (6, _), (9, _), (10, _), (11, _), (17, _)]) au9 (QM.then ?_))
  first | refine wpM.condD rfl (fun h2 => ?_) (fun h2 => ?_) | refine wpM.condB rfl (fun h2 => ?_) (fun h2 => ?_)
  ·
   refine wpM.seq (wpM.region ?_)
   refine LM.as rfl (LM.as rfl ?_)
   refine LM.nil (QM.sub (e' := [(2, _), (3, _)]) au9 (QM.then ?_))
   refine wpM.ret ?_
   refine QM.then_ret ?_
   refine QM.block_ret ?_
   refine QM.then_ret ?_
   refine QM.then_ret ?_
   refine QM.block_ret ?_
   refine QM.then_ret ?_
   refine QM.leave (.inl rfl) [.tmp 2, .tmp 3] Tryz.results72 rfl ?_
   intro w' hm' hc' hg'
   have hr : wordsA xs = ([], 1) := (by unfold wordsA; rw [allA_not (i := i) (by omega) (by simpa using h2)]; rfl); rw [hr]; exact ⟨hc', [], ⟨none, 0, 0, rfl, rfl, .nil _ _ _ _⟩, Mem.nil _, fun p hp => by cases hp⟩
  refine wpM.skip ?_
  refine QM.then (wpM.seq (wpM.region ?_))
  refine LM.mv rfl (LM.val (ov_field Tryz.underlying123 rfl Tryz.sizeOf3 rfl (k := 0) rfl rfl) ?_)
  refine LM.rd (om_ld Tryz.isAgg3 rfl rfl) ?_
  refine LM.callE (oc_call (enters_fn Tryz.func118 (by kernel_rfl) rfl) rfl) (fun w hm hc hg => aname_spec _ w) ?_
  refine LM.val (ov_build (cs := #[_, _, _, _]) rfl (by first | rfl | kernel_rfl)) ?_
  refine LM.single Tryz.underlying23 Tryz.sizeOf65 Tryz.zeroValue65 rfl rfl rfl rfl rfl (fun b23 hb23 => ?_)
  refine LM.app (a := (⟨1, acT (xs.getD i default).k, 0, 0⟩ : Wrd)) Tryz.underlying23 Tryz.typeInfo65 rfl rfl rfl rfl rfl rfl rfl (by assumption) (by rfl) (by intro _; rfl) (by intro _ u hu; simp [fW] at hu; (repeat (first | (rcases hu with rfl | hu) | subst hu | rfl))) (by first | exact Nat.le_refl _ | omega) au10 (by first | omega | (unfold maxLen; omega)) (by simp only [Tryz.t65]; omega) (fun ad24 n24 cap24 m24 hn24 hs24 hin24 => ?_)
  refine LM.as rfl ?_
  refine LM.nil (QM.sub (e' := [(0, _), (4, _), (6, _), (9, _), (10, _), (11, _)]) au9 (QM.then ?_))
  refine wpM.seq ?_
  refine wpM.seq ?_
  refine wpM.draw [(0, 1), (2, 0), (3, 1), (7, 0), (1, 2), (4, 2), (5, 0), (6, 0)] (by kernel_rfl) (by kernel_rfl) ?_
  refine LD.rd rfl rfl (om_ldW Tryz.isAgg123 Tryz.sizeOf123 rfl rfl) ?_
  refine LD.val rfl rfl (ov_field Tryz.underlying123 rfl Tryz.sizeOf3 rfl (k := 0) rfl rfl) ?_
  refine LD.rd rfl rfl (om_ld Tryz.isAgg3 rfl rfl) ?_
  refine LD.val rfl rfl (ov_move rfl) ?_
  refine LD.cS rfl rfl (oc_call (enters_fn Tryz.func119 (by kernel_rfl) rfl) rfl) (fun w hm hc hg => numbers_spec (xs.getD i default) w) (fun ad26 n26 cap26 m26 hn26 hs26 => ?_)
  refine LD.callE rfl rfl (oc_call (enters_fn Tryz.func120 (by kernel_rfl) rfl) rfl) (fun w hm hc hg => many_spec _ w) ?_
  have hcap := hs26.cap (Nat.zero_lt_succ _); have hl4 : (numsA (xs.getD i default)).length = 4 := rfl
  refine LD.val rfl rfl (ov_subHi Tryz.underlying26 Tryz.sizeOf3 rfl rfl (by omega) (by omega)) ?_
  refine LD.val rfl rfl (ov_len Tryz.underlying26 rfl) ?_
  refine LD.nil ?_
  refine QM.sub (e' := [(0, _), (4, _), (9, _), (10, _), (11, _), (30, _), (31, _), (32, _)]) au9 (QM.then ?_)
  refine wpM.block ?_
  refine wpM.loopK0 (α := Nat × List Wrd × Option Addr × Nat × Nat × Mem0) (fun ⟨k, out2, ad2, n2, cap2, m2⟩ => [(4, .slice ad2 n2 cap2), (32, .int .i64 (k : Nat))]) [(0, _), (9, _), (10, _), (11, _), (30, _), (31, _)] (fun ⟨k, out2, ad2, n2, cap2, m2⟩ => m2 ++ (m26 ++ [])) (fun ⟨k, out2, ad2, n2, cap2, m2⟩ => k ≤ manyA (xs.getD i default).k ∧ out2.length ≤ 6 * i + 1 + k ∧ out2 = out ++ [⟨1, acT (xs.getD i default).k, 0, 0⟩] ++ (((numsA (xs.getD i default)).take k).map numW) ∧ n2 = out2.length ∧ Sl fW 65 4 w.heap.size out2 (.slice ad2 n2 cap2) m2) (fun ⟨k, out2, ad2, n2, cap2, m2⟩ => manyA (xs.getD i default).k - k) ((0, out ++ [(⟨1, acT (xs.getD i default).k, 0, 0⟩ : Wrd)], ad24, n24, cap24, m24)) ⟨au2, au2, rfl, rfl, rfl, rfl, rfl, rfl, trivial⟩ au1 ⟨Nat.zero_le _, by simp; omega, by simp, by rw [hn24]; simp, hs24⟩ ?_
  rintro ⟨k, out2, ad2, n2, cap2, m2⟩ ⟨hk, hz2, hout2, hn2, hs2⟩
  change wpM _ _ _ _ _ _ _ (m2 ++ (m26 ++ [])) _ _ _
  have hs30 := hs26.pre (fun _ => rfl) (show manyA (xs.getD i default).k ≤ (numsA (xs.getD i default)).length from hm4) (Nat.zero_lt_succ _); have hl30 : ((numsA (xs.getD i default)).take (manyA (xs.getD i default).k)).length = manyA (xs.getD i default).k := by rw [List.length_take]; omega
  refine wpM.seq (wpM.region ?_)
  refine LM.val (ov_lss rfl rfl) ?_
  refine LM.nil (QM.sub (e' := [(0, _), (4, _), (9, _), (10, _), (11, _), (30, _), (31, _), (32, _), (33, _)]) au9 (QM.then ?_))
  refine wpM.seq ?_
  refine wpM.condD rfl (fun h3 => ?_) (fun h3 => ?_)
  ·
   refine wpM.skip ?_
   refine QM.then ?_
   refine wpM.seq ?_
   refine wpM.block ?_
   refine wpM.seq (wpM.region ?_)
   refine LM.val (ov_idxSN au6 Tryz.underlying26 Tryz.sizeOf3 rfl rfl (by omega)) ?_
   refine LM.rd (om_sl1 (by assumption) (by intro _; rfl) Tryz.isAgg3 rfl rfl (by exact getq 0 au4) (by rfl)) ?_
   refine LM.as rfl ?_
   refine LM.nil (QM.sub (e' := [(0, _), (4, _), (8, _), (9, _), (10, _), (11, _), (30, _), (31, _), (32, _)]) au9 (QM.then (wpM.region ?_)))
   refine LM.mv rfl (LM.mv rfl ?_)
   refine LM.val (ov_build (cs := #[_, _, _, _]) rfl (by first | rfl | kernel_rfl)) ?_
   refine LM.single Tryz.underlying23 Tryz.sizeOf65 Tryz.zeroValue65 rfl rfl rfl rfl rfl (fun b39 hb39 => ?_)
   refine LM.app (a := numW (((numsA (xs.getD i default)).take (manyA (xs.getD i default).k)).getD k 0)) Tryz.underlying23 Tryz.typeInfo65 rfl rfl rfl rfl rfl rfl rfl (by assumption) (by rfl) (by intro _; rfl) (by intro _ u hu; simp [fW] at hu; (repeat (first | (rcases hu with rfl | hu) | subst hu | rfl))) (by first | exact Nat.le_refl _ | omega) au10 (by first | omega | (unfold maxLen; omega)) (by simp only [Tryz.t65]; omega) (fun ad40 n40 cap40 m40 hn40 hs40 hin40 => ?_)
   refine LM.as rfl ?_
   refine LM.nil (QM.sub (e' := [(0, _), (4, _), (9, _), (10, _), (11, _), (30, _), (31, _), (32, _)]) au9 ?_)
   refine QM.block_normal ?_
   refine QM.then (wpM.region ?_)
   refine LM.val (ov_add64 rfl rfl (by omega)) ?_
   refine LM.mv rfl ?_
   refine LM.nil (QM.sub (e' := [(0, _), (4, _), (9, _), (10, _), (11, _), (30, _), (31, _), (32, _)]) au9 ?_)
   refine QM.againK ((k + 1, out2 ++ [numW (((numsA (xs.getD i default)).take (manyA (xs.getD i default).k)).getD k 0)], ad40, n40, cap40, m40)) ⟨au2, au2, rfl, rfl, rfl, rfl, rfl, rfl, trivial⟩ au1 (fun _ h => h) ?_ ?_
   · exact ⟨by omega, by rw [List.length_append, List.length_singleton]; omega, by rw [hout2, nums_snoc (by omega), take_get (by omega)]; simp, by rw [hn40]; simp, hs40⟩
   · first | omega | (dsimp only; omega)
  refine wpM.exit ?_
  refine QM.then_exit ?_
  refine QM.then_exit ?_
  refine QM.block_hit ?_
  refine QM.then (wpM.region ?_)
  refine LM.mv rfl ?_
  refine LM.val (ov_build (cs := #[_, _, _, _]) rfl (by first | rfl | kernel_rfl)) ?_
  refine LM.single Tryz.underlying23 Tryz.sizeOf65 Tryz.zeroValue65 rfl rfl rfl rfl rfl (fun b44 hb44 => ?_)
  refine LM.app (a := mk3 [59]) Tryz.underlying23 Tryz.typeInfo65 rfl rfl rfl rfl rfl rfl rfl (by assumption) (by rfl) (by intro _; rfl) (by intro _ u hu; simp [fW] at hu; (repeat (first | (rcases hu with rfl | hu) | subst hu | rfl))) (by first | exact Nat.le_refl _ | omega) au10 (by first | omega | (unfold maxLen; omega)) (by simp only [Tryz.t65]; omega) (fun ad45 n45 cap45 m45 hn45 hs45 hin45 => ?_)
  refine LM.as rfl ?_
  refine LM.nil (QM.sub (e' := [(0, _), (4, _), (9, _), (10, _), (11, _)]) au9 ?_)
  refine QM.block_normal ?_
  refine QM.then (wpM.region ?_)
  refine LM.val (ov_add64 rfl rfl (by omega)) ?_
  refine LM.mv rfl ?_
  refine LM.nil (QM.sub (e' := [(0, _), (4, _), (9, _), (10, _), (11, _)]) au9 ?_)
  obtain rfl : k = manyA (xs.getD i default).k := (by omega); have hl2 := congrArg List.length hout2
  refine QM.againK ((i + 1, out2 ++ [mk3 [59]], ad45, n45, cap45, m45)) ⟨au2, au2, rfl, rfl, rfl, trivial⟩ au1 (fun _ h => h) ?_ ?_
  · refine ⟨by omega, ?_, ?_, allA_snoc (by omega) hall (by simpa using h2), by rw [hn45]; simp, hs45⟩; (simp [numsA] at hl2 ⊢; omega); (rw [flatA_snoc (by omega), ← hout, hout2]; simp [actW])
  · first | omega | (dsimp only; omega)
 refine wpM.exit ?_
 refine QM.then_exit ?_
 refine QM.then_exit ?_
 refine QM.block_hit ?_
 refine QM.then ?_
 refine wpM.seq ?_
 refine wpM.seq (wpM.region ?_)
 refine LM.mv rfl ?_
 refine LM.val (ov_len Tryz.underlying47 rfl) ?_
 refine LM.val (ov_gtr rfl rfl) ?_
 refine LM.nil (QM.sub (e' := [(4, _), (49, _)]) au9 (QM.then ?_))
 refine wpM.condD rfl (fun h4 => ?_) (fun h4 => ?_)
 ·
  refine wpM.seq (wpM.region ?_)
  refine LM.as rfl (LM.as rfl ?_)
  refine LM.nil (QM.sub (e' := [(2, _), (3, _)]) au9 (QM.then ?_))
  refine wpM.ret ?_
  refine QM.then_ret ?_
  refine QM.leave (.inl rfl) [.tmp 2, .tmp 3] Tryz.results72 rfl ?_
  intro w' hm' hc' hg'
  have hil : i = xs.length := (by omega); subst hil; rw [List.take_length] at hall; have hr : wordsA xs = ([], 6) := (by unfold wordsA; rw [hall, if_pos rfl, if_pos (by omega)]); rw [hr]; exact ⟨hc', [], ⟨none, 0, 0, rfl, rfl, .nil _ _ _ _⟩, Mem.nil _, fun p hp => by cases hp⟩
 refine wpM.skip ?_
 refine QM.then (wpM.seq (wpM.region ?_))
 refine LM.mv rfl (LM.as rfl (LM.as rfl ?_))
 refine LM.nil (QM.sub (e' := [(2, _), (3, _)]) au9 (QM.then ?_))
 refine wpM.ret ?_
 refine QM.leave (.inl rfl) [.tmp 2, .tmp 3] Tryz.results72 rfl ?_
 intro w' hm' hc' hg'
 have hil : i = xs.length := (by omega); subst hil; rw [List.take_length] at hall hout; have hr : wordsA xs = (out, 0) := (by unfold wordsA; rw [hall, if_pos rfl, if_neg (by omega), hout]); rw [hr]; exact ⟨hc', mo, ⟨ado, no, capo, rfl, hno, hso⟩, hm'.pick _, fun p hp => Sl.ge hso p hp⟩
set_option maxRecDepth 100000 in
set_option maxHeartbeats 1000000 in
theorem rawords_spec {xs : List Act} {ad : Option Addr} {n cap : Nat} (w : World) (hn : n = xs.length) (hl : Sr fA 5 xs (.slice ad n cap) w) (hx : xs.length ≤ 100000) : Ret Tryz.prog 74 #[.slice ad n cap] w (fun v w' => Ext w w' ∧ ∃ m, WoT (wordsA xs) w.heap.size v m ∧ Mem w' m ∧ ∀ p ∈ m, w.heap.size ≤ p.1) := by
 refine Ret.enterM (l := [.slice ad n cap]) Tryz.func74 rfl Tryz.ntmps74 rfl ([]) (no) (Mem.nil w) ?_
 refine wpM.seq (wpM.region ?_)
 refine LM.as rfl (LM.as rfl ?_)
 refine LM.nil (QM.sub (e' := [(0, _)]) ⟨rfl, trivial⟩ (QM.then (wpM.seq (wpM.region ?_))))
 refine LM.as rfl ?_
 refine LM.nil (QM.sub (e' := [(0, _), (4, _)]) au9 (QM.then ?_))
 refine wpM.seq ?_
 refine wpM.seq (wpM.region ?_)
 refine LM.as rfl ?_
 refine LM.nil (QM.sub (e' := [(0, _), (4, _), (5, _)]) au9 (QM.then ?_))
 refine wpM.block ?_
 refine wpM.loopK0 (α := Nat × List Wrd × Option Addr × Nat × Nat × Mem0) (fun ⟨i, out, ado, no, capo, mo⟩ => [(4, .slice ado no capo), (5, .int .i64 (i : Nat))]) [(0, _)] (fun ⟨i, out, ado, no, capo, mo⟩ => mo ++ []) (fun ⟨i, out, ado, no, capo, mo⟩ => i ≤ xs.length ∧ out.length ≤ 6 * i ∧ out = (xs.take i).flatMap actW ∧ (xs.take i).all rightA = true ∧ no = out.length ∧ Sl fW 65 4 w.heap.size out (.slice ado no capo) mo) (fun ⟨i, out, ado, no, capo, mo⟩ => xs.length - i) ((0, [], none, 0, 0, [])) ⟨au2, au2, rfl, trivial⟩ au1 ⟨Nat.zero_le _, Nat.zero_le _, rfl, rfl, rfl, .nil _ _ _ _⟩ ?_
 rintro ⟨i, out, ado, no, capo, mo⟩ ⟨hi, hz, hout, hall, hno, hso⟩
 change wpM _ _ _ _ _ _ _ (mo ++ []) _ _ _
 have hm4 := manyA_le (xs.getD i default).k
 refine wpM.seq ?_
 refine wpM.seq (wpM.region ?_)
 refine LM.mv rfl (LM.mv rfl ?_)
 refine LM.val (ov_len Tryz.underlying47 rfl) ?_
 refine LM.val (ov_lss rfl rfl) ?_
 refine LM.nil (QM.sub (e' := [(0, _), (4, _), (5, _), (10, _)]) au9 (QM.then ?_))
 refine wpM.condD rfl (fun h1 => ?_) (fun h1 => ?_)
 ·
  refine wpM.skip ?_
  refine QM.then ?_
  refine wpM.seq ?_
  refine wpM.block ?_
  refine wpM.seq ?_
  refine wpM.seq (wpM.region ?_)
  refine LM.mv rfl (LM.mv rfl ?_)
  refine LM.val (ov_idxSN au6 Tryz.underlying47 Tryz.sizeOf123 rfl rfl (by omega)) ?_
  first | refine LM.rd (om_slA (by assumption) (by intro _; rfl) Tryz.isAgg123 Tryz.sizeOf123 rfl au3) ?_ | refine LM.rdC (om_srEA (by assumption) (by intro _; rfl) Tryz.isAgg123 Tryz.sizeOf123 rfl au3 id) ?_ | refine LM.rd (om_ldW Tryz.isAgg123 Tryz.sizeOf123 rfl rfl) ?_ | refine LM.rd (om_ldA Tryz.isAgg123 Tryz.sizeOf123 rfl (vs := [_, _, _, _, _]) rfl ⟨rfl, rfl, rfl, rfl, rfl, trivial⟩) ?_
  refine LM.callE (oc_call (enters_fn Tryz.func122 (by kernel_rfl) rfl) rfl) (fun w hm hc hg => aone_spec _ w) ?_
  first | refine LM.val (ov_notD rfl) ?_ | refine LM.val (ov_not rfl) ?_
  refine LM.nil (QM.sub (e' := [(0, _), (4, _), (5, _), (18, _)]) au9 (QM.then ?_))
  first | refine wpM.condD rfl (fun h2 => ?_) (fun h2 => ?_) | refine wpM.condB rfl (fun h2 => ?_) (fun h2 => ?_)
  ·
   refine wpM.seq (wpM.region ?_)
   refine LM.as rfl (LM.as rfl ?_)
   refine LM.nil (QM.sub (e' := [(2, _), (3, _)]) au9 (QM.then ?_))
   refine wpM.ret ?_
   refine QM.then_ret ?_
   refine QM.block_ret ?_
   refine QM.then_ret ?_
   refine QM.then_ret ?_
   refine QM.block_ret ?_
   refine QM.then_ret ?_
   refine QM.leave (.inl rfl) [.tmp 2, .tmp 3] Tryz.results74 rfl ?_
   intro w' hm' hc' hg'
   have hr : wordsA xs = ([], 1) := (by unfold wordsA; rw [allA_not (i := i) (by omega) (by simpa using h2)]; rfl); rw [hr]; exact ⟨hc', [], ⟨none, 0, 0, rfl, rfl, .nil _ _ _ _⟩, Mem.nil _, fun p hp => by cases hp⟩
  have hk8 : 0 ≤ (xs.getD i default).k ∧ (xs.getD i default).k < 9 := rightA_k (by simpa using h2)
  refine wpM.skip ?_
  refine QM.then (wpM.seq (wpM.region ?_))
  refine LM.mv rfl (LM.mv rfl (LM.mv rfl ?_))
  refine LM.val (ov_idxSN au6 Tryz.underlying47 Tryz.sizeOf123 rfl rfl (by omega)) ?_
  refine LM.val (ov_field Tryz.underlying123 rfl Tryz.sizeOf3 rfl (k := 0) rfl rfl) ?_
  first | refine LM.rd (om_slE (j := 0) (by assumption) (by intro _; rfl) Tryz.isAgg3 rfl rfl au3 rfl (by rfl)) ?_ | refine LM.rdC (om_srE (j := 0) (by assumption) Tryz.isAgg3 rfl rfl au3 (by rfl) (by rfl) id) ?_ | refine LM.rd (om_ld Tryz.isAgg3 rfl rfl) ?_
  refine LM.callE (oc_call (enters_fn Tryz.func112 (by kernel_rfl) rfl) rfl) (fun w hm hc hg => raname_spec _ w) ?_
  refine LM.val (ov_build (cs := #[_, _, _, _]) rfl (by first | rfl | kernel_rfl)) ?_
  refine LM.single Tryz.underlying23 Tryz.sizeOf65 Tryz.zeroValue65 rfl rfl rfl rfl rfl (fun b27 hb27 => ?_)
  refine LM.app (a := (⟨1, acT (xs.getD i default).k, 0, 0⟩ : Wrd)) Tryz.underlying23 Tryz.typeInfo65 rfl rfl rfl rfl rfl rfl rfl (by assumption) (by rfl) (by intro _; rfl) (by intro _ u hu; simp [fW] at hu; (repeat (first | (rcases hu with rfl | hu) | subst hu | rfl))) (by first | exact Nat.le_refl _ | omega) au10 (by first | omega | (unfold maxLen; omega)) (by simp only [Tryz.t65]; omega) (fun ad28 n28 cap28 m28 hn28 hs28 hin28 => ?_)
  refine LM.as rfl ?_
  refine LM.nil (QM.sub (e' := [(0, _), (4, _), (5, _)]) au9 (QM.then ?_))
  refine wpM.seq ?_
  refine wpM.seq (wpM.region ?_)
  refine LM.as rfl ?_
  refine LM.nil (QM.sub (e' := [(0, _), (4, _), (5, _), (6, _)]) au9 (QM.then ?_))
  refine wpM.block ?_
  refine wpM.loopK0 (α := Nat × List Wrd × Option Addr × Nat × Nat × Mem0) (fun ⟨k, out2, ad2, n2, cap2, m2⟩ => [(4, .slice ad2 n2 cap2), (6, .int .i64 (k : Nat))]) [(0, _), (5, _)] (fun ⟨k, out2, ad2, n2, cap2, m2⟩ => m2 ++ []) (fun ⟨k, out2, ad2, n2, cap2, m2⟩ => k ≤ manyA (xs.getD i default).k ∧ out2.length ≤ 6 * i + 1 + k ∧ out2 = out ++ [⟨1, acT (xs.getD i default).k, 0, 0⟩] ++ (((numsA (xs.getD i default)).take k).map numW) ∧ n2 = out2.length ∧ Sl fW 65 4 w.heap.size out2 (.slice ad2 n2 cap2) m2) (fun ⟨k, out2, ad2, n2, cap2, m2⟩ => manyA (xs.getD i default).k - k) ((0, out ++ [(⟨1, acT (xs.getD i default).k, 0, 0⟩ : Wrd)], ad28, n28, cap28, m28)) ⟨au2, au2, rfl, rfl, trivial⟩ au1 ⟨Nat.zero_le _, by simp; omega, by simp, by rw [hn28]; simp, hs28⟩ ?_
  rintro ⟨k, out2, ad2, n2, cap2, m2⟩ ⟨hk, hz2, hout2, hn2, hs2⟩
  change wpM _ _ _ _ _ _ _ (m2 ++ []) _ _ _
  refine wpM.seq ?_
  refine wpM.seq (wpM.region ?_)
  refine LM.mv rfl (LM.mv rfl (LM.mv rfl ?_))
  refine LM.val (ov_idxSN au6 Tryz.underlying47 Tryz.sizeOf123 rfl rfl (by omega)) ?_
  refine LM.val (ov_field Tryz.underlying123 rfl Tryz.sizeOf3 rfl (k := 0) rfl rfl) ?_
  first | refine LM.rd (om_slE (j := 0) (by assumption) (by intro _; rfl) Tryz.isAgg3 rfl rfl au3 rfl (by rfl)) ?_ | refine LM.rdC (om_srE (j := 0) (by assumption) Tryz.isAgg3 rfl rfl au3 (by rfl) (by rfl) id) ?_ | refine LM.rd (om_ld Tryz.isAgg3 rfl rfl) ?_
  refine LM.callE (oc_call (enters_fn Tryz.func113 (by kernel_rfl) rfl) rfl) (fun w hm hc hg => rmany_spec _ w hk8) ?_
  refine LM.val (ov_lss rfl rfl) ?_
  refine LM.nil (QM.sub (e' := [(0, _), (4, _), (5, _), (6, _), (36, _)]) au9 (QM.then ?_))
  refine wpM.condD rfl (fun h3 => ?_) (fun h3 => ?_)
  ·
   refine wpM.skip ?_
   refine QM.then ?_
   refine wpM.seq ?_
   refine wpM.block ?_
   refine wpM.region ?_
   refine LM.mv rfl (LM.mv rfl (LM.mv rfl ?_))
   refine LM.val (ov_idxSN au6 Tryz.underlying47 Tryz.sizeOf123 rfl rfl (by omega)) ?_
   first | refine LM.rd (om_slA (by assumption) (by intro _; rfl) Tryz.isAgg123 Tryz.sizeOf123 rfl au3) ?_ | refine LM.rdC (om_srEA (by assumption) (by intro _; rfl) Tryz.isAgg123 Tryz.sizeOf123 rfl au3 id) ?_ | refine LM.rd (om_ldW Tryz.isAgg123 Tryz.sizeOf123 rfl rfl) ?_ | refine LM.rd (om_ldA Tryz.isAgg123 Tryz.sizeOf123 rfl (vs := [_, _, _, _, _]) rfl ⟨rfl, rfl, rfl, rfl, rfl, trivial⟩) ?_
   refine LM.mv rfl ?_
   refine LM.callE (oc_call (enters_fn Tryz.func123 (by kernel_rfl) rfl) rfl) (fun w hm hc hg => get_spec (xs.getD i default) k w (by omega)) ?_
   refine LM.val (ov_build (cs := #[_, _, _, _]) rfl (by first | rfl | kernel_rfl)) ?_
   refine LM.single Tryz.underlying23 Tryz.sizeOf65 Tryz.zeroValue65 rfl rfl rfl rfl rfl (fun b47 hb47 => ?_)
   refine LM.app (a := numW ((numsA (xs.getD i default)).getD k 0)) Tryz.underlying23 Tryz.typeInfo65 rfl rfl rfl rfl rfl rfl rfl (by assumption) (by rfl) (by intro _; rfl) (by intro _ u hu; simp [fW] at hu; (repeat (first | (rcases hu with rfl | hu) | subst hu | rfl))) (by first | exact Nat.le_refl _ | omega) au10 (by first | omega | (unfold maxLen; omega)) (by simp only [Tryz.t65]; omega) (fun ad48 n48 cap48 m48 hn48 hs48 hin48 => ?_)
   refine LM.as rfl ?_
   refine LM.nil (QM.sub (e' := [(0, _), (4, _), (5, _), (6, _)]) au9 ?_)
   refine QM.block_normal ?_
   refine QM.then (wpM.region ?_)
   refine LM.mv rfl ?_
   refine LM.val (ov_add64 rfl rfl (by omega)) ?_
   refine LM.as rfl ?_
   refine LM.nil (QM.sub (e' := [(0, _), (4, _), (5, _), (6, _)]) au9 ?_)
   refine QM.againK ((k + 1, out2 ++ [numW ((numsA (xs.getD i default)).getD k 0)], ad48, n48, cap48, m48)) ⟨au2, au2, rfl, rfl, trivial⟩ au1 (fun _ h => h) ?_ ?_
   · exact ⟨by omega, by rw [List.length_append, List.length_singleton]; omega, by rw [hout2, nums_snoc (by omega)]; simp, by rw [hn48]; simp, hs48⟩
   · first | omega | (dsimp only; omega)
  refine wpM.exit ?_
  refine QM.then_exit ?_
  refine QM.then_exit ?_
  refine QM.block_hit ?_
  refine QM.then (wpM.region ?_)
  refine LM.mv rfl ?_
  refine LM.val (ov_build (cs := #[_, _, _, _]) rfl (by first | rfl | kernel_rfl)) ?_
  refine LM.single Tryz.underlying23 Tryz.sizeOf65 Tryz.zeroValue65 rfl rfl rfl rfl rfl (fun b51 hb51 => ?_)
  refine LM.app (a := mk3 [59]) Tryz.underlying23 Tryz.typeInfo65 rfl rfl rfl rfl rfl rfl rfl (by assumption) (by rfl) (by intro _; rfl) (by intro _ u hu; simp [fW] at hu; (repeat (first | (rcases hu with rfl | hu) | subst hu | rfl))) (by first | exact Nat.le_refl _ | omega) au10 (by first | omega | (unfold maxLen; omega)) (by simp only [Tryz.t65]; omega) (fun ad52 n52 cap52 m52 hn52 hs52 hin52 => ?_)
  refine LM.as rfl ?_
  refine LM.nil (QM.sub (e' := [(0, _), (4, _), (5, _)]) au9 ?_)
  refine QM.block_normal ?_
  refine QM.then (wpM.region ?_)
  refine LM.mv rfl ?_
  refine LM.val (ov_add64 rfl rfl (by omega)) ?_
  refine LM.as rfl ?_
  refine LM.nil (QM.sub (e' := [(0, _), (4, _), (5, _)]) au9 ?_)
  obtain rfl : k = manyA (xs.getD i default).k := (by omega); have hl2 := congrArg List.length hout2
  refine QM.againK ((i + 1, out2 ++ [mk3 [59]], ad52, n52, cap52, m52)) ⟨au2, au2, rfl, trivial⟩ au1 (fun _ h => h) ?_ ?_
  · refine ⟨by omega, ?_, ?_, allA_snoc (by omega) hall (by simpa using h2), by rw [hn52]; simp, hs52⟩; (simp [numsA] at hl2 ⊢; omega); (rw [flatA_snoc (by omega), ← hout, hout2]; simp [actW])
  · first | omega | (dsimp only; omega)
 refine wpM.exit ?_
 refine QM.then_exit ?_
 refine QM.then_exit ?_
 refine QM.block_hit ?_
 refine QM.then ?_
 refine wpM.seq ?_
 refine wpM.seq (wpM.region ?_)
 refine LM.mv rfl ?_
 refine LM.val (ov_len Tryz.underlying47 rfl) ?_
 refine LM.val (ov_gtr rfl rfl) ?_
 refine LM.nil (QM.sub (e' := [(4, _), (55, _)]) au9 (QM.then ?_))
 refine wpM.condD rfl (fun h4 => ?_) (fun h4 => ?_)
 ·
  refine wpM.seq (wpM.region ?_)
  refine LM.as rfl (LM.as rfl ?_)
  refine LM.nil (QM.sub (e' := [(2, _), (3, _)]) au9 (QM.then ?_))
  refine wpM.ret ?_
  refine QM.then_ret ?_
  refine QM.leave (.inl rfl) [.tmp 2, .tmp 3] Tryz.results74 rfl ?_
  intro w' hm' hc' hg'
  have hil : i = xs.length := (by omega); subst hil; rw [List.take_length] at hall; have hr : wordsA xs = ([], 6) := (by unfold wordsA; rw [hall, if_pos rfl, if_pos (by omega)]); rw [hr]; exact ⟨hc', [], ⟨none, 0, 0, rfl, rfl, .nil _ _ _ _⟩, Mem.nil _, fun p hp => by cases hp⟩
 refine wpM.skip ?_
 refine QM.then (wpM.seq (wpM.region ?_))
 refine LM.mv rfl (LM.as rfl (LM.as rfl ?_))
 refine LM.nil (QM.sub (e' := [(2, _), (3, _)]) au9 (QM.then ?_))
 refine wpM.ret ?_
 refine QM.leave (.inl rfl) [.tmp 2, .tmp 3] Tryz.results74 rfl ?_
 intro w' hm' hc' hg'
 have hil : i = xs.length := (by omega); subst hil; rw [List.take_length] at hall hout; have hr : wordsA xs = (out, 0) := (by unfold wordsA; rw [hall, if_pos rfl, if_neg (by omega), hout]); rw [hr]; exact ⟨hc', mo, ⟨ado, no, capo, rfl, hno, hso⟩, hm'.pick _, fun p hp => Sl.ge hso p hp⟩
end Go.Eng
namespace Go.Eng
open Go Go.Proofs Go.RowKit
theorem eqA_at {xs ys : List Act} {i : Nat} (hl : xs.length = ys.length) (h : i < xs.length) (hp : xs.take i = ys.take i) (e : xs.getD i default = ys.getD i default) : xs.take (i + 1) = ys.take (i + 1) := by
  rw [take_snoc default h, take_snoc default (hl ▸ h), hp, e]
theorem fA_veqs (a b : Act) : veqs (fA a) (fA b) = decide (a = b) := by
  cases a; cases b; simp only [veqs, veq, fA, Bool.and_true, Act.mk.injEq, Bool.decide_and]; rfl
end Go.Eng
namespace Go.Eng
open Go Go.Proofs Go.RowKit
theorem bd_small {s : StV} (h : smallS s.C = true) : s.Bd := by
  unfold smallS at h
  simp only [Bool.and_eq_true, decide_eq_true_eq, List.all_eq_true] at h
  have hcl : (s.ps.map PgV.c).length = s.ps.length := List.length_map ..
  have h1 : s.gs.length ≤ 12 := h.1.1.1
  have h2 : s.ls.length ≤ 12 := h.1.1.2
  have h3 : (s.ps.map PgV.c).length ≤ 12 := h.1.2
  exact ⟨by omega, by omega, by omega, fun p hp => by have := h.2 p.c (List.mem_map_of_mem hp); omega⟩
end Go.Eng
namespace Go.Eng
open Go Go.Proofs Go.RowKit Go.ChangeShapes Go.WideShapes
set_option maxRecDepth 100000 in
theorem rdb_api_Op : Rdb Tryz.prog 135 fO (fun a => (-9223372036854775808 ≤ a.k ∧ a.k ≤ 9223372036854775807) ∧ (-9223372036854775808 ≤ a.a ∧ a.a ≤ 9223372036854775807) ∧ (-9223372036854775808 ≤ a.b ∧ a.b ≤ 9223372036854775807)) := fun {H enc w base sp held fuel cs x} h => by
  obtain ⟨h1, h2⟩ := trod_fields Tryz.underlying135 h
  rw [show Tryz.prog.cellsOf 135 = 3 by kernel_rfl] at h1
  have c3 : Tryz.prog.cellsOf 3 = 1 := by kernel_rfl
  match cs, h1 with
  | [a0, a1, a2], _ =>
    simp only [List.forall_mem_cons, c3, List.drop_succ_cons, List.drop_zero, List.take_succ_cons, List.take_zero] at h2
    obtain ⟨⟨_, _, f0⟩, ⟨_, _, f1⟩, ⟨_, _, f2⟩, _⟩ := h2
    obtain ⟨m0, e0, _, w0⟩ := DataW.trod_int Tryz.underlying3 f0
    obtain ⟨m1, e1, _, w1⟩ := DataW.trod_int Tryz.underlying3 f1
    obtain ⟨m2, e2, _, w2⟩ := DataW.trod_int Tryz.underlying3 f2
    simp only [List.cons.injEq, and_true] at e0 e1 e2
    subst e0
    subst e1
    subst e2
    exact ⟨⟨m0, m1, m2⟩, rfl, ⟨bounds_i64 w0, bounds_i64 w1, bounds_i64 w2⟩⟩
set_option maxRecDepth 100000 in
theorem rdb_api_Lock : Rdb Tryz.prog 63 fL (fun a => (-9223372036854775808 ≤ a.sl ∧ a.sl ≤ 9223372036854775807) ∧ (-9223372036854775808 ≤ a.cr ∧ a.cr ≤ 9223372036854775807) ∧ (-9223372036854775808 ≤ a.rd ∧ a.rd ≤ 9223372036854775807) ∧ (-9223372036854775808 ≤ a.wr ∧ a.wr ≤ 9223372036854775807)) := fun {H enc w base sp held fuel cs x} h => by
  obtain ⟨h1, h2⟩ := trod_fields Tryz.underlying63 h
  rw [show Tryz.prog.cellsOf 63 = 5 by kernel_rfl] at h1
  have c3 : Tryz.prog.cellsOf 3 = 1 := by kernel_rfl
  have c4 : Tryz.prog.cellsOf 4 = 1 := by kernel_rfl
  match cs, h1 with
  | [a0, a1, a2, a3, a4], _ =>
    simp only [List.forall_mem_cons, c3, c4, List.drop_succ_cons, List.drop_zero, List.take_succ_cons, List.take_zero] at h2
    obtain ⟨⟨_, _, f0⟩, ⟨_, _, f1⟩, ⟨_, _, f2⟩, ⟨_, _, f3⟩, ⟨_, _, f4⟩, _⟩ := h2
    obtain ⟨m0, e0, _⟩ := DataW.trod_bool Tryz.underlying4 f0
    obtain ⟨m1, e1, _, w1⟩ := DataW.trod_int Tryz.underlying3 f1
    obtain ⟨m2, e2, _, w2⟩ := DataW.trod_int Tryz.underlying3 f2
    obtain ⟨m3, e3, _, w3⟩ := DataW.trod_int Tryz.underlying3 f3
    obtain ⟨m4, e4, _, w4⟩ := DataW.trod_int Tryz.underlying3 f4
    simp only [List.cons.injEq, and_true] at e0 e1 e2 e3 e4
    subst e0
    subst e1
    subst e2
    subst e3
    subst e4
    exact ⟨⟨m0, m1, m2, m3, m4⟩, rfl, ⟨bounds_i64 w1, bounds_i64 w2, bounds_i64 w3, bounds_i64 w4⟩⟩
set_option maxRecDepth 100000 in
theorem rdW_Prog (w : World) : RdW Tryz.prog w 87 fPg (fun p => p.In w) := fun {H enc base sp held fuel cs x} h => by
  obtain ⟨h1, h2⟩ := trod_fields Tryz.underlying87 h
  rw [show Tryz.prog.cellsOf 87 = 2 by kernel_rfl] at h1
  have c0 : Tryz.prog.cellsOf 4 = 1 := by kernel_rfl
  have c1 : Tryz.prog.cellsOf 85 = 1 := by kernel_rfl
  match cs, h1 with
  | [a0, a1], _ =>
    simp only [List.forall_mem_cons, c0, c1, List.drop_succ_cons, List.drop_zero, List.take_succ_cons, List.take_zero] at h2
    obtain ⟨⟨_, _, f0⟩, ⟨n1, y1, f1⟩, _⟩ := h2
    obtain ⟨m0, e0, _⟩ := DataW.trod_bool Tryz.underlying4 f0
    simp only [List.cons.injEq, and_true] at e0
    subst e0
    obtain ⟨xs, ad, cap, e1, h3, _, h4⟩ := rdW_sl (s := 3) Tryz.underlying85 (rdb_api_Op.at w) (by kernel_rfl) (by decide) (fun _ => rfl) f1
    simp only [List.cons.injEq, and_true] at e1
    subst e1
    exact ⟨⟨⟨m0, xs⟩, ad, xs.length, cap⟩, rfl, rfl, h3⟩
set_option maxRecDepth 100000 in
theorem rdW_Setup (w : World) : RdW Tryz.prog w 30 StV.cs (fun s => s.In w) := fun {H enc base sp held fuel cs x} h => by
  obtain ⟨h1, h2⟩ := trod_fields Tryz.underlying30 h
  rw [show Tryz.prog.cellsOf 30 = 5 by kernel_rfl] at h1
  have c0 : Tryz.prog.cellsOf 3 = 1 := by kernel_rfl
  have c1 : Tryz.prog.cellsOf 26 = 1 := by kernel_rfl
  have c2 : Tryz.prog.cellsOf 27 = 1 := by kernel_rfl
  have c3 : Tryz.prog.cellsOf 28 = 1 := by kernel_rfl
  match cs, h1 with
  | [a0, a1, a2, a3, a4], _ =>
    simp only [List.forall_mem_cons, c0, c1, c2, c3, List.drop_succ_cons, List.drop_zero, List.take_succ_cons, List.take_zero] at h2
    obtain ⟨⟨_, _, f0⟩, ⟨_, _, f1⟩, ⟨_, _, f2⟩, ⟨_, _, f3⟩, ⟨_, _, f4⟩, _⟩ := h2
    obtain ⟨m0, e0, _, _⟩ := DataW.trod_int Tryz.underlying3 f0
    obtain ⟨m1, e1, _, _⟩ := DataW.trod_int Tryz.underlying3 f1
    obtain ⟨gs, ga, gc, e2, h3, _, _⟩ := rdW_sl (s := 1) Tryz.underlying26 (Rdb.at (rdb_I Tryz.underlying3) w) (by kernel_rfl) (by decide) (fun _ => rfl) f2
    obtain ⟨ls, la, lc, e3, h4, _, _⟩ := rdW_sl (s := 5) Tryz.underlying27 (rdb_api_Lock.at w) (by kernel_rfl) (by decide) (fun _ => rfl) f3
    obtain ⟨ps, pa, pc, e4, h5, h6, _⟩ := rdW_sl (s := 2) Tryz.underlying28 (rdW_Prog w) (by kernel_rfl) (by decide) (fun _ => rfl) f4
    simp only [List.cons.injEq, and_true] at e0 e1 e2 e3 e4
    subst e0; subst e1; subst e2; subst e3; subst e4
    exact ⟨⟨m0, m1, gs, ga, gs.length, gc, ls, la, ls.length, lc, ps, pa, ps.length, pc⟩, rfl, ⟨rfl, h3, rfl, h4, rfl, h5, h6⟩⟩
end Go.Eng
namespace Go.Eng
open Go Go.Proofs Go.RowKit
abbrev sB (b : Nat) (ad : Option Addr) (n cap : Nat) : Nat × Obj := (b, .cells #[.slice ad n cap] 47 (0, 0))
def EachAT (ad : Option Addr) (n cap : Nat) (n0 : Nat) (v : Value) (m : Mem0) : Prop := ∃ b1, v = .func (.func 99999) #[] #[.pointer (some ⟨b1, 0, none⟩)] ∧ m = [sB b1 ad n cap] ∧ n0 ≤ b1
theorem EachAT.mono {ad : Option Addr} {n cap : Nat} : ∀ (k k' : Nat) u m, k' ≤ k → EachAT ad n cap k u m → EachAT ad n cap k' u m := fun k k' u m h ⟨b1, h1, h2, h3⟩ => ⟨b1, h1, h2, by omega⟩
set_option maxRecDepth 100000 in
theorem asame_spec {xs ys : List Act} {ad1 ad2 : Option Addr} {n1 n2 cap1 cap2 : Nat} (w : World) (hn1 : n1 = xs.length) (hl1 : Sr fA 5 xs (.slice ad1 n1 cap1) w) (hn2 : n2 = ys.length) (hl2 : Sr fA 5 ys (.slice ad2 n2 cap2) w) (hx : xs.length ≤ 1000000000) : Ret Tryz.prog 32 #[.slice ad1 n1 cap1, .slice ad2 n2 cap2] w (fun v w' => v = .bool (decide (xs = ys)) ∧ Ext w w') := by
 refine Ret.enterM (l := [.slice ad1 n1 cap1, .slice ad2 n2 cap2]) Tryz.func32 rfl Tryz.ntmps32 rfl ([]) (no) (Mem.nil w) ?_
 refine wpM.seq (wpM.region ?_)
 refine LM.as rfl ?_
 refine LM.nil (QM.sub (e' := [(0, _), (1, _)]) au9 (QM.then ?_))
 refine wpM.seq ?_
 refine wpM.seq (wpM.region ?_)
 refine LM.mv rfl ?_
 refine LM.val (ov_len Tryz.underlying47 rfl) ?_
 refine LM.mv rfl ?_
 refine LM.val (ov_len Tryz.underlying47 rfl) ?_
 refine LM.val (ov_neq rfl rfl) ?_
 refine LM.nil (QM.sub (e' := [(0, _), (1, _), (10, _)]) au9 (QM.then ?_))
 refine wpM.condD rfl (fun h1 => ?_) (fun h1 => ?_)
 ·
  refine wpM.seq (wpM.region ?_)
  refine LM.as rfl ?_
  refine LM.nil (QM.sub (e' := [(4, _)]) ⟨rfl, trivial⟩ (QM.then ?_))
  refine wpM.ret ?_
  refine QM.then_ret ?_
  refine QM.leave (.inl rfl) [.tmp 4] Tryz.results32 rfl ?_
  intro w' hm' hc' hg'
  refine ⟨?_, hc'⟩; show Value.bool false = _; rw [decide_eq_false (show ¬ xs = ys by intro q; have := congrArg List.length q; omega)]
 refine wpM.skip ?_
 refine QM.then ?_
 refine wpM.seq ?_
 refine wpM.seq (wpM.region ?_)
 refine LM.as rfl ?_
 refine LM.nil (QM.sub (e' := [(0, _), (1, _), (5, _)]) au9 (QM.then ?_))
 refine wpM.block ?_
 refine wpM.loopK0 (α := Nat) (fun i => [(5, .int .i64 (i : Nat))]) [(0, _), (1, _)] (fun i => []) (fun i => i ≤ xs.length ∧ xs.take i = ys.take i) (fun i => xs.length - i) (0) ⟨au2, rfl, rfl, trivial⟩ au1 ⟨Nat.zero_le _, rfl⟩ ?_
 rintro i ⟨hi, ha⟩
 change wpM _ _ _ _ _ _ _ ([]) _ _ _
 refine wpM.seq ?_
 refine wpM.seq (wpM.region ?_)
 refine LM.mv rfl (LM.mv rfl ?_)
 refine LM.val (ov_len Tryz.underlying47 rfl) ?_
 refine LM.val (ov_lss rfl rfl) ?_
 refine LM.nil (QM.sub (e' := [(0, _), (1, _), (5, _), (14, _)]) au9 (QM.then ?_))
 refine wpM.condD rfl (fun h2 => ?_) (fun h2 => ?_)
 ·
  refine wpM.skip ?_
  refine QM.then ?_
  refine wpM.seq ?_
  refine wpM.block ?_
  refine wpM.seq ?_
  refine wpM.draw [(0, 0), (1, 0), (2, 0), (3, 1), (4, 0), (5, 0), (6, 0), (7, 1), (8, 0)] (by kernel_rfl) (by kernel_rfl) ?_
  refine LD.val rfl rfl (ov_move rfl) ?_
  refine LD.val rfl rfl (ov_move rfl) ?_
  refine LD.val rfl rfl (ov_idxSN au6 Tryz.underlying47 Tryz.sizeOf123 rfl rfl (by omega)) ?_
  first | refine LD.rd rfl rfl (om_slA (by assumption) (by intro _; rfl) Tryz.isAgg123 Tryz.sizeOf123 rfl au3) ?_ | refine LD.rdC rfl rfl (om_srEA (by assumption) (by intro _; rfl) Tryz.isAgg123 Tryz.sizeOf123 rfl au3 id) ?_ | refine LD.rd rfl rfl (om_ldW Tryz.isAgg123 Tryz.sizeOf123 rfl rfl) ?_ | refine LD.rd rfl rfl (om_ldA Tryz.isAgg123 Tryz.sizeOf123 rfl (vs := [_, _, _, _, _]) rfl ⟨rfl, rfl, rfl, rfl, rfl, trivial⟩) ?_
  refine LD.val rfl rfl (ov_move rfl) ?_
  refine LD.val rfl rfl (ov_move rfl) ?_
  refine LD.val rfl rfl (ov_idxSN au6 Tryz.underlying47 Tryz.sizeOf123 rfl rfl (by omega)) ?_
  first | refine LD.rd rfl rfl (om_slA (by assumption) (by intro _; rfl) Tryz.isAgg123 Tryz.sizeOf123 rfl au3) ?_ | refine LD.rdC rfl rfl (om_srEA (by assumption) (by intro _; rfl) Tryz.isAgg123 Tryz.sizeOf123 rfl au3 id) ?_ | refine LD.rd rfl rfl (om_ldW Tryz.isAgg123 Tryz.sizeOf123 rfl rfl) ?_ | refine LD.rd rfl rfl (om_ldA Tryz.isAgg123 Tryz.sizeOf123 rfl (vs := [_, _, _, _, _]) rfl ⟨rfl, rfl, rfl, rfl, rfl, trivial⟩) ?_
  refine LD.val rfl rfl (ov_aneq Tryz.underlying123 (by kernel_rfl) (by kernel_rfl) (by decide) rfl rfl (by rfl) ⟨(by first | rfl | trivial), (by first | rfl | trivial), (by first | rfl | trivial), (by first | rfl | trivial), (by first | rfl | trivial), trivial⟩) ?_
  refine LD.nil ?_
  refine QM.sub (e' := [(0, _), (1, _), (5, _), (25, _)]) au9 (QM.then ?_)
  first | refine wpM.condD rfl (fun h3 => ?_) (fun h3 => ?_) | refine wpM.condB rfl (fun h3 => ?_) (fun h3 => ?_)
  ·
   refine wpM.seq (wpM.region ?_)
   refine LM.as rfl ?_
   refine LM.nil (QM.sub (e' := [(4, _)]) ⟨rfl, trivial⟩ (QM.then ?_))
   refine wpM.ret ?_
   refine QM.block_ret ?_
   refine QM.then_ret ?_
   refine QM.then_ret ?_
   refine QM.block_ret ?_
   refine QM.then_ret ?_
   refine QM.leave (.inl rfl) [.tmp 4] Tryz.results32 rfl ?_
   intro w' hm' hc' hg'
   refine ⟨?_, hc'⟩; show Value.bool false = _; rw [decide_eq_false (show ¬ xs = ys by intro q; rw [fA_veqs, q] at h3; simp at h3)]
  refine wpM.skip ?_
  refine QM.block_normal ?_
  refine QM.then (wpM.region ?_)
  refine LM.mv rfl ?_
  refine LM.val (ov_add64 rfl rfl (by omega)) ?_
  refine LM.as rfl ?_
  refine LM.nil (QM.sub (e' := [(0, _), (1, _), (5, _)]) au9 ?_)
  refine QM.againK (i + 1) ⟨au2, rfl, rfl, trivial⟩ au1 (fun _ h => h) ?_ ?_
  · exact ⟨by omega, eqA_at (by omega) (by omega) ha (by rw [fA_veqs] at h3; simpa using h3)⟩
  · omega
 refine wpM.exit ?_
 refine QM.then_exit ?_
 refine QM.then_exit ?_
 refine QM.block_hit ?_
 refine QM.then (wpM.seq (wpM.region ?_))
 refine LM.as rfl ?_
 refine LM.nil (QM.sub (e' := [(4, _)]) ⟨rfl, trivial⟩ (QM.then ?_))
 refine wpM.ret ?_
 refine QM.leave (.inl rfl) [.tmp 4] Tryz.results32 rfl ?_
 intro w' hm' hc' hg'
 refine ⟨?_, hc'⟩; show Value.bool true = _; rw [decide_eq_true]; have e1 : xs.take i = xs := List.take_of_length_le (by omega); have e2 : ys.take i = ys := List.take_of_length_le (by omega); rw [← e1, ← e2, ha]
end Go.Eng
namespace Go.Eng
open Go Go.Proofs Go.RowKit
theorem kindAT_nm {k : Int} (h : 1 ≤ k ∧ k ≤ 8) : kindAT (acT k) = k := by
  have : k = 1 ∨ k = 2 ∨ k = 3 ∨ k = 4 ∨ k = 5 ∨ k = 6 ∨ k = 7 ∨ k = 8 := by omega
  rcases this with rfl | rfl | rfl | rfl | rfl | rfl | rfl | rfl <;> decide +kernel
def setL : Nat → List Int → List Int → List Int
  | _, [], xs => xs
  | i, n :: ns, xs => setL (i + 1) ns (xs.set i n)
theorem numG_words {ws : List Wrd} : ∀ (ns : List Int) (tl : List Wrd) (j i : Nat) (xs : List Int), ws.drop j = ns.map numW ++ tl → numG ws ns.length j i xs = (j + ns.length, 0, setL i ns xs)
  | [], tl, j, i, xs, h => rfl
  | n :: ns, tl, j, i, xs, h => by
    have g : ws.getD j default = numW n := drop_getD default h 0
    have l : j < ws.length := drop_len h (j := 0) (by simp)
    have h2 : ws.drop (j + 1) = ns.map numW ++ tl := by rw [← List.drop_drop, h]; rfl
    rw [List.length_cons, numG_next (by omega) (by rw [decide_eq_false (show ¬ ws.length ≤ j by omega), g]; rfl), Nat.add_sub_cancel, numG_words ns tl (j + 1) (i + 1) _ h2, g]
    show (j + 1 + ns.length, 0, _) = (j + (ns.length + 1), 0, _)
    rw [show j + 1 + ns.length = j + (ns.length + 1) by omega]; rfl
theorem act_back {o : Act} (h : rightA o = true) : toA o.k (setL 0 ((numsA o).take (manyA o.k)) zer4) = o := by
  obtain ⟨k, a, b, c, d⟩ := o
  unfold rightA numB at h
  simp only [Bool.and_eq_true, Bool.or_eq_true, decide_eq_true_eq] at h
  obtain ⟨_, ⟨⟨⟨_, ha⟩, ⟨_, hb⟩⟩, ⟨_, hc⟩⟩, ⟨_, hd⟩⟩ := h
  have hm : manyA k = 0 ∨ manyA k = 1 ∨ manyA k = 2 ∨ manyA k = 4 := by unfold manyA; (repeat' split) <;> omega
  simp only
  rcases hm with hm | hm | hm | hm <;> rw [hm] at ha hb hc hd ⊢
  · obtain rfl : a = 0 := by omega
    obtain rfl : b = 0 := by omega
    obtain rfl : c = 0 := by omega
    obtain rfl : d = 0 := by omega
    rfl
  · obtain rfl : b = 0 := by omega
    obtain rfl : c = 0 := by omega
    obtain rfl : d = 0 := by omega
    rfl
  · obtain rfl : c = 0 := by omega
    obtain rfl : d = 0 := by omega
    rfl
  · rfl
theorem oneA_words {ws tl : List Wrd} {p : Nat} {o : Act} (h : ws.drop p = actW o ++ tl) (hr : rightA o = true) : oneA ws p = (o, p + (actW o).length, 0) := by
  have hk : 1 ≤ o.k ∧ o.k ≤ 8 := by
    unfold rightA kindOk at hr; simp only [Bool.and_eq_true, decide_eq_true_eq] at hr; exact hr.1
  have hm := manyA_le o.k
  have h0 : ws.drop p = ⟨1, acT o.k, 0, 0⟩ :: (((numsA o).take (manyA o.k)).map numW ++ (mk3 [59] :: tl)) := by rw [h]; simp [actW]
  have g0 : ws.getD p default = ⟨1, acT o.k, 0, 0⟩ := drop_getD default h0 0
  have l0 : p < ws.length := drop_len h0 (j := 0) (by simp)
  have h1 : ws.drop (p + 1) = ((numsA o).take (manyA o.k)).map numW ++ (mk3 [59] :: tl) := by rw [← List.drop_drop, h0]; rfl
  have hK : kindA ws p = o.k := by rw [kindA_yes l0 (by rw [g0]), g0]; exact kindAT_nm hk
  have hl : ((numsA o).take (manyA o.k)).length = manyA o.k := by rw [List.length_take]; exact Nat.min_eq_left hm
  have hN : numK ws p = (p + 1 + manyA o.k, 0, setL 0 ((numsA o).take (manyA o.k)) zer4) := by
    unfold numK; rw [hK]
    have := numG_words ((numsA o).take (manyA o.k)) _ (p + 1) 0 zer4 h1
    rw [hl] at this; exact this
  have h2 : ws.drop (p + 1 + manyA o.k) = mk3 [59] :: tl := by
    have := drop_add h1
    rwa [List.length_map, hl] at this
  have g2 : ws.getD (p + 1 + manyA o.k) default = mk3 [59] := drop_getD default h2 0
  have l2 : p + 1 + manyA o.k < ws.length := drop_len h2 (j := 0) (by simp)
  rw [oneA_ok (by omega) hN ((isR_of l2 g2).trans rfl), hK, act_back hr]
  congr 2
  unfold actW; simp only [List.length_cons, List.length_append, List.length_map, hl, List.length_nil]; omega
theorem loopA_words {ws : List Wrd} : ∀ (ys out : List Act) (p : Nat), ws.drop p = ys.flatMap actW → ys.all rightA = true → out.length + ys.length ≤ 4000 → loopA ws p out = (out ++ ys, ((p + (ys.flatMap actW).length : Nat) : Int), 0)
  | [], out, p, h, _, _ => by
    have : ws.length ≤ p := by have := congrArg List.length h; simp at this; omega
    rw [loopA_end this]; simp
  | o :: ys, out, p, h, hr, hl => by
    rw [List.all_cons, Bool.and_eq_true] at hr
    rw [List.length_cons] at hl
    have h1 : ws.drop p = actW o ++ ys.flatMap actW := by rw [h, List.flatMap_cons]
    have ho := oneA_words h1 hr.1
    have h0 : kindA ws p ≠ 0 := fun q => by rw [oneA_0 q] at ho; have := congrArg (fun r => r.2.2) ho; cases this
    have hlt : p < ws.length := kindA_lt h0
    rw [loopA_g hlt h0 (by omega) ho, loopA_words ys (out ++ [o]) _ (drop_add h1) hr.2 (by rw [List.length_append, List.length_singleton]; omega)]
    simp [Nat.add_assoc]
theorem acts_words {xs : List Act} (h : mayA xs = true) : wordsA xs = (xs.flatMap actW, 0) ∧ actsO (xs.flatMap actW) 0 = (xs, ((xs.flatMap actW).length : Int), 0) := by
  unfold mayA at h; simp only [Bool.and_eq_true, decide_eq_true_eq] at h
  refine ⟨by unfold wordsA; rw [h.2, if_pos rfl, if_neg (by omega)], ?_⟩
  have := loopA_words (ws := xs.flatMap actW) xs [] 0 (by simp) h.2 (by simpa using h.1)
  rw [show (0 : Int) = ((0 : Nat) : Int) from rfl, acts_nat (Nat.zero_le _), this]; simp
theorem wordsA_err (xs : List Act) : (wordsA xs).2 = 0 ↔ mayA xs = true := by
  constructor
  · intro h
    unfold wordsA at h; unfold mayA
    split at h
    · rename_i q
      split at h
      · cases h
      · rw [q, decide_eq_true (by omega)]; rfl
    · cases h
  · intro h; rw [(acts_words h).1]
end Go.Eng
namespace Go.Eng
open Go Go.Proofs Go.RowKit
section
variable {P : Program} {ty : TypeId} {e : Env} {x lo hi : Operand} {t : TypeId} {l : List UInt8}
theorem ov_sslcLo {k : IntKind} {i : Int} (ht : P.underlying t = some .string) (hx : ev e x = some (vS l)) (hl : ev e lo = some (.int k i)) (h1 : 0 ≤ i) (h2 : i ≤ l.length) :
    OpP P (.slice t x (some lo) none none) ty e (vS (l.drop i.toNat)) := fun w ρ hρ _ _ _ _ => by
  have a1 : 0 ≤ ((bs l).size : Int) ∧ ((bs l).size : Int) ≤ ((bs l).size : Int) := by omega
  have a2 : 0 ≤ i ∧ i ≤ (((bs l).size : Nat) : Int) := by rw [bs_size]; omega
  have h4 : (bs l).extract i.toNat (bs l).size = bs (l.drop i.toNat) := by
    rw [bs_size]
    have := Lib.extract_eq (bs l) i.toNat l.length
    refine this.trans ?_
    show bs ((l.drop i.toNat).take (l.length - i.toNat)) = _
    rw [List.take_of_length_le (by rw [List.length_drop]; omega)]
  simp [execOp, Instr.sliceAt, Instr.slice, Instr.sliceBounds, Instr.sliceBound, asIntOf, hρ x _ hx, hρ lo _ hl, Result.andThen, run_underlying ht, a2, h4]
theorem ov_sslcHi {k : IntKind} {j : Int} (ht : P.underlying t = some .string) (hx : ev e x = some (vS l)) (hh : ev e hi = some (.int k j)) (h1 : 0 ≤ j) (h3 : j ≤ l.length) :
    OpP P (.slice t x none (some hi) none) ty e (vS (l.take j.toNat)) := fun w ρ hρ _ _ _ _ => by
  have a1 : 0 ≤ j ∧ j ≤ ((bs l).size : Int) := by rw [bs_size]; omega
  have h4 : (bs l).extract 0 j.toNat = bs (l.take j.toNat) := by
    have := Lib.extract_eq (bs l) 0 j.toNat
    simpa using this
  simp [execOp, Instr.sliceAt, Instr.slice, Instr.sliceBounds, Instr.sliceBound, asIntOf, hρ x _ hx, hρ hi _ hh, Result.andThen, run_underlying ht, a1, h4]
end
abbrev blankL : List UInt8 := [32, 9, 10]
abbrev digitL : List UInt8 := [48, 49, 50, 51, 52, 53, 54, 55, 56, 57]
theorem blanks_blank (c : UInt8) : blankL.contains c = blankB c := all256 (fun c => blankL.contains c) blankB (by decide +kernel) c
theorem digits_dig (c : UInt8) : digitL.contains c = digB c := all256 (fun c => digitL.contains c) digB (by decide +kernel) c
theorem letters_at (c : UInt8) : decide (0 ≤ Lib.indexByte lettersL c) = letB c := all256 (fun c => decide (0 ≤ Lib.indexByte lettersL c)) letB (by decide +kernel) c
theorem digits_at (c : UInt8) : decide (0 ≤ Lib.indexByte digitL c) = digB c := all256 (fun c => decide (0 ≤ Lib.indexByte digitL c)) digB (by decide +kernel) c
theorem trim_len {of : List UInt8} {p : UInt8 → Bool} (hp : ∀ c, of.contains c = p c) (s : List UInt8) (i : Nat) : (Lib.trimLeftS (s.drop i) of).length = s.length - i - runL p s i ∧ runL p s i ≤ s.length - i := by
  have hf : (fun c => of.contains c) = p := funext hp
  have h1 : (s.drop i).length = ((s.drop i).takeWhile p).length + ((s.drop i).dropWhile p).length := by
    conv => lhs; rw [← List.takeWhile_append_dropWhile (p := p) (l := s.drop i)]
    rw [List.length_append]
  unfold Lib.trimLeftS runL
  rw [hf]
  rw [List.length_drop] at h1
  omega
theorem tw_take (p : UInt8 → Bool) : ∀ (l : List UInt8), l.take (l.takeWhile p).length = l.takeWhile p
  | [] => rfl
  | c :: l => by
    rw [List.takeWhile_cons]
    cases h : p c with
    | true => rw [if_pos rfl, List.length_cons, List.take_succ_cons, tw_take p l]
    | false => rfl
theorem run_pre (p : UInt8 → Bool) (s : List UInt8) (i : Nat) : (s.drop i).take (runL p s i) = (s.drop i).takeWhile p := tw_take p _
/-! blanks and remarks -/
def skipF : Nat → List UInt8 → Nat → Nat
  | 0, s, i => i + runL blankB s i
  | f + 1, s, i => if decide (i + runL blankB s i < s.length) && hashB (s.getD (i + runL blankB s i) 0) then skipF f s (i + runL blankB s i + runL notNl s (i + runL blankB s i)) else i + runL blankB s i
theorem hash_go {s : List UInt8} {j : Nat} (h : j < s.length) (hh : hashB (s.getD j 0) = true) : j < j + runL notNl s j := by
  have := runL_step (p := notNl) h (hash_nl hh); omega
theorem skipF_fuel (s : List UInt8) : ∀ (f g i : Nat), s.length - i ≤ f → s.length - i ≤ g → skipF f s i = skipF g s i
  | 0, 0, i, _, _ => rfl
  | 0, g + 1, i, h1, h2 => by rw [skipF, skipF, if_neg (by simp; omega)]
  | f + 1, 0, i, h1, h2 => by rw [skipF, skipF, if_neg (by simp; omega)]
  | f + 1, g + 1, i, h1, h2 => by
    simp only [skipF]
    split
    · rename_i q
      simp only [Bool.and_eq_true, decide_eq_true_eq] at q
      have := hash_go q.1 q.2
      exact skipF_fuel s f g _ (by omega) (by omega)
    · rfl
def skipO (s : List UInt8) (i : Nat) : Nat := skipF (s.length - i) s i
theorem skip_stop {s : List UInt8} {i : Nat} (h : (decide (i + runL blankB s i < s.length) && hashB (s.getD (i + runL blankB s i) 0)) = false) : skipO s i = i + runL blankB s i := by
  unfold skipO
  cases hf : s.length - i with
  | zero => rfl
  | succ f => rw [skipF, if_neg (by rw [h]; simp)]
theorem skip_go {s : List UInt8} {i : Nat} (h : (decide (i + runL blankB s i < s.length) && hashB (s.getD (i + runL blankB s i) 0)) = true) : skipO s i = skipO s (i + runL blankB s i + runL notNl s (i + runL blankB s i)) := by
  have q := h
  simp only [Bool.and_eq_true, decide_eq_true_eq] at q
  have := hash_go q.1 q.2
  unfold skipO
  obtain ⟨f, hf⟩ : ∃ f, s.length - i = f + 1 := ⟨s.length - i - 1, by omega⟩
  rw [hf, skipF, if_pos h]
  exact skipF_fuel s _ _ _ (by omega) (Nat.le_refl _)
theorem skipF_end (s : List UInt8) : ∀ (f i : Nat), i ≤ s.length → s.length - i ≤ f → i ≤ skipF f s i ∧ skipF f s i ≤ s.length ∧ (skipF f s i < s.length → blankB (s.getD (skipF f s i) 0) = false ∧ hashB (s.getD (skipF f s i) 0) = false)
  | f, i, h, hf => by
    have hb := runL_le blankB s i
    have stop : (decide (i + runL blankB s i < s.length) && hashB (s.getD (i + runL blankB s i) 0)) = false → i ≤ i + runL blankB s i ∧ i + runL blankB s i ≤ s.length ∧ (i + runL blankB s i < s.length → blankB (s.getD (i + runL blankB s i) 0) = false ∧ hashB (s.getD (i + runL blankB s i) 0) = false) := fun q => by
      refine ⟨by omega, by omega, fun hl => ?_⟩
      rw [decide_eq_true hl, Bool.true_and] at q
      refine ⟨?_, q⟩
      cases hc : blankB (s.getD (i + runL blankB s i) 0) with
      | false => rfl
      | true =>
        exfalso
        have e1 : (s.drop i).takeWhile blankB = (s.drop i).take (runL blankB s i) := (run_pre blankB s i).symm
        have h3 : (s.drop i)[runL blankB s i]? = some (s.getD (i + runL blankB s i) 0) := by
          rw [List.getElem?_drop]; exact getq 0 hl
        have := takeWhile_next (p := blankB) (l := s.drop i) h3
        rw [this] at hc; cases hc
    cases f with
    | zero =>
      rw [skipF]; exact stop (by rw [decide_eq_false (by omega)]; rfl)
    | succ f =>
      rw [skipF]
      split
      · rename_i q
        simp only [Bool.and_eq_true, decide_eq_true_eq] at q
        have h1 := hash_go q.1 q.2
        have h2 := runL_le notNl s (i + runL blankB s i)
        have := skipF_end s f (i + runL blankB s i + runL notNl s (i + runL blankB s i)) (by omega) (by omega)
        exact ⟨by omega, this.2⟩
      · rename_i q
        exact stop (by simpa using q)
where
  takeWhile_next {p : UInt8 → Bool} {l : List UInt8} {c : UInt8} (h : l[(l.takeWhile p).length]? = some c) : p c = false := by
    induction l with
    | nil => simp at h
    | cons a l ih =>
      rw [List.takeWhile_cons] at h
      cases ha : p a with
      | true => rw [ha, if_pos rfl, List.length_cons, List.getElem?_cons_succ] at h; exact ih h
      | false => rw [ha] at h; simp at h; rw [← h]; exact ha
theorem skip_end {s : List UInt8} {i : Nat} (h : i ≤ s.length) : i ≤ skipO s i ∧ skipO s i ≤ s.length ∧ (skipO s i < s.length → blankB (s.getD (skipO s i) 0) = false ∧ hashB (s.getD (skipO s i) 0) = false) := skipF_end s _ i h (Nat.le_refl _)
theorem hash_blank {c : UInt8} (h : hashB c = true) : blankB c = false := by
  have := all256 (fun c => !hashB c || !blankB c) (fun _ => true) (by decide +kernel) c
  rw [h] at this; simpa using this
theorem scanR_blanks {s : List UInt8} {last : Int} {out : List Wrd} : ∀ (n i : Nat), n = runL blankB s i → i ≤ s.length → scanR s i last out = scanR s (i + n) last out
  | 0, i, _, _ => rfl
  | n + 1, i, h, hi => by
    have hl := runL_le blankB s i
    have hlt : i < s.length := by omega
    have hb : blankB (s.getD i 0) = true := by
      cases hb : blankB (s.getD i 0) with
      | true => rfl
      | false => rw [runL_stop hlt hb] at h; cases h
    have h1 := runL_step hlt hb
    rw [scanR_blank hlt hb, scanR_blanks n (i + 1) (by omega) (by omega), show i + 1 + n = i + (n + 1) by omega]
theorem scanR_skipF {s : List UInt8} {last : Int} {out : List Wrd} : ∀ (f i : Nat), i ≤ s.length → scanR s i last out = scanR s (skipF f s i) last out
  | 0, i, h => scanR_blanks _ i rfl h
  | f + 1, i, h => by
    rw [scanR_blanks _ i rfl h, skipF]
    split
    · rename_i q
      simp only [Bool.and_eq_true, decide_eq_true_eq] at q
      have hb := hash_blank q.2
      have h2 := runL_le notNl s (i + runL blankB s i)
      rw [scanR_hash q.1 hb q.2 rfl]
      refine scanR_skipF f _ ?_; omega
    · rfl
theorem scanR_skip {s : List UInt8} {i : Nat} {last : Int} {out : List Wrd} (h : i ≤ s.length) : scanR s i last out = scanR s (skipO s i) last out := scanR_skipF _ i h
theorem idx_nl : ∀ (l : List UInt8), Lib.indexByte l 10 = if (l.takeWhile notNl).length = l.length then -1 else ((l.takeWhile notNl).length : Int)
  | [] => rfl
  | c :: l => by
    have ih := idx_nl l
    have hle := (List.takeWhile_sublist (l := l) notNl).length_le
    rw [Lib.indexByte, ih, List.takeWhile_cons]
    have hc : notNl c = !(c == 10) := all256 notNl (fun c => !(c == 10)) (by decide +kernel) c
    cases hq : c == 10 with
    | true => rw [hc, hq]; simp
    | false =>
      rw [hc, hq]
      simp only [Bool.not_false, if_true, Bool.false_eq_true, if_false, List.length_cons]
      by_cases h2 : (l.takeWhile notNl).length = l.length
      · simp [h2]
      · have h3 : ¬ (((l.takeWhile notNl).length : Int) = -1) := by omega
        simp [h2, h3]
theorem pre_hash {s : List UInt8} {j : Nat} : Lib.hasPrefix (s.drop j) [35] = (decide (j < s.length) && hashB (s.getD j 0)) := by
  unfold Lib.hasPrefix
  by_cases h : j < s.length
  · rw [drop_get h, decide_eq_true h, Bool.true_and]
    have := all256 (fun c => List.isPrefixOf [35] (c :: ([] : List UInt8))) hashB (by decide +kernel) (s.getD j 0)
    simpa [List.isPrefixOf] using this
  · rw [List.drop_of_length_le (by omega), decide_eq_false h]; rfl
/-! numbers -/
def okT (t : List UInt8) : Bool := decide (t ≠ []) && decide (t.length ≤ 9) && !(decide (1 < t.length) && decide ((((t.getD 0 0).toNat : Nat) : Int) = 48))
theorem dec_num : ∀ (l : List UInt8) (k acc : Nat), l.length ≤ k → l.all digB = true → ∃ m : Nat, Lib.decFrom acc l = some m ∧ (m : Int) = numF k l acc
  | [], k, acc, _, _ => ⟨acc, rfl, by cases k <;> rfl⟩
  | c :: l, 0, acc, h, _ => absurd h (by simp)
  | c :: l, k + 1, acc, h, ha => by
    rw [List.all_cons, Bool.and_eq_true] at ha
    have hr := dig_rng ha.1
    obtain ⟨m, h1, h2⟩ := dec_num l k (acc * 10 + (c.toNat - 48)) (by simpa using h) ha.2
    refine ⟨m, ?_, ?_⟩
    · rw [Lib.decFrom, Lib.digitVal, if_pos (by omega)]; exact h1
    · rw [numF, if_pos ha.1, h2]; congr 1; omega
theorem atoi_num {t : List UInt8} (h0 : t ≠ []) (h : t.length ≤ 9) (ha : t.all digB = true) : Lib.atoi t = some (numF 9 t 0) := by
  match t, h0 with
  | c :: l, _ =>
    have hc : digB c = true := by rw [List.all_cons, Bool.and_eq_true] at ha; exact ha.1
    have hr := dig_rng hc
    have n1 : (c == 45) = false := by rw [beq_eq_false_iff_ne]; intro q; subst q; simp at hr
    have n2 : (c == 43) = false := by rw [beq_eq_false_iff_ne]; intro q; subst q; simp at hr
    obtain ⟨m, h1, h2⟩ := dec_num (c :: l) 9 0 h ha
    have e : Lib.atoi (c :: l) = if (c == 45) = true then (Lib.decNat l).map fun (m : Nat) => -(m : Int) else if (c == 43) = true then (Lib.decNat l).map fun (m : Nat) => (m : Int) else (Lib.decNat (c :: l)).map fun (m : Nat) => (m : Int) := rfl
    have e2 : Lib.decNat (c :: l) = Lib.decFrom 0 (c :: l) := rfl
    rw [e, n1, n2, if_neg (by simp), if_neg (by simp), e2, h1, Option.map_some, h2]; rfl
theorem numF_tw : ∀ (k : Nat) (l : List UInt8) (n : Int), numF k (l.takeWhile digB) n = numF k l n
  | 0, l, n => by cases l <;> (try (rw [List.takeWhile_cons]; split)) <;> rfl
  | k + 1, [], n => rfl
  | k + 1, c :: l, n => by
    rw [List.takeWhile_cons]
    cases h : digB c with
    | true => rw [if_pos rfl, numF, if_pos h, numF, if_pos h, numF_tw k l]
    | false => rw [if_neg (by simp)]; rw [numF, numF, if_neg (by rw [h]; simp)]
theorem atoi_ret {t : List UInt8} (h0 : t ≠ []) (h : t.length ≤ 9) (ha : t.all digB = true) (w : World) : Ret Tryz.prog 169 #[vS t] w (fun v w' => v = .tuple #[.int .i64 (numF 9 t 0), .nilIface] ∧ Ext w w') :=
  (Any.strconv_Atoi l172 (bs t) (numF 9 t 0) (by rw [bs_size]; omega) (atoi_num h0 h ha) w).mono (fun e w' ⟨he, k, hw⟩ => ⟨_, he, rfl, by rw [hw]; exact Ext.of_below (Lib.bytesWorld_below w _ _)⟩)
theorem tleft_ret (t of : List UInt8) (hx : of.length < 4294967281) (ha : of.all (fun b => decide (b.toNat < 128)) = true) (w : World) : Ret Tryz.prog 166 #[vS t, vS of] w (fun v w' => v = vS (Lib.trimLeftS t of) ∧ Ext w w') :=
  (Any.strings_TrimLeft_laid l161 l160set (bs t) (bs of) w (by rw [bs_size]; exact hx) (ascii_of_all ha)).mono (fun e w' ⟨he, hb⟩ => ⟨_, he, rfl, Ext.of_below hb⟩)
theorem pre_ret (t p : List UInt8) (w : World) : Ret Tryz.prog 143 #[vS t, vS p] w (fun v w' => v = .bool (Lib.hasPrefix t p) ∧ Ext w w') :=
  (Any.strings_HasPrefix l99 (bs t) (bs p) w).mono (fun e w' ⟨he, hw⟩ => ⟨_, he, rfl, by rw [hw]; exact Chg.refl _ _⟩)
theorem idx_ret (t : List UInt8) (c : Int) (w : World) : Ret Tryz.prog 144 #[vS t, .int .u8 c] w (fun v w' => v = .int .i64 (Lib.indexByte t c.toNat.toUInt8) ∧ Ext w w') :=
  (Any.strings_IndexByte l137 (bs t) c w).mono (fun e w' ⟨he, hw⟩ => ⟨_, he, rfl, by rw [hw]; exact Chg.refl _ _⟩)
end Go.Eng
namespace Go.Eng
open Go Go.Proofs Go.RowKit
abbrev xO (s : List UInt8) (i : Nat) (last kind : Int) : Obj := .cells #[vS s, .int .i64 (i : Nat), .int .i64 last, .int .i64 kind] 165 (0, 0)
abbrev xB (b : Nat) (s : List UInt8) (i : Nat) (last kind : Int) : Nat × Obj := (b, xO s i last kind)
set_option maxRecDepth 100000 in
theorem run_spec {of : List UInt8} {p : UInt8 → Bool} (hp : ∀ c, of.contains c = p c) (hof : of.length < 4294967281) (ha : of.all (fun b => decide (b.toNat < 128)) = true) (b : Nat) (s : List UInt8) (i : Nat) (last kind : Int) (w : World) (hi : i ≤ s.length) (hs : s.length ≤ 1000000000) (hM : Mem w [xB b s i last kind]) : Ret Tryz.prog 142 #[.pointer (some ⟨b, 0, none⟩), vS of] w (WrP b (vS ((s.drop i).take (runL p s i))) (xO s (i + runL p s i) last kind) w) := by
 have hti : ((i : Nat) : Int).toNat = i := Int.toNat_natCast i; have htl := trim_len hp s ((i : Nat) : Int).toNat; have hdl : (s.drop ((i : Nat) : Int).toNat).length = s.length - ((i : Nat) : Int).toNat := List.length_drop; have hrr : runL p s ((i : Nat) : Int).toNat = runL p s i := (by rw [hti])
 refine Ret.enterM (l := [.pointer (some ⟨b, 0, none⟩), vS of]) Tryz.func142 rfl Tryz.ntmps142 rfl ([xB b s i last kind]) ((fun x => x = b)) hM ?_
 refine wpM.seq (wpM.region ?_)
 refine LM.as rfl ?_
 refine LM.nil (QM.sub (e' := [(0, _), (1, _)]) au9 (QM.then ?_))
 refine wpM.seq ?_
 refine wpM.draw [(0, 0), (1, 0), (2, 0), (3, 1), (4, 0), (5, 0), (6, 0), (7, 1), (8, 0), (9, 0)] (by kernel_rfl) (by kernel_rfl) ?_
 refine LD.val rfl rfl (ov_move rfl) ?_
 refine LD.val rfl rfl (ov_nilCheck rfl) ?_
 refine LD.val rfl rfl (ov_field Tryz.underlying165 rfl Tryz.sizeOf9 rfl (k := 0) rfl rfl) ?_
 refine LD.rd rfl rfl (om_ld Tryz.isAgg9 rfl rfl) ?_
 refine LD.val rfl rfl (ov_move rfl) ?_
 refine LD.val rfl rfl (ov_nilCheck rfl) ?_
 refine LD.val rfl rfl (ov_field Tryz.underlying165 rfl Tryz.sizeOf3 rfl (k := 1) rfl rfl) ?_
 refine LD.rd rfl rfl (om_ld Tryz.isAgg3 rfl rfl) ?_
 refine LD.val rfl rfl (ov_sslcLo Tryz.underlying9 rfl rfl (by omega) (by omega)) ?_
 refine LD.val rfl rfl (ov_assign rfl) ?_
 refine LD.nil ?_
 refine QM.sub (e' := [(0, _), (1, _), (5, _)]) au9 (QM.then (wpM.seq (wpM.region ?_)))
 refine LM.mv rfl ?_
 refine LM.val (ov_slenL Tryz.underlying9 rfl) ?_
 refine LM.mv rfl (LM.mv rfl ?_)
 refine LM.callE (oc_call (enters_fn Tryz.func166 (by kernel_rfl) rfl) rfl) (fun w hm hc hg => tleft_ret _ of hof ha w) ?_
 refine LM.val (ov_slenL Tryz.underlying9 rfl) ?_
 refine LM.val (ov_sub64 rfl rfl (by omega)) ?_
 refine LM.as rfl ?_
 refine LM.nil (QM.sub (e' := [(0, _), (5, _), (6, _)]) au9 (QM.then (wpM.seq (wpM.region ?_))))
 refine LM.mv rfl ?_
 refine LM.val (ov_nilCheck rfl) ?_
 refine LM.val (ov_field Tryz.underlying165 rfl Tryz.sizeOf3 rfl (k := 1) rfl rfl) ?_
 refine LM.rd (om_ld Tryz.isAgg3 rfl rfl) ?_
 refine LM.mv rfl ?_
 refine LM.val (ov_add64 rfl rfl (by omega)) ?_
 refine LM.val (ov_nilCheck rfl) ?_
 refine LM.val (ov_field Tryz.underlying165 rfl Tryz.sizeOf3 rfl (k := 1) rfl rfl) ?_
 refine LM.st Tryz.sizeOf3 rfl rfl rfl au5 rfl (fun _ => rfl) ?_
 refine LM.nil (QM.sub (e' := [(5, _), (6, _)]) au9 (QM.then (wpM.seq (wpM.region ?_))))
 refine LM.mv rfl (LM.mv rfl ?_)
 refine LM.val (ov_sslcHi Tryz.underlying9 rfl rfl (by omega) (by omega)) ?_
 refine LM.as rfl ?_
 refine LM.nil (QM.sub (e' := [(4, _)]) ⟨rfl, trivial⟩ (QM.then ?_))
 refine wpM.ret ?_
 refine QM.leave (.inl rfl) [.tmp 4] Tryz.results142 rfl ?_
 intro w' hm' hc' hg'
 have hAB : (((s.drop ((i : Nat) : Int).toNat).length : Nat) : Int) - (((Lib.trimLeftS (s.drop ((i : Nat) : Int).toNat) of).length : Nat) : Int) = ((runL p s i : Nat) : Int) := (by omega); have h3 := hm'.at b; rw [hAB] at h3; refine ⟨?_, hc', h3⟩; show vS ((s.drop ((i : Nat) : Int).toNat).take ((((s.drop ((i : Nat) : Int).toNat).length : Nat) : Int) - (((Lib.trimLeftS (s.drop ((i : Nat) : Int).toNat) of).length : Nat) : Int)).toNat) = _; rw [hAB, hti, Int.toNat_natCast]
set_option maxRecDepth 100000 in
theorem skip_spec (b : Nat) (s : List UInt8) (i : Nat) (last kind : Int) (w : World) (hi : i ≤ s.length) (hs : s.length ≤ 1000000000) (hM : Mem w [xB b s i last kind]) : Ret Tryz.prog 108 #[.pointer (some ⟨b, 0, none⟩)] w (WrP b (.tuple #[]) (xO s (skipO s i) last kind) w) := by
 refine Ret.enterM (l := [.pointer (some ⟨b, 0, none⟩)]) Tryz.func108 rfl Tryz.ntmps108 rfl ([xB b s i last kind]) ((fun x => x = b)) hM ?_
 refine wpM.seq (wpM.region ?_)
 refine LM.mv rfl ?_
 refine LM.cW (oc_call (enters_fn Tryz.func142 (by kernel_rfl) rfl) rfl) (fun w hm hc hg => run_spec blanks_blank (by decide) (by decide) b s i last kind w hi hs (hm.pick _)) rfl (fun _ => rfl) ?_
 refine LM.nil (QM.sub (e' := [(0, _)]) ⟨rfl, trivial⟩ (QM.then ?_))
 refine wpM.block ?_
 refine wpM.loopK0 (α := Nat × Nat) (fun ⟨i1, j⟩ => []) [(0, _)] (fun ⟨i1, j⟩ => xB b s j last kind :: []) (fun ⟨i1, j⟩ => i1 ≤ s.length ∧ skipO s i1 = skipO s i ∧ j = i1 + runL blankB s i1) (fun ⟨i1, j⟩ => s.length - i1) ((i, i + runL blankB s i)) ⟨rfl, trivial⟩ au1 ⟨hi, rfl, rfl⟩ ?_
 rintro ⟨i1, j⟩ ⟨hi1, hsk, hj⟩
 change wpM _ _ _ _ _ _ _ (xB b s j last kind :: []) _ _ _
 have hrl := runL_le blankB s i1; have hrn := runL_le notNl s j; have hjt : ((j : Nat) : Int).toNat = j := Int.toNat_natCast j
 refine wpM.seq ?_
 refine wpM.seq ?_
 refine wpM.draw [(0, 0), (1, 0), (2, 0), (3, 1), (4, 0), (5, 0), (6, 0), (7, 1), (8, 0), (9, 2)] (by kernel_rfl) (by kernel_rfl) ?_
 refine LD.val rfl rfl (ov_move rfl) ?_
 refine LD.val rfl rfl (ov_nilCheck rfl) ?_
 refine LD.val rfl rfl (ov_field Tryz.underlying165 rfl Tryz.sizeOf9 rfl (k := 0) rfl rfl) ?_
 refine LD.rd rfl rfl (om_ld Tryz.isAgg9 rfl rfl) ?_
 refine LD.val rfl rfl (ov_move rfl) ?_
 refine LD.val rfl rfl (ov_nilCheck rfl) ?_
 refine LD.val rfl rfl (ov_field Tryz.underlying165 rfl Tryz.sizeOf3 rfl (k := 1) rfl rfl) ?_
 refine LD.rd rfl rfl (om_ld Tryz.isAgg3 rfl rfl) ?_
 refine LD.val rfl rfl (ov_sslcLo Tryz.underlying9 rfl rfl (by omega) (by omega)) ?_
 refine LD.callE rfl rfl (oc_call (enters_fn Tryz.func143 (by kernel_rfl) rfl) rfl) (fun w hm hc hg => pre_ret _ [35] w) ?_
 refine LD.nil ?_
 refine QM.sub (e' := [(0, _), (14, _)]) au9 (QM.then ?_)
 first | refine wpM.condD rfl (fun h1 => ?_) (fun h1 => ?_) | refine wpM.condB rfl (fun h1 => ?_) (fun h1 => ?_)
 ·
  have hph : Lib.hasPrefix (s.drop ((j : Nat) : Int).toNat) [35] = (decide (j < s.length) && hashB (s.getD j 0)) := (by rw [hjt]; exact pre_hash); have hidx : Lib.indexByte (s.drop ((j : Nat) : Int).toNat) (Int.toNat 10).toUInt8 = if runL notNl s j = s.length - j then -1 else ((runL notNl s j : Nat) : Int) := (by rw [hjt]; have := idx_nl (s.drop j); rw [List.length_drop] at this; exact this); have hjl : j < s.length := (by have q := hph.symm.trans h1; simp only [Bool.and_eq_true, decide_eq_true_eq] at q; exact q.1); have hgo := hash_go hjl (by have q := hph.symm.trans h1; simp only [Bool.and_eq_true, decide_eq_true_eq] at q; exact q.2)
  refine wpM.skip ?_
  refine QM.then ?_
  refine wpM.seq ?_
  refine wpM.block ?_
  refine wpM.seq ?_
  refine wpM.draw [(0, 0), (1, 0), (2, 0), (3, 1), (4, 0), (5, 0), (6, 0), (7, 1), (8, 0), (9, 2), (10, 0)] (by kernel_rfl) (by kernel_rfl) ?_
  refine LD.val rfl rfl (ov_move rfl) ?_
  refine LD.val rfl rfl (ov_nilCheck rfl) ?_
  refine LD.val rfl rfl (ov_field Tryz.underlying165 rfl Tryz.sizeOf9 rfl (k := 0) rfl rfl) ?_
  refine LD.rd rfl rfl (om_ld Tryz.isAgg9 rfl rfl) ?_
  refine LD.val rfl rfl (ov_move rfl) ?_
  refine LD.val rfl rfl (ov_nilCheck rfl) ?_
  refine LD.val rfl rfl (ov_field Tryz.underlying165 rfl Tryz.sizeOf3 rfl (k := 1) rfl rfl) ?_
  refine LD.rd rfl rfl (om_ld Tryz.isAgg3 rfl rfl) ?_
  refine LD.val rfl rfl (ov_sslcLo Tryz.underlying9 rfl rfl (by omega) (by omega)) ?_
  refine LD.callE rfl rfl (oc_call (enters_fn Tryz.func144 (by kernel_rfl) rfl) rfl) (fun w hm hc hg => idx_ret _ 10 w) ?_
  refine LD.val rfl rfl (ov_assign rfl) ?_
  refine LD.nil ?_
  refine QM.sub (e' := [(0, _), (2, _)]) au9 (QM.then ?_)
  refine wpM.seq ?_
  refine wpM.seq (wpM.region ?_)
  refine LM.mv rfl ?_
  refine LM.val (ov_lss rfl rfl) ?_
  refine LM.nil (QM.sub (e' := [(0, _), (2, _), (28, _)]) au9 (QM.then ?_))
  refine wpM.joinK (α := Unit) (fun ⟨⟩ => [(2, .int .i64 (runL notNl s j : Nat))]) [(0, _)] (fun ⟨⟩ => xB b s j last kind :: []) (fun ⟨⟩ => True) ⟨rfl, trivial⟩ ?_ ?_
  ·
   refine wpM.condD rfl (fun h2 => ?_) (fun h2 => ?_)
   ·
    have hrv : runL notNl s j = s.length - j := (by have q := h2; rw [hidx] at q; split at q <;> omega)
    refine wpM.draw [(0, 0), (1, 0), (2, 0), (3, 1), (4, 0), (5, 0), (6, 0), (7, 0), (8, 1), (9, 0), (10, 0)] (by kernel_rfl) (by kernel_rfl) ?_
    refine LD.val rfl rfl (ov_move rfl) ?_
    refine LD.val rfl rfl (ov_nilCheck rfl) ?_
    refine LD.val rfl rfl (ov_field Tryz.underlying165 rfl Tryz.sizeOf9 rfl (k := 0) rfl rfl) ?_
    refine LD.rd rfl rfl (om_ld Tryz.isAgg9 rfl rfl) ?_
    refine LD.val rfl rfl (ov_slenL Tryz.underlying9 rfl) ?_
    refine LD.val rfl rfl (ov_move rfl) ?_
    refine LD.val rfl rfl (ov_nilCheck rfl) ?_
    refine LD.val rfl rfl (ov_field Tryz.underlying165 rfl Tryz.sizeOf3 rfl (k := 1) rfl rfl) ?_
    refine LD.rd rfl rfl (om_ld Tryz.isAgg3 rfl rfl) ?_
    refine LD.val rfl rfl (ov_sub64 rfl rfl (by omega)) ?_
    refine LD.val rfl rfl (ov_assign rfl) ?_
    refine LD.nil ?_
    refine QM.sub (e' := [(0, _), (2, _)]) au9 ?_
    refine QM.meetK (⟨⟩) ⟨(by first | rfl | exact lk rfl (by congr 1; omega) | exact lk rfl (by show Value.int .i64 (Lib.indexByte (s.drop ((j : Nat) : Int).toNat) (Int.toNat 10).toUInt8) = _; rw [hrv])), rfl, trivial⟩ au1 ?_
    · trivial
   have hrv : Lib.indexByte (s.drop ((j : Nat) : Int).toNat) (Int.toNat 10).toUInt8 = ((runL notNl s j : Nat) : Int) := (by have q := h2; rw [hidx] at q ⊢; split at q <;> split <;> omega)
   refine wpM.skip ?_
   refine QM.meetK (⟨⟩) ⟨(by first | rfl | exact lk rfl (by congr 1; omega) | exact lk rfl (by show Value.int .i64 (Lib.indexByte (s.drop ((j : Nat) : Int).toNat) (Int.toNat 10).toUInt8) = _; rw [hrv])), rfl, trivial⟩ au1 ?_
   · trivial
  rintro ⟨⟩ -
  change QM _ _ _ _ _ (xB b s j last kind :: []) _ _ _
  refine QM.then (wpM.region ?_)
  refine LM.mv rfl ?_
  refine LM.val (ov_nilCheck rfl) ?_
  refine LM.val (ov_field Tryz.underlying165 rfl Tryz.sizeOf3 rfl (k := 1) rfl rfl) ?_
  refine LM.rd (om_ld Tryz.isAgg3 rfl rfl) ?_
  refine LM.mv rfl ?_
  refine LM.val (ov_add64 rfl rfl (by omega)) ?_
  refine LM.val (ov_nilCheck rfl) ?_
  refine LM.val (ov_field Tryz.underlying165 rfl Tryz.sizeOf3 rfl (k := 1) rfl rfl) ?_
  refine LM.st Tryz.sizeOf3 rfl rfl rfl au5 rfl (fun _ => rfl) ?_
  refine LM.nil (QM.sub (e' := [(0, _)]) ⟨rfl, trivial⟩ ?_)
  refine QM.block_normal ?_
  refine QM.then (wpM.region ?_)
  change LM _ _ _ _ _ _ _ _ (xB b s (j + runL notNl s j) last kind :: []) _ _ _
  refine LM.mv rfl ?_
  refine LM.cW (oc_call (enters_fn Tryz.func142 (by kernel_rfl) rfl) rfl) (fun w hm hc hg => run_spec blanks_blank (by decide) (by decide) b s (j + runL notNl s j) last kind w (by omega) hs (hm.pick _)) rfl (fun _ => rfl) ?_
  refine LM.nil (QM.sub (e' := [(0, _)]) ⟨rfl, trivial⟩ ?_)
  refine QM.againK ((j + runL notNl s j, j + runL notNl s j + runL blankB s (j + runL notNl s j))) ⟨rfl, trivial⟩ au1 (fun _ h => h) ?_ ?_
  · exact ⟨by omega, by rw [← hsk, skip_go (i := i1) (by rw [← hj]; exact hph.symm.trans h1), ← hj], rfl⟩
  · first | omega | (dsimp only; omega)
 refine wpM.exit ?_
 refine QM.then_exit ?_
 refine QM.then_exit ?_
 refine QM.block_hit ?_
 refine QM.leave (.inr rfl) [] Tryz.results108 rfl ?_
 intro w' hm' hc' hg'
 have hph : Lib.hasPrefix (s.drop ((j : Nat) : Int).toNat) [35] = (decide (j < s.length) && hashB (s.getD j 0)) := (by rw [hjt]; exact pre_hash); refine ⟨rfl, hc', ?_⟩; rw [← hsk, skip_stop (i := i1) (by rw [← hj]; exact hph.symm.trans h1), ← hj]; exact hm'.at b
end Go.Eng
namespace Go.Eng
open Go Go.Proofs Go.RowKit
def tokW (s : List UInt8) (i : Nat) : Wrd := if digB (s.getD i 0) && !(oneO s i).2.2 then ⟨2, [], 0, (i : Nat)⟩ else (oneO s i).1
theorem dig_notlet {c : UInt8} (h : digB c = true) : letB c = false := dig_let c h
theorem take_dig {s : List UInt8} {i : Nat} (h : i < s.length) (hd : digB (s.getD i 0) = true) : (s.drop i).take (runL digB s i) ≠ [] ∧ ((s.drop i).take (runL digB s i)).length = runL digB s i ∧ ((s.drop i).take (runL digB s i)).all digB = true ∧ ((s.drop i).take (runL digB s i)).getD 0 0 = s.getD i 0 ∧ numF 9 ((s.drop i).take (runL digB s i)) 0 = numF 9 (s.drop i) 0 := by
  have h1 := runL_step h hd
  have hl : ((s.drop i).take (runL digB s i)).length = runL digB s i := by rw [run_pre]; rfl
  refine ⟨fun q => by rw [q] at hl; simp at hl; omega, hl, by rw [run_pre]; exact all_tw _ _, ?_, by rw [run_pre, numF_tw]⟩
  rw [List.getD_eq_getElem?_getD, List.getElem?_take_of_lt (by omega), List.getElem?_drop, ← List.getD_eq_getElem?_getD]; rfl
theorem okT_dig {s : List UInt8} {i : Nat} (h : i < s.length) (hd : digB (s.getD i 0) = true) : okT ((s.drop i).take (runL digB s i)) = (oneO s i).2.2 := by
  obtain ⟨h1, h2, h3, h4, h5⟩ := take_dig h hd
  have hr := runL_step h hd
  unfold okT oneO
  rw [h2, h4, decide_eq_true h1, Bool.true_and, if_neg (by rw [dig_notlet hd]; simp), if_pos hd]
  simp only
  congr 1
  rw [Bool.not_and, ← decide_not, ← decide_not, Bool.or_comm]
  congr 1
  exact decide_eq_decide.2 (by omega)
def besO (i : Nat) (k last kind : Int) : Bool := decide ((i : Int) = last) && decide (k ≠ 3) && decide (kind ≠ 3)
theorem tokW_k (s : List UInt8) (i : Nat) : (tokW s i).k = (oneO s i).1.k := by
  unfold tokW; split
  · rename_i h; simp only [Bool.and_eq_true] at h
    unfold oneO; rw [if_neg (by rw [dig_notlet h.1]; simp), if_pos h.1]
  · rfl
theorem tokW_p (s : List UInt8) (i : Nat) : (tokW s i).p = (i : Int) := by
  unfold tokW oneO; (repeat' split) <;> rfl
theorem tokW_ok {s : List UInt8} {i : Nat} (h : (oneO s i).2.2 = true) : tokW s i = (oneO s i).1 := by
  unfold tokW; rw [h]; simp
theorem tok_let {s : List UInt8} {i : Nat} (hl : letB (s.getD i 0) = true) : (⟨1, (s.drop i).take (runL letB s i), 0, (i : Nat)⟩ : Wrd) = tokW s i ∧ i + runL letB s i = (oneO s i).2.1 ∧ decide ((((s.drop i).take (runL letB s i)).length : Int) ≤ 12) = (oneO s i).2.2 := by
  have hd : digB (s.getD i 0) = false := by
    cases hd : digB (s.getD i 0) with
    | false => rfl
    | true => rw [dig_let _ hd] at hl; cases hl
  have h1 : tokW s i = (oneO s i).1 := by unfold tokW; rw [hd]; rfl
  have h2 : ((s.drop i).take (runL letB s i)).length = runL letB s i := by rw [run_pre]; rfl
  rw [h1, h2]
  unfold oneO; rw [if_pos hl]
  exact ⟨rfl, rfl, decide_eq_decide.2 (by omega)⟩
theorem tok_dig {s : List UInt8} {i : Nat} (h : i < s.length) (hd : digB (s.getD i 0) = true) : (⟨2, [], if okT ((s.drop i).take (runL digB s i)) then numF 9 ((s.drop i).take (runL digB s i)) 0 else 0, (i : Nat)⟩ : Wrd) = tokW s i ∧ i + runL digB s i = (oneO s i).2.1 ∧ okT ((s.drop i).take (runL digB s i)) = (oneO s i).2.2 := by
  have h1 := okT_dig h hd
  obtain ⟨_, _, _, _, h5⟩ := take_dig h hd
  rw [h1, h5]
  have e : (oneO s i).1 = ⟨2, [], numF 9 (s.drop i) 0, (i : Nat)⟩ ∧ i + runL digB s i = (oneO s i).2.1 := by
    unfold oneO; rw [if_neg (by rw [dig_notlet hd]; simp), if_pos hd]; exact ⟨rfl, rfl⟩
  refine ⟨?_, e.2, rfl⟩
  unfold tokW
  rw [hd, Bool.true_and, e.1]
  cases (oneO s i).2.2 <;> rfl
theorem tok_mark {s : List UInt8} {i : Nat} (hl : letB (s.getD i 0) = false) (hd : digB (s.getD i 0) = false) : (⟨3, (s.drop ((i : Nat) : Int).toNat).take ((((i : Nat) : Int) + 1).toNat - ((i : Nat) : Int).toNat), 0, (i : Nat)⟩ : Wrd) = tokW s i ∧ i + 1 = (oneO s i).2.1 ∧ decide (Lib.indexByte marksL (s.getD i 0) ≥ 0) = (oneO s i).2.2 := by
  have h1 : tokW s i = (oneO s i).1 := by unfold tokW; rw [hd]; rfl
  have h3 := marks_mark (s.getD i 0)
  rw [h1, show ((i : Nat) : Int).toNat = i from Int.toNat_natCast i, show (((i : Nat) : Int) + 1).toNat - i = 1 by omega]
  unfold oneO; rw [if_neg (by rw [hl]; simp), if_neg (by rw [hd]; simp)]
  exact ⟨rfl, rfl, h3⟩
theorem c8 (c : UInt8) : (((c.toNat : Nat) : Int)).toNat.toUInt8 = c := by simp
theorem idxc_ret (t : List UInt8) (c : UInt8) (w : World) : Ret Tryz.prog 144 #[vS t, .int .u8 (c.toNat : Nat)] w (fun v w' => v = .int .i64 (Lib.indexByte t c) ∧ Ext w w') :=
  (idx_ret t _ w).mono (fun v w' ⟨h2, h3⟩ => ⟨by rw [h2, c8], h3⟩)
set_option maxRecDepth 100000 in
theorem number_spec9 (t : List UInt8) (w : World) (ha : t.all digB = true) (hx : t.length ≤ 1000000000) : Ret Tryz.prog 145 #[vS t] w (fun v w' => v = .tuple #[.int .i64 (if okT t then numF 9 t 0 else 0), .bool (okT t)] ∧ Ext w w') := by
 refine Ret.enterM (l := [vS t]) Tryz.func145 rfl Tryz.ntmps145 rfl ([]) (no) (Mem.nil w) ?_
 refine wpM.seq (wpM.region ?_)
 refine LM.as rfl (LM.as rfl ?_)
 refine LM.nil (QM.sub (e' := [(0, _)]) ⟨rfl, trivial⟩ (QM.then ?_))
 refine wpM.seq ?_
 refine wpM.seq ?_
 refine wpM.joinK (α := Bool) (fun q => [(22, .bool q)]) [(0, _)] (fun q => []) (fun q => q = !okT t) ⟨rfl, trivial⟩ ?_ ?_
 ·
  refine wpM.region ?_
  refine LM.mv rfl ?_
  refine LM.val (ov_seqlL rfl rfl) ?_
  refine LM.mv rfl ?_
  refine LM.splitD (t := 8) rfl (fun h1 => ?_) (fun h1 => ?_)
  ·
   refine LM.dr 8 rfl rfl rfl (LM.dr 8 rfl rfl rfl (LM.dr 8 rfl rfl rfl ?_))
   refine LM.val (ov_pickT rfl rfl) ?_
   refine LM.mv rfl (LM.dr 13 rfl rfl rfl (LM.dr 13 rfl rfl rfl (LM.dr 13 rfl rfl rfl ?_)))
   refine LM.dropU (t := 13) rfl rfl rfl ?_
   refine LM.dropX (t := 17) rfl rfl ?_
   refine LM.dropX (t := 17) rfl rfl ?_
   refine LM.dropX (t := 17) rfl rfl ?_
   refine LM.dr 13 rfl rfl rfl ?_
   refine LM.val (ov_pickT rfl rfl) ?_
   refine LM.nil (QM.sub (e' := [(0, _), (22, _)]) au9 ?_)
   refine QM.meetK (_) ⟨au2, rfl, trivial⟩ au1 ?_
   · unfold okT; rw [decide_eq_false (show ¬ t ≠ [] from fun q => q h1)]; rfl
  refine LM.sp 8 rfl rfl rfl (LM.mv rfl (LM.sp 8 rfl rfl rfl ?_))
  refine LM.val (ov_slenL Tryz.underlying9 rfl) ?_
  refine LM.sp 8 rfl rfl rfl ?_
  refine LM.val (ov_gtr rfl rfl) ?_
  refine LM.val (ov_pickF rfl rfl) ?_
  refine LM.mv rfl ?_
  refine LM.splitD (t := 13) rfl (fun h2 => ?_) (fun h2 => ?_)
  ·
   refine LM.dr 13 rfl rfl rfl (LM.dr 13 rfl rfl rfl (LM.dr 13 rfl rfl rfl ?_))
   refine LM.dropU (t := 13) rfl rfl rfl ?_
   refine LM.dropX (t := 17) rfl rfl ?_
   refine LM.dropX (t := 17) rfl rfl ?_
   refine LM.dropX (t := 17) rfl rfl ?_
   refine LM.dr 13 rfl rfl rfl ?_
   refine LM.val (ov_pickT rfl rfl) ?_
   refine LM.nil (QM.sub (e' := [(0, _), (22, _)]) au9 ?_)
   refine QM.meetK (_) ⟨au2, rfl, trivial⟩ au1 ?_
   · unfold okT; rw [decide_eq_true (show t ≠ [] from h1), decide_eq_false (show ¬ t.length ≤ 9 by omega)]; rfl
  refine LM.sp 13 rfl rfl rfl (LM.mv rfl (LM.sp 13 rfl rfl rfl ?_))
  refine LM.val (ov_slenL Tryz.underlying9 rfl) ?_
  refine LM.sp 13 rfl rfl rfl ?_
  refine LM.val (ov_gtr rfl rfl) ?_
  refine LM.sp 13 rfl rfl rfl (LM.mv rfl ?_)
  refine LM.splitD (t := 17) rfl (fun h3 => ?_) (fun h3 => ?_)
  ·
   refine LM.sp 17 rfl rfl rfl (LM.mv rfl (LM.sp 17 rfl rfl rfl ?_))
   first | refine LM.val (ov_sidxN Tryz.underlying9 rfl rfl (by omega)) ?_ | refine LM.val (ov_sidxL Tryz.underlying9 rfl rfl (by omega)) ?_
   refine LM.sp 17 rfl rfl rfl ?_
   refine LM.val (ov_eql rfl rfl) ?_
   refine LM.sp 13 rfl rfl rfl ?_
   refine LM.val (ov_pickT rfl rfl) ?_
   refine LM.val (ov_pickF rfl rfl) ?_
   refine LM.nil (QM.sub (e' := [(0, _), (22, _)]) au9 ?_)
   refine QM.meetK (_) ⟨au2, rfl, trivial⟩ au1 ?_
   · unfold okT; rw [decide_eq_true (show t ≠ [] from h1), decide_eq_true (show t.length ≤ 9 by omega), decide_eq_true (show 1 < t.length by omega)]; simp only [Bool.true_and, Bool.not_not]; rfl
  refine LM.dr 17 rfl rfl rfl (LM.dr 17 rfl rfl rfl (LM.dr 17 rfl rfl rfl (LM.sp 13 rfl rfl rfl ?_)))
  refine LM.val (ov_pickF rfl rfl) ?_
  refine LM.val (ov_pickF rfl rfl) ?_
  refine LM.nil (QM.sub (e' := [(0, _), (22, _)]) au9 ?_)
  refine QM.meetK (_) ⟨au2, rfl, trivial⟩ au1 ?_
  · unfold okT; rw [decide_eq_true (show t ≠ [] from h1), decide_eq_true (show t.length ≤ 9 by omega), decide_eq_false (show ¬ 1 < t.length by omega)]; rfl
 rintro q hq
 change QM _ _ _ _ _ ([]) _ _ _
 refine QM.then ?_
 first | refine wpM.condD rfl (fun h4 => ?_) (fun h4 => ?_) | refine wpM.condB rfl (fun h4 => ?_) (fun h4 => ?_)
 ·
  refine wpM.seq (wpM.region ?_)
  refine LM.as rfl (LM.as rfl ?_)
  refine LM.nil (QM.sub (e' := [(2, _), (3, _)]) au9 (QM.then ?_))
  refine wpM.ret ?_
  refine QM.then_ret ?_
  refine QM.leave (.inl rfl) [.tmp 2, .tmp 3] Tryz.results145 rfl ?_
  intro w' hm' hc' hg'
  have hok0 : okT t = false := (by simpa using hq.symm.trans h4); refine ⟨?_, hc'⟩; rw [hok0]; rfl
 have hok0 : okT t = true := (by simpa using hq.symm.trans h4); have hok : t ≠ [] ∧ t.length ≤ 9 := (by have q := hok0; unfold okT at q; simp only [Bool.and_eq_true, decide_eq_true_eq] at q; exact q.1)
 refine wpM.skip ?_
 refine QM.then (wpM.seq (wpM.region ?_))
 refine LM.mv rfl ?_
 refine LM.callE (oc_call (enters_fn Tryz.func169 (by kernel_rfl) rfl) rfl) (fun w hm hc hg => atoi_ret hok.1 hok.2 ha w) ?_
 refine LM.mv rfl ?_
 refine LM.val (ov_extract rfl rfl) ?_
 refine LM.val (ov_extract rfl rfl) ?_
 refine LM.as rfl (LM.as rfl ?_)
 refine LM.nil (QM.sub (e' := [(4, _)]) ⟨rfl, trivial⟩ (QM.then (wpM.seq (wpM.region ?_))))
 refine LM.mv rfl (LM.as rfl (LM.as rfl ?_))
 refine LM.nil (QM.sub (e' := [(2, _), (3, _)]) au9 (QM.then ?_))
 refine wpM.ret ?_
 refine QM.leave (.inl rfl) [.tmp 2, .tmp 3] Tryz.results145 rfl ?_
 intro w' hm' hc' hg'
 refine ⟨?_, hc'⟩; rw [hok0]; rfl
set_option maxRecDepth 100000 in
set_option maxHeartbeats 1000000 in
theorem tword_spec (b : Nat) (s : List UInt8) (i : Nat) (last kind : Int) (w : World) (hi : i < s.length) (hs : s.length ≤ 1000000000) (hM : Mem w [xB b s i last kind]) : Ret Tryz.prog 109 #[.pointer (some ⟨b, 0, none⟩)] w (WrP b (.tuple #[.agg (fW (tokW s i)).toArray, .bool ((oneO s i).2.2 && !besO i (oneO s i).1.k last kind)]) (xO s (oneO s i).2.1 ((oneO s i).2.1 : Nat) (oneO s i).1.k) w) := by
 refine Ret.enterM (l := [.pointer (some ⟨b, 0, none⟩)]) Tryz.func109 rfl Tryz.ntmps109 rfl ([xB b s i last kind]) ((fun x => x = b)) hM ?_
 refine wpM.seq (wpM.region ?_)
 refine LM.alloc Tryz.zeroValue65 rfl (fun b2 hb2 => ?_)
 refine LM.as rfl ?_
 refine LM.nil (QM.sub (e' := [(0, _), (2, _)]) au9 (QM.then (wpM.seq (wpM.region ?_))))
 refine LM.mv rfl ?_
 refine LM.val (ov_nilCheck rfl) ?_
 refine LM.val (ov_field Tryz.underlying165 rfl Tryz.sizeOf3 rfl (k := 1) rfl rfl) ?_
 refine LM.rd (om_ld Tryz.isAgg3 rfl rfl) ?_
 refine LM.as rfl ?_
 refine LM.nil (QM.sub (e' := [(0, _), (2, _), (4, _)]) au9 (QM.then (wpM.seq (wpM.region ?_))))
 refine LM.mv rfl ?_
 refine LM.val (ov_nilCheck rfl) ?_
 refine LM.val (ov_field Tryz.underlying165 rfl Tryz.sizeOf9 rfl (k := 0) rfl rfl) ?_
 refine LM.rd (om_ld Tryz.isAgg9 rfl rfl) ?_
 refine LM.mv rfl ?_
 refine LM.val (ov_sidxN Tryz.underlying9 rfl rfl (by omega)) ?_
 refine LM.as rfl ?_
 refine LM.nil (QM.sub (e' := [(0, _), (2, _), (4, _), (5, _)]) au9 (QM.then (wpM.seq (wpM.region ?_))))
 refine LM.mv rfl ?_
 refine LM.val (ov_build (cs := #[_, _, _, _]) rfl (by first | rfl | kernel_rfl)) ?_
 refine LM.alloc Tryz.zeroValue65 rfl (fun b6 hb6 => ?_)
 refine LM.stW Tryz.sizeOf65 rfl rfl rfl rfl au7 (fun hlt => by first | exact rfl | exact absurd hlt (by omega)) ?_
 refine LM.nil (QM.sub (e' := [(0, _), (2, _), (4, _), (5, _), (6, _)]) au9 (QM.then (wpM.seq (wpM.region ?_))))
 refine LM.as rfl ?_
 refine LM.nil (QM.sub (e' := [(0, _), (2, _), (4, _), (5, _), (6, _)]) au9 (QM.then ?_))
 refine wpM.seq ?_
 refine wpM.joinK (α := Wrd × Nat × Bool) (fun ⟨x, j, ok⟩ => [(7, .bool ok)]) [(0, _), (2, _), (4, _), (6, _)] (fun ⟨x, j, ok⟩ => (b6, .cells (fW x).toArray 65 (0, 0)) :: (b2, .cells (fW default).toArray 65 (0, 0)) :: xB b s j last kind :: []) (fun ⟨x, j, ok⟩ => x = tokW s i ∧ j = (oneO s i).2.1 ∧ ok = (oneO s i).2.2) ⟨rfl, rfl, rfl, rfl, trivial⟩ ?_ ?_
 ·
  refine wpM.block ?_
  refine wpM.seq (wpM.region ?_)
  refine LM.mv rfl ?_
  refine LM.callE (oc_call (enters_fn Tryz.func144 (by kernel_rfl) rfl) rfl) (fun w hm hc hg => idxc_ret lettersL (s.getD i 0) w) ?_
  refine LM.val (ov_geq rfl rfl) ?_
  refine LM.as rfl ?_
  refine LM.nil (QM.sub (e' := [(0, _), (2, _), (4, _), (5, _), (6, _), (41, _)]) au9 (QM.then ?_))
  refine wpM.condD rfl (fun h1 => ?_) (fun h1 => ?_)
  ·
   have hlt : letB (s.getD i 0) = true := (by rw [← letters_at]; exact decide_eq_true h1)
   refine wpM.seq (wpM.region ?_)
   refine LM.mv rfl ?_
   refine LM.cW (oc_call (enters_fn Tryz.func142 (by kernel_rfl) rfl) rfl) (fun w hm hc hg => run_spec letters_let (by decide) (by decide) b s i last kind w (by omega) hs (hm.pick _)) rfl (fun hlt => by first | exact rfl | exact absurd hlt (by omega)) ?_
   refine LM.val (ov_field Tryz.underlying65 rfl Tryz.sizeOf3 rfl (k := 0) rfl rfl) ?_
   refine LM.st Tryz.sizeOf3 rfl rfl rfl au5 rfl (fun hlt => by first | exact rfl | exact absurd hlt (by omega)) ?_
   refine LM.val (ov_field Tryz.underlying65 rfl Tryz.sizeOf9 rfl (k := 1) rfl rfl) ?_
   refine LM.st Tryz.sizeOf9 rfl rfl rfl au5 rfl (fun hlt => by first | exact rfl | exact absurd hlt (by omega)) ?_
   refine LM.nil (QM.sub (e' := [(0, _), (2, _), (4, _), (6, _)]) au9 (QM.then (wpM.region ?_)))
   refine LM.val (ov_field Tryz.underlying65 rfl Tryz.sizeOf9 rfl (k := 1) rfl rfl) ?_
   refine LM.rd (om_ld Tryz.isAgg9 rfl rfl) ?_
   refine LM.val (ov_slenL Tryz.underlying9 rfl) ?_
   refine LM.val (ov_leq rfl rfl) ?_
   refine LM.as rfl ?_
   refine LM.nil (QM.sub (e' := [(0, _), (2, _), (4, _), (6, _), (7, _)]) au9 ?_)
   refine QM.block_normal ?_
   refine QM.meetK ((⟨1, (s.drop i).take (runL letB s i), 0, (i : Nat)⟩, i + runL letB s i, decide ((((s.drop i).take (runL letB s i)).length : Int) ≤ 12))) ⟨au2, rfl, rfl, rfl, rfl, trivial⟩ au1 ?_
   · exact tok_let hlt
  have hlf : letB (s.getD i 0) = false := (by rw [← letters_at]; exact decide_eq_false h1)
  refine wpM.seq (wpM.region ?_)
  refine LM.mv rfl ?_
  refine LM.callE (oc_call (enters_fn Tryz.func144 (by kernel_rfl) rfl) rfl) (fun w hm hc hg => idxc_ret digitL (s.getD i 0) w) ?_
  refine LM.val (ov_geq rfl rfl) ?_
  refine LM.as rfl ?_
  refine LM.nil (QM.sub (e' := [(0, _), (2, _), (4, _), (5, _), (6, _), (53, _)]) au9 (QM.then ?_))
  refine wpM.condD rfl (fun h2 => ?_) (fun h2 => ?_)
  ·
   have hdt : digB (s.getD i 0) = true := (by rw [← digits_at]; exact decide_eq_true h2); have htd := take_dig hi hdt; have hrl := runL_le digB s i
   refine wpM.seq (wpM.region ?_)
   refine LM.val (ov_field Tryz.underlying65 rfl Tryz.sizeOf3 rfl (k := 0) rfl rfl) ?_
   refine LM.st Tryz.sizeOf3 rfl rfl rfl au5 rfl (fun hlt => by first | exact rfl | exact absurd hlt (by omega)) ?_
   refine LM.nil (QM.sub (e' := [(0, _), (2, _), (4, _), (6, _)]) au9 (QM.then (wpM.region ?_)))
   refine LM.mv rfl ?_
   refine LM.cW (oc_call (enters_fn Tryz.func142 (by kernel_rfl) rfl) rfl) (fun w hm hc hg => run_spec digits_dig (by decide) (by decide) b s i last kind w (by omega) hs (hm.pick _)) rfl (fun hlt => by first | exact rfl | exact absurd hlt (by omega)) ?_
   refine LM.callE (oc_call (enters_fn Tryz.func145 (by kernel_rfl) rfl) rfl) (fun w hm hc hg => number_spec9 _ w htd.2.2.1 (by rw [htd.2.1]; omega)) ?_
   refine LM.mv rfl ?_
   refine LM.val (ov_extract rfl rfl) ?_
   refine LM.val (ov_extract rfl rfl) ?_
   refine LM.val (ov_field Tryz.underlying65 rfl Tryz.sizeOf3 rfl (k := 2) rfl rfl) ?_
   refine LM.st Tryz.sizeOf3 rfl rfl rfl au5 rfl (fun hlt => by first | exact rfl | exact absurd hlt (by omega)) ?_
   refine LM.as rfl ?_
   refine LM.nil (QM.sub (e' := [(0, _), (2, _), (4, _), (6, _), (7, _)]) au9 ?_)
   refine QM.block_normal ?_
   refine QM.meetK ((⟨2, [], if okT ((s.drop i).take (runL digB s i)) then numF 9 ((s.drop i).take (runL digB s i)) 0 else 0, (i : Nat)⟩, i + runL digB s i, okT ((s.drop i).take (runL digB s i)))) ⟨au2, rfl, rfl, rfl, rfl, trivial⟩ au1 ?_
   · exact tok_dig hi hdt
  have hdf : digB (s.getD i 0) = false := (by rw [← digits_at]; exact decide_eq_false h2)
  refine wpM.seq ?_
  refine wpM.keep ((b, _) :: []) (fun _ => True) (.one 0 0 (.one 1 0 (.one 2 0 (.one 3 1 (.one 4 0 (.one 5 0 (.one 6 0 (.one 7 0 (.one 8 0 (.one 9 2 (.one 10 0 (.one 11 2 .nil)))))))))))) (by kernel_rfl) (by kernel_rfl) au1 (fun _ _ => trivial) ?_
  refine KD.val rfl rfl (ov_move rfl) ?_
  refine KD.val rfl rfl (ov_nilCheck rfl) ?_
  refine KD.val rfl rfl (ov_field Tryz.underlying165 rfl Tryz.sizeOf9 rfl (k := 0) rfl rfl) ?_
  refine KD.rd rfl rfl (om_ld Tryz.isAgg9 rfl rfl) ?_
  refine KD.val rfl rfl (ov_move rfl) ?_
  refine KD.val rfl rfl (ov_move rfl) ?_
  refine KD.val rfl rfl (ov_add64 rfl rfl (by omega)) ?_
  refine KD.val rfl rfl (ov_sslcL Tryz.underlying9 rfl rfl rfl (by omega) (by omega) (by omega)) ?_
  refine KD.val rfl rfl (ov_field Tryz.underlying65 rfl Tryz.sizeOf3 rfl (k := 0) rfl rfl) ?_
  refine KD.one rfl ?_
  refine LM.st Tryz.sizeOf3 rfl rfl rfl au5 rfl (fun hlt => by first | exact rfl | exact absurd hlt (by omega)) ?_
  refine LM.nil ?_
  refine QM.one au1 (fun _ _ => trivial) ?_
  refine KD.val rfl rfl (ov_field Tryz.underlying65 rfl Tryz.sizeOf9 rfl (k := 1) rfl rfl) ?_
  refine KD.one rfl ?_
  refine LM.st Tryz.sizeOf9 rfl rfl rfl au5 rfl (fun hlt => by first | exact rfl | exact absurd hlt (by omega)) ?_
  refine LM.nil ?_
  refine QM.one au1 (fun _ _ => trivial) ?_
  refine KD.nil ?_
  refine QM.sub (e' := [(0, _), (2, _), (4, _), (5, _), (6, _)]) au9 (QM.then (wpM.seq (wpM.region ?_)))
  refine LM.mv rfl ?_
  refine LM.callE (oc_call (enters_fn Tryz.func144 (by kernel_rfl) rfl) rfl) (fun w hm hc hg => idxc_ret marksL (s.getD i 0) w) ?_
  refine LM.val (ov_geq rfl rfl) ?_
  refine LM.as rfl ?_
  refine LM.nil (QM.sub (e' := [(0, _), (2, _), (4, _), (6, _), (7, _)]) au9 (QM.then (wpM.region ?_)))
  refine LM.mv rfl ?_
  refine LM.val (ov_nilCheck rfl) ?_
  refine LM.val (ov_field Tryz.underlying165 rfl Tryz.sizeOf3 rfl (k := 1) rfl rfl) ?_
  refine LM.rd (om_ld Tryz.isAgg3 rfl rfl) ?_
  refine LM.val (ov_add64 rfl rfl (by omega)) ?_
  refine LM.val (ov_nilCheck rfl) ?_
  refine LM.val (ov_field Tryz.underlying165 rfl Tryz.sizeOf3 rfl (k := 1) rfl rfl) ?_
  refine LM.st Tryz.sizeOf3 rfl rfl rfl au5 rfl (fun hlt => by first | exact rfl | exact absurd hlt (by omega)) ?_
  refine LM.nil (QM.sub (e' := [(0, _), (2, _), (4, _), (6, _), (7, _)]) au9 ?_)
  refine QM.block_normal ?_
  refine QM.meetK ((⟨3, (s.drop ((i : Nat) : Int).toNat).take ((((i : Nat) : Int) + 1).toNat - ((i : Nat) : Int).toNat), 0, (i : Nat)⟩, i + 1, decide (Lib.indexByte marksL (s.getD i 0) ≥ 0))) ⟨au2, rfl, rfl, rfl, rfl, trivial⟩ au1 ?_
  · exact tok_mark hlf hdf
 rintro ⟨x, j, ok⟩ ⟨hxw, hjw, hokw⟩
 change QM _ _ _ _ _ ((b6, .cells (fW x).toArray 65 (0, 0)) :: (b2, .cells (fW default).toArray 65 (0, 0)) :: xB b s j last kind :: []) _ _ _
 refine QM.then ?_
 refine wpM.seq ?_
 refine wpM.joinK (α := Bool) (fun q => [(8, .bool q)]) [(0, _), (2, _), (6, _), (7, _)] (fun q => (b6, .cells (fW x).toArray 65 (0, 0)) :: (b2, .cells (fW default).toArray 65 (0, 0)) :: xB b s j last kind :: []) (fun q => q = besO i x.k last kind) ⟨rfl, rfl, rfl, rfl, trivial⟩ ?_ ?_
 ·
  refine wpM.region ?_
  refine LM.mv rfl (LM.mv rfl ?_)
  refine LM.val (ov_nilCheck rfl) ?_
  refine LM.val (ov_field Tryz.underlying165 rfl Tryz.sizeOf3 rfl (k := 2) rfl rfl) ?_
  refine LM.rd (om_ld Tryz.isAgg3 rfl rfl) ?_
  refine LM.val (ov_eql rfl rfl) ?_
  refine LM.mv rfl ?_
  refine LM.splitD (t := 71) rfl (fun h3 => ?_) (fun h3 => ?_)
  ·
   refine LM.sp 71 rfl rfl rfl (LM.val (ov_field Tryz.underlying65 rfl Tryz.sizeOf3 rfl (k := 0) rfl rfl) (LM.sp 71 rfl rfl rfl ?_))
   refine LM.rd (om_ld Tryz.isAgg3 rfl rfl) ?_
   refine LM.sp 71 rfl rfl rfl ?_
   refine LM.val (ov_neq rfl rfl) ?_
   refine LM.val (ov_pickT rfl rfl) ?_
   refine LM.mv rfl ?_
   refine LM.splitD (t := 76) rfl (fun h4 => ?_) (fun h4 => ?_)
   ·
    refine LM.sp 76 rfl rfl rfl (LM.mv rfl (LM.sp 76 rfl rfl rfl ?_))
    refine LM.val (ov_nilCheck rfl) ?_
    refine LM.sp 76 rfl rfl rfl (LM.val (ov_field Tryz.underlying165 rfl Tryz.sizeOf3 rfl (k := 3) rfl rfl) (LM.sp 76 rfl rfl rfl ?_))
    refine LM.rd (om_ld Tryz.isAgg3 rfl rfl) ?_
    refine LM.sp 76 rfl rfl rfl ?_
    refine LM.val (ov_neq rfl rfl) ?_
    refine LM.val (ov_pickT rfl rfl) ?_
    refine LM.as rfl ?_
    refine LM.nil (QM.sub (e' := [(0, _), (2, _), (6, _), (7, _), (8, _)]) au9 ?_)
    refine QM.meetK (_) ⟨au2, rfl, rfl, rfl, rfl, trivial⟩ au1 ?_
    · unfold besO; first | (simp only [h3, h4, decide_true, decide_false, Bool.true_and, Bool.false_and, Bool.and_true, Bool.and_false, Bool.not_true, Bool.not_false, Bool.true_or, Bool.false_or, Bool.or_true, Bool.or_false, ne_eq, not_true_eq_false, not_false_eq_true, Bool.and_self]; done) | (simp only [h3, h4, decide_true, decide_false, Bool.true_and, Bool.false_and, Bool.and_true, Bool.and_false, Bool.not_true, Bool.not_false, Bool.true_or, Bool.false_or, Bool.or_true, Bool.or_false, ne_eq, not_true_eq_false, not_false_eq_true, Bool.and_self]; rfl)
   refine LM.dr 76 rfl rfl rfl (LM.dr 76 rfl rfl rfl (LM.dr 76 rfl rfl rfl (LM.dr 76 rfl rfl rfl (LM.dr 76 rfl rfl rfl ?_))))
   refine LM.val (ov_pickF rfl rfl) ?_
   refine LM.as rfl ?_
   refine LM.nil (QM.sub (e' := [(0, _), (2, _), (6, _), (7, _), (8, _)]) au9 ?_)
   refine QM.meetK (_) ⟨au2, rfl, rfl, rfl, rfl, trivial⟩ au1 ?_
   · unfold besO; first | (simp only [h3, h4, decide_true, decide_false, Bool.true_and, Bool.false_and, Bool.and_true, Bool.and_false, Bool.not_true, Bool.not_false, Bool.true_or, Bool.false_or, Bool.or_true, Bool.or_false, ne_eq, not_true_eq_false, not_false_eq_true, Bool.and_self]; done) | (simp only [h3, h4, decide_true, decide_false, Bool.true_and, Bool.false_and, Bool.and_true, Bool.and_false, Bool.not_true, Bool.not_false, Bool.true_or, Bool.false_or, Bool.or_true, Bool.or_false, ne_eq, not_true_eq_false, not_false_eq_true, Bool.and_self]; rfl)
  refine LM.dr 71 rfl rfl rfl (LM.dr 71 rfl rfl rfl (LM.dr 71 rfl rfl rfl ?_))
  refine LM.val (ov_pickF rfl rfl) ?_
  refine LM.mv rfl (LM.dr 76 rfl rfl rfl (LM.dr 76 rfl rfl rfl (LM.dr 76 rfl rfl rfl (LM.dr 76 rfl rfl rfl (LM.dr 76 rfl rfl rfl ?_)))))
  refine LM.val (ov_pickF rfl rfl) ?_
  refine LM.as rfl ?_
  refine LM.nil (QM.sub (e' := [(0, _), (2, _), (6, _), (7, _), (8, _)]) au9 ?_)
  refine QM.meetK (_) ⟨au2, rfl, rfl, rfl, rfl, trivial⟩ au1 ?_
  · unfold besO; first | (simp only [h3, decide_true, decide_false, Bool.true_and, Bool.false_and, Bool.and_true, Bool.and_false, Bool.not_true, Bool.not_false, Bool.true_or, Bool.false_or, Bool.or_true, Bool.or_false, ne_eq, not_true_eq_false, not_false_eq_true, Bool.and_self]; done) | (simp only [h3, decide_true, decide_false, Bool.true_and, Bool.false_and, Bool.and_true, Bool.and_false, Bool.not_true, Bool.not_false, Bool.true_or, Bool.false_or, Bool.or_true, Bool.or_false, ne_eq, not_true_eq_false, not_false_eq_true, Bool.and_self]; rfl)
 rintro q hqb
 change QM _ _ _ _ _ ((b6, .cells (fW x).toArray 65 (0, 0)) :: (b2, .cells (fW default).toArray 65 (0, 0)) :: xB b s j last kind :: []) _ _ _
 refine QM.then ?_
 refine wpM.seq ?_
 refine wpM.keep ((b6, _) :: []) (fun _ => True) (.one 0 0 (.one 1 0 (.one 2 0 (.one 3 0 (.one 4 0 (.one 6 0 (.one 7 1 (.one 5 2 (.one 8 0 (.one 9 0 (.one 10 2 (.one 11 0 (.one 12 0 (.one 13 2 .nil)))))))))))))) (by kernel_rfl) (by kernel_rfl) au1 (fun _ _ => trivial) ?_
 refine KD.val rfl rfl (ov_move rfl) ?_
 refine KD.val rfl rfl (ov_move rfl) ?_
 refine KD.val rfl rfl (ov_move rfl) ?_
 refine KD.val rfl rfl (ov_nilCheck rfl) ?_
 refine KD.val rfl rfl (ov_field Tryz.underlying165 rfl Tryz.sizeOf3 rfl (k := 1) rfl rfl) ?_
 refine KD.val rfl rfl (ov_field Tryz.underlying65 rfl Tryz.sizeOf3 rfl (k := 0) rfl rfl) ?_
 refine KD.rd rfl rfl (om_ld Tryz.isAgg3 rfl rfl) ?_
 refine KD.one rfl ?_
 refine LM.rd (om_ld Tryz.isAgg3 rfl rfl) ?_
 refine LM.nil ?_
 refine QM.one au1 (fun _ _ => trivial) ?_
 refine KD.val rfl rfl (ov_nilCheck rfl) ?_
 refine KD.val rfl rfl (ov_field Tryz.underlying165 rfl Tryz.sizeOf3 rfl (k := 2) rfl rfl) ?_
 refine KD.one rfl ?_
 refine LM.st Tryz.sizeOf3 rfl rfl rfl au5 rfl (fun hlt => by first | exact rfl | exact absurd hlt (by omega)) ?_
 refine LM.nil ?_
 refine QM.one au1 (fun _ _ => trivial) ?_
 refine KD.val rfl rfl (ov_nilCheck rfl) ?_
 refine KD.val rfl rfl (ov_field Tryz.underlying165 rfl Tryz.sizeOf3 rfl (k := 3) rfl rfl) ?_
 refine KD.one rfl ?_
 refine LM.st Tryz.sizeOf3 rfl rfl rfl au5 rfl (fun hlt => by first | exact rfl | exact absurd hlt (by omega)) ?_
 refine LM.nil ?_
 refine QM.one au1 (fun _ _ => trivial) ?_
 refine KD.nil ?_
 refine QM.sub (e' := [(2, _), (6, _), (7, _), (8, _)]) au9 (QM.then (wpM.seq (wpM.region ?_)))
 refine LM.rd (om_ldW Tryz.isAgg65 Tryz.sizeOf65 rfl rfl) ?_
 refine LM.mv rfl (LM.mv rfl ?_)
 first | refine LM.splitD (t := 97) rfl (fun h5 => ?_) (fun h5 => ?_) | refine LM.splitB (t := 97) rfl (fun h5 => ?_) (fun h5 => ?_)
 ·
  refine LM.sp 97 rfl rfl rfl (LM.mv rfl (LM.sp 97 rfl rfl rfl ?_))
  first | refine LM.val (ov_notD rfl) ?_ | refine LM.val (ov_not rfl) ?_
  refine LM.val (ov_pickT rfl rfl) ?_
  refine LM.stW Tryz.sizeOf65 rfl rfl rfl rfl au7 (fun hlt => by first | exact rfl | exact absurd hlt (by omega)) ?_
  refine LM.as rfl ?_
  refine LM.nil (QM.sub (e' := [(2, _), (3, _)]) au9 (QM.then ?_))
  refine wpM.ret ?_
  refine QM.leaveCs (ds := ([])) (.inl rfl) [.cell 2 65, .tmp 3] Tryz.results109 hd_nil (rc_w rfl Tryz.isAgg65 Tryz.sizeOf65 rfl (rc_tmp rfl rc_nil)) ?_
  intro w' hm' hc'
  subst hxw; subst hjw; have hok1 : (oneO s i).2.2 = true := (by rw [← hokw]; exact h5); refine ⟨?_, hc', ?_⟩; (rw [hok1, Bool.true_and, ← tokW_k, ← hqb]; rfl); (rw [← tokW_k]; exact hm'.at b)
 refine LM.dr 97 rfl rfl rfl (LM.dr 97 rfl rfl rfl ?_)
 refine LM.val (ov_pickF rfl rfl) ?_
 refine LM.stW Tryz.sizeOf65 rfl rfl rfl rfl au7 (fun hlt => by first | exact rfl | exact absurd hlt (by omega)) ?_
 refine LM.as rfl ?_
 refine LM.nil (QM.sub (e' := [(2, _), (3, _)]) au9 (QM.then ?_))
 refine wpM.ret ?_
 refine QM.leaveCs (ds := ([])) (.inl rfl) [.cell 2 65, .tmp 3] Tryz.results109 hd_nil (rc_w rfl Tryz.isAgg65 Tryz.sizeOf65 rfl (rc_tmp rfl rc_nil)) ?_
 intro w' hm' hc'
 subst hxw; subst hjw; have hok1 : (oneO s i).2.2 = false := (by rw [← hokw]; exact h5); refine ⟨?_, hc', ?_⟩; (rw [hok1]; rfl); (rw [← tokW_k]; exact hm'.at b)
end Go.Eng
namespace Go.Eng
open Go Go.Proofs Go.RowKit
def okW (s : List UInt8) (i : Nat) (last kind : Int) : Bool := (oneO s i).2.2 && !besO i (oneO s i).1.k last kind
theorem okW_bad {s : List UInt8} {i : Nat} {last kind : Int} {out : List Wrd} (h : last = -1 ∨ (out ≠ [] ∧ kind = (out.getD (out.length - 1) default).k)) : badO (oneO s i) i last out = !okW s i last kind := by
  unfold okW besO badO
  rcases h with rfl | ⟨_, rfl⟩
  · rw [decide_eq_false (show ¬ (-1 : Int) = (i : Nat) by omega), decide_eq_false (show ¬ ((i : Nat) : Int) = -1 by omega)]; simp
  · rw [Bool.not_and, Bool.not_not]
    congr 2
    congr 1
    exact decide_eq_decide.2 ⟨Eq.symm, Eq.symm⟩
set_option maxRecDepth 100000 in
set_option maxHeartbeats 1000000 in
theorem tscan_spec {s : List UInt8} (w : World) : Ret Tryz.prog 66 #[vS s] w (fun v w' => Ext w w' ∧ ∃ m, ScT (scanO s) w.heap.size v m ∧ Mem w' m ∧ ∀ p ∈ m, w.heap.size ≤ p.1) := by
 refine Ret.enterM (l := [vS s]) Tryz.func66 rfl Tryz.ntmps66 rfl ([]) (no) (Mem.nil w) ?_
 refine wpM.seq (wpM.region ?_)
 refine LM.as rfl (LM.as rfl (LM.as rfl ?_))
 refine LM.nil (QM.sub (e' := [(0, _)]) ⟨rfl, trivial⟩ (QM.then ?_))
 refine wpM.seq ?_
 refine wpM.seq (wpM.region ?_)
 refine LM.mv rfl ?_
 refine LM.val (ov_slenL Tryz.underlying9 rfl) ?_
 refine LM.val (ov_gtr rfl rfl) ?_
 refine LM.nil (QM.sub (e' := [(0, _), (11, _)]) au9 (QM.then ?_))
 refine wpM.condD rfl (fun h1 => ?_) (fun h1 => ?_)
 ·
  refine wpM.seq (wpM.region ?_)
  refine LM.as rfl (LM.as rfl (LM.as rfl ?_))
  refine LM.nil (QM.sub (e' := [(2, _), (3, _), (4, _)]) au9 (QM.then ?_))
  refine wpM.ret ?_
  refine QM.then_ret ?_
  refine QM.leave (.inl rfl) [.tmp 2, .tmp 3, .tmp 4] Tryz.results66 rfl ?_
  intro w' hm' hc' hg'
  have hr : scanO s = ([], 8000, 6) := (by unfold scanO; rw [if_pos (by omega)]); rw [hr]; exact ⟨hc', [], ⟨none, 0, 0, rfl, rfl, .nil _ _ _ _⟩, Mem.nil _, fun p hp => by cases hp⟩
 refine wpM.skip ?_
 refine QM.then (wpM.seq (wpM.region ?_))
 refine LM.mv rfl ?_
 refine LM.val (ov_build (cs := #[_, _, _, _]) rfl (by first | rfl | kernel_rfl)) ?_
 refine LM.box rfl rfl (fun b14 hb14 => ?_)
 refine LM.as rfl ?_
 refine LM.nil (QM.sub (e' := [(0, _), (5, _)]) au9 (QM.then (wpM.seq (wpM.region ?_))))
 refine LM.as rfl ?_
 refine LM.nil (QM.sub (e' := [(0, _), (5, _), (6, _)]) au9 (QM.then ?_))
 refine wpM.seq ?_
 refine wpM.seq (wpM.region ?_)
 change LM _ _ _ _ _ _ _ _ (xB b14 s 0 (-1) 0 :: []) _ _ _
 refine LM.mv rfl ?_
 refine LM.cW (oc_call (enters_fn Tryz.func108 (by kernel_rfl) rfl) rfl) (fun w hm hc hg => skip_spec b14 s 0 (-1) 0 w (Nat.zero_le _) (by omega) (hm.pick _)) rfl au8 ?_
 refine LM.nil (QM.sub (e' := [(0, _), (5, _), (6, _)]) au9 (QM.then ?_))
 refine wpM.block ?_
 refine wpM.loopK0 (α := Nat × Int × Int × List Wrd × Option Addr × Nat × Nat × Mem0) (fun ⟨i, last, kind, out, ad6, n6, cap6, m6⟩ => [(6, .slice ad6 n6 cap6)]) [(0, _), (5, _)] (fun ⟨i, last, kind, out, ad6, n6, cap6, m6⟩ => m6 ++ (xB b14 s i last kind :: [])) (fun ⟨i, last, kind, out, ad6, n6, cap6, m6⟩ => i ≤ s.length ∧ scanR s i last out = scanR s 0 (-1) [] ∧ (i < s.length → blankB (s.getD i 0) = false ∧ hashB (s.getD i 0) = false) ∧ n6 = out.length ∧ Sl fW 65 4 w.heap.size out (.slice ad6 n6 cap6) m6 ∧ (last = -1 ∨ (out ≠ [] ∧ kind = (out.getD (out.length - 1) default).k)) ∧ out.length ≤ i) (fun ⟨i, last, kind, out, ad6, n6, cap6, m6⟩ => s.length - i) ((skipO s 0, -1, 0, [], none, 0, 0, [])) ⟨au2, rfl, rfl, trivial⟩ au1 ⟨(skip_end (Nat.zero_le _)).2.1, (scanR_skip (Nat.zero_le _)).symm, (skip_end (Nat.zero_le _)).2.2, rfl, .nil _ _ _ _, .inl rfl, Nat.zero_le _⟩ ?_
 rintro ⟨i, last, kind, out, ad6, n6, cap6, m6⟩ ⟨hi, hsc, hbl, hn6, hs6, hlast, hol⟩
 change wpM _ _ _ _ _ _ _ (m6 ++ (xB b14 s i last kind :: [])) _ _ _
 have hlen8 : s.length ≤ 8000 := (by omega)
 refine wpM.seq ?_
 refine wpM.seq (wpM.region ?_)
 refine LM.mv rfl ?_
 refine LM.val (ov_nilCheck rfl) ?_
 refine LM.val (ov_field Tryz.underlying165 rfl Tryz.sizeOf3 rfl (k := 1) rfl rfl) ?_
 refine LM.rd (om_ld Tryz.isAgg3 rfl rfl) ?_
 refine LM.mv rfl ?_
 refine LM.val (ov_slenL Tryz.underlying9 rfl) ?_
 refine LM.val (ov_lss rfl rfl) ?_
 refine LM.nil (QM.sub (e' := [(0, _), (5, _), (6, _), (23, _)]) au9 (QM.then ?_))
 refine wpM.condD rfl (fun h2 => ?_) (fun h2 => ?_)
 ·
  have hl1 := one_lt (show i < s.length by omega)
  refine wpM.skip ?_
  refine QM.then ?_
  refine wpM.seq ?_
  refine wpM.block ?_
  refine wpM.seq (wpM.region ?_)
  refine LM.mv rfl ?_
  refine LM.cW (oc_call (enters_fn Tryz.func109 (by kernel_rfl) rfl) rfl) (fun w hm hc hg => tword_spec b14 s i last kind w (by omega) (by omega) (hm.pick _)) rfl au8 ?_
  refine LM.mv rfl ?_
  refine LM.val (ov_extract rfl rfl) ?_
  refine LM.val (ov_extract rfl rfl) ?_
  refine LM.alloc Tryz.zeroValue65 rfl (fun b7 hb7 => ?_)
  refine LM.stW Tryz.sizeOf65 rfl rfl rfl rfl au7 au8 ?_
  refine LM.as rfl ?_
  refine LM.nil (QM.sub (e' := [(0, _), (5, _), (6, _), (7, _), (8, _)]) au9 (QM.then ?_))
  refine wpM.seq ?_
  refine wpM.seq (wpM.region ?_)
  refine LM.mv rfl ?_
  first | refine LM.val (ov_notD rfl) ?_ | refine LM.val (ov_not rfl) ?_
  refine LM.nil (QM.sub (e' := [(0, _), (5, _), (6, _), (7, _), (32, _)]) au9 (QM.then ?_))
  first | refine wpM.condD rfl (fun h3 => ?_) (fun h3 => ?_) | refine wpM.condB rfl (fun h3 => ?_) (fun h3 => ?_)
  ·
   refine wpM.seq ?_
   refine wpM.draw [(0, 0), (1, 1), (2, 0), (3, 0), (4, 0)] (by kernel_rfl) (by kernel_rfl) ?_
   refine LD.val rfl rfl (ov_field Tryz.underlying65 rfl Tryz.sizeOf3 rfl (k := 3) rfl rfl) ?_
   refine LD.rd rfl rfl (om_ld Tryz.isAgg3 rfl rfl) ?_
   refine LD.val rfl rfl (ov_assign rfl) ?_
   refine LD.val rfl rfl (ov_assign rfl) ?_
   refine LD.val rfl rfl (ov_assign rfl) ?_
   refine LD.nil ?_
   refine QM.sub (e' := [(2, _), (3, _), (4, _)]) au9 (QM.then ?_)
   refine wpM.ret ?_
   refine QM.then_ret ?_
   refine QM.block_ret ?_
   refine QM.then_ret ?_
   refine QM.then_ret ?_
   refine QM.block_ret ?_
   refine QM.then_ret ?_
   refine QM.leave (.inl rfl) [.tmp 2, .tmp 3, .tmp 4] Tryz.results66 rfl ?_
   intro w' hm' hc' hg'
   have hokw : okW s i last kind = false := (by have q : (!okW s i last kind) = true := h3; simpa using q); have hr : scanO s = ([], (i : Int), 5) := (by unfold scanO; rw [if_neg (by omega), ← hsc, scanR_bad (by omega) (hbl (by omega)).1 (hbl (by omega)).2 (by rw [okW_bad hlast, hokw]; rfl)]); rw [hr]; refine ⟨hc', [], ⟨none, 0, 0, ?_, rfl, .nil _ _ _ _⟩, Mem.nil _, fun p hp => by cases hp⟩; show Value.tuple #[.slice none 0 0, .int .i64 (tokW s i).p, .int .i64 5] = _; rw [tokW_p]
  have hokw : okW s i last kind = true := (by unfold okW; simpa using h3); have hwx : tokW s i = (oneO s i).1 := tokW_ok (by have q := hokw; unfold okW at q; rw [Bool.and_eq_true] at q; exact q.1)
  refine wpM.skip ?_
  refine QM.then (wpM.region ?_)
  refine LM.mv rfl ?_
  refine LM.rd (om_ldW Tryz.isAgg65 Tryz.sizeOf65 rfl rfl) ?_
  refine LM.single Tryz.underlying23 Tryz.sizeOf65 Tryz.zeroValue65 rfl rfl rfl rfl rfl (fun b37 hb37 => ?_)
  refine LM.app (a := tokW s i) Tryz.underlying23 Tryz.typeInfo65 rfl rfl rfl rfl rfl rfl rfl (by assumption) (by rfl) (by intro _; rfl) (by intro _ u hu; simp [fW] at hu; (repeat (first | (rcases hu with rfl | hu) | subst hu | rfl))) (by first | exact Nat.le_refl _ | omega) au10 (by first | omega | (unfold maxLen; omega)) (by simp only [Tryz.t65]; omega) (fun ad38 n38 cap38 m38 hn38 hs38 hin38 => ?_)
  refine LM.as rfl ?_
  refine LM.nil (QM.sub (e' := [(0, _), (5, _), (6, _)]) au9 ?_)
  refine QM.block_normal ?_
  refine QM.then (wpM.region ?_)
  refine LM.mv rfl ?_
  refine LM.cW (oc_call (enters_fn Tryz.func108 (by kernel_rfl) rfl) rfl) (fun w hm hc hg => skip_spec b14 s (oneO s i).2.1 ((oneO s i).2.1 : Nat) (oneO s i).1.k w (by omega) (by omega) (hm.pick _)) rfl au8 ?_
  refine LM.nil (QM.sub (e' := [(0, _), (5, _), (6, _)]) au9 ?_)
  have hsk := skip_end hl1.2
  refine QM.againK ((skipO s (oneO s i).2.1, ((oneO s i).2.1 : Nat), (oneO s i).1.k, out ++ [tokW s i], ad38, n38, cap38, m38)) ⟨au2, rfl, rfl, trivial⟩ au1 (fun _ h => h) ?_ ?_
  · refine ⟨hsk.2.1, ?_, hsk.2.2, by rw [hn38]; simp, hs38, .inr ⟨by simp, ?_⟩, by simp; omega⟩; (rw [← scanR_skip hl1.2, hwx, ← scanR_word (by omega) (hbl (by omega)).1 (hbl (by omega)).2 (by rw [okW_bad hlast, hokw]; rfl)]; exact hsc); (rw [hwx]; simp)
  · first | omega | (dsimp only; omega)
 refine wpM.exit ?_
 refine QM.then_exit ?_
 refine QM.then_exit ?_
 refine QM.block_hit ?_
 refine QM.then (wpM.seq (wpM.region ?_))
 refine LM.mv rfl (LM.as rfl (LM.as rfl (LM.as rfl ?_)))
 refine LM.nil (QM.sub (e' := [(2, _), (3, _), (4, _)]) au9 (QM.then ?_))
 refine wpM.ret ?_
 refine QM.leave (.inl rfl) [.tmp 2, .tmp 3, .tmp 4] Tryz.results66 rfl ?_
 intro w' hm' hc' hg'
 have hr : scanO s = (out, 0, 0) := (by unfold scanO; rw [if_neg (by omega), ← hsc, scanR_end (by omega)]); rw [hr]; exact ⟨hc', m6, ⟨ad6, n6, cap6, rfl, hn6, hs6⟩, hm'.pick m6, fun p hp => Sl.ge hs6 p hp⟩
end Go.Eng
namespace Go.Eng
open Go Go.Proofs Go.RowKit
def ScV.same (x y : ScV) : Bool := decide (x.sv.C = y.sv.C) && decide (x.xs = y.xs)
def mayX (s : StC) (l : List Act) : Bool := mayS s && mayA l
def printX (s : StC) (l : List Act) : List UInt8 × Int := if mayX s l then joinO (setW s ++ l.flatMap actW) else ([], 1)
theorem mayA_len {l : List Act} (h : mayA l = true) : l.length ≤ 4000 := by
  unfold mayA at h; simp only [Bool.and_eq_true, decide_eq_true_eq] at h; exact h.1
theorem mayA_words {l : List Act} (h : mayA l = true) : wordsA l = (l.flatMap actW, 0) := by
  unfold mayA at h; simp only [Bool.and_eq_true, decide_eq_true_eq] at h
  unfold wordsA; rw [if_pos h.2, if_neg (by omega)]
set_option maxRecDepth 100000 in
theorem script_spec (s : List UInt8) (w : World) (hs : s.length ≤ 1000000000) : Ret Tryz.prog 24 #[vS s] w (fun v w' => Ext w w' ∧ ∃ m, SpT (scriptO s) w.heap.size v m ∧ Mem w' m ∧ ∀ p ∈ m, w.heap.size ≤ p.1) := by
 refine Ret.enterM (l := [vS s]) Tryz.func24 rfl Tryz.ntmps24 rfl ([]) (no) (Mem.nil w) ?_
 refine wpM.seq (wpM.region ?_)
 refine LM.alloc Tryz.zeroValue49 rfl (fun b2 hb2 => ?_)
 refine LM.as rfl (LM.as rfl ?_)
 refine LM.nil (QM.sub (e' := [(0, _), (2, _)]) au9 (QM.then (wpM.seq (wpM.region ?_))))
 refine LM.mv rfl ?_
 refine LM.callT (oc_call (enters_fn Tryz.func66 (by kernel_rfl) rfl) rfl) ScT.mono (fun w hm hc hg => tscan_spec w) ?_
 rintro u13 m13 ⟨ad13, n13, cap13, rfl, hn13, hs13⟩ -; have hl13 := scan_len s
 refine LM.mv rfl ?_
 refine LM.val (ov_extract rfl rfl) ?_
 refine LM.val (ov_extract rfl rfl) ?_
 refine LM.val (ov_extract rfl rfl) ?_
 refine LM.as rfl (LM.as rfl (LM.as rfl ?_))
 refine LM.nil (QM.sub (e' := [(0, _), (2, _), (5, _), (6, _), (7, _)]) au9 (QM.then ?_))
 refine wpM.seq ?_
 refine wpM.seq (wpM.region ?_)
 refine LM.mv rfl ?_
 refine LM.val (ov_neq rfl rfl) ?_
 refine LM.nil (QM.sub (e' := [(0, _), (2, _), (5, _), (6, _), (7, _), (18, _)]) au9 (QM.then ?_))
 refine wpM.condD rfl (fun h1 => ?_) (fun h1 => ?_)
 ·
  refine wpM.seq (wpM.region ?_)
  refine LM.val (ov_build (cs := #[_, _, _, _, _, _]) rfl (by first | rfl | kernel_rfl)) ?_
  refine LM.mv rfl (LM.mv rfl ?_)
  refine LM.stW Tryz.sizeOf49 rfl rfl rfl rfl au7 au8 ?_
  refine LM.as rfl (LM.as rfl ?_)
  refine LM.nil (QM.sub (e' := [(2, _), (3, _), (4, _)]) au9 (QM.then ?_))
  refine wpM.ret ?_
  refine QM.then_ret ?_
  refine QM.leaveCs (ds := ([])) (.inl rfl) [.cell 2 49, .tmp 3, .tmp 4] Tryz.results24 hd_nil (rc_w rfl Tryz.isAgg49 Tryz.sizeOf49 rfl (rc_tmp rfl (rc_tmp rfl rc_nil))) ?_
  intro w' hm' hc'
  unfold scriptO; rw [if_pos h1]; exact ⟨hc', [], SpT.nil0, Mem.nil _, fun p hp => by cases hp⟩
 refine wpM.skip ?_
 refine QM.then (wpM.seq (wpM.region ?_))
 refine LM.mv rfl ?_
 refine LM.callT (oc_call (enters_fn Tryz.func11 (by kernel_rfl) rfl) rfl) StT.mono (fun w hm hc hg => setup_spec 0 w hn13 (by omega) (hs13.srM (by intro _; rfl) hm)) ?_
 rintro u24 m24 ⟨sv, rfl, hsv, hin⟩ hge24
 refine LM.mv rfl ?_
 refine LM.val (ov_extract rfl rfl) ?_
 refine LM.val (ov_extract rfl rfl) ?_
 refine LM.val (ov_extract rfl rfl) ?_
 refine LM.alloc Tryz.zeroValue30 rfl (fun b8 hb8 => ?_)
 refine LM.stW Tryz.sizeOf30 rfl rfl rfl rfl au7 au8 ?_
 refine LM.as rfl (LM.as rfl ?_)
 refine LM.nil (QM.sub (e' := [(0, _), (2, _), (5, _), (7, _), (8, _), (9, _)]) au9 (QM.then ?_))
 refine wpM.seq ?_
 refine wpM.seq (wpM.region ?_)
 refine LM.mv rfl ?_
 refine LM.val (ov_neq rfl rfl) ?_
 refine LM.nil (QM.sub (e' := [(0, _), (2, _), (5, _), (7, _), (8, _), (9, _), (29, _)]) au9 (QM.then ?_))
 refine wpM.condD rfl (fun h2 => ?_) (fun h2 => ?_)
 ·
  refine wpM.seq (wpM.region ?_)
  refine LM.val (ov_build (cs := #[_, _, _, _, _, _]) rfl (by first | rfl | kernel_rfl)) ?_
  refine LM.mv rfl (LM.mv rfl (LM.mv rfl ?_))
  refine LM.callE (oc_call (enters_fn Tryz.func67 (by kernel_rfl) rfl) rfl) (fun w hm hc hg => splace_spec s _ w hn13 (hs13.srM (by intro _; rfl) hm) (set_pos _ _)) ?_
  refine LM.mv rfl ?_
  refine LM.stW Tryz.sizeOf49 rfl rfl rfl rfl au7 au8 ?_
  refine LM.as rfl (LM.as rfl ?_)
  refine LM.nil (QM.sub (e' := [(2, _), (3, _), (4, _)]) au9 (QM.then ?_))
  refine wpM.ret ?_
  refine QM.then_ret ?_
  refine QM.leaveCs (ds := ([])) (.inl rfl) [.cell 2 49, .tmp 3, .tmp 4] Tryz.results24 hd_nil (rc_w rfl Tryz.isAgg49 Tryz.sizeOf49 rfl (rc_tmp rfl (rc_tmp rfl rc_nil))) ?_
  intro w' hm' hc'
  unfold scriptO; rw [if_neg h1, if_pos h2]; exact ⟨hc', [], SpT.nil0, Mem.nil _, fun p hp => by cases hp⟩
 refine wpM.skip ?_
 refine QM.then (wpM.seq (wpM.region ?_))
 refine LM.mv rfl (LM.mv rfl ?_)
 refine LM.callT (oc_call (enters_fn Tryz.func68 (by kernel_rfl) rfl) rfl) AcT.mono (fun w hm hc hg => aparse_spec _ w hn13 (by omega) (hs13.srM (by intro _; rfl) hm)) ?_
 rintro u39 m39 ⟨ad39, n39, cap39, rfl, hn39, hs39⟩ hge39
 refine LM.mv rfl ?_
 refine LM.val (ov_extract rfl rfl) ?_
 refine LM.val (ov_extract rfl rfl) ?_
 refine LM.val (ov_extract rfl rfl) ?_
 refine LM.as rfl (LM.as rfl (LM.as rfl ?_))
 refine LM.nil (QM.sub (e' := [(0, _), (2, _), (5, _), (7, _), (8, _), (9, _), (10, _)]) au9 (QM.then ?_))
 refine wpM.seq ?_
 refine wpM.seq (wpM.region ?_)
 refine LM.mv rfl ?_
 refine LM.val (ov_neq rfl rfl) ?_
 refine LM.nil (QM.sub (e' := [(0, _), (2, _), (5, _), (7, _), (8, _), (9, _), (10, _), (44, _)]) au9 (QM.then ?_))
 refine wpM.condD rfl (fun h3 => ?_) (fun h3 => ?_)
 ·
  refine wpM.seq (wpM.region ?_)
  refine LM.val (ov_build (cs := #[_, _, _, _, _, _]) rfl (by first | rfl | kernel_rfl)) ?_
  refine LM.mv rfl (LM.mv rfl (LM.mv rfl ?_))
  refine LM.callE (oc_call (enters_fn Tryz.func67 (by kernel_rfl) rfl) rfl) (fun w hm hc hg => splace_spec s _ w hn13 (hs13.srM (by intro _; rfl) hm) (acts_pos _ _)) ?_
  refine LM.mv rfl ?_
  refine LM.stW Tryz.sizeOf49 rfl rfl rfl rfl au7 au8 ?_
  refine LM.as rfl (LM.as rfl ?_)
  refine LM.nil (QM.sub (e' := [(2, _), (3, _), (4, _)]) au9 (QM.then ?_))
  refine wpM.ret ?_
  refine QM.then_ret ?_
  refine QM.leaveCs (ds := ([])) (.inl rfl) [.cell 2 49, .tmp 3, .tmp 4] Tryz.results24 hd_nil (rc_w rfl Tryz.isAgg49 Tryz.sizeOf49 rfl (rc_tmp rfl (rc_tmp rfl rc_nil))) ?_
  intro w' hm' hc'
  unfold scriptO; rw [if_neg h1, if_neg h2, if_pos h3]; exact ⟨hc', [], SpT.nil0, Mem.nil _, fun p hp => by cases hp⟩
 refine wpM.skip ?_
 refine QM.then (wpM.seq (wpM.region ?_))
 refine LM.rd (om_ldW Tryz.isAgg30 Tryz.sizeOf30 rfl rfl) ?_
 refine LM.mv rfl ?_
 refine LM.val (ov_build (cs := #[_, _, _, _, _, _]) rfl (by first | rfl | kernel_rfl)) ?_
 refine LM.stW Tryz.sizeOf49 rfl rfl rfl rfl au7 au8 ?_
 refine LM.as rfl (LM.as rfl ?_)
 refine LM.nil (QM.sub (e' := [(2, _), (3, _), (4, _)]) au9 (QM.then ?_))
 refine wpM.ret ?_
 refine QM.leaveCs (ds := ([])) (.inl rfl) [.cell 2 49, .tmp 3, .tmp 4] Tryz.results24 hd_nil (rc_w rfl Tryz.isAgg49 Tryz.sizeOf49 rfl (rc_tmp rfl (rc_tmp rfl rc_nil))) ?_
 intro w' hm' hc'
 unfold scriptO; rw [if_neg h1, if_neg h2, if_neg h3]; refine ⟨hc', m39 ++ (m24 ++ []), ⟨⟨sv, _, ad39, n39, cap39⟩, rfl, hsv, rfl, fun w hm => ⟨hin w (hm.pick m24), hn39, hs39.srM (by intro _; rfl) hm⟩⟩, SubM.mem (by (repeat' (first | exact SubM.nil _ | refine SubM.app ?_))) w' hm', ?_⟩; intro p hp; simp only [List.mem_append, List.not_mem_nil, or_false] at hp; rcases hp with hp | hp; exact hge39 p hp; exact hge24 p hp
set_option maxRecDepth 100000 in
theorem xmay_spec {x : ScV} (w : World) (hX : x.In w) : Ret Tryz.prog 27 #[x.val] w (fun v w' => v = .bool (mayX x.sv.C x.xs) ∧ Ext w w') := by
 refine Ret.enterM (l := [x.val]) Tryz.func27 rfl Tryz.ntmps27 rfl ([]) (no) (Mem.nil w) ?_
 refine wpM.seq (wpM.region ?_)
 refine LM.box rfl rfl (fun b1 hb1 => ?_)
 refine LM.as rfl ?_
 refine LM.nil (QM.sub (e' := [(1, _)]) ⟨rfl, trivial⟩ (QM.then (wpM.seq (wpM.region ?_))))
 refine LM.val (ov_field Tryz.underlying49 rfl Tryz.sizeOf30 rfl (k := 0) rfl rfl) ?_
 first | refine LM.rd (om_ldW Tryz.isAgg30 Tryz.sizeOf30 rfl rfl) ?_ | refine LM.rd (om_ldA Tryz.isAgg30 Tryz.sizeOf30 rfl (vs := [_, _, _, _, _]) rfl ⟨rfl, rfl, rfl, rfl, rfl, trivial⟩) ?_
 refine LM.callE (oc_call (enters_fn Tryz.func14 (by kernel_rfl) rfl) rfl) (fun w hm hc hg => mayS_spec (s := x.sv) w (hX.st.ext hc)) ?_
 refine LM.mv rfl ?_
 first | refine LM.splitD (t := 6) rfl (fun h1 => ?_) (fun h1 => ?_) | refine LM.splitB (t := 6) rfl (fun h1 => ?_) (fun h1 => ?_)
 ·
  refine LM.sp 6 rfl rfl rfl (LM.val (ov_field Tryz.underlying49 rfl Tryz.sizeOf47 rfl (k := 5) rfl rfl) (LM.sp 6 rfl rfl rfl ?_))
  refine LM.rd (om_ld Tryz.isAgg47 rfl rfl) ?_
  refine LM.sp 6 rfl rfl rfl ?_
  refine LM.callE (oc_call (enters_fn Tryz.func71 (by kernel_rfl) rfl) rfl) (fun w hm hc hg => amay_spec w hX.hn (hX.hx.ext hc)) ?_
  refine LM.val (ov_pickT rfl rfl) ?_
  refine LM.as rfl ?_
  refine LM.nil (QM.sub (e' := [(2, _)]) ⟨rfl, trivial⟩ (QM.then ?_))
  refine wpM.ret ?_
  refine QM.leave (.inl rfl) [.tmp 2] Tryz.results27 rfl ?_
  intro w' hm' hc' hg'
  refine ⟨?_, hc'⟩; simp only [resV, mayX]; simp only [h1, decide_true, decide_false, Bool.true_and, Bool.false_and, Bool.and_true, Bool.and_false, Bool.not_true, Bool.not_false, Bool.true_or, Bool.false_or, Bool.or_true, Bool.or_false, ne_eq, not_true_eq_false, not_false_eq_true, Bool.and_self]
 refine LM.dr 6 rfl rfl rfl (LM.dr 6 rfl rfl rfl (LM.dr 6 rfl rfl rfl ?_))
 refine LM.val (ov_pickF rfl rfl) ?_
 refine LM.as rfl ?_
 refine LM.nil (QM.sub (e' := [(2, _)]) ⟨rfl, trivial⟩ (QM.then ?_))
 refine wpM.ret ?_
 refine QM.leave (.inl rfl) [.tmp 2] Tryz.results27 rfl ?_
 intro w' hm' hc' hg'
 refine ⟨?_, hc'⟩; simp only [resV, mayX]; simp only [h1, decide_true, decide_false, Bool.true_and, Bool.false_and, Bool.and_true, Bool.and_false, Bool.not_true, Bool.not_false, Bool.true_or, Bool.false_or, Bool.or_true, Bool.or_false, ne_eq, not_true_eq_false, not_false_eq_true, Bool.and_self]
set_option maxRecDepth 100000 in
theorem eqs_a {xs ys : List Act} {ad1 ad2 : Option Addr} {n1 n2 cap1 cap2 : Nat} (w : World) (hn1 : n1 = xs.length) (hl1 : Sr fA 5 xs (.slice ad1 n1 cap1) w) (hn2 : n2 = ys.length) (hl2 : Sr fA 5 ys (.slice ad2 n2 cap2) w) (hx : xs.length ≤ 1000000000) : Ret Tryz.prog 75 #[.slice ad1 n1 cap1, .slice ad2 n2 cap2] w (fun v w' => v = .bool (decide (xs = ys)) ∧ Ext w w') := by
 refine Ret.enterM (l := [.slice ad1 n1 cap1, .slice ad2 n2 cap2]) Tryz.func75 rfl Tryz.ntmps75 rfl ([]) (no) (Mem.nil w) ?_
 refine wpM.seq (wpM.region ?_)
 refine LM.as rfl ?_
 refine LM.nil (QM.sub (e' := [(0, _), (1, _)]) au9 (QM.then ?_))
 refine wpM.seq ?_
 refine wpM.seq (wpM.region ?_)
 refine LM.mv rfl ?_
 refine LM.val (ov_len Tryz.underlying47 rfl) ?_
 refine LM.mv rfl ?_
 refine LM.val (ov_len Tryz.underlying47 rfl) ?_
 refine LM.val (ov_neq rfl rfl) ?_
 refine LM.nil (QM.sub (e' := [(0, _), (1, _), (10, _)]) au9 (QM.then ?_))
 refine wpM.condD rfl (fun h1 => ?_) (fun h1 => ?_)
 ·
  refine wpM.seq (wpM.region ?_)
  refine LM.as rfl ?_
  refine LM.nil (QM.sub (e' := [(4, _)]) ⟨rfl, trivial⟩ (QM.then ?_))
  refine wpM.ret ?_
  refine QM.then_ret ?_
  refine QM.leave (.inl rfl) [.tmp 4] Tryz.results75 rfl ?_
  intro w' hm' hc' hg'
  refine ⟨?_, hc'⟩; show Value.bool false = _; rw [decide_eq_false (show ¬ xs = ys by intro q; have := congrArg List.length q; omega)]
 refine wpM.skip ?_
 refine QM.then ?_
 refine wpM.seq ?_
 refine wpM.seq (wpM.region ?_)
 refine LM.mv rfl ?_
 refine LM.val (ov_len Tryz.underlying47 rfl) ?_
 refine LM.mv rfl ?_
 refine LM.nil (QM.sub (e' := [(0, _), (1, _), (12, _), (13, _)]) au9 (QM.then ?_))
 refine wpM.block ?_
 refine wpM.loopK0 (α := Nat) (fun i => [(13, .int .i64 (i : Nat))]) [(0, _), (1, _), (12, _)] (fun i => []) (fun i => i ≤ xs.length ∧ xs.take i = ys.take i) (fun i => xs.length - i) (0) ⟨au2, rfl, rfl, rfl, trivial⟩ au1 ⟨Nat.zero_le _, rfl⟩ ?_
 rintro i ⟨hi, ha⟩
 change wpM _ _ _ _ _ _ _ ([]) _ _ _
 refine wpM.seq (wpM.region ?_)
 refine LM.val (ov_lss rfl rfl) ?_
 refine LM.nil (QM.sub (e' := [(0, _), (1, _), (12, _), (13, _), (14, _)]) au9 (QM.then ?_))
 refine wpM.seq ?_
 refine wpM.condD rfl (fun h2 => ?_) (fun h2 => ?_)
 ·
  refine wpM.skip ?_
  refine QM.then ?_
  refine wpM.seq ?_
  refine wpM.block ?_
  refine wpM.seq (wpM.region ?_)
  refine LM.mv rfl (LM.as rfl ?_)
  refine LM.nil (QM.sub (e' := [(0, _), (1, _), (5, _), (12, _), (13, _)]) au9 (QM.then ?_))
  refine wpM.seq ?_
  refine wpM.draw [(0, 0), (1, 0), (2, 0), (3, 1), (4, 0), (5, 0), (6, 0), (7, 1), (8, 0)] (by kernel_rfl) (by kernel_rfl) ?_
  refine LD.val rfl rfl (ov_move rfl) ?_
  refine LD.val rfl rfl (ov_move rfl) ?_
  refine LD.val rfl rfl (ov_idxSN au6 Tryz.underlying47 Tryz.sizeOf123 rfl rfl (by omega)) ?_
  first | refine LD.rd rfl rfl (om_slA (by assumption) (by intro _; rfl) Tryz.isAgg123 Tryz.sizeOf123 rfl au3) ?_ | refine LD.rdC rfl rfl (om_srEA (by assumption) (by intro _; rfl) Tryz.isAgg123 Tryz.sizeOf123 rfl au3 id) ?_ | refine LD.rd rfl rfl (om_ldW Tryz.isAgg123 Tryz.sizeOf123 rfl rfl) ?_ | refine LD.rd rfl rfl (om_ldA Tryz.isAgg123 Tryz.sizeOf123 rfl (vs := [_, _, _, _, _]) rfl ⟨rfl, rfl, rfl, rfl, rfl, trivial⟩) ?_
  refine LD.val rfl rfl (ov_move rfl) ?_
  refine LD.val rfl rfl (ov_move rfl) ?_
  refine LD.val rfl rfl (ov_idxSN au6 Tryz.underlying47 Tryz.sizeOf123 rfl rfl (by omega)) ?_
  first | refine LD.rd rfl rfl (om_slA (by assumption) (by intro _; rfl) Tryz.isAgg123 Tryz.sizeOf123 rfl au3) ?_ | refine LD.rdC rfl rfl (om_srEA (by assumption) (by intro _; rfl) Tryz.isAgg123 Tryz.sizeOf123 rfl au3 id) ?_ | refine LD.rd rfl rfl (om_ldW Tryz.isAgg123 Tryz.sizeOf123 rfl rfl) ?_ | refine LD.rd rfl rfl (om_ldA Tryz.isAgg123 Tryz.sizeOf123 rfl (vs := [_, _, _, _, _]) rfl ⟨rfl, rfl, rfl, rfl, rfl, trivial⟩) ?_
  refine LD.val rfl rfl (ov_aneq Tryz.underlying123 (by kernel_rfl) (by kernel_rfl) (by decide) rfl rfl (by rfl) ⟨(by first | rfl | trivial), (by first | rfl | trivial), (by first | rfl | trivial), (by first | rfl | trivial), (by first | rfl | trivial), trivial⟩) ?_
  refine LD.nil ?_
  refine QM.sub (e' := [(0, _), (1, _), (12, _), (13, _), (24, _)]) au9 (QM.then ?_)
  first | refine wpM.condD rfl (fun h3 => ?_) (fun h3 => ?_) | refine wpM.condB rfl (fun h3 => ?_) (fun h3 => ?_)
  ·
   refine wpM.seq (wpM.region ?_)
   refine LM.as rfl ?_
   refine LM.nil (QM.sub (e' := [(4, _)]) ⟨rfl, trivial⟩ (QM.then ?_))
   refine wpM.ret ?_
   refine QM.block_ret ?_
   refine QM.then_ret ?_
   refine QM.then_ret ?_
   refine QM.block_ret ?_
   refine QM.then_ret ?_
   refine QM.leave (.inl rfl) [.tmp 4] Tryz.results75 rfl ?_
   intro w' hm' hc' hg'
   refine ⟨?_, hc'⟩; show Value.bool false = _; rw [decide_eq_false (show ¬ xs = ys by intro q; rw [fA_veqs, q] at h3; simp at h3)]
  refine wpM.skip ?_
  refine QM.block_normal ?_
  refine QM.then (wpM.region ?_)
  refine LM.val (ov_add64 rfl rfl (by omega)) ?_
  refine LM.mv rfl ?_
  refine LM.nil (QM.sub (e' := [(0, _), (1, _), (12, _), (13, _)]) au9 ?_)
  refine QM.againK (i + 1) ⟨au2, rfl, rfl, rfl, trivial⟩ au1 (fun _ h => h) ?_ ?_
  · exact ⟨by omega, eq_atD default (by omega) (by omega) ha (by rw [fA_veqs] at h3; simpa using h3)⟩
  · omega
 refine wpM.exit ?_
 refine QM.then_exit ?_
 refine QM.then_exit ?_
 refine QM.block_hit ?_
 refine QM.then (wpM.seq (wpM.region ?_))
 refine LM.as rfl ?_
 refine LM.nil (QM.sub (e' := [(4, _)]) ⟨rfl, trivial⟩ (QM.then ?_))
 refine wpM.ret ?_
 refine QM.leave (.inl rfl) [.tmp 4] Tryz.results75 rfl ?_
 intro w' hm' hc' hg'
 refine ⟨?_, hc'⟩; show Value.bool true = _; rw [decide_eq_true (eq_all (by omega) (by omega) ha)]
set_option maxRecDepth 100000 in
theorem xsame_spec {x y : ScV} (w : World) (hX : x.In w) (hY : y.In w) (hb : x.sv.Bd) (hl : x.xs.length ≤ 1000000) : Ret Tryz.prog 30 #[x.val, y.val] w (fun v w' => v = .bool (x.same y) ∧ Ext w w') := by
 refine Ret.enterM (l := [x.val, y.val]) Tryz.func30 rfl Tryz.ntmps30 rfl ([]) (no) (Mem.nil w) ?_
 refine wpM.seq (wpM.region ?_)
 refine LM.box rfl rfl (fun b2 hb2 => ?_)
 refine LM.box rfl rfl (fun b3 hb3 => ?_)
 refine LM.as rfl ?_
 refine LM.nil (QM.sub (e' := [(2, _), (3, _)]) au9 (QM.then (wpM.seq (wpM.region ?_))))
 refine LM.val (ov_field Tryz.underlying49 rfl Tryz.sizeOf30 rfl (k := 0) rfl rfl) ?_
 first | refine LM.rd (om_ldW Tryz.isAgg30 Tryz.sizeOf30 rfl rfl) ?_ | refine LM.rd (om_ldA Tryz.isAgg30 Tryz.sizeOf30 rfl (vs := [_, _, _, _, _]) rfl ⟨rfl, rfl, rfl, rfl, rfl, trivial⟩) ?_
 refine LM.val (ov_field Tryz.underlying49 rfl Tryz.sizeOf30 rfl (k := 0) rfl rfl) ?_
 first | refine LM.rd (om_ldW Tryz.isAgg30 Tryz.sizeOf30 rfl rfl) ?_ | refine LM.rd (om_ldA Tryz.isAgg30 Tryz.sizeOf30 rfl (vs := [_, _, _, _, _]) rfl ⟨rfl, rfl, rfl, rfl, rfl, trivial⟩) ?_
 refine LM.callE (oc_call (enters_fn Tryz.func22 (by kernel_rfl) rfl) rfl) (fun w hm hc hg => ssame_spec (a := x.sv) (b := y.sv) w (hX.st.ext hc) (hY.st.ext hc) hb) ?_
 refine LM.mv rfl ?_
 refine LM.splitD (t := 10) rfl (fun h1 => ?_) (fun h1 => ?_)
 ·
  refine LM.sp 10 rfl rfl rfl (LM.val (ov_field Tryz.underlying49 rfl Tryz.sizeOf47 rfl (k := 5) rfl rfl) (LM.sp 10 rfl rfl rfl ?_))
  refine LM.rd (om_ld Tryz.isAgg47 rfl rfl) ?_
  refine LM.sp 10 rfl rfl rfl (LM.val (ov_field Tryz.underlying49 rfl Tryz.sizeOf47 rfl (k := 5) rfl rfl) (LM.sp 10 rfl rfl rfl ?_))
  refine LM.rd (om_ld Tryz.isAgg47 rfl rfl) ?_
  refine LM.sp 10 rfl rfl rfl ?_
  refine LM.callE (oc_call (enters_fn Tryz.func75 (by kernel_rfl) rfl) rfl) (fun w hm hc hg => eqs_a w hX.hn (hX.hx.ext hc) hY.hn (hY.hx.ext hc) (by omega)) ?_
  refine LM.val (ov_pickT rfl rfl) ?_
  refine LM.as rfl ?_
  refine LM.nil (QM.sub (e' := [(4, _)]) ⟨rfl, trivial⟩ (QM.then ?_))
  refine wpM.ret ?_
  refine QM.leave (.inl rfl) [.tmp 4] Tryz.results30 rfl ?_
  intro w' hm' hc' hg'
  refine ⟨?_, hc'⟩; simp only [resV, ScV.same]; simp only [h1, decide_true, decide_false, Bool.true_and, Bool.false_and, Bool.and_true, Bool.and_false, Bool.not_true, Bool.not_false, Bool.true_or, Bool.false_or, Bool.or_true, Bool.or_false, ne_eq, not_true_eq_false, not_false_eq_true, Bool.and_self]
 refine LM.dr 10 rfl rfl rfl (LM.dr 10 rfl rfl rfl (LM.dr 10 rfl rfl rfl (LM.dr 10 rfl rfl rfl (LM.dr 10 rfl rfl rfl ?_))))
 refine LM.val (ov_pickF rfl rfl) ?_
 refine LM.as rfl ?_
 refine LM.nil (QM.sub (e' := [(4, _)]) ⟨rfl, trivial⟩ (QM.then ?_))
 refine wpM.ret ?_
 refine QM.leave (.inl rfl) [.tmp 4] Tryz.results30 rfl ?_
 intro w' hm' hc' hg'
 refine ⟨?_, hc'⟩; simp only [resV, ScV.same]; simp only [h1, decide_true, decide_false, Bool.true_and, Bool.false_and, Bool.and_true, Bool.and_false, Bool.not_true, Bool.not_false, Bool.true_or, Bool.false_or, Bool.or_true, Bool.or_false, ne_eq, not_true_eq_false, not_false_eq_true, Bool.and_self]
set_option maxRecDepth 100000 in
theorem rxsame_spec {x y : ScV} (w : World) (hX : x.In w) (hY : y.In w) (hb : x.sv.Bd) (hl : x.xs.length ≤ 1000000) : Ret Tryz.prog 26 #[x.val, y.val] w (fun v w' => v = .bool (x.same y) ∧ Ext w w') := by
 refine Ret.enterM (l := [x.val, y.val]) Tryz.func26 rfl Tryz.ntmps26 rfl ([]) (no) (Mem.nil w) ?_
 refine wpM.seq (wpM.region ?_)
 refine LM.box rfl rfl (fun b2 hb2 => ?_)
 refine LM.box rfl rfl (fun b3 hb3 => ?_)
 refine LM.as rfl ?_
 refine LM.nil (QM.sub (e' := [(2, _), (3, _)]) au9 (QM.then (wpM.seq (wpM.region ?_))))
 refine LM.val (ov_field Tryz.underlying49 rfl Tryz.sizeOf30 rfl (k := 0) rfl rfl) ?_
 first | refine LM.rd (om_ldW Tryz.isAgg30 Tryz.sizeOf30 rfl rfl) ?_ | refine LM.rd (om_ldA Tryz.isAgg30 Tryz.sizeOf30 rfl (vs := [_, _, _, _, _]) rfl ⟨rfl, rfl, rfl, rfl, rfl, trivial⟩) ?_
 refine LM.val (ov_field Tryz.underlying49 rfl Tryz.sizeOf30 rfl (k := 0) rfl rfl) ?_
 first | refine LM.rd (om_ldW Tryz.isAgg30 Tryz.sizeOf30 rfl rfl) ?_ | refine LM.rd (om_ldA Tryz.isAgg30 Tryz.sizeOf30 rfl (vs := [_, _, _, _, _]) rfl ⟨rfl, rfl, rfl, rfl, rfl, trivial⟩) ?_
 refine LM.callE (oc_call (enters_fn Tryz.func13 (by kernel_rfl) rfl) rfl) (fun w hm hc hg => rssame_spec (a := x.sv) (b := y.sv) w (hX.st.ext hc) (hY.st.ext hc) hb) ?_
 refine LM.mv rfl ?_
 refine LM.splitD (t := 10) rfl (fun h1 => ?_) (fun h1 => ?_)
 ·
  refine LM.sp 10 rfl rfl rfl (LM.val (ov_field Tryz.underlying49 rfl Tryz.sizeOf47 rfl (k := 5) rfl rfl) (LM.sp 10 rfl rfl rfl ?_))
  refine LM.rd (om_ld Tryz.isAgg47 rfl rfl) ?_
  refine LM.sp 10 rfl rfl rfl (LM.val (ov_field Tryz.underlying49 rfl Tryz.sizeOf47 rfl (k := 5) rfl rfl) (LM.sp 10 rfl rfl rfl ?_))
  refine LM.rd (om_ld Tryz.isAgg47 rfl rfl) ?_
  refine LM.sp 10 rfl rfl rfl ?_
  refine LM.callE (oc_call (enters_fn Tryz.func32 (by kernel_rfl) rfl) rfl) (fun w hm hc hg => asame_spec w hX.hn (hX.hx.ext hc) hY.hn (hY.hx.ext hc) (by omega)) ?_
  refine LM.val (ov_pickT rfl rfl) ?_
  refine LM.as rfl ?_
  refine LM.nil (QM.sub (e' := [(4, _)]) ⟨rfl, trivial⟩ (QM.then ?_))
  refine wpM.ret ?_
  refine QM.leave (.inl rfl) [.tmp 4] Tryz.results26 rfl ?_
  intro w' hm' hc' hg'
  refine ⟨?_, hc'⟩; simp only [resV, ScV.same]; simp only [h1, decide_true, decide_false, Bool.true_and, Bool.false_and, Bool.and_true, Bool.and_false, Bool.not_true, Bool.not_false, Bool.true_or, Bool.false_or, Bool.or_true, Bool.or_false, ne_eq, not_true_eq_false, not_false_eq_true, Bool.and_self]
 refine LM.dr 10 rfl rfl rfl (LM.dr 10 rfl rfl rfl (LM.dr 10 rfl rfl rfl (LM.dr 10 rfl rfl rfl (LM.dr 10 rfl rfl rfl ?_))))
 refine LM.val (ov_pickF rfl rfl) ?_
 refine LM.as rfl ?_
 refine LM.nil (QM.sub (e' := [(4, _)]) ⟨rfl, trivial⟩ (QM.then ?_))
 refine wpM.ret ?_
 refine QM.leave (.inl rfl) [.tmp 4] Tryz.results26 rfl ?_
 intro w' hm' hc' hg'
 refine ⟨?_, hc'⟩; simp only [resV, ScV.same]; simp only [h1, decide_true, decide_false, Bool.true_and, Bool.false_and, Bool.and_true, Bool.and_false, Bool.not_true, Bool.not_false, Bool.true_or, Bool.false_or, Bool.or_true, Bool.or_false, ne_eq, not_true_eq_false, not_false_eq_true, Bool.and_self]
end Go.Eng
namespace Go.Eng
open Go Go.Proofs Go.RowKit
structure SlW where
  ad : Option Addr
  n : Nat
  cap : Nat
  xs : List Wrd
  deriving Inhabited
def fSl (x : SlW) : List Value := [.slice x.ad x.n x.cap]
def allW (L : List SlW) : List Wrd := L.flatMap SlW.xs
theorem allW_snoc {L : List SlW} {i : Nat} (h : i < L.length) : allW (L.take (i + 1)) = allW (L.take i) ++ (L.getD i default).xs := by
  unfold allW; rw [take_snoc default h, List.flatMap_append]; simp
theorem allW_le (L : List SlW) (i : Nat) : (allW (L.take i)).length ≤ (allW L).length := by
  have := congrArg List.length (congrArg allW (List.take_append_drop i L))
  unfold allW at this ⊢; rw [List.flatMap_append, List.length_append] at this; omega
set_option maxRecDepth 100000 in
theorem growW_spec (k : Nat) (w : World) (hk : k ≤ 1000000) : Ret Tryz.prog 121 #[.slice none 0 0, .int .i64 (k : Nat)] w (New fW 65 4 [] w) := by
 refine Ret.enterM (l := [.slice none 0 0, .int .i64 (k : Nat)]) Tryz.func121 rfl Tryz.ntmps121 rfl ([]) (no) (Mem.nil w) ?_
 refine wpM.seq (wpM.region ?_)
 refine LM.as rfl ?_
 refine LM.nil (QM.sub (e' := [(0, _), (1, _)]) au9 (QM.then ?_))
 refine wpM.seq ?_
 refine wpM.seq (wpM.region ?_)
 refine LM.mv rfl ?_
 refine LM.val (ov_lss rfl rfl) ?_
 refine LM.nil (QM.sub (e' := [(0, _), (1, _), (6, _)]) au9 (QM.then ?_))
 refine wpM.condD rfl (fun h1 => ?_) (fun h1 => ?_)
 ·
  exfalso; omega
 refine wpM.skip ?_
 refine QM.then ?_
 refine wpM.seq ?_
 refine wpM.seq (wpM.region ?_)
 refine LM.mv rfl (LM.mv rfl ?_)
 refine LM.val (ov_cap Tryz.underlying23 rfl) ?_
 refine LM.mv rfl ?_
 refine LM.val (ov_len Tryz.underlying23 rfl) ?_
 refine LM.val (ov_sub64 rfl rfl (by omega)) ?_
 refine LM.val (ov_sub64 rfl rfl (by omega)) ?_
 refine LM.as rfl ?_
 refine LM.nil (QM.sub (e' := [(0, _), (1, _)]) au9 (QM.then (wpM.seq (wpM.region ?_))))
 refine LM.mv rfl ?_
 refine LM.val (ov_gtr rfl rfl) ?_
 refine LM.nil (QM.sub (e' := [(0, _), (1, _), (16, _)]) au9 (QM.then ?_))
 refine wpM.condD rfl (fun h2 => ?_) (fun h2 => ?_)
 ·
  refine wpM.region ?_
  refine LM.mv rfl (LM.mv rfl ?_)
  refine LM.val (ov_cap Tryz.underlying23 rfl) ?_
  refine LM.val (ov_subHi Tryz.underlying23 Tryz.sizeOf65 rfl rfl (by omega) (by omega)) ?_
  refine LM.mv rfl ?_
  refine LM.appZ (n := k) Tryz.underlying23 Tryz.underlying3 Tryz.typeInfo65 rfl rfl rfl rfl rfl rfl rfl (by omega) (by omega) (by unfold maxLen; omega) (by simp only [Tryz.t65]; omega) (fun b22 cap22 cs22 hb22 hn22 hc22 hl22 => ?_)
  refine LM.mv rfl ?_
  refine LM.val (ov_len Tryz.underlying23 rfl) ?_
  refine LM.val (ov_subHi Tryz.underlying23 Tryz.sizeOf65 rfl rfl (by omega) (by omega)) ?_
  refine LM.as rfl ?_
  refine LM.nil (QM.sub (e' := [(0, _)]) ⟨rfl, trivial⟩ (QM.then (wpM.seq (wpM.region ?_))))
  refine LM.mv rfl (LM.as rfl ?_)
  refine LM.nil (QM.sub (e' := [(4, _)]) ⟨rfl, trivial⟩ (QM.then ?_))
  refine wpM.ret ?_
  refine QM.leave (.inl rfl) [.tmp 4] Tryz.results121 rfl ?_
  intro w' hm' hc' hg'
  exact ⟨hc', _, .void hb22 hc22 hl22, hm'⟩
 refine wpM.skip ?_
 refine QM.then (wpM.seq (wpM.region ?_))
 refine LM.mv rfl (LM.as rfl ?_)
 refine LM.nil (QM.sub (e' := [(4, _)]) ⟨rfl, trivial⟩ (QM.then ?_))
 refine wpM.ret ?_
 refine QM.leave (.inl rfl) [.tmp 4] Tryz.results121 rfl ?_
 intro w' hm' hc' hg'
 exact ⟨hc', [], .nil _ _ _ _, Mem.nil _⟩
set_option maxRecDepth 100000 in
theorem concat_spec {L : List SlW} {ad : Option Addr} {n cap : Nat} (w : World) (hn : n = L.length) (hl : Sr fSl 1 L (.slice ad n cap) w) (hL : ∀ x ∈ L, x.n = x.xs.length ∧ Sr fW 4 x.xs (.slice x.ad x.n x.cap) w) (hz : (allW L).length ≤ 1000000) (hk : L.length ≤ 1000000) : Ret Tryz.prog 73 #[.slice ad n cap] w (New fW 65 4 (allW L) w) := by
 refine Ret.enterM (l := [.slice ad n cap]) Tryz.func73 rfl Tryz.ntmps73 rfl ([]) (no) (Mem.nil w) ?_
 refine wpM.seq (wpM.region ?_)
 refine LM.as rfl ?_
 refine LM.nil (QM.sub (e' := [(0, _)]) ⟨rfl, trivial⟩ (QM.then (wpM.seq (wpM.region ?_))))
 refine LM.as rfl ?_
 refine LM.nil (QM.sub (e' := [(0, _), (3, _)]) au9 (QM.then ?_))
 refine wpM.seq ?_
 refine wpM.seq (wpM.region ?_)
 refine LM.mv rfl ?_
 refine LM.val (ov_len Tryz.underlying176 rfl) ?_
 refine LM.mv rfl ?_
 refine LM.nil (QM.sub (e' := [(0, _), (3, _), (9, _), (10, _), (11, _)]) au9 (QM.then ?_))
 refine wpM.block ?_
 refine wpM.loopK0 (α := Nat) (fun i => [(3, .int .i64 ((allW (L.take i)).length : Nat)), (11, .int .i64 (i : Nat))]) [(0, _), (9, _), (10, _)] (fun i => []) (fun i => i ≤ L.length) (fun i => L.length - i) (0) ⟨au2, au2, rfl, rfl, rfl, trivial⟩ au1 (Nat.zero_le _) ?_
 rintro i hi
 change wpM _ _ _ _ _ _ _ ([]) _ _ _
 refine wpM.seq (wpM.region ?_)
 refine LM.val (ov_lss rfl rfl) ?_
 refine LM.nil (QM.sub (e' := [(0, _), (3, _), (9, _), (10, _), (11, _), (12, _)]) au9 (QM.then ?_))
 refine wpM.seq ?_
 refine wpM.condD rfl (fun h1 => ?_) (fun h1 => ?_)
 ·
  refine wpM.skip ?_
  refine QM.then ?_
  refine wpM.seq ?_
  refine wpM.block ?_
  refine wpM.seq (wpM.region ?_)
  refine LM.val (ov_idxSN au6 Tryz.underlying176 Tryz.sizeOf23 rfl rfl (by omega)) ?_
  first | refine LM.rd (om_sl1 (by assumption) (by intro _; rfl) Tryz.isAgg23 rfl rfl au3 (by rfl)) ?_ | refine LM.rdC (om_sr1 (by assumption) Tryz.isAgg23 rfl rfl au3 (by rfl) id) ?_ | refine LM.rd (om_ld Tryz.isAgg23 rfl rfl) ?_
  refine LM.as rfl ?_
  refine LM.nil (QM.sub (e' := [(0, _), (3, _), (5, _), (9, _), (10, _), (11, _)]) au9 (QM.then (wpM.seq (wpM.region ?_))))
  have hgi : L.getD i default ∈ L := (by rw [List.getD_eq_getElem?_getD, List.getElem?_eq_getElem (by omega)]; exact List.getElem_mem _); have hni := (hL _ hgi).1; have hsn := congrArg List.length (allW_snoc (L := L) (i := i) (by omega)); have hle := allW_le L (i + 1); rw [List.length_append] at hsn
  refine LM.mv rfl (LM.mv rfl ?_)
  refine LM.val (ov_len Tryz.underlying23 rfl) ?_
  refine LM.val (ov_add64 rfl rfl (by omega)) ?_
  refine LM.as rfl ?_
  refine LM.nil (QM.sub (e' := [(0, _), (3, _), (9, _), (10, _), (11, _)]) au9 (QM.then (wpM.seq (wpM.region ?_))))
  refine LM.mv rfl ?_
  refine LM.val (ov_lss rfl rfl) ?_
  refine LM.nil (QM.sub (e' := [(0, _), (3, _), (9, _), (10, _), (11, _), (20, _)]) au9 (QM.then ?_))
  refine wpM.condD rfl (fun h2 => ?_) (fun h2 => ?_)
  ·
   exfalso; omega
  refine wpM.skip ?_
  refine QM.block_normal ?_
  refine QM.then (wpM.region ?_)
  refine LM.val (ov_add64 rfl rfl (by omega)) ?_
  refine LM.mv rfl ?_
  refine LM.nil (QM.sub (e' := [(0, _), (3, _), (9, _), (10, _), (11, _)]) au9 ?_)
  refine QM.againK (i + 1) ⟨au2, au2, rfl, rfl, rfl, trivial⟩ au1 (fun _ h => h) ?_ ?_
  · exact (by omega)
  · omega
 refine wpM.exit ?_
 refine QM.then_exit ?_
 refine QM.then_exit ?_
 refine QM.block_hit ?_
 refine QM.then (wpM.seq (wpM.region ?_))
 refine LM.mv rfl ?_
 refine LM.cS (oc_call (enters_fn Tryz.func121 (by kernel_rfl) rfl) rfl) (fun w hm hc hg => growW_spec (allW (L.take i)).length w (by have := allW_le L i; omega)) (fun ad24 n24 cap24 m24 hn24 hs24 => ?_)
 refine LM.as rfl ?_
 refine LM.nil (QM.sub (e' := [(0, _), (6, _)]) au9 (QM.then ?_))
 refine wpM.seq ?_
 refine wpM.seq (wpM.region ?_)
 refine LM.mv rfl ?_
 refine LM.val (ov_len Tryz.underlying176 rfl) ?_
 refine LM.mv rfl ?_
 refine LM.nil (QM.sub (e' := [(6, _), (25, _), (26, _), (27, _)]) au9 (QM.then ?_))
 refine wpM.block ?_
 refine wpM.loopK0 (α := Nat × Option Addr × Nat × Nat × Mem0) (fun ⟨i, ad6, n6, cap6, m6⟩ => [(6, .slice ad6 n6 cap6), (27, .int .i64 (i : Nat))]) [(25, _), (26, _)] (fun ⟨i, ad6, n6, cap6, m6⟩ => m6 ++ []) (fun ⟨i, ad6, n6, cap6, m6⟩ => i ≤ L.length ∧ n6 = (allW (L.take i)).length ∧ Sl fW 65 4 w.heap.size (allW (L.take i)) (.slice ad6 n6 cap6) m6) (fun ⟨i, ad6, n6, cap6, m6⟩ => L.length - i) ((0, ad24, n24, cap24, m24)) ⟨au2, au2, rfl, rfl, trivial⟩ au1 ⟨Nat.zero_le _, hn24, hs24⟩ ?_
 rintro ⟨i, ad6, n6, cap6, m6⟩ ⟨hi, hn6, hs6⟩
 change wpM _ _ _ _ _ _ _ (m6 ++ []) _ _ _
 refine wpM.seq (wpM.region ?_)
 refine LM.val (ov_lss rfl rfl) ?_
 refine LM.nil (QM.sub (e' := [(6, _), (25, _), (26, _), (27, _), (28, _)]) au9 (QM.then ?_))
 refine wpM.seq ?_
 refine wpM.condD rfl (fun h3 => ?_) (fun h3 => ?_)
 ·
  refine wpM.skip ?_
  refine QM.then ?_
  refine wpM.seq ?_
  refine wpM.block ?_
  refine wpM.seq (wpM.region ?_)
  refine LM.val (ov_idxSN au6 Tryz.underlying176 Tryz.sizeOf23 rfl rfl (by omega)) ?_
  first | refine LM.rd (om_sl1 (by assumption) (by intro _; rfl) Tryz.isAgg23 rfl rfl au3 (by rfl)) ?_ | refine LM.rdC (om_sr1 (by assumption) Tryz.isAgg23 rfl rfl au3 (by rfl) id) ?_ | refine LM.rd (om_ld Tryz.isAgg23 rfl rfl) ?_
  refine LM.as rfl ?_
  refine LM.nil (QM.sub (e' := [(6, _), (8, _), (25, _), (26, _), (27, _)]) au9 (QM.then (wpM.region ?_)))
  have hgi : L.getD i default ∈ L := (by rw [List.getD_eq_getElem?_getD, List.getElem?_eq_getElem (by omega)]; exact List.getElem_mem _); have hni := (hL _ hgi).1; have hsn := congrArg List.length (allW_snoc (L := L) (i := i) (by omega)); have hle := allW_le L (i + 1); rw [List.length_append] at hsn
  refine LM.mv rfl (LM.mv rfl ?_)
  refine LM.appN (ys := (L.getD i default).xs) Tryz.underlying23 Tryz.typeInfo65 rfl rfl rfl rfl rfl rfl rfl hs6 (fun w hm hc hg => (hL _ hgi).2.ext hc) (by intro _; rfl) (by intro _ u hu; simp [fW] at hu; (repeat (first | (rcases hu with rfl | hu) | subst hu | rfl))) (Nat.le_refl _) (fun p hp hlt => absurd hlt (Nat.not_lt_of_le (Sl.ge hs6 p hp))) (by unfold maxLen; omega) (by simp only [Tryz.t65]; omega) (fun ad33 n33 cap33 m33 hn33 hs33 hin33 => ?_)
  refine LM.as rfl ?_
  refine LM.nil (QM.sub (e' := [(6, _), (25, _), (26, _), (27, _)]) au9 ?_)
  refine QM.block_normal ?_
  refine QM.then (wpM.region ?_)
  refine LM.val (ov_add64 rfl rfl (by omega)) ?_
  refine LM.mv rfl ?_
  refine LM.nil (QM.sub (e' := [(6, _), (25, _), (26, _), (27, _)]) au9 ?_)
  refine QM.againK ((i + 1, ad33, n33, cap33, m33)) ⟨au2, au2, rfl, rfl, trivial⟩ au1 (fun _ h => h) ?_ ?_
  · exact ⟨by omega, by rw [allW_snoc (by omega), List.length_append]; exact hn33, by rw [allW_snoc (by omega)]; exact hs33⟩
  · first | omega | (dsimp only; omega)
 refine wpM.exit ?_
 refine QM.then_exit ?_
 refine QM.then_exit ?_
 refine QM.block_hit ?_
 refine QM.then (wpM.seq (wpM.region ?_))
 refine LM.mv rfl (LM.as rfl ?_)
 refine LM.nil (QM.sub (e' := [(2, _)]) ⟨rfl, trivial⟩ (QM.then ?_))
 refine wpM.ret ?_
 refine QM.leave (.inl rfl) [.tmp 2] Tryz.results73 rfl ?_
 intro w' hm' hc' hg'
 exact ⟨hc', m6, by (have he : i = L.length := by omega); rw [he, List.take_length] at hs6; exact hs6, hm'.pick _⟩
theorem acts_text (l : List Act) : ∀ x ∈ l.flatMap actW, x.t.length ≤ 7 := by
  intro x hx; obtain ⟨o, _, ho⟩ := List.mem_flatMap.1 hx; exact actW_text o x ho
theorem setW_t (s : StC) (l : List Act) : ∀ x ∈ setW s ++ l.flatMap actW, x.t.length ≤ 7 := by
  intro x hx
  rcases List.mem_append.1 hx with h | h
  · exact setW_text s x h
  · exact acts_text l x h
set_option maxRecDepth 100000 in
theorem xprint_spec {x : ScV} (w : World) (hX : x.In w) (hT : Tb w) : Ret Tryz.prog 28 #[x.val] w (fun v w' => v = .tuple #[vS (printX x.sv.C x.xs).1, .int .i64 (printX x.sv.C x.xs).2] ∧ Ext w w') := by
 refine Ret.enterM (l := [x.val]) Tryz.func28 rfl Tryz.ntmps28 rfl ([]) (no) (Mem.nil w) ?_
 refine wpM.seq (wpM.region ?_)
 refine LM.box rfl rfl (fun b1 hb1 => ?_)
 refine LM.as rfl (LM.as rfl ?_)
 refine LM.nil (QM.sub (e' := [(1, _)]) ⟨rfl, trivial⟩ (QM.then ?_))
 refine wpM.seq ?_
 refine wpM.seq (wpM.region ?_)
 refine LM.rd (om_ldW Tryz.isAgg49 Tryz.sizeOf49 rfl rfl) ?_
 refine LM.callE (oc_call (enters_fn Tryz.func27 (by kernel_rfl) rfl) rfl) (fun w hm hc hg => xmay_spec w (hX.ext hc)) ?_
 first | refine LM.val (ov_notD rfl) ?_ | refine LM.val (ov_not rfl) ?_
 refine LM.nil (QM.sub (e' := [(1, _), (10, _)]) au9 (QM.then ?_))
 first | refine wpM.condD rfl (fun h1 => ?_) (fun h1 => ?_) | refine wpM.condB rfl (fun h1 => ?_) (fun h1 => ?_)
 ·
  refine wpM.seq (wpM.region ?_)
  refine LM.as rfl (LM.as rfl ?_)
  refine LM.nil (QM.sub (e' := [(2, _), (3, _)]) au9 (QM.then ?_))
  refine wpM.ret ?_
  refine QM.then_ret ?_
  refine QM.leave (.inl rfl) [.tmp 2, .tmp 3] Tryz.results28 rfl ?_
  intro w' hm' hc' hg'
  refine ⟨?_, hc'⟩; unfold printX; rw [if_neg (by simpa using h1)]; rfl
 have hmX : mayX x.sv.C x.xs = true := (by simpa using h1); have hmS : mayS x.sv.C = true := (by unfold mayX at hmX; simp only [Bool.and_eq_true] at hmX; exact hmX.1); have hmA : mayA x.xs = true := (by unfold mayX at hmX; simp only [Bool.and_eq_true] at hmX; exact hmX.2); have hla := mayA_len hmA
 refine wpM.skip ?_
 refine QM.then (wpM.seq (wpM.region ?_))
 refine LM.val (ov_field Tryz.underlying49 rfl Tryz.sizeOf30 rfl (k := 0) rfl rfl) ?_
 first | refine LM.rd (om_ldW Tryz.isAgg30 Tryz.sizeOf30 rfl rfl) ?_ | refine LM.rd (om_ldA Tryz.isAgg30 Tryz.sizeOf30 rfl (vs := [_, _, _, _, _]) rfl ⟨rfl, rfl, rfl, rfl, rfl, trivial⟩) ?_
 refine LM.callT (oc_call (enters_fn Tryz.func18 (by kernel_rfl) rfl) rfl) WoT.mono (fun w hm hc hg => swords_spec w (hX.st.ext hc)) ?_
 rw [show wordsS x.sv.C = (setW x.sv.C, 0) by unfold wordsS; rw [if_pos hmS]]; rintro u14 m14 ⟨ad14, n14, cap14, rfl, hn14, hs14⟩ -
 refine LM.mv rfl ?_
 refine LM.val (ov_extract rfl rfl) ?_
 refine LM.val (ov_extract rfl rfl) ?_
 refine LM.as rfl (LM.as rfl ?_)
 refine LM.nil (QM.sub (e' := [(1, _), (4, _)]) au9 (QM.then (wpM.seq (wpM.region ?_))))
 refine LM.val (ov_field Tryz.underlying49 rfl Tryz.sizeOf47 rfl (k := 5) rfl rfl) ?_
 refine LM.rd (om_ld Tryz.isAgg47 rfl rfl) ?_
 refine LM.callT (oc_call (enters_fn Tryz.func72 (by kernel_rfl) rfl) rfl) WoT.mono (fun w hm hc hg => awords_spec w hX.hn (hX.hx.ext hc) (by omega)) ?_
 rw [mayA_words hmA]; rintro u20 m20 ⟨ad20, n20, cap20, rfl, hn20, hs20⟩ -
 refine LM.mv rfl ?_
 refine LM.val (ov_extract rfl rfl) ?_
 refine LM.val (ov_extract rfl rfl) ?_
 refine LM.as rfl (LM.as rfl ?_)
 refine LM.nil (QM.sub (e' := [(4, _), (6, _)]) au9 (QM.then (wpM.seq (wpM.region ?_))))
 refine LM.mv rfl (LM.mv rfl ?_)
 refine LM.row (vs := [_, _]) Tryz.underlying176 Tryz.sizeOf23 Tryz.zeroValue23 rfl rfl rfl rfl rfl rfl (fun b25 hb25 => ?_)
 have hs25 : Sl fSl 23 1 w.heap.size [⟨ad14, n14, cap14, setW x.sv.C⟩, ⟨ad20, n20, cap20, x.xs.flatMap actW⟩] (.slice (some ⟨b25, 0, none⟩) 2 2) [(b25, .cells (arr fSl [⟨ad14, n14, cap14, setW x.sv.C⟩, ⟨ad20, n20, cap20, x.xs.flatMap actW⟩] []) 23 (0, 0))] := .inr ⟨b25, 2, [], hb25, rfl, rfl, Nat.le_refl 2, by unfold maxLen; decide, rfl⟩; have hlA := flatA_len x.xs; have hlS := setW_len hmS; have hlW : (allW [⟨ad14, n14, cap14, setW x.sv.C⟩, ⟨ad20, n20, cap20, x.xs.flatMap actW⟩]).length = (setW x.sv.C).length + (x.xs.flatMap actW).length := (by simp [allW])
 refine LM.cS (oc_call (enters_fn Tryz.func73 (by kernel_rfl) rfl) rfl) (fun w hm hc hg => concat_spec (L := [⟨ad14, n14, cap14, setW x.sv.C⟩, ⟨ad20, n20, cap20, x.xs.flatMap actW⟩]) w rfl (by have hm2 : Mem w ((b25, .cells (arr fSl [⟨ad14, n14, cap14, setW x.sv.C⟩, ⟨ad20, n20, cap20, x.xs.flatMap actW⟩] []) 23 (0, 0)) :: _) := hm; exact hs25.srM (by intro _; rfl) hm2) (by intro p hp; simp only [List.mem_cons, List.not_mem_nil, or_false] at hp; rcases hp with rfl | rfl; exact ⟨hn14, hs14.srM (by intro _; rfl) hm⟩; exact ⟨hn20, hs20.srM (by intro _; rfl) hm⟩) (by rw [hlW]; omega) (by show 2 ≤ 1000000; decide)) (fun ad26 n26 cap26 m26 hn26 hs26 => ?_)
 refine LM.callE (oc_call (enters_fn Tryz.func54 (by kernel_rfl) rfl) rfl) (fun w hm hc hg => join_spec (ws := setW x.sv.C ++ x.xs.flatMap actW) w (by rw [hn26]; simp [allW]) (by rw [List.length_append]; omega) (by have he : allW [⟨ad14, n14, cap14, setW x.sv.C⟩, ⟨ad20, n20, cap20, x.xs.flatMap actW⟩] = setW x.sv.C ++ x.xs.flatMap actW := (by simp [allW]); rw [← he]; exact hs26.srM (by intro _; rfl) hm) (by intro y hy; have := setW_t _ _ y hy; omega) (hT.ext hc)) ?_
 refine LM.val (ov_extract rfl rfl) ?_
 refine LM.val (ov_extract rfl rfl) ?_
 refine LM.as rfl (LM.as rfl ?_)
 refine LM.nil (QM.sub (e' := [(2, _), (3, _)]) au9 (QM.then ?_))
 refine wpM.ret ?_
 refine QM.leave (.inl rfl) [.tmp 2, .tmp 3] Tryz.results28 rfl ?_
 intro w' hm' hc' hg'
 refine ⟨?_, hc'⟩; unfold printX; rw [if_pos hmX]; rfl
end Go.Eng
namespace Go.Eng
open Go Go.Proofs Go.RowKit
def aw14L : List UInt8 := [99, 111, 114, 101, 115, 32, 49, 59, 32, 103, 114, 97, 105, 110, 32, 49, 59, 32, 103, 114, 111, 117, 112, 32, 49, 59, 32, 112, 114, 111, 103, 32, 123, 32, 101, 120, 105, 116, 59, 32, 125, 32, 115, 112, 97, 119, 110, 32, 48, 32, 48, 32, 49, 32, 48, 59, 32, 116, 105, 99, 107, 32, 48, 59]
def aw14M : List UInt8 := [99, 111, 114, 101, 115, 32, 49, 59, 32, 103, 114, 97, 105, 110, 32, 49, 59, 32, 103, 114, 111, 117, 112, 32, 49, 59, 32, 112, 114, 111, 103, 32, 123, 32, 101, 120, 105, 116, 59, 32, 125, 32, 115, 112, 97, 119, 110, 32, 48, 32, 48, 32, 49, 32, 48, 59, 32, 116, 105, 99, 107, 32, 48, 59, 32, 120]
def aw14S : StC := ⟨1, 1, [1], [], [⟨false, [⟨11, 0, 0⟩]⟩]⟩
def aw14A : List Act := [⟨4, 0, 0, 1, 0⟩, ⟨1, 0, 0, 0, 0⟩]
theorem aw14_1 : scriptO aw14L = (aw14S, aw14A, 0, 0) := by decide +kernel
theorem aw14_2 : scriptO aw14M = (default, [], 65, 5) := by decide +kernel
theorem aw14_pr : printX aw14S aw14A = (aw14L, 0) := by decide +kernel
theorem aw14_may : mayX aw14S aw14A = true := by decide +kernel
theorem same_refl {x y : ScV} (h : x.sv.C = y.sv.C) (h2 : x.xs = y.xs) : x.same y = true := by
  unfold ScV.same; rw [decide_eq_true h, decide_eq_true h2]; rfl
set_option maxRecDepth 100000 in
set_option maxHeartbeats 2000000 in
theorem awake14_spec (w : World) (hT : Tb w) : Ret Tryz.prog 23 #[] w (fun v w' => v = .bool true ∧ Ext w w') := by
 refine Ret.enterM (l := []) Tryz.func23 rfl Tryz.ntmps23 rfl ([]) (no) (Mem.nil w) ?_
 refine wpM.seq (wpM.region ?_)
 refine LM.as rfl ?_
 refine LM.nil (QM.sub (e' := []) trivial (QM.then (wpM.seq (wpM.region ?_))))
 refine LM.callT (oc_call (enters_fn Tryz.func24 (by kernel_rfl) rfl) rfl) SpT.mono (fun w hm hc hg => script_spec aw14L w (by decide)) ?_
 rw [aw14_1]; rintro u10 m10 ⟨xa, rfl, hxs, hxa, hin⟩ -
 refine LM.mv rfl ?_
 refine LM.val (ov_extract rfl rfl) ?_
 refine LM.val (ov_extract rfl rfl) ?_
 refine LM.val (ov_extract rfl rfl) ?_
 refine LM.alloc Tryz.zeroValue49 rfl (fun b1 hb1 => ?_)
 refine LM.stW Tryz.sizeOf49 rfl rfl rfl rfl au7 au8 ?_
 refine LM.as rfl (LM.as rfl ?_)
 refine LM.nil (QM.sub (e' := [(1, _), (2, _), (3, _)]) au9 (QM.then (wpM.seq (wpM.region ?_))))
 refine LM.rd (om_ldW Tryz.isAgg49 Tryz.sizeOf49 rfl rfl) ?_
 refine LM.callE (oc_call (enters_fn Tryz.func28 (by kernel_rfl) rfl) rfl) (fun w hm hc hg => (show printX xa.sv.C xa.xs = (aw14L, 0) by rw [hxs, hxa]; exact aw14_pr) ▸ xprint_spec w (hin w (hm.pick m10)) (hT.ext hc)) ?_
 refine LM.mv rfl ?_
 refine LM.val (ov_extract rfl rfl) ?_
 refine LM.val (ov_extract rfl rfl) ?_
 refine LM.as rfl (LM.as rfl ?_)
 refine LM.nil (QM.sub (e' := [(1, _), (2, _), (3, _), (4, _), (5, _)]) au9 (QM.then (wpM.seq (wpM.region ?_))))
 refine LM.callT (oc_call (enters_fn Tryz.func24 (by kernel_rfl) rfl) rfl) SpT.mono (fun w hm hc hg => script_spec aw14M w (by decide)) ?_
 rw [aw14_2]; rintro u20 m20 ⟨xb, rfl, hxs2, hxa2, hin2⟩ -
 refine LM.mv rfl ?_
 refine LM.val (ov_extract rfl rfl) ?_
 refine LM.val (ov_extract rfl rfl) ?_
 refine LM.val (ov_extract rfl rfl) ?_
 refine LM.alloc Tryz.zeroValue49 rfl (fun b6 hb6 => ?_)
 refine LM.stW Tryz.sizeOf49 rfl rfl rfl rfl au7 au8 ?_
 refine LM.as rfl (LM.as rfl ?_)
 refine LM.nil (QM.sub (e' := [(1, _), (2, _), (3, _), (4, _), (5, _), (7, _), (8, _)]) au9 (QM.then (wpM.seq (wpM.region ?_))))
 refine LM.mv rfl ?_
 refine LM.val (ov_eql rfl rfl) ?_
 refine LM.mv rfl ?_
 refine LM.splitD (t := 26) rfl (fun h1 => ?_) (fun h1 => ?_)
 ·
  refine LM.sp 26 rfl rfl rfl (LM.mv rfl (LM.sp 26 rfl rfl rfl ?_))
  refine LM.val (ov_eql rfl rfl) ?_
  refine LM.val (ov_pickT rfl rfl) ?_
  refine LM.mv rfl ?_
  refine LM.splitD (t := 30) rfl (fun h2 => ?_) (fun h2 => ?_)
  ·
   refine LM.sp 30 rfl rfl rfl (LM.mv rfl (LM.sp 30 rfl rfl rfl ?_))
   refine LM.val (ov_eql rfl rfl) ?_
   refine LM.val (ov_pickT rfl rfl) ?_
   refine LM.mv rfl ?_
   refine LM.splitD (t := 34) rfl (fun h3 => ?_) (fun h3 => ?_)
   ·
    refine LM.sp 34 rfl rfl rfl (LM.mv rfl (LM.sp 34 rfl rfl rfl ?_))
    refine LM.val (ov_seqlL rfl rfl) ?_
    refine LM.val (ov_pickT rfl rfl) ?_
    refine LM.mv rfl ?_
    refine LM.splitD (t := 38) rfl (fun h4 => ?_) (fun h4 => ?_)
    ·
     refine LM.sp 38 rfl rfl rfl (LM.val (ov_field Tryz.underlying49 rfl Tryz.sizeOf47 rfl (k := 5) rfl rfl) (LM.sp 38 rfl rfl rfl ?_))
     refine LM.rd (om_ld Tryz.isAgg47 rfl rfl) ?_
     refine LM.sp 38 rfl rfl rfl ?_
     refine LM.val (ov_len Tryz.underlying47 rfl) ?_
     refine LM.sp 38 rfl rfl rfl ?_
     refine LM.val (ov_eql rfl rfl) ?_
     refine LM.val (ov_pickT rfl rfl) ?_
     refine LM.mv rfl ?_
     refine LM.splitD (t := 44) rfl (fun h5 => ?_) (fun h5 => ?_)
     ·
      refine LM.sp 44 rfl rfl rfl ?_
      refine LM.rd (om_ldW Tryz.isAgg49 Tryz.sizeOf49 rfl rfl) ?_
      refine LM.sp 44 rfl rfl rfl ?_
      refine LM.callE (oc_call (enters_fn Tryz.func27 (by kernel_rfl) rfl) rfl) (fun w hm hc hg => (show mayX xa.sv.C xa.xs = true by rw [hxs, hxa]; exact aw14_may) ▸ xmay_spec w (hin w (hm.pick m10))) ?_
      refine LM.val (ov_pickT rfl rfl) ?_
      refine LM.mv rfl ?_
      first | refine LM.splitD (t := 48) rfl (fun h6 => ?_) (fun h6 => ?_) | refine LM.splitB (t := 48) rfl (fun h6 => ?_) (fun h6 => ?_)
      ·
       refine LM.sp 48 rfl rfl rfl (LM.mv rfl (LM.sp 48 rfl rfl rfl ?_))
       refine LM.val (ov_eql rfl rfl) ?_
       refine LM.val (ov_pickT rfl rfl) ?_
       refine LM.mv rfl ?_
       refine LM.splitD (t := 52) rfl (fun h7 => ?_) (fun h7 => ?_)
       ·
        refine LM.sp 52 rfl rfl rfl (LM.mv rfl (LM.sp 52 rfl rfl rfl ?_))
        refine LM.val (ov_eql rfl rfl) ?_
        refine LM.val (ov_pickT rfl rfl) ?_
        refine LM.as rfl ?_
        refine LM.nil (QM.sub (e' := [(0, _)]) ⟨rfl, trivial⟩ (QM.then ?_))
        refine wpM.ret ?_
        refine QM.leave (.inl rfl) [.tmp 0] Tryz.results23 rfl ?_
        intro w' hm' hc' hg'
        exact ⟨rfl, hc'⟩
       refine LM.dr 52 rfl rfl rfl (LM.dr 52 rfl rfl rfl ?_)
       refine LM.val (ov_pickF rfl rfl) ?_
       refine LM.as rfl ?_
       refine LM.nil (QM.sub (e' := [(0, _)]) ⟨rfl, trivial⟩ (QM.then ?_))
       refine wpM.ret ?_
       refine QM.leave (.inl rfl) [.tmp 0] Tryz.results23 rfl ?_
       intro w' hm' hc' hg'
       first | exact ⟨rfl, hc'⟩ | (exfalso; first | omega | (simp at *; done) | (simp_all; done))
      refine LM.dr 48 rfl rfl rfl (LM.dr 48 rfl rfl rfl ?_)
      refine LM.val (ov_pickF rfl rfl) ?_
      refine LM.mv rfl (LM.dr 52 rfl rfl rfl (LM.dr 52 rfl rfl rfl ?_))
      refine LM.val (ov_pickF rfl rfl) ?_
      refine LM.as rfl ?_
      refine LM.nil (QM.sub (e' := [(0, _)]) ⟨rfl, trivial⟩ (QM.then ?_))
      refine wpM.ret ?_
      refine QM.leave (.inl rfl) [.tmp 0] Tryz.results23 rfl ?_
      intro w' hm' hc' hg'
      first | exact ⟨rfl, hc'⟩ | (exfalso; first | omega | (simp at *; done) | (simp_all; done))
     refine LM.dr 44 rfl rfl rfl (LM.dr 44 rfl rfl rfl ?_)
     refine LM.val (ov_pickF rfl rfl) ?_
     refine LM.mv rfl (LM.dr 48 rfl rfl rfl (LM.dr 48 rfl rfl rfl ?_))
     refine LM.val (ov_pickF rfl rfl) ?_
     refine LM.mv rfl (LM.dr 52 rfl rfl rfl (LM.dr 52 rfl rfl rfl ?_))
     refine LM.val (ov_pickF rfl rfl) ?_
     refine LM.as rfl ?_
     refine LM.nil (QM.sub (e' := [(0, _)]) ⟨rfl, trivial⟩ (QM.then ?_))
     refine wpM.ret ?_
     refine QM.leave (.inl rfl) [.tmp 0] Tryz.results23 rfl ?_
     intro w' hm' hc' hg'
     have hq := (hin w' (hm'.pick m10)).hn; rw [hxa] at hq; exact absurd (by rw [hq]; rfl) h5
    refine LM.dr 38 rfl rfl rfl (LM.dr 38 rfl rfl rfl (LM.dr 38 rfl rfl rfl (LM.dr 38 rfl rfl rfl ?_)))
    refine LM.val (ov_pickF rfl rfl) ?_
    refine LM.mv rfl (LM.dr 44 rfl rfl rfl (LM.dr 44 rfl rfl rfl ?_))
    refine LM.val (ov_pickF rfl rfl) ?_
    refine LM.mv rfl (LM.dr 48 rfl rfl rfl (LM.dr 48 rfl rfl rfl ?_))
    refine LM.val (ov_pickF rfl rfl) ?_
    refine LM.mv rfl (LM.dr 52 rfl rfl rfl (LM.dr 52 rfl rfl rfl ?_))
    refine LM.val (ov_pickF rfl rfl) ?_
    refine LM.as rfl ?_
    refine LM.nil (QM.sub (e' := [(0, _)]) ⟨rfl, trivial⟩ (QM.then ?_))
    refine wpM.ret ?_
    refine QM.leave (.inl rfl) [.tmp 0] Tryz.results23 rfl ?_
    intro w' hm' hc' hg'
    exact absurd rfl h4
   refine LM.dr 34 rfl rfl rfl (LM.dr 34 rfl rfl rfl ?_)
   refine LM.val (ov_pickF rfl rfl) ?_
   refine LM.mv rfl (LM.dr 38 rfl rfl rfl (LM.dr 38 rfl rfl rfl (LM.dr 38 rfl rfl rfl (LM.dr 38 rfl rfl rfl ?_))))
   refine LM.val (ov_pickF rfl rfl) ?_
   refine LM.mv rfl (LM.dr 44 rfl rfl rfl (LM.dr 44 rfl rfl rfl ?_))
   refine LM.val (ov_pickF rfl rfl) ?_
   refine LM.mv rfl (LM.dr 48 rfl rfl rfl (LM.dr 48 rfl rfl rfl ?_))
   refine LM.val (ov_pickF rfl rfl) ?_
   refine LM.mv rfl (LM.dr 52 rfl rfl rfl (LM.dr 52 rfl rfl rfl ?_))
   refine LM.val (ov_pickF rfl rfl) ?_
   refine LM.as rfl ?_
   refine LM.nil (QM.sub (e' := [(0, _)]) ⟨rfl, trivial⟩ (QM.then ?_))
   refine wpM.ret ?_
   refine QM.leave (.inl rfl) [.tmp 0] Tryz.results23 rfl ?_
   intro w' hm' hc' hg'
   first | exact ⟨rfl, hc'⟩ | (exfalso; first | omega | (simp at *; done) | (simp_all; done))
  refine LM.dr 30 rfl rfl rfl (LM.dr 30 rfl rfl rfl ?_)
  refine LM.val (ov_pickF rfl rfl) ?_
  refine LM.mv rfl (LM.dr 34 rfl rfl rfl (LM.dr 34 rfl rfl rfl ?_))
  refine LM.val (ov_pickF rfl rfl) ?_
  refine LM.mv rfl (LM.dr 38 rfl rfl rfl (LM.dr 38 rfl rfl rfl (LM.dr 38 rfl rfl rfl (LM.dr 38 rfl rfl rfl ?_))))
  refine LM.val (ov_pickF rfl rfl) ?_
  refine LM.mv rfl (LM.dr 44 rfl rfl rfl (LM.dr 44 rfl rfl rfl ?_))
  refine LM.val (ov_pickF rfl rfl) ?_
  refine LM.mv rfl (LM.dr 48 rfl rfl rfl (LM.dr 48 rfl rfl rfl ?_))
  refine LM.val (ov_pickF rfl rfl) ?_
  refine LM.mv rfl (LM.dr 52 rfl rfl rfl (LM.dr 52 rfl rfl rfl ?_))
  refine LM.val (ov_pickF rfl rfl) ?_
  refine LM.as rfl ?_
  refine LM.nil (QM.sub (e' := [(0, _)]) ⟨rfl, trivial⟩ (QM.then ?_))
  refine wpM.ret ?_
  refine QM.leave (.inl rfl) [.tmp 0] Tryz.results23 rfl ?_
  intro w' hm' hc' hg'
  first | exact ⟨rfl, hc'⟩ | (exfalso; first | omega | (simp at *; done) | (simp_all; done))
 refine LM.dr 26 rfl rfl rfl (LM.dr 26 rfl rfl rfl ?_)
 refine LM.val (ov_pickF rfl rfl) ?_
 refine LM.mv rfl (LM.dr 30 rfl rfl rfl (LM.dr 30 rfl rfl rfl ?_))
 refine LM.val (ov_pickF rfl rfl) ?_
 refine LM.mv rfl (LM.dr 34 rfl rfl rfl (LM.dr 34 rfl rfl rfl ?_))
 refine LM.val (ov_pickF rfl rfl) ?_
 refine LM.mv rfl (LM.dr 38 rfl rfl rfl (LM.dr 38 rfl rfl rfl (LM.dr 38 rfl rfl rfl (LM.dr 38 rfl rfl rfl ?_))))
 refine LM.val (ov_pickF rfl rfl) ?_
 refine LM.mv rfl (LM.dr 44 rfl rfl rfl (LM.dr 44 rfl rfl rfl ?_))
 refine LM.val (ov_pickF rfl rfl) ?_
 refine LM.mv rfl (LM.dr 48 rfl rfl rfl (LM.dr 48 rfl rfl rfl ?_))
 refine LM.val (ov_pickF rfl rfl) ?_
 refine LM.mv rfl (LM.dr 52 rfl rfl rfl (LM.dr 52 rfl rfl rfl ?_))
 refine LM.val (ov_pickF rfl rfl) ?_
 refine LM.as rfl ?_
 refine LM.nil (QM.sub (e' := [(0, _)]) ⟨rfl, trivial⟩ (QM.then ?_))
 refine wpM.ret ?_
 refine QM.leave (.inl rfl) [.tmp 0] Tryz.results23 rfl ?_
 intro w' hm' hc' hg'
 first | exact ⟨rfl, hc'⟩ | (exfalso; first | omega | (simp at *; done) | (simp_all; done))
end Go.Eng
namespace Go.Eng
open Go Go.Proofs Go.RowKit
def valD (acc : Int) : List UInt8 → Int
  | [] => acc
  | c :: l => valD (acc * 10 + ((c.toNat : Nat) : Int) - 48) l
theorem valD_snoc (l : List UInt8) : ∀ (acc : Int) (c : UInt8), valD acc (l ++ [c]) = valD acc l * 10 + ((c.toNat : Nat) : Int) - 48 := by
  induction l with
  | nil => intro acc c; rfl
  | cons a l ih => intro acc c; rw [List.cons_append, valD, ih]; rfl
theorem numF_app : ∀ (l rest : List UInt8) (k : Nat) (acc : Int), l.all digB = true → l.length ≤ k → numF k (l ++ rest) acc = numF (k - l.length) rest (valD acc l)
  | [], rest, k, acc, _, _ => rfl
  | c :: l, rest, 0, acc, _, h => absurd h (by simp)
  | c :: l, rest, k + 1, acc, ha, h => by
    rw [List.all_cons, Bool.and_eq_true] at ha
    rw [List.cons_append, numF, if_pos ha.1, numF_app l rest k _ ha.2 (by simpa using h), valD, List.length_cons, Nat.add_sub_add_right]
def offB (p : UInt8 → Bool) : List UInt8 → Prop
  | [] => True
  | c :: _ => p c = false
theorem numF_off {rest : List UInt8} (h : offB digB rest) (k : Nat) (acc : Int) : numF k rest acc = acc := by
  cases k with
  | zero => rfl
  | succ k =>
    cases rest with
    | nil => rfl
    | cons c l => rw [numF, if_neg (by rw [show digB c = false from h]; simp)]
theorem tw_app {p : UInt8 → Bool} : ∀ {t rest : List UInt8}, t.all p = true → offB p rest → (t ++ rest).takeWhile p = t
  | [], [], _, _ => rfl
  | [], c :: l, _, h => by rw [List.nil_append, List.takeWhile_cons, show p c = false from h]; rfl
  | c :: t, rest, ha, h => by
    rw [List.all_cons, Bool.and_eq_true] at ha
    rw [List.cons_append, List.takeWhile_cons, if_pos ha.1, tw_app ha.2 h]
theorem dig_of {d : Nat} (h : d < 10) : digB (UInt8.ofNat (48 + d)) = true ∧ ((((UInt8.ofNat (48 + d)).toNat : Nat) : Int)) - 48 = d := by
  have e : (UInt8.ofNat (48 + d)).toNat = 48 + d := by simp; omega
  unfold digB digN
  rw [e]; simp only [Bool.and_eq_true, decide_eq_true_eq]; omega
theorem digF_dig : ∀ (f u : Nat), (digF f u).all digB = true
  | 0, u => rfl
  | f + 1, u => by
    unfold digF; split
    · rename_i h; rw [List.all_cons, (dig_of h).1]; rfl
    · rw [List.all_append, digF_dig f, List.all_cons, (dig_of (Nat.mod_lt u (by decide))).1]; rfl
theorem digF_val : ∀ (f u : Nat), u < 10 ^ f → valD 0 (digF f u) = (u : Int)
  | 0, u, h => by have : u = 0 := by simpa using h
                  subst this; rfl
  | f + 1, u, h => by
    unfold digF; split
    · rename_i q; have := (dig_of q).2; simp only [valD]; omega
    · rename_i q
      have h2 := (dig_of (Nat.mod_lt u (show 0 < 10 by decide))).2
      rw [valD_snoc, digF_val f (u / 10) (by rw [Nat.pow_succ] at h; omega)]; omega
theorem digF_short : ∀ (k f u : Nat), u < 10 ^ (k + 1) → (digF f u).length ≤ k + 1
  | k, 0, u, _ => Nat.zero_le _
  | 0, f + 1, u, h => by unfold digF; rw [if_pos (by simpa using h)]; simp
  | k + 1, f + 1, u, h => by
    unfold digF; split
    · simp
    · have := digF_short k f (u / 10) (by rw [Nat.pow_succ] at h; omega)
      rw [List.length_append, List.length_singleton]; omega
theorem digF_head : ∀ (f u : Nat), 1 ≤ u → u < 10 ^ f → ∃ c r, digF f u = c :: r ∧ c ≠ 48
  | 0, u, h1, h => absurd h (by simp; omega)
  | f + 1, u, h1, h => by
    unfold digF; split
    · rename_i q
      refine ⟨_, _, rfl, fun e => ?_⟩
      have h2 := (dig_of q).2
      rw [e] at h2; simp at h2; omega
    · obtain ⟨c, r, e, hc⟩ := digF_head f (u / 10) (by omega) (by rw [Nat.pow_succ] at h; omega)
      exact ⟨c, r ++ [UInt8.ofNat (48 + u % 10)], by rw [e]; rfl, hc⟩
theorem digF_ne {f u : Nat} : digF (f + 1) u ≠ [] := by unfold digF; split <;> simp
/-! one word, from its text on -/
theorem runL_of {p : UInt8 → Bool} {s t rest : List UInt8} {i : Nat} (h : s.drop i = t ++ rest) (ht : t.all p = true) (hr : offB p rest) : runL p s i = t.length := by
  unfold runL; rw [h, tw_app ht hr]
theorem getD_of {s t rest : List UInt8} {c : UInt8} {i : Nat} (h : s.drop i = (c :: t) ++ rest) : s.getD i 0 = c ∧ i < s.length := by
  have h1 : i < s.length := by have := congrArg List.length h; rw [List.length_drop] at this; simp at this; omega
  refine ⟨?_, h1⟩
  rw [drop_get h1, List.cons_append] at h
  exact (List.cons.inj h).1
theorem one_name {s t rest : List UInt8} {i : Nat} (h : s.drop i = t ++ rest) (ht : t.all letB = true) (h0 : t ≠ []) (hl : t.length ≤ 12) (hr : offB letB rest) : oneO s i = (⟨1, t, 0, (i : Nat)⟩, i + t.length, true) := by
  match t, h0 with
  | c :: t, _ =>
    obtain ⟨hc, _⟩ := getD_of h
    have hlc : letB c = true := by rw [List.all_cons, Bool.and_eq_true] at ht; exact ht.1
    unfold oneO
    rw [hc, if_pos hlc, runL_of h ht hr, h, List.take_left, decide_eq_true hl]
theorem one_num {s rest : List UInt8} {i : Nat} {n : Int} (h0 : 0 ≤ n ∧ n ≤ 999999999) (h : s.drop i = digF 10 n.toNat ++ rest) (hr : offB digB rest) : oneO s i = (⟨2, [], n, (i : Nat)⟩, i + (digF 10 n.toNat).length, true) := by
  have hn : n.toNat < 10 ^ 9 := by omega
  have hd := digF_dig 10 n.toNat
  have hlen := digF_short 8 10 n.toNat hn
  have hv := digF_val 10 n.toNat (Nat.lt_of_lt_of_le hn (by decide))
  obtain ⟨c, t, e⟩ : ∃ c t, digF 10 n.toNat = c :: t := by
    cases hq : digF 10 n.toNat with
    | nil => exact absurd hq digF_ne
    | cons c t => exact ⟨c, t, rfl⟩
  have hrun := runL_of h hd hr
  have hnum : numF 9 (s.drop i) 0 = n := by
    rw [h, numF_app _ _ _ _ hd hlen, numF_off hr, hv]; omega
  obtain ⟨hc, _⟩ := getD_of (t := t) (c := c) (by rw [h, e])
  have hdc : digB c = true := by rw [e, List.all_cons, Bool.and_eq_true] at hd; exact hd.1
  unfold oneO
  rw [hc, if_neg (by rw [dig_let c hdc]; simp), if_pos hdc, hrun, hnum, decide_eq_true hlen, Bool.true_and]
  have : (decide ((((c.toNat : Nat) : Int)) ≠ 48) || decide ((digF 10 n.toNat).length = 1)) = true := by
    by_cases q : n.toNat < 10
    · have : (digF 10 n.toNat).length = 1 := by unfold digF; rw [if_pos q]; rfl
      rw [decide_eq_true this, Bool.or_true]
    · obtain ⟨c', r, e', hc'⟩ := digF_head 10 n.toNat (by omega) (Nat.lt_of_lt_of_le hn (by decide))
      rw [e] at e'
      obtain rfl := (List.cons.inj e').1
      rw [decide_eq_true (show (((c.toNat : Nat) : Int)) ≠ 48 by
        intro q; apply hc'; apply UInt8.toNat_inj.1; simp; omega), Bool.true_or]
  rw [this]
theorem one_mrk {s rest : List UInt8} {c : UInt8} {i : Nat} (h : s.drop i = [c] ++ rest) (hm : markB c = true) : oneO s i = (⟨3, [c], 0, (i : Nat)⟩, i + 1, true) := by
  obtain ⟨hc, _⟩ := getD_of h
  have hl : letB c = false := by
    cases hl : letB c with
    | false => rfl
    | true => rw [let_mark c hl] at hm; cases hm
  have hd : digB c = false := by
    cases hd : digB c with
    | false => rfl
    | true => rw [dig_mark c hd] at hm; cases hm
  unfold oneO
  rw [hc, if_neg (by rw [hl]; simp), if_neg (by rw [hd]; simp), h, hm]; rfl
theorem textO_inv {x : Wrd} (h : (textO x).2 = 0) : (isNum x = true ∧ (textO x).1 = digF 10 x.n.toNat) ∨ (x.n = 0 ∧ x.t ≠ [] ∧ isName x = true ∧ (textO x).1 = x.t) ∨ (x.n = 0 ∧ x.t ≠ [] ∧ isMark x = true ∧ (textO x).1 = x.t) := by
  unfold textO at h ⊢
  by_cases h1 : isNum x = true
  · rw [if_pos h1]; exact .inl ⟨h1, rfl⟩
  rw [if_neg h1] at h ⊢
  by_cases h2 : isBad x = true
  · rw [if_pos h2] at h; cases h
  rw [if_neg h2] at h ⊢
  have hb : x.n = 0 ∧ x.t ≠ [] := by
    unfold isBad at h2; simp only [Bool.or_eq_true, decide_eq_true_eq, not_or, Classical.not_not] at h2; exact h2
  by_cases h3 : isName x = true
  · rw [if_pos h3]; exact .inr (.inl ⟨hb.1, hb.2, h3, rfl⟩)
  rw [if_neg h3] at h ⊢
  by_cases h4 : isMark x = true
  · rw [if_pos h4]; exact .inr (.inr ⟨hb.1, hb.2, h4, rfl⟩)
  rw [if_neg h4] at h; cases h
def sepB (rest : List UInt8) : Prop := offB letB rest ∧ offB digB rest
def wordB (c : UInt8) : Bool := letB c || digB c || markB c
theorem wordB_no (c : UInt8) (h : wordB c = true) : blankB c = false ∧ hashB c = false := by
  have := all256 (fun c => !wordB c || (!blankB c && !hashB c)) (fun _ => true) (by decide +kernel) c
  rw [h] at this; simpa using this
theorem one_word {x : Wrd} (hx : (textO x).2 = 0) {s rest : List UInt8} {i : Nat} (h : s.drop i = (textO x).1 ++ rest) (hr : sepB rest) : ∃ y, oneO s i = (y, i + (textO x).1.length, true) ∧ eqW false y x = true ∧ y.k = x.k ∧ i < s.length ∧ wordB (s.getD i 0) = true := by
  rcases textO_inv hx with ⟨h1, h2⟩ | ⟨hn, ht, h1, h2⟩ | ⟨hn, ht, h1, h2⟩
  · rw [h2] at h ⊢
    have hr1 := isNum_rng h1
    unfold isNum at h1; simp only [Bool.and_eq_true, decide_eq_true_eq] at h1
    refine ⟨_, one_num hr1 h hr.2, ?_, h1.1.1.1.symm, ?_⟩
    · unfold eqW; simp [h1.1.1.1, h1.1.1.2]
    · obtain ⟨c, t, e⟩ : ∃ c t, digF 10 x.n.toNat = c :: t := by
        cases hq : digF 10 x.n.toNat with
        | nil => exact absurd hq digF_ne
        | cons c t => exact ⟨c, t, rfl⟩
      rw [e] at h
      obtain ⟨hc, hl⟩ := getD_of h
      have hd := digF_dig 10 x.n.toNat
      rw [e, List.all_cons, Bool.and_eq_true] at hd
      exact ⟨hl, by rw [hc]; unfold wordB; rw [hd.1]; simp⟩
  · rw [h2] at h ⊢
    unfold isName at h1; simp only [Bool.and_eq_true, decide_eq_true_eq] at h1
    refine ⟨_, one_name h h1.2 ht h1.1.2 hr.1, ?_, h1.1.1.symm, ?_⟩
    · unfold eqW; simp [h1.1.1, hn]
    · match hq : x.t, ht with
      | c :: t, _ =>
        rw [hq] at h
        obtain ⟨hc, hl⟩ := getD_of h
        have h3 := h1.2
        rw [hq, List.all_cons, Bool.and_eq_true] at h3
        exact ⟨hl, by rw [hc]; unfold wordB; rw [h3.1]; rfl⟩
  · rw [h2] at h ⊢
    unfold isMark at h1; simp only [Bool.and_eq_true, decide_eq_true_eq] at h1
    match hq : x.t, ht, h1.1.2 with
    | [c], _, _ =>
      rw [hq] at h
      have h3 := h1.2
      rw [hq, List.all_cons, Bool.and_eq_true] at h3
      obtain ⟨hc, hl⟩ := getD_of (t := []) h
      refine ⟨_, one_mrk h h3.1, ?_, h1.1.1.symm, hl, by rw [hc]; unfold wordB; rw [h3.1]; simp⟩
      unfold eqW; simp [h1.1.1, hn, hq]
theorem word_step {x : Wrd} (hx : (textO x).2 = 0) {s rest : List UInt8} {i : Nat} {last : Int} {out : List Wrd} (h : s.drop i = (textO x).1 ++ rest) (hr : sepB rest) (hl : last ≠ (i : Int) ∨ x.k = 3) : ∃ y, scanR s i last out = scanR s (i + (textO x).1.length) ((i + (textO x).1.length : Nat) : Int) (out ++ [y]) ∧ eqW false y x = true := by
  obtain ⟨y, h1, h2, h3, h4, h5⟩ := one_word hx h hr
  have hb := wordB_no _ h5
  refine ⟨y, ?_, h2⟩
  rw [scanR_word h4 hb.1 hb.2 (by
    unfold badO; rw [h1]
    simp only [Bool.not_true, Bool.false_or]
    rcases hl with hl | hl
    · rw [decide_eq_false hl]; rfl
    · rw [h3, hl]; simp), h1]
def sepT (t : List UInt8) : List UInt8 := if t = [59] then t else 32 :: t
def tailT (l : List Wrd) : List UInt8 := l.flatMap (fun x => sepT (textO x).1)
theorem tail_sep : ∀ (l : List Wrd), sepB (tailT l)
  | [] => ⟨trivial, trivial⟩
  | x :: l => by
    have e : tailT (x :: l) = sepT (textO x).1 ++ tailT l := rfl
    rw [e]
    unfold sepT
    split
    · rename_i h; rw [h]; exact ⟨(show letB 59 = false by decide), (show digB 59 = false by decide)⟩
    · exact ⟨(show letB 32 = false by decide), (show digB 32 = false by decide)⟩
theorem semi_k {x : Wrd} (hx : (textO x).2 = 0) (h : (textO x).1 = [59]) : x.k = 3 := by
  rcases textO_inv hx with ⟨h1, h2⟩ | ⟨hn, ht, h1, h2⟩ | ⟨hn, ht, h1, h2⟩
  · have := digF_dig 10 x.n.toNat; rw [← h2, h] at this; exact absurd this (by decide)
  · unfold isName at h1; simp only [Bool.and_eq_true, decide_eq_true_eq] at h1
    have h3 := h1.2; rw [← h2, h] at h3; exact absurd h3 (by decide)
  · unfold isMark at h1; simp only [Bool.and_eq_true, decide_eq_true_eq] at h1; exact h1.1.1
theorem scan_tail {s : List UInt8} : ∀ (l : List Wrd) (i : Nat) (out : List Wrd), s.drop i = tailT l → (∀ x ∈ l, (textO x).2 = 0) → ∃ l', scanR s i (i : Int) out = (out ++ l', 0, 0) ∧ sameW false l' l = true
  | [], i, out, h, _ => by
    have : s.length ≤ i := by have := congrArg List.length h; simp [tailT] at this; omega
    exact ⟨[], by rw [scanR_end this]; simp, rfl⟩
  | x :: l, i, out, h, hk => by
    have hx := hk x (List.mem_cons_self ..)
    have e : tailT (x :: l) = sepT (textO x).1 ++ tailT l := rfl
    rw [e] at h
    have go : ∀ j last, s.drop j = (textO x).1 ++ tailT l → (last ≠ (j : Int) ∨ x.k = 3) → ∃ l', scanR s j last out = (out ++ l', 0, 0) ∧ sameW false l' (x :: l) = true := fun j last hj hl => by
      obtain ⟨y, h1, h2⟩ := word_step (out := out) hx hj (tail_sep l) hl
      obtain ⟨l', h3, h4⟩ := scan_tail l (j + (textO x).1.length) (out ++ [y]) (by rw [← List.drop_drop, hj, List.drop_left]) (fun z hz => hk z (List.mem_cons_of_mem _ hz))
      exact ⟨y :: l', by rw [h1, h3]; simp, by rw [sameW, h2, h4]; rfl⟩
    unfold sepT at h
    split at h
    · rename_i q; exact go i _ h (.inr (semi_k hx q))
    · have hi : i < s.length := by have := congrArg List.length h; rw [List.length_drop] at this; simp at this; omega
      have hg : s.getD i 0 = 32 := by rw [drop_get hi, List.cons_append] at h; exact (List.cons.inj h).1
      have hd : s.drop (i + 1) = (textO x).1 ++ tailT l := by rw [drop_get hi, List.cons_append] at h; exact (List.cons.inj h).2
      rw [scanR_blank hi (by rw [hg]; decide)]
      exact go (i + 1) _ hd (.inl (by omega))
theorem glue_sep {out t : List UInt8} (h : out ≠ []) : glue out t = out ++ sepT t := by
  have h0 : 0 < out.length := List.length_pos_iff.2 h
  unfold glue sepT
  rw [decide_eq_true h0, Bool.true_and]
  by_cases q : t = [59]
  · rw [if_pos q, decide_eq_false (fun r => r q)]; rfl
  · rw [if_neg q, decide_eq_true q]; simp
theorem joinF_tail : ∀ (l : List Wrd) (out : List UInt8), out ≠ [] → (joinF l out).2 = 0 → (joinF l out).1 = out ++ tailT l ∧ (∀ x ∈ l, (textO x).2 = 0) ∧ (joinF l out).1.length ≤ 8000
  | [], out, h, h2 => by
    unfold joinF at h2 ⊢
    split at h2
    · cases h2
    · rename_i q; rw [if_neg q]; exact ⟨by simp [tailT], fun x hx => (by cases hx), by show out.length ≤ 8000; omega⟩
  | x :: l, out, h, h2 => by
    unfold joinF at h2 ⊢
    split at h2
    · cases h2
    · rename_i q
      rw [if_neg q]
      have hne : glue out (textO x).1 ≠ [] := by rw [glue_sep h]; simp [h]
      obtain ⟨h3, h4, h5⟩ := joinF_tail l _ hne h2
      refine ⟨by rw [h3, glue_sep h, List.append_assoc]; rfl, fun z hz => ?_, h5⟩
      rcases List.mem_cons.1 hz with rfl | hz
      · exact Classical.not_not.1 q
      · exact h4 z hz
theorem text_ne {x : Wrd} (hx : (textO x).2 = 0) : (textO x).1 ≠ [] := by
  rcases textO_inv hx with ⟨h1, h2⟩ | ⟨hn, ht, h1, h2⟩ | ⟨hn, ht, h1, h2⟩
  · rw [h2]; exact digF_ne
  · rw [h2]; exact ht
  · rw [h2]; exact ht
theorem join_scan {l : List Wrd} (h : (joinO l).2 = 0) : ∃ l', scanO (joinO l).1 = (l', 0, 0) ∧ sameW false l' l = true := by
  cases l with
  | nil => exact ⟨[], by decide +kernel, rfl⟩
  | cons x l =>
    unfold joinO at h ⊢
    rw [joinF] at h ⊢
    split at h
    · cases h
    · rename_i q
      rw [if_neg q]
      have hx : (textO x).2 = 0 := Classical.not_not.1 q
      have hg : glue [] (textO x).1 = (textO x).1 := rfl
      rw [hg] at h ⊢
      obtain ⟨h1, h2, h3⟩ := joinF_tail l _ (text_ne hx) h
      unfold scanO
      rw [if_neg (by omega)]
      obtain ⟨y, h4, h5⟩ := word_step (s := (joinF l (textO x).1).1) (i := 0) (last := -1) (out := []) hx (by rw [List.drop_zero, h1]) (tail_sep l) (.inl (by decide))
      obtain ⟨l', h6, h7⟩ := scan_tail (s := (joinF l (textO x).1).1) l (0 + (textO x).1.length) ([] ++ [y]) (by rw [h1, Nat.zero_add, List.drop_left]) h2
      exact ⟨y :: l', by rw [h4, h6]; rfl, by rw [sameW, h5, h7]; rfl⟩
end Go.Eng
namespace Go.Eng
open Go Go.RowKit
def stp (x : Wrd) : Wrd := { x with p := 0 }
def noP (ws : List Wrd) : List Wrd := ws.map stp
theorem same_noP : ∀ {a b : List Wrd}, sameW false a b = true → noP a = noP b
  | [], [], _ => rfl
  | [], _ :: _, h => by simp [sameW] at h
  | _ :: _, [], h => by simp [sameW] at h
  | x :: a, y :: b, h => by
    rw [sameW, Bool.and_eq_true] at h
    have h1 := h.1
    unfold eqW at h1
    simp only [Bool.not_false, Bool.true_or, Bool.and_true, Bool.and_eq_true, decide_eq_true_eq] at h1
    have h2 := same_noP h.2
    unfold noP at h2 ⊢
    rw [List.map_cons, List.map_cons, h2]
    congr 1
    unfold stp
    rw [h1.1.1, h1.1.2, h1.2]
theorem noP_len (ws : List Wrd) : (noP ws).length = ws.length := List.length_map ..
theorem noP_get (ws : List Wrd) (i : Nat) : (noP ws).getD i default = stp (ws.getD i default) := by
  unfold noP
  rw [List.getD_eq_getElem?_getD, List.getD_eq_getElem?_getD, List.getElem?_map]
  cases ws[i]? <;> rfl
theorem noP_k (ws : List Wrd) (i : Nat) : ((noP ws).getD i default).k = (ws.getD i default).k := by rw [noP_get]; rfl
theorem noP_t (ws : List Wrd) (i : Nat) : ((noP ws).getD i default).t = (ws.getD i default).t := by rw [noP_get]; rfl
theorem noP_n (ws : List Wrd) (i : Nat) : ((noP ws).getD i default).n = (ws.getD i default).n := by rw [noP_get]; rfl
section
variable (ws : List Wrd)
theorem isR_p (i : Nat) (k : Int) (t : List UInt8) : isR (noP ws) i k t = isR ws i k t := by unfold isR; rw [noP_len, noP_k, noP_t]
theorem kindR_p (i : Nat) : kindR (noP ws) i = kindR ws i := by unfold kindR; rw [noP_len, noP_k, noP_t]
theorem numR_p (i : Nat) (lo hi : Int) : numR (noP ws) i lo hi = numR ws i lo hi := by unfold numR; rw [noP_len, noP_k, noP_n]
theorem num2_p (a : Nat × Int × Int) (lo hi : Int) : num2 (noP ws) a lo hi = num2 ws a lo hi := by unfold num2; rw [numR_p]
theorem opA_p (i : Nat) : opA (noP ws) i = opA ws i := by unfold opA; rw [numR_p, kindR_p]
theorem opB_p (i : Nat) : opB (noP ws) i = opB ws i := by unfold opB; rw [num2_p, kindR_p, opA_p]
theorem opR_p (i a : Nat) : opR (noP ws) i a = opR ws i a := by unfold opR; rw [opB_p, opA_p, kindR_p, isR_p]
theorem loopP_p : ∀ (f i : Nat) (ops : List COp), loopP f (noP ws) i ops = loopP f ws i ops
  | 0, _, _ => rfl
  | f + 1, i, ops => by rw [loopP, loopP, isR_p, opR_p, loopP_p f]
theorem loopR_p (i : Nat) (ops : List COp) : loopR (noP ws) i ops = loopR ws i ops := by unfold loopR; rw [loopP_p, noP_len]
theorem headR_p (i : Nat) : headR (noP ws) i = headR ws i := by unfold headR; rw [isR_p]
theorem bodyR_p (i : Nat) : bodyR (noP ws) i = bodyR ws i := by unfold bodyR; rw [headR_p, isR_p, isR_p, loopR_p]
theorem parseO_p (p : Int) : parseO (noP ws) p = parseO ws p := by unfold parseO; rw [headR_p, bodyR_p, noP_len]
theorem isE_p (i : Nat) (e k : Int) (t : List UInt8) : isE (noP ws) i e k t = isE ws i e k t := by rw [isE_eq, isE_eq, isR_p]
theorem needE_p (i : Nat) (e k : Int) (t : List UInt8) : needE (noP ws) i e k t = needE ws i e k t := by unfold needE; rw [isE_p]
theorem numE_p (i : Nat) (e lo hi : Int) : numE (noP ws) i e lo hi = numE ws i e lo hi := by unfold numE; rw [numR_p]
theorem fldE_p (i : Nat) (e : Int) (nm : List UInt8) (m : Int) : fldE (noP ws) i e nm m = fldE ws i e nm m := by unfold fldE; rw [needE_p, numE_p]
theorem linE_p (i : Nat) (e : Int) (nm : List UInt8) (m : Int) : linE (noP ws) i e nm m = linE ws i e nm m := by unfold linE; rw [fldE_p, needE_p]
theorem lkA_p (i : Nat) (e : Int) : lkA (noP ws) i e = lkA ws i e := by unfold lkA; rw [fldE_p]
theorem lkB_p (i : Nat) (e : Int) : lkB (noP ws) i e = lkB ws i e := by unfold lkB; rw [lkA_p, fldE_p]
theorem lkC_p (sh : Bool) (i : Nat) (e : Int) : lkC (noP ws) sh i e = lkC ws sh i e := by unfold lkC; rw [lkB_p, fldE_p]
theorem lkD_p (sh : Bool) (i : Nat) (e : Int) : lkD (noP ws) sh i e = lkD ws sh i e := by unfold lkD; rw [lkC_p, fldE_p]
theorem lckE_p (sh : Bool) (i : Nat) (e : Int) : lckE (noP ws) sh i e = lckE ws sh i e := by unfold lckE; rw [lkD_p, lkC_p, lkB_p, lkA_p, needE_p]
theorem gpF_p : ∀ (f i : Nat) (e : Int) (gs : List Int), gpF (noP ws) f i e gs = gpF ws f i e gs
  | 0, i, e, gs => by rw [gpF, gpF, isE_p]
  | f + 1, i, e, gs => by rw [gpF, gpF, isE_p, linE_p, gpF_p f]
theorem gpO_p (i : Nat) (e : Int) : gpO (noP ws) i e = gpO ws i e := by unfold gpO gpL; rw [linE_p, gpF_p]
theorem isL_p (i : Nat) (e : Int) : isL (noP ws) i e = isL ws i e := by unfold isL; rw [isE_p, isE_p]
theorem lkF_p : ∀ (f i : Nat) (e : Int) (ls : List CLk), lkF (noP ws) f i e ls = lkF ws f i e ls
  | 0, i, e, ls => by rw [lkF, lkF, isL_p]
  | f + 1, i, e, ls => by rw [lkF, lkF, isL_p, isE_p, lckE_p, lkF_p f]
theorem lkL_p (i : Nat) (e : Int) (ls : List CLk) : lkL (noP ws) i e ls = lkL ws i e ls := by unfold lkL; rw [lkF_p]
theorem isP_p (i : Nat) (e : Int) (ps : List PgC) : isP (noP ws) i e ps = isP ws i e ps := by unfold isP; rw [isE_p]
theorem pgF_p : ∀ (f i : Nat) (e : Int) (ps : List PgC) (pl : List Int), pgF (noP ws) f i e ps pl = pgF ws f i e ps pl
  | 0, i, e, ps, pl => by rw [pgF, pgF, isP_p]
  | f + 1, i, e, ps, pl => by rw [pgF, pgF, isP_p, parseO_p, pgF_p f]
theorem pgL_p (i : Nat) (e : Int) (ps : List PgC) (pl : List Int) : pgL (noP ws) i e ps pl = pgL ws i e ps pl := by unfold pgL; rw [pgF_p]
theorem sA_p (i : Nat) : sA (noP ws) i = sA ws i := by unfold sA; rw [linE_p]
theorem sB2_p (i : Nat) : sB2 (noP ws) i = sB2 ws i := by unfold sB2; rw [sA_p, linE_p]
theorem sG_p (i : Nat) : sG (noP ws) i = sG ws i := by unfold sG; rw [sB2_p, gpO_p]
theorem sL_p (i : Nat) : sL (noP ws) i = sL ws i := by unfold sL; rw [sG_p, lkL_p]
theorem sP_p (i : Nat) : sP (noP ws) i = sP ws i := by unfold sP; rw [sL_p, pgL_p]
theorem stpR_p (i : Nat) : stpR (noP ws) i = stpR ws i := by unfold stpR; rw [sP_p, sL_p, sG_p, sB2_p, sA_p]
theorem setO_p (p : Int) : setO (noP ws) p = setO ws p := by unfold setO; rw [stpR_p, noP_len]
theorem kindA_p (i : Nat) : kindA (noP ws) i = kindA ws i := by unfold kindA; rw [noP_len, noP_k, noP_t]
theorem numG_p : ∀ (f j i : Nat) (xs : List Int), numG (noP ws) f j i xs = numG ws f j i xs
  | 0, _, _, _ => rfl
  | f + 1, j, i, xs => by rw [numG, numG, noP_len, noP_k, noP_n, numG_p f]
theorem numK_p (i : Nat) : numK (noP ws) i = numK ws i := by unfold numK; rw [kindA_p, numG_p]
theorem oneA_p (i : Nat) : oneA (noP ws) i = oneA ws i := by unfold oneA; rw [kindA_p, numK_p, isR_p]
theorem loopAF_p : ∀ (f i : Nat) (out : List Act), loopAF f (noP ws) i out = loopAF f ws i out
  | 0, _, _ => rfl
  | f + 1, i, out => by rw [loopAF, loopAF, noP_len, kindA_p, oneA_p, loopAF_p f]
theorem actsO_p (p : Int) : actsO (noP ws) p = actsO ws p := by unfold actsO loopA; rw [loopAF_p, noP_len]
end
/-! the words of a script -/
theorem acT_noProg {k : Int} (h : 1 ≤ k ∧ k ≤ 8) : acT k ≠ wProg := by
  have : k = 1 ∨ k = 2 ∨ k = 3 ∨ k = 4 ∨ k = 5 ∨ k = 6 ∨ k = 7 ∨ k = 8 := by omega
  rcases this with rfl | rfl | rfl | rfl | rfl | rfl | rfl | rfl <;> decide +kernel
theorem right_kind {o : Act} (hr : rightA o = true) : 1 ≤ o.k ∧ o.k ≤ 8 := by
  unfold rightA kindOk at hr; simp only [Bool.and_eq_true, decide_eq_true_eq] at hr; exact hr.1
theorem scr_words {s : StC} {l : List Act} (h : mayX s l = true) :
    setO (setW s ++ l.flatMap actW) 0 = (s, ((setW s).length : Int), 0) ∧ actsO (setW s ++ l.flatMap actW) ((setW s).length : Int) = (l, (((setW s).length + (l.flatMap actW).length : Nat) : Int), 0) := by
  unfold mayX at h
  rw [Bool.and_eq_true] at h
  have hA := h.2
  unfold mayA at hA; simp only [Bool.and_eq_true, decide_eq_true_eq] at hA
  constructor
  · have := set_nat (ws := setW s ++ l.flatMap actW) (i := 0) (Nat.zero_le _)
    rw [show ((0 : Nat) : Int) = 0 from rfl] at this
    rw [this, stpR_words (tl := l.flatMap actW) (s := s) (by simp) h.1 ?_]
    · simp
    · cases hq : isR (setW s ++ l.flatMap actW) (0 + (setW s).length) 1 wProg with
      | false => rfl
      | true =>
        exfalso
        have hd : (setW s ++ l.flatMap actW).drop (0 + (setW s).length) = l.flatMap actW := by simp
        cases l with
        | nil => have := isR_lt hq; simp at this
        | cons o l =>
          rw [List.flatMap_cons] at hd
          have h0 : (setW s ++ (o :: l).flatMap actW).drop (0 + (setW s).length) = ⟨1, acT o.k, 0, 0⟩ :: (((numsA o).take (manyA o.k)).map numW ++ [mk3 [59]] ++ l.flatMap actW) := by
            rw [List.flatMap_cons, hd]; simp [actW]
          have g0 := drop_getD default h0 0
          unfold isR at hq
          simp only [Bool.and_eq_true, decide_eq_true_eq] at hq
          have ht := hq.2
          rw [Nat.add_zero] at g0
          rw [g0] at ht
          have hr := hA.2
          rw [List.all_cons, Bool.and_eq_true] at hr
          exact acT_noProg (right_kind hr.1) ht
  · have := loopA_words (ws := setW s ++ l.flatMap actW) l [] (setW s).length (by simp) hA.2 (by simpa using hA.1)
    rw [acts_nat (by simp), this]; simp
theorem scr_back {s : StC} {l : List Act} (h : mayX s l = true) (hj : (joinO (setW s ++ l.flatMap actW)).2 = 0) : scriptO (joinO (setW s ++ l.flatMap actW)).1 = (s, l, 0, 0) := by
  obtain ⟨l', h1, h2⟩ := join_scan hj
  obtain ⟨w1, w2⟩ := scr_words h
  have hp := same_noP h2
  have e1 : setO l' 0 = (s, ((setW s).length : Int), 0) := by rw [← setO_p, hp, setO_p]; exact w1
  have e2 : actsO l' ((setW s).length : Int) = (l, (((setW s).length + (l.flatMap actW).length : Nat) : Int), 0) := by rw [← actsO_p, hp, actsO_p]; exact w2
  unfold scriptO
  rw [h1]
  simp only [e1, e2, ne_eq, not_true_eq_false, if_false]
/-! what may be can be printed -/
theorem nameE_ok {t : List UInt8} (h : t = wCores ∨ t = wGrain ∨ t = wGroup ∨ t = wLock ∨ t = wShared ∨ t = wSlice ∨ t = wCrit ∨ t = wRead ∨ t = wWrite) : (textO (nmE t)).2 = 0 := by
  rcases h with rfl | rfl | rfl | rfl | rfl | rfl | rfl | rfl | rfl <;> decide +kernel
theorem numE_ok {n m : Int} (h : winB n m = true) (hm : m ≤ 32) : (textO (noE n)).2 = 0 := by
  unfold winB at h; simp only [Bool.and_eq_true, decide_eq_true_eq] at h
  exact num_ok (by omega)
theorem end_ok : (textO (mk3 [59])).2 = 0 := by decide +kernel
theorem lin_ok {t : List UInt8} {n m : Int} (ht : (textO (nmE t)).2 = 0) (h : winB n m = true) (hm : m ≤ 32) : ∀ x ∈ linW t n, (textO x).2 = 0 := by
  intro x hx
  simp only [linW, fldW, List.mem_append, List.mem_cons, List.not_mem_nil, or_false] at hx
  rcases hx with (rfl | rfl) | rfl
  · exact ht
  · exact numE_ok h hm
  · exact end_ok
theorem fld_ok {t : List UInt8} {n m : Int} (ht : (textO (nmE t)).2 = 0) (h : winB n m = true) (hm : m ≤ 32) : ∀ x ∈ fldW t n, (textO x).2 = 0 := by
  intro x hx
  simp only [fldW, List.mem_cons, List.not_mem_nil, or_false] at hx
  rcases hx with rfl | rfl
  · exact ht
  · exact numE_ok h hm
theorem lck_ok {k : CLk} (h : lokB k = true) : ∀ x ∈ lckW k, (textO x).2 = 0 := by
  unfold lokB at h
  simp only [Bool.and_eq_true] at h
  obtain ⟨⟨h1, h2⟩, h3⟩ := h
  intro x hx
  unfold lckW at hx
  simp only [List.mem_append, List.mem_cons, List.not_mem_nil, or_false] at hx
  rcases hx with rfl | ((hx | hx) | hx) | rfl
  · split
    · exact nameE_ok (by simp)
    · exact nameE_ok (by simp)
  · exact fld_ok (nameE_ok (by simp)) h2 (by decide) x hx
  · exact fld_ok (nameE_ok (by simp)) h3 (by decide) x hx
  · split at hx
    · rename_i q
      rw [if_pos q, Bool.and_eq_true] at h1
      rcases List.mem_append.1 hx with hx | hx
      · exact fld_ok (nameE_ok (by simp)) h1.1 (by decide) x hx
      · exact fld_ok (nameE_ok (by simp)) h1.2 (by decide) x hx
    · cases hx
  · exact end_ok
theorem set_ok {s : StC} (h : mayS s = true) : ∀ x ∈ setW s, (textO x).2 = 0 := by
  obtain ⟨h1, h2, _, h3, _, h4, _, _⟩ := mayS_inv h
  have h5 := mayS_progs h
  intro x hx
  rw [setW_eq] at hx
  simp only [List.mem_append, List.mem_flatMap] at hx
  rcases hx with (((hx | hx) | ⟨n, hn, hx⟩) | ⟨k, hk, hx⟩) | hx
  · exact lin_ok (nameE_ok (by simp)) h1 (by decide) x hx
  · exact lin_ok (nameE_ok (by simp)) h2 (by decide) x hx
  · exact lin_ok (nameE_ok (by simp)) (List.all_eq_true.1 h3 n hn) (by decide) x hx
  · exact lck_ok (List.all_eq_true.1 h4 k hk) x hx
  · unfold pgW at hx
    obtain ⟨p, hp, hx⟩ := List.mem_flatMap.1 hx
    exact words_ok (List.all_eq_true.1 h5 p hp) x hx
theorem acT_ok {k : Int} (h : 1 ≤ k ∧ k ≤ 8) : (textO ⟨1, acT k, 0, 0⟩).2 = 0 := by
  have : k = 1 ∨ k = 2 ∨ k = 3 ∨ k = 4 ∨ k = 5 ∨ k = 6 ∨ k = 7 ∨ k = 8 := by omega
  rcases this with rfl | rfl | rfl | rfl | rfl | rfl | rfl | rfl <;> decide +kernel
theorem act_ok {o : Act} (h : rightA o = true) : ∀ x ∈ actW o, (textO x).2 = 0 := by
  have hk := right_kind h
  unfold rightA numB at h
  simp only [Bool.and_eq_true, decide_eq_true_eq] at h
  intro x hx
  unfold actW at hx
  simp only [List.mem_append, List.mem_cons, List.not_mem_nil, or_false, List.mem_map] at hx
  rcases hx with rfl | ⟨n, hn, rfl⟩ | rfl
  · exact acT_ok hk
  · have := List.mem_of_mem_take hn
    simp only [numsA, List.mem_cons, List.not_mem_nil, or_false] at this
    rcases this with rfl | rfl | rfl | rfl <;> exact num_ok (by omega)
  · exact end_ok
theorem joinF_no1 : ∀ (l : List Wrd) (out : List UInt8), (∀ x ∈ l, (textO x).2 = 0) → (joinF l out).2 ≠ 1
  | [], out, _ => by unfold joinF; split <;> simp
  | w :: l, out, h => by
    have h1 := h w (List.mem_cons_self ..)
    unfold joinF; rw [if_neg (by rw [h1]; simp)]
    exact joinF_no1 l _ (fun x hx => h x (List.mem_cons_of_mem _ hx))
theorem printX_err (s : StC) (l : List Act) : (printX s l).2 = 1 ↔ mayX s l = false := by
  unfold printX
  split
  · rename_i h
    have h0 := h
    unfold mayX at h; rw [Bool.and_eq_true] at h
    have hA := h.2
    unfold mayA at hA; simp only [Bool.and_eq_true, decide_eq_true_eq] at hA
    constructor
    · intro q
      exfalso
      refine joinF_no1 _ [] (fun x hx => ?_) q
      rcases List.mem_append.1 hx with hx | hx
      · exact set_ok h.1 x hx
      · obtain ⟨o, ho, hx⟩ := List.mem_flatMap.1 hx
        exact act_ok (List.all_eq_true.1 hA.2 o ho) x hx
    · intro q; rw [h0] at q; cases q
  · rename_i h
    exact ⟨fun _ => by simpa using h, fun _ => rfl⟩
theorem printX_back {s : StC} {l : List Act} (h : (printX s l).2 = 0) : scriptO (printX s l).1 = (s, l, 0, 0) := by
  unfold printX at h ⊢
  split
  · rename_i q
    rw [if_pos q] at h
    exact scr_back q h
  · rename_i q
    rw [if_neg q] at h; cases h
end Go.Eng
namespace Go.Eng
open Go Go.Proofs Go.RowKit
def hdN (k : Int) (m : Nat) : Int := if (m : Int) < (if 0 > k then 0 else k) then (m : Int) else (if 0 > k then 0 else k)
def HdT (x : ScV) (k : Int) (n0 : Nat) (v : Value) (m : Mem0) : Prop := ∃ ad n cap, v = ScV.val ⟨x.sv, x.xs.take (hdN k x.n).toNat, ad, n, cap⟩ ∧ n = (x.xs.take (hdN k x.n).toNat).length ∧ Sl fA 123 5 n0 (x.xs.take (hdN k x.n).toNat) (.slice ad n cap) m
theorem HdT.mono {x : ScV} {k : Int} : ∀ (n n' : Nat) u m, n' ≤ n → HdT x k n u m → HdT x k n' u m := fun n n' u m h ⟨ad, q, cap, h1, h2, h3⟩ => ⟨ad, q, cap, h1, h2, h3.mono h⟩
end Go.Eng
namespace Go.Eng
open Go Go.Proofs Go.RowKit
theorem mayX_set {x : ScV} (h : mayS x.sv.C = false) : mayX x.sv.C x.xs = false := by unfold mayX; rw [h]; rfl
theorem mayX_act {x : ScV} (h : mayA x.xs = false) : mayX x.sv.C x.xs = false := by unfold mayX; rw [h, Bool.and_false]
theorem printX_no {x : ScV} (h : mayX x.sv.C x.xs = false) : printX x.sv.C x.xs = ([], 1) := by unfold printX; rw [if_neg (by rw [h]; simp)]
theorem printX_len (s : StC) (l : List Act) : (printX s l).1.length ≤ 1000000000 := by
  have key : ∀ (l : List Wrd) (out : List UInt8), (joinF l out).1.length ≤ 1000000000 := by
    intro l
    induction l with
    | nil => intro out; unfold joinF; split; exact Nat.zero_le _; (rename_i h; show out.length ≤ _; omega)
    | cons w l ih => intro out; unfold joinF; split; exact Nat.zero_le _; exact ih _
  unfold printX; split
  · exact key _ _
  · exact Nat.zero_le _
set_option maxRecDepth 100000 in
theorem rxprint_spec {x : ScV} (w : World) (hX : x.In w) : Ret Tryz.prog 29 #[x.val] w (fun v w' => v = .tuple #[vS (printX x.sv.C x.xs).1, .int .i64 (printX x.sv.C x.xs).2] ∧ Ext w w') := by
 refine Ret.enterM (l := [x.val]) Tryz.func29 rfl Tryz.ntmps29 rfl ([]) (no) (Mem.nil w) ?_
 refine wpM.seq (wpM.region ?_)
 refine LM.box rfl rfl (fun b1 hb1 => ?_)
 refine LM.as rfl (LM.as rfl ?_)
 refine LM.nil (QM.sub (e' := [(1, _)]) ⟨rfl, trivial⟩ (QM.then ?_))
 refine wpM.seq ?_
 refine wpM.seq (wpM.region ?_)
 refine LM.val (ov_field Tryz.underlying49 rfl Tryz.sizeOf30 rfl (k := 0) rfl rfl) ?_
 first | refine LM.rd (om_ldW Tryz.isAgg30 Tryz.sizeOf30 rfl rfl) ?_ | refine LM.rd (om_ldA Tryz.isAgg30 Tryz.sizeOf30 rfl (vs := [_, _, _, _, _]) rfl ⟨rfl, rfl, rfl, rfl, rfl, trivial⟩) ?_
 refine LM.callE (oc_call (enters_fn Tryz.func19 (by kernel_rfl) rfl) rfl) (fun w hm hc hg => rmayS_spec w (hX.st.ext hc)) ?_
 first | refine LM.val (ov_notD rfl) ?_ | refine LM.val (ov_not rfl) ?_
 refine LM.mv rfl ?_
 first | refine LM.splitD (t := 10) rfl (fun h1 => ?_) (fun h1 => ?_) | refine LM.splitB (t := 10) rfl (fun h1 => ?_) (fun h1 => ?_)
 ·
  refine LM.dr 10 rfl rfl rfl (LM.dr 10 rfl rfl rfl (LM.dr 10 rfl rfl rfl (LM.dr 10 rfl rfl rfl ?_)))
  refine LM.val (ov_pickT rfl rfl) ?_
  refine LM.nil (QM.sub (e' := [(1, _), (15, _)]) au9 (QM.then ?_))
  refine wpM.condT rfl ?_
  refine wpM.seq (wpM.region ?_)
  refine LM.as rfl (LM.as rfl ?_)
  refine LM.nil (QM.sub (e' := [(2, _), (3, _)]) au9 (QM.then ?_))
  refine wpM.ret ?_
  refine QM.then_ret ?_
  refine QM.leave (.inl rfl) [.tmp 2, .tmp 3] Tryz.results29 rfl ?_
  intro w' hm' hc' hg'
  refine ⟨?_, hc'⟩; rw [printX_no (mayX_set (by simpa using h1))]; rfl
 have hmS : mayS x.sv.C = true := (by simpa using h1)
 refine LM.sp 10 rfl rfl rfl (LM.val (ov_field Tryz.underlying49 rfl Tryz.sizeOf47 rfl (k := 5) rfl rfl) (LM.sp 10 rfl rfl rfl ?_))
 refine LM.rd (om_ld Tryz.isAgg47 rfl rfl) ?_
 refine LM.sp 10 rfl rfl rfl ?_
 refine LM.val (ov_len Tryz.underlying47 rfl) ?_
 refine LM.sp 10 rfl rfl rfl ?_
 refine LM.val (ov_gtr rfl rfl) ?_
 refine LM.val (ov_pickF rfl rfl) ?_
 refine LM.nil (QM.sub (e' := [(1, _), (15, _)]) au9 (QM.then ?_))
 refine wpM.condD rfl (fun h2 => ?_) (fun h2 => ?_)
 ·
  refine wpM.seq (wpM.region ?_)
  refine LM.as rfl (LM.as rfl ?_)
  refine LM.nil (QM.sub (e' := [(2, _), (3, _)]) au9 (QM.then ?_))
  refine wpM.ret ?_
  refine QM.then_ret ?_
  refine QM.leave (.inl rfl) [.tmp 2, .tmp 3] Tryz.results29 rfl ?_
  intro w' hm' hc' hg'
  refine ⟨?_, hc'⟩; rw [printX_no (mayX_act (by unfold mayA; rw [decide_eq_false (by have := hX.hn; omega)]; rfl))]; rfl
 have hla : x.xs.length ≤ 4000 := (by have := hX.hn; omega)
 refine wpM.skip ?_
 refine QM.then (wpM.seq (wpM.region ?_))
 refine LM.val (ov_field Tryz.underlying49 rfl Tryz.sizeOf47 rfl (k := 5) rfl rfl) ?_
 refine LM.rd (om_ld Tryz.isAgg47 rfl rfl) ?_
 refine LM.callT (oc_call (enters_fn Tryz.func74 (by kernel_rfl) rfl) rfl) WoT.mono (fun w hm hc hg => rawords_spec w hX.hn (hX.hx.ext hc) (by omega)) ?_
 rintro u19 m19 ⟨ad19, n19, cap19, rfl, hn19, hs19⟩ -
 refine LM.mv rfl ?_
 refine LM.val (ov_extract rfl rfl) ?_
 refine LM.val (ov_extract rfl rfl) ?_
 refine LM.as rfl (LM.as rfl ?_)
 refine LM.nil (QM.sub (e' := [(1, _), (4, _), (5, _)]) au9 (QM.then ?_))
 refine wpM.seq ?_
 refine wpM.seq (wpM.region ?_)
 refine LM.mv rfl ?_
 refine LM.val (ov_neq rfl rfl) ?_
 refine LM.nil (QM.sub (e' := [(1, _), (4, _), (23, _)]) au9 (QM.then ?_))
 refine wpM.condD rfl (fun h3 => ?_) (fun h3 => ?_)
 ·
  refine wpM.seq (wpM.region ?_)
  refine LM.as rfl (LM.as rfl ?_)
  refine LM.nil (QM.sub (e' := [(2, _), (3, _)]) au9 (QM.then ?_))
  refine wpM.ret ?_
  refine QM.then_ret ?_
  refine QM.leave (.inl rfl) [.tmp 2, .tmp 3] Tryz.results29 rfl ?_
  intro w' hm' hc' hg'
  refine ⟨?_, hc'⟩; rw [printX_no (mayX_act (Bool.eq_false_iff.2 fun q => h3 ((wordsA_err _).2 q)))]; rfl
 have hmA : mayA x.xs = true := (wordsA_err _).1 (Classical.not_not.1 h3); have hWA := mayA_words hmA; have hmX : mayX x.sv.C x.xs = true := (by unfold mayX; rw [hmS, hmA]; rfl); have hlA := flatA_len x.xs; have hlS := setW_len hmS; rw [hWA] at hn19 hs19
 refine wpM.skip ?_
 refine QM.then (wpM.seq (wpM.region ?_))
 refine LM.val (ov_field Tryz.underlying49 rfl Tryz.sizeOf30 rfl (k := 0) rfl rfl) ?_
 first | refine LM.rd (om_ldW Tryz.isAgg30 Tryz.sizeOf30 rfl rfl) ?_ | refine LM.rd (om_ldA Tryz.isAgg30 Tryz.sizeOf30 rfl (vs := [_, _, _, _, _]) rfl ⟨rfl, rfl, rfl, rfl, rfl, trivial⟩) ?_
 refine LM.cS (oc_call (enters_fn Tryz.func21 (by kernel_rfl) rfl) rfl) (fun w hm hc hg => rswords_spec w (hX.st.ext hc) hmS) (fun ad26 n26 cap26 m26 hn26 hs26 => ?_)
 refine LM.mv rfl ?_
 refine LM.appN (ys := x.xs.flatMap actW) Tryz.underlying23 Tryz.typeInfo65 rfl rfl rfl rfl rfl rfl rfl hs26 (fun w hm hc hg => hs19.srM (by intro _; rfl) hm) (by intro _; rfl) (by intro _ u hu; simp [fW] at hu; (repeat (first | (rcases hu with rfl | hu) | subst hu | rfl))) (Nat.le_refl _) (fun p hp hlt => absurd hlt (Nat.not_lt_of_le (Sl.ge hs26 p hp))) (by unfold maxLen; omega) (by simp only [Tryz.t65]; omega) (fun ad28 n28 cap28 m28 hn28 hs28 hin28 => ?_)
 refine LM.callE (oc_call (enters_fn Tryz.func55 (by kernel_rfl) rfl) rfl) (fun w hm hc hg => rjoin_spec (ws := setW x.sv.C ++ x.xs.flatMap actW) w (by rw [List.length_append]; exact hn28) (by rw [List.length_append]; omega) (hs28.srM (by intro _; rfl) hm) (by intro y hy; have := setW_t _ _ y hy; omega)) ?_
 refine LM.val (ov_extract rfl rfl) ?_
 refine LM.val (ov_extract rfl rfl) ?_
 refine LM.as rfl (LM.as rfl ?_)
 refine LM.nil (QM.sub (e' := [(2, _), (3, _)]) au9 (QM.then ?_))
 refine wpM.ret ?_
 refine QM.leave (.inl rfl) [.tmp 2, .tmp 3] Tryz.results29 rfl ?_
 intro w' hm' hc' hg'
 refine ⟨?_, hc'⟩; unfold printX; rw [if_pos hmX]; rfl
set_option maxRecDepth 100000 in
set_option maxHeartbeats 2000000 in
theorem scriptBack {x : ScV} (w : World) (hT : Tb w) (hX : x.In w) : Ret Tryz.prog 7 #[x.val] w (fun v w' => v = .bool true ∧ Ext w w') := by
 refine Ret.enterM (l := [x.val]) Tryz.func7 rfl Tryz.ntmps7 rfl ([]) (no) (Mem.nil w) ?_
 refine wpM.seq (wpM.region ?_)
 refine LM.box rfl rfl (fun b1 hb1 => ?_)
 refine LM.as rfl ?_
 refine LM.nil (QM.sub (e' := [(1, _)]) ⟨rfl, trivial⟩ (QM.then ?_))
 refine wpM.seq ?_
 refine wpM.seq (wpM.region ?_)
 refine LM.callE (oc_call (enters_fn Tryz.func23 (by kernel_rfl) rfl) rfl) (fun w hm hc hg => awake14_spec w (hT.ext hc)) ?_
 first | refine LM.val (ov_notD rfl) ?_ | refine LM.val (ov_not rfl) ?_
 refine LM.nil (QM.sub (e' := [(1, _), (11, _)]) au9 (QM.then ?_))
 first | refine wpM.condD rfl (fun h1 => ?_) (fun h1 => ?_) | refine wpM.condB rfl (fun h1 => ?_) (fun h1 => ?_)
 ·
  refine wpM.seq (wpM.region ?_)
  refine LM.as rfl ?_
  refine LM.nil (QM.sub (e' := [(2, _)]) ⟨rfl, trivial⟩ (QM.then ?_))
  refine wpM.ret ?_
  refine QM.then_ret ?_
  refine QM.leave (.inl rfl) [.tmp 2] Tryz.results7 rfl ?_
  intro w' hm' hc' hg'
  first | exact ⟨rfl, hc'⟩ | (exfalso; first | omega | (simp at *; done) | (simp_all; done))
 refine wpM.skip ?_
 refine QM.then ?_
 refine wpM.seq ?_
 refine wpM.seq (wpM.region ?_)
 refine LM.val (ov_field Tryz.underlying49 rfl Tryz.sizeOf30 rfl (k := 0) rfl rfl) ?_
 first | refine LM.rd (om_ldW Tryz.isAgg30 Tryz.sizeOf30 rfl rfl) ?_ | refine LM.rd (om_ldA Tryz.isAgg30 Tryz.sizeOf30 rfl (vs := [_, _, _, _, _]) rfl ⟨rfl, rfl, rfl, rfl, rfl, trivial⟩) ?_
 refine LM.callE (oc_call (enters_fn Tryz.func15 (by kernel_rfl) rfl) rfl) (fun w hm hc hg => small12_spec w (hX.st.ext hc)) ?_
 first | refine LM.val (ov_notD rfl) ?_ | refine LM.val (ov_not rfl) ?_
 refine LM.mv rfl ?_
 first | refine LM.splitD (t := 16) rfl (fun h2 => ?_) (fun h2 => ?_) | refine LM.splitB (t := 16) rfl (fun h2 => ?_) (fun h2 => ?_)
 ·
  refine LM.dr 16 rfl rfl rfl (LM.dr 16 rfl rfl rfl (LM.dr 16 rfl rfl rfl (LM.dr 16 rfl rfl rfl ?_)))
  refine LM.val (ov_pickT rfl rfl) ?_
  refine LM.nil (QM.sub (e' := [(1, _), (21, _)]) au9 (QM.then ?_))
  refine wpM.condT rfl ?_
  refine wpM.seq (wpM.region ?_)
  refine LM.as rfl ?_
  refine LM.nil (QM.sub (e' := [(2, _)]) ⟨rfl, trivial⟩ (QM.then ?_))
  refine wpM.ret ?_
  refine QM.then_ret ?_
  refine QM.leave (.inl rfl) [.tmp 2] Tryz.results7 rfl ?_
  intro w' hm' hc' hg'
  exact ⟨rfl, hc'⟩
 have hbd : x.sv.Bd := bd_small (by simpa using h2)
 refine LM.sp 16 rfl rfl rfl (LM.val (ov_field Tryz.underlying49 rfl Tryz.sizeOf47 rfl (k := 5) rfl rfl) (LM.sp 16 rfl rfl rfl ?_))
 refine LM.rd (om_ld Tryz.isAgg47 rfl rfl) ?_
 refine LM.sp 16 rfl rfl rfl ?_
 refine LM.val (ov_len Tryz.underlying47 rfl) ?_
 refine LM.sp 16 rfl rfl rfl ?_
 refine LM.val (ov_gtr rfl rfl) ?_
 refine LM.val (ov_pickF rfl rfl) ?_
 refine LM.nil (QM.sub (e' := [(1, _), (21, _)]) au9 (QM.then ?_))
 refine wpM.condD rfl (fun h3 => ?_) (fun h3 => ?_)
 ·
  refine wpM.seq (wpM.region ?_)
  refine LM.as rfl ?_
  refine LM.nil (QM.sub (e' := [(2, _)]) ⟨rfl, trivial⟩ (QM.then ?_))
  refine wpM.ret ?_
  refine QM.then_ret ?_
  refine QM.leave (.inl rfl) [.tmp 2] Tryz.results7 rfl ?_
  intro w' hm' hc' hg'
  exact ⟨rfl, hc'⟩
 have hn60 : x.n ≤ 60 := (by omega); have hln : x.xs.length ≤ 60 := (by have := hX.hn; omega)
 refine wpM.skip ?_
 refine QM.then (wpM.seq (wpM.region ?_))
 refine LM.rd (om_ldW Tryz.isAgg49 Tryz.sizeOf49 rfl rfl) ?_
 refine LM.callE (oc_call (enters_fn Tryz.func28 (by kernel_rfl) rfl) rfl) (fun w hm hc hg => xprint_spec w (hX.ext hc) (hT.ext hc)) ?_
 refine LM.mv rfl ?_
 refine LM.val (ov_extract rfl rfl) ?_
 refine LM.val (ov_extract rfl rfl) ?_
 refine LM.as rfl (LM.as rfl ?_)
 refine LM.nil (QM.sub (e' := [(1, _), (3, _), (4, _)]) au9 (QM.then (wpM.seq (wpM.region ?_))))
 refine LM.rd (om_ldW Tryz.isAgg49 Tryz.sizeOf49 rfl rfl) ?_
 refine LM.callE (oc_call (enters_fn Tryz.func29 (by kernel_rfl) rfl) rfl) (fun w hm hc hg => rxprint_spec w (hX.ext hc)) ?_
 refine LM.mv rfl ?_
 refine LM.val (ov_extract rfl rfl) ?_
 refine LM.val (ov_extract rfl rfl) ?_
 refine LM.as rfl (LM.as rfl ?_)
 refine LM.nil (QM.sub (e' := [(1, _), (3, _), (4, _), (5, _), (6, _)]) au9 (QM.then ?_))
 refine wpM.seq ?_
 refine wpM.seq (wpM.region ?_)
 refine LM.mv rfl (LM.mv rfl ?_)
 refine LM.val (ov_sneqL rfl rfl) ?_
 refine LM.mv rfl ?_
 refine LM.splitD (t := 35) rfl (fun h4 => ?_) (fun h4 => ?_)
 ·
  exact absurd rfl h4
 refine LM.sp 35 rfl rfl rfl (LM.mv rfl (LM.sp 35 rfl rfl rfl (LM.mv rfl (LM.sp 35 rfl rfl rfl ?_))))
 refine LM.val (ov_neq rfl rfl) ?_
 refine LM.val (ov_pickF rfl rfl) ?_
 refine LM.mv rfl ?_
 refine LM.splitD (t := 40) rfl (fun h5 => ?_) (fun h5 => ?_)
 ·
  exact absurd rfl h5
 refine LM.sp 40 rfl rfl rfl ?_
 refine LM.rd (om_ldW Tryz.isAgg49 Tryz.sizeOf49 rfl rfl) ?_
 refine LM.sp 40 rfl rfl rfl ?_
 refine LM.callE (oc_call (enters_fn Tryz.func27 (by kernel_rfl) rfl) rfl) (fun w hm hc hg => xmay_spec w (hX.ext hc)) ?_
 refine LM.sp 40 rfl rfl rfl (LM.mv rfl (LM.sp 40 rfl rfl rfl ?_))
 refine LM.val (ov_neq rfl rfl) ?_
 refine LM.sp 40 rfl rfl rfl ?_
 refine LM.val (ov_bneq Tryz.underlying4 rfl rfl) ?_
 refine LM.val (ov_pickF rfl rfl) ?_
 refine LM.nil (QM.sub (e' := [(1, _), (3, _), (6, _), (46, _)]) au9 (QM.then ?_))
 first | refine wpM.condD rfl (fun h6 => ?_) (fun h6 => ?_) | refine wpM.condB rfl (fun h6 => ?_) (fun h6 => ?_)
 ·
  exfalso; have hq := printX_err x.sv.C x.xs; cases hb : mayX x.sv.C x.xs <;> simp_all
 refine wpM.skip ?_
 refine QM.then ?_
 refine wpM.seq ?_
 refine wpM.seq (wpM.region ?_)
 refine LM.mv rfl ?_
 refine LM.val (ov_neq rfl rfl) ?_
 refine LM.nil (QM.sub (e' := [(1, _), (3, _), (48, _)]) au9 (QM.then ?_))
 refine wpM.condD rfl (fun h7 => ?_) (fun h7 => ?_)
 ·
  refine wpM.seq (wpM.region ?_)
  refine LM.as rfl ?_
  refine LM.nil (QM.sub (e' := [(2, _)]) ⟨rfl, trivial⟩ (QM.then ?_))
  refine wpM.ret ?_
  refine QM.then_ret ?_
  refine QM.leave (.inl rfl) [.tmp 2] Tryz.results7 rfl ?_
  intro w' hm' hc' hg'
  exact ⟨rfl, hc'⟩
 have hbk : scriptO (printX x.sv.C x.xs).1 = (x.sv.C, x.xs, 0, 0) := printX_back (Classical.not_not.1 h7)
 refine wpM.skip ?_
 refine QM.then (wpM.seq (wpM.region ?_))
 refine LM.mv rfl ?_
 refine LM.callT (oc_call (enters_fn Tryz.func24 (by kernel_rfl) rfl) rfl) SpT.mono (fun w hm hc hg => script_spec (printX x.sv.C x.xs).1 w (printX_len _ _)) ?_
 rw [hbk]; rintro u51 m51 ⟨xa, rfl, hxs, hxa, hin⟩ -
 refine LM.mv rfl ?_
 refine LM.val (ov_extract rfl rfl) ?_
 refine LM.val (ov_extract rfl rfl) ?_
 refine LM.val (ov_extract rfl rfl) ?_
 refine LM.alloc Tryz.zeroValue49 rfl (fun b7 hb7 => ?_)
 refine LM.stW Tryz.sizeOf49 rfl rfl rfl rfl au7 au8 ?_
 refine LM.as rfl (LM.as rfl ?_)
 refine LM.nil (QM.sub (e' := [(1, _), (7, _), (8, _), (9, _)]) au9 (QM.then (wpM.seq (wpM.region ?_))))
 refine LM.mv rfl ?_
 refine LM.val (ov_eql rfl rfl) ?_
 refine LM.mv rfl ?_
 refine LM.splitD (t := 57) rfl (fun h8 => ?_) (fun h8 => ?_)
 ·
  refine LM.sp 57 rfl rfl rfl (LM.mv rfl (LM.sp 57 rfl rfl rfl ?_))
  refine LM.val (ov_eql rfl rfl) ?_
  refine LM.val (ov_pickT rfl rfl) ?_
  refine LM.mv rfl ?_
  refine LM.splitD (t := 61) rfl (fun h9 => ?_) (fun h9 => ?_)
  ·
   refine LM.sp 61 rfl rfl rfl ?_
   refine LM.rd (om_ldW Tryz.isAgg49 Tryz.sizeOf49 rfl rfl) ?_
   refine LM.sp 61 rfl rfl rfl ?_
   refine LM.rd (om_ldW Tryz.isAgg49 Tryz.sizeOf49 rfl rfl) ?_
   refine LM.sp 61 rfl rfl rfl ?_
   refine LM.callE (oc_call (enters_fn Tryz.func26 (by kernel_rfl) rfl) rfl) (fun w hm hc hg => rxsame_spec (x := x) w (hX.ext hc) (hin w (hm.pick m51)) hbd (by omega)) ?_
   refine LM.val (ov_pickT rfl rfl) ?_
   refine LM.mv rfl ?_
   first | refine LM.splitD (t := 66) rfl (fun h10 => ?_) (fun h10 => ?_) | refine LM.splitB (t := 66) rfl (fun h10 => ?_) (fun h10 => ?_)
   ·
    refine LM.sp 66 rfl rfl rfl ?_
    refine LM.rd (om_ldW Tryz.isAgg49 Tryz.sizeOf49 rfl rfl) ?_
    refine LM.sp 66 rfl rfl rfl ?_
    refine LM.rd (om_ldW Tryz.isAgg49 Tryz.sizeOf49 rfl rfl) ?_
    refine LM.sp 66 rfl rfl rfl ?_
    refine LM.callE (oc_call (enters_fn Tryz.func30 (by kernel_rfl) rfl) rfl) (fun w hm hc hg => xsame_spec (x := x) w (hX.ext hc) (hin w (hm.pick m51)) hbd (by omega)) ?_
    refine LM.val (ov_pickT rfl rfl) ?_
    refine LM.as rfl ?_
    refine LM.nil (QM.sub (e' := [(2, _)]) ⟨rfl, trivial⟩ (QM.then ?_))
    refine wpM.ret ?_
    refine QM.leave (.inl rfl) [.tmp 2] Tryz.results7 rfl ?_
    intro w' hm' hc' hg'
    refine ⟨?_, hc'⟩; show Value.bool (x.same xa) = _; rw [same_refl hxs.symm hxa.symm]
   refine LM.dr 66 rfl rfl rfl (LM.dr 66 rfl rfl rfl (LM.dr 66 rfl rfl rfl ?_))
   refine LM.val (ov_pickF rfl rfl) ?_
   refine LM.as rfl ?_
   refine LM.nil (QM.sub (e' := [(2, _)]) ⟨rfl, trivial⟩ (QM.then ?_))
   refine wpM.ret ?_
   refine QM.leave (.inl rfl) [.tmp 2] Tryz.results7 rfl ?_
   intro w' hm' hc' hg'
   rw [same_refl hxs.symm hxa.symm] at h10; cases h10
  refine LM.dr 61 rfl rfl rfl (LM.dr 61 rfl rfl rfl (LM.dr 61 rfl rfl rfl ?_))
  refine LM.val (ov_pickF rfl rfl) ?_
  refine LM.mv rfl (LM.dr 66 rfl rfl rfl (LM.dr 66 rfl rfl rfl (LM.dr 66 rfl rfl rfl ?_)))
  refine LM.val (ov_pickF rfl rfl) ?_
  refine LM.as rfl ?_
  refine LM.nil (QM.sub (e' := [(2, _)]) ⟨rfl, trivial⟩ (QM.then ?_))
  refine wpM.ret ?_
  refine QM.leave (.inl rfl) [.tmp 2] Tryz.results7 rfl ?_
  intro w' hm' hc' hg'
  exact absurd rfl h9
 refine LM.dr 57 rfl rfl rfl (LM.dr 57 rfl rfl rfl ?_)
 refine LM.val (ov_pickF rfl rfl) ?_
 refine LM.mv rfl (LM.dr 61 rfl rfl rfl (LM.dr 61 rfl rfl rfl (LM.dr 61 rfl rfl rfl ?_)))
 refine LM.val (ov_pickF rfl rfl) ?_
 refine LM.mv rfl (LM.dr 66 rfl rfl rfl (LM.dr 66 rfl rfl rfl (LM.dr 66 rfl rfl rfl ?_)))
 refine LM.val (ov_pickF rfl rfl) ?_
 refine LM.as rfl ?_
 refine LM.nil (QM.sub (e' := [(2, _)]) ⟨rfl, trivial⟩ (QM.then ?_))
 refine wpM.ret ?_
 refine QM.leave (.inl rfl) [.tmp 2] Tryz.results7 rfl ?_
 intro w' hm' hc' hg'
 exact absurd rfl h8
end Go.Eng
namespace Go.Eng
open Go Go.Proofs Go.RowKit Go.ChangeShapes Go.WideShapes
set_option maxRecDepth 100000 in
theorem rdb_api_Act : Rdb Tryz.prog 123 fA (fun a => (-9223372036854775808 ≤ a.k ∧ a.k ≤ 9223372036854775807) ∧ (-9223372036854775808 ≤ a.a ∧ a.a ≤ 9223372036854775807) ∧ (-9223372036854775808 ≤ a.b ∧ a.b ≤ 9223372036854775807) ∧ (-9223372036854775808 ≤ a.c ∧ a.c ≤ 9223372036854775807) ∧ (-9223372036854775808 ≤ a.d ∧ a.d ≤ 9223372036854775807)) := fun {H enc w base sp held fuel cs x} h => by
  obtain ⟨h1, h2⟩ := trod_fields Tryz.underlying123 h
  rw [show Tryz.prog.cellsOf 123 = 5 by kernel_rfl] at h1
  have c3 : Tryz.prog.cellsOf 3 = 1 := by kernel_rfl
  match cs, h1 with
  | [a0, a1, a2, a3, a4], _ =>
    simp only [List.forall_mem_cons, c3, List.drop_succ_cons, List.drop_zero, List.take_succ_cons, List.take_zero] at h2
    obtain ⟨⟨_, _, f0⟩, ⟨_, _, f1⟩, ⟨_, _, f2⟩, ⟨_, _, f3⟩, ⟨_, _, f4⟩, _⟩ := h2
    obtain ⟨m0, e0, _, w0⟩ := DataW.trod_int Tryz.underlying3 f0
    obtain ⟨m1, e1, _, w1⟩ := DataW.trod_int Tryz.underlying3 f1
    obtain ⟨m2, e2, _, w2⟩ := DataW.trod_int Tryz.underlying3 f2
    obtain ⟨m3, e3, _, w3⟩ := DataW.trod_int Tryz.underlying3 f3
    obtain ⟨m4, e4, _, w4⟩ := DataW.trod_int Tryz.underlying3 f4
    simp only [List.cons.injEq, and_true] at e0 e1 e2 e3 e4
    subst e0
    subst e1
    subst e2
    subst e3
    subst e4
    exact ⟨⟨m0, m1, m2, m3, m4⟩, rfl, ⟨bounds_i64 w0, bounds_i64 w1, bounds_i64 w2, bounds_i64 w3, bounds_i64 w4⟩⟩
def ScV.cs (x : ScV) : List Value := [.int .i64 x.sv.cr, .int .i64 x.sv.gr, .slice x.sv.ga x.sv.gn x.sv.gc, .slice x.sv.la x.sv.ln x.sv.lc, .slice x.sv.pa x.sv.pn x.sv.pc, .slice x.ad x.n x.cap]
set_option maxRecDepth 100000 in
theorem rdW_Script (w : World) : RdW Tryz.prog w 49 ScV.cs (fun s => s.In w) := fun {H enc base sp held fuel cs x} h => by
  obtain ⟨h1, h2⟩ := trod_fields Tryz.underlying49 h
  rw [show Tryz.prog.cellsOf 49 = 6 by kernel_rfl] at h1
  have c0 : Tryz.prog.cellsOf 30 = 5 := by kernel_rfl
  have c1 : Tryz.prog.cellsOf 47 = 1 := by kernel_rfl
  match cs, h1 with
  | [a0, a1, a2, a3, a4, a5], _ =>
    simp only [List.forall_mem_cons, c0, c1, List.drop_succ_cons, List.drop_zero, List.take_succ_cons, List.take_zero] at h2
    obtain ⟨⟨_, _, f0⟩, ⟨_, _, f1⟩, _⟩ := h2
    obtain ⟨s, e0, hs⟩ := rdW_Setup w f0
    obtain ⟨xs, ad, cap, e1, h3, _, _⟩ := rdW_sl (s := 5) Tryz.underlying47 (rdb_api_Act.at w) (by kernel_rfl) (by decide) (fun _ => rfl) f1
    simp only [StV.cs, List.cons.injEq, and_true] at e0 e1
    obtain ⟨rfl, rfl, rfl, rfl, rfl⟩ := e0
    subst e1
    exact ⟨⟨s, xs, ad, xs.length, cap⟩, rfl, ⟨hs, rfl, h3⟩⟩
set_option maxRecDepth 100000 in
theorem open_api_Script {H : Type} {enc : TypeId × Value → H} {w : World} {base : Nat} {sp : Nat → Bool} {held : Bool} {r : Reach} {b0 : Nat} {v : Value} {d : DataW H} {ps : List MemPlace}
    (hval : Value.okWide Tryz.prog w r b0 49 v) (h : DataW.Trod enc Tryz.prog w base sp held 49 v d ps) : ∃ s : ScV, v = s.val ∧ s.In w := by
  obtain ⟨s, h1, h2⟩ := open_aggW (rdW_Script w) (.inr ⟨_, Tryz.underlying49⟩) hval h
  exact ⟨s, h1, h2⟩
end Go.Eng
