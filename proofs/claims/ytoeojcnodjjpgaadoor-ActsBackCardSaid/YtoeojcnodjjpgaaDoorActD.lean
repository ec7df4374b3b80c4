/- The walks of acts' words, and of their text. No condition. -/
import Derived.Test.YtoeojcnodjjpgaaDoorActC
set_option linter.unusedVariables false
set_option linter.unusedSimpArgs false
namespace Go.Eng
open Go Go.Proofs Go.RowKit

def numW (n : Int) : Wrd := ⟨2, [], n, 0⟩
def actW (o : Act) : List Wrd := ⟨1, acT o.k, 0, 0⟩ :: (((numsA o).take (manyA o.k)).map numW ++ [mk3 [59]])
def wordsA (l : List Act) : List Wrd × Int := if l.all rightA then (if 4000 < l.length then ([], 6) else (l.flatMap actW, 0)) else ([], 1)
def printA (l : List Act) : List UInt8 × Int := if (wordsA l).2 ≠ 0 then ([], (wordsA l).2) else joinO (wordsA l).1
theorem acT_len (k : Int) : (acT k).length ≤ 7 := by
  unfold acT; split
  · rename_i h
    have : k = 0 ∨ k = 1 ∨ k = 2 ∨ k = 3 ∨ k = 4 ∨ k = 5 ∨ k = 6 ∨ k = 7 ∨ k = 8 := by omega
    rcases this with rfl | rfl | rfl | rfl | rfl | rfl | rfl | rfl | rfl <;> decide
  · decide
theorem actW_len (o : Act) : (actW o).length ≤ 6 := by
  have := manyA_le o.k
  unfold actW; simp [numsA]; omega
theorem actW_text (o : Act) : ∀ x ∈ actW o, x.t.length ≤ 7 := by
  have := acT_len o.k
  intro x hx
  unfold actW mk3 numW at hx
  simp only [List.mem_cons, List.mem_append, List.not_mem_nil, or_false, List.mem_map] at hx
  rcases hx with rfl | ⟨n, _, rfl⟩ | rfl
  · exact this
  · simp
  · simp
theorem flatA_len (xs : List Act) : (xs.flatMap actW).length ≤ 6 * xs.length := by
  induction xs with
  | nil => simp
  | cons o xs ih => have := actW_len o; rw [List.flatMap_cons, List.length_append, List.length_cons]; omega
theorem wordsA_len (xs : List Act) : (wordsA xs).1.length ≤ 24000 := by
  unfold wordsA; split
  · split
    · exact Nat.zero_le _
    · have := flatA_len xs; simp only; omega
  · exact Nat.zero_le _
theorem wordsA_text (xs : List Act) : ∀ x ∈ (wordsA xs).1, x.t.length ≤ 7 := by
  unfold wordsA; split
  · split
    · intro x hx; cases hx
    · intro x hx
      obtain ⟨o, _, hx⟩ := List.mem_flatMap.1 hx
      exact actW_text o x hx
  · intro x hx; cases hx
theorem flatA_snoc {xs : List Act} {i : Nat} (h : i < xs.length) : (xs.take (i + 1)).flatMap actW = (xs.take i).flatMap actW ++ actW (xs.getD i default) := by
  rw [take_snoc default h, List.flatMap_append]; simp
theorem Sl.cap {α : Type} {f : α → List Value} {E s n0 : Nat} {xs : List α} {ad : Option Addr} {n cap : Nat} {m : Mem0} (h : Sl f E s n0 xs (.slice ad n cap) m) (hx : 0 < xs.length) : xs.length ≤ cap := by
  obtain ⟨b, cap', junk, h1, h2, h3, h4, h5, h6⟩ := h.ne hx
  cases h2; exact h4
theorem allA_snoc {xs : List Act} {i : Nat} (h : i < xs.length) (h0 : (xs.take i).all rightA = true) (h1 : rightA (xs.getD i default) = true) : (xs.take (i + 1)).all rightA = true := by
  rw [take_snoc default h, List.all_append, h0]; simp only [List.all_cons, List.all_nil, Bool.and_true, Bool.true_and]; exact h1
theorem allA_not {xs : List Act} {i : Nat} (h : i < xs.length) (h1 : rightA (xs.getD i default) = false) : xs.all rightA = false := by
  cases hm : xs.all rightA with
  | false => rfl
  | true => rw [List.all_eq_true.1 hm _ (List.mem_of_getElem? (getq default h))] at h1; cases h1
theorem rightA_k {o : Act} (h : rightA o = true) : 0 ≤ o.k ∧ o.k < 9 := by
  unfold rightA kindOk at h; simp only [Bool.and_eq_true, decide_eq_true_eq] at h; omega
theorem take_get {xs : List Int} {m k : Nat} (h : k < m) : (xs.take m).getD k 0 = xs.getD k 0 := by
  rw [List.getD_eq_getElem?_getD, List.getD_eq_getElem?_getD, List.getElem?_take_of_lt h]
theorem nums_snoc {o : Act} {k : Nat} (h : k < 4) : ((numsA o).take (k + 1)).map numW = ((numsA o).take k).map numW ++ [numW ((numsA o).getD k 0)] := by
  rw [take_snoc 0 (show k < (numsA o).length from h), List.map_append]; rfl
theorem Sl.pre {α : Type} {f : α → List Value} {E s n0 : Nat} {xs : List α} {ad : Option Addr} {n cap : Nat} {m : Mem0} (h : Sl f E s n0 xs (.slice ad n cap) m) (hf : ∀ a, (f a).length = s) {k : Nat} (hk : k ≤ xs.length) (hx : 0 < xs.length) : Sl f E s n0 (xs.take k) (.slice ad k cap) m := by
  obtain ⟨b, cap', junk, h1, h2, h3, h4, h5, h6⟩ := h.ne hx
  cases h2
  refine .inr ⟨b, cap, (xs.drop k).flatMap f ++ junk, h1, by rw [List.length_take, Nat.min_eq_left hk], ?_, by rw [List.length_take]; omega, h5, ?_⟩
  · rw [h3]; unfold arr; rw [← List.append_assoc, ← List.flatMap_append, List.take_append_drop]
  · rw [List.length_append, flatMap_len hf, List.length_take, List.length_drop, Nat.min_eq_left hk, ← h6, ← Nat.add_assoc, ← Nat.add_mul]; congr 2; omega
set_option maxRecDepth 100000 in
set_option maxHeartbeats 1000000 in
theorem awords_spec {xs : List Act} {ad : Option Addr} {n cap : Nat} (w : World) (hn : n = xs.length) (hl : Sr fA 5 xs (.slice ad n cap) w) (hx : xs.length ≤ 100000) : Ret Tryd.prog 12 #[.slice ad n cap] w (fun v w' => Ext w w' ∧ ∃ m, WoT (wordsA xs) w.heap.size v m ∧ Mem w' m ∧ ∀ p ∈ m, w.heap.size ≤ p.1) := by
  refine Ret.enterM (l := [.slice ad n cap]) Tryd.func12 rfl Tryd.ntmps12 rfl ([]) (no) (Mem.nil w) ?_
  refine wpM.seq ?_
  refine wpM.region ?_
  refine LM.val (ov_assign rfl) ?_
  refine LM.val (ov_assign rfl) ?_
  refine LM.nil ?_
  refine QM.sub (e' := [(0, _)]) ⟨rfl, trivial⟩ ?_
  refine QM.then ?_
  refine wpM.seq ?_
  refine wpM.region ?_
  refine LM.val (ov_assign rfl) ?_
  refine LM.nil ?_
  refine QM.sub (e' := [(0, _), (4, _)]) ⟨rfl, rfl, trivial⟩ ?_
  refine QM.then ?_
  refine wpM.seq ?_
  refine wpM.seq ?_
  refine wpM.region ?_
  refine LM.val (ov_move rfl) ?_
  refine LM.val (ov_len Tryd.underlying22 rfl) ?_
  refine LM.val (ov_move rfl) ?_
  refine LM.nil ?_
  refine QM.sub (e' := [(0, _), (4, _), (9, _), (10, _), (11, _)]) ⟨rfl, rfl, rfl, rfl, rfl, trivial⟩ ?_
  refine QM.then ?_
  refine wpM.block ?_
  refine wpM.loopK0 (α := Nat × List Wrd × Option Addr × Nat × Nat × Mem0) (fun ⟨i, out, ado, no, capo, mo⟩ => [(4, .slice ado no capo), (11, .int .i64 (i : Nat))]) [(0, _), (9, _), (10, _)] (fun ⟨i, out, ado, no, capo, mo⟩ => mo ++ []) (fun ⟨i, out, ado, no, capo, mo⟩ => i ≤ xs.length ∧ out.length ≤ 6 * i ∧ out = (xs.take i).flatMap actW ∧ (xs.take i).all rightA = true ∧ no = out.length ∧ Sl fW 72 4 w.heap.size out (.slice ado no capo) mo) (fun ⟨i, out, ado, no, capo, mo⟩ => xs.length - i) ((0, [], none, 0, 0, [])) ⟨(by first | rfl | exact lk rfl (by congr 1; omega) | exact lk rfl (by simp)), (by first | rfl | exact lk rfl (by congr 1; omega) | exact lk rfl (by simp)), rfl, rfl, rfl, trivial⟩ (by (repeat' (first | exact SubM.nil _ | refine SubM.cons rfl ?_ | refine SubM.app ?_))) ⟨Nat.zero_le _, Nat.zero_le _, rfl, rfl, rfl, .nil _ _ _ _⟩ ?_
  rintro ⟨i, out, ado, no, capo, mo⟩ ⟨hi, hz, hout, hall, hno, hso⟩
  change wpM _ _ _ _ _ _ _ (mo ++ []) _ _ _
  have hm4 := manyA_le (xs.getD i default).k
  refine wpM.seq ?_
  refine wpM.region ?_
  refine LM.val (ov_lss rfl rfl) ?_
  refine LM.nil ?_
  refine QM.sub (e' := [(0, _), (4, _), (9, _), (10, _), (11, _), (12, _)]) ⟨rfl, rfl, rfl, rfl, rfl, rfl, trivial⟩ ?_
  refine QM.then ?_
  refine wpM.seq ?_
  first | refine wpM.condD rfl (fun h1 => ?_) (fun h1 => ?_) | refine wpM.condB rfl (fun h1 => ?_) (fun h1 => ?_)
  ·
    refine wpM.skip ?_
    refine QM.then ?_
    refine wpM.seq ?_
    refine wpM.block ?_
    refine wpM.seq ?_
    refine wpM.region ?_
    first | refine LM.val (ov_idxSN (by first | exact Sr.spt (by assumption) | exact Sl.spt (by assumption)) Tryd.underlying22 Tryd.sizeOf49 rfl rfl (by omega)) ?_ | refine LM.val (ov_idxS (by first | exact Sr.spt (by assumption) | exact Sl.spt (by assumption)) Tryd.underlying22 Tryd.sizeOf49 rfl rfl (by omega)) ?_ | refine LM.val (ov_idx Tryd.underlying22 Tryd.sizeOf49 rfl rfl (by omega)) ?_
    first | refine LM.rd (om_slA (by assumption) (by intro _; rfl) Tryd.isAgg49 Tryd.sizeOf49 rfl (by exact getq default (by first | omega | (simp only [List.length_set, List.length_append, List.length_cons, List.length_nil]; omega)))) ?_ | refine LM.rdC (om_srEA (by assumption) (by intro _; rfl) Tryd.isAgg49 Tryd.sizeOf49 rfl (by exact getq default (by first | omega | (simp only [List.length_set, List.length_append, List.length_cons, List.length_nil]; omega))) id) ?_ | refine LM.rd (om_ldW Tryd.isAgg49 Tryd.sizeOf49 rfl rfl) ?_ | refine LM.rd (om_ldA Tryd.isAgg49 Tryd.sizeOf49 rfl (vs := [_, _, _, _, _]) rfl ⟨rfl, rfl, rfl, rfl, rfl, trivial⟩) ?_
    refine LM.alloc Tryd.zeroValue49 rfl (fun b6 hb6 => ?_)
    first | refine LM.stW Tryd.sizeOf49 rfl rfl rfl rfl (by first | rfl | decide | (simp; done)) (fun hlt => absurd hlt (by omega)) ?_ | refine LM.st Tryd.sizeOf49 rfl rfl rfl (by first | decide | exact Nat.le_of_ble_eq_true rfl | (simp; done) | (simp; omega)) rfl (fun hlt => absurd hlt (by omega)) ?_
    refine LM.nil ?_
    refine QM.sub (e' := [(0, _), (4, _), (6, _), (9, _), (10, _), (11, _)]) ⟨rfl, rfl, rfl, rfl, rfl, rfl, trivial⟩ ?_
    refine QM.then ?_
    refine wpM.seq ?_
    refine wpM.seq ?_
    refine wpM.region ?_
    first | refine LM.rd (om_ldW Tryd.isAgg49 Tryd.sizeOf49 rfl rfl) ?_ | refine LM.rd (om_ldA Tryd.isAgg49 Tryd.sizeOf49 rfl (vs := [_, _, _, _, _]) rfl ⟨rfl, rfl, rfl, rfl, rfl, trivial⟩) ?_
    refine LM.callE (oc_call (enters_fn Tryd.func44 (by kernel_rfl) rfl) rfl) (fun w hm hc hg => aright_spec _ w) ?_
    first | refine LM.val (ov_notD rfl) ?_ | refine LM.val (ov_not rfl) ?_
    refine LM.nil ?_
    refine QM.sub (e' := [(0, _), (4, _), (6, _), (9, _), (10, _), (11, _), (17, _)]) ⟨rfl, rfl, rfl, rfl, rfl, rfl, rfl, trivial⟩ ?_
    refine QM.then ?_
    first | refine wpM.condD rfl (fun h2 => ?_) (fun h2 => ?_) | refine wpM.condB rfl (fun h2 => ?_) (fun h2 => ?_)
    ·
      refine wpM.seq ?_
      refine wpM.region ?_
      refine LM.val (ov_assign rfl) ?_
      refine LM.val (ov_assign rfl) ?_
      refine LM.nil ?_
      refine QM.sub (e' := [(2, _), (3, _)]) ⟨rfl, rfl, trivial⟩ ?_
      refine QM.then ?_
      refine wpM.ret ?_
      refine QM.then_ret ?_
      refine QM.block_ret ?_
      refine QM.then_ret ?_
      refine QM.then_ret ?_
      refine QM.block_ret ?_
      refine QM.then_ret ?_
      refine QM.leave (.inl rfl) [.tmp 2, .tmp 3] Tryd.results12 rfl ?_
      intro w' hm' hc' hg'
      -- leaf 1: h1+ h2+
      have hr : wordsA xs = ([], 1) := (by unfold wordsA; rw [allA_not (i := i) (by omega) (by simpa using h2)]; rfl); rw [hr]; exact ⟨hc', [], ⟨none, 0, 0, rfl, rfl, .nil _ _ _ _⟩, Mem.nil _, fun p hp => by cases hp⟩
    ·
      refine wpM.skip ?_
      refine QM.then ?_
      refine wpM.seq ?_
      refine wpM.region ?_
      refine LM.val (ov_move rfl) ?_
      refine LM.val (ov_field Tryd.underlying49 rfl Tryd.sizeOf3 rfl (k := 0) rfl rfl) ?_
      first | refine LM.rd (om_ld Tryd.isAgg3 rfl rfl) ?_
      refine LM.callE (oc_call (enters_fn Tryd.func22 (by kernel_rfl) rfl) rfl) (fun w hm hc hg => aname_spec _ w) ?_
      refine LM.val (ov_build (cs := #[_, _, _, _]) rfl (by first | rfl | kernel_rfl)) ?_
      refine LM.single Tryd.underlying24 Tryd.sizeOf72 Tryd.zeroValue72 rfl rfl rfl rfl rfl (fun b23 hb23 => ?_)
      refine LM.app (a := (⟨1, acT (xs.getD i default).k, 0, 0⟩ : Wrd)) Tryd.underlying24 Tryd.typeInfo72 rfl rfl rfl rfl rfl rfl rfl (by assumption) (by rfl) (by intro _; rfl) (by intro _ u hu; simp [fW] at hu; (repeat (first | (rcases hu with rfl | hu) | subst hu | rfl))) (by first | exact Nat.le_refl _ | omega) (fun p hp hlt => absurd hlt (Nat.not_lt_of_le (Sl.ge (by assumption) p hp))) (by first | omega | (unfold maxLen; omega)) (by simp only [Tryd.t72]; omega) (fun ad24 n24 cap24 m24 hn24 hs24 hin24 => ?_)
      refine LM.val (ov_assign rfl) ?_
      refine LM.nil ?_
      refine QM.sub (e' := [(0, _), (4, _), (6, _), (9, _), (10, _), (11, _)]) ⟨rfl, rfl, rfl, rfl, rfl, rfl, trivial⟩ ?_
      refine QM.then ?_
      refine wpM.seq ?_
      refine wpM.seq ?_
      refine wpM.draw [(0, 1), (2, 0), (3, 1), (7, 0), (1, 2), (4, 2), (5, 0), (6, 0)] (by kernel_rfl) (by kernel_rfl) ?_
      first | refine LD.rd rfl rfl (om_ldW Tryd.isAgg49 Tryd.sizeOf49 rfl rfl) ?_ | refine LD.rd rfl rfl (om_ldA Tryd.isAgg49 Tryd.sizeOf49 rfl (vs := [_, _, _, _, _]) rfl ⟨rfl, rfl, rfl, rfl, rfl, trivial⟩) ?_
      refine LD.val rfl rfl (ov_field Tryd.underlying49 rfl Tryd.sizeOf3 rfl (k := 0) rfl rfl) ?_
      first | refine LD.rd rfl rfl (om_ld Tryd.isAgg3 rfl rfl) ?_
      refine LD.val rfl rfl (ov_move rfl) ?_
      refine LD.cS rfl rfl (oc_call (enters_fn Tryd.func45 (by kernel_rfl) rfl) rfl) (fun w hm hc hg => numbers_spec (xs.getD i default) w) (fun ad26 n26 cap26 m26 hn26 hs26 => ?_)
      refine LD.callE rfl rfl (oc_call (enters_fn Tryd.func46 (by kernel_rfl) rfl) rfl) (fun w hm hc hg => many_spec _ w) ?_
      have hcap := hs26.cap (Nat.zero_lt_succ _); have hl4 : (numsA (xs.getD i default)).length = 4 := rfl
      refine LD.val rfl rfl (ov_subHi Tryd.underlying85 Tryd.sizeOf3 rfl rfl (by omega) (by omega)) ?_
      refine LD.val rfl rfl (ov_len Tryd.underlying85 rfl) ?_
      refine LD.nil ?_
      refine QM.sub (e' := [(0, _), (4, _), (9, _), (10, _), (11, _), (30, _), (31, _), (32, _)]) ⟨rfl, rfl, rfl, rfl, rfl, rfl, rfl, rfl, trivial⟩ ?_
      refine QM.then ?_
      refine wpM.block ?_
      refine wpM.loopK0 (α := Nat × List Wrd × Option Addr × Nat × Nat × Mem0) (fun ⟨k, out2, ad2, n2, cap2, m2⟩ => [(4, .slice ad2 n2 cap2), (32, .int .i64 (k : Nat))]) [(0, _), (9, _), (10, _), (11, _), (30, _), (31, _)] (fun ⟨k, out2, ad2, n2, cap2, m2⟩ => m2 ++ (m26 ++ [])) (fun ⟨k, out2, ad2, n2, cap2, m2⟩ => k ≤ manyA (xs.getD i default).k ∧ out2.length ≤ 6 * i + 1 + k ∧ out2 = out ++ [⟨1, acT (xs.getD i default).k, 0, 0⟩] ++ (((numsA (xs.getD i default)).take k).map numW) ∧ n2 = out2.length ∧ Sl fW 72 4 w.heap.size out2 (.slice ad2 n2 cap2) m2) (fun ⟨k, out2, ad2, n2, cap2, m2⟩ => manyA (xs.getD i default).k - k) ((0, out ++ [(⟨1, acT (xs.getD i default).k, 0, 0⟩ : Wrd)], ad24, n24, cap24, m24)) ⟨(by first | rfl | exact lk rfl (by congr 1; omega) | exact lk rfl (by simp)), (by first | rfl | exact lk rfl (by congr 1; omega) | exact lk rfl (by simp)), rfl, rfl, rfl, rfl, rfl, rfl, trivial⟩ (by (repeat' (first | exact SubM.nil _ | refine SubM.cons rfl ?_ | refine SubM.app ?_))) ⟨Nat.zero_le _, by simp; omega, by simp, by rw [hn24]; simp, hs24⟩ ?_
      rintro ⟨k, out2, ad2, n2, cap2, m2⟩ ⟨hk, hz2, hout2, hn2, hs2⟩
      change wpM _ _ _ _ _ _ _ (m2 ++ (m26 ++ [])) _ _ _
      have hs30 := hs26.pre (fun _ => rfl) (show manyA (xs.getD i default).k ≤ (numsA (xs.getD i default)).length from hm4) (Nat.zero_lt_succ _); have hl30 : ((numsA (xs.getD i default)).take (manyA (xs.getD i default).k)).length = manyA (xs.getD i default).k := by rw [List.length_take]; omega
      refine wpM.seq ?_
      refine wpM.region ?_
      refine LM.val (ov_lss rfl rfl) ?_
      refine LM.nil ?_
      refine QM.sub (e' := [(0, _), (4, _), (9, _), (10, _), (11, _), (30, _), (31, _), (32, _), (33, _)]) ⟨rfl, rfl, rfl, rfl, rfl, rfl, rfl, rfl, rfl, trivial⟩ ?_
      refine QM.then ?_
      refine wpM.seq ?_
      first | refine wpM.condD rfl (fun h3 => ?_) (fun h3 => ?_) | refine wpM.condB rfl (fun h3 => ?_) (fun h3 => ?_)
      ·
        refine wpM.skip ?_
        refine QM.then ?_
        refine wpM.seq ?_
        refine wpM.block ?_
        refine wpM.seq ?_
        refine wpM.region ?_
        first | refine LM.val (ov_idxSN (by first | exact Sr.spt (by assumption) | exact Sl.spt (by assumption)) Tryd.underlying85 Tryd.sizeOf3 rfl rfl (by omega)) ?_ | refine LM.val (ov_idxS (by first | exact Sr.spt (by assumption) | exact Sl.spt (by assumption)) Tryd.underlying85 Tryd.sizeOf3 rfl rfl (by omega)) ?_ | refine LM.val (ov_idx1 Tryd.underlying85 Tryd.sizeOf3 rfl rfl (by omega)) ?_
        first | refine LM.rd (om_sl1 (by assumption) (by intro _; rfl) Tryd.isAgg3 rfl rfl (by exact getq 0 (by first | omega | (simp only [List.length_set, List.length_append, List.length_cons, List.length_nil]; omega))) (by rfl)) ?_ | refine LM.rdC (om_sr1 (by assumption) Tryd.isAgg3 rfl rfl (by exact getq 0 (by first | omega | (simp only [List.length_set, List.length_append, List.length_cons, List.length_nil]; omega))) (by rfl) id) ?_ | refine LM.rd (om_ld Tryd.isAgg3 rfl rfl) ?_
        refine LM.val (ov_assign rfl) ?_
        refine LM.nil ?_
        refine QM.sub (e' := [(0, _), (4, _), (8, _), (9, _), (10, _), (11, _), (30, _), (31, _), (32, _)]) ⟨rfl, rfl, rfl, rfl, rfl, rfl, rfl, rfl, rfl, trivial⟩ ?_
        refine QM.then ?_
        refine wpM.region ?_
        refine LM.val (ov_move rfl) ?_
        refine LM.val (ov_move rfl) ?_
        refine LM.val (ov_build (cs := #[_, _, _, _]) rfl (by first | rfl | kernel_rfl)) ?_
        refine LM.single Tryd.underlying24 Tryd.sizeOf72 Tryd.zeroValue72 rfl rfl rfl rfl rfl (fun b39 hb39 => ?_)
        refine LM.app (a := numW (((numsA (xs.getD i default)).take (manyA (xs.getD i default).k)).getD k 0)) Tryd.underlying24 Tryd.typeInfo72 rfl rfl rfl rfl rfl rfl rfl (by assumption) (by rfl) (by intro _; rfl) (by intro _ u hu; simp [fW] at hu; (repeat (first | (rcases hu with rfl | hu) | subst hu | rfl))) (by first | exact Nat.le_refl _ | omega) (fun p hp hlt => absurd hlt (Nat.not_lt_of_le (Sl.ge (by assumption) p hp))) (by first | omega | (unfold maxLen; omega)) (by simp only [Tryd.t72]; omega) (fun ad40 n40 cap40 m40 hn40 hs40 hin40 => ?_)
        refine LM.val (ov_assign rfl) ?_
        refine LM.nil ?_
        refine QM.sub (e' := [(0, _), (4, _), (9, _), (10, _), (11, _), (30, _), (31, _), (32, _)]) ⟨rfl, rfl, rfl, rfl, rfl, rfl, rfl, rfl, trivial⟩ ?_
        refine QM.block_normal ?_
        refine QM.then ?_
        refine wpM.region ?_
        refine LM.val (ov_add64 rfl rfl (by omega)) ?_
        refine LM.val (ov_move rfl) ?_
        refine LM.nil ?_
        refine QM.sub (e' := [(0, _), (4, _), (9, _), (10, _), (11, _), (30, _), (31, _), (32, _)]) ⟨rfl, rfl, rfl, rfl, rfl, rfl, rfl, rfl, trivial⟩ ?_
        -- again1: h1+ h2- h3+
        refine QM.againK ((k + 1, out2 ++ [numW (((numsA (xs.getD i default)).take (manyA (xs.getD i default).k)).getD k 0)], ad40, n40, cap40, m40)) ⟨(by first | rfl | exact lk rfl (by congr 1; omega) | exact lk rfl (by simp)), (by first | rfl | exact lk rfl (by congr 1; omega) | exact lk rfl (by simp)), rfl, rfl, rfl, rfl, rfl, rfl, trivial⟩ (by (repeat' (first | exact SubM.nil _ | refine SubM.cons rfl ?_ | refine SubM.app ?_))) (fun _ h => h) ?_ ?_
        · exact ⟨by omega, by rw [List.length_append, List.length_singleton]; omega, by rw [hout2, nums_snoc (by omega), take_get (by omega)]; simp, by rw [hn40]; simp, hs40⟩
        · first | omega | (dsimp only; omega)
      ·
        refine wpM.exit ?_
        refine QM.then_exit ?_
        refine QM.then_exit ?_
        refine QM.block_hit ?_
        refine QM.then ?_
        refine wpM.region ?_
        refine LM.val (ov_move rfl) ?_
        refine LM.val (ov_build (cs := #[_, _, _, _]) rfl (by first | rfl | kernel_rfl)) ?_
        refine LM.single Tryd.underlying24 Tryd.sizeOf72 Tryd.zeroValue72 rfl rfl rfl rfl rfl (fun b44 hb44 => ?_)
        refine LM.app (a := mk3 [59]) Tryd.underlying24 Tryd.typeInfo72 rfl rfl rfl rfl rfl rfl rfl (by assumption) (by rfl) (by intro _; rfl) (by intro _ u hu; simp [fW] at hu; (repeat (first | (rcases hu with rfl | hu) | subst hu | rfl))) (by first | exact Nat.le_refl _ | omega) (fun p hp hlt => absurd hlt (Nat.not_lt_of_le (Sl.ge (by assumption) p hp))) (by first | omega | (unfold maxLen; omega)) (by simp only [Tryd.t72]; omega) (fun ad45 n45 cap45 m45 hn45 hs45 hin45 => ?_)
        refine LM.val (ov_assign rfl) ?_
        refine LM.nil ?_
        refine QM.sub (e' := [(0, _), (4, _), (9, _), (10, _), (11, _)]) ⟨rfl, rfl, rfl, rfl, rfl, trivial⟩ ?_
        refine QM.block_normal ?_
        refine QM.then ?_
        refine wpM.region ?_
        refine LM.val (ov_add64 rfl rfl (by omega)) ?_
        refine LM.val (ov_move rfl) ?_
        refine LM.nil ?_
        refine QM.sub (e' := [(0, _), (4, _), (9, _), (10, _), (11, _)]) ⟨rfl, rfl, rfl, rfl, rfl, trivial⟩ ?_
        -- again1: h1+ h2- h3-
        obtain rfl : k = manyA (xs.getD i default).k := (by omega); have hl2 := congrArg List.length hout2
        refine QM.againK ((i + 1, out2 ++ [mk3 [59]], ad45, n45, cap45, m45)) ⟨(by first | rfl | exact lk rfl (by congr 1; omega) | exact lk rfl (by simp)), (by first | rfl | exact lk rfl (by congr 1; omega) | exact lk rfl (by simp)), rfl, rfl, rfl, trivial⟩ (by (repeat' (first | exact SubM.nil _ | refine SubM.cons rfl ?_ | refine SubM.app ?_))) (fun _ h => h) ?_ ?_
        · refine ⟨by omega, ?_, ?_, allA_snoc (by omega) hall (by simpa using h2), by rw [hn45]; simp, hs45⟩; (simp [numsA] at hl2 ⊢; omega); (rw [flatA_snoc (by omega), ← hout, hout2]; simp [actW])
        · first | omega | (dsimp only; omega)
  ·
    refine wpM.exit ?_
    refine QM.then_exit ?_
    refine QM.then_exit ?_
    refine QM.block_hit ?_
    refine QM.then ?_
    refine wpM.seq ?_
    refine wpM.seq ?_
    refine wpM.region ?_
    refine LM.val (ov_move rfl) ?_
    refine LM.val (ov_len Tryd.underlying22 rfl) ?_
    refine LM.val (ov_gtr rfl rfl) ?_
    refine LM.nil ?_
    refine QM.sub (e' := [(4, _), (49, _)]) ⟨rfl, rfl, trivial⟩ ?_
    refine QM.then ?_
    first | refine wpM.condD rfl (fun h4 => ?_) (fun h4 => ?_) | refine wpM.condB rfl (fun h4 => ?_) (fun h4 => ?_)
    ·
      refine wpM.seq ?_
      refine wpM.region ?_
      refine LM.val (ov_assign rfl) ?_
      refine LM.val (ov_assign rfl) ?_
      refine LM.nil ?_
      refine QM.sub (e' := [(2, _), (3, _)]) ⟨rfl, rfl, trivial⟩ ?_
      refine QM.then ?_
      refine wpM.ret ?_
      refine QM.then_ret ?_
      refine QM.leave (.inl rfl) [.tmp 2, .tmp 3] Tryd.results12 rfl ?_
      intro w' hm' hc' hg'
      -- leaf 2: h1- h4+
      have hil : i = xs.length := (by omega); subst hil; rw [List.take_length] at hall; have hr : wordsA xs = ([], 6) := (by unfold wordsA; rw [hall, if_pos rfl, if_pos (by omega)]); rw [hr]; exact ⟨hc', [], ⟨none, 0, 0, rfl, rfl, .nil _ _ _ _⟩, Mem.nil _, fun p hp => by cases hp⟩
    ·
      refine wpM.skip ?_
      refine QM.then ?_
      refine wpM.seq ?_
      refine wpM.region ?_
      refine LM.val (ov_move rfl) ?_
      refine LM.val (ov_assign rfl) ?_
      refine LM.val (ov_assign rfl) ?_
      refine LM.nil ?_
      refine QM.sub (e' := [(2, _), (3, _)]) ⟨rfl, rfl, trivial⟩ ?_
      refine QM.then ?_
      refine wpM.ret ?_
      refine QM.leave (.inl rfl) [.tmp 2, .tmp 3] Tryd.results12 rfl ?_
      intro w' hm' hc' hg'
      -- leaf 3: h1- h4-
      have hil : i = xs.length := (by omega); subst hil; rw [List.take_length] at hall hout; have hr : wordsA xs = (out, 0) := (by unfold wordsA; rw [hall, if_pos rfl, if_neg (by omega), hout]); rw [hr]; exact ⟨hc', mo, ⟨ado, no, capo, rfl, hno, hso⟩, hm'.pick _, fun p hp => Sl.ge hso p hp⟩

set_option maxRecDepth 100000 in
theorem aprint_spec {xs : List Act} {ad : Option Addr} {n cap : Nat} (w : World) (hn : n = xs.length) (hl : Sr fA 5 xs (.slice ad n cap) w) (hx : xs.length ≤ 100000) (hT : Tb w) : Ret Tryd.prog 14 #[.slice ad n cap] w (fun v w' => v = .tuple #[vS (printA xs).1, .int .i64 (printA xs).2] ∧ Ext w w') := by
  refine Ret.enterM (l := [.slice ad n cap]) Tryd.func14 rfl Tryd.ntmps14 rfl ([]) (no) (Mem.nil w) ?_
  refine wpM.seq ?_
  refine wpM.region ?_
  refine LM.val (ov_assign rfl) ?_
  refine LM.val (ov_assign rfl) ?_
  refine LM.nil ?_
  refine QM.sub (e' := [(0, _)]) ⟨rfl, trivial⟩ ?_
  refine QM.then ?_
  refine wpM.seq ?_
  refine wpM.region ?_
  refine LM.val (ov_move rfl) ?_
  refine LM.callT (oc_call (enters_fn Tryd.func12 (by kernel_rfl) rfl) rfl) WoT.mono (fun w hm hc hg => awords_spec w hn (hl.ext hc) hx) ?_
  rintro u8 m8 ⟨ad8, n8, cap8, rfl, hn8, hs8⟩ -
  refine LM.val (ov_move rfl) ?_
  refine LM.val (ov_extract rfl rfl) ?_
  refine LM.val (ov_extract rfl rfl) ?_
  refine LM.val (ov_assign rfl) ?_
  refine LM.val (ov_assign rfl) ?_
  refine LM.nil ?_
  refine QM.sub (e' := [(4, _), (5, _)]) ⟨rfl, rfl, trivial⟩ ?_
  refine QM.then ?_
  refine wpM.seq ?_
  refine wpM.seq ?_
  refine wpM.region ?_
  refine LM.val (ov_move rfl) ?_
  refine LM.val (ov_neq rfl rfl) ?_
  refine LM.nil ?_
  refine QM.sub (e' := [(4, _), (5, _), (12, _)]) ⟨rfl, rfl, rfl, trivial⟩ ?_
  refine QM.then ?_
  first | refine wpM.condD rfl (fun h1 => ?_) (fun h1 => ?_) | refine wpM.condB rfl (fun h1 => ?_) (fun h1 => ?_)
  ·
    refine wpM.seq ?_
    refine wpM.region ?_
    refine LM.val (ov_move rfl) ?_
    refine LM.val (ov_assign rfl) ?_
    refine LM.val (ov_assign rfl) ?_
    refine LM.nil ?_
    refine QM.sub (e' := [(2, _), (3, _)]) ⟨rfl, rfl, trivial⟩ ?_
    refine QM.then ?_
    refine wpM.ret ?_
    refine QM.then_ret ?_
    refine QM.leave (.inl rfl) [.tmp 2, .tmp 3] Tryd.results14 rfl ?_
    intro w' hm' hc' hg'
    -- leaf 1: h1+
    refine ⟨?_, hc'⟩; unfold printA; rw [if_pos h1]; rfl
  ·
    refine wpM.skip ?_
    refine QM.then ?_
    refine wpM.seq ?_
    refine wpM.region ?_
    refine LM.val (ov_move rfl) ?_
    refine LM.callE (oc_call (enters_fn Tryd.func39 (by kernel_rfl) rfl) rfl) (fun w hm hc hg => join_spec w hn8 (by have := wordsA_len xs; omega) (hs8.srM (by intro _; rfl) hm) (fun x hx => by have := wordsA_text xs x hx; omega) (hT.ext hc)) ?_
    refine LM.val (ov_extract rfl rfl) ?_
    refine LM.val (ov_extract rfl rfl) ?_
    refine LM.val (ov_assign rfl) ?_
    refine LM.val (ov_assign rfl) ?_
    refine LM.nil ?_
    refine QM.sub (e' := [(2, _), (3, _)]) ⟨rfl, rfl, trivial⟩ ?_
    refine QM.then ?_
    refine wpM.ret ?_
    refine QM.leave (.inl rfl) [.tmp 2, .tmp 3] Tryd.results14 rfl ?_
    intro w' hm' hc' hg'
    -- leaf 2: h1-
    refine ⟨?_, hc'⟩; unfold printA; rw [if_neg h1]; rfl

set_option maxRecDepth 100000 in
set_option maxHeartbeats 1000000 in
theorem rawords_spec {xs : List Act} {ad : Option Addr} {n cap : Nat} (w : World) (hn : n = xs.length) (hl : Sr fA 5 xs (.slice ad n cap) w) (hx : xs.length ≤ 100000) : Ret Tryd.prog 13 #[.slice ad n cap] w (fun v w' => Ext w w' ∧ ∃ m, WoT (wordsA xs) w.heap.size v m ∧ Mem w' m ∧ ∀ p ∈ m, w.heap.size ≤ p.1) := by
  refine Ret.enterM (l := [.slice ad n cap]) Tryd.func13 rfl Tryd.ntmps13 rfl ([]) (no) (Mem.nil w) ?_
  refine wpM.seq ?_
  refine wpM.region ?_
  refine LM.val (ov_assign rfl) ?_
  refine LM.val (ov_assign rfl) ?_
  refine LM.nil ?_
  refine QM.sub (e' := [(0, _)]) ⟨rfl, trivial⟩ ?_
  refine QM.then ?_
  refine wpM.seq ?_
  refine wpM.region ?_
  refine LM.val (ov_assign rfl) ?_
  refine LM.nil ?_
  refine QM.sub (e' := [(0, _), (4, _)]) ⟨rfl, rfl, trivial⟩ ?_
  refine QM.then ?_
  refine wpM.seq ?_
  refine wpM.seq ?_
  refine wpM.region ?_
  refine LM.val (ov_assign rfl) ?_
  refine LM.nil ?_
  refine QM.sub (e' := [(0, _), (4, _), (5, _)]) ⟨rfl, rfl, rfl, trivial⟩ ?_
  refine QM.then ?_
  refine wpM.block ?_
  refine wpM.loopK0 (α := Nat × List Wrd × Option Addr × Nat × Nat × Mem0) (fun ⟨i, out, ado, no, capo, mo⟩ => [(4, .slice ado no capo), (5, .int .i64 (i : Nat))]) [(0, _)] (fun ⟨i, out, ado, no, capo, mo⟩ => mo ++ []) (fun ⟨i, out, ado, no, capo, mo⟩ => i ≤ xs.length ∧ out.length ≤ 6 * i ∧ out = (xs.take i).flatMap actW ∧ (xs.take i).all rightA = true ∧ no = out.length ∧ Sl fW 72 4 w.heap.size out (.slice ado no capo) mo) (fun ⟨i, out, ado, no, capo, mo⟩ => xs.length - i) ((0, [], none, 0, 0, [])) ⟨(by first | rfl | exact lk rfl (by congr 1; omega) | exact lk rfl (by simp)), (by first | rfl | exact lk rfl (by congr 1; omega) | exact lk rfl (by simp)), rfl, trivial⟩ (by (repeat' (first | exact SubM.nil _ | refine SubM.cons rfl ?_ | refine SubM.app ?_))) ⟨Nat.zero_le _, Nat.zero_le _, rfl, rfl, rfl, .nil _ _ _ _⟩ ?_
  rintro ⟨i, out, ado, no, capo, mo⟩ ⟨hi, hz, hout, hall, hno, hso⟩
  change wpM _ _ _ _ _ _ _ (mo ++ []) _ _ _
  have hm4 := manyA_le (xs.getD i default).k
  refine wpM.seq ?_
  refine wpM.seq ?_
  refine wpM.region ?_
  refine LM.val (ov_move rfl) ?_
  refine LM.val (ov_move rfl) ?_
  refine LM.val (ov_len Tryd.underlying22 rfl) ?_
  refine LM.val (ov_lss rfl rfl) ?_
  refine LM.nil ?_
  refine QM.sub (e' := [(0, _), (4, _), (5, _), (10, _)]) ⟨rfl, rfl, rfl, rfl, trivial⟩ ?_
  refine QM.then ?_
  first | refine wpM.condD rfl (fun h1 => ?_) (fun h1 => ?_) | refine wpM.condB rfl (fun h1 => ?_) (fun h1 => ?_)
  ·
    refine wpM.skip ?_
    refine QM.then ?_
    refine wpM.seq ?_
    refine wpM.block ?_
    refine wpM.seq ?_
    refine wpM.seq ?_
    refine wpM.region ?_
    refine LM.val (ov_move rfl) ?_
    refine LM.val (ov_move rfl) ?_
    first | refine LM.val (ov_idxSN (by first | exact Sr.spt (by assumption) | exact Sl.spt (by assumption)) Tryd.underlying22 Tryd.sizeOf49 rfl rfl (by omega)) ?_ | refine LM.val (ov_idxS (by first | exact Sr.spt (by assumption) | exact Sl.spt (by assumption)) Tryd.underlying22 Tryd.sizeOf49 rfl rfl (by omega)) ?_ | refine LM.val (ov_idx Tryd.underlying22 Tryd.sizeOf49 rfl rfl (by omega)) ?_
    first | refine LM.rd (om_slA (by assumption) (by intro _; rfl) Tryd.isAgg49 Tryd.sizeOf49 rfl (by exact getq default (by first | omega | (simp only [List.length_set, List.length_append, List.length_cons, List.length_nil]; omega)))) ?_ | refine LM.rdC (om_srEA (by assumption) (by intro _; rfl) Tryd.isAgg49 Tryd.sizeOf49 rfl (by exact getq default (by first | omega | (simp only [List.length_set, List.length_append, List.length_cons, List.length_nil]; omega))) id) ?_ | refine LM.rd (om_ldW Tryd.isAgg49 Tryd.sizeOf49 rfl rfl) ?_ | refine LM.rd (om_ldA Tryd.isAgg49 Tryd.sizeOf49 rfl (vs := [_, _, _, _, _]) rfl ⟨rfl, rfl, rfl, rfl, rfl, trivial⟩) ?_
    refine LM.callE (oc_call (enters_fn Tryd.func47 (by kernel_rfl) rfl) rfl) (fun w hm hc hg => aone_spec _ w) ?_
    first | refine LM.val (ov_notD rfl) ?_ | refine LM.val (ov_not rfl) ?_
    refine LM.nil ?_
    refine QM.sub (e' := [(0, _), (4, _), (5, _), (18, _)]) ⟨rfl, rfl, rfl, rfl, trivial⟩ ?_
    refine QM.then ?_
    first | refine wpM.condD rfl (fun h2 => ?_) (fun h2 => ?_) | refine wpM.condB rfl (fun h2 => ?_) (fun h2 => ?_)
    ·
      refine wpM.seq ?_
      refine wpM.region ?_
      refine LM.val (ov_assign rfl) ?_
      refine LM.val (ov_assign rfl) ?_
      refine LM.nil ?_
      refine QM.sub (e' := [(2, _), (3, _)]) ⟨rfl, rfl, trivial⟩ ?_
      refine QM.then ?_
      refine wpM.ret ?_
      refine QM.then_ret ?_
      refine QM.block_ret ?_
      refine QM.then_ret ?_
      refine QM.then_ret ?_
      refine QM.block_ret ?_
      refine QM.then_ret ?_
      refine QM.leave (.inl rfl) [.tmp 2, .tmp 3] Tryd.results13 rfl ?_
      intro w' hm' hc' hg'
      -- leaf 1: h1+ h2+
      have hr : wordsA xs = ([], 1) := (by unfold wordsA; rw [allA_not (i := i) (by omega) (by simpa using h2)]; rfl); rw [hr]; exact ⟨hc', [], ⟨none, 0, 0, rfl, rfl, .nil _ _ _ _⟩, Mem.nil _, fun p hp => by cases hp⟩
    ·
      have hk8 : 0 ≤ (xs.getD i default).k ∧ (xs.getD i default).k < 9 := rightA_k (by simpa using h2)
      refine wpM.skip ?_
      refine QM.then ?_
      refine wpM.seq ?_
      refine wpM.region ?_
      refine LM.val (ov_move rfl) ?_
      refine LM.val (ov_move rfl) ?_
      refine LM.val (ov_move rfl) ?_
      first | refine LM.val (ov_idxSN (by first | exact Sr.spt (by assumption) | exact Sl.spt (by assumption)) Tryd.underlying22 Tryd.sizeOf49 rfl rfl (by omega)) ?_ | refine LM.val (ov_idxS (by first | exact Sr.spt (by assumption) | exact Sl.spt (by assumption)) Tryd.underlying22 Tryd.sizeOf49 rfl rfl (by omega)) ?_ | refine LM.val (ov_idx Tryd.underlying22 Tryd.sizeOf49 rfl rfl (by omega)) ?_
      refine LM.val (ov_field Tryd.underlying49 rfl Tryd.sizeOf3 rfl (k := 0) rfl rfl) ?_
      first | refine LM.rd (om_slE (j := 0) (by assumption) (by intro _; rfl) Tryd.isAgg3 rfl rfl (by exact getq default (by first | omega | (simp only [List.length_set, List.length_append, List.length_cons, List.length_nil]; omega))) rfl (by rfl)) ?_ | refine LM.rdC (om_srE (j := 0) (by assumption) Tryd.isAgg3 rfl rfl (by exact getq default (by first | omega | (simp only [List.length_set, List.length_append, List.length_cons, List.length_nil]; omega))) (by rfl) (by rfl) id) ?_ | refine LM.rd (om_ld Tryd.isAgg3 rfl rfl) ?_
      refine LM.callE (oc_call (enters_fn Tryd.func23 (by kernel_rfl) rfl) rfl) (fun w hm hc hg => raname_spec _ w) ?_
      refine LM.val (ov_build (cs := #[_, _, _, _]) rfl (by first | rfl | kernel_rfl)) ?_
      refine LM.single Tryd.underlying24 Tryd.sizeOf72 Tryd.zeroValue72 rfl rfl rfl rfl rfl (fun b27 hb27 => ?_)
      refine LM.app (a := (⟨1, acT (xs.getD i default).k, 0, 0⟩ : Wrd)) Tryd.underlying24 Tryd.typeInfo72 rfl rfl rfl rfl rfl rfl rfl (by assumption) (by rfl) (by intro _; rfl) (by intro _ u hu; simp [fW] at hu; (repeat (first | (rcases hu with rfl | hu) | subst hu | rfl))) (by first | exact Nat.le_refl _ | omega) (fun p hp hlt => absurd hlt (Nat.not_lt_of_le (Sl.ge (by assumption) p hp))) (by first | omega | (unfold maxLen; omega)) (by simp only [Tryd.t72]; omega) (fun ad28 n28 cap28 m28 hn28 hs28 hin28 => ?_)
      refine LM.val (ov_assign rfl) ?_
      refine LM.nil ?_
      refine QM.sub (e' := [(0, _), (4, _), (5, _)]) ⟨rfl, rfl, rfl, trivial⟩ ?_
      refine QM.then ?_
      refine wpM.seq ?_
      refine wpM.seq ?_
      refine wpM.region ?_
      refine LM.val (ov_assign rfl) ?_
      refine LM.nil ?_
      refine QM.sub (e' := [(0, _), (4, _), (5, _), (6, _)]) ⟨rfl, rfl, rfl, rfl, trivial⟩ ?_
      refine QM.then ?_
      refine wpM.block ?_
      refine wpM.loopK0 (α := Nat × List Wrd × Option Addr × Nat × Nat × Mem0) (fun ⟨k, out2, ad2, n2, cap2, m2⟩ => [(4, .slice ad2 n2 cap2), (6, .int .i64 (k : Nat))]) [(0, _), (5, _)] (fun ⟨k, out2, ad2, n2, cap2, m2⟩ => m2 ++ []) (fun ⟨k, out2, ad2, n2, cap2, m2⟩ => k ≤ manyA (xs.getD i default).k ∧ out2.length ≤ 6 * i + 1 + k ∧ out2 = out ++ [⟨1, acT (xs.getD i default).k, 0, 0⟩] ++ (((numsA (xs.getD i default)).take k).map numW) ∧ n2 = out2.length ∧ Sl fW 72 4 w.heap.size out2 (.slice ad2 n2 cap2) m2) (fun ⟨k, out2, ad2, n2, cap2, m2⟩ => manyA (xs.getD i default).k - k) ((0, out ++ [(⟨1, acT (xs.getD i default).k, 0, 0⟩ : Wrd)], ad28, n28, cap28, m28)) ⟨(by first | rfl | exact lk rfl (by congr 1; omega) | exact lk rfl (by simp)), (by first | rfl | exact lk rfl (by congr 1; omega) | exact lk rfl (by simp)), rfl, rfl, trivial⟩ (by (repeat' (first | exact SubM.nil _ | refine SubM.cons rfl ?_ | refine SubM.app ?_))) ⟨Nat.zero_le _, by simp; omega, by simp, by rw [hn28]; simp, hs28⟩ ?_
      rintro ⟨k, out2, ad2, n2, cap2, m2⟩ ⟨hk, hz2, hout2, hn2, hs2⟩
      change wpM _ _ _ _ _ _ _ (m2 ++ []) _ _ _
      refine wpM.seq ?_
      refine wpM.seq ?_
      refine wpM.region ?_
      refine LM.val (ov_move rfl) ?_
      refine LM.val (ov_move rfl) ?_
      refine LM.val (ov_move rfl) ?_
      first | refine LM.val (ov_idxSN (by first | exact Sr.spt (by assumption) | exact Sl.spt (by assumption)) Tryd.underlying22 Tryd.sizeOf49 rfl rfl (by omega)) ?_ | refine LM.val (ov_idxS (by first | exact Sr.spt (by assumption) | exact Sl.spt (by assumption)) Tryd.underlying22 Tryd.sizeOf49 rfl rfl (by omega)) ?_ | refine LM.val (ov_idx Tryd.underlying22 Tryd.sizeOf49 rfl rfl (by omega)) ?_
      refine LM.val (ov_field Tryd.underlying49 rfl Tryd.sizeOf3 rfl (k := 0) rfl rfl) ?_
      first | refine LM.rd (om_slE (j := 0) (by assumption) (by intro _; rfl) Tryd.isAgg3 rfl rfl (by exact getq default (by first | omega | (simp only [List.length_set, List.length_append, List.length_cons, List.length_nil]; omega))) rfl (by rfl)) ?_ | refine LM.rdC (om_srE (j := 0) (by assumption) Tryd.isAgg3 rfl rfl (by exact getq default (by first | omega | (simp only [List.length_set, List.length_append, List.length_cons, List.length_nil]; omega))) (by rfl) (by rfl) id) ?_ | refine LM.rd (om_ld Tryd.isAgg3 rfl rfl) ?_
      refine LM.callE (oc_call (enters_fn Tryd.func48 (by kernel_rfl) rfl) rfl) (fun w hm hc hg => rmany_spec _ w hk8) ?_
      refine LM.val (ov_lss rfl rfl) ?_
      refine LM.nil ?_
      refine QM.sub (e' := [(0, _), (4, _), (5, _), (6, _), (36, _)]) ⟨rfl, rfl, rfl, rfl, rfl, trivial⟩ ?_
      refine QM.then ?_
      first | refine wpM.condD rfl (fun h3 => ?_) (fun h3 => ?_) | refine wpM.condB rfl (fun h3 => ?_) (fun h3 => ?_)
      ·
        refine wpM.skip ?_
        refine QM.then ?_
        refine wpM.seq ?_
        refine wpM.block ?_
        refine wpM.region ?_
        refine LM.val (ov_move rfl) ?_
        refine LM.val (ov_move rfl) ?_
        refine LM.val (ov_move rfl) ?_
        first | refine LM.val (ov_idxSN (by first | exact Sr.spt (by assumption) | exact Sl.spt (by assumption)) Tryd.underlying22 Tryd.sizeOf49 rfl rfl (by omega)) ?_ | refine LM.val (ov_idxS (by first | exact Sr.spt (by assumption) | exact Sl.spt (by assumption)) Tryd.underlying22 Tryd.sizeOf49 rfl rfl (by omega)) ?_ | refine LM.val (ov_idx Tryd.underlying22 Tryd.sizeOf49 rfl rfl (by omega)) ?_
        first | refine LM.rd (om_slA (by assumption) (by intro _; rfl) Tryd.isAgg49 Tryd.sizeOf49 rfl (by exact getq default (by first | omega | (simp only [List.length_set, List.length_append, List.length_cons, List.length_nil]; omega)))) ?_ | refine LM.rdC (om_srEA (by assumption) (by intro _; rfl) Tryd.isAgg49 Tryd.sizeOf49 rfl (by exact getq default (by first | omega | (simp only [List.length_set, List.length_append, List.length_cons, List.length_nil]; omega))) id) ?_ | refine LM.rd (om_ldW Tryd.isAgg49 Tryd.sizeOf49 rfl rfl) ?_ | refine LM.rd (om_ldA Tryd.isAgg49 Tryd.sizeOf49 rfl (vs := [_, _, _, _, _]) rfl ⟨rfl, rfl, rfl, rfl, rfl, trivial⟩) ?_
        refine LM.val (ov_move rfl) ?_
        refine LM.callE (oc_call (enters_fn Tryd.func49 (by kernel_rfl) rfl) rfl) (fun w hm hc hg => get_spec (xs.getD i default) k w (by omega)) ?_
        refine LM.val (ov_build (cs := #[_, _, _, _]) rfl (by first | rfl | kernel_rfl)) ?_
        refine LM.single Tryd.underlying24 Tryd.sizeOf72 Tryd.zeroValue72 rfl rfl rfl rfl rfl (fun b47 hb47 => ?_)
        refine LM.app (a := numW ((numsA (xs.getD i default)).getD k 0)) Tryd.underlying24 Tryd.typeInfo72 rfl rfl rfl rfl rfl rfl rfl (by assumption) (by rfl) (by intro _; rfl) (by intro _ u hu; simp [fW] at hu; (repeat (first | (rcases hu with rfl | hu) | subst hu | rfl))) (by first | exact Nat.le_refl _ | omega) (fun p hp hlt => absurd hlt (Nat.not_lt_of_le (Sl.ge (by assumption) p hp))) (by first | omega | (unfold maxLen; omega)) (by simp only [Tryd.t72]; omega) (fun ad48 n48 cap48 m48 hn48 hs48 hin48 => ?_)
        refine LM.val (ov_assign rfl) ?_
        refine LM.nil ?_
        refine QM.sub (e' := [(0, _), (4, _), (5, _), (6, _)]) ⟨rfl, rfl, rfl, rfl, trivial⟩ ?_
        refine QM.block_normal ?_
        refine QM.then ?_
        refine wpM.region ?_
        refine LM.val (ov_move rfl) ?_
        refine LM.val (ov_add64 rfl rfl (by omega)) ?_
        refine LM.val (ov_assign rfl) ?_
        refine LM.nil ?_
        refine QM.sub (e' := [(0, _), (4, _), (5, _), (6, _)]) ⟨rfl, rfl, rfl, rfl, trivial⟩ ?_
        -- again1: h1+ h2- h3+
        refine QM.againK ((k + 1, out2 ++ [numW ((numsA (xs.getD i default)).getD k 0)], ad48, n48, cap48, m48)) ⟨(by first | rfl | exact lk rfl (by congr 1; omega) | exact lk rfl (by simp)), (by first | rfl | exact lk rfl (by congr 1; omega) | exact lk rfl (by simp)), rfl, rfl, trivial⟩ (by (repeat' (first | exact SubM.nil _ | refine SubM.cons rfl ?_ | refine SubM.app ?_))) (fun _ h => h) ?_ ?_
        · exact ⟨by omega, by rw [List.length_append, List.length_singleton]; omega, by rw [hout2, nums_snoc (by omega)]; simp, by rw [hn48]; simp, hs48⟩
        · first | omega | (dsimp only; omega)
      ·
        refine wpM.exit ?_
        refine QM.then_exit ?_
        refine QM.then_exit ?_
        refine QM.block_hit ?_
        refine QM.then ?_
        refine wpM.region ?_
        refine LM.val (ov_move rfl) ?_
        refine LM.val (ov_build (cs := #[_, _, _, _]) rfl (by first | rfl | kernel_rfl)) ?_
        refine LM.single Tryd.underlying24 Tryd.sizeOf72 Tryd.zeroValue72 rfl rfl rfl rfl rfl (fun b51 hb51 => ?_)
        refine LM.app (a := mk3 [59]) Tryd.underlying24 Tryd.typeInfo72 rfl rfl rfl rfl rfl rfl rfl (by assumption) (by rfl) (by intro _; rfl) (by intro _ u hu; simp [fW] at hu; (repeat (first | (rcases hu with rfl | hu) | subst hu | rfl))) (by first | exact Nat.le_refl _ | omega) (fun p hp hlt => absurd hlt (Nat.not_lt_of_le (Sl.ge (by assumption) p hp))) (by first | omega | (unfold maxLen; omega)) (by simp only [Tryd.t72]; omega) (fun ad52 n52 cap52 m52 hn52 hs52 hin52 => ?_)
        refine LM.val (ov_assign rfl) ?_
        refine LM.nil ?_
        refine QM.sub (e' := [(0, _), (4, _), (5, _)]) ⟨rfl, rfl, rfl, trivial⟩ ?_
        refine QM.block_normal ?_
        refine QM.then ?_
        refine wpM.region ?_
        refine LM.val (ov_move rfl) ?_
        refine LM.val (ov_add64 rfl rfl (by omega)) ?_
        refine LM.val (ov_assign rfl) ?_
        refine LM.nil ?_
        refine QM.sub (e' := [(0, _), (4, _), (5, _)]) ⟨rfl, rfl, rfl, trivial⟩ ?_
        -- again1: h1+ h2- h3-
        obtain rfl : k = manyA (xs.getD i default).k := (by omega); have hl2 := congrArg List.length hout2
        refine QM.againK ((i + 1, out2 ++ [mk3 [59]], ad52, n52, cap52, m52)) ⟨(by first | rfl | exact lk rfl (by congr 1; omega) | exact lk rfl (by simp)), (by first | rfl | exact lk rfl (by congr 1; omega) | exact lk rfl (by simp)), rfl, trivial⟩ (by (repeat' (first | exact SubM.nil _ | refine SubM.cons rfl ?_ | refine SubM.app ?_))) (fun _ h => h) ?_ ?_
        · refine ⟨by omega, ?_, ?_, allA_snoc (by omega) hall (by simpa using h2), by rw [hn52]; simp, hs52⟩; (simp [numsA] at hl2 ⊢; omega); (rw [flatA_snoc (by omega), ← hout, hout2]; simp [actW])
        · first | omega | (dsimp only; omega)
  ·
    refine wpM.exit ?_
    refine QM.then_exit ?_
    refine QM.then_exit ?_
    refine QM.block_hit ?_
    refine QM.then ?_
    refine wpM.seq ?_
    refine wpM.seq ?_
    refine wpM.region ?_
    refine LM.val (ov_move rfl) ?_
    refine LM.val (ov_len Tryd.underlying22 rfl) ?_
    refine LM.val (ov_gtr rfl rfl) ?_
    refine LM.nil ?_
    refine QM.sub (e' := [(4, _), (55, _)]) ⟨rfl, rfl, trivial⟩ ?_
    refine QM.then ?_
    first | refine wpM.condD rfl (fun h4 => ?_) (fun h4 => ?_) | refine wpM.condB rfl (fun h4 => ?_) (fun h4 => ?_)
    ·
      refine wpM.seq ?_
      refine wpM.region ?_
      refine LM.val (ov_assign rfl) ?_
      refine LM.val (ov_assign rfl) ?_
      refine LM.nil ?_
      refine QM.sub (e' := [(2, _), (3, _)]) ⟨rfl, rfl, trivial⟩ ?_
      refine QM.then ?_
      refine wpM.ret ?_
      refine QM.then_ret ?_
      refine QM.leave (.inl rfl) [.tmp 2, .tmp 3] Tryd.results13 rfl ?_
      intro w' hm' hc' hg'
      -- leaf 2: h1- h4+
      have hil : i = xs.length := (by omega); subst hil; rw [List.take_length] at hall; have hr : wordsA xs = ([], 6) := (by unfold wordsA; rw [hall, if_pos rfl, if_pos (by omega)]); rw [hr]; exact ⟨hc', [], ⟨none, 0, 0, rfl, rfl, .nil _ _ _ _⟩, Mem.nil _, fun p hp => by cases hp⟩
    ·
      refine wpM.skip ?_
      refine QM.then ?_
      refine wpM.seq ?_
      refine wpM.region ?_
      refine LM.val (ov_move rfl) ?_
      refine LM.val (ov_assign rfl) ?_
      refine LM.val (ov_assign rfl) ?_
      refine LM.nil ?_
      refine QM.sub (e' := [(2, _), (3, _)]) ⟨rfl, rfl, trivial⟩ ?_
      refine QM.then ?_
      refine wpM.ret ?_
      refine QM.leave (.inl rfl) [.tmp 2, .tmp 3] Tryd.results13 rfl ?_
      intro w' hm' hc' hg'
      -- leaf 3: h1- h4-
      have hil : i = xs.length := (by omega); subst hil; rw [List.take_length] at hall hout; have hr : wordsA xs = (out, 0) := (by unfold wordsA; rw [hall, if_pos rfl, if_neg (by omega), hout]); rw [hr]; exact ⟨hc', mo, ⟨ado, no, capo, rfl, hno, hso⟩, hm'.pick _, fun p hp => Sl.ge hso p hp⟩

set_option maxRecDepth 100000 in
theorem raprint_spec {xs : List Act} {ad : Option Addr} {n cap : Nat} (w : World) (hn : n = xs.length) (hl : Sr fA 5 xs (.slice ad n cap) w) (hx : xs.length ≤ 100000) : Ret Tryd.prog 15 #[.slice ad n cap] w (fun v w' => v = .tuple #[vS (printA xs).1, .int .i64 (printA xs).2] ∧ Ext w w') := by
  refine Ret.enterM (l := [.slice ad n cap]) Tryd.func15 rfl Tryd.ntmps15 rfl ([]) (no) (Mem.nil w) ?_
  refine wpM.seq ?_
  refine wpM.region ?_
  refine LM.val (ov_assign rfl) ?_
  refine LM.val (ov_assign rfl) ?_
  refine LM.nil ?_
  refine QM.sub (e' := [(0, _)]) ⟨rfl, trivial⟩ ?_
  refine QM.then ?_
  refine wpM.seq ?_
  refine wpM.region ?_
  refine LM.val (ov_move rfl) ?_
  refine LM.callT (oc_call (enters_fn Tryd.func13 (by kernel_rfl) rfl) rfl) WoT.mono (fun w hm hc hg => rawords_spec w hn (hl.ext hc) hx) ?_
  rintro u8 m8 ⟨ad8, n8, cap8, rfl, hn8, hs8⟩ -
  refine LM.val (ov_move rfl) ?_
  refine LM.val (ov_extract rfl rfl) ?_
  refine LM.val (ov_extract rfl rfl) ?_
  refine LM.val (ov_assign rfl) ?_
  refine LM.val (ov_assign rfl) ?_
  refine LM.nil ?_
  refine QM.sub (e' := [(4, _), (5, _)]) ⟨rfl, rfl, trivial⟩ ?_
  refine QM.then ?_
  refine wpM.seq ?_
  refine wpM.seq ?_
  refine wpM.region ?_
  refine LM.val (ov_move rfl) ?_
  refine LM.val (ov_neq rfl rfl) ?_
  refine LM.nil ?_
  refine QM.sub (e' := [(4, _), (5, _), (12, _)]) ⟨rfl, rfl, rfl, trivial⟩ ?_
  refine QM.then ?_
  first | refine wpM.condD rfl (fun h1 => ?_) (fun h1 => ?_) | refine wpM.condB rfl (fun h1 => ?_) (fun h1 => ?_)
  ·
    refine wpM.seq ?_
    refine wpM.region ?_
    refine LM.val (ov_move rfl) ?_
    refine LM.val (ov_assign rfl) ?_
    refine LM.val (ov_assign rfl) ?_
    refine LM.nil ?_
    refine QM.sub (e' := [(2, _), (3, _)]) ⟨rfl, rfl, trivial⟩ ?_
    refine QM.then ?_
    refine wpM.ret ?_
    refine QM.then_ret ?_
    refine QM.leave (.inl rfl) [.tmp 2, .tmp 3] Tryd.results15 rfl ?_
    intro w' hm' hc' hg'
    -- leaf 1: h1+
    refine ⟨?_, hc'⟩; unfold printA; rw [if_pos h1]; rfl
  ·
    refine wpM.skip ?_
    refine QM.then ?_
    refine wpM.seq ?_
    refine wpM.region ?_
    refine LM.val (ov_move rfl) ?_
    refine LM.callE (oc_call (enters_fn Tryd.func40 (by kernel_rfl) rfl) rfl) (fun w hm hc hg => rjoin_spec w hn8 (by have := wordsA_len xs; omega) (hs8.srM (by intro _; rfl) hm) (fun x hx => by have := wordsA_text xs x hx; omega)) ?_
    refine LM.val (ov_extract rfl rfl) ?_
    refine LM.val (ov_extract rfl rfl) ?_
    refine LM.val (ov_assign rfl) ?_
    refine LM.val (ov_assign rfl) ?_
    refine LM.nil ?_
    refine QM.sub (e' := [(2, _), (3, _)]) ⟨rfl, rfl, trivial⟩ ?_
    refine QM.then ?_
    refine wpM.ret ?_
    refine QM.leave (.inl rfl) [.tmp 2, .tmp 3] Tryd.results15 rfl ?_
    intro w' hm' hc' hg'
    -- leaf 2: h1-
    refine ⟨?_, hc'⟩; unfold printA; rw [if_neg h1]; rfl

end Go.Eng

