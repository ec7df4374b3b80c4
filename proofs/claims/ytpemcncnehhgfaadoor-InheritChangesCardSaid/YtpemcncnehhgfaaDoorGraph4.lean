/- The walks of the document's who waits for whom. No condition. -/
import Derived.Test.YtpemcncnehhgfaaDoorGraph2
set_option linter.unusedVariables false
set_option linter.unusedSimpArgs false
namespace Go.Eng
open Go Go.Proofs Go.RowKit

abbrev rB (b : Nat) (ad : Option Addr) (n cap : Nat) : Nat × Obj := (b, .cells #[.slice ad n cap] 72 (0, 0))
def NewRT (n0 : Nat) (v : Value) (mm : Mem0) : Prop := ∃ b ad n cap m, v = .pointer (some ⟨b, 0, none⟩) ∧ mm = rB b ad n cap :: m ∧ n0 ≤ b ∧ n = 64 ∧ Sl fU 23 1 n0 zeroG (.slice ad n cap) m
theorem NewRT.mono : ∀ (k k' : Nat) u m, k' ≤ k → NewRT k u m → NewRT k' u m := fun k k' u m h ⟨b, ad, n, cap, m', h1, h2, h3, h4, h5⟩ => ⟨b, ad, n, cap, m', h1, h2, by omega, h4, h5.mono h⟩
def WaT (n0 : Nat) (G : Gr) (who : Int) (s : BitVec 64) (ad : Option Addr) (n cap : Nat) (u : Value) (m' : Mem0) : Prop := u = .int .i64 (wtE G who s) ∧ Sl fU 23 1 n0 (wtG G who s) (.slice ad n cap) m'
theorem listI_nil {s : BitVec 64} (h : ((listI s).length : Int) = 0) : firstI s = -1 := by
  rw [firstI_list]; cases hl : listI s with
  | nil => rfl
  | cons a l => rw [hl] at h; simp at h; omega
theorem listI_zero {s : BitVec 64} (h : 0 < (listI s).length) : (listI s).getD 0 0 = firstI s := by
  rw [firstI_list]; cases hl : listI s with
  | nil => rw [hl] at h; simp at h
  | cons a l => rfl
theorem beh_1 {G : Gr} {i : Nat} {who : Int} (h : inG who = false) : false = hasB (ovr G (ot G i)) who := by
  cases hb : hasB (ovr G (ot G i)) who
  · rfl
  · have := hasB_rng hb; rw [inG_iff.2 this] at h; cases h
theorem beh_2 {G : Gr} {i : Nat} {who : Int} (h : ¬ ot G i ≠ 0#64) : false = hasB (ovr G (ot G i)) who := by
  rw [Classical.not_not] at h; rw [h, ovr_zero]; exact (hasB_zero _).symm
theorem beh_3 {G : Gr} {i : Nat} {who : Int} (h : i < 64) : hasB (rchG G (i : Nat)) who = hasB (ovr G (ot G i)) who := by
  unfold rchG; rw [if_pos (inG_iff.2 ⟨by omega, by omega⟩), Int.toNat_natCast]
theorem closes_zero' {G : Gr} (h : G.length = 64) {who : Int} (hin : 0 ≤ who ∧ who < 64) (s : BitVec 64) : hasB (ovr (G.set who.toNat 0#64) s) who = hasB (ovr G s) who := by
  have := closes_zero h (w := who.toNat) (by omega) s; rwa [show ((who.toNat : Nat) : Int) = who by omega] at this
theorem set_same {G : Gr} (i : Nat) (h : i < G.length) : G.set i (G.getD i 0#64) = G := by
  apply List.ext_getElem (by simp)
  intro j h1 h2; rw [List.getElem_set]; split
  · subst_vars; simp [List.getD_eq_getElem?_getD, List.getElem?_eq_getElem h]
  · rfl
def edK (i : Nat) (l : List Int) : List Ed := l.map (fun x => ⟨i, x⟩)
theorem edK_len (G : Gr) (i k : Nat) : (edN G i ++ edK i ((listI (ot G i)).take k)).length ≤ 64 * i + 64 := by
  rw [List.length_append]; unfold edK; rw [List.length_map, List.length_take]
  have h1 := edN_len G i
  have h2 : (listI (ot G i)).length ≤ 64 := by unfold listI; rw [List.length_map]; exact card_le _
  omega
theorem listI_le (s : BitVec 64) : (listI s).length ≤ 64 := by unfold listI; rw [List.length_map]; exact card_le _
theorem edK_snoc {l : List Int} {k : Nat} (i : Nat) (h : k < l.length) : edK i (l.take (k + 1)) = edK i (l.take k) ++ [⟨i, l.getD k 0⟩] := by
  rw [take_snoc 0 h]; unfold edK; rw [List.map_append]; rfl
theorem cycB_none {l : List Ed} (h : ∀ j, j < 64 → hasB (ovr (unG l) (ot (unG l) j)) (j : Nat) = false) : cycB l = false := by
  cases hc : cycB l
  · rfl
  · unfold cycB at hc; rw [List.any_eq_true] at hc; obtain ⟨j, hj, hb⟩ := hc; rw [h j (List.mem_range.1 hj)] at hb; cases hb
set_option maxRecDepth 100000 in
theorem rnew_spec (w : World) : Ret Tryd.prog 44 #[] w (fun v w' => Ext w w' ∧ ∃ m, NewRT w.heap.size v m ∧ Mem w' m ∧ ∀ p ∈ m, w.heap.size ≤ p.1) := by
  refine Ret.enterM (l := []) Tryd.func44 rfl Tryd.ntmps44 rfl ([]) (no) (Mem.nil w) ?_
  refine wpM.seq ?_
  refine wpM.region ?_
  refine LM.val (ov_assign rfl) ?_
  refine LM.nil ?_
  refine QM.sub (e' := []) trivial ?_
  refine QM.then ?_
  refine wpM.seq ?_
  refine wpM.region ?_
  refine LM.make (f := fU) (a0 := 0#64) Tryd.underlying70 Tryd.typeInfo23 rfl rfl rfl rfl fU_len rfl rfl rfl (by omega) (by simp only [Tryd.t23]; omega) (by omega) (fun b1 hb1 => ?_)
  refine LM.val (ov_build (cs := #[_]) rfl (by first | rfl | kernel_rfl)) ?_
  refine LM.box rfl rfl (fun b3 hb3 => ?_)
  refine LM.val (ov_assign rfl) ?_
  refine LM.nil ?_
  refine QM.sub (e' := [(0, _)]) ⟨rfl, trivial⟩ ?_
  refine QM.then ?_
  refine wpM.ret ?_
  refine QM.leave (.inl rfl) [.tmp 0] Tryd.results44 rfl ?_
  intro w' hm' hc' hg'
  -- leaf 1: 
  exact ⟨hc', [rB b3 (some ⟨b1, 0, none⟩) 64 64, (b1, .cells (arr fU zeroG []) 23 (0, 0))], ⟨b3, some ⟨b1, 0, none⟩, 64, 64, [(b1, .cells (arr fU zeroG []) 23 (0, 0))], rfl, rfl, hb3, rfl, .inr ⟨b1, 64, [], hb1, rfl, rfl, by decide, by decide, by decide⟩⟩, SubM.mem (by (repeat' (first | exact SubM.nil _ | refine SubM.cons (by kernel_rfl) ?_ | refine SubM.app ?_))) _ hm', fun p hp => by simp only [List.mem_cons, List.not_mem_nil, or_false] at hp; rcases hp with rfl | rfl <;> assumption⟩

set_option maxRecDepth 100000 in
theorem ris_spec (who : Int) (w : World) : Ret Tryd.prog 47 #[.int .i64 who] w (fun v w' => v = .bool (inG who) ∧ Ext w w') := by
  refine Ret.enterM (l := [.int .i64 who]) Tryd.func47 rfl Tryd.ntmps47 rfl ([]) (no) (Mem.nil w) ?_
  refine wpM.seq ?_
  refine wpM.region ?_
  refine LM.val (ov_assign rfl) ?_
  refine LM.nil ?_
  refine QM.sub (e' := [(0, _)]) ⟨rfl, trivial⟩ ?_
  refine QM.then ?_
  refine wpM.seq ?_
  refine wpM.region ?_
  refine LM.val (ov_move rfl) ?_
  refine LM.val (ov_geq rfl rfl) ?_
  refine LM.val (ov_move rfl) ?_
  first | refine LM.splitD (t := 5) rfl (fun h1 => ?_) (fun h1 => ?_) | refine LM.splitB (t := 5) rfl (fun h1 => ?_) (fun h1 => ?_)
  ·
    refine LM.strip (t := 5) rfl rfl rfl ?_
    refine LM.val (ov_move rfl) ?_
    refine LM.strip (t := 5) rfl rfl rfl ?_
    refine LM.val (ov_lss rfl rfl) ?_
    refine LM.val (ov_pickT rfl rfl) ?_
    refine LM.val (ov_assign rfl) ?_
    refine LM.nil ?_
    refine QM.sub (e' := [(2, _)]) ⟨rfl, trivial⟩ ?_
    refine QM.then ?_
    refine wpM.ret ?_
    refine QM.leave (.inl rfl) [.tmp 2] Tryd.results47 rfl ?_
    intro w' hm' hc' hg'
    -- leaf 1: h1+
    refine ⟨?_, hc'⟩; simp only [resV, inG, h1, decide_true, decide_false, Bool.true_and, Bool.false_and, Bool.and_true, Bool.and_false, Bool.not_true, Bool.not_false, Bool.true_or, Bool.false_or, Bool.or_true, Bool.or_false, ne_eq, not_true_eq_false, not_false_eq_true, Bool.and_self]
  ·
    refine LM.drop (t := 5) rfl rfl rfl ?_
    refine LM.drop (t := 5) rfl rfl rfl ?_
    refine LM.val (ov_pickF rfl rfl) ?_
    refine LM.val (ov_assign rfl) ?_
    refine LM.nil ?_
    refine QM.sub (e' := [(2, _)]) ⟨rfl, trivial⟩ ?_
    refine QM.then ?_
    refine wpM.ret ?_
    refine QM.leave (.inl rfl) [.tmp 2] Tryd.results47 rfl ?_
    intro w' hm' hc' hg'
    -- leaf 2: h1-
    refine ⟨?_, hc'⟩; simp only [resV, inG, h1, decide_true, decide_false, Bool.true_and, Bool.false_and, Bool.and_true, Bool.and_false, Bool.not_true, Bool.not_false, Bool.true_or, Bool.false_or, Bool.or_true, Bool.or_false, ne_eq, not_true_eq_false, not_false_eq_true, Bool.and_self]

set_option maxRecDepth 100000 in
theorem rover_spec {n0 : Nat} {G : Gr} {ad : Option Addr} {n cap : Nat} {m : Mem0} (b : Nat) (s : BitVec 64) (w : World) (hG : G.length = 64) (hn : n = 64) (hsl : Sl fU 23 1 n0 G (.slice ad n cap) m) (hM : Mem w (rB b ad n cap :: (m ++ []))) : Ret Tryd.prog 66 #[.pointer (some ⟨b, 0, none⟩), U s] w (fun v w' => v = U (ovr G s) ∧ Ext w w') := by
  refine Ret.enterM (l := [.pointer (some ⟨b, 0, none⟩), U s]) Tryd.func66 rfl Tryd.ntmps66 rfl (rB b ad n cap :: (m ++ [])) (no) hM ?_
  refine wpM.seq ?_
  refine wpM.region ?_
  refine LM.val (ov_assign rfl) ?_
  refine LM.nil ?_
  refine QM.sub (e' := [(0, _), (1, _)]) ⟨rfl, rfl, trivial⟩ ?_
  refine QM.then ?_
  refine wpM.seq ?_
  refine wpM.seq ?_
  refine wpM.region ?_
  refine LM.val (ov_assign rfl) ?_
  refine LM.nil ?_
  refine QM.sub (e' := [(0, _), (1, _), (5, _)]) ⟨rfl, rfl, rfl, trivial⟩ ?_
  refine QM.then ?_
  refine wpM.block ?_
  refine wpM.loopK0 (α := BitVec 64 × Bool) (fun ⟨X, fr⟩ => [(1, U X), (5, .bool fr)]) [(0, _)] (fun ⟨X, fr⟩ => rB b ad n cap :: (m ++ [])) (fun ⟨X, fr⟩ => RvI G s X ∧ (fr = false → CloN G X 64)) (fun ⟨X, fr⟩ => 2 * (64 - card X) + fr.toNat) ((s, true)) ⟨(by first | rfl | exact lk rfl (by congr 1; omega) | exact lk rfl (by simp)), (by first | rfl | exact lk rfl (by congr 1; omega) | exact lk rfl (by simp)), rfl, trivial⟩ (by (repeat' (first | exact SubM.nil _ | refine SubM.cons rfl ?_ | refine SubM.app ?_))) ⟨RvI.init G s, fun h => by cases h⟩ ?_
  rintro ⟨X, fr⟩ ⟨hX, hd⟩
  change wpM _ _ _ _ _ _ _ (rB b ad n cap :: (m ++ [])) _ _ _
  refine wpM.seq ?_
  refine wpM.seq ?_
  refine wpM.region ?_
  refine LM.val (ov_move rfl) ?_
  refine LM.nil ?_
  refine QM.sub (e' := [(0, _), (1, _), (7, _)]) ⟨rfl, rfl, rfl, trivial⟩ ?_
  refine QM.then ?_
  first | refine wpM.condD rfl (fun h1 => ?_) (fun h1 => ?_) | refine wpM.condB rfl (fun h1 => ?_) (fun h1 => ?_)
  ·
    refine wpM.skip ?_
    refine QM.then ?_
    refine wpM.block ?_
    refine wpM.seq ?_
    refine wpM.region ?_
    refine LM.val (ov_assign rfl) ?_
    refine LM.nil ?_
    refine QM.sub (e' := [(0, _), (1, _), (5, _)]) ⟨rfl, rfl, rfl, trivial⟩ ?_
    refine QM.then ?_
    refine wpM.seq ?_
    refine wpM.region ?_
    refine LM.val (ov_assign rfl) ?_
    refine LM.nil ?_
    refine QM.sub (e' := [(0, _), (1, _), (5, _), (6, _)]) ⟨rfl, rfl, rfl, rfl, trivial⟩ ?_
    refine QM.then ?_
    refine wpM.block ?_
    refine wpM.loopK0 (α := Nat × BitVec 64 × Bool) (fun ⟨i, Y, fr2⟩ => [(1, U Y), (5, .bool fr2), (6, .int .i64 (i : Nat))]) [(0, _)] (fun ⟨i, Y, fr2⟩ => rB b ad n cap :: (m ++ [])) (fun ⟨i, Y, fr2⟩ => i ≤ 64 ∧ RvI G s Y ∧ (fr2 = true → card X < card Y) ∧ (fr2 = false → Y = X ∧ CloN G X i)) (fun ⟨i, Y, fr2⟩ => 64 - i) ((0, X, false)) ⟨(by first | rfl | exact lk rfl (by congr 1; omega) | exact lk rfl (by simp)), (by first | rfl | exact lk rfl (by congr 1; omega) | exact lk rfl (by simp)), (by first | rfl | exact lk rfl (by congr 1; omega) | exact lk rfl (by simp)), rfl, trivial⟩ (by (repeat' (first | exact SubM.nil _ | refine SubM.cons rfl ?_ | refine SubM.app ?_))) ⟨Nat.zero_le _, hX, (fun h => by cases h), (fun _ => ⟨rfl, fun j hj => by omega⟩)⟩ ?_
    rintro ⟨i, Y, fr2⟩ ⟨hi, hY, ht, hf⟩
    change wpM _ _ _ _ _ _ _ (rB b ad n cap :: (m ++ [])) _ _ _
    refine wpM.seq ?_
    refine wpM.seq ?_
    refine wpM.region ?_
    refine LM.val (ov_move rfl) ?_
    refine LM.val (ov_lss rfl rfl) ?_
    refine LM.nil ?_
    refine QM.sub (e' := [(0, _), (1, _), (5, _), (6, _), (9, _)]) ⟨rfl, rfl, rfl, rfl, rfl, trivial⟩ ?_
    refine QM.then ?_
    first | refine wpM.condD rfl (fun h2 => ?_) (fun h2 => ?_) | refine wpM.condB rfl (fun h2 => ?_) (fun h2 => ?_)
    ·
      refine wpM.skip ?_
      refine QM.then ?_
      refine wpM.seq ?_
      refine wpM.block ?_
      refine wpM.seq ?_
      refine wpM.joinK (α := Bool) (fun bb => [(26, .bool bb)]) [(0, _), (1, _), (5, _), (6, _)] (fun bb => rB b ad n cap :: (m ++ [])) (fun bb => bb = (hasB Y (i : Nat) && decide (ot G i &&& ~~~Y ≠ 0#64))) ⟨rfl, rfl, rfl, rfl, trivial⟩ ?_ ?_
      ·
        refine wpM.region ?_
        refine LM.val (ov_move rfl) ?_
        refine LM.val (ov_move rfl) ?_
        refine LM.callE (oc_call (enters_fn Tryd.func20 (by kernel_rfl) rfl) rfl) (fun w hm hc hg => rhas_spec _ _ w) ?_
        refine LM.val (ov_move rfl) ?_
        first | refine LM.splitD (t := 15) rfl (fun h3 => ?_) (fun h3 => ?_) | refine LM.splitB (t := 15) rfl (fun h3 => ?_) (fun h3 => ?_)
        ·
          refine LM.strip (t := 15) rfl rfl rfl ?_
          refine LM.val (ov_move rfl) ?_
          refine LM.strip (t := 15) rfl rfl rfl ?_
          refine LM.val (ov_nilCheck rfl) ?_
          refine LM.strip (t := 15) rfl rfl rfl ?_
          refine LM.val (ov_field Tryd.underlying72 rfl Tryd.sizeOf70 rfl (k := 0) rfl rfl) ?_
          refine LM.strip (t := 15) rfl rfl rfl ?_
          first | refine LM.rd (om_ld Tryd.isAgg70 rfl rfl) ?_
          refine LM.strip (t := 15) rfl rfl rfl ?_
          refine LM.val (ov_move rfl) ?_
          refine LM.strip (t := 15) rfl rfl rfl ?_
          first | refine LM.val (ov_idxSN (by first | exact Sr.spt (by assumption) | exact Sl.spt (by assumption)) Tryd.underlying70 Tryd.sizeOf23 rfl rfl (by omega)) ?_ | refine LM.val (ov_idxS (by first | exact Sr.spt (by assumption) | exact Sl.spt (by assumption)) Tryd.underlying70 Tryd.sizeOf23 rfl rfl (by omega)) ?_ | refine LM.val (ov_idx1 Tryd.underlying70 Tryd.sizeOf23 rfl rfl (by omega)) ?_
          refine LM.strip (t := 15) rfl rfl rfl ?_
          first | refine LM.rd (om_sl1 (by assumption) (by intro _; rfl) Tryd.isAgg23 rfl rfl (by exact getq 0#64 (by first | omega | (simp only [List.length_set, List.length_append, List.length_cons, List.length_nil]; omega))) (by rfl)) ?_ | refine LM.rdC (om_sr1 (by assumption) Tryd.isAgg23 rfl rfl (by exact getq 0#64 (by first | omega | (simp only [List.length_set, List.length_append, List.length_cons, List.length_nil]; omega))) (by rfl) id) ?_ | refine LM.rd (om_ld Tryd.isAgg23 rfl rfl) ?_
          refine LM.strip (t := 15) rfl rfl rfl ?_
          refine LM.val (ov_move rfl) ?_
          refine LM.strip (t := 15) rfl rfl rfl ?_
          refine LM.val (ov_uandNot rfl rfl) ?_
          refine LM.strip (t := 15) rfl rfl rfl ?_
          refine LM.val (ov_uneq (b := 0#64) rfl rfl) ?_
          refine LM.val (ov_pickT rfl rfl) ?_
          refine LM.nil ?_
          refine QM.sub (e' := [(0, _), (1, _), (5, _), (6, _), (26, _)]) ⟨rfl, rfl, rfl, rfl, rfl, trivial⟩ ?_
          -- meet1: h1+ h2+ h3+
          refine QM.meetK (_) ⟨(by first | rfl | exact lk rfl (by congr 1; omega) | exact lk rfl (by simp)), rfl, rfl, rfl, rfl, trivial⟩ (by (repeat' (first | exact SubM.nil _ | refine SubM.cons rfl ?_ | refine SubM.app ?_))) ?_
          · first | (simp only [h1, h2, h3, decide_true, decide_false, Bool.true_and, Bool.false_and, Bool.and_true, Bool.and_false, Bool.not_true, Bool.not_false, Bool.true_or, Bool.false_or, Bool.or_true, Bool.or_false, ne_eq, not_true_eq_false, not_false_eq_true, Bool.and_self]; done) | (simp only [h1, h2, h3, decide_true, decide_false, Bool.true_and, Bool.false_and, Bool.and_true, Bool.and_false, Bool.not_true, Bool.not_false, Bool.true_or, Bool.false_or, Bool.or_true, Bool.or_false, ne_eq, not_true_eq_false, not_false_eq_true, Bool.and_self]; rfl)
        ·
          refine LM.drop (t := 15) rfl rfl rfl ?_
          refine LM.drop (t := 15) rfl rfl rfl ?_
          refine LM.drop (t := 15) rfl rfl rfl ?_
          refine LM.drop (t := 15) rfl rfl rfl ?_
          refine LM.drop (t := 15) rfl rfl rfl ?_
          refine LM.drop (t := 15) rfl rfl rfl ?_
          refine LM.drop (t := 15) rfl rfl rfl ?_
          refine LM.drop (t := 15) rfl rfl rfl ?_
          refine LM.drop (t := 15) rfl rfl rfl ?_
          refine LM.drop (t := 15) rfl rfl rfl ?_
          refine LM.val (ov_pickF rfl rfl) ?_
          refine LM.nil ?_
          refine QM.sub (e' := [(0, _), (1, _), (5, _), (6, _), (26, _)]) ⟨rfl, rfl, rfl, rfl, rfl, trivial⟩ ?_
          -- meet2: h1+ h2+ h3-
          refine QM.meetK (_) ⟨(by first | rfl | exact lk rfl (by congr 1; omega) | exact lk rfl (by simp)), rfl, rfl, rfl, rfl, trivial⟩ (by (repeat' (first | exact SubM.nil _ | refine SubM.cons rfl ?_ | refine SubM.app ?_))) ?_
          · first | (simp only [h1, h2, h3, decide_true, decide_false, Bool.true_and, Bool.false_and, Bool.and_true, Bool.and_false, Bool.not_true, Bool.not_false, Bool.true_or, Bool.false_or, Bool.or_true, Bool.or_false, ne_eq, not_true_eq_false, not_false_eq_true, Bool.and_self]; done) | (simp only [h1, h2, h3, decide_true, decide_false, Bool.true_and, Bool.false_and, Bool.and_true, Bool.and_false, Bool.not_true, Bool.not_false, Bool.true_or, Bool.false_or, Bool.or_true, Bool.or_false, ne_eq, not_true_eq_false, not_false_eq_true, Bool.and_self]; rfl)
      ·
        rintro bb hb26
        change QM _ _ _ _ _ (rB b ad n cap :: (m ++ [])) _ _ _
        subst hb26
        refine QM.then ?_
        first | refine wpM.condD rfl (fun h4 => ?_) (fun h4 => ?_) | refine wpM.condB rfl (fun h4 => ?_) (fun h4 => ?_)
        ·
          refine wpM.seq ?_
          refine wpM.region ?_
          refine LM.val (ov_move rfl) ?_
          refine LM.val (ov_move rfl) ?_
          refine LM.val (ov_nilCheck rfl) ?_
          refine LM.val (ov_field Tryd.underlying72 rfl Tryd.sizeOf70 rfl (k := 0) rfl rfl) ?_
          first | refine LM.rd (om_ld Tryd.isAgg70 rfl rfl) ?_
          refine LM.val (ov_move rfl) ?_
          first | refine LM.val (ov_idxSN (by first | exact Sr.spt (by assumption) | exact Sl.spt (by assumption)) Tryd.underlying70 Tryd.sizeOf23 rfl rfl (by omega)) ?_ | refine LM.val (ov_idxS (by first | exact Sr.spt (by assumption) | exact Sl.spt (by assumption)) Tryd.underlying70 Tryd.sizeOf23 rfl rfl (by omega)) ?_ | refine LM.val (ov_idx1 Tryd.underlying70 Tryd.sizeOf23 rfl rfl (by omega)) ?_
          first | refine LM.rd (om_sl1 (by assumption) (by intro _; rfl) Tryd.isAgg23 rfl rfl (by exact getq 0#64 (by first | omega | (simp only [List.length_set, List.length_append, List.length_cons, List.length_nil]; omega))) (by rfl)) ?_ | refine LM.rdC (om_sr1 (by assumption) Tryd.isAgg23 rfl rfl (by exact getq 0#64 (by first | omega | (simp only [List.length_set, List.length_append, List.length_cons, List.length_nil]; omega))) (by rfl) id) ?_ | refine LM.rd (om_ld Tryd.isAgg23 rfl rfl) ?_
          refine LM.val (ov_uor rfl rfl) ?_
          refine LM.val (ov_assign rfl) ?_
          refine LM.nil ?_
          refine QM.sub (e' := [(0, _), (1, _), (6, _)]) ⟨rfl, rfl, rfl, trivial⟩ ?_
          refine QM.then ?_
          refine wpM.region ?_
          refine LM.val (ov_assign rfl) ?_
          refine LM.nil ?_
          refine QM.sub (e' := [(0, _), (1, _), (5, _), (6, _)]) ⟨rfl, rfl, rfl, rfl, trivial⟩ ?_
          refine QM.block_normal ?_
          refine QM.then ?_
          refine wpM.region ?_
          refine LM.val (ov_move rfl) ?_
          refine LM.val (ov_add64 rfl rfl (by omega)) ?_
          refine LM.val (ov_assign rfl) ?_
          refine LM.nil ?_
          refine QM.sub (e' := [(0, _), (1, _), (5, _), (6, _)]) ⟨rfl, rfl, rfl, rfl, trivial⟩ ?_
          -- again1: h1+ h2+ h4+
          refine QM.againK (i + 1, Y ||| ot G i, true) ⟨(by first | rfl | exact lk rfl (by congr 1; omega) | exact lk rfl (by simp)), (by first | rfl | exact lk rfl (by congr 1; omega) | exact lk rfl (by simp)), (by first | rfl | exact lk rfl (by congr 1; omega) | exact lk rfl (by simp)), rfl, trivial⟩ (by (repeat' (first | exact SubM.nil _ | refine SubM.cons rfl ?_ | refine SubM.app ?_))) (fun _ h => h) ?_ ?_
          · obtain ⟨hp1, hp2⟩ := hY.put h4; exact ⟨by omega, hp1, fun _ => by cases fr2 with | false => (have e := (hf rfl).1; rw [← e]; exact hp2) | true => (have := ht rfl; omega), fun h => by cases h⟩
          · first | omega | (dsimp only; omega)
        ·
          refine wpM.skip ?_
          refine QM.block_normal ?_
          refine QM.then ?_
          refine wpM.region ?_
          refine LM.val (ov_move rfl) ?_
          refine LM.val (ov_add64 rfl rfl (by omega)) ?_
          refine LM.val (ov_assign rfl) ?_
          refine LM.nil ?_
          refine QM.sub (e' := [(0, _), (1, _), (5, _), (6, _)]) ⟨rfl, rfl, rfl, rfl, trivial⟩ ?_
          -- again2: h1+ h2+ h4-
          refine QM.againK (i + 1, Y, fr2) ⟨(by first | rfl | exact lk rfl (by congr 1; omega) | exact lk rfl (by simp)), (by first | rfl | exact lk rfl (by congr 1; omega) | exact lk rfl (by simp)), (by first | rfl | exact lk rfl (by congr 1; omega) | exact lk rfl (by simp)), rfl, trivial⟩ (by (repeat' (first | exact SubM.nil _ | refine SubM.cons rfl ?_ | refine SubM.app ?_))) (fun _ h => h) ?_ ?_
          · exact ⟨by omega, hY, ht, fun hg => by obtain ⟨e, hd2⟩ := hf hg; subst e; exact ⟨rfl, hd2.step h4⟩⟩
          · first | omega | (dsimp only; omega)
    ·
      refine wpM.exit ?_
      refine QM.then_exit ?_
      refine QM.then_exit ?_
      refine QM.block_hit ?_
      refine QM.block_normal ?_
      -- again1: h1+ h2-
      refine QM.againK (Y, fr2) ⟨(by first | rfl | exact lk rfl (by congr 1; omega) | exact lk rfl (by simp)), (by first | rfl | exact lk rfl (by congr 1; omega) | exact lk rfl (by simp)), rfl, trivial⟩ (by (repeat' (first | exact SubM.nil _ | refine SubM.cons rfl ?_ | refine SubM.app ?_))) (fun _ h => h) ?_ ?_
      · exact ⟨hY, fun hg => by obtain ⟨e, hd2⟩ := hf hg; have hi64 : i = 64 := (by omega); subst hi64; rw [e]; exact hd2⟩
      · dsimp only; have := card_le X; have := card_le Y; cases fr2 with | false => (obtain ⟨e, _⟩ := hf rfl; subst e; rw [h1]; simp) | true => (have := ht rfl; rw [h1]; simp; omega)
  ·
    refine wpM.exit ?_
    refine QM.then_exit ?_
    refine QM.then_exit ?_
    refine QM.block_hit ?_
    refine QM.then ?_
    refine wpM.seq ?_
    refine wpM.region ?_
    refine LM.val (ov_move rfl) ?_
    refine LM.val (ov_assign rfl) ?_
    refine LM.nil ?_
    refine QM.sub (e' := [(4, _)]) ⟨rfl, trivial⟩ ?_
    refine QM.then ?_
    refine wpM.ret ?_
    refine QM.leave (.inl rfl) [.tmp 4] Tryd.results66 rfl ?_
    intro w' hm' hc' hg'
    -- leaf 1: h1-
    refine ⟨?_, hc'⟩; simp only [resV]; exact congrArg U (hX.end (hd (by simpa using h1)))

set_option maxRecDepth 100000 in
theorem rreach_spec {n0 : Nat} {G : Gr} {ad : Option Addr} {n cap : Nat} {m : Mem0} (b : Nat) (who : Int) (w : World) (hG : G.length = 64) (hn : n = 64) (hsl : Sl fU 23 1 n0 G (.slice ad n cap) m) (hM : Mem w (rB b ad n cap :: (m ++ []))) : Ret Tryd.prog 49 #[.pointer (some ⟨b, 0, none⟩), .int .i64 who] w (fun v w' => v = U (rchG G who) ∧ Ext w w') := by
  refine Ret.enterM (l := [.pointer (some ⟨b, 0, none⟩), .int .i64 who]) Tryd.func49 rfl Tryd.ntmps49 rfl (rB b ad n cap :: (m ++ [])) (no) hM ?_
  refine wpM.seq ?_
  refine wpM.region ?_
  refine LM.val (ov_assign rfl) ?_
  refine LM.nil ?_
  refine QM.sub (e' := [(0, _), (1, _)]) ⟨rfl, rfl, trivial⟩ ?_
  refine QM.then ?_
  refine wpM.seq ?_
  refine wpM.seq ?_
  refine wpM.region ?_
  refine LM.val (ov_move rfl) ?_
  refine LM.callE (oc_call (enters_fn Tryd.func47 (by kernel_rfl) rfl) rfl) (fun w hm hc hg => ris_spec _ w) ?_
  first | refine LM.val (ov_notD rfl) ?_ | refine LM.val (ov_not rfl) ?_
  refine LM.nil ?_
  refine QM.sub (e' := [(0, _), (1, _), (7, _)]) ⟨rfl, rfl, rfl, trivial⟩ ?_
  refine QM.then ?_
  first | refine wpM.condD rfl (fun h1 => ?_) (fun h1 => ?_) | refine wpM.condB rfl (fun h1 => ?_) (fun h1 => ?_)
  ·
    refine wpM.seq ?_
    refine wpM.region ?_
    refine LM.val (ov_assign rfl) ?_
    refine LM.nil ?_
    refine QM.sub (e' := [(4, _)]) ⟨rfl, trivial⟩ ?_
    refine QM.then ?_
    refine wpM.ret ?_
    refine QM.then_ret ?_
    refine QM.leave (.inl rfl) [.tmp 4] Tryd.results49 rfl ?_
    intro w' hm' hc' hg'
    -- leaf 1: h1+
    refine ⟨?_, hc'⟩; simp only [resV, rchG]; rw [if_neg (by simpa using h1)]; rfl
  ·
    have hin := inG_iff.1 (show inG who = true by simpa using h1)
    refine wpM.skip ?_
    refine QM.then ?_
    refine wpM.seq ?_
    refine wpM.region ?_
    refine LM.val (ov_move rfl) ?_
    refine LM.val (ov_move rfl) ?_
    refine LM.val (ov_nilCheck rfl) ?_
    refine LM.val (ov_field Tryd.underlying72 rfl Tryd.sizeOf70 rfl (k := 0) rfl rfl) ?_
    first | refine LM.rd (om_ld Tryd.isAgg70 rfl rfl) ?_
    refine LM.val (ov_move rfl) ?_
    first | refine LM.val (ov_idxSN (by first | exact Sr.spt (by assumption) | exact Sl.spt (by assumption)) Tryd.underlying70 Tryd.sizeOf23 rfl rfl (by omega)) ?_ | refine LM.val (ov_idxS (by first | exact Sr.spt (by assumption) | exact Sl.spt (by assumption)) Tryd.underlying70 Tryd.sizeOf23 rfl rfl (by omega)) ?_ | refine LM.val (ov_idx1 Tryd.underlying70 Tryd.sizeOf23 rfl rfl (by omega)) ?_
    first | refine LM.rd (om_sl1 (by assumption) (by intro _; rfl) Tryd.isAgg23 rfl rfl (by exact getq 0#64 (by first | omega | (simp only [List.length_set, List.length_append, List.length_cons, List.length_nil]; omega))) (by rfl)) ?_ | refine LM.rdC (om_sr1 (by assumption) Tryd.isAgg23 rfl rfl (by exact getq 0#64 (by first | omega | (simp only [List.length_set, List.length_append, List.length_cons, List.length_nil]; omega))) (by rfl) id) ?_ | refine LM.rd (om_ld Tryd.isAgg23 rfl rfl) ?_
    refine LM.callE (oc_call (enters_fn Tryd.func66 (by kernel_rfl) rfl) rfl) (fun w hm hc hg => rover_spec b _ w hG hn hsl hm) ?_
    refine LM.val (ov_assign rfl) ?_
    refine LM.nil ?_
    refine QM.sub (e' := [(4, _)]) ⟨rfl, trivial⟩ ?_
    refine QM.then ?_
    refine wpM.ret ?_
    refine QM.leave (.inl rfl) [.tmp 4] Tryd.results49 rfl ?_
    intro w' hm' hc' hg'
    -- leaf 2: h1-
    refine ⟨?_, hc'⟩; simp only [resV, rchG]; rw [if_pos (by simpa using h1)]; rfl

set_option maxRecDepth 100000 in
theorem rbehind_spec {n0 : Nat} {G : Gr} {ad : Option Addr} {n cap : Nat} {m : Mem0} (b : Nat) (who : Int) (w : World) (hG : G.length = 64) (hn : n = 64) (hsl : Sl fU 23 1 n0 G (.slice ad n cap) m) (hM : Mem w (rB b ad n cap :: (m ++ []))) : Ret Tryd.prog 50 #[.pointer (some ⟨b, 0, none⟩), .int .i64 who] w (fun v w' => v = U (bhdG G who) ∧ Ext w w') := by
  refine Ret.enterM (l := [.pointer (some ⟨b, 0, none⟩), .int .i64 who]) Tryd.func50 rfl Tryd.ntmps50 rfl (rB b ad n cap :: (m ++ [])) (no) hM ?_
  refine wpM.seq ?_
  refine wpM.region ?_
  refine LM.val (ov_assign rfl) ?_
  refine LM.nil ?_
  refine QM.sub (e' := [(0, _), (1, _)]) ⟨rfl, rfl, trivial⟩ ?_
  refine QM.then ?_
  refine wpM.seq ?_
  refine wpM.region ?_
  refine LM.val (ov_assign rfl) ?_
  refine LM.nil ?_
  refine QM.sub (e' := [(0, _), (1, _), (5, _)]) ⟨rfl, rfl, rfl, trivial⟩ ?_
  refine QM.then ?_
  refine wpM.seq ?_
  refine wpM.seq ?_
  refine wpM.region ?_
  refine LM.val (ov_assign rfl) ?_
  refine LM.nil ?_
  refine QM.sub (e' := [(0, _), (1, _), (5, _), (6, _)]) ⟨rfl, rfl, rfl, rfl, trivial⟩ ?_
  refine QM.then ?_
  refine wpM.block ?_
  refine wpM.loopK0 (α := Nat) (fun i => [(5, U (bhN G who i)), (6, .int .i64 (i : Nat))]) [(0, _), (1, _)] (fun i => rB b ad n cap :: (m ++ [])) (fun i => i ≤ 64) (fun i => 64 - i) (0) ⟨(by first | rfl | exact lk rfl (by rw [bhN_succ]; first | rw [if_pos h4] | rw [if_neg (by rw [h4]; simp)])), (by first | rfl | exact lk rfl (by congr 1; omega) | exact lk rfl (by simp)), rfl, rfl, trivial⟩ (by (repeat' (first | exact SubM.nil _ | refine SubM.cons rfl ?_ | refine SubM.app ?_))) (Nat.zero_le _) ?_
  rintro i hi
  change wpM _ _ _ _ _ _ _ (rB b ad n cap :: (m ++ [])) _ _ _
  refine wpM.seq ?_
  refine wpM.seq ?_
  refine wpM.region ?_
  refine LM.val (ov_move rfl) ?_
  refine LM.val (ov_lss rfl rfl) ?_
  refine LM.nil ?_
  refine QM.sub (e' := [(0, _), (1, _), (5, _), (6, _), (8, _)]) ⟨rfl, rfl, rfl, rfl, rfl, trivial⟩ ?_
  refine QM.then ?_
  first | refine wpM.condD rfl (fun h1 => ?_) (fun h1 => ?_) | refine wpM.condB rfl (fun h1 => ?_) (fun h1 => ?_)
  ·
    refine wpM.skip ?_
    refine QM.then ?_
    refine wpM.seq ?_
    refine wpM.block ?_
    refine wpM.seq ?_
    refine wpM.joinK (α := Bool) (fun bb => [(29, .bool bb)]) [(0, _), (1, _), (5, _), (6, _)] (fun bb => rB b ad n cap :: (m ++ [])) (fun bb => bb = hasB (ovr G (ot G i)) who) ⟨rfl, rfl, rfl, rfl, trivial⟩ ?_ ?_
    ·
      refine wpM.region ?_
      refine LM.val (ov_move rfl) ?_
      refine LM.callE (oc_call (enters_fn Tryd.func47 (by kernel_rfl) rfl) rfl) (fun w hm hc hg => ris_spec _ w) ?_
      refine LM.val (ov_move rfl) ?_
      first | refine LM.splitD (t := 13) rfl (fun h2 => ?_) (fun h2 => ?_) | refine LM.splitB (t := 13) rfl (fun h2 => ?_) (fun h2 => ?_)
      ·
        refine LM.strip (t := 13) rfl rfl rfl ?_
        refine LM.val (ov_move rfl) ?_
        refine LM.strip (t := 13) rfl rfl rfl ?_
        refine LM.val (ov_nilCheck rfl) ?_
        refine LM.strip (t := 13) rfl rfl rfl ?_
        refine LM.val (ov_field Tryd.underlying72 rfl Tryd.sizeOf70 rfl (k := 0) rfl rfl) ?_
        refine LM.strip (t := 13) rfl rfl rfl ?_
        first | refine LM.rd (om_ld Tryd.isAgg70 rfl rfl) ?_
        refine LM.strip (t := 13) rfl rfl rfl ?_
        refine LM.val (ov_move rfl) ?_
        refine LM.strip (t := 13) rfl rfl rfl ?_
        first | refine LM.val (ov_idxSN (by first | exact Sr.spt (by assumption) | exact Sl.spt (by assumption)) Tryd.underlying70 Tryd.sizeOf23 rfl rfl (by omega)) ?_ | refine LM.val (ov_idxS (by first | exact Sr.spt (by assumption) | exact Sl.spt (by assumption)) Tryd.underlying70 Tryd.sizeOf23 rfl rfl (by omega)) ?_ | refine LM.val (ov_idx1 Tryd.underlying70 Tryd.sizeOf23 rfl rfl (by omega)) ?_
        refine LM.strip (t := 13) rfl rfl rfl ?_
        first | refine LM.rd (om_sl1 (by assumption) (by intro _; rfl) Tryd.isAgg23 rfl rfl (by exact getq 0#64 (by first | omega | (simp only [List.length_set, List.length_append, List.length_cons, List.length_nil]; omega))) (by rfl)) ?_ | refine LM.rdC (om_sr1 (by assumption) Tryd.isAgg23 rfl rfl (by exact getq 0#64 (by first | omega | (simp only [List.length_set, List.length_append, List.length_cons, List.length_nil]; omega))) (by rfl) id) ?_ | refine LM.rd (om_ld Tryd.isAgg23 rfl rfl) ?_
        refine LM.strip (t := 13) rfl rfl rfl ?_
        refine LM.val (ov_uneq (b := 0#64) rfl rfl) ?_
        refine LM.val (ov_pickT rfl rfl) ?_
        refine LM.val (ov_move rfl) ?_
        first | refine LM.splitD (t := 23) rfl (fun h3 => ?_) (fun h3 => ?_) | refine LM.splitB (t := 23) rfl (fun h3 => ?_) (fun h3 => ?_)
        ·
          refine LM.strip (t := 23) rfl rfl rfl ?_
          refine LM.val (ov_move rfl) ?_
          refine LM.strip (t := 23) rfl rfl rfl ?_
          refine LM.val (ov_move rfl) ?_
          refine LM.strip (t := 23) rfl rfl rfl ?_
          refine LM.callE (oc_call (enters_fn Tryd.func49 (by kernel_rfl) rfl) rfl) (fun w hm hc hg => rreach_spec b _ w hG hn hsl hm) ?_
          refine LM.strip (t := 23) rfl rfl rfl ?_
          refine LM.val (ov_move rfl) ?_
          refine LM.strip (t := 23) rfl rfl rfl ?_
          refine LM.callE (oc_call (enters_fn Tryd.func20 (by kernel_rfl) rfl) rfl) (fun w hm hc hg => rhas_spec _ _ w) ?_
          refine LM.val (ov_pickT rfl rfl) ?_
          refine LM.nil ?_
          refine QM.sub (e' := [(0, _), (1, _), (5, _), (6, _), (29, _)]) ⟨rfl, rfl, rfl, rfl, rfl, trivial⟩ ?_
          -- meet1: h1+ h2+ h3+
          refine QM.meetK (_) ⟨(by first | rfl | exact lk rfl (by congr 1; omega) | exact lk rfl (by simp)), rfl, rfl, rfl, rfl, trivial⟩ (by (repeat' (first | exact SubM.nil _ | refine SubM.cons rfl ?_ | refine SubM.app ?_))) ?_
          · first | exact beh_1 (by assumption) | exact beh_2 (by assumption) | exact beh_3 (by omega)
        ·
          refine LM.drop (t := 23) rfl rfl rfl ?_
          refine LM.drop (t := 23) rfl rfl rfl ?_
          refine LM.drop (t := 23) rfl rfl rfl ?_
          refine LM.drop (t := 23) rfl rfl rfl ?_
          refine LM.drop (t := 23) rfl rfl rfl ?_
          refine LM.val (ov_pickF rfl rfl) ?_
          refine LM.nil ?_
          refine QM.sub (e' := [(0, _), (1, _), (5, _), (6, _), (29, _)]) ⟨rfl, rfl, rfl, rfl, rfl, trivial⟩ ?_
          -- meet2: h1+ h2+ h3-
          refine QM.meetK (_) ⟨(by first | rfl | exact lk rfl (by congr 1; omega) | exact lk rfl (by simp)), rfl, rfl, rfl, rfl, trivial⟩ (by (repeat' (first | exact SubM.nil _ | refine SubM.cons rfl ?_ | refine SubM.app ?_))) ?_
          · first | exact beh_1 (by assumption) | exact beh_2 (by assumption) | exact beh_3 (by omega)
      ·
        refine LM.drop (t := 13) rfl rfl rfl ?_
        refine LM.drop (t := 13) rfl rfl rfl ?_
        refine LM.drop (t := 13) rfl rfl rfl ?_
        refine LM.drop (t := 13) rfl rfl rfl ?_
        refine LM.drop (t := 13) rfl rfl rfl ?_
        refine LM.drop (t := 13) rfl rfl rfl ?_
        refine LM.drop (t := 13) rfl rfl rfl ?_
        refine LM.drop (t := 13) rfl rfl rfl ?_
        refine LM.val (ov_pickF rfl rfl) ?_
        refine LM.val (ov_move rfl) ?_
        refine LM.drop (t := 23) rfl rfl rfl ?_
        refine LM.drop (t := 23) rfl rfl rfl ?_
        refine LM.drop (t := 23) rfl rfl rfl ?_
        refine LM.drop (t := 23) rfl rfl rfl ?_
        refine LM.drop (t := 23) rfl rfl rfl ?_
        refine LM.val (ov_pickF rfl rfl) ?_
        refine LM.nil ?_
        refine QM.sub (e' := [(0, _), (1, _), (5, _), (6, _), (29, _)]) ⟨rfl, rfl, rfl, rfl, rfl, trivial⟩ ?_
        -- meet3: h1+ h2-
        refine QM.meetK (_) ⟨(by first | rfl | exact lk rfl (by congr 1; omega) | exact lk rfl (by simp)), rfl, rfl, rfl, rfl, trivial⟩ (by (repeat' (first | exact SubM.nil _ | refine SubM.cons rfl ?_ | refine SubM.app ?_))) ?_
        · first | exact beh_1 (by assumption) | exact beh_2 (by assumption) | exact beh_3 (by omega)
    ·
      rintro bb hb29
      change QM _ _ _ _ _ (rB b ad n cap :: (m ++ [])) _ _ _
      subst hb29
      refine QM.then ?_
      first | refine wpM.condD rfl (fun h4 => ?_) (fun h4 => ?_) | refine wpM.condB rfl (fun h4 => ?_) (fun h4 => ?_)
      ·
        refine wpM.region ?_
        refine LM.val (ov_move rfl) ?_
        refine LM.val (ov_move rfl) ?_
        refine LM.callE (oc_call (enters_fn Tryd.func15 (by kernel_rfl) rfl) rfl) (fun w hm hc hg => rwith_spec _ _ w) ?_
        refine LM.val (ov_assign rfl) ?_
        refine LM.nil ?_
        refine QM.sub (e' := [(0, _), (1, _), (5, _), (6, _)]) ⟨rfl, rfl, rfl, rfl, trivial⟩ ?_
        refine QM.block_normal ?_
        refine QM.then ?_
        refine wpM.region ?_
        refine LM.val (ov_move rfl) ?_
        refine LM.val (ov_add64 rfl rfl (by omega)) ?_
        refine LM.val (ov_assign rfl) ?_
        refine LM.nil ?_
        refine QM.sub (e' := [(0, _), (1, _), (5, _), (6, _)]) ⟨rfl, rfl, rfl, rfl, trivial⟩ ?_
        -- again1: h1+ h4+
        refine QM.againK (i + 1) ⟨(by first | rfl | exact lk rfl (by rw [bhN_succ]; first | rw [if_pos h4] | rw [if_neg (by rw [h4]; simp)])), (by first | rfl | exact lk rfl (by congr 1; omega) | exact lk rfl (by simp)), rfl, rfl, trivial⟩ (by (repeat' (first | exact SubM.nil _ | refine SubM.cons rfl ?_ | refine SubM.app ?_))) (fun _ h => h) ?_ ?_
        · omega
        · first | omega | (dsimp only; omega)
      ·
        refine wpM.skip ?_
        refine QM.block_normal ?_
        refine QM.then ?_
        refine wpM.region ?_
        refine LM.val (ov_move rfl) ?_
        refine LM.val (ov_add64 rfl rfl (by omega)) ?_
        refine LM.val (ov_assign rfl) ?_
        refine LM.nil ?_
        refine QM.sub (e' := [(0, _), (1, _), (5, _), (6, _)]) ⟨rfl, rfl, rfl, rfl, trivial⟩ ?_
        -- again2: h1+ h4-
        refine QM.againK (i + 1) ⟨(by first | rfl | exact lk rfl (by rw [bhN_succ]; first | rw [if_pos h4] | rw [if_neg (by rw [h4]; simp)])), (by first | rfl | exact lk rfl (by congr 1; omega) | exact lk rfl (by simp)), rfl, rfl, trivial⟩ (by (repeat' (first | exact SubM.nil _ | refine SubM.cons rfl ?_ | refine SubM.app ?_))) (fun _ h => h) ?_ ?_
        · omega
        · first | omega | (dsimp only; omega)
  ·
    refine wpM.exit ?_
    refine QM.then_exit ?_
    refine QM.then_exit ?_
    refine QM.block_hit ?_
    refine QM.then ?_
    refine wpM.seq ?_
    refine wpM.region ?_
    refine LM.val (ov_move rfl) ?_
    refine LM.val (ov_assign rfl) ?_
    refine LM.nil ?_
    refine QM.sub (e' := [(4, _)]) ⟨rfl, trivial⟩ ?_
    refine QM.then ?_
    refine wpM.ret ?_
    refine QM.leave (.inl rfl) [.tmp 4] Tryd.results50 rfl ?_
    intro w' hm' hc' hg'
    -- leaf 1: h1-
    have hi64 : i = 64 := (by omega); subst hi64; exact ⟨by simp only [resV]; rw [bhN_end], hc'⟩

set_option maxRecDepth 100000 in
theorem rcloses_spec {n0 : Nat} {G : Gr} {ad : Option Addr} {n cap : Nat} {m : Mem0} (b : Nat) (who : Int) (s : BitVec 64) (w : World) (hG : G.length = 64) (hn : n = 64) (hsl : Sl fU 23 1 n0 G (.slice ad n cap) m) (hM : Mem w (rB b ad n cap :: (m ++ []))) : Ret Tryd.prog 46 #[.pointer (some ⟨b, 0, none⟩), .int .i64 who, U s] w (fun v w' => v = .bool (hasB (ovr G s) who) ∧ Ext w w') := by
  refine Ret.enterM (l := [.pointer (some ⟨b, 0, none⟩), .int .i64 who, U s]) Tryd.func46 rfl Tryd.ntmps46 rfl (rB b ad n cap :: (m ++ [])) (no) hM ?_
  refine wpM.seq ?_
  refine wpM.region ?_
  refine LM.val (ov_assign rfl) ?_
  refine LM.nil ?_
  refine QM.sub (e' := [(0, _), (1, _), (2, _)]) ⟨rfl, rfl, rfl, trivial⟩ ?_
  refine QM.then ?_
  refine wpM.seq ?_
  refine wpM.region ?_
  refine LM.val (ov_move rfl) ?_
  refine LM.callE (oc_call (enters_fn Tryd.func47 (by kernel_rfl) rfl) rfl) (fun w hm hc hg => ris_spec _ w) ?_
  refine LM.val (ov_move rfl) ?_
  first | refine LM.splitD (t := 9) rfl (fun h1 => ?_) (fun h1 => ?_) | refine LM.splitB (t := 9) rfl (fun h1 => ?_) (fun h1 => ?_)
  ·
    refine LM.strip (t := 9) rfl rfl rfl ?_
    refine LM.val (ov_move rfl) ?_
    refine LM.strip (t := 9) rfl rfl rfl ?_
    refine LM.val (ov_move rfl) ?_
    refine LM.strip (t := 9) rfl rfl rfl ?_
    refine LM.callE (oc_call (enters_fn Tryd.func66 (by kernel_rfl) rfl) rfl) (fun w hm hc hg => rover_spec b _ w hG hn hsl hm) ?_
    refine LM.strip (t := 9) rfl rfl rfl ?_
    refine LM.val (ov_move rfl) ?_
    refine LM.strip (t := 9) rfl rfl rfl ?_
    refine LM.callE (oc_call (enters_fn Tryd.func20 (by kernel_rfl) rfl) rfl) (fun w hm hc hg => rhas_spec _ _ w) ?_
    refine LM.val (ov_pickT rfl rfl) ?_
    refine LM.val (ov_assign rfl) ?_
    refine LM.nil ?_
    refine QM.sub (e' := [(6, _)]) ⟨rfl, trivial⟩ ?_
    refine QM.then ?_
    refine wpM.ret ?_
    refine QM.leave (.inl rfl) [.tmp 6] Tryd.results46 rfl ?_
    intro w' hm' hc' hg'
    -- leaf 1: h1+
    exact ⟨rfl, hc'⟩
  ·
    refine LM.drop (t := 9) rfl rfl rfl ?_
    refine LM.drop (t := 9) rfl rfl rfl ?_
    refine LM.drop (t := 9) rfl rfl rfl ?_
    refine LM.drop (t := 9) rfl rfl rfl ?_
    refine LM.drop (t := 9) rfl rfl rfl ?_
    refine LM.val (ov_pickF rfl rfl) ?_
    refine LM.val (ov_assign rfl) ?_
    refine LM.nil ?_
    refine QM.sub (e' := [(6, _)]) ⟨rfl, trivial⟩ ?_
    refine QM.then ?_
    refine wpM.ret ?_
    refine QM.leave (.inl rfl) [.tmp 6] Tryd.results46 rfl ?_
    intro w' hm' hc' hg'
    -- leaf 2: h1-
    refine ⟨?_, hc'⟩; simp only [resV]; congr 1; cases hh : hasB (ovr G s) who; rfl; (have := hasB_rng hh; simp [inG, this.1, this.2] at h1)

set_option maxRecDepth 100000 in
theorem rwait_spec {n0 : Nat} {G : Gr} {ad : Option Addr} {n cap : Nat} {m : Mem0} (b : Nat) (who : Int) (s : BitVec 64) (w : World) (hG : G.length = 64) (hn : n = 64) (hsl : Sl fU 23 1 n0 G (.slice ad n cap) m) (hM : Mem w (rB b ad n cap :: (m ++ []))) : Ret Tryd.prog 43 #[.pointer (some ⟨b, 0, none⟩), .int .i64 who, U s] w (Upd m (WaT n0 G who s ad n cap) w) := by
  refine Ret.enterM (l := [.pointer (some ⟨b, 0, none⟩), .int .i64 who, U s]) Tryd.func43 rfl Tryd.ntmps43 rfl (rB b ad n cap :: (m ++ [])) ((fun x => ∃ q ∈ m, q.1 = x)) hM ?_
  refine wpM.seq ?_
  refine wpM.region ?_
  refine LM.val (ov_assign rfl) ?_
  refine LM.nil ?_
  refine QM.sub (e' := [(0, _), (1, _), (2, _)]) ⟨rfl, rfl, rfl, trivial⟩ ?_
  refine QM.then ?_
  refine wpM.seq ?_
  refine wpM.seq ?_
  refine wpM.region ?_
  refine LM.val (ov_move rfl) ?_
  refine LM.callE (oc_call (enters_fn Tryd.func47 (by kernel_rfl) rfl) rfl) (fun w hm hc hg => ris_spec _ w) ?_
  first | refine LM.val (ov_notD rfl) ?_ | refine LM.val (ov_not rfl) ?_
  refine LM.nil ?_
  refine QM.sub (e' := [(0, _), (1, _), (2, _), (10, _)]) ⟨rfl, rfl, rfl, rfl, trivial⟩ ?_
  refine QM.then ?_
  first | refine wpM.condD rfl (fun h1 => ?_) (fun h1 => ?_) | refine wpM.condB rfl (fun h1 => ?_) (fun h1 => ?_)
  ·
    refine wpM.seq ?_
    refine wpM.region ?_
    refine LM.val (ov_assign rfl) ?_
    refine LM.nil ?_
    refine QM.sub (e' := [(6, _)]) ⟨rfl, trivial⟩ ?_
    refine QM.then ?_
    refine wpM.ret ?_
    refine QM.then_ret ?_
    refine QM.leave (.inl rfl) [.tmp 6] Tryd.results43 rfl ?_
    intro w' hm' hc' hg'
    -- leaf 1: h1+
    have he : wtE G who s = 1 := (by unfold wtE; rw [if_neg (by simpa using h1)]); refine ⟨hc', m, ⟨by rw [he]; rfl, by unfold wtG; rw [if_neg (by omega)]; exact hsl⟩, hm'.pick m, fun p hp => .inr ⟨p, hp, rfl⟩⟩
  ·
    have hin := inG_iff.1 (show inG who = true by simpa using h1)
    refine wpM.skip ?_
    refine QM.then ?_
    refine wpM.seq ?_
    refine wpM.region ?_
    refine LM.val (ov_move rfl) ?_
    refine LM.val (ov_nilCheck rfl) ?_
    refine LM.val (ov_field Tryd.underlying72 rfl Tryd.sizeOf70 rfl (k := 0) rfl rfl) ?_
    first | refine LM.rd (om_ld Tryd.isAgg70 rfl rfl) ?_
    refine LM.val (ov_move rfl) ?_
    first | refine LM.val (ov_idxSN (by first | exact Sr.spt (by assumption) | exact Sl.spt (by assumption)) Tryd.underlying70 Tryd.sizeOf23 rfl rfl (by omega)) ?_ | refine LM.val (ov_idxS (by first | exact Sr.spt (by assumption) | exact Sl.spt (by assumption)) Tryd.underlying70 Tryd.sizeOf23 rfl rfl (by omega)) ?_ | refine LM.val (ov_idx1 Tryd.underlying70 Tryd.sizeOf23 rfl rfl (by omega)) ?_
    first | refine LM.rd (om_sl1 (by assumption) (by intro _; rfl) Tryd.isAgg23 rfl rfl (by exact getq 0#64 (by first | omega | (simp only [List.length_set, List.length_append, List.length_cons, List.length_nil]; omega))) (by rfl)) ?_ | refine LM.rdC (om_sr1 (by assumption) Tryd.isAgg23 rfl rfl (by exact getq 0#64 (by first | omega | (simp only [List.length_set, List.length_append, List.length_cons, List.length_nil]; omega))) (by rfl) id) ?_ | refine LM.rd (om_ld Tryd.isAgg23 rfl rfl) ?_
    refine LM.val (ov_assign rfl) ?_
    refine LM.nil ?_
    refine QM.sub (e' := [(0, _), (1, _), (2, _), (7, _)]) ⟨rfl, rfl, rfl, rfl, trivial⟩ ?_
    refine QM.then ?_
    refine wpM.seq ?_
    refine wpM.region ?_
    refine LM.val (ov_move rfl) ?_
    refine LM.val (ov_nilCheck rfl) ?_
    refine LM.val (ov_field Tryd.underlying72 rfl Tryd.sizeOf70 rfl (k := 0) rfl rfl) ?_
    first | refine LM.rd (om_ld Tryd.isAgg70 rfl rfl) ?_
    refine LM.val (ov_move rfl) ?_
    first | refine LM.val (ov_idxSN (by first | exact Sr.spt (by assumption) | exact Sl.spt (by assumption)) Tryd.underlying70 Tryd.sizeOf23 rfl rfl (by omega)) ?_ | refine LM.val (ov_idxS (by first | exact Sr.spt (by assumption) | exact Sl.spt (by assumption)) Tryd.underlying70 Tryd.sizeOf23 rfl rfl (by omega)) ?_ | refine LM.val (ov_idx1 Tryd.underlying70 Tryd.sizeOf23 rfl rfl (by omega)) ?_
    refine LM.stS 0#64 (j := 0) (by assumption) (by intro _; rfl) Tryd.sizeOf23 rfl rfl rfl (by exact getq 0#64 (by first | omega | (simp only [List.length_set, List.length_append, List.length_cons, List.length_nil]; omega))) rfl (by decide) (by rfl) rfl (fun p hp _ => by first | exact ⟨p, hp, rfl⟩ | exact hmm p hp) (fun ms hss hmm => ?_)
    refine LM.nil ?_
    refine QM.sub (e' := [(0, _), (1, _), (2, _), (7, _)]) ⟨rfl, rfl, rfl, rfl, trivial⟩ ?_
    refine QM.then ?_
    refine wpM.seq ?_
    refine wpM.seq ?_
    refine wpM.region ?_
    refine LM.val (ov_move rfl) ?_
    refine LM.val (ov_move rfl) ?_
    refine LM.val (ov_move rfl) ?_
    refine LM.callE (oc_call (enters_fn Tryd.func46 (by kernel_rfl) rfl) rfl) (fun w hm hc hg => rcloses_spec b _ _ w (by rw [List.length_set]; exact hG) hn hss (SubM.mem (by (repeat' (first | exact SubM.nil _ | refine SubM.cons rfl ?_ | refine SubM.app ?_))) w hm)) ?_
    refine LM.nil ?_
    refine QM.sub (e' := [(0, _), (1, _), (2, _), (7, _), (27, _)]) ⟨rfl, rfl, rfl, rfl, rfl, trivial⟩ ?_
    refine QM.then ?_
    first | refine wpM.condD rfl (fun h2 => ?_) (fun h2 => ?_) | refine wpM.condB rfl (fun h2 => ?_) (fun h2 => ?_)
    ·
      have hmm0 := hmm; have hss0 := hss
      refine wpM.seq ?_
      refine wpM.region ?_
      refine LM.val (ov_move rfl) ?_
      refine LM.val (ov_nilCheck rfl) ?_
      refine LM.val (ov_field Tryd.underlying72 rfl Tryd.sizeOf70 rfl (k := 0) rfl rfl) ?_
      first | refine LM.rd (om_ld Tryd.isAgg70 rfl rfl) ?_
      refine LM.val (ov_move rfl) ?_
      refine LM.val (ov_move rfl) ?_
      first | refine LM.val (ov_idxSN (by first | exact Sr.spt (by assumption) | exact Sl.spt (by assumption)) Tryd.underlying70 Tryd.sizeOf23 rfl rfl (by omega)) ?_ | refine LM.val (ov_idxS (by first | exact Sr.spt (by assumption) | exact Sl.spt (by assumption)) Tryd.underlying70 Tryd.sizeOf23 rfl rfl (by omega)) ?_ | refine LM.val (ov_idx1 Tryd.underlying70 Tryd.sizeOf23 rfl rfl (by omega)) ?_
      refine LM.stS _ (j := 0) (by assumption) (by intro _; rfl) Tryd.sizeOf23 rfl rfl rfl (by exact getq 0#64 (by first | omega | (simp only [List.length_set, List.length_append, List.length_cons, List.length_nil]; omega))) rfl (by decide) (by rfl) rfl (fun p hp _ => by first | exact ⟨p, hp, rfl⟩ | exact hmm p hp) (fun ms hss hmm => ?_)
      refine LM.nil ?_
      refine QM.sub (e' := []) trivial ?_
      refine QM.then ?_
      refine wpM.seq ?_
      refine wpM.region ?_
      refine LM.val (ov_assign rfl) ?_
      refine LM.nil ?_
      refine QM.sub (e' := [(6, _)]) ⟨rfl, trivial⟩ ?_
      refine QM.then ?_
      refine wpM.ret ?_
      refine QM.then_ret ?_
      refine QM.leave (.inl rfl) [.tmp 6] Tryd.results43 rfl ?_
      intro w' hm' hc' hg'
      -- leaf 2: h1- h2+
      have he : wtE G who s = 9 := (by rw [closes_zero' hG hin] at h2; unfold wtE; rw [if_pos (by simpa using h1), if_pos h2]); rw [List.set_set, set_same _ (by omega)] at hss; refine ⟨hc', ms, ⟨by rw [he]; rfl, by unfold wtG; rw [if_neg (by omega)]; exact hss⟩, hm'.pick ms, fun p hp => .inr (by obtain ⟨q, hq, e⟩ := hmm p hp; obtain ⟨r, hr, e2⟩ := hmm0 q hq; exact ⟨r, hr, e2.trans e⟩)⟩
    ·
      have hmm0 := hmm; have hss0 := hss
      refine wpM.skip ?_
      refine QM.then ?_
      refine wpM.seq ?_
      refine wpM.region ?_
      refine LM.val (ov_move rfl) ?_
      refine LM.val (ov_nilCheck rfl) ?_
      refine LM.val (ov_field Tryd.underlying72 rfl Tryd.sizeOf70 rfl (k := 0) rfl rfl) ?_
      first | refine LM.rd (om_ld Tryd.isAgg70 rfl rfl) ?_
      refine LM.val (ov_move rfl) ?_
      refine LM.val (ov_move rfl) ?_
      first | refine LM.val (ov_idxSN (by first | exact Sr.spt (by assumption) | exact Sl.spt (by assumption)) Tryd.underlying70 Tryd.sizeOf23 rfl rfl (by omega)) ?_ | refine LM.val (ov_idxS (by first | exact Sr.spt (by assumption) | exact Sl.spt (by assumption)) Tryd.underlying70 Tryd.sizeOf23 rfl rfl (by omega)) ?_ | refine LM.val (ov_idx1 Tryd.underlying70 Tryd.sizeOf23 rfl rfl (by omega)) ?_
      refine LM.stS _ (j := 0) (by assumption) (by intro _; rfl) Tryd.sizeOf23 rfl rfl rfl (by exact getq 0#64 (by first | omega | (simp only [List.length_set, List.length_append, List.length_cons, List.length_nil]; omega))) rfl (by decide) (by rfl) rfl (fun p hp _ => by first | exact ⟨p, hp, rfl⟩ | exact hmm p hp) (fun ms hss hmm => ?_)
      refine LM.nil ?_
      refine QM.sub (e' := []) trivial ?_
      refine QM.then ?_
      refine wpM.seq ?_
      refine wpM.region ?_
      refine LM.val (ov_assign rfl) ?_
      refine LM.nil ?_
      refine QM.sub (e' := [(6, _)]) ⟨rfl, trivial⟩ ?_
      refine QM.then ?_
      refine wpM.ret ?_
      refine QM.leave (.inl rfl) [.tmp 6] Tryd.results43 rfl ?_
      intro w' hm' hc' hg'
      -- leaf 3: h1- h2-
      have he : wtE G who s = 0 := (by rw [closes_zero' hG hin] at h2; unfold wtE; rw [if_pos (by simpa using h1), if_neg (by rw [h2]; simp)]); rw [List.set_set] at hss; refine ⟨hc', ms, ⟨by rw [he]; rfl, by unfold wtG; rw [if_pos he]; exact hss⟩, hm'.pick ms, fun p hp => .inr (by obtain ⟨q, hq, e⟩ := hmm p hp; obtain ⟨r, hr, e2⟩ := hmm0 q hq; exact ⟨r, hr, e2.trans e⟩)⟩

set_option maxRecDepth 100000 in
theorem rchain_spec {n0 : Nat} {G : Gr} {adg : Option Addr} {ng capg : Nat} {mg : Mem0} (b : Nat) (who : Int) (w : World) (hG : G.length = 64) (hng : ng = 64) (hsg : Sl fU 23 1 n0 G (.slice adg ng capg) mg) (hM : Mem w (rB b adg ng capg :: (mg ++ []))) : Ret Tryd.prog 51 #[.pointer (some ⟨b, 0, none⟩), .int .i64 who] w (New fI 3 1 (chn G 64 who) w) := by
  refine Ret.enterM (l := [.pointer (some ⟨b, 0, none⟩), .int .i64 who]) Tryd.func51 rfl Tryd.ntmps51 rfl (rB b adg ng capg :: (mg ++ [])) (no) hM ?_
  refine wpM.seq ?_
  refine wpM.region ?_
  refine LM.val (ov_assign rfl) ?_
  refine LM.nil ?_
  refine QM.sub (e' := [(0, _), (1, _)]) ⟨rfl, rfl, trivial⟩ ?_
  refine QM.then ?_
  refine wpM.seq ?_
  refine wpM.region ?_
  refine LM.val (ov_assign rfl) ?_
  refine LM.nil ?_
  refine QM.sub (e' := [(0, _), (1, _), (5, _)]) ⟨rfl, rfl, rfl, trivial⟩ ?_
  refine QM.then ?_
  refine wpM.seq ?_
  refine wpM.block ?_
  refine wpM.loopK0 (α := Int × List Int × Option Addr × Nat × Nat × Mem0) (fun ⟨x, out, ad, n, cap, m⟩ => [(1, .int .i64 x), (5, .slice ad n cap)]) [(0, _)] (fun ⟨x, out, ad, n, cap, m⟩ => m ++ (rB b adg ng capg :: (mg ++ []))) (fun ⟨x, out, ad, n, cap, m⟩ => n = out.length ∧ Sl fI 3 1 w.heap.size out (.slice ad n cap) m ∧ out.length ≤ 64 ∧ out ++ chn G (64 - out.length) x = chn G 64 who) (fun ⟨x, out, ad, n, cap, m⟩ => 64 - out.length) ((who, [], none, 0, 0, [])) ⟨(by first | rfl | exact lk rfl (by rw [listI_zero (s := G.getD x.toNat 0#64) (by omega)]; rfl)), (by first | rfl | exact lk rfl (by congr 1; omega) | exact lk rfl (by simp)), rfl, trivial⟩ (by (repeat' (first | exact SubM.nil _ | refine SubM.cons rfl ?_ | refine SubM.app ?_))) ⟨rfl, .nil _ _ _ _, by simp, rfl⟩ ?_
  rintro ⟨x, out, ad, n, cap, m⟩ ⟨hn, hs, hk, ho⟩
  change wpM _ _ _ _ _ _ _ (m ++ (rB b adg ng capg :: (mg ++ []))) _ _ _
  refine wpM.seq ?_
  refine wpM.seq ?_
  refine wpM.region ?_
  refine LM.val (ov_move rfl) ?_
  refine LM.callE (oc_call (enters_fn Tryd.func47 (by kernel_rfl) rfl) rfl) (fun w hm hc hg => ris_spec _ w) ?_
  refine LM.val (ov_move rfl) ?_
  first | refine LM.splitD (t := 9) rfl (fun h1 => ?_) (fun h1 => ?_) | refine LM.splitB (t := 9) rfl (fun h1 => ?_) (fun h1 => ?_)
  ·
    have hin := inG_iff.1 h1
    refine LM.strip (t := 9) rfl rfl rfl ?_
    refine LM.val (ov_move rfl) ?_
    refine LM.strip (t := 9) rfl rfl rfl ?_
    refine LM.val (ov_len Tryd.underlying22 rfl) ?_
    refine LM.strip (t := 9) rfl rfl rfl ?_
    refine LM.val (ov_lss rfl rfl) ?_
    refine LM.val (ov_pickT rfl rfl) ?_
    refine LM.nil ?_
    refine QM.sub (e' := [(0, _), (1, _), (5, _), (13, _)]) ⟨rfl, rfl, rfl, rfl, trivial⟩ ?_
    refine QM.then ?_
    first | refine wpM.condD rfl (fun h2 => ?_) (fun h2 => ?_) | refine wpM.condB rfl (fun h2 => ?_) (fun h2 => ?_)
    ·
      refine wpM.skip ?_
      refine QM.then ?_
      refine wpM.block ?_
      refine wpM.seq ?_
      refine wpM.region ?_
      refine LM.val (ov_move rfl) ?_
      refine LM.val (ov_move rfl) ?_
      refine LM.single Tryd.underlying22 Tryd.sizeOf3 Tryd.zeroValue3 rfl rfl rfl rfl rfl (fun b16 hb16 => ?_)
      refine LM.app Tryd.underlying22 Tryd.typeInfo3 rfl rfl rfl rfl rfl rfl rfl (by assumption) (by rfl) (by intro _; rfl) (by intro _ u hu; simp [fI] at hu; (repeat (first | (rcases hu with rfl | hu) | subst hu | rfl))) (by first | exact Nat.le_refl _ | omega) (fun p hp hlt => absurd hlt (Nat.not_lt_of_le (Sl.ge (by assumption) p hp))) (by first | omega | (unfold maxLen; omega)) (by simp only [Tryd.t3]; omega) (fun ad17 n17 cap17 m17 hn17 hs17 hin17 => ?_)
      refine LM.val (ov_assign rfl) ?_
      refine LM.nil ?_
      refine QM.sub (e' := [(0, _), (1, _), (5, _)]) ⟨rfl, rfl, rfl, trivial⟩ ?_
      refine QM.then ?_
      refine wpM.seq ?_
      refine wpM.region ?_
      refine LM.val (ov_move rfl) ?_
      refine LM.val (ov_nilCheck rfl) ?_
      refine LM.val (ov_field Tryd.underlying72 rfl Tryd.sizeOf70 rfl (k := 0) rfl rfl) ?_
      first | refine LM.rd (om_ld Tryd.isAgg70 rfl rfl) ?_
      refine LM.val (ov_move rfl) ?_
      first | refine LM.val (ov_idxSN (by first | exact Sr.spt (by assumption) | exact Sl.spt (by assumption)) Tryd.underlying70 Tryd.sizeOf23 rfl rfl (by omega)) ?_ | refine LM.val (ov_idxS (by first | exact Sr.spt (by assumption) | exact Sl.spt (by assumption)) Tryd.underlying70 Tryd.sizeOf23 rfl rfl (by omega)) ?_ | refine LM.val (ov_idx1 Tryd.underlying70 Tryd.sizeOf23 rfl rfl (by omega)) ?_
      first | refine LM.rd (om_sl1 (by assumption) (by intro _; rfl) Tryd.isAgg23 rfl rfl (by exact getq 0#64 (by first | omega | (simp only [List.length_set, List.length_append, List.length_cons, List.length_nil]; omega))) (by rfl)) ?_ | refine LM.rdC (om_sr1 (by assumption) Tryd.isAgg23 rfl rfl (by exact getq 0#64 (by first | omega | (simp only [List.length_set, List.length_append, List.length_cons, List.length_nil]; omega))) (by rfl) id) ?_ | refine LM.rd (om_ld Tryd.isAgg23 rfl rfl) ?_
      refine LM.cS (oc_call (enters_fn Tryd.func17 (by kernel_rfl) rfl) rfl) (fun w hm hc hg => rlist_spec _ w) (fun ad25 n25 cap25 m25 hn25 hs25 => ?_)
      refine LM.val (ov_assign rfl) ?_
      refine LM.nil ?_
      refine QM.sub (e' := [(0, _), (5, _), (6, _)]) ⟨rfl, rfl, rfl, trivial⟩ ?_
      refine QM.then ?_
      refine wpM.seq ?_
      refine wpM.seq ?_
      refine wpM.region ?_
      refine LM.val (ov_move rfl) ?_
      refine LM.val (ov_len Tryd.underlying22 rfl) ?_
      refine LM.val (ov_eql rfl rfl) ?_
      refine LM.nil ?_
      refine QM.sub (e' := [(0, _), (5, _), (6, _), (28, _)]) ⟨rfl, rfl, rfl, rfl, trivial⟩ ?_
      refine QM.then ?_
      first | refine wpM.condD rfl (fun h3 => ?_) (fun h3 => ?_) | refine wpM.condB rfl (fun h3 => ?_) (fun h3 => ?_)
      ·
        refine wpM.exit ?_
        refine QM.then_exit ?_
        refine QM.block_miss rfl ?_
        refine QM.then_exit ?_
        refine QM.block_hit ?_
        refine QM.then ?_
        refine wpM.seq ?_
        refine wpM.region ?_
        refine LM.val (ov_move rfl) ?_
        refine LM.val (ov_assign rfl) ?_
        refine LM.nil ?_
        refine QM.sub (e' := [(4, _)]) ⟨rfl, trivial⟩ ?_
        refine QM.then ?_
        refine wpM.ret ?_
        refine QM.leave (.inl rfl) [.tmp 4] Tryd.results51 rfl ?_
        intro w' hm' hc' hg'
        -- leaf 1: h1+ h2+ h3+
        have ho2 : out ++ [x] = chn G 64 who := (by rw [← ho, show 64 - out.length = (63 - out.length) + 1 by omega, chn, if_pos hin, listI_nil (s := ot G x.toNat) (show ((listI (G.getD x.toNat 0#64)).length : Int) = 0 by omega), chn_off _ _ (by omega)]); rw [ho2] at hs17; exact ⟨hc', m17, hs17, hm'.pick m17⟩
      ·
        refine wpM.skip ?_
        refine QM.then ?_
        refine wpM.region ?_
        refine LM.val (ov_move rfl) ?_
        first | refine LM.val (ov_idxSN (i := 0) (by first | exact Sr.spt (by assumption) | exact Sl.spt (by assumption)) Tryd.underlying22 Tryd.sizeOf3 rfl rfl (by omega)) ?_ | refine LM.val (ov_idxSN (by first | exact Sr.spt (by assumption) | exact Sl.spt (by assumption)) Tryd.underlying22 Tryd.sizeOf3 rfl rfl (by omega)) ?_ | refine LM.val (ov_idxS (by first | exact Sr.spt (by assumption) | exact Sl.spt (by assumption)) Tryd.underlying22 Tryd.sizeOf3 rfl rfl (by omega)) ?_ | refine LM.val (ov_idx1 Tryd.underlying22 Tryd.sizeOf3 rfl rfl (by omega)) ?_
        first | refine LM.rd (om_sl1 (by assumption) (by intro _; rfl) Tryd.isAgg3 rfl rfl (by exact getq 0 (by first | omega | (simp only [List.length_set, List.length_append, List.length_cons, List.length_nil]; omega))) (by rfl)) ?_ | refine LM.rdC (om_sr1 (by assumption) Tryd.isAgg3 rfl rfl (by exact getq 0 (by first | omega | (simp only [List.length_set, List.length_append, List.length_cons, List.length_nil]; omega))) (by rfl) id) ?_ | refine LM.rd (om_ld Tryd.isAgg3 rfl rfl) ?_
        refine LM.val (ov_assign rfl) ?_
        refine LM.nil ?_
        refine QM.sub (e' := [(0, _), (1, _), (5, _)]) ⟨rfl, rfl, rfl, trivial⟩ ?_
        refine QM.block_normal ?_
        -- again1: h1+ h2+ h3-
        refine QM.againK (firstI (ot G x.toNat), out ++ [x], ad17, n17, cap17, m17) ⟨(by first | rfl | exact lk rfl (by rw [listI_zero (s := G.getD x.toNat 0#64) (by omega)]; rfl)), (by first | rfl | exact lk rfl (by congr 1; omega) | exact lk rfl (by simp)), rfl, trivial⟩ (by (repeat' (first | exact SubM.nil _ | refine SubM.cons rfl ?_ | refine SubM.app ?_))) (fun _ h => h) ?_ ?_
        · exact ⟨by simp; omega, hs17, by simp; omega, by rw [List.append_assoc, ← ho, show 64 - out.length = (64 - (out ++ [x]).length) + 1 by simp; omega, chn, if_pos hin]; rfl⟩
        · simp only [List.length_append, List.length_cons, List.length_nil]; omega
    ·
      refine wpM.exit ?_
      refine QM.then_exit ?_
      refine QM.then_exit ?_
      refine QM.block_hit ?_
      refine QM.then ?_
      refine wpM.seq ?_
      refine wpM.region ?_
      refine LM.val (ov_move rfl) ?_
      refine LM.val (ov_assign rfl) ?_
      refine LM.nil ?_
      refine QM.sub (e' := [(4, _)]) ⟨rfl, trivial⟩ ?_
      refine QM.then ?_
      refine wpM.ret ?_
      refine QM.leave (.inl rfl) [.tmp 4] Tryd.results51 rfl ?_
      intro w' hm' hc' hg'
      -- leaf 2: h1+ h2-
      rw [show 64 - out.length = 0 by omega, show chn G 0 x = [] from rfl, List.append_nil] at ho; subst ho; exact ⟨hc', m, hs, hm'.pick m⟩
  ·
    refine LM.drop (t := 9) rfl rfl rfl ?_
    refine LM.drop (t := 9) rfl rfl rfl ?_
    refine LM.drop (t := 9) rfl rfl rfl ?_
    refine LM.val (ov_pickF rfl rfl) ?_
    refine LM.nil ?_
    refine QM.sub (e' := [(0, _), (1, _), (5, _), (13, _)]) ⟨rfl, rfl, rfl, rfl, trivial⟩ ?_
    refine QM.then ?_
    refine wpM.condF rfl ?_
    refine wpM.exit ?_
    refine QM.then_exit ?_
    refine QM.then_exit ?_
    refine QM.block_hit ?_
    refine QM.then ?_
    refine wpM.seq ?_
    refine wpM.region ?_
    refine LM.val (ov_move rfl) ?_
    refine LM.val (ov_assign rfl) ?_
    refine LM.nil ?_
    refine QM.sub (e' := [(4, _)]) ⟨rfl, trivial⟩ ?_
    refine QM.then ?_
    refine wpM.ret ?_
    refine QM.leave (.inl rfl) [.tmp 4] Tryd.results51 rfl ?_
    intro w' hm' hc' hg'
    -- leaf 3: h1-
    rw [chn_off _ _ (fun h => by rw [inG_iff.2 h] at h1; cases h1), List.append_nil] at ho; subst ho; exact ⟨hc', m, hs, hm'.pick m⟩

set_option maxRecDepth 100000 in
theorem redges_spec {n0 : Nat} {G : Gr} {adg : Option Addr} {ng capg : Nat} {mg : Mem0} (b : Nat) (w : World) (hG : G.length = 64) (hng : ng = 64) (hsg : Sl fU 23 1 n0 G (.slice adg ng capg) mg) (hM : Mem w (rB b adg ng capg :: (mg ++ []))) : Ret Tryd.prog 67 #[.pointer (some ⟨b, 0, none⟩)] w (New fEd 80 2 (edN G 64) w) := by
  refine Ret.enterM (l := [.pointer (some ⟨b, 0, none⟩)]) Tryd.func67 rfl Tryd.ntmps67 rfl (rB b adg ng capg :: (mg ++ [])) (no) hM ?_
  refine wpM.seq ?_
  refine wpM.region ?_
  refine LM.val (ov_assign rfl) ?_
  refine LM.nil ?_
  refine QM.sub (e' := [(0, _)]) ⟨rfl, trivial⟩ ?_
  refine QM.then ?_
  refine wpM.seq ?_
  refine wpM.region ?_
  refine LM.val (ov_assign rfl) ?_
  refine LM.nil ?_
  refine QM.sub (e' := [(0, _), (3, _)]) ⟨rfl, rfl, trivial⟩ ?_
  refine QM.then ?_
  refine wpM.seq ?_
  refine wpM.seq ?_
  refine wpM.region ?_
  refine LM.val (ov_assign rfl) ?_
  refine LM.nil ?_
  refine QM.sub (e' := [(0, _), (3, _), (4, _)]) ⟨rfl, rfl, rfl, trivial⟩ ?_
  refine QM.then ?_
  refine wpM.block ?_
  refine wpM.loopK0 (α := Nat × Option Addr × Nat × Nat × Mem0) (fun ⟨i, ad, n, cap, m⟩ => [(3, .slice ad n cap), (4, .int .i64 (i : Nat))]) [(0, _)] (fun ⟨i, ad, n, cap, m⟩ => m ++ (rB b adg ng capg :: (mg ++ []))) (fun ⟨i, ad, n, cap, m⟩ => i ≤ 64 ∧ n = (edN G i).length ∧ Sl fEd 80 2 w.heap.size (edN G i) (.slice ad n cap) m) (fun ⟨i, ad, n, cap, m⟩ => 64 - i) ((0, none, 0, 0, [])) ⟨(by first | rfl | exact lk rfl (by congr 1; omega) | exact lk rfl (by simp)), (by first | rfl | exact lk rfl (by congr 1; omega) | exact lk rfl (by simp)), rfl, trivial⟩ (by (repeat' (first | exact SubM.nil _ | refine SubM.cons rfl ?_ | refine SubM.app ?_))) ⟨Nat.zero_le _, rfl, .nil _ _ _ _⟩ ?_
  rintro ⟨i, ad, n, cap, m⟩ ⟨hi, hn, hs⟩
  change wpM _ _ _ _ _ _ _ (m ++ (rB b adg ng capg :: (mg ++ []))) _ _ _
  have hel := edN_len G i
  refine wpM.seq ?_
  refine wpM.seq ?_
  refine wpM.region ?_
  refine LM.val (ov_move rfl) ?_
  refine LM.val (ov_lss rfl rfl) ?_
  refine LM.nil ?_
  refine QM.sub (e' := [(0, _), (3, _), (4, _), (8, _)]) ⟨rfl, rfl, rfl, rfl, trivial⟩ ?_
  refine QM.then ?_
  first | refine wpM.condD rfl (fun h1 => ?_) (fun h1 => ?_) | refine wpM.condB rfl (fun h1 => ?_) (fun h1 => ?_)
  ·
    refine wpM.skip ?_
    refine QM.then ?_
    refine wpM.seq ?_
    refine wpM.block ?_
    refine wpM.seq ?_
    refine wpM.region ?_
    refine LM.val (ov_move rfl) ?_
    refine LM.val (ov_nilCheck rfl) ?_
    refine LM.val (ov_field Tryd.underlying72 rfl Tryd.sizeOf70 rfl (k := 0) rfl rfl) ?_
    first | refine LM.rd (om_ld Tryd.isAgg70 rfl rfl) ?_
    refine LM.val (ov_move rfl) ?_
    first | refine LM.val (ov_idxSN (by first | exact Sr.spt (by assumption) | exact Sl.spt (by assumption)) Tryd.underlying70 Tryd.sizeOf23 rfl rfl (by omega)) ?_ | refine LM.val (ov_idxS (by first | exact Sr.spt (by assumption) | exact Sl.spt (by assumption)) Tryd.underlying70 Tryd.sizeOf23 rfl rfl (by omega)) ?_ | refine LM.val (ov_idx1 Tryd.underlying70 Tryd.sizeOf23 rfl rfl (by omega)) ?_
    first | refine LM.rd (om_sl1 (by assumption) (by intro _; rfl) Tryd.isAgg23 rfl rfl (by exact getq 0#64 (by first | omega | (simp only [List.length_set, List.length_append, List.length_cons, List.length_nil]; omega))) (by rfl)) ?_ | refine LM.rdC (om_sr1 (by assumption) Tryd.isAgg23 rfl rfl (by exact getq 0#64 (by first | omega | (simp only [List.length_set, List.length_append, List.length_cons, List.length_nil]; omega))) (by rfl) id) ?_ | refine LM.rd (om_ld Tryd.isAgg23 rfl rfl) ?_
    refine LM.cS (oc_call (enters_fn Tryd.func17 (by kernel_rfl) rfl) rfl) (fun w hm hc hg => rlist_spec _ w) (fun ad18 n18 cap18 m18 hn18 hs18 => ?_)
    have hn18 : n18 = (listI (ot G i)).length := hn18
    refine LM.val (ov_assign rfl) ?_
    refine LM.nil ?_
    refine QM.sub (e' := [(0, _), (3, _), (4, _), (5, _)]) ⟨rfl, rfl, rfl, rfl, trivial⟩ ?_
    refine QM.then ?_
    refine wpM.seq ?_
    refine wpM.region ?_
    refine LM.val (ov_assign rfl) ?_
    refine LM.nil ?_
    refine QM.sub (e' := [(0, _), (3, _), (4, _), (5, _), (6, _)]) ⟨rfl, rfl, rfl, rfl, rfl, trivial⟩ ?_
    refine QM.then ?_
    refine wpM.block ?_
    refine wpM.loopK0 (α := Nat × Option Addr × Nat × Nat × Mem0) (fun ⟨k, ad2, n2, cap2, m2⟩ => [(3, .slice ad2 n2 cap2), (6, .int .i64 (k : Nat))]) [(0, _), (4, _), (5, _)] (fun ⟨k, ad2, n2, cap2, m2⟩ => m2 ++ (m18 ++ (rB b adg ng capg :: (mg ++ [])))) (fun ⟨k, ad2, n2, cap2, m2⟩ => k ≤ n18 ∧ n2 = (edN G i ++ edK i ((listI (ot G i)).take k)).length ∧ Sl fEd 80 2 w.heap.size (edN G i ++ edK i ((listI (ot G i)).take k)) (.slice ad2 n2 cap2) m2) (fun ⟨k, ad2, n2, cap2, m2⟩ => n18 - k) ((0, ad, n, cap, m)) ⟨(by first | rfl | exact lk rfl (by congr 1; omega) | exact lk rfl (by simp)), (by first | rfl | exact lk rfl (by congr 1; omega) | exact lk rfl (by simp)), rfl, rfl, rfl, trivial⟩ (by (repeat' (first | exact SubM.nil _ | refine SubM.cons rfl ?_ | refine SubM.app ?_))) ⟨Nat.zero_le _, by rw [List.take_zero, show edK i [] = [] from rfl, List.append_nil]; exact hn, by rw [List.take_zero, show edK i [] = [] from rfl, List.append_nil]; exact hs⟩ ?_
    rintro ⟨k, ad2, n2, cap2, m2⟩ ⟨hk, hn2, hs2⟩
    change wpM _ _ _ _ _ _ _ (m2 ++ (m18 ++ (rB b adg ng capg :: (mg ++ [])))) _ _ _
    have hl2 := edK_len G i k; have hl3 := listI_le (ot G i)
    refine wpM.seq ?_
    refine wpM.seq ?_
    refine wpM.region ?_
    refine LM.val (ov_move rfl) ?_
    refine LM.val (ov_move rfl) ?_
    refine LM.val (ov_len Tryd.underlying22 rfl) ?_
    refine LM.val (ov_lss rfl rfl) ?_
    refine LM.nil ?_
    refine QM.sub (e' := [(0, _), (3, _), (4, _), (5, _), (6, _), (22, _)]) ⟨rfl, rfl, rfl, rfl, rfl, rfl, trivial⟩ ?_
    refine QM.then ?_
    first | refine wpM.condD rfl (fun h2 => ?_) (fun h2 => ?_) | refine wpM.condB rfl (fun h2 => ?_) (fun h2 => ?_)
    ·
      refine wpM.skip ?_
      refine QM.then ?_
      refine wpM.seq ?_
      refine wpM.block ?_
      refine wpM.region ?_
      refine LM.val (ov_move rfl) ?_
      refine LM.val (ov_move rfl) ?_
      refine LM.val (ov_move rfl) ?_
      refine LM.val (ov_move rfl) ?_
      first | refine LM.val (ov_idxSN (by first | exact Sr.spt (by assumption) | exact Sl.spt (by assumption)) Tryd.underlying22 Tryd.sizeOf3 rfl rfl (by omega)) ?_ | refine LM.val (ov_idxS (by first | exact Sr.spt (by assumption) | exact Sl.spt (by assumption)) Tryd.underlying22 Tryd.sizeOf3 rfl rfl (by omega)) ?_ | refine LM.val (ov_idx1 Tryd.underlying22 Tryd.sizeOf3 rfl rfl (by omega)) ?_
      first | refine LM.rd (om_sl1 (by assumption) (by intro _; rfl) Tryd.isAgg3 rfl rfl (by exact getq 0 (by first | omega | (simp only [List.length_set, List.length_append, List.length_cons, List.length_nil]; omega))) (by rfl)) ?_ | refine LM.rdC (om_sr1 (by assumption) Tryd.isAgg3 rfl rfl (by exact getq 0 (by first | omega | (simp only [List.length_set, List.length_append, List.length_cons, List.length_nil]; omega))) (by rfl) id) ?_ | refine LM.rd (om_ld Tryd.isAgg3 rfl rfl) ?_
      refine LM.val (ov_build (cs := #[_, _]) rfl (by first | rfl | kernel_rfl)) ?_
      refine LM.single Tryd.underlying75 Tryd.sizeOf80 Tryd.zeroValue80 rfl rfl rfl rfl rfl (fun b32 hb32 => ?_)
      refine LM.app (a := ({ who := i, to := (listI (ot G i)).getD k 0 } : Ed)) Tryd.underlying75 Tryd.typeInfo80 rfl rfl rfl rfl rfl rfl rfl (by assumption) (by rfl) (by intro _; rfl) (by intro _ u hu; simp [fEd] at hu; (repeat (first | (rcases hu with rfl | hu) | subst hu | rfl))) (by first | exact Nat.le_refl _ | omega) (fun p hp hlt => absurd hlt (Nat.not_lt_of_le (Sl.ge (by assumption) p hp))) (by first | omega | (unfold maxLen; omega)) (by simp only [Tryd.t80]; omega) (fun ad33 n33 cap33 m33 hn33 hs33 hin33 => ?_)
      refine LM.val (ov_assign rfl) ?_
      refine LM.nil ?_
      refine QM.sub (e' := [(0, _), (3, _), (4, _), (5, _), (6, _)]) ⟨rfl, rfl, rfl, rfl, rfl, trivial⟩ ?_
      refine QM.block_normal ?_
      refine QM.then ?_
      refine wpM.region ?_
      refine LM.val (ov_move rfl) ?_
      refine LM.val (ov_add64 rfl rfl (by omega)) ?_
      refine LM.val (ov_assign rfl) ?_
      refine LM.nil ?_
      refine QM.sub (e' := [(0, _), (3, _), (4, _), (5, _), (6, _)]) ⟨rfl, rfl, rfl, rfl, rfl, trivial⟩ ?_
      -- again1: h1+ h2+
      refine QM.againK (k + 1, ad33, n33, cap33, m33) ⟨(by first | rfl | exact lk rfl (by congr 1; omega) | exact lk rfl (by simp)), (by first | rfl | exact lk rfl (by congr 1; omega) | exact lk rfl (by simp)), rfl, rfl, rfl, trivial⟩ (by (repeat' (first | exact SubM.nil _ | refine SubM.cons rfl ?_ | refine SubM.app ?_))) (fun _ h => h) ?_ ?_
      · exact ⟨by omega, by rw [edK_snoc _ (by omega), ← List.append_assoc, List.length_append, hn33]; rfl, by rw [edK_snoc _ (by omega), ← List.append_assoc]; exact hs33⟩
      · first | omega | (dsimp only; omega)
    ·
      have hle : edI G i = edK i ((listI (ot G i)).take k) := (by rw [List.take_of_length_le (show (listI (ot G i)).length ≤ k by omega)]; unfold edI edK listI; rw [List.map_map]; rfl)
      refine wpM.exit ?_
      refine QM.then_exit ?_
      refine QM.then_exit ?_
      refine QM.block_hit ?_
      refine QM.block_normal ?_
      refine QM.then ?_
      refine wpM.region ?_
      refine LM.val (ov_move rfl) ?_
      refine LM.val (ov_add64 rfl rfl (by omega)) ?_
      refine LM.val (ov_assign rfl) ?_
      refine LM.nil ?_
      refine QM.sub (e' := [(0, _), (3, _), (4, _)]) ⟨rfl, rfl, rfl, trivial⟩ ?_
      -- again1: h1+ h2-
      refine QM.againK (i + 1, ad2, n2, cap2, m2) ⟨(by first | rfl | exact lk rfl (by congr 1; omega) | exact lk rfl (by simp)), (by first | rfl | exact lk rfl (by congr 1; omega) | exact lk rfl (by simp)), rfl, trivial⟩ (by (repeat' (first | exact SubM.nil _ | refine SubM.cons rfl ?_ | refine SubM.app ?_))) (fun _ h => h) ?_ ?_
      · exact ⟨by omega, by rw [edN_succ, hle]; exact hn2, by rw [edN_succ, hle]; exact hs2⟩
      · first | omega | (dsimp only; omega)
  ·
    refine wpM.exit ?_
    refine QM.then_exit ?_
    refine QM.then_exit ?_
    refine QM.block_hit ?_
    refine QM.then ?_
    refine wpM.seq ?_
    refine wpM.region ?_
    refine LM.val (ov_move rfl) ?_
    refine LM.val (ov_assign rfl) ?_
    refine LM.nil ?_
    refine QM.sub (e' := [(2, _)]) ⟨rfl, trivial⟩ ?_
    refine QM.then ?_
    refine wpM.ret ?_
    refine QM.leave (.inl rfl) [.tmp 2] Tryd.results67 rfl ?_
    intro w' hm' hc' hg'
    -- leaf 1: h1-
    have hi64 : i = 64 := (by omega); subst hi64; exact ⟨hc', m, hs, hm'.pick m⟩

set_option maxRecDepth 100000 in
theorem rcyclic_spec {l : List Ed} {ad : Option Addr} {n cap : Nat} (w : World) (hn : n = l.length) (hl : Sr fEd 2 l (.slice ad n cap) w) (hx : l.length ≤ 1000000000000) : Ret Tryd.prog 53 #[.slice ad n cap] w (fun v w' => v = .bool (cycB l) ∧ Ext w w') := by
  refine Ret.enterM (l := [.slice ad n cap]) Tryd.func53 rfl Tryd.ntmps53 rfl ([]) (no) (Mem.nil w) ?_
  refine wpM.seq ?_
  refine wpM.region ?_
  refine LM.val (ov_assign rfl) ?_
  refine LM.nil ?_
  refine QM.sub (e' := [(0, _)]) ⟨rfl, trivial⟩ ?_
  refine QM.then ?_
  refine wpM.seq ?_
  refine wpM.region ?_
  refine LM.callT (oc_call (enters_fn Tryd.func44 (by kernel_rfl) rfl) rfl) NewRT.mono (fun w hm hc hg => rnew_spec w) ?_
  rintro u6 m6 ⟨br, adg, ng, capg, mg, rfl, rfl, hbr, hng, hsg⟩ -
  refine LM.val (ov_assign rfl) ?_
  refine LM.nil ?_
  refine QM.sub (e' := [(0, _), (3, _)]) ⟨rfl, rfl, trivial⟩ ?_
  refine QM.then ?_
  refine wpM.seq ?_
  refine wpM.seq ?_
  refine wpM.region ?_
  refine LM.val (ov_assign rfl) ?_
  refine LM.nil ?_
  refine QM.sub (e' := [(0, _), (3, _), (4, _)]) ⟨rfl, rfl, rfl, trivial⟩ ?_
  refine QM.then ?_
  refine wpM.block ?_
  refine wpM.loopK0 (α := Nat × Gr × Mem0) (fun ⟨i, G, m⟩ => [(4, .int .i64 (i : Nat))]) [(0, _), (3, _)] (fun ⟨i, G, m⟩ => rB br adg ng capg :: (m ++ [])) (fun ⟨i, G, m⟩ => i ≤ l.length ∧ G = unG (l.take i) ∧ Sl fU 23 1 w.heap.size G (.slice adg ng capg) m) (fun ⟨i, G, m⟩ => l.length - i) ((0, zeroG, mg)) ⟨(by first | rfl | exact lk rfl (by congr 1; omega) | exact lk rfl (by simp)), rfl, rfl, trivial⟩ (by (repeat' (first | exact SubM.nil _ | refine SubM.cons rfl ?_ | refine SubM.app ?_))) ⟨Nat.zero_le _, rfl, hsg⟩ ?_
  rintro ⟨i, G, m⟩ ⟨hi, hG, hsl⟩
  change wpM _ _ _ _ _ _ _ (rB br adg ng capg :: (m ++ [])) _ _ _
  have hlen : G.length = 64 := (by rw [hG]; exact unG_len _)
  refine wpM.seq ?_
  refine wpM.seq ?_
  refine wpM.region ?_
  refine LM.val (ov_move rfl) ?_
  refine LM.val (ov_move rfl) ?_
  refine LM.val (ov_len Tryd.underlying75 rfl) ?_
  refine LM.val (ov_lss rfl rfl) ?_
  refine LM.nil ?_
  refine QM.sub (e' := [(0, _), (3, _), (4, _), (10, _)]) ⟨rfl, rfl, rfl, rfl, trivial⟩ ?_
  refine QM.then ?_
  first | refine wpM.condD rfl (fun h1 => ?_) (fun h1 => ?_) | refine wpM.condB rfl (fun h1 => ?_) (fun h1 => ?_)
  ·
    refine wpM.skip ?_
    refine QM.then ?_
    refine wpM.seq ?_
    refine wpM.block ?_
    refine wpM.seq ?_
    refine wpM.region ?_
    refine LM.val (ov_move rfl) ?_
    refine LM.val (ov_move rfl) ?_
    first | refine LM.val (ov_idxSN (by first | exact Sr.spt (by assumption) | exact Sl.spt (by assumption)) Tryd.underlying75 Tryd.sizeOf80 rfl rfl (by omega)) ?_ | refine LM.val (ov_idxS (by first | exact Sr.spt (by assumption) | exact Sl.spt (by assumption)) Tryd.underlying75 Tryd.sizeOf80 rfl rfl (by omega)) ?_ | refine LM.val (ov_idx Tryd.underlying75 Tryd.sizeOf80 rfl rfl (by omega)) ?_
    refine LM.val (ov_field Tryd.underlying80 rfl Tryd.sizeOf3 rfl (k := 0) rfl rfl) ?_
    first | refine LM.rd (om_slE (j := 0) (by assumption) (by intro _; rfl) Tryd.isAgg3 rfl rfl (by exact getq default (by first | omega | (simp only [List.length_set, List.length_append, List.length_cons, List.length_nil]; omega))) rfl (by rfl)) ?_ | refine LM.rdC (om_srE (j := 0) (by assumption) Tryd.isAgg3 rfl rfl (by exact getq default (by first | omega | (simp only [List.length_set, List.length_append, List.length_cons, List.length_nil]; omega))) (by rfl) (by rfl) id) ?_ | refine LM.rd (om_ld Tryd.isAgg3 rfl rfl) ?_
    refine LM.callE (oc_call (enters_fn Tryd.func47 (by kernel_rfl) rfl) rfl) (fun w hm hc hg => ris_spec _ w) ?_
    refine LM.val (ov_move rfl) ?_
    first | refine LM.splitD (t := 19) rfl (fun h2 => ?_) (fun h2 => ?_) | refine LM.splitB (t := 19) rfl (fun h2 => ?_) (fun h2 => ?_)
    ·
      refine LM.strip (t := 19) rfl rfl rfl ?_
      refine LM.val (ov_move rfl) ?_
      refine LM.strip (t := 19) rfl rfl rfl ?_
      refine LM.val (ov_move rfl) ?_
      refine LM.strip (t := 19) rfl rfl rfl ?_
      first | refine LM.val (ov_idxSN (by first | exact Sr.spt (by assumption) | exact Sl.spt (by assumption)) Tryd.underlying75 Tryd.sizeOf80 rfl rfl (by omega)) ?_ | refine LM.val (ov_idxS (by first | exact Sr.spt (by assumption) | exact Sl.spt (by assumption)) Tryd.underlying75 Tryd.sizeOf80 rfl rfl (by omega)) ?_ | refine LM.val (ov_idx Tryd.underlying75 Tryd.sizeOf80 rfl rfl (by omega)) ?_
      refine LM.strip (t := 19) rfl rfl rfl ?_
      refine LM.val (ov_field Tryd.underlying80 rfl Tryd.sizeOf3 rfl (k := 1) rfl rfl) ?_
      refine LM.strip (t := 19) rfl rfl rfl ?_
      first | refine LM.rd (om_slE (j := 1) (by assumption) (by intro _; rfl) Tryd.isAgg3 rfl rfl (by exact getq default (by first | omega | (simp only [List.length_set, List.length_append, List.length_cons, List.length_nil]; omega))) rfl (by rfl)) ?_ | refine LM.rdC (om_srE (j := 1) (by assumption) Tryd.isAgg3 rfl rfl (by exact getq default (by first | omega | (simp only [List.length_set, List.length_append, List.length_cons, List.length_nil]; omega))) (by rfl) (by rfl) id) ?_ | refine LM.rd (om_ld Tryd.isAgg3 rfl rfl) ?_
      refine LM.strip (t := 19) rfl rfl rfl ?_
      refine LM.callE (oc_call (enters_fn Tryd.func47 (by kernel_rfl) rfl) rfl) (fun w hm hc hg => ris_spec _ w) ?_
      refine LM.val (ov_pickT rfl rfl) ?_
      refine LM.nil ?_
      refine QM.sub (e' := [(0, _), (3, _), (4, _), (26, _)]) ⟨rfl, rfl, rfl, rfl, trivial⟩ ?_
      refine QM.then ?_
      first | refine wpM.condD rfl (fun h3 => ?_) (fun h3 => ?_) | refine wpM.condB rfl (fun h3 => ?_) (fun h3 => ?_)
      ·
        have hwi := inG_iff.1 h2; have hti := inG_iff.1 h3
        refine wpM.draw [(0, 0), (1, 0), (2, 0), (3, 1), (4, 0), (5, 0), (6, 0), (7, 0), (8, 1), (9, 0), (10, 0), (11, 0), (12, 1), (13, 0), (14, 0), (15, 0), (16, 0), (17, 1), (18, 0), (19, 1), (20, 0), (21, 0), (22, 0), (23, 0), (24, 1), (25, 2), (26, 0), (27, 3)] (by kernel_rfl) (by kernel_rfl) ?_
        refine LD.val rfl rfl (ov_move rfl) ?_
        refine LD.val rfl rfl (ov_nilCheck rfl) ?_
        refine LD.val rfl rfl (ov_field Tryd.underlying72 rfl Tryd.sizeOf70 rfl (k := 0) rfl rfl) ?_
        first | refine LD.rd rfl rfl (om_ld Tryd.isAgg70 rfl rfl) ?_
        refine LD.val rfl rfl (ov_move rfl) ?_
        refine LD.val rfl rfl (ov_move rfl) ?_
        first | refine LD.val rfl rfl (ov_idxSN (by first | exact Sr.spt (by assumption) | exact Sl.spt (by assumption)) Tryd.underlying75 Tryd.sizeOf80 rfl rfl (by omega)) ?_ | refine LD.val rfl rfl (ov_idxS (by first | exact Sr.spt (by assumption) | exact Sl.spt (by assumption)) Tryd.underlying75 Tryd.sizeOf80 rfl rfl (by omega)) ?_ | refine LD.val rfl rfl (ov_idx Tryd.underlying75 Tryd.sizeOf80 rfl rfl (by omega)) ?_
        refine LD.val rfl rfl (ov_field Tryd.underlying80 rfl Tryd.sizeOf3 rfl (k := 0) rfl rfl) ?_
        first | refine LD.rd rfl rfl (om_slE (j := 0) (by assumption) (by intro _; rfl) Tryd.isAgg3 rfl rfl (by exact getq default (by first | omega | (simp only [List.length_set, List.length_append, List.length_cons, List.length_nil]; omega))) rfl (by rfl)) ?_ | refine LD.rdC rfl rfl (om_srE (j := 0) (by assumption) Tryd.isAgg3 rfl rfl (by exact getq default (by first | omega | (simp only [List.length_set, List.length_append, List.length_cons, List.length_nil]; omega))) (by rfl) (by rfl) id) ?_ | refine LD.rd rfl rfl (om_ld Tryd.isAgg3 rfl rfl) ?_
        refine LD.val rfl rfl (ov_move rfl) ?_
        refine LD.val rfl rfl (ov_nilCheck rfl) ?_
        refine LD.val rfl rfl (ov_field Tryd.underlying72 rfl Tryd.sizeOf70 rfl (k := 0) rfl rfl) ?_
        first | refine LD.rd rfl rfl (om_ld Tryd.isAgg70 rfl rfl) ?_
        refine LD.val rfl rfl (ov_move rfl) ?_
        refine LD.val rfl rfl (ov_move rfl) ?_
        first | refine LD.val rfl rfl (ov_idxSN (by first | exact Sr.spt (by assumption) | exact Sl.spt (by assumption)) Tryd.underlying75 Tryd.sizeOf80 rfl rfl (by omega)) ?_ | refine LD.val rfl rfl (ov_idxS (by first | exact Sr.spt (by assumption) | exact Sl.spt (by assumption)) Tryd.underlying75 Tryd.sizeOf80 rfl rfl (by omega)) ?_ | refine LD.val rfl rfl (ov_idx Tryd.underlying75 Tryd.sizeOf80 rfl rfl (by omega)) ?_
        refine LD.val rfl rfl (ov_field Tryd.underlying80 rfl Tryd.sizeOf3 rfl (k := 0) rfl rfl) ?_
        first | refine LD.rd rfl rfl (om_slE (j := 0) (by assumption) (by intro _; rfl) Tryd.isAgg3 rfl rfl (by exact getq default (by first | omega | (simp only [List.length_set, List.length_append, List.length_cons, List.length_nil]; omega))) rfl (by rfl)) ?_ | refine LD.rdC rfl rfl (om_srE (j := 0) (by assumption) Tryd.isAgg3 rfl rfl (by exact getq default (by first | omega | (simp only [List.length_set, List.length_append, List.length_cons, List.length_nil]; omega))) (by rfl) (by rfl) id) ?_ | refine LD.rd rfl rfl (om_ld Tryd.isAgg3 rfl rfl) ?_
        first | refine LD.val rfl rfl (ov_idxSN (by first | exact Sr.spt (by assumption) | exact Sl.spt (by assumption)) Tryd.underlying70 Tryd.sizeOf23 rfl rfl (by omega)) ?_ | refine LD.val rfl rfl (ov_idxS (by first | exact Sr.spt (by assumption) | exact Sl.spt (by assumption)) Tryd.underlying70 Tryd.sizeOf23 rfl rfl (by omega)) ?_ | refine LD.val rfl rfl (ov_idx1 Tryd.underlying70 Tryd.sizeOf23 rfl rfl (by omega)) ?_
        first | refine LD.rd rfl rfl (om_sl1 (by assumption) (by intro _; rfl) Tryd.isAgg23 rfl rfl (by exact getq 0#64 (by first | omega | (simp only [List.length_set, List.length_append, List.length_cons, List.length_nil]; omega))) (by rfl)) ?_ | refine LD.rdC rfl rfl (om_sr1 (by assumption) Tryd.isAgg23 rfl rfl (by exact getq 0#64 (by first | omega | (simp only [List.length_set, List.length_append, List.length_cons, List.length_nil]; omega))) (by rfl) id) ?_ | refine LD.rd rfl rfl (om_ld Tryd.isAgg23 rfl rfl) ?_
        refine LD.val rfl rfl (ov_move rfl) ?_
        refine LD.val rfl rfl (ov_move rfl) ?_
        first | refine LD.val rfl rfl (ov_idxSN (by first | exact Sr.spt (by assumption) | exact Sl.spt (by assumption)) Tryd.underlying75 Tryd.sizeOf80 rfl rfl (by omega)) ?_ | refine LD.val rfl rfl (ov_idxS (by first | exact Sr.spt (by assumption) | exact Sl.spt (by assumption)) Tryd.underlying75 Tryd.sizeOf80 rfl rfl (by omega)) ?_ | refine LD.val rfl rfl (ov_idx Tryd.underlying75 Tryd.sizeOf80 rfl rfl (by omega)) ?_
        refine LD.val rfl rfl (ov_field Tryd.underlying80 rfl Tryd.sizeOf3 rfl (k := 1) rfl rfl) ?_
        first | refine LD.rd rfl rfl (om_slE (j := 1) (by assumption) (by intro _; rfl) Tryd.isAgg3 rfl rfl (by exact getq default (by first | omega | (simp only [List.length_set, List.length_append, List.length_cons, List.length_nil]; omega))) rfl (by rfl)) ?_ | refine LD.rdC rfl rfl (om_srE (j := 1) (by assumption) Tryd.isAgg3 rfl rfl (by exact getq default (by first | omega | (simp only [List.length_set, List.length_append, List.length_cons, List.length_nil]; omega))) (by rfl) (by rfl) id) ?_ | refine LD.rd rfl rfl (om_ld Tryd.isAgg3 rfl rfl) ?_
        refine LD.callE rfl rfl (oc_call (enters_fn Tryd.func15 (by kernel_rfl) rfl) rfl) (fun w hm hc hg => rwith_spec _ _ w) ?_
        first | refine LD.val rfl rfl (ov_idxSN (by first | exact Sr.spt (by assumption) | exact Sl.spt (by assumption)) Tryd.underlying70 Tryd.sizeOf23 rfl rfl (by omega)) ?_ | refine LD.val rfl rfl (ov_idxS (by first | exact Sr.spt (by assumption) | exact Sl.spt (by assumption)) Tryd.underlying70 Tryd.sizeOf23 rfl rfl (by omega)) ?_ | refine LD.val rfl rfl (ov_idx1 Tryd.underlying70 Tryd.sizeOf23 rfl rfl (by omega)) ?_
        refine LD.tail rfl rfl ?_
        refine LM.stS _ (j := 0) (by assumption) (by intro _; rfl) Tryd.sizeOf23 rfl rfl rfl (by exact getq 0#64 (by first | omega | (simp only [List.length_set, List.length_append, List.length_cons, List.length_nil]; omega))) rfl (by decide) (by rfl) rfl (fun p hp hlt => absurd hlt (Nat.not_lt_of_le (Sl.ge (by assumption) p hp))) (fun ms hss hmm => ?_)
        refine LM.nil ?_
        refine QM.qn ?_
        refine QM.sub (e' := [(0, _), (3, _), (4, _)]) ⟨rfl, rfl, rfl, trivial⟩ ?_
        refine QM.block_normal ?_
        refine QM.then ?_
        refine wpM.region ?_
        refine LM.val (ov_move rfl) ?_
        refine LM.val (ov_add64 rfl rfl (by omega)) ?_
        refine LM.val (ov_assign rfl) ?_
        refine LM.nil ?_
        refine QM.sub (e' := [(0, _), (3, _), (4, _)]) ⟨rfl, rfl, rfl, trivial⟩ ?_
        -- again1: h1+ h2+ h3+
        refine QM.againK (i + 1, unS G (l.getD i default), ms) ⟨(by first | rfl | exact lk rfl (by congr 1; omega) | exact lk rfl (by simp)), rfl, rfl, trivial⟩ (by (repeat' (first | exact SubM.nil _ | refine SubM.cons rfl ?_ | refine SubM.app ?_))) (fun _ h => h) ?_ ?_
        · exact ⟨by omega, by rw [hG]; exact (take_fold unS zeroG default (by omega)).symm, by unfold unS; rw [if_pos (by rw [h2, h3]; rfl)]; exact hss⟩
        · first | omega | (dsimp only; omega)
      ·
        refine wpM.skip ?_
        refine QM.block_normal ?_
        refine QM.then ?_
        refine wpM.region ?_
        refine LM.val (ov_move rfl) ?_
        refine LM.val (ov_add64 rfl rfl (by omega)) ?_
        refine LM.val (ov_assign rfl) ?_
        refine LM.nil ?_
        refine QM.sub (e' := [(0, _), (3, _), (4, _)]) ⟨rfl, rfl, rfl, trivial⟩ ?_
        -- again2: h1+ h2+ h3-
        refine QM.againK (i + 1, G, m) ⟨(by first | rfl | exact lk rfl (by congr 1; omega) | exact lk rfl (by simp)), rfl, rfl, trivial⟩ (by (repeat' (first | exact SubM.nil _ | refine SubM.cons rfl ?_ | refine SubM.app ?_))) (fun _ h => h) ?_ ?_
        · exact ⟨by omega, by have e := take_fold unS zeroG default (l := l) (i := i) (by omega); rw [show unG (l.take (i + 1)) = unS (unG (l.take i)) (l.getD i default) from e, ← hG]; unfold unS; rw [if_neg (by first | (rw [h2, h3]; simp; done) | (rw [h2]; simp; done))], hsl⟩
        · first | omega | (dsimp only; omega)
    ·
      refine LM.drop (t := 19) rfl rfl rfl ?_
      refine LM.drop (t := 19) rfl rfl rfl ?_
      refine LM.drop (t := 19) rfl rfl rfl ?_
      refine LM.drop (t := 19) rfl rfl rfl ?_
      refine LM.drop (t := 19) rfl rfl rfl ?_
      refine LM.drop (t := 19) rfl rfl rfl ?_
      refine LM.val (ov_pickF rfl rfl) ?_
      refine LM.nil ?_
      refine QM.sub (e' := [(0, _), (3, _), (4, _), (26, _)]) ⟨rfl, rfl, rfl, rfl, trivial⟩ ?_
      refine QM.then ?_
      refine wpM.condF rfl ?_
      refine wpM.skip ?_
      refine QM.block_normal ?_
      refine QM.then ?_
      refine wpM.region ?_
      refine LM.val (ov_move rfl) ?_
      refine LM.val (ov_add64 rfl rfl (by omega)) ?_
      refine LM.val (ov_assign rfl) ?_
      refine LM.nil ?_
      refine QM.sub (e' := [(0, _), (3, _), (4, _)]) ⟨rfl, rfl, rfl, trivial⟩ ?_
      -- again3: h1+ h2-
      refine QM.againK (i + 1, G, m) ⟨(by first | rfl | exact lk rfl (by congr 1; omega) | exact lk rfl (by simp)), rfl, rfl, trivial⟩ (by (repeat' (first | exact SubM.nil _ | refine SubM.cons rfl ?_ | refine SubM.app ?_))) (fun _ h => h) ?_ ?_
      · exact ⟨by omega, by have e := take_fold unS zeroG default (l := l) (i := i) (by omega); rw [show unG (l.take (i + 1)) = unS (unG (l.take i)) (l.getD i default) from e, ← hG]; unfold unS; rw [if_neg (by first | (rw [h2, h3]; simp; done) | (rw [h2]; simp; done))], hsl⟩
      · first | omega | (dsimp only; omega)
  ·
    rw [List.take_of_length_le (by omega)] at hG
    refine wpM.exit ?_
    refine QM.then_exit ?_
    refine QM.then_exit ?_
    refine QM.block_hit ?_
    refine QM.then ?_
    refine wpM.seq ?_
    refine wpM.seq ?_
    refine wpM.region ?_
    refine LM.val (ov_assign rfl) ?_
    refine LM.nil ?_
    refine QM.sub (e' := [(3, _), (5, _)]) ⟨rfl, rfl, trivial⟩ ?_
    refine QM.then ?_
    refine wpM.block ?_
    refine wpM.loopK0 (α := Nat) (fun i2 => [(5, .int .i64 (i2 : Nat))]) [(3, _)] (fun i2 => rB br adg ng capg :: (m ++ [])) (fun i2 => i2 ≤ 64 ∧ ∀ j, j < i2 → hasB (ovr G (ot G j)) (j : Nat) = false) (fun i2 => 64 - i2) (0) ⟨(by first | rfl | exact lk rfl (by congr 1; omega) | exact lk rfl (by simp)), rfl, trivial⟩ (by (repeat' (first | exact SubM.nil _ | refine SubM.cons rfl ?_ | refine SubM.app ?_))) ⟨Nat.zero_le _, fun j hj => by omega⟩ ?_
    rintro i2 ⟨hi2, hnc⟩
    change wpM _ _ _ _ _ _ _ (rB br adg ng capg :: (m ++ [])) _ _ _
    refine wpM.seq ?_
    refine wpM.seq ?_
    refine wpM.region ?_
    refine LM.val (ov_move rfl) ?_
    refine LM.val (ov_lss rfl rfl) ?_
    refine LM.nil ?_
    refine QM.sub (e' := [(3, _), (5, _), (55, _)]) ⟨rfl, rfl, rfl, trivial⟩ ?_
    refine QM.then ?_
    first | refine wpM.condD rfl (fun h4 => ?_) (fun h4 => ?_) | refine wpM.condB rfl (fun h4 => ?_) (fun h4 => ?_)
    ·
      refine wpM.skip ?_
      refine QM.then ?_
      refine wpM.seq ?_
      refine wpM.block ?_
      refine wpM.seq ?_
      refine wpM.region ?_
      refine LM.val (ov_move rfl) ?_
      refine LM.val (ov_move rfl) ?_
      refine LM.callE (oc_call (enters_fn Tryd.func49 (by kernel_rfl) rfl) rfl) (fun w hm hc hg => rreach_spec br _ w (by rw [hG]; exact unG_len _) hng hsl hm) ?_
      refine LM.val (ov_move rfl) ?_
      refine LM.callE (oc_call (enters_fn Tryd.func20 (by kernel_rfl) rfl) rfl) (fun w hm hc hg => rhas_spec _ _ w) ?_
      refine LM.nil ?_
      refine QM.sub (e' := [(3, _), (5, _), (62, _)]) ⟨rfl, rfl, rfl, trivial⟩ ?_
      refine QM.then ?_
      first | refine wpM.condD rfl (fun h5 => ?_) (fun h5 => ?_) | refine wpM.condB rfl (fun h5 => ?_) (fun h5 => ?_)
      ·
        refine wpM.seq ?_
        refine wpM.region ?_
        refine LM.val (ov_assign rfl) ?_
        refine LM.nil ?_
        refine QM.sub (e' := [(2, _)]) ⟨rfl, trivial⟩ ?_
        refine QM.then ?_
        refine wpM.ret ?_
        refine QM.block_ret ?_
        refine QM.then_ret ?_
        refine QM.then_ret ?_
        refine QM.block_ret ?_
        refine QM.then_ret ?_
        refine QM.leave (.inl rfl) [.tmp 2] Tryd.results53 rfl ?_
        intro w' hm' hc' hg'
        -- leaf 1: h1- h4+ h5+
        refine ⟨?_, hc'⟩; simp only [resV]; rw [(cycB_iff l).2 ⟨i2, (ovr_iff _ _ _).1 (by rw [← hG, ← beh_3 (by omega)]; exact h5)⟩]
      ·
        refine wpM.skip ?_
        refine QM.block_normal ?_
        refine QM.then ?_
        refine wpM.region ?_
        refine LM.val (ov_move rfl) ?_
        refine LM.val (ov_add64 rfl rfl (by omega)) ?_
        refine LM.val (ov_assign rfl) ?_
        refine LM.nil ?_
        refine QM.sub (e' := [(3, _), (5, _)]) ⟨rfl, rfl, trivial⟩ ?_
        -- again1: h1- h4+ h5-
        refine QM.againK (i2 + 1) ⟨(by first | rfl | exact lk rfl (by congr 1; omega) | exact lk rfl (by simp)), rfl, trivial⟩ (by (repeat' (first | exact SubM.nil _ | refine SubM.cons rfl ?_ | refine SubM.app ?_))) (fun _ h => h) ?_ ?_
        · exact ⟨by omega, fun j hj => by by_cases e : j = i2; (subst e; rw [beh_3 (by omega)] at h5; exact h5); exact hnc j (by omega)⟩
        · first | omega | (dsimp only; omega)
    ·
      refine wpM.exit ?_
      refine QM.then_exit ?_
      refine QM.then_exit ?_
      refine QM.block_hit ?_
      refine QM.then ?_
      refine wpM.seq ?_
      refine wpM.region ?_
      refine LM.val (ov_assign rfl) ?_
      refine LM.nil ?_
      refine QM.sub (e' := [(2, _)]) ⟨rfl, trivial⟩ ?_
      refine QM.then ?_
      refine wpM.ret ?_
      refine QM.leave (.inl rfl) [.tmp 2] Tryd.results53 rfl ?_
      intro w' hm' hc' hg'
      -- leaf 2: h1- h4-
      refine ⟨?_, hc'⟩; simp only [resV]; rw [cycB_none (by rw [← hG]; intro j hj; exact hnc j (by omega))]

end Go.Eng

