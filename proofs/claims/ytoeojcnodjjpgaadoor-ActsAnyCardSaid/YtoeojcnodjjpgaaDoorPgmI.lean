/- The walks of the document's words of a program, and of its text; the ops are gone over; ProgBack. No condition. -/
import Derived.Test.YtoeojcnodjjpgaaDoorPgmJ
import Derived.Test.YtoeojcnodjjpgaaDoorPgmH
import Derived.Test.YtoeojcnodjjpgaaDoorTokC
set_option linter.unusedVariables false
set_option linter.unusedSimpArgs false
namespace Go.Eng
open Go Go.Proofs Go.RowKit

abbrev iB (b : Nat) (x : Int) : Nat × Obj := (b, .cells #[.int .i64 x] 3 (0, 0))
abbrev bB (b : Nat) (x : Bool) : Nat × Obj := (b, .cells #[.bool x] 4 (0, 0))
def EachT (fv : Bool) (ad : Option Addr) (n cap : Nat) (n0 : Nat) (v : Value) (m : Mem0) : Prop := ∃ b1, v = .func (.func 73) #[] #[.pointer (some ⟨b1, 0, none⟩)] ∧ m = [pB b1 fv ad n cap] ∧ n0 ≤ b1
theorem EachT.mono {fv : Bool} {ad : Option Addr} {n cap : Nat} : ∀ (k k' : Nat) u m, k' ≤ k → EachT fv ad n cap k u m → EachT fv ad n cap k' u m := fun k k' u m h ⟨b1, h1, h2, h3⟩ => ⟨b1, h1, h2, by omega⟩
theorem words_err (fv : Bool) (xs : List COp) : (wordsO fv xs).2 = 0 ↔ (printO fv xs).2 = 0 := by
  rw [print_err]; unfold wordsO; split
  · rename_i h; exact ⟨fun _ => h, fun _ => rfl⟩
  · rename_i h; exact ⟨fun q => (by cases q), fun q => absurd q h⟩
theorem words_err2 (fv : Bool) (xs : List COp) : (wordsO fv xs).2 = (printO fv xs).2 := by
  have h := print_err fv xs
  unfold wordsO; split
  · rename_i q; exact (h.2 q).symm
  · rename_i q; unfold printO; rw [if_neg q]
theorem words_two (fv : Bool) (xs : List COp) : (wordsO fv xs).2 = 0 ∨ (wordsO fv xs).2 = 1 := by unfold wordsO; split <;> simp
theorem low5 {k : Int} : (k = 5) ↔ loB k ≠ -1 := by unfold loB; split <;> simp_all
set_option maxRecDepth 100000 in
set_option maxHeartbeats 1000000 in
theorem rwords_spec {xs : List COp} {fv : Bool} {ad : Option Addr} {n cap : Nat} (w : World) (hn : n = xs.length) (hl : Sr fO 3 xs (.slice ad n cap) w) (hxl : xs.length ≤ 1000000) : Ret Tryd.prog 37 #[pV fv ad n cap] w (New fW 72 4 (wordsF fv xs) w) := by
  refine Ret.enterM (l := [pV fv ad n cap]) Tryd.func37 rfl Tryd.ntmps37 rfl ([]) (no) (Mem.nil w) ?_
  refine wpM.seq ?_
  refine wpM.region ?_
  refine LM.box rfl rfl (fun b1 hb1 => ?_)
  refine LM.val (ov_assign rfl) ?_
  refine LM.nil ?_
  refine QM.sub (e' := [(1, _)]) ⟨rfl, trivial⟩ ?_
  refine QM.then ?_
  refine wpM.seq ?_
  refine wpM.region ?_
  refine LM.val (ov_build (cs := #[_, _, _, _]) rfl (by first | rfl | kernel_rfl)) ?_
  refine LM.single Tryd.underlying24 Tryd.sizeOf72 Tryd.zeroValue72 rfl rfl rfl rfl rfl (fun b9 hb9 => ?_)
  refine LM.val (ov_assign rfl) ?_
  refine LM.nil ?_
  refine QM.sub (e' := [(1, _), (3, _)]) ⟨rfl, rfl, trivial⟩ ?_
  refine QM.then ?_
  refine wpM.seq ?_
  refine wpM.seq ?_
  refine wpM.region ?_
  have hlen13 : [(⟨1, wProg, 0, 0⟩ : Wrd)].length = 1 := rfl; change LM _ _ _ _ _ _ _ _ ((b9, Obj.cells (arr fW [(⟨1, wProg, 0, 0⟩ : Wrd)] []) 72 (0, 0)) :: _) _ _ _; have hs13 : Sl fW 72 4 w.heap.size [(⟨1, wProg, 0, 0⟩ : Wrd)] (.slice (some ⟨b9, 0, none⟩) 1 1) [(b9, .cells (arr fW [(⟨1, wProg, 0, 0⟩ : Wrd)] []) 72 (0, 0))] := .inr ⟨b9, 1, [], hb9, rfl, rfl, by decide, by unfold maxLen; decide, rfl⟩
  refine LM.val (ov_field Tryd.underlying53 rfl Tryd.sizeOf4 rfl (k := 0) rfl rfl) ?_
  first | refine LM.rd (om_ld Tryd.isAgg4 rfl rfl) ?_
  refine LM.nil ?_
  refine QM.sub (e' := [(1, _), (3, _), (11, _)]) ⟨rfl, rfl, rfl, trivial⟩ ?_
  refine QM.then ?_
  refine wpM.joinK (α := List Wrd × Option Addr × Nat × Nat × Mem0) (fun ⟨l0, ad0, n0, cap0, m0⟩ => [(3, .slice ad0 n0 cap0)]) [(1, _)] (fun ⟨l0, ad0, n0, cap0, m0⟩ => m0 ++ (pB b1 fv ad n cap :: [])) (fun ⟨l0, ad0, n0, cap0, m0⟩ => l0.length ≤ 2 ∧ l0 = ⟨1, wProg, 0, 0⟩ :: (if fv then [⟨1, wForever, 0, 0⟩] else []) ∧ n0 = l0.length ∧ Sl fW 72 4 w.heap.size l0 (.slice ad0 n0 cap0) m0) ⟨rfl, trivial⟩ ?_ ?_
  ·
    first | refine wpM.condD rfl (fun h1 => ?_) (fun h1 => ?_) | refine wpM.condB rfl (fun h1 => ?_) (fun h1 => ?_)
    ·
      refine wpM.region ?_
      refine LM.val (ov_move rfl) ?_
      refine LM.val (ov_build (cs := #[_, _, _, _]) rfl (by first | rfl | kernel_rfl)) ?_
      refine LM.single Tryd.underlying24 Tryd.sizeOf72 Tryd.zeroValue72 rfl rfl rfl rfl rfl (fun b14 hb14 => ?_)
      refine LM.app (a := (⟨1, wForever, 0, 0⟩ : Wrd)) Tryd.underlying24 Tryd.typeInfo72 rfl rfl rfl rfl rfl rfl rfl (by assumption) (by rfl) (by intro _; rfl) (by intro _ u hu; simp [fW] at hu; (repeat (first | (rcases hu with rfl | hu) | subst hu | rfl))) (by first | exact Nat.le_refl _ | omega) (fun p hp hlt => absurd hlt (Nat.not_lt_of_le (Sl.ge (by assumption) p hp))) (by first | omega | (unfold maxLen; omega)) (by simp only [Tryd.t72]; omega) (fun ad15 n15 cap15 m15 hn15 hs15 hin15 => ?_)
      refine LM.val (ov_assign rfl) ?_
      refine LM.nil ?_
      refine QM.sub (e' := [(1, _), (3, _)]) ⟨rfl, rfl, trivial⟩ ?_
      -- meet1: h1+
      refine QM.meetK (([(⟨1, wProg, 0, 0⟩ : Wrd)] ++ [⟨1, wForever, 0, 0⟩], ad15, n15, cap15, m15)) ⟨(by first | rfl | exact lk rfl (by congr 1; omega) | exact lk rfl (by simp)), rfl, trivial⟩ (by (repeat' (first | exact SubM.nil _ | refine SubM.cons rfl ?_ | refine SubM.app ?_))) ?_
      · exact ⟨by simp, by rw [if_pos h1]; rfl, by rw [hn15]; rfl, hs15⟩
    ·
      refine wpM.skip ?_
      -- meet2: h1-
      refine QM.meetK (([(⟨1, wProg, 0, 0⟩ : Wrd)], some ⟨b9, 0, none⟩, 1, 1, [(b9, .cells (arr fW [(⟨1, wProg, 0, 0⟩ : Wrd)] []) 72 (0, 0))])) ⟨(by first | rfl | exact lk rfl (by congr 1; omega) | exact lk rfl (by simp)), rfl, trivial⟩ (by (repeat' (first | exact SubM.nil _ | refine SubM.cons rfl ?_ | refine SubM.app ?_))) ?_
      · exact ⟨by decide, by rw [if_neg (by rw [h1]; simp)], rfl, hs13⟩
  ·
    rintro ⟨l0, ad0, n0, cap0, m0⟩ ⟨hz0, hl0, hn0, hs0⟩
    change QM _ _ _ _ _ (m0 ++ (pB b1 fv ad n cap :: [])) _ _ _
    refine QM.then ?_
    refine wpM.seq ?_
    refine wpM.region ?_
    refine LM.val (ov_move rfl) ?_
    refine LM.val (ov_build (cs := #[_, _, _, _]) rfl (by first | rfl | kernel_rfl)) ?_
    refine LM.single Tryd.underlying24 Tryd.sizeOf72 Tryd.zeroValue72 rfl rfl rfl rfl rfl (fun b18 hb18 => ?_)
    refine LM.app (a := mk3 [123]) Tryd.underlying24 Tryd.typeInfo72 rfl rfl rfl rfl rfl rfl rfl (by assumption) (by rfl) (by intro _; rfl) (by intro _ u hu; simp [fW] at hu; (repeat (first | (rcases hu with rfl | hu) | subst hu | rfl))) (by first | exact Nat.le_refl _ | omega) (fun p hp hlt => absurd hlt (Nat.not_lt_of_le (Sl.ge (by assumption) p hp))) (by first | omega | (unfold maxLen; omega)) (by simp only [Tryd.t72]; omega) (fun ad19 n19 cap19 m19 hn19 hs19 hin19 => ?_)
    refine LM.val (ov_assign rfl) ?_
    refine LM.nil ?_
    refine QM.sub (e' := [(1, _), (3, _)]) ⟨rfl, rfl, trivial⟩ ?_
    refine QM.then ?_
    refine wpM.seq ?_
    refine wpM.seq ?_
    refine wpM.region ?_
    refine LM.val (ov_assign rfl) ?_
    refine LM.nil ?_
    refine QM.sub (e' := [(1, _), (3, _), (4, _)]) ⟨rfl, rfl, rfl, trivial⟩ ?_
    refine QM.then ?_
    refine wpM.block ?_
    refine wpM.loopK0 (α := Nat × List Wrd × Option Addr × Nat × Nat × Mem0) (fun ⟨i, l1, ad1, n1, cap1, m1⟩ => [(3, .slice ad1 n1 cap1), (4, .int .i64 (i : Nat))]) [(1, _)] (fun ⟨i, l1, ad1, n1, cap1, m1⟩ => m1 ++ (pB b1 fv ad n cap :: [])) (fun ⟨i, l1, ad1, n1, cap1, m1⟩ => i ≤ xs.length ∧ l1.length ≤ 3 + 4 * i ∧ l1 = l0 ++ [mk3 [123]] ++ (xs.take i).flatMap opW ∧ n1 = l1.length ∧ Sl fW 72 4 w.heap.size l1 (.slice ad1 n1 cap1) m1) (fun ⟨i, l1, ad1, n1, cap1, m1⟩ => xs.length - i) ((0, l0 ++ [mk3 [123]], ad19, n19, cap19, m19)) ⟨(by first | rfl | exact lk rfl (by congr 1; omega) | exact lk rfl (by simp)), (by first | rfl | exact lk rfl (by congr 1; omega) | exact lk rfl (by simp)), rfl, trivial⟩ (by (repeat' (first | exact SubM.nil _ | refine SubM.cons rfl ?_ | refine SubM.app ?_))) ⟨Nat.zero_le _, by simp; omega, by simp, by rw [hn19]; simp, hs19⟩ ?_
    rintro ⟨i, l1, ad1, n1, cap1, m1⟩ ⟨hi, hz1, hl1, hn1, hs1⟩
    change wpM _ _ _ _ _ _ _ (m1 ++ (pB b1 fv ad n cap :: [])) _ _ _
    refine wpM.seq ?_
    refine wpM.seq ?_
    refine wpM.region ?_
    refine LM.val (ov_move rfl) ?_
    refine LM.val (ov_field Tryd.underlying53 rfl Tryd.sizeOf51 rfl (k := 1) rfl rfl) ?_
    first | refine LM.rd (om_ld Tryd.isAgg51 rfl rfl) ?_
    refine LM.val (ov_len Tryd.underlying51 rfl) ?_
    refine LM.val (ov_lss rfl rfl) ?_
    refine LM.nil ?_
    refine QM.sub (e' := [(1, _), (3, _), (4, _), (24, _)]) ⟨rfl, rfl, rfl, rfl, trivial⟩ ?_
    refine QM.then ?_
    first | refine wpM.condD rfl (fun h2 => ?_) (fun h2 => ?_) | refine wpM.condB rfl (fun h2 => ?_) (fun h2 => ?_)
    ·
      refine wpM.skip ?_
      refine QM.then ?_
      refine wpM.seq ?_
      refine wpM.block ?_
      refine wpM.seq ?_
      refine wpM.region ?_
      refine LM.val (ov_field Tryd.underlying53 rfl Tryd.sizeOf51 rfl (k := 1) rfl rfl) ?_
      first | refine LM.rd (om_ld Tryd.isAgg51 rfl rfl) ?_
      refine LM.val (ov_move rfl) ?_
      first | refine LM.val (ov_idxSN (by first | exact Sr.spt (by assumption) | exact Sl.spt (by assumption)) Tryd.underlying51 Tryd.sizeOf69 rfl rfl (by omega)) ?_ | refine LM.val (ov_idxS (by first | exact Sr.spt (by assumption) | exact Sl.spt (by assumption)) Tryd.underlying51 Tryd.sizeOf69 rfl rfl (by omega)) ?_ | refine LM.val (ov_idx Tryd.underlying51 Tryd.sizeOf69 rfl rfl (by omega)) ?_
      first | refine LM.rd (om_slA (by assumption) (by intro _; rfl) Tryd.isAgg69 Tryd.sizeOf69 rfl (by exact getq default (by first | omega | (simp only [List.length_set, List.length_append, List.length_cons, List.length_nil]; omega)))) ?_ | refine LM.rdC (om_srEA (by assumption) (by intro _; rfl) Tryd.isAgg69 Tryd.sizeOf69 rfl (by exact getq default (by first | omega | (simp only [List.length_set, List.length_append, List.length_cons, List.length_nil]; omega))) id) ?_ | refine LM.rd (om_ldW Tryd.isAgg69 Tryd.sizeOf69 rfl rfl) ?_ | refine LM.rd (om_ldA Tryd.isAgg69 Tryd.sizeOf69 rfl (vs := [_, _, _]) rfl ⟨rfl, rfl, rfl, trivial⟩) ?_
      refine LM.alloc Tryd.zeroValue69 rfl (fun b5 hb5 => ?_)
      first | refine LM.stW Tryd.sizeOf69 rfl rfl rfl rfl (by first | rfl | decide | (simp; done)) (fun hlt => absurd hlt (by omega)) ?_ | refine LM.st Tryd.sizeOf69 rfl rfl rfl (by first | decide | exact Nat.le_of_ble_eq_true rfl | (simp; done) | (simp; omega)) rfl (fun hlt => absurd hlt (by omega)) ?_
      refine LM.nil ?_
      refine QM.sub (e' := [(1, _), (3, _), (4, _), (5, _)]) ⟨rfl, rfl, rfl, rfl, trivial⟩ ?_
      refine QM.then ?_
      refine wpM.seq ?_
      refine wpM.region ?_
      refine LM.val (ov_move rfl) ?_
      refine LM.val (ov_field Tryd.underlying69 rfl Tryd.sizeOf3 rfl (k := 0) rfl rfl) ?_
      first | refine LM.rd (om_ld Tryd.isAgg3 rfl rfl) ?_
      refine LM.callE (oc_call (enters_fn Tryd.func32 (by kernel_rfl) rfl) rfl) (fun w hm hc hg => rname_spec _ w) ?_
      refine LM.val (ov_build (cs := #[_, _, _, _]) rfl (by first | rfl | kernel_rfl)) ?_
      refine LM.single Tryd.underlying24 Tryd.sizeOf72 Tryd.zeroValue72 rfl rfl rfl rfl rfl (fun b37 hb37 => ?_)
      refine LM.app (a := (⟨1, nmT (xs.getD i default).k, 0, 0⟩ : Wrd)) Tryd.underlying24 Tryd.typeInfo72 rfl rfl rfl rfl rfl rfl rfl (by assumption) (by rfl) (by intro _; rfl) (by intro _ u hu; simp [fW] at hu; (repeat (first | (rcases hu with rfl | hu) | subst hu | rfl))) (by first | exact Nat.le_refl _ | omega) (fun p hp hlt => absurd hlt (Nat.not_lt_of_le (Sl.ge (by assumption) p hp))) (by first | omega | (unfold maxLen; omega)) (by simp only [Tryd.t72]; omega) (fun ad38 n38 cap38 m38 hn38 hs38 hin38 => ?_)
      refine LM.val (ov_assign rfl) ?_
      refine LM.nil ?_
      refine QM.sub (e' := [(1, _), (3, _), (4, _), (5, _)]) ⟨rfl, rfl, rfl, rfl, trivial⟩ ?_
      refine QM.then ?_
      refine wpM.seq ?_
      refine wpM.region ?_
      refine LM.val (ov_field Tryd.underlying69 rfl Tryd.sizeOf3 rfl (k := 0) rfl rfl) ?_
      first | refine LM.rd (om_ld Tryd.isAgg3 rfl rfl) ?_
      refine LM.callE (oc_call (enters_fn Tryd.func64 (by kernel_rfl) rfl) rfl) (fun w hm hc hg => limits_spec _ w) ?_
      refine LM.val (ov_move rfl) ?_
      refine LM.val (ov_extract rfl rfl) ?_
      refine LM.val (ov_extract rfl rfl) ?_
      refine LM.val (ov_assign rfl) ?_
      refine LM.val (ov_assign rfl) ?_
      refine LM.nil ?_
      refine QM.sub (e' := [(1, _), (3, _), (4, _), (5, _), (6, _)]) ⟨rfl, rfl, rfl, rfl, rfl, trivial⟩ ?_
      refine QM.then ?_
      refine wpM.seq ?_
      refine wpM.seq ?_
      refine wpM.region ?_
      refine LM.val (ov_move rfl) ?_
      refine LM.val (ov_geq rfl rfl) ?_
      refine LM.nil ?_
      refine QM.sub (e' := [(1, _), (3, _), (4, _), (5, _), (46, _)]) ⟨rfl, rfl, rfl, rfl, rfl, trivial⟩ ?_
      refine QM.then ?_
      refine wpM.joinK (α := List Wrd × Option Addr × Nat × Nat × Mem0) (fun ⟨l2, ad2, n2, cap2, m2⟩ => [(3, .slice ad2 n2 cap2)]) [(1, _), (4, _), (5, _)] (fun ⟨l2, ad2, n2, cap2, m2⟩ => m2 ++ ((b5, .cells (fO (xs.getD i default)).toArray 69 (0, 0)) :: pB b1 fv ad n cap :: [])) (fun ⟨l2, ad2, n2, cap2, m2⟩ => l2.length ≤ 5 + 4 * i ∧ l2 = l1 ++ [⟨1, nmT (xs.getD i default).k, 0, 0⟩] ++ (if loA (xs.getD i default).k ≠ -1 then [⟨2, [], (xs.getD i default).a, 0⟩] else []) ∧ n2 = l2.length ∧ Sl fW 72 4 w.heap.size l2 (.slice ad2 n2 cap2) m2) ⟨rfl, rfl, rfl, trivial⟩ ?_ ?_
      ·
        first | refine wpM.condD rfl (fun h3 => ?_) (fun h3 => ?_) | refine wpM.condB rfl (fun h3 => ?_) (fun h3 => ?_)
        ·
          refine wpM.region ?_
          have hlp : (l1 ++ [(⟨1, nmT (xs.getD i default).k, 0, 0⟩ : Wrd)]).length = l1.length + 1 := (by simp)
          refine LM.val (ov_move rfl) ?_
          refine LM.val (ov_field Tryd.underlying69 rfl Tryd.sizeOf3 rfl (k := 1) rfl rfl) ?_
          first | refine LM.rd (om_ld Tryd.isAgg3 rfl rfl) ?_
          refine LM.val (ov_build (cs := #[_, _, _, _]) rfl (by first | rfl | kernel_rfl)) ?_
          refine LM.single Tryd.underlying24 Tryd.sizeOf72 Tryd.zeroValue72 rfl rfl rfl rfl rfl (fun b51 hb51 => ?_)
          refine LM.app (a := (⟨2, [], (xs.getD i default).a, 0⟩ : Wrd)) Tryd.underlying24 Tryd.typeInfo72 rfl rfl rfl rfl rfl rfl rfl (by assumption) (by rfl) (by intro _; rfl) (by intro _ u hu; simp [fW] at hu; (repeat (first | (rcases hu with rfl | hu) | subst hu | rfl))) (by first | exact Nat.le_refl _ | omega) (fun p hp hlt => absurd hlt (Nat.not_lt_of_le (Sl.ge (by assumption) p hp))) (by first | omega | (unfold maxLen; omega)) (by simp only [Tryd.t72]; omega) (fun ad52 n52 cap52 m52 hn52 hs52 hin52 => ?_)
          refine LM.val (ov_assign rfl) ?_
          refine LM.nil ?_
          refine QM.sub (e' := [(1, _), (3, _), (4, _), (5, _)]) ⟨rfl, rfl, rfl, rfl, trivial⟩ ?_
          -- meet1: h2+ h3+
          refine QM.meetK ((l1 ++ [(⟨1, nmT (xs.getD i default).k, 0, 0⟩ : Wrd)] ++ [⟨2, [], (xs.getD i default).a, 0⟩], ad52, n52, cap52, m52)) ⟨(by first | rfl | exact lk rfl (by congr 1; omega) | exact lk rfl (by simp)), rfl, rfl, rfl, trivial⟩ (by (repeat' (first | exact SubM.nil _ | refine SubM.cons rfl ?_ | refine SubM.app ?_))) ?_
          · exact ⟨by simp; omega, by rw [if_pos (by omega)], by rw [hn52]; simp, hs52⟩
        ·
          refine wpM.skip ?_
          -- meet2: h2+ h3-
          refine QM.meetK ((l1 ++ [(⟨1, nmT (xs.getD i default).k, 0, 0⟩ : Wrd)], ad38, n38, cap38, m38)) ⟨(by first | rfl | exact lk rfl (by congr 1; omega) | exact lk rfl (by simp)), rfl, rfl, rfl, trivial⟩ (by (repeat' (first | exact SubM.nil _ | refine SubM.cons rfl ?_ | refine SubM.app ?_))) ?_
          · exact ⟨by simp; omega, by rw [if_neg (by have := loA_cases (xs.getD i default).k; omega)]; simp, by rw [hn38]; simp, hs38⟩
      ·
        rintro ⟨l2, ad2, n2, cap2, m2⟩ ⟨hz2, hl2, hn2, hs2⟩
        change QM _ _ _ _ _ (m2 ++ ((b5, .cells (fO (xs.getD i default)).toArray 69 (0, 0)) :: pB b1 fv ad n cap :: [])) _ _ _
        refine QM.then ?_
        refine wpM.seq ?_
        refine wpM.seq ?_
        refine wpM.region ?_
        refine LM.val (ov_field Tryd.underlying69 rfl Tryd.sizeOf3 rfl (k := 0) rfl rfl) ?_
        first | refine LM.rd (om_ld Tryd.isAgg3 rfl rfl) ?_
        refine LM.val (ov_eql rfl rfl) ?_
        refine LM.nil ?_
        refine QM.sub (e' := [(1, _), (3, _), (4, _), (5, _), (55, _)]) ⟨rfl, rfl, rfl, rfl, rfl, trivial⟩ ?_
        refine QM.then ?_
        refine wpM.joinK (α := List Wrd × Option Addr × Nat × Nat × Mem0) (fun ⟨l3, ad3, n3, cap3, m3⟩ => [(3, .slice ad3 n3 cap3)]) [(1, _), (4, _)] (fun ⟨l3, ad3, n3, cap3, m3⟩ => m3 ++ (pB b1 fv ad n cap :: [])) (fun ⟨l3, ad3, n3, cap3, m3⟩ => l3.length ≤ 6 + 4 * i ∧ l3 = l2 ++ (if loB (xs.getD i default).k ≠ -1 then [⟨2, [], (xs.getD i default).b, 0⟩] else []) ∧ n3 = l3.length ∧ Sl fW 72 4 w.heap.size l3 (.slice ad3 n3 cap3) m3) ⟨rfl, rfl, trivial⟩ ?_ ?_
        ·
          first | refine wpM.condD rfl (fun h4 => ?_) (fun h4 => ?_) | refine wpM.condB rfl (fun h4 => ?_) (fun h4 => ?_)
          ·
            refine wpM.region ?_
            refine LM.val (ov_move rfl) ?_
            refine LM.val (ov_field Tryd.underlying69 rfl Tryd.sizeOf3 rfl (k := 2) rfl rfl) ?_
            first | refine LM.rd (om_ld Tryd.isAgg3 rfl rfl) ?_
            refine LM.val (ov_build (cs := #[_, _, _, _]) rfl (by first | rfl | kernel_rfl)) ?_
            refine LM.single Tryd.underlying24 Tryd.sizeOf72 Tryd.zeroValue72 rfl rfl rfl rfl rfl (fun b60 hb60 => ?_)
            refine LM.app (a := (⟨2, [], (xs.getD i default).b, 0⟩ : Wrd)) Tryd.underlying24 Tryd.typeInfo72 rfl rfl rfl rfl rfl rfl rfl (by assumption) (by rfl) (by intro _; rfl) (by intro _ u hu; simp [fW] at hu; (repeat (first | (rcases hu with rfl | hu) | subst hu | rfl))) (by first | exact Nat.le_refl _ | omega) (fun p hp hlt => absurd hlt (Nat.not_lt_of_le (Sl.ge (by assumption) p hp))) (by first | omega | (unfold maxLen; omega)) (by simp only [Tryd.t72]; omega) (fun ad61 n61 cap61 m61 hn61 hs61 hin61 => ?_)
            refine LM.val (ov_assign rfl) ?_
            refine LM.nil ?_
            refine QM.sub (e' := [(1, _), (3, _), (4, _)]) ⟨rfl, rfl, rfl, trivial⟩ ?_
            -- meet1: h2+ h4+
            refine QM.meetK ((l2 ++ [(⟨2, [], (xs.getD i default).b, 0⟩ : Wrd)], ad61, n61, cap61, m61)) ⟨(by first | rfl | exact lk rfl (by congr 1; omega) | exact lk rfl (by simp)), rfl, rfl, trivial⟩ (by (repeat' (first | exact SubM.nil _ | refine SubM.cons rfl ?_ | refine SubM.app ?_))) ?_
            · exact ⟨by simp; omega, by rw [if_pos (low5.1 h4)], by rw [hn61]; simp, hs61⟩
          ·
            refine wpM.skip ?_
            -- meet2: h2+ h4-
            refine QM.meetK ((l2, ad2, n2, cap2, m2)) ⟨(by first | rfl | exact lk rfl (by congr 1; omega) | exact lk rfl (by simp)), rfl, rfl, trivial⟩ (by (repeat' (first | exact SubM.nil _ | refine SubM.cons rfl ?_ | refine SubM.app ?_))) ?_
            · exact ⟨by omega, by rw [if_neg (fun q => h4 (low5.2 q))]; simp, hn2, hs2⟩
        ·
          rintro ⟨l3, ad3, n3, cap3, m3⟩ ⟨hz3, hl3, hn3, hs3⟩
          change QM _ _ _ _ _ (m3 ++ (pB b1 fv ad n cap :: [])) _ _ _
          refine QM.then ?_
          refine wpM.region ?_
          refine LM.val (ov_move rfl) ?_
          refine LM.val (ov_build (cs := #[_, _, _, _]) rfl (by first | rfl | kernel_rfl)) ?_
          refine LM.single Tryd.underlying24 Tryd.sizeOf72 Tryd.zeroValue72 rfl rfl rfl rfl rfl (fun b64 hb64 => ?_)
          refine LM.app (a := mk3 [59]) Tryd.underlying24 Tryd.typeInfo72 rfl rfl rfl rfl rfl rfl rfl (by assumption) (by rfl) (by intro _; rfl) (by intro _ u hu; simp [fW] at hu; (repeat (first | (rcases hu with rfl | hu) | subst hu | rfl))) (by first | exact Nat.le_refl _ | omega) (fun p hp hlt => absurd hlt (Nat.not_lt_of_le (Sl.ge (by assumption) p hp))) (by first | omega | (unfold maxLen; omega)) (by simp only [Tryd.t72]; omega) (fun ad65 n65 cap65 m65 hn65 hs65 hin65 => ?_)
          refine LM.val (ov_assign rfl) ?_
          refine LM.nil ?_
          refine QM.sub (e' := [(1, _), (3, _), (4, _)]) ⟨rfl, rfl, rfl, trivial⟩ ?_
          refine QM.block_normal ?_
          refine QM.then ?_
          refine wpM.region ?_
          refine LM.val (ov_move rfl) ?_
          refine LM.val (ov_add64 rfl rfl (by omega)) ?_
          refine LM.val (ov_assign rfl) ?_
          refine LM.nil ?_
          refine QM.sub (e' := [(1, _), (3, _), (4, _)]) ⟨rfl, rfl, rfl, trivial⟩ ?_
          -- again1: h2+
          refine QM.againK ((i + 1, l3 ++ [mk3 [59]], ad65, n65, cap65, m65)) ⟨(by first | rfl | exact lk rfl (by congr 1; omega) | exact lk rfl (by simp)), (by first | rfl | exact lk rfl (by congr 1; omega) | exact lk rfl (by simp)), rfl, trivial⟩ (by (repeat' (first | exact SubM.nil _ | refine SubM.cons rfl ?_ | refine SubM.app ?_))) (fun _ h => h) ?_ ?_
          · exact ⟨by omega, by simp; omega, by rw [hl3, hl2, hl1, flat_snoc (by omega)]; simp [opW], by rw [hn65]; simp, hs65⟩
          · first | omega | (dsimp only; omega)
    ·
      refine wpM.exit ?_
      refine QM.then_exit ?_
      refine QM.then_exit ?_
      refine QM.block_hit ?_
      refine QM.then ?_
      refine wpM.seq ?_
      refine wpM.region ?_
      refine LM.val (ov_move rfl) ?_
      refine LM.val (ov_build (cs := #[_, _, _, _]) rfl (by first | rfl | kernel_rfl)) ?_
      refine LM.single Tryd.underlying24 Tryd.sizeOf72 Tryd.zeroValue72 rfl rfl rfl rfl rfl (fun b68 hb68 => ?_)
      refine LM.app (a := mk3 [125]) Tryd.underlying24 Tryd.typeInfo72 rfl rfl rfl rfl rfl rfl rfl (by assumption) (by rfl) (by intro _; rfl) (by intro _ u hu; simp [fW] at hu; (repeat (first | (rcases hu with rfl | hu) | subst hu | rfl))) (by first | exact Nat.le_refl _ | omega) (fun p hp hlt => absurd hlt (Nat.not_lt_of_le (Sl.ge (by assumption) p hp))) (by first | omega | (unfold maxLen; omega)) (by simp only [Tryd.t72]; omega) (fun ad69 n69 cap69 m69 hn69 hs69 hin69 => ?_)
      refine LM.val (ov_assign rfl) ?_
      refine LM.nil ?_
      refine QM.sub (e' := [(2, _)]) ⟨rfl, trivial⟩ ?_
      refine QM.then ?_
      refine wpM.ret ?_
      refine QM.leave (.inl rfl) [.tmp 2] Tryd.results37 rfl ?_
      intro w' hm' hc' hg'
      -- leaf 1: h2-
      have hil : i = xs.length := (by omega); subst hil; rw [List.take_length] at hl1; have hw : wordsF fv xs = l1 ++ [mk3 [125]] := (by unfold wordsF; rw [hl1, hl0]); rw [hw]; exact ⟨hc', m69, hs69, hm'.pick _⟩

set_option maxRecDepth 100000 in
theorem rprint_spec {xs : List COp} {fv : Bool} {ad : Option Addr} {n cap : Nat} (w : World) (hn : n = xs.length) (hl : Sr fO 3 xs (.slice ad n cap) w) (hxl : xs.length ≤ 1000000) : Ret Tryd.prog 34 #[pV fv ad n cap] w (fun v w' => v = .tuple #[vS (printO fv xs).1, .int .i64 (printO fv xs).2] ∧ Ext w w') := by
  refine Ret.enterM (l := [pV fv ad n cap]) Tryd.func34 rfl Tryd.ntmps34 rfl ([]) (no) (Mem.nil w) ?_
  refine wpM.seq ?_
  refine wpM.region ?_
  refine LM.box rfl rfl (fun b1 hb1 => ?_)
  refine LM.val (ov_assign rfl) ?_
  refine LM.val (ov_assign rfl) ?_
  refine LM.nil ?_
  refine QM.sub (e' := [(1, _)]) ⟨rfl, trivial⟩ ?_
  refine QM.then ?_
  refine wpM.seq ?_
  refine wpM.seq ?_
  refine wpM.region ?_
  first | refine LM.rd (om_ldW Tryd.isAgg53 Tryd.sizeOf53 rfl rfl) ?_ | refine LM.rd (om_ldA Tryd.isAgg53 Tryd.sizeOf53 rfl (vs := [_, _]) rfl ⟨rfl, rfl, trivial⟩) ?_
  refine LM.callE (oc_call (enters_fn Tryd.func70 (by kernel_rfl) rfl) rfl) (fun w hm hc hg => rmay_spec w hn (hl.ext hc)) ?_
  first | refine LM.val (ov_notD rfl) ?_ | refine LM.val (ov_not rfl) ?_
  refine LM.nil ?_
  refine QM.sub (e' := [(1, _), (6, _)]) ⟨rfl, rfl, trivial⟩ ?_
  refine QM.then ?_
  first | refine wpM.condD rfl (fun h1 => ?_) (fun h1 => ?_) | refine wpM.condB rfl (fun h1 => ?_) (fun h1 => ?_)
  ·
    refine wpM.seq ?_
    refine wpM.region ?_
    refine LM.val (ov_assign rfl) ?_
    refine LM.val (ov_assign rfl) ?_
    refine LM.nil ?_
    refine QM.sub (e' := [(2, _), (3, _)]) ⟨rfl, rfl, trivial⟩ ?_
    refine QM.then ?_
    refine wpM.ret ?_
    refine QM.then_ret ?_
    refine QM.leave (.inl rfl) [.tmp 2, .tmp 3] Tryd.results34 rfl ?_
    intro w' hm' hc' hg'
    -- leaf 1: h1+
    refine ⟨?_, hc'⟩; have hm : mayB xs = false := (by simpa using h1); unfold printO; rw [hm]; rfl
  ·
    refine wpM.skip ?_
    refine QM.then ?_
    refine wpM.seq ?_
    refine wpM.region ?_
    first | refine LM.rd (om_ldW Tryd.isAgg53 Tryd.sizeOf53 rfl rfl) ?_ | refine LM.rd (om_ldA Tryd.isAgg53 Tryd.sizeOf53 rfl (vs := [_, _]) rfl ⟨rfl, rfl, trivial⟩) ?_
    refine LM.cS (oc_call (enters_fn Tryd.func37 (by kernel_rfl) rfl) rfl) (fun w hm hc hg => rwords_spec w hn (hl.ext hc) hxl) (fun ad8 n8 cap8 m8 hn8 hs8 => ?_)
    refine LM.callE (oc_call (enters_fn Tryd.func40 (by kernel_rfl) rfl) rfl) (fun w hm hc hg => rjoin_spec w hn8 (by have := words_len fv xs; omega) (hs8.srM (by intro _; rfl) hm) (fun x hx => by have := words_text fv xs x hx; omega)) ?_
    refine LM.val (ov_extract rfl rfl) ?_
    refine LM.val (ov_extract rfl rfl) ?_
    refine LM.val (ov_assign rfl) ?_
    refine LM.val (ov_assign rfl) ?_
    refine LM.nil ?_
    refine QM.sub (e' := [(2, _), (3, _)]) ⟨rfl, rfl, trivial⟩ ?_
    refine QM.then ?_
    refine wpM.ret ?_
    refine QM.leave (.inl rfl) [.tmp 2, .tmp 3] Tryd.results34 rfl ?_
    intro w' hm' hc' hg'
    -- leaf 2: h1-
    refine ⟨?_, hc'⟩; have hm : mayB xs = true := (by simpa using h1); unfold printO; rw [hm]; rfl

set_option maxRecDepth 100000 in
set_option maxHeartbeats 1000000 in
theorem each_seq {xs : List COp} {fv : Bool} {ad : Option Addr} {n cap : Nat} {b1 : Nat} (hn : n = xs.length) (hx2 : xs.length ≤ 1000000000000) : SeqC Tryd.prog 73 #[.pointer (some ⟨b1, 0, none⟩)] (eachA xs) (fun w => Mem w [pB b1 fv ad n cap] ∧ Sr fO 3 xs (.slice ad n cap) w) (True) := by
  refine SeqC.enter (lb := [.pointer (some ⟨b1, 0, none⟩)]) Tryd.func73 rfl Tryd.ntmps73 rfl ?_
  intro l n0 J Jx w0 hfin hJr gJ gJx hy
  refine wpM.seq ?_
  refine wpM.region ?_
  refine LM.val (ov_field Tryd.underlying53 rfl Tryd.sizeOf51 rfl (k := 1) rfl rfl) ?_
  refine LM.rdC (fun w _ _ hg => om_load 0 Tryd.isAgg51 rfl rfl rfl w (hJr _ w hg).1) ?_
  refine LM.val (ov_len Tryd.underlying51 rfl) ?_
  refine LM.val (ov_move rfl) ?_
  refine LM.nil ?_
  refine QM.sub (e' := [(0, _), (6, _), (7, _), (8, _)]) ⟨rfl, rfl, rfl, rfl, trivial⟩ ?_
  refine QM.then ?_
  refine wpM.block ?_
  refine wpM.loopK (α := Nat) (fun i => [(8, .int .i64 (i : Nat))]) [(0, _), (6, _), (7, _)] (fun i => []) (fun i => J i) (fun i => i ≤ xs.length) (fun i => xs.length - i) (0) ⟨(by first | rfl | exact lk rfl (by congr 1; omega) | exact lk rfl (by simp)), rfl, rfl, rfl, trivial⟩ (by (repeat' (first | exact SubM.nil _ | refine SubM.cons rfl ?_ | refine SubM.app ?_))) (fun _ h => h) (Nat.zero_le _) ?_
  rintro i hi
  change wpM _ _ _ _ _ _ _ ([]) _ _ _
  refine wpM.seq ?_
  refine wpM.region ?_
  refine LM.val (ov_lss rfl rfl) ?_
  refine LM.nil ?_
  refine QM.sub (e' := [(0, _), (6, _), (7, _), (8, _), (9, _)]) ⟨rfl, rfl, rfl, rfl, rfl, trivial⟩ ?_
  refine QM.then ?_
  refine wpM.seq ?_
  first | refine wpM.condD rfl (fun h1 => ?_) (fun h1 => ?_) | refine wpM.condB rfl (fun h1 => ?_) (fun h1 => ?_)
  ·
    refine wpM.skip ?_
    refine QM.then ?_
    refine wpM.seq ?_
    refine wpM.block ?_
    refine wpM.seq ?_
    refine wpM.region ?_
    refine LM.val (ov_move rfl) ?_
    refine LM.know (fun w _ _ hg => (hJr _ w hg).2.spt) (fun hsp => ?_); refine LM.val (ov_idxSN hsp Tryd.underlying51 Tryd.sizeOf69 rfl rfl (by omega)) ?_
    refine LM.rdC (fun w hm hc hg => ow_srEA (hJr _ w hg).2 (by intro _; rfl) Tryd.isAgg69 Tryd.sizeOf69 rfl (getq default (by omega))) ?_
    refine LM.allocF Tryd.zeroValue69 rfl (fun b4 hb4 => ?_)
    refine LM.val (ov_assign rfl) ?_
    first | refine LM.stWF Tryd.sizeOf69 rfl rfl rfl rfl (by first | rfl | decide | (simp; done)) (fun hlt => absurd hlt (by omega)) (by omega) ?_ | refine LM.stF Tryd.sizeOf69 rfl rfl rfl (by first | decide | exact Nat.le_of_ble_eq_true rfl | (simp; done) | (simp; omega)) rfl (fun hlt => absurd hlt (by omega)) (by omega) ?_
    refine LM.unF ?_
    refine LM.nil ?_
    refine QM.sub (e' := [(0, _), (3, _), (4, _), (6, _), (7, _), (8, _)]) ⟨rfl, rfl, rfl, rfl, rfl, rfl, trivial⟩ ?_
    refine QM.then ?_
    refine wpM.seq ?_
    refine wpM.region ?_
    refine LM.val (ov_move rfl) ?_
    refine LM.val (ov_move rfl) ?_
    first | refine LM.rd (om_ldW Tryd.isAgg69 Tryd.sizeOf69 rfl rfl) ?_ | refine LM.rd (om_ldA Tryd.isAgg69 Tryd.sizeOf69 rfl (vs := [_, _, _]) rfl ⟨rfl, rfl, rfl, trivial⟩) ?_
    refine LM.mem (M' := []) (fun w _ => Mem.nil w) ?_
    refine LM.yield (n := n0) (G1 := J (i + 1)) (G2 := Jx) rfl rfl (fun w hj => hy (i) _ w (eachA_get (by omega)) hj) (fun _ => trivial) ?_ ?_
    ·
      first | refine LM.val (ov_notD rfl) ?_ | refine LM.val (ov_not rfl) ?_
      refine LM.nil ?_
      refine QM.sub (e' := [(0, _), (6, _), (7, _), (8, _), (17, _)]) ⟨rfl, rfl, rfl, rfl, rfl, trivial⟩ ?_
      refine QM.then ?_
      refine wpM.condF rfl ?_
      refine wpM.skip ?_
      refine QM.block_normal ?_
      refine QM.then ?_
      refine wpM.region ?_
      refine LM.val (ov_add64 rfl rfl (by omega)) ?_
      refine LM.val (ov_move rfl) ?_
      refine LM.nil ?_
      refine QM.sub (e' := [(0, _), (6, _), (7, _), (8, _)]) ⟨rfl, rfl, rfl, rfl, trivial⟩ ?_
      -- again1: h1+
      refine QM.againK (i + 1) ⟨(by first | rfl | exact lk rfl (by congr 1; omega) | exact lk rfl (by simp)), rfl, rfl, rfl, trivial⟩ (by (repeat' (first | exact SubM.nil _ | refine SubM.cons rfl ?_ | refine SubM.app ?_))) (fun w h => h) ?_ ?_
      · omega
      · first | omega | (dsimp only; omega)
    ·
      first | refine LM.val (ov_notD rfl) ?_ | refine LM.val (ov_not rfl) ?_
      refine LM.nil ?_
      refine QM.sub (e' := [(0, _), (6, _), (7, _), (8, _), (17, _)]) ⟨rfl, rfl, rfl, rfl, rfl, trivial⟩ ?_
      refine QM.then ?_
      refine wpM.condT rfl ?_
      refine wpM.ret ?_
      refine QM.block_ret ?_
      refine QM.then_ret ?_
      refine QM.then_ret ?_
      refine QM.block_ret ?_
      refine QM.leave (.inl rfl) [] Tryd.results73 rfl ?_
      intro w' hm' hc' hg'
      -- leaf 1: h1+
      first | exact .inr hg' | (have hil : i = xs.length := (by omega); subst hil; exact .inl (by rw [eachA_len]; exact hg'))
  ·
    refine wpM.exit ?_
    refine QM.then_exit ?_
    refine QM.then_exit ?_
    refine QM.block_hit ?_
    refine QM.leave (.inr rfl) [] Tryd.results73 rfl ?_
    intro w' hm' hc' hg'
    -- leaf 2: h1-
    first | exact .inr hg' | (have hil : i = xs.length := (by omega); subst hil; exact .inl (by rw [eachA_len]; exact hg'))

set_option maxRecDepth 100000 in
theorem each_spec (fv : Bool) (ad : Option Addr) (n cap : Nat) (w : World) : Ret Tryd.prog 36 #[pV fv ad n cap] w (fun v w' => Ext w w' ∧ ∃ m, EachT fv ad n cap w.heap.size v m ∧ Mem w' m ∧ ∀ p ∈ m, w.heap.size ≤ p.1) := by
  refine Ret.enterM (l := [pV fv ad n cap]) Tryd.func36 rfl Tryd.ntmps36 rfl ([]) (no) (Mem.nil w) ?_
  refine wpM.seq ?_
  refine wpM.region ?_
  refine LM.box rfl rfl (fun b1 hb1 => ?_)
  refine LM.val (ov_assign rfl) ?_
  refine LM.nil ?_
  refine QM.sub (e' := [(1, _)]) ⟨rfl, trivial⟩ ?_
  refine QM.then ?_
  refine wpM.seq ?_
  refine wpM.region ?_
  refine LM.val (ov_makeFunc rfl) ?_
  refine LM.val (ov_assign rfl) ?_
  refine LM.nil ?_
  refine QM.sub (e' := [(2, _)]) ⟨rfl, trivial⟩ ?_
  refine QM.then ?_
  refine wpM.ret ?_
  refine QM.leave (.inl rfl) [.tmp 2] Tryd.results36 rfl ?_
  intro w' hm' hc' hg'
  -- leaf 1: 
  exact ⟨hc', _, ⟨b1, rfl, rfl, hb1⟩, hm', fun p hp => by simp only [List.mem_cons, List.not_mem_nil, or_false] at hp; subst hp; assumption⟩

set_option maxRecDepth 100000 in
set_option maxHeartbeats 2000000 in
theorem progBack {xs : List COp} {fv : Bool} {ad : Option Addr} {n cap : Nat} (w : World) (hT : Tb w) (hn : n = xs.length) (hl : Sr fO 3 xs (.slice ad n cap) w) : Ret Tryd.prog 7 #[pV fv ad n cap] w (fun v w' => v = .bool true ∧ Ext w w') := by
  refine Ret.enterM (l := [pV fv ad n cap]) Tryd.func7 rfl Tryd.ntmps7 rfl ([]) (no) (Mem.nil w) ?_
  refine wpM.seq ?_
  refine wpM.region ?_
  refine LM.box rfl rfl (fun b1 hb1 => ?_)
  refine LM.alloc Tryd.zeroValue4 rfl (fun b2 hb2 => ?_)
  refine LM.nil ?_
  refine QM.sub (e' := [(1, _), (2, _)]) ⟨rfl, rfl, trivial⟩ ?_
  refine QM.then ?_
  refine wpM.seq ?_
  refine wpM.seq ?_
  refine wpM.region ?_
  refine LM.callE (oc_call (enters_fn Tryd.func25 (by kernel_rfl) rfl) rfl) (fun w hm hc hg => awake10_spec w (hT.ext hc)) ?_
  first | refine LM.val (ov_notD rfl) ?_ | refine LM.val (ov_not rfl) ?_
  refine LM.nil ?_
  refine QM.sub (e' := [(1, _), (2, _), (16, _)]) ⟨rfl, rfl, rfl, trivial⟩ ?_
  refine QM.then ?_
  first | refine wpM.condD rfl (fun h1 => ?_) (fun h1 => ?_) | refine wpM.condB rfl (fun h1 => ?_) (fun h1 => ?_)
  ·
    refine wpM.seq ?_
    refine wpM.region ?_
    refine LM.st Tryd.sizeOf4 rfl rfl rfl (by first | decide | exact Nat.le_of_ble_eq_true rfl | (simp; done) | (simp; omega)) rfl (fun hlt => absurd hlt (by omega)) ?_
    refine LM.nil ?_
    refine QM.sub (e' := [(2, _)]) ⟨rfl, trivial⟩ ?_
    refine QM.then ?_
    refine wpM.ret ?_
    refine QM.then_ret ?_
    refine QM.leaveCF Tryd.results7 rfl Tryd.isAgg4 rfl ?_
    intro w' hm' hc' hg'
    -- leaf 1: h1+
    first | exact ⟨rfl, hc'⟩ | (exfalso; first | omega | (simp at *; done) | (simp_all; done))
  ·
    refine wpM.skip ?_
    refine QM.then ?_
    refine wpM.seq ?_
    refine wpM.seq ?_
    refine wpM.region ?_
    refine LM.val (ov_field Tryd.underlying53 rfl Tryd.sizeOf51 rfl (k := 1) rfl rfl) ?_
    first | refine LM.rd (om_ld Tryd.isAgg51 rfl rfl) ?_
    refine LM.val (ov_len Tryd.underlying51 rfl) ?_
    refine LM.val (ov_gtr rfl rfl) ?_
    refine LM.nil ?_
    refine QM.sub (e' := [(1, _), (2, _), (20, _)]) ⟨rfl, rfl, rfl, trivial⟩ ?_
    refine QM.then ?_
    first | refine wpM.condD rfl (fun h2 => ?_) (fun h2 => ?_) | refine wpM.condB rfl (fun h2 => ?_) (fun h2 => ?_)
    ·
      refine wpM.seq ?_
      refine wpM.region ?_
      refine LM.st Tryd.sizeOf4 rfl rfl rfl (by first | decide | exact Nat.le_of_ble_eq_true rfl | (simp; done) | (simp; omega)) rfl (fun hlt => absurd hlt (by omega)) ?_
      refine LM.nil ?_
      refine QM.sub (e' := [(2, _)]) ⟨rfl, trivial⟩ ?_
      refine QM.then ?_
      refine wpM.ret ?_
      refine QM.then_ret ?_
      refine QM.leaveCF Tryd.results7 rfl Tryd.isAgg4 rfl ?_
      intro w' hm' hc' hg'
      -- leaf 2: h1- h2+
      first | exact ⟨rfl, hc'⟩ | (exfalso; first | omega | (simp at *; done) | (simp_all; done))
    ·
      have hwl := words_l8 fv xs (by omega)
      refine wpM.skip ?_
      refine QM.then ?_
      refine wpM.seq ?_
      refine wpM.region ?_
      first | refine LM.rd (om_ldW Tryd.isAgg53 Tryd.sizeOf53 rfl rfl) ?_ | refine LM.rd (om_ldA Tryd.isAgg53 Tryd.sizeOf53 rfl (vs := [_, _]) rfl ⟨rfl, rfl, trivial⟩) ?_
      refine LM.callE (oc_call (enters_fn Tryd.func33 (by kernel_rfl) rfl) rfl) (fun w hm hc hg => print_spec w hn (hl.ext hc) (by omega) (hT.ext hc)) ?_
      refine LM.val (ov_move rfl) ?_
      refine LM.val (ov_extract rfl rfl) ?_
      refine LM.val (ov_extract rfl rfl) ?_
      refine LM.val (ov_assign rfl) ?_
      refine LM.val (ov_assign rfl) ?_
      refine LM.nil ?_
      refine QM.sub (e' := [(1, _), (2, _), (3, _), (4, _)]) ⟨rfl, rfl, rfl, rfl, trivial⟩ ?_
      refine QM.then ?_
      refine wpM.seq ?_
      refine wpM.region ?_
      first | refine LM.rd (om_ldW Tryd.isAgg53 Tryd.sizeOf53 rfl rfl) ?_ | refine LM.rd (om_ldA Tryd.isAgg53 Tryd.sizeOf53 rfl (vs := [_, _]) rfl ⟨rfl, rfl, trivial⟩) ?_
      refine LM.callE (oc_call (enters_fn Tryd.func34 (by kernel_rfl) rfl) rfl) (fun w hm hc hg => rprint_spec w hn (hl.ext hc) (by omega)) ?_
      refine LM.val (ov_move rfl) ?_
      refine LM.val (ov_extract rfl rfl) ?_
      refine LM.val (ov_extract rfl rfl) ?_
      refine LM.val (ov_assign rfl) ?_
      refine LM.val (ov_assign rfl) ?_
      refine LM.nil ?_
      refine QM.sub (e' := [(1, _), (2, _), (3, _), (4, _), (5, _), (6, _)]) ⟨rfl, rfl, rfl, rfl, rfl, rfl, trivial⟩ ?_
      refine QM.then ?_
      refine wpM.seq ?_
      refine wpM.region ?_
      first | refine LM.rd (om_ldW Tryd.isAgg53 Tryd.sizeOf53 rfl rfl) ?_ | refine LM.rd (om_ldA Tryd.isAgg53 Tryd.sizeOf53 rfl (vs := [_, _]) rfl ⟨rfl, rfl, trivial⟩) ?_
      refine LM.callT (oc_call (enters_fn Tryd.func35 (by kernel_rfl) rfl) rfl) WoT.mono (fun w hm hc hg => words_spec w hn (hl.ext hc)) ?_
      rintro u33 m33 ⟨ad33, n33, cap33, rfl, hn33, hs33⟩ -
      refine LM.val (ov_move rfl) ?_
      refine LM.val (ov_extract rfl rfl) ?_
      refine LM.val (ov_extract rfl rfl) ?_
      refine LM.val (ov_assign rfl) ?_
      refine LM.val (ov_assign rfl) ?_
      refine LM.nil ?_
      refine QM.sub (e' := [(1, _), (2, _), (3, _), (4, _), (5, _), (6, _), (7, _), (8, _)]) ⟨rfl, rfl, rfl, rfl, rfl, rfl, rfl, rfl, trivial⟩ ?_
      refine QM.then ?_
      refine wpM.seq ?_
      refine wpM.seq ?_
      refine wpM.region ?_
      refine LM.val (ov_move rfl) ?_
      refine LM.val (ov_move rfl) ?_
      refine LM.val (ov_sneqL rfl rfl) ?_
      refine LM.val (ov_move rfl) ?_
      first | refine LM.splitD (t := 39) rfl (fun h3 => ?_) (fun h3 => ?_) | refine LM.splitB (t := 39) rfl (fun h3 => ?_) (fun h3 => ?_)
      ·
        exfalso; simp at h3
      ·
        refine LM.strip (t := 39) rfl rfl rfl ?_
        refine LM.val (ov_move rfl) ?_
        refine LM.strip (t := 39) rfl rfl rfl ?_
        refine LM.val (ov_move rfl) ?_
        refine LM.strip (t := 39) rfl rfl rfl ?_
        refine LM.val (ov_neq rfl rfl) ?_
        refine LM.val (ov_pickF rfl rfl) ?_
        refine LM.val (ov_move rfl) ?_
        first | refine LM.splitD (t := 44) rfl (fun h4 => ?_) (fun h4 => ?_) | refine LM.splitB (t := 44) rfl (fun h4 => ?_) (fun h4 => ?_)
        ·
          exfalso; simp at h4
        ·
          refine LM.strip (t := 44) rfl rfl rfl ?_
          refine LM.val (ov_move rfl) ?_
          refine LM.strip (t := 44) rfl rfl rfl ?_
          refine LM.val (ov_move rfl) ?_
          refine LM.strip (t := 44) rfl rfl rfl ?_
          refine LM.val (ov_neq rfl rfl) ?_
          refine LM.val (ov_pickF rfl rfl) ?_
          refine LM.val (ov_move rfl) ?_
          first | refine LM.splitD (t := 49) rfl (fun h5 => ?_) (fun h5 => ?_) | refine LM.splitB (t := 49) rfl (fun h5 => ?_) (fun h5 => ?_)
          ·
            exfalso; have := words_err2 fv xs; simp at h5; omega
          ·
            refine LM.strip (t := 49) rfl rfl rfl ?_
            first | refine LM.rd (om_ldW Tryd.isAgg53 Tryd.sizeOf53 rfl rfl) ?_ | refine LM.rd (om_ldA Tryd.isAgg53 Tryd.sizeOf53 rfl (vs := [_, _]) rfl ⟨rfl, rfl, trivial⟩) ?_
            refine LM.strip (t := 49) rfl rfl rfl ?_
            refine LM.callE (oc_call (enters_fn Tryd.func29 (by kernel_rfl) rfl) rfl) (fun w hm hc hg => pmay_spec w hn (hl.ext hc)) ?_
            refine LM.strip (t := 49) rfl rfl rfl ?_
            refine LM.val (ov_move rfl) ?_
            refine LM.strip (t := 49) rfl rfl rfl ?_
            refine LM.val (ov_eql rfl rfl) ?_
            refine LM.strip (t := 49) rfl rfl rfl ?_
            refine LM.val (ov_bneq Tryd.underlying4 rfl rfl) ?_
            refine LM.val (ov_pickF rfl rfl) ?_
            refine LM.nil ?_
            refine QM.sub (e' := [(1, _), (2, _), (6, _), (7, _), (55, _)]) ⟨rfl, rfl, rfl, rfl, rfl, trivial⟩ ?_
            refine QM.then ?_
            first | refine wpM.condD rfl (fun h6 => ?_) (fun h6 => ?_) | refine wpM.condB rfl (fun h6 => ?_) (fun h6 => ?_)
            ·
              exfalso; have := print_err fv xs; cases hm : mayB xs <;> simp_all
            ·
              refine wpM.skip ?_
              refine QM.then ?_
              refine wpM.seq ?_
              refine wpM.region ?_
              refine LM.alloc Tryd.zeroValue3 rfl (fun b9 hb9 => ?_)
              refine LM.st Tryd.sizeOf3 rfl rfl rfl (by first | decide | exact Nat.le_of_ble_eq_true rfl | (simp; done) | (simp; omega)) rfl (fun hlt => absurd hlt (by omega)) ?_
              refine LM.nil ?_
              refine QM.sub (e' := [(1, _), (2, _), (6, _), (7, _), (9, _)]) ⟨rfl, rfl, rfl, rfl, rfl, trivial⟩ ?_
              refine QM.then ?_
              refine wpM.seq ?_
              refine wpM.seq ?_
              refine wpM.region ?_
              first | refine LM.rd (om_ldW Tryd.isAgg53 Tryd.sizeOf53 rfl rfl) ?_ | refine LM.rd (om_ldA Tryd.isAgg53 Tryd.sizeOf53 rfl (vs := [_, _]) rfl ⟨rfl, rfl, trivial⟩) ?_
              refine LM.callT (oc_call (enters_fn Tryd.func36 (by kernel_rfl) rfl) rfl) EachT.mono (fun w hm hc hg => each_spec fv ad n cap w) ?_
              rintro u57 m57 ⟨c1, rfl, rfl, hc1⟩ -
              refine LM.nil ?_
              refine QM.sub (e' := [(1, _), (2, _), (6, _), (7, _), (9, _), (57, _)]) ⟨rfl, rfl, rfl, rfl, rfl, rfl, trivial⟩ ?_
              refine QM.then ?_
              refine wpM.block ?_
              refine wpM.toRange (α := Nat) (fun k kk => pB c1 fv ad n cap :: (iB b9 (kk : Nat) :: (m33 ++ (bB b2 false :: pB b1 fv ad n cap :: [])))) (0) (by (repeat' (first | exact SubM.nil _ | refine SubM.cons rfl ?_ | refine SubM.app ?_))) ?_
              refine wpM.range (α := Nat) (β := Unit) (enters_fn Tryd.func73 (by kernel_rfl) rfl) rfl (each_seq (xs := xs) hn (by omega)) (fun k kk => pB c1 fv ad n cap :: (iB b9 (kk : Nat) :: (m33 ++ (bB b2 false :: pB b1 fv ad n cap :: [])))) (fun _ _ => top) (fun k kk => kk = k ∧ k ≤ xs.length) (fun ⟨⟩ => []) (fun _ => top) (fun c ⟨⟩ => False) 0 rfl (fun _ h => h) ⟨rfl, Nat.zero_le _⟩ (by kernel_rfl) (by intro k av hav; obtain ⟨hkx, rfl⟩ := eachA_inv hav; rfl) (.inl trivial) (fun k a w hm hc _ _ => ⟨SubM.mem (by (repeat' (first | exact SubM.nil _ | refine SubM.cons rfl ?_ | refine SubM.app ?_))) w hm, hl.ext hc⟩) (fun _ _ _ _ => gl_top _) (fun _ _ _ => gl_top _) (fun k x _ => mm_cons rfl (mm_cons rfl (mm_app hs33.wlk (mm_cons rfl (mm_cons rfl mm_nil))))) (fun c z _ => by ((repeat (refine mm_cons rfl ?_)); exact fun p hp => .inl (by first | exact hp | (simp at hp; done) | (simp [hp]; done) | (simp at hp ⊢; first | exact .inl hp | exact hp | (simp [hp]; done))))) ?_ ?_ ?_ ?_
              ·
                rintro k av kk l D rc n1 W1 hD hll hput hrc hav ⟨hkk, hk⟩
                change wpM _ _ _ _ _ _ _ ((l, Obj.loop rc) :: ([(D, Obj.deferred (some []))] ++ (pB c1 fv ad n cap :: (iB b9 (kk : Nat) :: (m33 ++ (bB b2 false :: pB b1 fv ad n cap :: [])))))) _ _ _
                obtain ⟨hkx, rfl⟩ := eachA_inv hav
                refine wpM.seq ?_
                refine wpM.region ?_
                refine LM.val (ov_assign rfl) ?_
                refine LM.nil ?_
                refine QM.sub (e' := [(1, _), (2, _), (9, _), (10, _), (59, _)]) ⟨rfl, rfl, rfl, rfl, rfl, trivial⟩ ?_
                refine QM.then ?_
                refine wpM.region ?_
                refine LM.alloc Tryd.zeroValue69 rfl (fun b11 hb11 => ?_)
                first | refine LM.stW Tryd.sizeOf69 rfl rfl rfl rfl (by first | rfl | decide | (simp; done)) (fun hlt => absurd hlt (by omega)) ?_ | refine LM.st Tryd.sizeOf69 rfl rfl rfl (by first | decide | exact Nat.le_of_ble_eq_true rfl | (simp; done) | (simp; omega)) rfl (fun hlt => absurd hlt (by omega)) ?_
                refine LM.nil ?_
                refine QM.sub (e' := [(1, _), (2, _), (9, _), (10, _), (11, _)]) ⟨rfl, rfl, rfl, rfl, rfl, trivial⟩ ?_
                refine QM.toBodyF (hput k kk) hll ?_
                refine wpM.block ?_
                refine wpM.seq ?_
                refine wpM.seq ?_
                refine wpM.draw [(0, 0), (1, 1), (2, 0), (3, 0), (4, 1), (5, 0), (6, 1), (7, 0), (8, 0), (9, 1), (10, 0), (11, 0), (12, 0), (13, 0), (14, 1), (16, 0), (17, 1), (15, 2), (18, 2), (19, 0), (20, 0)] (by kernel_rfl) (by kernel_rfl) ?_
                refine LD.val rfl rfl (ov_move rfl) ?_
                first | refine LD.rd rfl rfl (om_ld Tryd.isAgg3 rfl rfl) ?_
                refine LD.val rfl rfl (ov_neq rfl rfl) ?_
                refine LD.val rfl rfl (ov_move rfl) ?_
                first | refine LD.splitD (t := 63) rfl (fun h7 => ?_) (fun h7 => ?_) | refine LD.splitB (t := 63) rfl (fun h7 => ?_) (fun h7 => ?_)
                ·
                  exfalso; subst hkk; simp at h7
                ·
                  first | refine LD.rd rfl ⟨63, _, rfl, rfl, rfl⟩ (om_ldW Tryd.isAgg69 Tryd.sizeOf69 rfl rfl) ?_ | refine LD.rd rfl ⟨63, _, rfl, rfl, rfl⟩ (om_ldA Tryd.isAgg69 Tryd.sizeOf69 rfl (vs := [_, _, _]) rfl ⟨rfl, rfl, rfl, trivial⟩) ?_
                  refine LD.val rfl ⟨63, _, rfl, rfl, rfl⟩ (ov_field Tryd.underlying53 rfl Tryd.sizeOf51 rfl (k := 1) rfl rfl) ?_
                  first | refine LD.rd rfl ⟨63, _, rfl, rfl, rfl⟩ (om_ld Tryd.isAgg51 rfl rfl) ?_
                  refine LD.val rfl ⟨63, _, rfl, rfl, rfl⟩ (ov_move rfl) ?_
                  first | refine LD.val rfl ⟨63, _, rfl, rfl, rfl⟩ (ov_idxSN (by first | exact Sr.spt (by assumption) | exact Sl.spt (by assumption)) Tryd.underlying51 Tryd.sizeOf69 rfl rfl (by omega)) ?_ | refine LD.val rfl ⟨63, _, rfl, rfl, rfl⟩ (ov_idxS (by first | exact Sr.spt (by assumption) | exact Sl.spt (by assumption)) Tryd.underlying51 Tryd.sizeOf69 rfl rfl (by omega)) ?_ | refine LD.val rfl ⟨63, _, rfl, rfl, rfl⟩ (ov_idx Tryd.underlying51 Tryd.sizeOf69 rfl rfl (by omega)) ?_
                  first | refine LD.rd rfl ⟨63, _, rfl, rfl, rfl⟩ (om_slA (by assumption) (by intro _; rfl) Tryd.isAgg69 Tryd.sizeOf69 rfl (by exact getq default (by first | omega | (simp only [List.length_set, List.length_append, List.length_cons, List.length_nil]; omega)))) ?_ | refine LD.rdC rfl ⟨63, _, rfl, rfl, rfl⟩ (om_srEA (by assumption) (by intro _; rfl) Tryd.isAgg69 Tryd.sizeOf69 rfl (by exact getq default (by first | omega | (simp only [List.length_set, List.length_append, List.length_cons, List.length_nil]; omega))) id) ?_ | refine LD.rd rfl ⟨63, _, rfl, rfl, rfl⟩ (om_ldW Tryd.isAgg69 Tryd.sizeOf69 rfl rfl) ?_ | refine LD.rd rfl ⟨63, _, rfl, rfl, rfl⟩ (om_ldA Tryd.isAgg69 Tryd.sizeOf69 rfl (vs := [_, _, _]) rfl ⟨rfl, rfl, rfl, trivial⟩) ?_
                  refine LD.val rfl ⟨63, _, rfl, rfl, rfl⟩ (ov_aneq Tryd.underlying69 (by kernel_rfl) (by kernel_rfl) (by decide) rfl rfl (by rfl) ⟨(by first | rfl | trivial), (by first | rfl | trivial), (by first | rfl | trivial), trivial⟩) ?_
                  refine LD.val rfl rfl (ov_pickF rfl rfl) ?_
                  refine LD.val rfl rfl (ov_move rfl) ?_
                  first | refine LD.splitD (t := 72) rfl (fun h8 => ?_) (fun h8 => ?_) | refine LD.splitB (t := 72) rfl (fun h8 => ?_) (fun h8 => ?_)
                  ·
                    exfalso; rw [fO_veqs] at h8; simp at h8
                  ·
                    refine LD.val rfl ⟨72, _, rfl, rfl, rfl⟩ (ov_field Tryd.underlying69 rfl Tryd.sizeOf3 rfl (k := 0) rfl rfl) ?_
                    first | refine LD.rd rfl ⟨72, _, rfl, rfl, rfl⟩ (om_ld Tryd.isAgg3 rfl rfl) ?_
                    refine LD.val rfl ⟨72, _, rfl, rfl, rfl⟩ (ov_field Tryd.underlying69 rfl Tryd.sizeOf3 rfl (k := 0) rfl rfl) ?_
                    first | refine LD.rd rfl ⟨72, _, rfl, rfl, rfl⟩ (om_ld Tryd.isAgg3 rfl rfl) ?_
                    refine LD.callE rfl ⟨72, _, rfl, rfl, rfl⟩ (oc_call (enters_fn Tryd.func31 (by kernel_rfl) rfl) rfl) (fun w hm hc hg => name_spec _ w) ?_
                    refine LD.callE rfl ⟨72, _, rfl, rfl, rfl⟩ (oc_call (enters_fn Tryd.func32 (by kernel_rfl) rfl) rfl) (fun w hm hc hg => rname_spec _ w) ?_
                    refine LD.val rfl ⟨72, _, rfl, rfl, rfl⟩ (ov_sneqL rfl rfl) ?_
                    refine LD.val rfl rfl (ov_pickF rfl rfl) ?_
                    refine LD.nil ?_
                    refine QM.sub (e' := [(2, _), (9, _), (80, _)]) ⟨rfl, rfl, rfl, trivial⟩ ?_
                    refine QM.then ?_
                    first | refine wpM.condD rfl (fun h9 => ?_) (fun h9 => ?_) | refine wpM.condB rfl (fun h9 => ?_) (fun h9 => ?_)
                    ·
                      exfalso; simp at h9
                    ·
                      refine wpM.skip ?_
                      refine QM.then ?_
                      refine wpM.region ?_
                      first | refine LM.rd (om_ld Tryd.isAgg3 rfl rfl) ?_
                      refine LM.val (ov_add64 rfl rfl (by omega)) ?_
                      refine LM.st Tryd.sizeOf3 rfl rfl rfl (by first | decide | exact Nat.le_of_ble_eq_true rfl | (simp; done) | (simp; omega)) rfl (fun hlt => absurd hlt (by omega)) ?_
                      refine LM.nil ?_
                      refine QM.sub (e' := []) trivial ?_
                      refine QM.block_normal ?_
                      -- next1: h1- h2- h3- h4- h5- h6- h7- h8- h9-
                      refine QM.next (kk + 1) (SubM.mem (by (repeat' (first | exact SubM.nil _ | refine SubM.cons rfl ?_ | refine SubM.app ?_)))) (fun _ h => h) ?_
                      · omega
              ·
                rintro kk D0 hD0 ⟨hkk, hk⟩
                refine QM.sub (e' := [(1, _), (2, _), (6, _), (7, _), (9, _)]) ⟨rfl, rfl, rfl, rfl, rfl, trivial⟩ ?_
                refine QM.block_normal ?_
                refine QM.then ?_
                refine wpM.seq ?_
                refine wpM.seq ?_
                refine wpM.region ?_
                refine LM.val (ov_move rfl) ?_
                refine LM.val (ov_neq rfl rfl) ?_
                refine LM.nil ?_
                refine QM.sub (e' := [(1, _), (2, _), (7, _), (9, _), (84, _)]) ⟨rfl, rfl, rfl, rfl, rfl, trivial⟩ ?_
                refine QM.then ?_
                first | refine wpM.condD rfl (fun h10 => ?_) (fun h10 => ?_) | refine wpM.condB rfl (fun h10 => ?_) (fun h10 => ?_)
                ·
                  refine wpM.seq ?_
                  refine wpM.region ?_
                  first | refine LM.rd (om_ld Tryd.isAgg3 rfl rfl) ?_
                  refine LM.val (ov_field Tryd.underlying53 rfl Tryd.sizeOf51 rfl (k := 1) rfl rfl) ?_
                  first | refine LM.rd (om_ld Tryd.isAgg51 rfl rfl) ?_
                  refine LM.val (ov_len Tryd.underlying51 rfl) ?_
                  refine LM.val (ov_eql rfl rfl) ?_
                  refine LM.val (ov_move rfl) ?_
                  first | refine LM.splitD (t := 90) rfl (fun h11 => ?_) (fun h11 => ?_) | refine LM.splitB (t := 90) rfl (fun h11 => ?_) (fun h11 => ?_)
                  ·
                    refine LM.strip (t := 90) rfl rfl rfl ?_
                    refine LM.val (ov_move rfl) ?_
                    refine LM.strip (t := 90) rfl rfl rfl ?_
                    refine LM.val (ov_len Tryd.underlying24 rfl) ?_
                    refine LM.strip (t := 90) rfl rfl rfl ?_
                    refine LM.val (ov_eql rfl rfl) ?_
                    refine LM.val (ov_pickT rfl rfl) ?_
                    refine LM.st Tryd.sizeOf4 rfl rfl rfl (by first | decide | exact Nat.le_of_ble_eq_true rfl | (simp; done) | (simp; omega)) rfl (fun hlt => absurd hlt (by omega)) ?_
                    refine LM.nil ?_
                    refine QM.sub (e' := [(2, _)]) ⟨rfl, trivial⟩ ?_
                    refine QM.then ?_
                    refine wpM.ret ?_
                    refine QM.then_ret ?_
                    refine QM.leaveCDF (ds := [D0]) Tryd.results7 rfl (fun D h => by simp only [List.mem_cons, List.not_mem_nil, or_false] at h; omega) Tryd.isAgg4 rfl ?_
                    intro w' hm' hc'
                    -- leaf 3: h1- h2- h3- h4- h5- h6- h10+ h11+
                    refine ⟨?_, hc'⟩; have hm : mayB xs = false := (by cases hm : mayB xs with | false => rfl | true => exact absurd ((print_err fv xs).2 hm) h10); have hz : n33 = 0 := (by rw [hn33]; unfold wordsO; rw [hm]; rfl); show Value.bool (decide (((n33 : Nat) : Int) = 0)) = _; rw [hz]; rfl
                  ·
                    exfalso; rw [eachA_len] at hkk; omega
                ·
                  have hm0 : mayB xs = true := (print_err fv xs).1 (Classical.not_not.1 h10); have hW : wordsO fv xs = (wordsF fv xs, 0) := (by unfold wordsO; rw [if_pos hm0]); have hpar : parseO (wordsO fv xs).1 0 = (fv, xs, (((wordsF fv xs).length : Nat) : Int), 0) := (by rw [hW]; have := parse_words (fv := fv) (ws := wordsF fv xs) (tl := []) (p := 0) (by simp) hm0; simpa using this)
                  refine wpM.skip ?_
                  refine QM.then ?_
                  refine wpM.seq ?_
                  refine wpM.region ?_
                  refine LM.val (ov_move rfl) ?_
                  refine LM.callT (oc_call (enters_fn Tryd.func26 (by kernel_rfl) rfl) rfl) ParT.mono (fun w hm hc hg => parse_spec 0 w hn33 (by omega) (hs33.srM (by intro _; rfl) hm)) ?_
                  rw [hpar]; rintro u97 m97 ⟨ad97, n97, cap97, rfl, hn97, hs97⟩ -
                  refine LM.val (ov_move rfl) ?_
                  refine LM.val (ov_extract rfl rfl) ?_
                  refine LM.val (ov_extract rfl rfl) ?_
                  refine LM.val (ov_extract rfl rfl) ?_
                  refine LM.alloc Tryd.zeroValue53 rfl (fun b12 hb12 => ?_)
                  first | refine LM.stW Tryd.sizeOf53 rfl rfl rfl rfl (by first | rfl | decide | (simp; done)) (fun hlt => absurd hlt (by omega)) ?_ | refine LM.st Tryd.sizeOf53 rfl rfl rfl (by first | decide | exact Nat.le_of_ble_eq_true rfl | (simp; done) | (simp; omega)) rfl (fun hlt => absurd hlt (by omega)) ?_
                  refine LM.val (ov_assign rfl) ?_
                  refine LM.val (ov_assign rfl) ?_
                  refine LM.nil ?_
                  refine QM.sub (e' := [(1, _), (2, _), (7, _), (9, _), (12, _), (13, _), (14, _)]) ⟨rfl, rfl, rfl, rfl, rfl, rfl, rfl, trivial⟩ ?_
                  refine QM.then ?_
                  refine wpM.seq ?_
                  refine wpM.region ?_
                  first | refine LM.rd (om_ld Tryd.isAgg3 rfl rfl) ?_
                  refine LM.val (ov_field Tryd.underlying53 rfl Tryd.sizeOf51 rfl (k := 1) rfl rfl) ?_
                  first | refine LM.rd (om_ld Tryd.isAgg51 rfl rfl) ?_
                  refine LM.val (ov_len Tryd.underlying51 rfl) ?_
                  refine LM.val (ov_eql rfl rfl) ?_
                  refine LM.val (ov_move rfl) ?_
                  first | refine LM.splitD (t := 106) rfl (fun h12 => ?_) (fun h12 => ?_) | refine LM.splitB (t := 106) rfl (fun h12 => ?_) (fun h12 => ?_)
                  ·
                    refine LM.strip (t := 106) rfl rfl rfl ?_
                    refine LM.val (ov_move rfl) ?_
                    refine LM.strip (t := 106) rfl rfl rfl ?_
                    first | refine LM.rd (om_ldW Tryd.isAgg53 Tryd.sizeOf53 rfl rfl) ?_ | refine LM.rd (om_ldA Tryd.isAgg53 Tryd.sizeOf53 rfl (vs := [_, _]) rfl ⟨rfl, rfl, trivial⟩) ?_
                    refine LM.strip (t := 106) rfl rfl rfl ?_
                    refine LM.cS (oc_call (enters_fn Tryd.func37 (by kernel_rfl) rfl) rfl) (fun w hm hc hg => rwords_spec w hn (hl.ext hc) (by omega)) (fun ad109 n109 cap109 m109 hn109 hs109 => ?_)
                    refine LM.strip (t := 106) rfl rfl rfl ?_
                    refine LM.callE (oc_call (enters_fn Tryd.func16 (by kernel_rfl) rfl) rfl) (fun w hm hc hg => wsame_spec true w hn33 (hs33.srM (by intro _; rfl) hm) hn109 (hs109.srM (by intro _; rfl) hm) (by omega)) ?_
                    refine LM.val (ov_pickT rfl rfl) ?_
                    refine LM.val (ov_move rfl) ?_
                    first | refine LM.splitD (t := 112) rfl (fun h13 => ?_) (fun h13 => ?_) | refine LM.splitB (t := 112) rfl (fun h13 => ?_) (fun h13 => ?_)
                    ·
                      refine LM.strip (t := 112) rfl rfl rfl ?_
                      refine LM.val (ov_move rfl) ?_
                      refine LM.strip (t := 112) rfl rfl rfl ?_
                      refine LM.val (ov_eql rfl rfl) ?_
                      refine LM.val (ov_pickT rfl rfl) ?_
                      refine LM.val (ov_move rfl) ?_
                      first | refine LM.splitD (t := 116) rfl (fun h14 => ?_) (fun h14 => ?_) | refine LM.splitB (t := 116) rfl (fun h14 => ?_) (fun h14 => ?_)
                      ·
                        refine LM.strip (t := 116) rfl rfl rfl ?_
                        refine LM.val (ov_move rfl) ?_
                        refine LM.strip (t := 116) rfl rfl rfl ?_
                        refine LM.val (ov_move rfl) ?_
                        refine LM.strip (t := 116) rfl rfl rfl ?_
                        refine LM.val (ov_len Tryd.underlying24 rfl) ?_
                        refine LM.strip (t := 116) rfl rfl rfl ?_
                        refine LM.val (ov_eql rfl rfl) ?_
                        refine LM.val (ov_pickT rfl rfl) ?_
                        refine LM.val (ov_move rfl) ?_
                        first | refine LM.splitD (t := 122) rfl (fun h15 => ?_) (fun h15 => ?_) | refine LM.splitB (t := 122) rfl (fun h15 => ?_) (fun h15 => ?_)
                        ·
                          refine LM.strip (t := 122) rfl rfl rfl ?_
                          first | refine LM.rd (om_ldW Tryd.isAgg53 Tryd.sizeOf53 rfl rfl) ?_ | refine LM.rd (om_ldA Tryd.isAgg53 Tryd.sizeOf53 rfl (vs := [_, _]) rfl ⟨rfl, rfl, trivial⟩) ?_
                          refine LM.strip (t := 122) rfl rfl rfl ?_
                          first | refine LM.rd (om_ldW Tryd.isAgg53 Tryd.sizeOf53 rfl rfl) ?_ | refine LM.rd (om_ldA Tryd.isAgg53 Tryd.sizeOf53 rfl (vs := [_, _]) rfl ⟨rfl, rfl, trivial⟩) ?_
                          refine LM.strip (t := 122) rfl rfl rfl ?_
                          refine LM.callE (oc_call (enters_fn Tryd.func28 (by kernel_rfl) rfl) rfl) (fun w hm hc hg => rsame_spec w hn (hl.ext hc) hn97 (hs97.srM (by intro _; rfl) hm) (by omega)) ?_
                          refine LM.val (ov_pickT rfl rfl) ?_
                          refine LM.val (ov_move rfl) ?_
                          first | refine LM.splitD (t := 127) rfl (fun h16 => ?_) (fun h16 => ?_) | refine LM.splitB (t := 127) rfl (fun h16 => ?_) (fun h16 => ?_)
                          ·
                            refine LM.strip (t := 127) rfl rfl rfl ?_
                            first | refine LM.rd (om_ldW Tryd.isAgg53 Tryd.sizeOf53 rfl rfl) ?_ | refine LM.rd (om_ldA Tryd.isAgg53 Tryd.sizeOf53 rfl (vs := [_, _]) rfl ⟨rfl, rfl, trivial⟩) ?_
                            refine LM.strip (t := 127) rfl rfl rfl ?_
                            first | refine LM.rd (om_ldW Tryd.isAgg53 Tryd.sizeOf53 rfl rfl) ?_ | refine LM.rd (om_ldA Tryd.isAgg53 Tryd.sizeOf53 rfl (vs := [_, _]) rfl ⟨rfl, rfl, trivial⟩) ?_
                            refine LM.strip (t := 127) rfl rfl rfl ?_
                            refine LM.callE (oc_call (enters_fn Tryd.func30 (by kernel_rfl) rfl) rfl) (fun w hm hc hg => psame_spec w hn (hl.ext hc) hn97 (hs97.srM (by intro _; rfl) hm) (by omega)) ?_
                            refine LM.val (ov_pickT rfl rfl) ?_
                            refine LM.st Tryd.sizeOf4 rfl rfl rfl (by first | decide | exact Nat.le_of_ble_eq_true rfl | (simp; done) | (simp; omega)) rfl (fun hlt => absurd hlt (by omega)) ?_
                            refine LM.nil ?_
                            refine QM.sub (e' := [(2, _)]) ⟨rfl, trivial⟩ ?_
                            refine QM.then ?_
                            refine wpM.ret ?_
                            refine QM.leaveCDF (ds := [D0]) Tryd.results7 rfl (fun D h => by simp only [List.mem_cons, List.not_mem_nil, or_false] at h; omega) Tryd.isAgg4 rfl ?_
                            intro w' hm' hc'
                            -- leaf 4: h1- h2- h3- h4- h5- h6- h10- h12+ h13+ h14+ h15+ h16+
                            refine ⟨?_, hc'⟩; show Value.bool (decide (fv = fv) && decide (xs = xs)) = _; simp
                          ·
                            exfalso; simp at h16
                        ·
                          exfalso; exact h15 (by rw [hn33, hW])
                      ·
                        exfalso; simp at h14
                    ·
                      exfalso; rw [hW, sameW_refl] at h13; cases h13
                  ·
                    exfalso; rw [eachA_len] at hkk; omega
              ·
                rintro ⟨⟩ D0 hD0 hx
                first | exact hx.elim | cases hx.1
              ·
                rintro id ⟨⟩ D0 hD0 hx
                first | exact hx.elim | cases hx.1 | cases hx

end Go.Eng

