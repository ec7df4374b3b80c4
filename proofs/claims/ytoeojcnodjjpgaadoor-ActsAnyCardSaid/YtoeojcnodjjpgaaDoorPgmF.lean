/- The walks of a program's words, its text, and of programs that are the same. No condition. -/
import Derived.Test.YtoeojcnodjjpgaaDoorTokA
import Derived.Test.YtoeojcnodjjpgaaDoorPgmE
set_option linter.unusedVariables false
set_option linter.unusedSimpArgs false
namespace Go.Eng
open Go Go.Proofs Go.RowKit

deriving instance DecidableEq for COp
def mk3 (t : List UInt8) : Wrd := ⟨3, t, 0, 0⟩
def opW (o : COp) : List Wrd := ⟨1, nmT o.k, 0, 0⟩ :: ((if loA o.k ≠ -1 then [⟨2, [], o.a, 0⟩] else []) ++ ((if loB o.k ≠ -1 then [⟨2, [], o.b, 0⟩] else []) ++ [mk3 [59]]))
def wordsF (fv : Bool) (xs : List COp) : List Wrd := (⟨1, wProg, 0, 0⟩ :: (if fv then [⟨1, wForever, 0, 0⟩] else [])) ++ [mk3 [123]] ++ xs.flatMap opW ++ [mk3 [125]]
def wordsO (fv : Bool) (xs : List COp) : List Wrd × Int := if mayB xs then (wordsF fv xs, 0) else ([], 1)
def printO (fv : Bool) (xs : List COp) : List UInt8 × Int := if mayB xs then joinO (wordsF fv xs) else ([], 1)
def WoT (r : List Wrd × Int) (n0 : Nat) (v : Value) (m : Mem0) : Prop := ∃ ad n cap, v = .tuple #[.slice ad n cap, .int .i64 r.2] ∧ n = r.1.length ∧ Sl fW 72 4 n0 r.1 (.slice ad n cap) m
theorem WoT.mono {r : List Wrd × Int} : ∀ (k k' : Nat) u m, k' ≤ k → WoT r k u m → WoT r k' u m := fun k k' u m h ⟨ad, n, cap, h1, h2, h3⟩ => ⟨ad, n, cap, h1, h2, h3.mono h⟩
theorem nm_len (k : Int) : (nmT k).length ≤ 7 := by
  unfold nmT; split
  · rename_i h
    have : k = 0 ∨ k = 1 ∨ k = 2 ∨ k = 3 ∨ k = 4 ∨ k = 5 ∨ k = 6 ∨ k = 7 ∨ k = 8 ∨ k = 9 ∨ k = 10 ∨ k = 11 := by omega
    rcases this with rfl | rfl | rfl | rfl | rfl | rfl | rfl | rfl | rfl | rfl | rfl | rfl <;> decide
  · decide
theorem opW_len (o : COp) : (opW o).length ≤ 4 := by unfold opW; (repeat' split) <;> simp
theorem opW_text (o : COp) : ∀ x ∈ opW o, x.t.length ≤ 7 := by
  have := nm_len o.k
  intro x hx
  unfold opW mk3 at hx
  simp only [List.mem_cons, List.mem_append, List.not_mem_nil, or_false] at hx
  rcases hx with rfl | hx | hx | rfl
  · exact this
  · split at hx
    · simp at hx; subst hx; simp
    · cases hx
  · split at hx
    · simp at hx; subst hx; simp
    · cases hx
  · simp
theorem flat_len (xs : List COp) : (xs.flatMap opW).length ≤ 4 * xs.length := by
  induction xs with
  | nil => simp
  | cons o xs ih => have := opW_len o; rw [List.flatMap_cons, List.length_append, List.length_cons]; omega
theorem words_len (fv : Bool) (xs : List COp) : (wordsF fv xs).length ≤ 4 * xs.length + 4 := by
  have := flat_len xs
  unfold wordsF; simp only [List.length_append, List.length_cons, List.length_nil]; cases fv <;> simp only [if_true, if_false, Bool.false_eq_true, List.length_cons, List.length_nil] <;> omega
theorem words_text (fv : Bool) (xs : List COp) : ∀ x ∈ wordsF fv xs, x.t.length ≤ 7 := by
  intro x hx
  unfold wordsF mk3 at hx
  simp only [List.mem_cons, List.mem_append, List.not_mem_nil, or_false, List.mem_flatMap] at hx
  rcases hx with (((rfl | hx) | rfl) | ⟨o, _, hx⟩) | rfl
  · simp
  · cases fv
    · simp at hx
    · simp at hx; subst hx; simp
  · simp
  · exact opW_text o x hx
  · simp
theorem words_t8 (fv : Bool) (xs : List COp) : ∀ x ∈ (wordsO fv xs).1, x.t.length ≤ 9223372036854775807 := by
  unfold wordsO; split
  · intro x hx; have := words_text fv xs x hx; omega
  · intro x hx; cases hx
theorem words_l8 (fv : Bool) (xs : List COp) (h : xs.length ≤ 1000000) : (wordsO fv xs).1.length ≤ 1000000000 := by
  unfold wordsO; split
  · have := words_len fv xs; show (wordsF fv xs).length ≤ _; omega
  · show 0 ≤ _; omega
theorem flat_snoc {xs : List COp} {i : Nat} (h : i < xs.length) : (xs.take (i + 1)).flatMap opW = (xs.take i).flatMap opW ++ opW (xs.getD i default) := by
  rw [take_snoc default h, List.flatMap_append]; simp
theorem fO_veqs (a b : COp) : veqs (fO a) (fO b) = decide (a = b) := by
  cases a; cases b; simp only [veqs, veq, fO, Bool.and_true, COp.mk.injEq, Bool.decide_and]; rfl
theorem eq_at {xs ys : List COp} {i : Nat} (hl : xs.length = ys.length) (h : i < xs.length) (hp : xs.take i = ys.take i) (e : xs.getD i default = ys.getD i default) : xs.take (i + 1) = ys.take (i + 1) := by
  rw [take_snoc default h, take_snoc default (hl ▸ h), hp, e]
def awkL : List UInt8 := [112, 114, 111, 103, 32, 102, 111, 114, 101, 118, 101, 114, 32, 123, 32, 108, 111, 99, 107, 32, 48, 59, 32, 99, 111, 109, 112, 117, 116, 101, 32, 50, 59, 32, 117, 110, 108, 111, 99, 107, 32, 48, 59, 32, 125, 32, 120]
theorem awk_len : (scanO awkL).1.length = 14 := by decide +kernel
theorem awk_par0 : parseO (scanO awkL).1 0 = (true, [⟨2, 0, 0⟩, ⟨1, 2, 0⟩, ⟨6, 0, 0⟩], 13, 0) := by decide +kernel
theorem awk_par1 : parseO (scanO awkL).1 1 = (false, [], 1, 5) := by decide +kernel
theorem awk_pri : printO true [⟨2, 0, 0⟩, ⟨1, 2, 0⟩, ⟨6, 0, 0⟩] = (awkL.take 45, 0) := by decide +kernel
set_option maxRecDepth 100000 in
theorem pmark_spec (t : List UInt8) (w : World) : Ret Tryd.prog 71 #[vS t] w (fun v w' => v = .agg (fW (mk3 t)).toArray ∧ Ext w w') := by
  refine Ret.enterM (l := [vS t]) Tryd.func71 rfl Tryd.ntmps71 rfl ([]) (no) (Mem.nil w) ?_
  refine wpM.seq ?_
  refine wpM.region ?_
  refine LM.alloc Tryd.zeroValue72 rfl (fun b2 hb2 => ?_)
  refine LM.nil ?_
  refine QM.sub (e' := [(0, _), (2, _)]) ⟨rfl, rfl, trivial⟩ ?_
  refine QM.then ?_
  refine wpM.seq ?_
  refine wpM.region ?_
  refine LM.val (ov_move rfl) ?_
  refine LM.val (ov_build (cs := #[_, _, _, _]) rfl (by first | rfl | kernel_rfl)) ?_
  first | refine LM.stW Tryd.sizeOf72 rfl rfl rfl rfl (by first | rfl | decide | (simp; done)) (fun hlt => absurd hlt (by omega)) ?_ | refine LM.st Tryd.sizeOf72 rfl rfl rfl (by first | decide | exact Nat.le_of_ble_eq_true rfl | (simp; done) | (simp; omega)) rfl (fun hlt => absurd hlt (by omega)) ?_
  refine LM.nil ?_
  refine QM.sub (e' := [(2, _)]) ⟨rfl, trivial⟩ ?_
  refine QM.then ?_
  refine wpM.ret ?_
  refine QM.leaveCs (ds := ([])) (.inl rfl) [.cell 2 72] Tryd.results71 hd_nil (rc_w rfl Tryd.isAgg72 Tryd.sizeOf72 rfl rc_nil) ?_
  intro w' hm' hc'
  -- leaf 1: 
  first | exact ⟨rfl, hc'⟩ | (exfalso; first | omega | (simp at *; done) | (simp_all; done))

set_option maxRecDepth 100000 in
set_option maxHeartbeats 1000000 in
theorem words_spec {xs : List COp} {fv : Bool} {ad : Option Addr} {n cap : Nat} (w : World) (hn : n = xs.length) (hl : Sr fO 3 xs (.slice ad n cap) w) : Ret Tryd.prog 35 #[pV fv ad n cap] w (fun v w' => Ext w w' ∧ ∃ m, WoT (wordsO fv xs) w.heap.size v m ∧ Mem w' m ∧ ∀ p ∈ m, w.heap.size ≤ p.1) := by
  refine Ret.enterM (l := [pV fv ad n cap]) Tryd.func35 rfl Tryd.ntmps35 rfl ([]) (no) (Mem.nil w) ?_
  refine wpM.seq ?_
  refine wpM.region ?_
  refine LM.box rfl rfl (fun b1 hb1 => ?_)
  refine LM.val (ov_assign rfl) ?_
  refine LM.val (ov_assign rfl) ?_
  refine LM.nil ?_
  refine QM.sub (e' := [(1, _)]) ⟨rfl, trivial⟩ ?_
  refine QM.then ?_
  refine wpM.seq ?_
  refine wpM.seq ?_
  refine wpM.region ?_
  first | refine LM.rd (om_ldW Tryd.isAgg53 Tryd.sizeOf53 rfl rfl) ?_ | refine LM.rd (om_ldA Tryd.isAgg53 Tryd.sizeOf53 rfl (vs := [_, _]) rfl ⟨rfl, rfl, trivial⟩) ?_
  refine LM.callE (oc_call (enters_fn Tryd.func29 (by kernel_rfl) rfl) rfl) (fun w hm hc hg => pmay_spec w hn (hl.ext hc)) ?_
  first | refine LM.val (ov_notD rfl) ?_ | refine LM.val (ov_not rfl) ?_
  refine LM.nil ?_
  refine QM.sub (e' := [(1, _), (11, _)]) ⟨rfl, rfl, trivial⟩ ?_
  refine QM.then ?_
  first | refine wpM.condD rfl (fun h1 => ?_) (fun h1 => ?_) | refine wpM.condB rfl (fun h1 => ?_) (fun h1 => ?_)
  ·
    refine wpM.seq ?_
    refine wpM.region ?_
    refine LM.val (ov_assign rfl) ?_
    refine LM.val (ov_assign rfl) ?_
    refine LM.nil ?_
    refine QM.sub (e' := [(2, _), (3, _)]) ⟨rfl, rfl, trivial⟩ ?_
    refine QM.then ?_
    refine wpM.ret ?_
    refine QM.then_ret ?_
    refine QM.leave (.inl rfl) [.tmp 2, .tmp 3] Tryd.results35 rfl ?_
    intro w' hm' hc' hg'
    -- leaf 1: h1+
    have hm : mayB xs = false := (by simpa using h1); have hw : wordsO fv xs = ([], 1) := (by unfold wordsO; rw [if_neg (by rw [hm]; simp)]); rw [hw]; exact ⟨hc', [], ⟨none, 0, 0, rfl, rfl, .nil _ _ _ _⟩, Mem.nil _, fun p hp => by cases hp⟩
  ·
    have hxl : xs.length ≤ 12 := (by have hm : mayB xs = true := (by simpa using h1); unfold mayB at hm; simp only [Bool.and_eq_true, decide_eq_true_eq] at hm; omega)
    refine wpM.skip ?_
    refine QM.then ?_
    refine wpM.seq ?_
    refine wpM.region ?_
    refine LM.val (ov_build (cs := #[_, _, _, _]) rfl (by first | rfl | kernel_rfl)) ?_
    refine LM.single Tryd.underlying24 Tryd.sizeOf72 Tryd.zeroValue72 rfl rfl rfl rfl rfl (fun b13 hb13 => ?_)
    refine LM.val (ov_assign rfl) ?_
    refine LM.nil ?_
    refine QM.sub (e' := [(1, _), (4, _)]) ⟨rfl, rfl, trivial⟩ ?_
    refine QM.then ?_
    refine wpM.seq ?_
    refine wpM.seq ?_
    refine wpM.region ?_
    have hlen13 : [(⟨1, wProg, 0, 0⟩ : Wrd)].length = 1 := rfl; change LM _ _ _ _ _ _ _ _ ((b13, Obj.cells (arr fW [(⟨1, wProg, 0, 0⟩ : Wrd)] []) 72 (0, 0)) :: _) _ _ _; have hs13 : Sl fW 72 4 w.heap.size [(⟨1, wProg, 0, 0⟩ : Wrd)] (.slice (some ⟨b13, 0, none⟩) 1 1) [(b13, .cells (arr fW [(⟨1, wProg, 0, 0⟩ : Wrd)] []) 72 (0, 0))] := .inr ⟨b13, 1, [], hb13, rfl, rfl, by decide, by unfold maxLen; decide, rfl⟩
    refine LM.val (ov_field Tryd.underlying53 rfl Tryd.sizeOf4 rfl (k := 0) rfl rfl) ?_
    first | refine LM.rd (om_ld Tryd.isAgg4 rfl rfl) ?_
    refine LM.nil ?_
    refine QM.sub (e' := [(1, _), (4, _), (15, _)]) ⟨rfl, rfl, rfl, trivial⟩ ?_
    refine QM.then ?_
    refine wpM.joinK (α := List Wrd × Option Addr × Nat × Nat × Mem0) (fun ⟨l0, ad0, n0, cap0, m0⟩ => [(4, .slice ad0 n0 cap0)]) [(1, _)] (fun ⟨l0, ad0, n0, cap0, m0⟩ => m0 ++ (pB b1 fv ad n cap :: [])) (fun ⟨l0, ad0, n0, cap0, m0⟩ => l0.length ≤ 2 ∧ l0 = ⟨1, wProg, 0, 0⟩ :: (if fv then [⟨1, wForever, 0, 0⟩] else []) ∧ n0 = l0.length ∧ Sl fW 72 4 w.heap.size l0 (.slice ad0 n0 cap0) m0) ⟨rfl, trivial⟩ ?_ ?_
    ·
      first | refine wpM.condD rfl (fun h2 => ?_) (fun h2 => ?_) | refine wpM.condB rfl (fun h2 => ?_) (fun h2 => ?_)
      ·
        refine wpM.region ?_
        refine LM.val (ov_move rfl) ?_
        refine LM.val (ov_build (cs := #[_, _, _, _]) rfl (by first | rfl | kernel_rfl)) ?_
        refine LM.single Tryd.underlying24 Tryd.sizeOf72 Tryd.zeroValue72 rfl rfl rfl rfl rfl (fun b18 hb18 => ?_)
        refine LM.app (a := (⟨1, wForever, 0, 0⟩ : Wrd)) Tryd.underlying24 Tryd.typeInfo72 rfl rfl rfl rfl rfl rfl rfl (by assumption) (by rfl) (by intro _; rfl) (by intro _ u hu; simp [fW] at hu; (repeat (first | (rcases hu with rfl | hu) | subst hu | rfl))) (by first | exact Nat.le_refl _ | omega) (fun p hp hlt => absurd hlt (Nat.not_lt_of_le (Sl.ge (by assumption) p hp))) (by first | omega | (unfold maxLen; omega)) (by simp only [Tryd.t72]; omega) (fun ad19 n19 cap19 m19 hn19 hs19 hin19 => ?_)
        refine LM.val (ov_assign rfl) ?_
        refine LM.nil ?_
        refine QM.sub (e' := [(1, _), (4, _)]) ⟨rfl, rfl, trivial⟩ ?_
        -- meet1: h1- h2+
        refine QM.meetK (([(⟨1, wProg, 0, 0⟩ : Wrd)] ++ [⟨1, wForever, 0, 0⟩], ad19, n19, cap19, m19)) ⟨(by first | rfl | exact lk rfl (by congr 1; omega) | exact lk rfl (by simp)), rfl, trivial⟩ (by (repeat' (first | exact SubM.nil _ | refine SubM.cons rfl ?_ | refine SubM.app ?_))) ?_
        · exact ⟨by simp, by rw [if_pos h2]; rfl, by rw [hn19]; rfl, hs19⟩
      ·
        refine wpM.skip ?_
        -- meet2: h1- h2-
        refine QM.meetK (([(⟨1, wProg, 0, 0⟩ : Wrd)], some ⟨b13, 0, none⟩, 1, 1, [(b13, .cells (arr fW [(⟨1, wProg, 0, 0⟩ : Wrd)] []) 72 (0, 0))])) ⟨(by first | rfl | exact lk rfl (by congr 1; omega) | exact lk rfl (by simp)), rfl, trivial⟩ (by (repeat' (first | exact SubM.nil _ | refine SubM.cons rfl ?_ | refine SubM.app ?_))) ?_
        · exact ⟨by decide, by rw [if_neg (by rw [h2]; simp)], rfl, hs13⟩
    ·
      rintro ⟨l0, ad0, n0, cap0, m0⟩ ⟨hz0, hl0, hn0, hs0⟩
      change QM _ _ _ _ _ (m0 ++ (pB b1 fv ad n cap :: [])) _ _ _
      refine QM.then ?_
      refine wpM.seq ?_
      refine wpM.region ?_
      refine LM.val (ov_move rfl) ?_
      refine LM.callE (oc_call (enters_fn Tryd.func71 (by kernel_rfl) rfl) rfl) (fun w hm hc hg => pmark_spec [123] w) ?_
      refine LM.single Tryd.underlying24 Tryd.sizeOf72 Tryd.zeroValue72 rfl rfl rfl rfl rfl (fun b22 hb22 => ?_)
      refine LM.app (a := mk3 [123]) Tryd.underlying24 Tryd.typeInfo72 rfl rfl rfl rfl rfl rfl rfl (by assumption) (by rfl) (by intro _; rfl) (by intro _ u hu; simp [fW] at hu; (repeat (first | (rcases hu with rfl | hu) | subst hu | rfl))) (by first | exact Nat.le_refl _ | omega) (fun p hp hlt => absurd hlt (Nat.not_lt_of_le (Sl.ge (by assumption) p hp))) (by first | omega | (unfold maxLen; omega)) (by simp only [Tryd.t72]; omega) (fun ad23 n23 cap23 m23 hn23 hs23 hin23 => ?_)
      refine LM.val (ov_assign rfl) ?_
      refine LM.nil ?_
      refine QM.sub (e' := [(1, _), (4, _)]) ⟨rfl, rfl, trivial⟩ ?_
      refine QM.then ?_
      refine wpM.seq ?_
      refine wpM.seq ?_
      refine wpM.region ?_
      refine LM.val (ov_field Tryd.underlying53 rfl Tryd.sizeOf51 rfl (k := 1) rfl rfl) ?_
      first | refine LM.rd (om_ld Tryd.isAgg51 rfl rfl) ?_
      refine LM.val (ov_len Tryd.underlying51 rfl) ?_
      refine LM.val (ov_move rfl) ?_
      refine LM.nil ?_
      refine QM.sub (e' := [(4, _), (25, _), (26, _), (27, _)]) ⟨rfl, rfl, rfl, rfl, trivial⟩ ?_
      refine QM.then ?_
      refine wpM.block ?_
      refine wpM.loopK0 (α := Nat × List Wrd × Option Addr × Nat × Nat × Mem0) (fun ⟨i, l1, ad1, n1, cap1, m1⟩ => [(4, .slice ad1 n1 cap1), (27, .int .i64 (i : Nat))]) [(25, _), (26, _)] (fun ⟨i, l1, ad1, n1, cap1, m1⟩ => m1 ++ (pB b1 fv ad n cap :: [])) (fun ⟨i, l1, ad1, n1, cap1, m1⟩ => i ≤ xs.length ∧ l1.length ≤ 3 + 4 * i ∧ l1 = l0 ++ [mk3 [123]] ++ (xs.take i).flatMap opW ∧ n1 = l1.length ∧ Sl fW 72 4 w.heap.size l1 (.slice ad1 n1 cap1) m1) (fun ⟨i, l1, ad1, n1, cap1, m1⟩ => xs.length - i) ((0, l0 ++ [mk3 [123]], ad23, n23, cap23, m23)) ⟨(by first | rfl | exact lk rfl (by congr 1; omega) | exact lk rfl (by simp)), (by first | rfl | exact lk rfl (by congr 1; omega) | exact lk rfl (by simp)), rfl, rfl, trivial⟩ (by (repeat' (first | exact SubM.nil _ | refine SubM.cons rfl ?_ | refine SubM.app ?_))) ⟨Nat.zero_le _, by simp; omega, by simp, by rw [hn23]; simp, hs23⟩ ?_
      rintro ⟨i, l1, ad1, n1, cap1, m1⟩ ⟨hi, hz1, hl1, hn1, hs1⟩
      change wpM _ _ _ _ _ _ _ (m1 ++ (pB b1 fv ad n cap :: [])) _ _ _
      refine wpM.seq ?_
      refine wpM.region ?_
      refine LM.val (ov_lss rfl rfl) ?_
      refine LM.nil ?_
      refine QM.sub (e' := [(4, _), (25, _), (26, _), (27, _), (28, _)]) ⟨rfl, rfl, rfl, rfl, rfl, trivial⟩ ?_
      refine QM.then ?_
      refine wpM.seq ?_
      first | refine wpM.condD rfl (fun h3 => ?_) (fun h3 => ?_) | refine wpM.condB rfl (fun h3 => ?_) (fun h3 => ?_)
      ·
        refine wpM.skip ?_
        refine QM.then ?_
        refine wpM.seq ?_
        refine wpM.block ?_
        refine wpM.seq ?_
        refine wpM.region ?_
        first | refine LM.val (ov_idxSN (by first | exact Sr.spt (by assumption) | exact Sl.spt (by assumption)) Tryd.underlying51 Tryd.sizeOf69 rfl rfl (by omega)) ?_ | refine LM.val (ov_idxS (by first | exact Sr.spt (by assumption) | exact Sl.spt (by assumption)) Tryd.underlying51 Tryd.sizeOf69 rfl rfl (by omega)) ?_ | refine LM.val (ov_idx Tryd.underlying51 Tryd.sizeOf69 rfl rfl (by omega)) ?_
        first | refine LM.rd (om_slA (by assumption) (by intro _; rfl) Tryd.isAgg69 Tryd.sizeOf69 rfl (by exact getq default (by first | omega | (simp only [List.length_set, List.length_append, List.length_cons, List.length_nil]; omega)))) ?_ | refine LM.rdC (om_srEA (by assumption) (by intro _; rfl) Tryd.isAgg69 Tryd.sizeOf69 rfl (by exact getq default (by first | omega | (simp only [List.length_set, List.length_append, List.length_cons, List.length_nil]; omega))) id) ?_ | refine LM.rd (om_ldW Tryd.isAgg69 Tryd.sizeOf69 rfl rfl) ?_ | refine LM.rd (om_ldA Tryd.isAgg69 Tryd.sizeOf69 rfl (vs := [_, _, _]) rfl ⟨rfl, rfl, rfl, trivial⟩) ?_
        refine LM.alloc Tryd.zeroValue69 rfl (fun b6 hb6 => ?_)
        first | refine LM.stW Tryd.sizeOf69 rfl rfl rfl rfl (by first | rfl | decide | (simp; done)) (fun hlt => absurd hlt (by omega)) ?_ | refine LM.st Tryd.sizeOf69 rfl rfl rfl (by first | decide | exact Nat.le_of_ble_eq_true rfl | (simp; done) | (simp; omega)) rfl (fun hlt => absurd hlt (by omega)) ?_
        refine LM.nil ?_
        refine QM.sub (e' := [(4, _), (6, _), (25, _), (26, _), (27, _)]) ⟨rfl, rfl, rfl, rfl, rfl, trivial⟩ ?_
        refine QM.then ?_
        refine wpM.seq ?_
        refine wpM.region ?_
        refine LM.val (ov_move rfl) ?_
        refine LM.val (ov_field Tryd.underlying69 rfl Tryd.sizeOf3 rfl (k := 0) rfl rfl) ?_
        first | refine LM.rd (om_ld Tryd.isAgg3 rfl rfl) ?_
        refine LM.callE (oc_call (enters_fn Tryd.func31 (by kernel_rfl) rfl) rfl) (fun w hm hc hg => name_spec _ w) ?_
        refine LM.val (ov_build (cs := #[_, _, _, _]) rfl (by first | rfl | kernel_rfl)) ?_
        refine LM.single Tryd.underlying24 Tryd.sizeOf72 Tryd.zeroValue72 rfl rfl rfl rfl rfl (fun b36 hb36 => ?_)
        refine LM.app (a := (⟨1, nmT (xs.getD i default).k, 0, 0⟩ : Wrd)) Tryd.underlying24 Tryd.typeInfo72 rfl rfl rfl rfl rfl rfl rfl (by assumption) (by rfl) (by intro _; rfl) (by intro _ u hu; simp [fW] at hu; (repeat (first | (rcases hu with rfl | hu) | subst hu | rfl))) (by first | exact Nat.le_refl _ | omega) (fun p hp hlt => absurd hlt (Nat.not_lt_of_le (Sl.ge (by assumption) p hp))) (by first | omega | (unfold maxLen; omega)) (by simp only [Tryd.t72]; omega) (fun ad37 n37 cap37 m37 hn37 hs37 hin37 => ?_)
        refine LM.val (ov_assign rfl) ?_
        refine LM.nil ?_
        refine QM.sub (e' := [(4, _), (6, _), (25, _), (26, _), (27, _)]) ⟨rfl, rfl, rfl, rfl, rfl, trivial⟩ ?_
        refine QM.then ?_
        refine wpM.seq ?_
        refine wpM.region ?_
        refine LM.val (ov_field Tryd.underlying69 rfl Tryd.sizeOf3 rfl (k := 0) rfl rfl) ?_
        first | refine LM.rd (om_ld Tryd.isAgg3 rfl rfl) ?_
        refine LM.callE (oc_call (enters_fn Tryd.func72 (by kernel_rfl) rfl) rfl) (fun w hm hc hg => spans_spec _ w) ?_
        refine LM.val (ov_move rfl) ?_
        refine LM.val (ov_extract rfl rfl) ?_
        refine LM.val (ov_extract rfl rfl) ?_
        refine LM.alloc Tryd.zeroValue114 rfl (fun b7 hb7 => ?_)
        refine LM.alloc Tryd.zeroValue114 rfl (fun b8 hb8 => ?_)
        first | refine LM.stW Tryd.sizeOf114 rfl rfl rfl rfl (by first | rfl | decide | (simp; done)) (fun hlt => absurd hlt (by omega)) ?_ | refine LM.st Tryd.sizeOf114 rfl rfl rfl (by first | decide | exact Nat.le_of_ble_eq_true rfl | (simp; done) | (simp; omega)) rfl (fun hlt => absurd hlt (by omega)) ?_
        first | refine LM.stW Tryd.sizeOf114 rfl rfl rfl rfl (by first | rfl | decide | (simp; done)) (fun hlt => absurd hlt (by omega)) ?_ | refine LM.st Tryd.sizeOf114 rfl rfl rfl (by first | decide | exact Nat.le_of_ble_eq_true rfl | (simp; done) | (simp; omega)) rfl (fun hlt => absurd hlt (by omega)) ?_
        refine LM.nil ?_
        refine QM.sub (e' := [(4, _), (6, _), (7, _), (8, _), (25, _), (26, _), (27, _)]) ⟨rfl, rfl, rfl, rfl, rfl, rfl, rfl, trivial⟩ ?_
        refine QM.then ?_
        refine wpM.seq ?_
        refine wpM.seq ?_
        refine wpM.region ?_
        refine LM.val (ov_field Tryd.underlying114 rfl Tryd.sizeOf3 rfl (k := 0) rfl rfl) ?_
        first | refine LM.rd (om_ld Tryd.isAgg3 rfl rfl) ?_
        refine LM.val (ov_neq rfl rfl) ?_
        refine LM.nil ?_
        refine QM.sub (e' := [(4, _), (6, _), (8, _), (25, _), (26, _), (27, _), (46, _)]) ⟨rfl, rfl, rfl, rfl, rfl, rfl, rfl, trivial⟩ ?_
        refine QM.then ?_
        refine wpM.joinK (α := List Wrd × Option Addr × Nat × Nat × Mem0) (fun ⟨l2, ad2, n2, cap2, m2⟩ => [(4, .slice ad2 n2 cap2)]) [(6, _), (8, _), (25, _), (26, _), (27, _)] (fun ⟨l2, ad2, n2, cap2, m2⟩ => m2 ++ ((b8, .cells #[.int .i64 (loB (xs.getD i default).k), .int .i64 (hiB (xs.getD i default).k)] 114 (0, 0)) :: (b6, .cells (fO (xs.getD i default)).toArray 69 (0, 0)) :: pB b1 fv ad n cap :: [])) (fun ⟨l2, ad2, n2, cap2, m2⟩ => l2.length ≤ 5 + 4 * i ∧ l2 = l1 ++ [⟨1, nmT (xs.getD i default).k, 0, 0⟩] ++ (if loA (xs.getD i default).k ≠ -1 then [⟨2, [], (xs.getD i default).a, 0⟩] else []) ∧ n2 = l2.length ∧ Sl fW 72 4 w.heap.size l2 (.slice ad2 n2 cap2) m2) ⟨rfl, rfl, rfl, rfl, rfl, trivial⟩ ?_ ?_
        ·
          first | refine wpM.condD rfl (fun h4 => ?_) (fun h4 => ?_) | refine wpM.condB rfl (fun h4 => ?_) (fun h4 => ?_)
          ·
            refine wpM.region ?_
            have hlp : (l1 ++ [(⟨1, nmT (xs.getD i default).k, 0, 0⟩ : Wrd)]).length = l1.length + 1 := (by simp)
            refine LM.val (ov_move rfl) ?_
            refine LM.val (ov_field Tryd.underlying69 rfl Tryd.sizeOf3 rfl (k := 1) rfl rfl) ?_
            first | refine LM.rd (om_ld Tryd.isAgg3 rfl rfl) ?_
            refine LM.val (ov_build (cs := #[_, _, _, _]) rfl (by first | rfl | kernel_rfl)) ?_
            refine LM.single Tryd.underlying24 Tryd.sizeOf72 Tryd.zeroValue72 rfl rfl rfl rfl rfl (fun b51 hb51 => ?_)
            refine LM.app (a := (⟨2, [], (xs.getD i default).a, 0⟩ : Wrd)) Tryd.underlying24 Tryd.typeInfo72 rfl rfl rfl rfl rfl rfl rfl (by assumption) (by rfl) (by intro _; rfl) (by intro _ u hu; simp [fW] at hu; (repeat (first | (rcases hu with rfl | hu) | subst hu | rfl))) (by first | exact Nat.le_refl _ | omega) (fun p hp hlt => absurd hlt (Nat.not_lt_of_le (Sl.ge (by assumption) p hp))) (by first | omega | (unfold maxLen; omega)) (by simp only [Tryd.t72]; omega) (fun ad52 n52 cap52 m52 hn52 hs52 hin52 => ?_)
            refine LM.val (ov_assign rfl) ?_
            refine LM.nil ?_
            refine QM.sub (e' := [(4, _), (6, _), (8, _), (25, _), (26, _), (27, _)]) ⟨rfl, rfl, rfl, rfl, rfl, rfl, trivial⟩ ?_
            -- meet1: h1- h3+ h4+
            refine QM.meetK ((l1 ++ [(⟨1, nmT (xs.getD i default).k, 0, 0⟩ : Wrd)] ++ [⟨2, [], (xs.getD i default).a, 0⟩], ad52, n52, cap52, m52)) ⟨(by first | rfl | exact lk rfl (by congr 1; omega) | exact lk rfl (by simp)), rfl, rfl, rfl, rfl, rfl, trivial⟩ (by (repeat' (first | exact SubM.nil _ | refine SubM.cons rfl ?_ | refine SubM.app ?_))) ?_
            · exact ⟨by simp; omega, by rw [if_pos h4], by rw [hn52]; simp, hs52⟩
          ·
            refine wpM.skip ?_
            -- meet2: h1- h3+ h4-
            refine QM.meetK ((l1 ++ [(⟨1, nmT (xs.getD i default).k, 0, 0⟩ : Wrd)], ad37, n37, cap37, m37)) ⟨(by first | rfl | exact lk rfl (by congr 1; omega) | exact lk rfl (by simp)), rfl, rfl, rfl, rfl, rfl, trivial⟩ (by (repeat' (first | exact SubM.nil _ | refine SubM.cons rfl ?_ | refine SubM.app ?_))) ?_
            · exact ⟨by simp; omega, by rw [if_neg h4]; simp, by rw [hn37]; simp, hs37⟩
        ·
          rintro ⟨l2, ad2, n2, cap2, m2⟩ ⟨hz2, hl2, hn2, hs2⟩
          change QM _ _ _ _ _ (m2 ++ ((b8, .cells #[.int .i64 (loB (xs.getD i default).k), .int .i64 (hiB (xs.getD i default).k)] 114 (0, 0)) :: (b6, .cells (fO (xs.getD i default)).toArray 69 (0, 0)) :: pB b1 fv ad n cap :: [])) _ _ _
          refine QM.then ?_
          refine wpM.seq ?_
          refine wpM.seq ?_
          refine wpM.region ?_
          refine LM.val (ov_field Tryd.underlying114 rfl Tryd.sizeOf3 rfl (k := 0) rfl rfl) ?_
          first | refine LM.rd (om_ld Tryd.isAgg3 rfl rfl) ?_
          refine LM.val (ov_neq rfl rfl) ?_
          refine LM.nil ?_
          refine QM.sub (e' := [(4, _), (6, _), (25, _), (26, _), (27, _), (55, _)]) ⟨rfl, rfl, rfl, rfl, rfl, rfl, trivial⟩ ?_
          refine QM.then ?_
          refine wpM.joinK (α := List Wrd × Option Addr × Nat × Nat × Mem0) (fun ⟨l3, ad3, n3, cap3, m3⟩ => [(4, .slice ad3 n3 cap3)]) [(25, _), (26, _), (27, _)] (fun ⟨l3, ad3, n3, cap3, m3⟩ => m3 ++ (pB b1 fv ad n cap :: [])) (fun ⟨l3, ad3, n3, cap3, m3⟩ => l3.length ≤ 6 + 4 * i ∧ l3 = l2 ++ (if loB (xs.getD i default).k ≠ -1 then [⟨2, [], (xs.getD i default).b, 0⟩] else []) ∧ n3 = l3.length ∧ Sl fW 72 4 w.heap.size l3 (.slice ad3 n3 cap3) m3) ⟨rfl, rfl, rfl, trivial⟩ ?_ ?_
          ·
            first | refine wpM.condD rfl (fun h5 => ?_) (fun h5 => ?_) | refine wpM.condB rfl (fun h5 => ?_) (fun h5 => ?_)
            ·
              refine wpM.region ?_
              refine LM.val (ov_move rfl) ?_
              refine LM.val (ov_field Tryd.underlying69 rfl Tryd.sizeOf3 rfl (k := 2) rfl rfl) ?_
              first | refine LM.rd (om_ld Tryd.isAgg3 rfl rfl) ?_
              refine LM.val (ov_build (cs := #[_, _, _, _]) rfl (by first | rfl | kernel_rfl)) ?_
              refine LM.single Tryd.underlying24 Tryd.sizeOf72 Tryd.zeroValue72 rfl rfl rfl rfl rfl (fun b60 hb60 => ?_)
              refine LM.app (a := (⟨2, [], (xs.getD i default).b, 0⟩ : Wrd)) Tryd.underlying24 Tryd.typeInfo72 rfl rfl rfl rfl rfl rfl rfl (by assumption) (by rfl) (by intro _; rfl) (by intro _ u hu; simp [fW] at hu; (repeat (first | (rcases hu with rfl | hu) | subst hu | rfl))) (by first | exact Nat.le_refl _ | omega) (fun p hp hlt => absurd hlt (Nat.not_lt_of_le (Sl.ge (by assumption) p hp))) (by first | omega | (unfold maxLen; omega)) (by simp only [Tryd.t72]; omega) (fun ad61 n61 cap61 m61 hn61 hs61 hin61 => ?_)
              refine LM.val (ov_assign rfl) ?_
              refine LM.nil ?_
              refine QM.sub (e' := [(4, _), (25, _), (26, _), (27, _)]) ⟨rfl, rfl, rfl, rfl, trivial⟩ ?_
              -- meet1: h1- h3+ h5+
              refine QM.meetK ((l2 ++ [(⟨2, [], (xs.getD i default).b, 0⟩ : Wrd)], ad61, n61, cap61, m61)) ⟨(by first | rfl | exact lk rfl (by congr 1; omega) | exact lk rfl (by simp)), rfl, rfl, rfl, trivial⟩ (by (repeat' (first | exact SubM.nil _ | refine SubM.cons rfl ?_ | refine SubM.app ?_))) ?_
              · exact ⟨by simp; omega, by rw [if_pos h5], by rw [hn61]; simp, hs61⟩
            ·
              refine wpM.skip ?_
              -- meet2: h1- h3+ h5-
              refine QM.meetK ((l2, ad2, n2, cap2, m2)) ⟨(by first | rfl | exact lk rfl (by congr 1; omega) | exact lk rfl (by simp)), rfl, rfl, rfl, trivial⟩ (by (repeat' (first | exact SubM.nil _ | refine SubM.cons rfl ?_ | refine SubM.app ?_))) ?_
              · exact ⟨by omega, by rw [if_neg h5]; simp, hn2, hs2⟩
          ·
            rintro ⟨l3, ad3, n3, cap3, m3⟩ ⟨hz3, hl3, hn3, hs3⟩
            change QM _ _ _ _ _ (m3 ++ (pB b1 fv ad n cap :: [])) _ _ _
            refine QM.then ?_
            refine wpM.region ?_
            refine LM.val (ov_move rfl) ?_
            refine LM.callE (oc_call (enters_fn Tryd.func71 (by kernel_rfl) rfl) rfl) (fun w hm hc hg => pmark_spec [59] w) ?_
            refine LM.single Tryd.underlying24 Tryd.sizeOf72 Tryd.zeroValue72 rfl rfl rfl rfl rfl (fun b64 hb64 => ?_)
            refine LM.app (a := mk3 [59]) Tryd.underlying24 Tryd.typeInfo72 rfl rfl rfl rfl rfl rfl rfl (by assumption) (by rfl) (by intro _; rfl) (by intro _ u hu; simp [fW] at hu; (repeat (first | (rcases hu with rfl | hu) | subst hu | rfl))) (by first | exact Nat.le_refl _ | omega) (fun p hp hlt => absurd hlt (Nat.not_lt_of_le (Sl.ge (by assumption) p hp))) (by first | omega | (unfold maxLen; omega)) (by simp only [Tryd.t72]; omega) (fun ad65 n65 cap65 m65 hn65 hs65 hin65 => ?_)
            refine LM.val (ov_assign rfl) ?_
            refine LM.nil ?_
            refine QM.sub (e' := [(4, _), (25, _), (26, _), (27, _)]) ⟨rfl, rfl, rfl, rfl, trivial⟩ ?_
            refine QM.block_normal ?_
            refine QM.then ?_
            refine wpM.region ?_
            refine LM.val (ov_add64 rfl rfl (by omega)) ?_
            refine LM.val (ov_move rfl) ?_
            refine LM.nil ?_
            refine QM.sub (e' := [(4, _), (25, _), (26, _), (27, _)]) ⟨rfl, rfl, rfl, rfl, trivial⟩ ?_
            -- again1: h1- h3+
            refine QM.againK ((i + 1, l3 ++ [mk3 [59]], ad65, n65, cap65, m65)) ⟨(by first | rfl | exact lk rfl (by congr 1; omega) | exact lk rfl (by simp)), (by first | rfl | exact lk rfl (by congr 1; omega) | exact lk rfl (by simp)), rfl, rfl, trivial⟩ (by (repeat' (first | exact SubM.nil _ | refine SubM.cons rfl ?_ | refine SubM.app ?_))) (fun _ h => h) ?_ ?_
            · exact ⟨by omega, by simp; omega, by rw [hl3, hl2, hl1, flat_snoc (by omega)]; simp [opW], by rw [hn65]; simp, hs65⟩
            · first | omega | (dsimp only; omega)
      ·
        refine wpM.exit ?_
        refine QM.then_exit ?_
        refine QM.then_exit ?_
        refine QM.block_hit ?_
        refine QM.then ?_
        refine wpM.seq ?_
        refine wpM.region ?_
        refine LM.val (ov_move rfl) ?_
        refine LM.callE (oc_call (enters_fn Tryd.func71 (by kernel_rfl) rfl) rfl) (fun w hm hc hg => pmark_spec [125] w) ?_
        refine LM.single Tryd.underlying24 Tryd.sizeOf72 Tryd.zeroValue72 rfl rfl rfl rfl rfl (fun b69 hb69 => ?_)
        refine LM.app (a := mk3 [125]) Tryd.underlying24 Tryd.typeInfo72 rfl rfl rfl rfl rfl rfl rfl (by assumption) (by rfl) (by intro _; rfl) (by intro _ u hu; simp [fW] at hu; (repeat (first | (rcases hu with rfl | hu) | subst hu | rfl))) (by first | exact Nat.le_refl _ | omega) (fun p hp hlt => absurd hlt (Nat.not_lt_of_le (Sl.ge (by assumption) p hp))) (by first | omega | (unfold maxLen; omega)) (by simp only [Tryd.t72]; omega) (fun ad70 n70 cap70 m70 hn70 hs70 hin70 => ?_)
        refine LM.val (ov_assign rfl) ?_
        refine LM.val (ov_assign rfl) ?_
        refine LM.nil ?_
        refine QM.sub (e' := [(2, _), (3, _)]) ⟨rfl, rfl, trivial⟩ ?_
        refine QM.then ?_
        refine wpM.ret ?_
        refine QM.leave (.inl rfl) [.tmp 2, .tmp 3] Tryd.results35 rfl ?_
        intro w' hm' hc' hg'
        -- leaf 2: h1- h3-
        have hm : mayB xs = true := (by simpa using h1); have hil : i = xs.length := (by omega); subst hil; rw [List.take_length] at hl1; have hw : wordsO fv xs = (l1 ++ [mk3 [125]], 0) := (by unfold wordsO wordsF; rw [if_pos hm, hl1, hl0]); rw [hw]; exact ⟨hc', m70, ⟨ad70, n70, cap70, rfl, by rw [hn70]; simp, hs70⟩, hm'.pick _, fun p hp => Sl.ge hs70 p hp⟩

set_option maxRecDepth 100000 in
theorem print_spec {xs : List COp} {fv : Bool} {ad : Option Addr} {n cap : Nat} (w : World) (hn : n = xs.length) (hl : Sr fO 3 xs (.slice ad n cap) w) (hx : xs.length ≤ 1000000) (hT : Tb w) : Ret Tryd.prog 33 #[pV fv ad n cap] w (fun v w' => v = .tuple #[vS (printO fv xs).1, .int .i64 (printO fv xs).2] ∧ Ext w w') := by
  refine Ret.enterM (l := [pV fv ad n cap]) Tryd.func33 rfl Tryd.ntmps33 rfl ([]) (no) (Mem.nil w) ?_
  refine wpM.seq ?_
  refine wpM.region ?_
  refine LM.box rfl rfl (fun b1 hb1 => ?_)
  refine LM.val (ov_assign rfl) ?_
  refine LM.val (ov_assign rfl) ?_
  refine LM.nil ?_
  refine QM.sub (e' := [(1, _)]) ⟨rfl, trivial⟩ ?_
  refine QM.then ?_
  refine wpM.seq ?_
  refine wpM.region ?_
  first | refine LM.rd (om_ldW Tryd.isAgg53 Tryd.sizeOf53 rfl rfl) ?_ | refine LM.rd (om_ldA Tryd.isAgg53 Tryd.sizeOf53 rfl (vs := [_, _]) rfl ⟨rfl, rfl, trivial⟩) ?_
  refine LM.callT (oc_call (enters_fn Tryd.func35 (by kernel_rfl) rfl) rfl) WoT.mono (fun w hm hc hg => words_spec w hn (hl.ext hc)) ?_
  rintro u8 m8 ⟨ad8, n8, cap8, rfl, hn8, hs8⟩ -
  refine LM.val (ov_move rfl) ?_
  refine LM.val (ov_extract rfl rfl) ?_
  refine LM.val (ov_extract rfl rfl) ?_
  refine LM.val (ov_assign rfl) ?_
  refine LM.val (ov_assign rfl) ?_
  refine LM.nil ?_
  refine QM.sub (e' := [(4, _), (5, _)]) ⟨rfl, rfl, trivial⟩ ?_
  refine QM.then ?_
  refine wpM.seq ?_
  refine wpM.seq ?_
  refine wpM.region ?_
  refine LM.val (ov_move rfl) ?_
  refine LM.val (ov_neq rfl rfl) ?_
  refine LM.nil ?_
  refine QM.sub (e' := [(4, _), (5, _), (12, _)]) ⟨rfl, rfl, rfl, trivial⟩ ?_
  refine QM.then ?_
  first | refine wpM.condD rfl (fun h1 => ?_) (fun h1 => ?_) | refine wpM.condB rfl (fun h1 => ?_) (fun h1 => ?_)
  ·
    refine wpM.seq ?_
    refine wpM.region ?_
    refine LM.val (ov_move rfl) ?_
    refine LM.val (ov_assign rfl) ?_
    refine LM.val (ov_assign rfl) ?_
    refine LM.nil ?_
    refine QM.sub (e' := [(2, _), (3, _)]) ⟨rfl, rfl, trivial⟩ ?_
    refine QM.then ?_
    refine wpM.ret ?_
    refine QM.then_ret ?_
    refine QM.leave (.inl rfl) [.tmp 2, .tmp 3] Tryd.results33 rfl ?_
    intro w' hm' hc' hg'
    -- leaf 1: h1+
    refine ⟨?_, hc'⟩; have hm : mayB xs = false := (by cases hm : mayB xs with | false => rfl | true => exact absurd (by unfold wordsO; rw [if_pos hm]) h1); unfold printO wordsO; rw [hm]; rfl
  ·
    refine wpM.skip ?_
    refine QM.then ?_
    refine wpM.seq ?_
    refine wpM.region ?_
    refine LM.val (ov_move rfl) ?_
    refine LM.callE (oc_call (enters_fn Tryd.func39 (by kernel_rfl) rfl) rfl) (fun w hm hc hg => join_spec w hn8 (words_l8 fv xs hx) (hs8.srM (by intro _; rfl) hm) (words_t8 fv xs) (hT.ext hc)) ?_
    refine LM.val (ov_extract rfl rfl) ?_
    refine LM.val (ov_extract rfl rfl) ?_
    refine LM.val (ov_assign rfl) ?_
    refine LM.val (ov_assign rfl) ?_
    refine LM.nil ?_
    refine QM.sub (e' := [(2, _), (3, _)]) ⟨rfl, rfl, trivial⟩ ?_
    refine QM.then ?_
    refine wpM.ret ?_
    refine QM.leave (.inl rfl) [.tmp 2, .tmp 3] Tryd.results33 rfl ?_
    intro w' hm' hc' hg'
    -- leaf 2: h1-
    refine ⟨?_, hc'⟩; have hm : mayB xs = true := (by cases hm : mayB xs with | true => rfl | false => exact absurd (show (wordsO fv xs).2 = 1 by unfold wordsO; rw [hm]; rfl) (by omega)); unfold printO wordsO; rw [hm]; rfl

set_option maxRecDepth 100000 in
theorem rsame_spec {xs ys : List COp} {f1 f2 : Bool} {ad1 ad2 : Option Addr} {n1 n2 cap1 cap2 : Nat} (w : World) (hn1 : n1 = xs.length) (hl1 : Sr fO 3 xs (.slice ad1 n1 cap1) w) (hn2 : n2 = ys.length) (hl2 : Sr fO 3 ys (.slice ad2 n2 cap2) w) (hx : xs.length ≤ 1000000000) : Ret Tryd.prog 28 #[pV f1 ad1 n1 cap1, pV f2 ad2 n2 cap2] w (fun v w' => v = .bool (decide (f1 = f2) && decide (xs = ys)) ∧ Ext w w') := by
  refine Ret.enterM (l := [pV f1 ad1 n1 cap1, pV f2 ad2 n2 cap2]) Tryd.func28 rfl Tryd.ntmps28 rfl ([]) (no) (Mem.nil w) ?_
  refine wpM.seq ?_
  refine wpM.region ?_
  refine LM.box rfl rfl (fun b2 hb2 => ?_)
  refine LM.box rfl rfl (fun b3 hb3 => ?_)
  refine LM.val (ov_assign rfl) ?_
  refine LM.nil ?_
  refine QM.sub (e' := [(2, _), (3, _)]) ⟨rfl, rfl, trivial⟩ ?_
  refine QM.then ?_
  refine wpM.seq ?_
  refine wpM.seq ?_
  refine wpM.region ?_
  refine LM.val (ov_field Tryd.underlying53 rfl Tryd.sizeOf4 rfl (k := 0) rfl rfl) ?_
  first | refine LM.rd (om_ld Tryd.isAgg4 rfl rfl) ?_
  refine LM.val (ov_field Tryd.underlying53 rfl Tryd.sizeOf4 rfl (k := 0) rfl rfl) ?_
  first | refine LM.rd (om_ld Tryd.isAgg4 rfl rfl) ?_
  refine LM.val (ov_bneq Tryd.underlying4 rfl rfl) ?_
  refine LM.val (ov_move rfl) ?_
  first | refine LM.splitD (t := 11) rfl (fun h1 => ?_) (fun h1 => ?_) | refine LM.splitB (t := 11) rfl (fun h1 => ?_) (fun h1 => ?_)
  ·
    refine LM.drop (t := 11) rfl rfl rfl ?_
    refine LM.drop (t := 11) rfl rfl rfl ?_
    refine LM.drop (t := 11) rfl rfl rfl ?_
    refine LM.drop (t := 11) rfl rfl rfl ?_
    refine LM.drop (t := 11) rfl rfl rfl ?_
    refine LM.drop (t := 11) rfl rfl rfl ?_
    refine LM.drop (t := 11) rfl rfl rfl ?_
    refine LM.val (ov_pickT rfl rfl) ?_
    refine LM.nil ?_
    refine QM.sub (e' := [(2, _), (3, _), (19, _)]) ⟨rfl, rfl, rfl, trivial⟩ ?_
    refine QM.then ?_
    refine wpM.condT rfl ?_
    refine wpM.seq ?_
    refine wpM.region ?_
    refine LM.val (ov_assign rfl) ?_
    refine LM.nil ?_
    refine QM.sub (e' := [(4, _)]) ⟨rfl, trivial⟩ ?_
    refine QM.then ?_
    refine wpM.ret ?_
    refine QM.then_ret ?_
    refine QM.leave (.inl rfl) [.tmp 4] Tryd.results28 rfl ?_
    intro w' hm' hc' hg'
    -- leaf 1: h1+
    refine ⟨?_, hc'⟩; show Value.bool false = _; rw [decide_eq_false (show ¬ f1 = f2 by simpa using h1), Bool.false_and]
  ·
    refine LM.strip (t := 11) rfl rfl rfl ?_
    refine LM.val (ov_field Tryd.underlying53 rfl Tryd.sizeOf51 rfl (k := 1) rfl rfl) ?_
    refine LM.strip (t := 11) rfl rfl rfl ?_
    first | refine LM.rd (om_ld Tryd.isAgg51 rfl rfl) ?_
    refine LM.strip (t := 11) rfl rfl rfl ?_
    refine LM.val (ov_len Tryd.underlying51 rfl) ?_
    refine LM.strip (t := 11) rfl rfl rfl ?_
    refine LM.val (ov_field Tryd.underlying53 rfl Tryd.sizeOf51 rfl (k := 1) rfl rfl) ?_
    refine LM.strip (t := 11) rfl rfl rfl ?_
    first | refine LM.rd (om_ld Tryd.isAgg51 rfl rfl) ?_
    refine LM.strip (t := 11) rfl rfl rfl ?_
    refine LM.val (ov_len Tryd.underlying51 rfl) ?_
    refine LM.strip (t := 11) rfl rfl rfl ?_
    refine LM.val (ov_neq rfl rfl) ?_
    refine LM.val (ov_pickF rfl rfl) ?_
    refine LM.nil ?_
    refine QM.sub (e' := [(2, _), (3, _), (19, _)]) ⟨rfl, rfl, rfl, trivial⟩ ?_
    refine QM.then ?_
    first | refine wpM.condD rfl (fun h2 => ?_) (fun h2 => ?_) | refine wpM.condB rfl (fun h2 => ?_) (fun h2 => ?_)
    ·
      refine wpM.seq ?_
      refine wpM.region ?_
      refine LM.val (ov_assign rfl) ?_
      refine LM.nil ?_
      refine QM.sub (e' := [(4, _)]) ⟨rfl, trivial⟩ ?_
      refine QM.then ?_
      refine wpM.ret ?_
      refine QM.then_ret ?_
      refine QM.leave (.inl rfl) [.tmp 4] Tryd.results28 rfl ?_
      intro w' hm' hc' hg'
      -- leaf 2: h1- h2+
      refine ⟨?_, hc'⟩; show Value.bool false = _; rw [decide_eq_false (show ¬ xs = ys by intro q; have := congrArg List.length q; omega), Bool.and_false]
    ·
      refine wpM.skip ?_
      refine QM.then ?_
      refine wpM.seq ?_
      refine wpM.seq ?_
      refine wpM.region ?_
      refine LM.val (ov_assign rfl) ?_
      refine LM.nil ?_
      refine QM.sub (e' := [(2, _), (3, _), (5, _)]) ⟨rfl, rfl, rfl, trivial⟩ ?_
      refine QM.then ?_
      refine wpM.block ?_
      refine wpM.loopK0 (α := Nat) (fun i => [(5, .int .i64 (i : Nat))]) [(2, _), (3, _)] (fun i => pB b2 f1 ad1 n1 cap1 :: pB b3 f2 ad2 n2 cap2 :: []) (fun i => i ≤ xs.length ∧ xs.take i = ys.take i) (fun i => xs.length - i) (0) ⟨(by first | rfl | exact lk rfl (by congr 1; omega) | exact lk rfl (by simp)), rfl, rfl, trivial⟩ (by (repeat' (first | exact SubM.nil _ | refine SubM.cons rfl ?_ | refine SubM.app ?_))) ⟨Nat.zero_le _, rfl⟩ ?_
      rintro i ⟨hi, ha⟩
      change wpM _ _ _ _ _ _ _ (pB b2 f1 ad1 n1 cap1 :: pB b3 f2 ad2 n2 cap2 :: []) _ _ _
      refine wpM.seq ?_
      refine wpM.seq ?_
      refine wpM.region ?_
      refine LM.val (ov_move rfl) ?_
      refine LM.val (ov_field Tryd.underlying53 rfl Tryd.sizeOf51 rfl (k := 1) rfl rfl) ?_
      first | refine LM.rd (om_ld Tryd.isAgg51 rfl rfl) ?_
      refine LM.val (ov_len Tryd.underlying51 rfl) ?_
      refine LM.val (ov_lss rfl rfl) ?_
      refine LM.nil ?_
      refine QM.sub (e' := [(2, _), (3, _), (5, _), (24, _)]) ⟨rfl, rfl, rfl, rfl, trivial⟩ ?_
      refine QM.then ?_
      first | refine wpM.condD rfl (fun h3 => ?_) (fun h3 => ?_) | refine wpM.condB rfl (fun h3 => ?_) (fun h3 => ?_)
      ·
        refine wpM.skip ?_
        refine QM.then ?_
        refine wpM.seq ?_
        refine wpM.block ?_
        refine wpM.seq ?_
        refine wpM.draw [(0, 0), (1, 1), (2, 0), (3, 0), (4, 1), (5, 0), (6, 1), (7, 0), (8, 0), (9, 1), (10, 0)] (by kernel_rfl) (by kernel_rfl) ?_
        refine LD.val rfl rfl (ov_field Tryd.underlying53 rfl Tryd.sizeOf51 rfl (k := 1) rfl rfl) ?_
        first | refine LD.rd rfl rfl (om_ld Tryd.isAgg51 rfl rfl) ?_
        refine LD.val rfl rfl (ov_move rfl) ?_
        first | refine LD.val rfl rfl (ov_idxSN (by first | exact Sr.spt (by assumption) | exact Sl.spt (by assumption)) Tryd.underlying51 Tryd.sizeOf69 rfl rfl (by omega)) ?_ | refine LD.val rfl rfl (ov_idxS (by first | exact Sr.spt (by assumption) | exact Sl.spt (by assumption)) Tryd.underlying51 Tryd.sizeOf69 rfl rfl (by omega)) ?_ | refine LD.val rfl rfl (ov_idx Tryd.underlying51 Tryd.sizeOf69 rfl rfl (by omega)) ?_
        first | refine LD.rd rfl rfl (om_slA (by assumption) (by intro _; rfl) Tryd.isAgg69 Tryd.sizeOf69 rfl (by exact getq default (by first | omega | (simp only [List.length_set, List.length_append, List.length_cons, List.length_nil]; omega)))) ?_ | refine LD.rdC rfl rfl (om_srEA (by assumption) (by intro _; rfl) Tryd.isAgg69 Tryd.sizeOf69 rfl (by exact getq default (by first | omega | (simp only [List.length_set, List.length_append, List.length_cons, List.length_nil]; omega))) id) ?_ | refine LD.rd rfl rfl (om_ldW Tryd.isAgg69 Tryd.sizeOf69 rfl rfl) ?_ | refine LD.rd rfl rfl (om_ldA Tryd.isAgg69 Tryd.sizeOf69 rfl (vs := [_, _, _]) rfl ⟨rfl, rfl, rfl, trivial⟩) ?_
        refine LD.val rfl rfl (ov_field Tryd.underlying53 rfl Tryd.sizeOf51 rfl (k := 1) rfl rfl) ?_
        first | refine LD.rd rfl rfl (om_ld Tryd.isAgg51 rfl rfl) ?_
        refine LD.val rfl rfl (ov_move rfl) ?_
        first | refine LD.val rfl rfl (ov_idxSN (by first | exact Sr.spt (by assumption) | exact Sl.spt (by assumption)) Tryd.underlying51 Tryd.sizeOf69 rfl rfl (by omega)) ?_ | refine LD.val rfl rfl (ov_idxS (by first | exact Sr.spt (by assumption) | exact Sl.spt (by assumption)) Tryd.underlying51 Tryd.sizeOf69 rfl rfl (by omega)) ?_ | refine LD.val rfl rfl (ov_idx Tryd.underlying51 Tryd.sizeOf69 rfl rfl (by omega)) ?_
        first | refine LD.rd rfl rfl (om_slA (by assumption) (by intro _; rfl) Tryd.isAgg69 Tryd.sizeOf69 rfl (by exact getq default (by first | omega | (simp only [List.length_set, List.length_append, List.length_cons, List.length_nil]; omega)))) ?_ | refine LD.rdC rfl rfl (om_srEA (by assumption) (by intro _; rfl) Tryd.isAgg69 Tryd.sizeOf69 rfl (by exact getq default (by first | omega | (simp only [List.length_set, List.length_append, List.length_cons, List.length_nil]; omega))) id) ?_ | refine LD.rd rfl rfl (om_ldW Tryd.isAgg69 Tryd.sizeOf69 rfl rfl) ?_ | refine LD.rd rfl rfl (om_ldA Tryd.isAgg69 Tryd.sizeOf69 rfl (vs := [_, _, _]) rfl ⟨rfl, rfl, rfl, trivial⟩) ?_
        refine LD.val rfl rfl (ov_aneq Tryd.underlying69 (by kernel_rfl) (by kernel_rfl) (by decide) rfl rfl (by rfl) ⟨(by first | rfl | trivial), (by first | rfl | trivial), (by first | rfl | trivial), trivial⟩) ?_
        refine LD.nil ?_
        refine QM.sub (e' := [(2, _), (3, _), (5, _), (37, _)]) ⟨rfl, rfl, rfl, rfl, trivial⟩ ?_
        refine QM.then ?_
        first | refine wpM.condD rfl (fun h4 => ?_) (fun h4 => ?_) | refine wpM.condB rfl (fun h4 => ?_) (fun h4 => ?_)
        ·
          refine wpM.seq ?_
          refine wpM.region ?_
          refine LM.val (ov_assign rfl) ?_
          refine LM.nil ?_
          refine QM.sub (e' := [(4, _)]) ⟨rfl, trivial⟩ ?_
          refine QM.then ?_
          refine wpM.ret ?_
          refine QM.block_ret ?_
          refine QM.then_ret ?_
          refine QM.then_ret ?_
          refine QM.block_ret ?_
          refine QM.then_ret ?_
          refine QM.leave (.inl rfl) [.tmp 4] Tryd.results28 rfl ?_
          intro w' hm' hc' hg'
          -- leaf 3: h1- h2- h3+ h4+
          refine ⟨?_, hc'⟩; show Value.bool false = _; rw [decide_eq_false (show ¬ xs = ys by intro q; rw [fO_veqs, q] at h4; simp at h4), Bool.and_false]
        ·
          refine wpM.skip ?_
          refine QM.block_normal ?_
          refine QM.then ?_
          refine wpM.region ?_
          refine LM.val (ov_move rfl) ?_
          refine LM.val (ov_add64 rfl rfl (by omega)) ?_
          refine LM.val (ov_assign rfl) ?_
          refine LM.nil ?_
          refine QM.sub (e' := [(2, _), (3, _), (5, _)]) ⟨rfl, rfl, rfl, trivial⟩ ?_
          -- again1: h1- h2- h3+ h4-
          refine QM.againK (i + 1) ⟨(by first | rfl | exact lk rfl (by congr 1; omega) | exact lk rfl (by simp)), rfl, rfl, trivial⟩ (by (repeat' (first | exact SubM.nil _ | refine SubM.cons rfl ?_ | refine SubM.app ?_))) (fun _ h => h) ?_ ?_
          · exact ⟨by omega, eq_at (by omega) (by omega) ha (by rw [fO_veqs] at h4; simpa using h4)⟩
          · first | omega | (dsimp only; omega)
      ·
        refine wpM.exit ?_
        refine QM.then_exit ?_
        refine QM.then_exit ?_
        refine QM.block_hit ?_
        refine QM.then ?_
        refine wpM.seq ?_
        refine wpM.region ?_
        refine LM.val (ov_assign rfl) ?_
        refine LM.nil ?_
        refine QM.sub (e' := [(4, _)]) ⟨rfl, trivial⟩ ?_
        refine QM.then ?_
        refine wpM.ret ?_
        refine QM.leave (.inl rfl) [.tmp 4] Tryd.results28 rfl ?_
        intro w' hm' hc' hg'
        -- leaf 4: h1- h2- h3-
        refine ⟨?_, hc'⟩; show Value.bool true = _; rw [decide_eq_true (show f1 = f2 by simpa using h1), Bool.true_and, decide_eq_true]; have e1 : xs.take i = xs := List.take_of_length_le (by omega); have e2 : ys.take i = ys := List.take_of_length_le (by omega); rw [← e1, ← e2, ha]

set_option maxRecDepth 100000 in
theorem awake10_spec (w : World) (hT : Tb w) : Ret Tryd.prog 25 #[] w (fun v w' => v = .bool true ∧ Ext w w') := by
  refine Ret.enterM (l := []) Tryd.func25 rfl Tryd.ntmps25 rfl ([]) (no) (Mem.nil w) ?_
  refine wpM.seq ?_
  refine wpM.region ?_
  refine LM.val (ov_assign rfl) ?_
  refine LM.nil ?_
  refine QM.sub (e' := []) trivial ?_
  refine QM.then ?_
  refine wpM.seq ?_
  refine wpM.region ?_
  refine LM.callT (oc_call (enters_fn Tryd.func20 (by kernel_rfl) rfl) rfl) ScT.mono (fun w hm hc hg => scan_spec (s := awkL) w (by decide)) ?_
  rintro u13 m13 ⟨ad13, n13, cap13, rfl, hn13, hs13⟩ -; have hl13 : (scanO awkL).1.length = 14 := awk_len
  refine LM.val (ov_move rfl) ?_
  refine LM.val (ov_extract rfl rfl) ?_
  refine LM.val (ov_extract rfl rfl) ?_
  refine LM.val (ov_extract rfl rfl) ?_
  refine LM.val (ov_assign rfl) ?_
  refine LM.val (ov_assign rfl) ?_
  refine LM.val (ov_assign rfl) ?_
  refine LM.nil ?_
  refine QM.sub (e' := [(1, _)]) ⟨rfl, trivial⟩ ?_
  refine QM.then ?_
  refine wpM.seq ?_
  refine wpM.region ?_
  refine LM.val (ov_move rfl) ?_
  refine LM.callT (oc_call (enters_fn Tryd.func26 (by kernel_rfl) rfl) rfl) ParT.mono (fun w hm hc hg => parse_spec 0 w hn13 (by omega) (hs13.srM (by intro _; rfl) hm)) ?_
  rw [awk_par0]; rintro u19 m19 ⟨ad19, n19, cap19, rfl, hn19, hs19⟩ -; have hn19' : n19 = 3 := hn19
  refine LM.val (ov_move rfl) ?_
  refine LM.val (ov_extract rfl rfl) ?_
  refine LM.val (ov_extract rfl rfl) ?_
  refine LM.val (ov_extract rfl rfl) ?_
  refine LM.alloc Tryd.zeroValue53 rfl (fun b4 hb4 => ?_)
  first | refine LM.stW Tryd.sizeOf53 rfl rfl rfl rfl (by first | rfl | decide | (simp; done)) (fun hlt => absurd hlt (by omega)) ?_ | refine LM.st Tryd.sizeOf53 rfl rfl rfl (by first | decide | exact Nat.le_of_ble_eq_true rfl | (simp; done) | (simp; omega)) rfl (fun hlt => absurd hlt (by omega)) ?_
  refine LM.val (ov_assign rfl) ?_
  refine LM.val (ov_assign rfl) ?_
  refine LM.nil ?_
  refine QM.sub (e' := [(1, _), (4, _), (5, _), (6, _)]) ⟨rfl, rfl, rfl, rfl, trivial⟩ ?_
  refine QM.then ?_
  refine wpM.seq ?_
  refine wpM.region ?_
  first | refine LM.rd (om_ldW Tryd.isAgg53 Tryd.sizeOf53 rfl rfl) ?_ | refine LM.rd (om_ldA Tryd.isAgg53 Tryd.sizeOf53 rfl (vs := [_, _]) rfl ⟨rfl, rfl, trivial⟩) ?_
  refine LM.callE (oc_call (enters_fn Tryd.func33 (by kernel_rfl) rfl) rfl) (fun w hm hc hg => (awk_pri ▸ print_spec (fv := true) w hn19 (hs19.srM (by intro _; rfl) hm) (by decide) (hT.ext hc))) ?_
  refine LM.val (ov_move rfl) ?_
  refine LM.val (ov_extract rfl rfl) ?_
  refine LM.val (ov_extract rfl rfl) ?_
  refine LM.val (ov_assign rfl) ?_
  refine LM.val (ov_assign rfl) ?_
  refine LM.nil ?_
  refine QM.sub (e' := [(1, _), (4, _), (5, _), (6, _), (7, _), (8, _)]) ⟨rfl, rfl, rfl, rfl, rfl, rfl, trivial⟩ ?_
  refine QM.then ?_
  refine wpM.seq ?_
  refine wpM.region ?_
  refine LM.val (ov_move rfl) ?_
  refine LM.callT (oc_call (enters_fn Tryd.func26 (by kernel_rfl) rfl) rfl) ParT.mono (fun w hm hc hg => parse_spec 1 w hn13 (by omega) (hs13.srM (by intro _; rfl) hm)) ?_
  rw [awk_par1]; rintro u30 m30 ⟨ad30, n30, cap30, rfl, hn30, hs30⟩ -
  refine LM.val (ov_move rfl) ?_
  refine LM.val (ov_extract rfl rfl) ?_
  refine LM.val (ov_extract rfl rfl) ?_
  refine LM.val (ov_extract rfl rfl) ?_
  refine LM.alloc Tryd.zeroValue53 rfl (fun b9 hb9 => ?_)
  first | refine LM.stW Tryd.sizeOf53 rfl rfl rfl rfl (by first | rfl | decide | (simp; done)) (fun hlt => absurd hlt (by omega)) ?_ | refine LM.st Tryd.sizeOf53 rfl rfl rfl (by first | decide | exact Nat.le_of_ble_eq_true rfl | (simp; done) | (simp; omega)) rfl (fun hlt => absurd hlt (by omega)) ?_
  refine LM.val (ov_assign rfl) ?_
  refine LM.val (ov_assign rfl) ?_
  refine LM.nil ?_
  refine QM.sub (e' := [(4, _), (5, _), (6, _), (7, _), (8, _), (10, _), (11, _)]) ⟨rfl, rfl, rfl, rfl, rfl, rfl, rfl, trivial⟩ ?_
  refine QM.then ?_
  refine wpM.seq ?_
  refine wpM.region ?_
  refine LM.val (ov_move rfl) ?_
  refine LM.val (ov_eql rfl rfl) ?_
  refine LM.val (ov_move rfl) ?_
  first | refine LM.splitD (t := 36) rfl (fun h1 => ?_) (fun h1 => ?_) | refine LM.splitB (t := 36) rfl (fun h1 => ?_) (fun h1 => ?_)
  ·
    refine LM.strip (t := 36) rfl rfl rfl ?_
    refine LM.val (ov_move rfl) ?_
    refine LM.strip (t := 36) rfl rfl rfl ?_
    refine LM.val (ov_eql rfl rfl) ?_
    refine LM.val (ov_pickT rfl rfl) ?_
    refine LM.val (ov_move rfl) ?_
    first | refine LM.splitD (t := 40) rfl (fun h2 => ?_) (fun h2 => ?_) | refine LM.splitB (t := 40) rfl (fun h2 => ?_) (fun h2 => ?_)
    ·
      refine LM.strip (t := 40) rfl rfl rfl ?_
      refine LM.val (ov_field Tryd.underlying53 rfl Tryd.sizeOf51 rfl (k := 1) rfl rfl) ?_
      refine LM.strip (t := 40) rfl rfl rfl ?_
      first | refine LM.rd (om_ld Tryd.isAgg51 rfl rfl) ?_
      refine LM.strip (t := 40) rfl rfl rfl ?_
      refine LM.val (ov_len Tryd.underlying51 rfl) ?_
      refine LM.strip (t := 40) rfl rfl rfl ?_
      refine LM.val (ov_eql rfl rfl) ?_
      refine LM.val (ov_pickT rfl rfl) ?_
      refine LM.val (ov_move rfl) ?_
      first | refine LM.splitD (t := 46) rfl (fun h3 => ?_) (fun h3 => ?_) | refine LM.splitB (t := 46) rfl (fun h3 => ?_) (fun h3 => ?_)
      ·
        refine LM.strip (t := 46) rfl rfl rfl ?_
        refine LM.val (ov_field Tryd.underlying53 rfl Tryd.sizeOf4 rfl (k := 0) rfl rfl) ?_
        refine LM.strip (t := 46) rfl rfl rfl ?_
        first | refine LM.rd (om_ld Tryd.isAgg4 rfl rfl) ?_
        refine LM.val (ov_pickT rfl rfl) ?_
        refine LM.val (ov_move rfl) ?_
        first | refine LM.splitD (t := 50) rfl (fun h4 => ?_) (fun h4 => ?_) | refine LM.splitB (t := 50) rfl (fun h4 => ?_) (fun h4 => ?_)
        ·
          refine LM.strip (t := 50) rfl rfl rfl ?_
          refine LM.val (ov_move rfl) ?_
          refine LM.strip (t := 50) rfl rfl rfl ?_
          refine LM.val (ov_eql rfl rfl) ?_
          refine LM.val (ov_pickT rfl rfl) ?_
          refine LM.val (ov_move rfl) ?_
          first | refine LM.splitD (t := 54) rfl (fun h5 => ?_) (fun h5 => ?_) | refine LM.splitB (t := 54) rfl (fun h5 => ?_) (fun h5 => ?_)
          ·
            refine LM.strip (t := 54) rfl rfl rfl ?_
            refine LM.val (ov_move rfl) ?_
            refine LM.strip (t := 54) rfl rfl rfl ?_
            refine LM.val (ov_seqlL rfl rfl) ?_
            refine LM.val (ov_pickT rfl rfl) ?_
            refine LM.val (ov_move rfl) ?_
            first | refine LM.splitD (t := 58) rfl (fun h6 => ?_) (fun h6 => ?_) | refine LM.splitB (t := 58) rfl (fun h6 => ?_) (fun h6 => ?_)
            ·
              refine LM.strip (t := 58) rfl rfl rfl ?_
              refine LM.val (ov_move rfl) ?_
              refine LM.strip (t := 58) rfl rfl rfl ?_
              refine LM.val (ov_eql rfl rfl) ?_
              refine LM.val (ov_pickT rfl rfl) ?_
              refine LM.val (ov_move rfl) ?_
              first | refine LM.splitD (t := 62) rfl (fun h7 => ?_) (fun h7 => ?_) | refine LM.splitB (t := 62) rfl (fun h7 => ?_) (fun h7 => ?_)
              ·
                refine LM.strip (t := 62) rfl rfl rfl ?_
                refine LM.val (ov_move rfl) ?_
                refine LM.strip (t := 62) rfl rfl rfl ?_
                refine LM.val (ov_eql rfl rfl) ?_
                refine LM.val (ov_pickT rfl rfl) ?_
                refine LM.val (ov_move rfl) ?_
                first | refine LM.splitD (t := 66) rfl (fun h8 => ?_) (fun h8 => ?_) | refine LM.splitB (t := 66) rfl (fun h8 => ?_) (fun h8 => ?_)
                ·
                  refine LM.strip (t := 66) rfl rfl rfl ?_
                  refine LM.callE (oc_call (enters_fn Tryd.func31 (by kernel_rfl) rfl) rfl) (fun w hm hc hg => name_spec 1 w) ?_
                  refine LM.strip (t := 66) rfl rfl rfl ?_
                  refine LM.val (ov_seqlL rfl rfl) ?_
                  refine LM.val (ov_pickT rfl rfl) ?_
                  refine LM.val (ov_assign rfl) ?_
                  refine LM.nil ?_
                  refine QM.sub (e' := [(0, _)]) ⟨rfl, trivial⟩ ?_
                  refine QM.then ?_
                  refine wpM.ret ?_
                  refine QM.leave (.inl rfl) [.tmp 0] Tryd.results25 rfl ?_
                  intro w' hm' hc' hg'
                  -- leaf 1: h1+ h2+ h3+ h4+ h5+ h6+ h7+ h8+
                  first | exact ⟨rfl, hc'⟩ | (exfalso; first | omega | (simp at *; done) | (simp_all; done))
                ·
                  refine LM.drop (t := 66) rfl rfl rfl ?_
                  refine LM.drop (t := 66) rfl rfl rfl ?_
                  refine LM.val (ov_pickF rfl rfl) ?_
                  refine LM.val (ov_assign rfl) ?_
                  refine LM.nil ?_
                  refine QM.sub (e' := [(0, _)]) ⟨rfl, trivial⟩ ?_
                  refine QM.then ?_
                  refine wpM.ret ?_
                  refine QM.leave (.inl rfl) [.tmp 0] Tryd.results25 rfl ?_
                  intro w' hm' hc' hg'
                  -- leaf 2: h1+ h2+ h3+ h4+ h5+ h6+ h7+ h8-
                  first | exact ⟨rfl, hc'⟩ | (exfalso; first | omega | (simp at *; done) | (simp_all; done))
              ·
                refine LM.drop (t := 62) rfl rfl rfl ?_
                refine LM.drop (t := 62) rfl rfl rfl ?_
                refine LM.val (ov_pickF rfl rfl) ?_
                refine LM.val (ov_move rfl) ?_
                refine LM.drop (t := 66) rfl rfl rfl ?_
                refine LM.drop (t := 66) rfl rfl rfl ?_
                refine LM.val (ov_pickF rfl rfl) ?_
                refine LM.val (ov_assign rfl) ?_
                refine LM.nil ?_
                refine QM.sub (e' := [(0, _)]) ⟨rfl, trivial⟩ ?_
                refine QM.then ?_
                refine wpM.ret ?_
                refine QM.leave (.inl rfl) [.tmp 0] Tryd.results25 rfl ?_
                intro w' hm' hc' hg'
                -- leaf 3: h1+ h2+ h3+ h4+ h5+ h6+ h7-
                first | exact ⟨rfl, hc'⟩ | (exfalso; first | omega | (simp at *; done) | (simp_all; done))
            ·
              refine LM.drop (t := 58) rfl rfl rfl ?_
              refine LM.drop (t := 58) rfl rfl rfl ?_
              refine LM.val (ov_pickF rfl rfl) ?_
              refine LM.val (ov_move rfl) ?_
              refine LM.drop (t := 62) rfl rfl rfl ?_
              refine LM.drop (t := 62) rfl rfl rfl ?_
              refine LM.val (ov_pickF rfl rfl) ?_
              refine LM.val (ov_move rfl) ?_
              refine LM.drop (t := 66) rfl rfl rfl ?_
              refine LM.drop (t := 66) rfl rfl rfl ?_
              refine LM.val (ov_pickF rfl rfl) ?_
              refine LM.val (ov_assign rfl) ?_
              refine LM.nil ?_
              refine QM.sub (e' := [(0, _)]) ⟨rfl, trivial⟩ ?_
              refine QM.then ?_
              refine wpM.ret ?_
              refine QM.leave (.inl rfl) [.tmp 0] Tryd.results25 rfl ?_
              intro w' hm' hc' hg'
              -- leaf 4: h1+ h2+ h3+ h4+ h5+ h6-
              exact absurd h6 (by decide +kernel)
          ·
            refine LM.drop (t := 54) rfl rfl rfl ?_
            refine LM.drop (t := 54) rfl rfl rfl ?_
            refine LM.val (ov_pickF rfl rfl) ?_
            refine LM.val (ov_move rfl) ?_
            refine LM.drop (t := 58) rfl rfl rfl ?_
            refine LM.drop (t := 58) rfl rfl rfl ?_
            refine LM.val (ov_pickF rfl rfl) ?_
            refine LM.val (ov_move rfl) ?_
            refine LM.drop (t := 62) rfl rfl rfl ?_
            refine LM.drop (t := 62) rfl rfl rfl ?_
            refine LM.val (ov_pickF rfl rfl) ?_
            refine LM.val (ov_move rfl) ?_
            refine LM.drop (t := 66) rfl rfl rfl ?_
            refine LM.drop (t := 66) rfl rfl rfl ?_
            refine LM.val (ov_pickF rfl rfl) ?_
            refine LM.val (ov_assign rfl) ?_
            refine LM.nil ?_
            refine QM.sub (e' := [(0, _)]) ⟨rfl, trivial⟩ ?_
            refine QM.then ?_
            refine wpM.ret ?_
            refine QM.leave (.inl rfl) [.tmp 0] Tryd.results25 rfl ?_
            intro w' hm' hc' hg'
            -- leaf 5: h1+ h2+ h3+ h4+ h5-
            first | exact ⟨rfl, hc'⟩ | (exfalso; first | omega | (simp at *; done) | (simp_all; done))
        ·
          refine LM.drop (t := 50) rfl rfl rfl ?_
          refine LM.drop (t := 50) rfl rfl rfl ?_
          refine LM.val (ov_pickF rfl rfl) ?_
          refine LM.val (ov_move rfl) ?_
          refine LM.drop (t := 54) rfl rfl rfl ?_
          refine LM.drop (t := 54) rfl rfl rfl ?_
          refine LM.val (ov_pickF rfl rfl) ?_
          refine LM.val (ov_move rfl) ?_
          refine LM.drop (t := 58) rfl rfl rfl ?_
          refine LM.drop (t := 58) rfl rfl rfl ?_
          refine LM.val (ov_pickF rfl rfl) ?_
          refine LM.val (ov_move rfl) ?_
          refine LM.drop (t := 62) rfl rfl rfl ?_
          refine LM.drop (t := 62) rfl rfl rfl ?_
          refine LM.val (ov_pickF rfl rfl) ?_
          refine LM.val (ov_move rfl) ?_
          refine LM.drop (t := 66) rfl rfl rfl ?_
          refine LM.drop (t := 66) rfl rfl rfl ?_
          refine LM.val (ov_pickF rfl rfl) ?_
          refine LM.val (ov_assign rfl) ?_
          refine LM.nil ?_
          refine QM.sub (e' := [(0, _)]) ⟨rfl, trivial⟩ ?_
          refine QM.then ?_
          refine wpM.ret ?_
          refine QM.leave (.inl rfl) [.tmp 0] Tryd.results25 rfl ?_
          intro w' hm' hc' hg'
          -- leaf 6: h1+ h2+ h3+ h4-
          first | exact ⟨rfl, hc'⟩ | (exfalso; first | omega | (simp at *; done) | (simp_all; done))
      ·
        refine LM.drop (t := 46) rfl rfl rfl ?_
        refine LM.drop (t := 46) rfl rfl rfl ?_
        refine LM.val (ov_pickF rfl rfl) ?_
        refine LM.val (ov_move rfl) ?_
        refine LM.drop (t := 50) rfl rfl rfl ?_
        refine LM.drop (t := 50) rfl rfl rfl ?_
        refine LM.val (ov_pickF rfl rfl) ?_
        refine LM.val (ov_move rfl) ?_
        refine LM.drop (t := 54) rfl rfl rfl ?_
        refine LM.drop (t := 54) rfl rfl rfl ?_
        refine LM.val (ov_pickF rfl rfl) ?_
        refine LM.val (ov_move rfl) ?_
        refine LM.drop (t := 58) rfl rfl rfl ?_
        refine LM.drop (t := 58) rfl rfl rfl ?_
        refine LM.val (ov_pickF rfl rfl) ?_
        refine LM.val (ov_move rfl) ?_
        refine LM.drop (t := 62) rfl rfl rfl ?_
        refine LM.drop (t := 62) rfl rfl rfl ?_
        refine LM.val (ov_pickF rfl rfl) ?_
        refine LM.val (ov_move rfl) ?_
        refine LM.drop (t := 66) rfl rfl rfl ?_
        refine LM.drop (t := 66) rfl rfl rfl ?_
        refine LM.val (ov_pickF rfl rfl) ?_
        refine LM.val (ov_assign rfl) ?_
        refine LM.nil ?_
        refine QM.sub (e' := [(0, _)]) ⟨rfl, trivial⟩ ?_
        refine QM.then ?_
        refine wpM.ret ?_
        refine QM.leave (.inl rfl) [.tmp 0] Tryd.results25 rfl ?_
        intro w' hm' hc' hg'
        -- leaf 7: h1+ h2+ h3-
        first | exact ⟨rfl, hc'⟩ | (exfalso; first | omega | (simp at *; done) | (simp_all; done))
    ·
      refine LM.drop (t := 40) rfl rfl rfl ?_
      refine LM.drop (t := 40) rfl rfl rfl ?_
      refine LM.drop (t := 40) rfl rfl rfl ?_
      refine LM.drop (t := 40) rfl rfl rfl ?_
      refine LM.val (ov_pickF rfl rfl) ?_
      refine LM.val (ov_move rfl) ?_
      refine LM.drop (t := 46) rfl rfl rfl ?_
      refine LM.drop (t := 46) rfl rfl rfl ?_
      refine LM.val (ov_pickF rfl rfl) ?_
      refine LM.val (ov_move rfl) ?_
      refine LM.drop (t := 50) rfl rfl rfl ?_
      refine LM.drop (t := 50) rfl rfl rfl ?_
      refine LM.val (ov_pickF rfl rfl) ?_
      refine LM.val (ov_move rfl) ?_
      refine LM.drop (t := 54) rfl rfl rfl ?_
      refine LM.drop (t := 54) rfl rfl rfl ?_
      refine LM.val (ov_pickF rfl rfl) ?_
      refine LM.val (ov_move rfl) ?_
      refine LM.drop (t := 58) rfl rfl rfl ?_
      refine LM.drop (t := 58) rfl rfl rfl ?_
      refine LM.val (ov_pickF rfl rfl) ?_
      refine LM.val (ov_move rfl) ?_
      refine LM.drop (t := 62) rfl rfl rfl ?_
      refine LM.drop (t := 62) rfl rfl rfl ?_
      refine LM.val (ov_pickF rfl rfl) ?_
      refine LM.val (ov_move rfl) ?_
      refine LM.drop (t := 66) rfl rfl rfl ?_
      refine LM.drop (t := 66) rfl rfl rfl ?_
      refine LM.val (ov_pickF rfl rfl) ?_
      refine LM.val (ov_assign rfl) ?_
      refine LM.nil ?_
      refine QM.sub (e' := [(0, _)]) ⟨rfl, trivial⟩ ?_
      refine QM.then ?_
      refine wpM.ret ?_
      refine QM.leave (.inl rfl) [.tmp 0] Tryd.results25 rfl ?_
      intro w' hm' hc' hg'
      -- leaf 8: h1+ h2-
      first | exact ⟨rfl, hc'⟩ | (exfalso; first | omega | (simp at *; done) | (simp_all; done))
  ·
    refine LM.drop (t := 36) rfl rfl rfl ?_
    refine LM.drop (t := 36) rfl rfl rfl ?_
    refine LM.val (ov_pickF rfl rfl) ?_
    refine LM.val (ov_move rfl) ?_
    refine LM.drop (t := 40) rfl rfl rfl ?_
    refine LM.drop (t := 40) rfl rfl rfl ?_
    refine LM.drop (t := 40) rfl rfl rfl ?_
    refine LM.drop (t := 40) rfl rfl rfl ?_
    refine LM.val (ov_pickF rfl rfl) ?_
    refine LM.val (ov_move rfl) ?_
    refine LM.drop (t := 46) rfl rfl rfl ?_
    refine LM.drop (t := 46) rfl rfl rfl ?_
    refine LM.val (ov_pickF rfl rfl) ?_
    refine LM.val (ov_move rfl) ?_
    refine LM.drop (t := 50) rfl rfl rfl ?_
    refine LM.drop (t := 50) rfl rfl rfl ?_
    refine LM.val (ov_pickF rfl rfl) ?_
    refine LM.val (ov_move rfl) ?_
    refine LM.drop (t := 54) rfl rfl rfl ?_
    refine LM.drop (t := 54) rfl rfl rfl ?_
    refine LM.val (ov_pickF rfl rfl) ?_
    refine LM.val (ov_move rfl) ?_
    refine LM.drop (t := 58) rfl rfl rfl ?_
    refine LM.drop (t := 58) rfl rfl rfl ?_
    refine LM.val (ov_pickF rfl rfl) ?_
    refine LM.val (ov_move rfl) ?_
    refine LM.drop (t := 62) rfl rfl rfl ?_
    refine LM.drop (t := 62) rfl rfl rfl ?_
    refine LM.val (ov_pickF rfl rfl) ?_
    refine LM.val (ov_move rfl) ?_
    refine LM.drop (t := 66) rfl rfl rfl ?_
    refine LM.drop (t := 66) rfl rfl rfl ?_
    refine LM.val (ov_pickF rfl rfl) ?_
    refine LM.val (ov_assign rfl) ?_
    refine LM.nil ?_
    refine QM.sub (e' := [(0, _)]) ⟨rfl, trivial⟩ ?_
    refine QM.then ?_
    refine wpM.ret ?_
    refine QM.leave (.inl rfl) [.tmp 0] Tryd.results25 rfl ?_
    intro w' hm' hc' hg'
    -- leaf 9: h1-
    first | exact ⟨rfl, hc'⟩ | (exfalso; first | omega | (simp at *; done) | (simp_all; done))

end Go.Eng

