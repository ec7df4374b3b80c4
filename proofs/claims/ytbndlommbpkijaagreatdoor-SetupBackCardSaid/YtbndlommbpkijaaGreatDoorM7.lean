/- The walks of a setup's words, and its text. No condition. -/
import Derived.Test.YtbndlommbpkijaaGreatDoorM6
import Derived.Test.YtbndlommbpkijaaGreatDoorM5
import Derived.Test.YtbndlommbpkijaaGreatDoorM1
set_option linter.unusedVariables false
set_option linter.unusedSimpArgs false
namespace Go.Eng
open Go Go.Proofs Go.RowKit

abbrev wrB (b : Nat) (ad : Option Addr) (n cap : Nat) : Nat × Obj := (b, .cells #[.slice ad n cap] 101 (0, 0))
/-- a writer of words -/
def WrM (n0 b : Nat) (ws : List Wrd) (m : Mem0) : Prop := ∃ ad n cap ml, n = ws.length ∧ Sl fW 65 4 n0 ws (.slice ad n cap) ml ∧ n0 ≤ b ∧ m = wrB b ad n cap :: (ml ++ [])
def WrT (n0 b : Nat) (ws : List Wrd) (u : Value) (m : Mem0) : Prop := u = .tuple #[] ∧ WrM n0 b ws m
theorem fldW_len (t : List UInt8) (k : Int) : (fldW t k).length = 2 := rfl
theorem linW_len (t : List UInt8) (k : Int) : (linW t k).length = 3 := rfl
theorem lin_snoc {gs : List Int} {i : Nat} {t : List UInt8} (h : i < gs.length) : (gs.take (i + 1)).flatMap (linW t) = (gs.take i).flatMap (linW t) ++ linW t (gs.getD i 0) := by
  rw [take_snoc 0 h, List.flatMap_append]; simp
theorem lck_snoc {ls : List CLk} {i : Nat} (h : i < ls.length) : (ls.take (i + 1)).flatMap lckW = (ls.take i).flatMap lckW ++ lckW (ls.getD i default) := by
  rw [take_snoc default h, List.flatMap_append]; simp
def pgW (ps : List PgC) : List Wrd := ps.flatMap (fun p => wordsF p.fv p.xs)
theorem pgW_snoc {ps : List PgC} {i : Nat} (h : i < ps.length) : pgW (ps.take (i + 1)) = pgW (ps.take i) ++ wordsF (ps.getD i default).fv (ps.getD i default).xs := by
  unfold pgW; rw [take_snoc default h, List.flatMap_append]; simp
theorem lin_flen {gs : List Int} {t : List UInt8} : (gs.flatMap (linW t)).length = 3 * gs.length := by
  induction gs with
  | nil => rfl
  | cons a l ih => rw [List.flatMap_cons, List.length_append, ih, linW_len, List.length_cons]; omega
theorem lck_flen {ls : List CLk} : (ls.flatMap lckW).length ≤ 10 * ls.length := by
  induction ls with
  | nil => exact Nat.zero_le _
  | cons a l ih => rw [List.flatMap_cons, List.length_append, lckW_len, List.length_cons]; split <;> omega
theorem pg_flen {ps : List PgC} (h : ∀ p ∈ ps, p.xs.length ≤ 12) : (pgW ps).length ≤ 60 * ps.length := by
  unfold pgW
  induction ps with
  | nil => exact Nat.zero_le _
  | cons a l ih =>
    have h1 := words_len a.fv a.xs
    have h2 := h a (List.mem_cons_self ..)
    have h3 := ih (fun p hp => h p (List.mem_cons_of_mem _ hp))
    rw [List.flatMap_cons, List.length_append, List.length_cons]; omega
theorem setW_eq (s : StC) : setW s = linW wCores s.cr ++ linW wGrain s.gr ++ s.gs.flatMap (linW wGroup) ++ s.ls.flatMap lckW ++ pgW s.ps := rfl
theorem progs12 {s : StC} (h : mayS s = true) : ∀ p ∈ s.ps, p.xs.length ≤ 12 := fun p hp => (mayB_inv (List.all_eq_true.1 (mayS_progs h) p hp)).2.1
theorem setW_len {s : StC} (h : mayS s = true) : (setW s).length ≤ 600 := by
  obtain ⟨_, _, h1, _, h2, _, h3, _⟩ := mayS_inv h
  have a := lin_flen (gs := s.gs) (t := wGroup)
  have b := lck_flen (ls := s.ls)
  have c := pg_flen (progs12 h)
  rw [setW_eq]; simp only [List.length_append, linW_len]; omega
theorem wordsS_t8 (s : StC) : ∀ x ∈ (wordsS s).1, x.t.length ≤ 9223372036854775807 := by
  unfold wordsS; split
  · intro x hx; have := setW_text s x hx; omega
  · intro x hx; cases hx
theorem wordsS_l8 (s : StC) : (wordsS s).1.length ≤ 1000000000 := by
  unfold wordsS; split
  · rename_i h; have := setW_len h; show (setW s).length ≤ _; omega
  · show 0 ≤ _; omega
set_option maxRecDepth 100000 in
theorem wfield_spec {n0 : Nat} {ws : List Wrd} {m : Mem0} (b : Nat) (t : List UInt8) (k : Int) (w : World) (hW : WrM n0 b ws m) (hM : Mem w m) (hn0 : n0 ≤ w.heap.size) (hlx : ws.length ≤ 300000) : Ret Tryz.prog 101 #[.pointer (some ⟨b, 0, none⟩), vS t, .int .i64 k] w (Upd m (WrT n0 b (ws ++ fldW t k)) w) := by
 obtain ⟨ad, n, cap, ml, hn, hsl, hbw, rfl⟩ := hW
 refine Ret.enterM (l := [.pointer (some ⟨b, 0, none⟩), vS t, .int .i64 k]) Tryz.func101 rfl Tryz.ntmps101 rfl (wrB b ad n cap :: (ml ++ [])) ((fun x => ∃ q ∈ wrB b ad n cap :: (ml ++ []), q.1 = x)) hM ?_
 refine wpM.region ?_
 refine LM.val (ov_move rfl) ?_
 refine LM.val (ov_move rfl) ?_
 refine LM.val (ov_nilCheck rfl) ?_
 refine LM.val (ov_field Tryz.underlying101 rfl Tryz.sizeOf23 rfl (k := 0) rfl rfl) ?_
 first | refine LM.rd (om_ld Tryz.isAgg23 rfl rfl) ?_
 refine LM.val (ov_move rfl) ?_
 refine LM.val (ov_build (cs := #[_, _, _, _]) rfl (by first | rfl | kernel_rfl)) ?_
 refine LM.val (ov_move rfl) ?_
 refine LM.val (ov_build (cs := #[_, _, _, _]) rfl (by first | rfl | kernel_rfl)) ?_
 refine LM.row (vs := [_, _]) Tryz.underlying23 Tryz.sizeOf65 Tryz.zeroValue65 rfl rfl rfl rfl rfl rfl (fun b15 hb15 => ?_)
 refine LM.appN (ys := fldW t k) Tryz.underlying23 Tryz.typeInfo65 rfl rfl rfl rfl rfl rfl rfl hsl (fun w hm hc hg => row_sr 2 (hm.at b15) rfl rfl (fun _ => rfl)) (by intro _; rfl) (by intro _ u hu; simp [fW] at hu; (repeat (first | (rcases hu with rfl | hu) | subst hu | rfl))) (by first | exact Nat.le_refl _ | omega) (fun p hp _ => ⟨p, List.mem_cons_of_mem _ (List.mem_append_left _ hp), rfl⟩) (by first | omega | (unfold maxLen; simp only [fldW_len, List.length_cons, List.length_nil]; omega) | (unfold maxLen; omega)) (by simp only [Tryz.t65, fldW_len, List.length_cons, List.length_nil]; omega) (fun ad16 n16 cap16 m16 hn16 hs16 hin16 => ?_)
 refine LM.val (ov_nilCheck rfl) ?_
 refine LM.val (ov_field Tryz.underlying101 rfl Tryz.sizeOf23 rfl (k := 0) rfl rfl) ?_
 refine LM.st Tryz.sizeOf23 rfl rfl rfl (by first | decide | exact Nat.le_of_ble_eq_true rfl | (simp; done) | (simp; omega)) rfl (fun hlt => by first | exact ⟨_, List.mem_cons_self .., rfl⟩ | exact absurd hlt (by omega)) ?_
 refine LM.nil ?_
 refine QM.sub (e' := []) trivial ?_
 refine QM.leave (.inr rfl) [] Tryz.results101 rfl ?_
 intro w' hm' hc' hg'
 refine ⟨hc', wrB b ad16 n16 cap16 :: (m16 ++ []), ⟨rfl, ad16, n16, cap16, m16, by rw [hn16]; simp, hs16, hbw, rfl⟩, SubM.mem (by (repeat' (first | exact SubM.nil _ | refine SubM.cons rfl ?_ | refine SubM.app ?_))) w' hm', fun p hp => ?_⟩; rcases List.mem_cons.1 hp with rfl | hp; exact .inr ⟨_, List.mem_cons_self .., rfl⟩; rw [List.append_nil] at hp; rcases hin16 p hp with h | ⟨q, hq, hqp⟩; exact .inl h; exact .inr ⟨q, List.mem_cons_of_mem _ (List.mem_append_left _ hq), hqp⟩

set_option maxRecDepth 100000 in
theorem wend_spec {n0 : Nat} {ws : List Wrd} {m : Mem0} (b : Nat) (w : World) (hW : WrM n0 b ws m) (hM : Mem w m) (hn0 : n0 ≤ w.heap.size) (hlx : ws.length ≤ 300000) : Ret Tryz.prog 102 #[.pointer (some ⟨b, 0, none⟩)] w (Upd m (WrT n0 b (ws ++ [mk3 [59]])) w) := by
 obtain ⟨ad, n, cap, ml, hn, hsl, hbw, rfl⟩ := hW
 refine Ret.enterM (l := [.pointer (some ⟨b, 0, none⟩)]) Tryz.func102 rfl Tryz.ntmps102 rfl (wrB b ad n cap :: (ml ++ [])) ((fun x => ∃ q ∈ wrB b ad n cap :: (ml ++ []), q.1 = x)) hM ?_
 refine wpM.region ?_
 refine LM.val (ov_move rfl) ?_
 refine LM.val (ov_move rfl) ?_
 refine LM.val (ov_nilCheck rfl) ?_
 refine LM.val (ov_field Tryz.underlying101 rfl Tryz.sizeOf23 rfl (k := 0) rfl rfl) ?_
 first | refine LM.rd (om_ld Tryz.isAgg23 rfl rfl) ?_
 refine LM.val (ov_build (cs := #[_, _, _, _]) rfl (by first | rfl | kernel_rfl)) ?_
 refine LM.single Tryz.underlying23 Tryz.sizeOf65 Tryz.zeroValue65 rfl rfl rfl rfl rfl (fun b8 hb8 => ?_)
 refine LM.appN (ys := [mk3 [59]]) Tryz.underlying23 Tryz.typeInfo65 rfl rfl rfl rfl rfl rfl rfl hsl (fun w hm hc hg => row_sr 1 (hm.at b8) rfl rfl (fun _ => rfl)) (by intro _; rfl) (by intro _ u hu; simp [fW] at hu; (repeat (first | (rcases hu with rfl | hu) | subst hu | rfl))) (by first | exact Nat.le_refl _ | omega) (fun p hp _ => ⟨p, List.mem_cons_of_mem _ (List.mem_append_left _ hp), rfl⟩) (by first | omega | (unfold maxLen; simp only [fldW_len, List.length_cons, List.length_nil]; omega) | (unfold maxLen; omega)) (by simp only [Tryz.t65, fldW_len, List.length_cons, List.length_nil]; omega) (fun ad9 n9 cap9 m9 hn9 hs9 hin9 => ?_)
 refine LM.val (ov_nilCheck rfl) ?_
 refine LM.val (ov_field Tryz.underlying101 rfl Tryz.sizeOf23 rfl (k := 0) rfl rfl) ?_
 refine LM.st Tryz.sizeOf23 rfl rfl rfl (by first | decide | exact Nat.le_of_ble_eq_true rfl | (simp; done) | (simp; omega)) rfl (fun hlt => by first | exact ⟨_, List.mem_cons_self .., rfl⟩ | exact absurd hlt (by omega)) ?_
 refine LM.nil ?_
 refine QM.sub (e' := []) trivial ?_
 refine QM.leave (.inr rfl) [] Tryz.results102 rfl ?_
 intro w' hm' hc' hg'
 refine ⟨hc', wrB b ad9 n9 cap9 :: (m9 ++ []), ⟨rfl, ad9, n9, cap9, m9, by rw [hn9]; simp, hs9, hbw, rfl⟩, SubM.mem (by (repeat' (first | exact SubM.nil _ | refine SubM.cons rfl ?_ | refine SubM.app ?_))) w' hm', fun p hp => ?_⟩; rcases List.mem_cons.1 hp with rfl | hp; exact .inr ⟨_, List.mem_cons_self .., rfl⟩; rw [List.append_nil] at hp; rcases hin9 p hp with h | ⟨q, hq, hqp⟩; exact .inl h; exact .inr ⟨q, List.mem_cons_of_mem _ (List.mem_append_left _ hq), hqp⟩

theorem wr_cells {n0 b : Nat} {ws : List Wrd} {m : Mem0} (h : WrM n0 b ws m) : ∀ p ∈ m, wlk p.2 = false := by
  obtain ⟨ad, n, cap, ml, hn, hsl, hbw, rfl⟩ := h
  intro p hp
  rcases List.mem_cons.1 hp with rfl | hp
  · rfl
  · rw [List.append_nil] at hp; exact hsl.wlk p hp
theorem wr_ge {n0 b : Nat} {ws : List Wrd} {m : Mem0} (h : WrM n0 b ws m) : ∀ p ∈ m, n0 ≤ p.1 := by
  obtain ⟨ad, n, cap, ml, hn, hsl, hbw, rfl⟩ := h
  intro p hp
  rcases List.mem_cons.1 hp with rfl | hp
  · exact hbw
  · rw [List.append_nil] at hp; exact Sl.ge hsl p hp
theorem in_S {A B : Mem0} {k : Nat} (h : ∀ p ∈ B, k ≤ p.1 ∨ ∃ q ∈ A, q.1 = p.1) : ∀ p ∈ B, p.1 < k → ∃ q ∈ A, q.1 = p.1 := fun p hp hlt => (h p hp).resolve_left (by omega)
theorem in_tr {A B C : Mem0} {k : Nat} (h1 : ∀ p ∈ B, k ≤ p.1 ∨ ∃ q ∈ A, q.1 = p.1) (h2 : ∀ p ∈ C, k ≤ p.1 ∨ ∃ q ∈ B, q.1 = p.1) : ∀ p ∈ C, k ≤ p.1 ∨ ∃ q ∈ A, q.1 = p.1 := fun p hp => by
  rcases h2 p hp with h | ⟨q, hq, e⟩
  · exact .inl h
  · rcases h1 q hq with h | ⟨r, hr, e2⟩
    · exact .inl (by omega)
    · exact .inr ⟨r, hr, e2.trans e⟩
theorem in_wr {b : Nat} {ad ad' : Option Addr} {n n' cap cap' k : Nat} {ml m' : Mem0} (h : ∀ p ∈ m', k ≤ p.1 ∨ ∃ q ∈ ml, q.1 = p.1) : ∀ p ∈ wrB b ad' n' cap' :: (m' ++ []), k ≤ p.1 ∨ ∃ q ∈ wrB b ad n cap :: (ml ++ []), q.1 = p.1 := fun p hp => by
  rcases List.mem_cons.1 hp with rfl | hp
  · exact .inr ⟨_, List.mem_cons_self .., rfl⟩
  · rw [List.append_nil] at hp
    rcases h p hp with h | ⟨q, hq, hqp⟩
    · exact .inl h
    · exact .inr ⟨q, List.mem_cons_of_mem _ (List.mem_append_left _ hq), hqp⟩
set_option maxRecDepth 100000 in
theorem wline_spec {n0 : Nat} {ws : List Wrd} {m : Mem0} (b : Nat) (t : List UInt8) (k : Int) (w : World) (hW : WrM n0 b ws m) (hM : Mem w m) (hn0 : n0 ≤ w.heap.size) (hlx : ws.length ≤ 200000) : Ret Tryz.prog 56 #[.pointer (some ⟨b, 0, none⟩), vS t, .int .i64 k] w (Upd m (WrT n0 b (ws ++ linW t k)) w) := by
 refine Ret.enterM (l := [.pointer (some ⟨b, 0, none⟩), vS t, .int .i64 k]) Tryz.func56 rfl Tryz.ntmps56 rfl (m ++ []) ((fun x => ∃ q ∈ m, q.1 = x)) (by rw [List.append_nil]; exact hM) ?_
 refine wpM.seq ?_
 refine wpM.region ?_
 refine LM.val (ov_move rfl) ?_
 refine LM.val (ov_move rfl) ?_
 refine LM.val (ov_move rfl) ?_
 refine LM.cU (oc_call (enters_fn Tryz.func101 (by kernel_rfl) rfl) rfl) (fun w hm hc hg => wfield_spec b t k w hW (hm.pick _) (Nat.le_trans hn0 hc.size) (by first | omega | (simp only [List.length_append, List.length_cons, List.length_nil, fldW_len, linW_len]; omega))) (wr_cells hW) (fun p hp _ => ⟨p, hp, rfl⟩) ?_
 rintro u9 m9 ⟨rfl, hW9⟩ hin9
 refine LM.nil ?_
 refine QM.sub (e' := [(0, _)]) ⟨rfl, trivial⟩ ?_
 refine QM.then ?_
 refine wpM.region ?_
 refine LM.val (ov_move rfl) ?_
 refine LM.cU (oc_call (enters_fn Tryz.func102 (by kernel_rfl) rfl) rfl) (fun w hm hc hg => wend_spec b w hW9 (hm.pick _) (Nat.le_trans hn0 hc.size) (by first | omega | (simp only [List.length_append, List.length_cons, List.length_nil, fldW_len, linW_len]; omega))) (wr_cells hW9) (in_S hin9) ?_
 rintro u11 m11 ⟨rfl, hW11⟩ hin11
 refine LM.nil ?_
 refine QM.sub (e' := []) trivial ?_
 refine QM.leave (.inr rfl) [] Tryz.results56 rfl ?_
 intro w' hm' hc' hg'
 refine ⟨hc', m11, ⟨rfl, by have e : ws ++ linW t k = ws ++ fldW t k ++ [mk3 [59]] := (by simp [linW]); rw [e]; exact hW11⟩, hm'.pick _, in_tr hin9 hin11⟩

set_option maxRecDepth 100000 in
set_option maxHeartbeats 1000000 in
theorem wlock_spec {n0 : Nat} {ws : List Wrd} {m : Mem0} (b : Nat) (x : CLk) (w : World) (hW : WrM n0 b ws m) (hM : Mem w m) (hn0 : n0 ≤ w.heap.size) (hlx : ws.length ≤ 200000) : Ret Tryz.prog 57 #[.pointer (some ⟨b, 0, none⟩), .agg (fL x).toArray] w (Upd m (WrT n0 b (ws ++ lckW x)) w) := by
 obtain ⟨ad, n, cap, ml, hn, hsl, hbw, rfl⟩ := hW
 refine Ret.enterM (l := [.pointer (some ⟨b, 0, none⟩), .agg (fL x).toArray]) Tryz.func57 rfl Tryz.ntmps57 rfl (wrB b ad n cap :: (ml ++ [])) ((fun x => ∃ q ∈ wrB b ad n cap :: (ml ++ []), q.1 = x)) hM ?_
 refine wpM.seq ?_
 refine wpM.region ?_
 refine LM.box rfl rfl (fun b3 hb3 => ?_)
 refine LM.nil ?_
 refine QM.sub (e' := [(0, _), (3, _)]) ⟨rfl, rfl, trivial⟩ ?_
 refine QM.then ?_
 refine wpM.seq ?_
 refine wpM.region ?_
 refine LM.val (ov_assign rfl) ?_
 refine LM.nil ?_
 refine QM.sub (e' := [(0, _), (3, _), (4, _)]) ⟨rfl, rfl, rfl, trivial⟩ ?_
 refine QM.then ?_
 refine wpM.seq ?_
 refine wpM.seq ?_
 refine wpM.region ?_
 refine LM.val (ov_field Tryz.underlying63 rfl Tryz.sizeOf4 rfl (k := 0) rfl rfl) ?_
 first | refine LM.rd (om_ld Tryz.isAgg4 rfl rfl) ?_
 refine LM.nil ?_
 refine QM.sub (e' := [(0, _), (3, _), (4, _), (6, _)]) ⟨rfl, rfl, rfl, rfl, trivial⟩ ?_
 refine QM.then ?_
 refine wpM.joinK (α := List UInt8) (fun t => [(4, vS t)]) [(0, _), (3, _)] (fun t => wrB b ad n cap :: (ml ++ ((b3, .cells (fL x).toArray 63 (0, 0)) :: []))) (fun t => t = (if x.sh then wShared else wLock)) ⟨rfl, rfl, trivial⟩ ?_ ?_
 ·
  first | refine wpM.condD rfl (fun h1 => ?_) (fun h1 => ?_) | refine wpM.condB rfl (fun h1 => ?_) (fun h1 => ?_)
  ·
   refine wpM.region ?_
   refine LM.val (ov_assign rfl) ?_
   refine LM.nil ?_
   refine QM.sub (e' := [(0, _), (3, _), (4, _)]) ⟨rfl, rfl, rfl, trivial⟩ ?_
   refine QM.meetK (wShared) ⟨(by first | rfl | exact lk rfl (by congr 1; omega) | exact lk rfl (by simp)), rfl, rfl, trivial⟩ (by (repeat' (first | exact SubM.nil _ | refine SubM.cons rfl ?_ | refine SubM.app ?_))) ?_
   · rw [if_pos h1]
  ·
   refine wpM.skip ?_
   refine QM.meetK (wLock) ⟨(by first | rfl | exact lk rfl (by congr 1; omega) | exact lk rfl (by simp)), rfl, rfl, trivial⟩ (by (repeat' (first | exact SubM.nil _ | refine SubM.cons rfl ?_ | refine SubM.app ?_))) ?_
   · rw [if_neg (by rw [h1]; simp)]
 ·
  rintro t ht
  change QM _ _ _ _ _ (wrB b ad n cap :: (ml ++ ((b3, .cells (fL x).toArray 63 (0, 0)) :: []))) _ _ _
  refine QM.then ?_
  refine wpM.seq ?_
  refine wpM.region ?_
  refine LM.val (ov_move rfl) ?_
  refine LM.val (ov_move rfl) ?_
  refine LM.val (ov_nilCheck rfl) ?_
  refine LM.val (ov_field Tryz.underlying101 rfl Tryz.sizeOf23 rfl (k := 0) rfl rfl) ?_
  first | refine LM.rd (om_ld Tryz.isAgg23 rfl rfl) ?_
  refine LM.val (ov_move rfl) ?_
  refine LM.val (ov_build (cs := #[_, _, _, _]) rfl (by first | rfl | kernel_rfl)) ?_
  refine LM.single Tryz.underlying23 Tryz.sizeOf65 Tryz.zeroValue65 rfl rfl rfl rfl rfl (fun b14 hb14 => ?_)
  refine LM.appN (ys := [nmE t]) Tryz.underlying23 Tryz.typeInfo65 rfl rfl rfl rfl rfl rfl rfl hsl (fun w hm hc hg => row_sr 1 (hm.at b14) rfl rfl (fun _ => rfl)) (by intro _; rfl) (by intro _ u hu; simp [fW] at hu; (repeat (first | (rcases hu with rfl | hu) | subst hu | rfl))) (by first | exact Nat.le_refl _ | omega) (fun p hp _ => ⟨p, List.mem_cons_of_mem _ (List.mem_append_left _ hp), rfl⟩) (by first | omega | (unfold maxLen; simp only [fldW_len, List.length_cons, List.length_nil]; omega) | (unfold maxLen; omega)) (by simp only [Tryz.t65, fldW_len, List.length_cons, List.length_nil]; omega) (fun ad15 n15 cap15 m15 hn15 hs15 hin15 => ?_); have hWa : WrM n0 b (ws ++ [nmE t]) (wrB b ad15 n15 cap15 :: (m15 ++ [])) := ⟨ad15, n15, cap15, m15, by rw [hn15]; simp, hs15, hbw, rfl⟩; have hina := in_wr (b := b) (ad := ad) (ad' := ad15) (n := n) (n' := n15) (cap := cap) (cap' := cap15) hin15
  refine LM.val (ov_nilCheck rfl) ?_
  refine LM.val (ov_field Tryz.underlying101 rfl Tryz.sizeOf23 rfl (k := 0) rfl rfl) ?_
  refine LM.st Tryz.sizeOf23 rfl rfl rfl (by first | decide | exact Nat.le_of_ble_eq_true rfl | (simp; done) | (simp; omega)) rfl (fun hlt => by first | exact ⟨_, List.mem_cons_self .., rfl⟩ | exact absurd hlt (by omega)) ?_
  refine LM.nil ?_
  refine QM.sub (e' := [(0, _), (3, _)]) ⟨rfl, rfl, trivial⟩ ?_
  refine QM.then ?_
  refine wpM.seq ?_
  refine wpM.region ?_
  change LM _ _ _ _ _ _ _ _ (wrB b ad15 n15 cap15 :: _) _ _ _
  refine LM.val (ov_move rfl) ?_
  refine LM.val (ov_field Tryz.underlying63 rfl Tryz.sizeOf3 rfl (k := 1) rfl rfl) ?_
  first | refine LM.rd (om_ld Tryz.isAgg3 rfl rfl) ?_
  refine LM.cU (oc_call (enters_fn Tryz.func101 (by kernel_rfl) rfl) rfl) (fun w hm hc hg => wfield_spec b wSlice x.sl w hWa (hm.pick _) (Nat.le_trans hn0 hc.size) (by first | omega | (simp only [List.length_append, List.length_cons, List.length_nil, fldW_len, linW_len]; omega))) (wr_cells hWa) (in_S hina) ?_
  rintro u21 m21 ⟨rfl, hW21⟩ hin21
  refine LM.nil ?_
  refine QM.sub (e' := [(0, _), (3, _)]) ⟨rfl, rfl, trivial⟩ ?_
  refine QM.then ?_
  refine wpM.seq ?_
  refine wpM.region ?_
  refine LM.val (ov_move rfl) ?_
  refine LM.val (ov_field Tryz.underlying63 rfl Tryz.sizeOf3 rfl (k := 2) rfl rfl) ?_
  first | refine LM.rd (om_ld Tryz.isAgg3 rfl rfl) ?_
  refine LM.cU (oc_call (enters_fn Tryz.func101 (by kernel_rfl) rfl) rfl) (fun w hm hc hg => wfield_spec b wCrit x.cr w hW21 (hm.pick _) (Nat.le_trans hn0 hc.size) (by first | omega | (simp only [List.length_append, List.length_cons, List.length_nil, fldW_len, linW_len]; omega))) (wr_cells hW21) (in_S (in_tr hina hin21)) ?_
  rintro u25 m25 ⟨rfl, hW25⟩ hin25
  refine LM.nil ?_
  refine QM.sub (e' := [(0, _), (3, _)]) ⟨rfl, rfl, trivial⟩ ?_
  refine QM.then ?_
  refine wpM.seq ?_
  refine wpM.seq ?_
  refine wpM.region ?_
  refine LM.val (ov_field Tryz.underlying63 rfl Tryz.sizeOf4 rfl (k := 0) rfl rfl) ?_
  first | refine LM.rd (om_ld Tryz.isAgg4 rfl rfl) ?_
  refine LM.nil ?_
  refine QM.sub (e' := [(0, _), (3, _), (27, _)]) ⟨rfl, rfl, rfl, trivial⟩ ?_
  refine QM.then ?_
  first | refine wpM.condD rfl (fun h2 => ?_) (fun h2 => ?_) | refine wpM.condB rfl (fun h2 => ?_) (fun h2 => ?_)
  ·
   refine wpM.seq ?_
   refine wpM.region ?_
   refine LM.val (ov_move rfl) ?_
   refine LM.val (ov_field Tryz.underlying63 rfl Tryz.sizeOf3 rfl (k := 3) rfl rfl) ?_
   first | refine LM.rd (om_ld Tryz.isAgg3 rfl rfl) ?_
   refine LM.cU (oc_call (enters_fn Tryz.func101 (by kernel_rfl) rfl) rfl) (fun w hm hc hg => wfield_spec b wRead x.rd w hW25 (hm.pick _) (Nat.le_trans hn0 hc.size) (by first | omega | (simp only [List.length_append, List.length_cons, List.length_nil, fldW_len, linW_len]; omega))) (wr_cells hW25) (in_S (in_tr hina (in_tr hin21 hin25))) ?_
   rintro u31 m31 ⟨rfl, hW31⟩ hin31
   refine LM.nil ?_
   refine QM.sub (e' := [(0, _), (3, _)]) ⟨rfl, rfl, trivial⟩ ?_
   refine QM.then ?_
   refine wpM.region ?_
   refine LM.val (ov_move rfl) ?_
   refine LM.val (ov_field Tryz.underlying63 rfl Tryz.sizeOf3 rfl (k := 4) rfl rfl) ?_
   first | refine LM.rd (om_ld Tryz.isAgg3 rfl rfl) ?_
   refine LM.cU (oc_call (enters_fn Tryz.func101 (by kernel_rfl) rfl) rfl) (fun w hm hc hg => wfield_spec b wWrite x.wr w hW31 (hm.pick _) (Nat.le_trans hn0 hc.size) (by first | omega | (simp only [List.length_append, List.length_cons, List.length_nil, fldW_len, linW_len]; omega))) (wr_cells hW31) (in_S (in_tr hina (in_tr hin21 (in_tr hin25 hin31)))) ?_
   rintro u35 m35 ⟨rfl, hW35⟩ hin35; have hWe := hW35; have hine := in_tr hina (in_tr hin21 (in_tr hin25 (in_tr hin31 hin35)))
   refine LM.nil ?_
   refine QM.sub (e' := [(0, _)]) ⟨rfl, trivial⟩ ?_
   refine QM.then ?_
   refine wpM.region ?_
   refine LM.val (ov_move rfl) ?_
   refine LM.cU (oc_call (enters_fn Tryz.func102 (by kernel_rfl) rfl) rfl) (fun w hm hc hg => wend_spec b w hWe (hm.pick _) (Nat.le_trans hn0 hc.size) (by first | omega | (simp only [List.length_append, List.length_cons, List.length_nil, fldW_len, linW_len]; omega))) (wr_cells hWe) (in_S hine) ?_
   rintro u37 m37 ⟨rfl, hW37⟩ hin37
   refine LM.nil ?_
   refine QM.sub (e' := []) trivial ?_
   refine QM.leave (.inr rfl) [] Tryz.results57 rfl ?_
   intro w' hm' hc' hg'
   refine ⟨hc', m37, ⟨rfl, by have e : ws ++ lckW x = ws ++ [nmE t] ++ fldW wSlice x.sl ++ fldW wCrit x.cr ++ fldW wRead x.rd ++ fldW wWrite x.wr ++ [mk3 [59]] := (by unfold lckW; rw [ht]; simp [h2]); rw [e]; exact hW37⟩, hm'.pick _, in_tr hine hin37⟩
  ·
   have hWe := hW25; have hine := in_tr hina (in_tr hin21 hin25)
   refine wpM.skip ?_
   refine QM.then ?_
   refine wpM.region ?_
   refine LM.val (ov_move rfl) ?_
   refine LM.cU (oc_call (enters_fn Tryz.func102 (by kernel_rfl) rfl) rfl) (fun w hm hc hg => wend_spec b w hWe (hm.pick _) (Nat.le_trans hn0 hc.size) (by first | omega | (simp only [List.length_append, List.length_cons, List.length_nil, fldW_len, linW_len]; omega))) (wr_cells hWe) (in_S hine) ?_
   rintro u37 m37 ⟨rfl, hW37⟩ hin37
   refine LM.nil ?_
   refine QM.sub (e' := []) trivial ?_
   refine QM.leave (.inr rfl) [] Tryz.results57 rfl ?_
   intro w' hm' hc' hg'
   refine ⟨hc', m37, ⟨rfl, by have e : ws ++ lckW x = ws ++ [nmE t] ++ fldW wSlice x.sl ++ fldW wCrit x.cr ++ [mk3 [59]] := (by unfold lckW; rw [ht]; simp [h2]); rw [e]; exact hW37⟩, hm'.pick _, in_tr hine hin37⟩

set_option maxRecDepth 100000 in
set_option maxHeartbeats 2000000 in
theorem swords_spec {s : StV} (w : World) (hI : s.In w) : Ret Tryz.prog 18 #[s.val] w (fun v w' => Ext w w' ∧ ∃ m, WoT (wordsS s.C) w.heap.size v m ∧ Mem w' m ∧ ∀ p ∈ m, w.heap.size ≤ p.1) := by
 have hgn := hI.hgn; have hln := hI.hln; have hpn := hI.hpn; have hpS := hI.hp; have hgS := hI.hg; have hlS := hI.hl
 refine Ret.enterM (l := [s.val]) Tryz.func18 rfl Tryz.ntmps18 rfl ([]) (no) (Mem.nil w) ?_
 refine wpM.seq ?_
 refine wpM.region ?_
 refine LM.box rfl rfl (fun b1 hb1 => ?_)
 refine LM.val (ov_assign rfl) ?_
 refine LM.val (ov_assign rfl) ?_
 refine LM.nil ?_
 refine QM.sub (e' := [(1, _)]) ⟨rfl, trivial⟩ ?_
 refine QM.then ?_
 refine wpM.seq ?_
 refine wpM.seq ?_
 refine wpM.region ?_
 refine LM.rd (om_ldW Tryz.isAgg30 Tryz.sizeOf30 rfl rfl) ?_
 refine LM.callE (oc_call (enters_fn Tryz.func14 (by kernel_rfl) rfl) rfl) (fun w hm hc hg => mayS_spec w (hI.ext hc)) ?_
 first | refine LM.val (ov_notD rfl) ?_ | refine LM.val (ov_not rfl) ?_
 refine LM.nil ?_
 refine QM.sub (e' := [(1, _), (15, _)]) ⟨rfl, rfl, trivial⟩ ?_
 refine QM.then ?_
 first | refine wpM.condD rfl (fun h1 => ?_) (fun h1 => ?_) | refine wpM.condB rfl (fun h1 => ?_) (fun h1 => ?_)
 ·
  refine wpM.seq ?_
  refine wpM.region ?_
  refine LM.val (ov_assign rfl) ?_
  refine LM.val (ov_assign rfl) ?_
  refine LM.nil ?_
  refine QM.sub (e' := [(2, _), (3, _)]) ⟨rfl, rfl, trivial⟩ ?_
  refine QM.then ?_
  refine wpM.ret ?_
  refine QM.then_ret ?_
  refine QM.leave (.inl rfl) [.tmp 2, .tmp 3] Tryz.results18 rfl ?_
  intro w' hm' hc' hg'
  have hm0 : mayS s.C = false := (by simpa using h1); have hw : wordsS s.C = ([], 1) := (by unfold wordsS; rw [if_neg (by rw [hm0]; simp)]); rw [hw]; exact ⟨hc', [], ⟨none, 0, 0, rfl, rfl, .nil _ _ _ _⟩, Mem.nil _, fun p hp => by cases hp⟩
 ·
  have hmS : mayS s.C = true := (by simpa using h1); obtain ⟨_, _, hg4, _, hl8, _, hp8, _⟩ := mayS_inv hmS; have hg4 : 1 ≤ s.gs.length ∧ s.gs.length ≤ 4 := hg4; have hl8 : s.ls.length ≤ 8 := hl8; have hcl : (s.ps.map PgV.c).length = s.ps.length := List.length_map ..; have hp8 : 1 ≤ s.ps.length ∧ s.ps.length ≤ 8 := (by have h9 : 1 ≤ (s.ps.map PgV.c).length ∧ (s.ps.map PgV.c).length ≤ 8 := hp8; omega); have hp12 : ∀ p ∈ s.ps.map PgV.c, p.xs.length ≤ 12 := progs12 hmS
  refine wpM.skip ?_
  refine QM.then ?_
  refine wpM.seq ?_
  refine wpM.region ?_
  refine LM.val (ov_build (cs := #[_]) rfl (by first | rfl | kernel_rfl)) ?_
  refine LM.box rfl rfl (fun b17 hb17 => ?_)
  refine LM.val (ov_assign rfl) ?_
  refine LM.nil ?_
  refine QM.sub (e' := [(1, _), (4, _)]) ⟨rfl, rfl, trivial⟩ ?_
  refine QM.then ?_
  refine wpM.seq ?_
  refine wpM.region ?_
  change LM _ _ _ _ _ _ _ _ (wrB b17 none 0 0 :: _) _ _ _; have hW17 : WrM w.heap.size b17 [] (wrB b17 none 0 0 :: []) := ⟨none, 0, 0, [], rfl, .nil _ _ _ _, hb17, rfl⟩
  refine LM.val (ov_move rfl) ?_
  refine LM.val (ov_field Tryz.underlying30 rfl Tryz.sizeOf3 rfl (k := 0) rfl rfl) ?_
  first | refine LM.rd (om_ld Tryz.isAgg3 rfl rfl) ?_
  refine LM.cU (oc_call (enters_fn Tryz.func56 (by kernel_rfl) rfl) rfl) (fun w hm hc hg => wline_spec b17 wCores s.cr w hW17 (hm.pick _) hc.size (by simp)) (wr_cells hW17) (fun p hp hlt => absurd hlt (Nat.not_lt_of_le (wr_ge hW17 p hp))) ?_
  rintro u21 m21 ⟨rfl, hW21⟩ hin21
  refine LM.nil ?_
  refine QM.sub (e' := [(1, _), (4, _)]) ⟨rfl, rfl, trivial⟩ ?_
  refine QM.then ?_
  refine wpM.seq ?_
  refine wpM.region ?_
  refine LM.val (ov_move rfl) ?_
  refine LM.val (ov_field Tryz.underlying30 rfl Tryz.sizeOf3 rfl (k := 1) rfl rfl) ?_
  first | refine LM.rd (om_ld Tryz.isAgg3 rfl rfl) ?_
  refine LM.cU (oc_call (enters_fn Tryz.func56 (by kernel_rfl) rfl) rfl) (fun w hm hc hg => wline_spec b17 wGrain s.gr w hW21 (hm.pick _) hc.size (by simp [linW_len])) (wr_cells hW21) (fun p hp hlt => absurd hlt (Nat.not_lt_of_le (wr_ge hW21 p hp))) ?_
  rintro u25 m25 ⟨rfl, hW25⟩ hin25
  refine LM.nil ?_
  refine QM.sub (e' := [(1, _), (4, _)]) ⟨rfl, rfl, trivial⟩ ?_
  refine QM.then ?_
  refine wpM.seq ?_
  refine wpM.seq ?_
  refine wpM.region ?_
  refine LM.val (ov_field Tryz.underlying30 rfl Tryz.sizeOf26 rfl (k := 2) rfl rfl) ?_
  first | refine LM.rd (om_ld Tryz.isAgg26 rfl rfl) ?_
  refine LM.val (ov_len Tryz.underlying26 rfl) ?_
  refine LM.val (ov_move rfl) ?_
  refine LM.nil ?_
  refine QM.sub (e' := [(1, _), (4, _), (27, _), (28, _), (29, _)]) ⟨rfl, rfl, rfl, rfl, rfl, trivial⟩ ?_
  refine QM.then ?_
  refine wpM.block ?_
  refine wpM.loopK0 (α := Nat × Mem0) (fun ⟨i, mw⟩ => [(29, .int .i64 (i : Nat))]) [(1, _), (4, _), (27, _), (28, _)] (fun ⟨i, mw⟩ => mw ++ (stB b1 s :: [])) (fun ⟨i, mw⟩ => i ≤ s.gs.length ∧ WrM w.heap.size b17 (linW wCores s.cr ++ linW wGrain s.gr ++ (s.gs.take i).flatMap (linW wGroup)) mw) (fun ⟨i, mw⟩ => s.gs.length - i) ((0, m25)) ⟨(by first | rfl | exact lk rfl (by congr 1; omega) | exact lk rfl (by simp)), rfl, rfl, rfl, rfl, trivial⟩ (by (repeat' (first | exact SubM.nil _ | refine SubM.cons rfl ?_ | refine SubM.app ?_))) ⟨Nat.zero_le _, by simpa using hW25⟩ ?_
  rintro ⟨i, mw⟩ ⟨hi, hW0⟩
  change wpM _ _ _ _ _ _ _ (mw ++ (stB b1 s :: [])) _ _ _
  refine wpM.seq ?_
  refine wpM.region ?_
  refine LM.val (ov_lss rfl rfl) ?_
  refine LM.nil ?_
  refine QM.sub (e' := [(1, _), (4, _), (27, _), (28, _), (29, _), (30, _)]) ⟨rfl, rfl, rfl, rfl, rfl, rfl, trivial⟩ ?_
  refine QM.then ?_
  refine wpM.seq ?_
  refine wpM.condD rfl (fun h2 => ?_) (fun h2 => ?_)
  ·
   refine wpM.skip ?_
   refine QM.then ?_
   refine wpM.seq ?_
   refine wpM.block ?_
   refine wpM.seq ?_
   refine wpM.region ?_
   refine LM.val (ov_idxSN (by first | exact Sr.spt (by assumption) | exact Sl.spt (by assumption)) Tryz.underlying26 Tryz.sizeOf3 rfl rfl (by omega)) ?_
   first | refine LM.rd (om_sl1 (by assumption) (by intro _; rfl) Tryz.isAgg3 rfl rfl (by exact getq 0 (by first | omega | (simp only [List.length_set, List.length_append, List.length_cons, List.length_nil]; omega))) (by rfl)) ?_ | refine LM.rdC (om_sr1 (by assumption) Tryz.isAgg3 rfl rfl (by exact getq 0 (by first | omega | (simp only [List.length_set, List.length_append, List.length_cons, List.length_nil]; omega))) (by rfl) id) ?_ | refine LM.rd (om_ld Tryz.isAgg3 rfl rfl) ?_
   refine LM.val (ov_assign rfl) ?_
   refine LM.nil ?_
   refine QM.sub (e' := [(1, _), (4, _), (6, _), (27, _), (28, _), (29, _)]) ⟨rfl, rfl, rfl, rfl, rfl, rfl, trivial⟩ ?_
   refine QM.then ?_
   refine wpM.region ?_
   refine LM.val (ov_move rfl) ?_
   refine LM.val (ov_move rfl) ?_
   refine LM.cU (oc_call (enters_fn Tryz.func56 (by kernel_rfl) rfl) rfl) (fun w hm hc hg => wline_spec b17 wGroup (s.gs.getD i 0) w hW0 (hm.pick _) hc.size (by have h9 := lin_flen (gs := s.gs.take i) (t := wGroup); have h8 := List.length_take_le i s.gs; simp only [List.length_append, linW_len]; omega)) (wr_cells hW0) (fun p hp hlt => absurd hlt (Nat.not_lt_of_le (wr_ge hW0 p hp))) ?_
   rintro u35 m35 ⟨rfl, hW35⟩ hin35
   refine LM.nil ?_
   refine QM.sub (e' := [(1, _), (4, _), (27, _), (28, _), (29, _)]) ⟨rfl, rfl, rfl, rfl, rfl, trivial⟩ ?_
   refine QM.block_normal ?_
   refine QM.then ?_
   refine wpM.region ?_
   refine LM.val (ov_add64 rfl rfl (by omega)) ?_
   refine LM.val (ov_move rfl) ?_
   refine LM.nil ?_
   refine QM.sub (e' := [(1, _), (4, _), (27, _), (28, _), (29, _)]) ⟨rfl, rfl, rfl, rfl, rfl, trivial⟩ ?_
   refine QM.againK ((i + 1, m35)) ⟨(by first | rfl | exact lk rfl (by congr 1; omega) | exact lk rfl (by simp)), rfl, rfl, rfl, rfl, trivial⟩ (by (repeat' (first | exact SubM.nil _ | refine SubM.cons rfl ?_ | refine SubM.app ?_))) (fun _ h => h) ?_ ?_
   · exact ⟨by omega, by rw [lin_snoc (by omega), ← List.append_assoc]; exact hW35⟩
   · first | omega | (dsimp only; omega)
  ·
   refine wpM.exit ?_
   refine QM.then_exit ?_
   refine QM.then_exit ?_
   refine QM.block_hit ?_
   refine QM.then ?_
   refine wpM.seq ?_
   refine wpM.seq ?_
   refine wpM.region ?_
   refine LM.val (ov_field Tryz.underlying30 rfl Tryz.sizeOf27 rfl (k := 3) rfl rfl) ?_
   first | refine LM.rd (om_ld Tryz.isAgg27 rfl rfl) ?_
   refine LM.val (ov_len Tryz.underlying27 rfl) ?_
   refine LM.val (ov_move rfl) ?_
   refine LM.nil ?_
   refine QM.sub (e' := [(1, _), (4, _), (38, _), (39, _), (40, _)]) ⟨rfl, rfl, rfl, rfl, rfl, trivial⟩ ?_
   refine QM.then ?_
   refine wpM.block ?_
   refine wpM.loopK0 (α := Nat × Mem0) (fun ⟨j, mw⟩ => [(40, .int .i64 (j : Nat))]) [(1, _), (4, _), (38, _), (39, _)] (fun ⟨j, mw⟩ => mw ++ (stB b1 s :: [])) (fun ⟨j, mw⟩ => j ≤ s.ls.length ∧ WrM w.heap.size b17 (linW wCores s.cr ++ linW wGrain s.gr ++ s.gs.flatMap (linW wGroup) ++ (s.ls.take j).flatMap lckW) mw) (fun ⟨j, mw⟩ => s.ls.length - j) ((0, mw)) ⟨(by first | rfl | exact lk rfl (by congr 1; omega) | exact lk rfl (by simp)), rfl, rfl, rfl, rfl, trivial⟩ (by (repeat' (first | exact SubM.nil _ | refine SubM.cons rfl ?_ | refine SubM.app ?_))) ⟨Nat.zero_le _, by have hil : i = s.gs.length := (by omega); rw [hil, List.take_length] at hW0; simpa using hW0⟩ ?_
   rintro ⟨j, mw⟩ ⟨hj, hW1⟩
   change wpM _ _ _ _ _ _ _ (mw ++ (stB b1 s :: [])) _ _ _
   refine wpM.seq ?_
   refine wpM.region ?_
   refine LM.val (ov_lss rfl rfl) ?_
   refine LM.nil ?_
   refine QM.sub (e' := [(1, _), (4, _), (38, _), (39, _), (40, _), (41, _)]) ⟨rfl, rfl, rfl, rfl, rfl, rfl, trivial⟩ ?_
   refine QM.then ?_
   refine wpM.seq ?_
   refine wpM.condD rfl (fun h3 => ?_) (fun h3 => ?_)
   ·
    refine wpM.skip ?_
    refine QM.then ?_
    refine wpM.seq ?_
    refine wpM.block ?_
    refine wpM.seq ?_
    refine wpM.region ?_
    refine LM.val (ov_idxSN (by first | exact Sr.spt (by assumption) | exact Sl.spt (by assumption)) Tryz.underlying27 Tryz.sizeOf63 rfl rfl (by omega)) ?_
    first | refine LM.rd (om_slA (by assumption) (by intro _; rfl) Tryz.isAgg63 Tryz.sizeOf63 rfl (by exact getq default (by first | omega | (simp only [List.length_set, List.length_append, List.length_cons, List.length_nil]; omega)))) ?_ | refine LM.rdC (om_srEA (by assumption) (by intro _; rfl) Tryz.isAgg63 Tryz.sizeOf63 rfl (by exact getq default (by first | omega | (simp only [List.length_set, List.length_append, List.length_cons, List.length_nil]; omega))) id) ?_ | refine LM.rd (om_ldW Tryz.isAgg63 Tryz.sizeOf63 rfl rfl) ?_ | refine LM.rd (om_ldA Tryz.isAgg63 Tryz.sizeOf63 rfl (vs := [_, _, _, _, _]) rfl ⟨rfl, rfl, rfl, rfl, rfl, trivial⟩) ?_
    refine LM.alloc Tryz.zeroValue63 rfl (fun b8 hb8 => ?_)
    refine LM.stW Tryz.sizeOf63 rfl rfl rfl rfl (by first | rfl | decide | (simp; done)) (fun hlt => absurd hlt (by omega)) ?_
    refine LM.nil ?_
    refine QM.sub (e' := [(1, _), (4, _), (8, _), (38, _), (39, _), (40, _)]) ⟨rfl, rfl, rfl, rfl, rfl, rfl, trivial⟩ ?_
    refine QM.then ?_
    refine wpM.region ?_
    refine LM.val (ov_move rfl) ?_
    refine LM.rd (om_ldW Tryz.isAgg63 Tryz.sizeOf63 rfl rfl) ?_
    refine LM.cU (oc_call (enters_fn Tryz.func57 (by kernel_rfl) rfl) rfl) (fun w hm hc hg => wlock_spec b17 (s.ls.getD j default) w hW1 (hm.pick _) hc.size (by have h9 := lin_flen (gs := s.gs) (t := wGroup); have h7 := lck_flen (ls := s.ls.take j); have h8 := List.length_take_le j s.ls; simp only [List.length_append, linW_len]; omega)) (wr_cells hW1) (fun p hp hlt => absurd hlt (Nat.not_lt_of_le (wr_ge hW1 p hp))) ?_
    rintro u46 m46 ⟨rfl, hW46⟩ hin46
    refine LM.nil ?_
    refine QM.sub (e' := [(1, _), (4, _), (38, _), (39, _), (40, _)]) ⟨rfl, rfl, rfl, rfl, rfl, trivial⟩ ?_
    refine QM.block_normal ?_
    refine QM.then ?_
    refine wpM.region ?_
    refine LM.val (ov_add64 rfl rfl (by omega)) ?_
    refine LM.val (ov_move rfl) ?_
    refine LM.nil ?_
    refine QM.sub (e' := [(1, _), (4, _), (38, _), (39, _), (40, _)]) ⟨rfl, rfl, rfl, rfl, rfl, trivial⟩ ?_
    refine QM.againK ((j + 1, m46)) ⟨(by first | rfl | exact lk rfl (by congr 1; omega) | exact lk rfl (by simp)), rfl, rfl, rfl, rfl, trivial⟩ (by (repeat' (first | exact SubM.nil _ | refine SubM.cons rfl ?_ | refine SubM.app ?_))) (fun _ h => h) ?_ ?_
    · exact ⟨by omega, by rw [lck_snoc (by omega), ← List.append_assoc]; exact hW46⟩
    · first | omega | (dsimp only; omega)
   ·
    refine wpM.exit ?_
    refine QM.then_exit ?_
    refine QM.then_exit ?_
    refine QM.block_hit ?_
    refine QM.then ?_
    refine wpM.seq ?_
    refine wpM.seq ?_
    refine wpM.region ?_
    refine LM.val (ov_field Tryz.underlying30 rfl Tryz.sizeOf28 rfl (k := 4) rfl rfl) ?_
    first | refine LM.rd (om_ld Tryz.isAgg28 rfl rfl) ?_
    refine LM.val (ov_len Tryz.underlying28 rfl) ?_
    refine LM.val (ov_move rfl) ?_
    refine LM.nil ?_
    refine QM.sub (e' := [(4, _), (49, _), (50, _), (51, _)]) ⟨rfl, rfl, rfl, rfl, trivial⟩ ?_
    refine QM.then ?_
    refine wpM.block ?_
    refine wpM.loopK0 (α := Nat × Mem0) (fun ⟨k, mw⟩ => [(51, .int .i64 (k : Nat))]) [(4, _), (49, _), (50, _)] (fun ⟨k, mw⟩ => mw ++ (stB b1 s :: [])) (fun ⟨k, mw⟩ => k ≤ s.ps.length ∧ WrM w.heap.size b17 (linW wCores s.cr ++ linW wGrain s.gr ++ s.gs.flatMap (linW wGroup) ++ s.ls.flatMap lckW ++ pgW ((s.ps.map PgV.c).take k)) mw) (fun ⟨k, mw⟩ => s.ps.length - k) ((0, mw)) ⟨(by first | rfl | exact lk rfl (by congr 1; omega) | exact lk rfl (by simp)), rfl, rfl, rfl, trivial⟩ (by (repeat' (first | exact SubM.nil _ | refine SubM.cons rfl ?_ | refine SubM.app ?_))) ⟨Nat.zero_le _, by have hjl : j = s.ls.length := (by omega); rw [hjl, List.take_length] at hW1; simpa [pgW] using hW1⟩ ?_
    rintro ⟨k, mw⟩ ⟨hk, hW2⟩
    change wpM _ _ _ _ _ _ _ (mw ++ (stB b1 s :: [])) _ _ _
    refine wpM.seq ?_
    refine wpM.region ?_
    refine LM.val (ov_lss rfl rfl) ?_
    refine LM.nil ?_
    refine QM.sub (e' := [(4, _), (49, _), (50, _), (51, _), (52, _)]) ⟨rfl, rfl, rfl, rfl, rfl, trivial⟩ ?_
    refine QM.then ?_
    refine wpM.seq ?_
    refine wpM.condD rfl (fun h4 => ?_) (fun h4 => ?_)
    ·
     have hpm : s.ps.getD k default ∈ s.ps := List.mem_of_getElem? (getq default (by omega))
     refine wpM.skip ?_
     refine QM.then ?_
     refine wpM.seq ?_
     refine wpM.block ?_
     refine wpM.seq ?_
     refine wpM.region ?_
     refine LM.val (ov_idxSN (by first | exact Sr.spt (by assumption) | exact Sl.spt (by assumption)) Tryz.underlying28 Tryz.sizeOf87 rfl rfl (by omega)) ?_
     first | refine LM.rd (om_slA (by assumption) (by intro _; rfl) Tryz.isAgg87 Tryz.sizeOf87 rfl (by exact getq default (by first | omega | (simp only [List.length_set, List.length_append, List.length_cons, List.length_nil]; omega)))) ?_ | refine LM.rdC (om_srEA (by assumption) (by intro _; rfl) Tryz.isAgg87 Tryz.sizeOf87 rfl (by exact getq default (by first | omega | (simp only [List.length_set, List.length_append, List.length_cons, List.length_nil]; omega))) id) ?_ | refine LM.rd (om_ldW Tryz.isAgg87 Tryz.sizeOf87 rfl rfl) ?_ | refine LM.rd (om_ldA Tryz.isAgg87 Tryz.sizeOf87 rfl (vs := [_, _]) rfl ⟨rfl, rfl, trivial⟩) ?_
     refine LM.alloc Tryz.zeroValue87 rfl (fun b10 hb10 => ?_)
     refine LM.stW Tryz.sizeOf87 rfl rfl rfl rfl (by first | rfl | decide | (simp; done)) (fun hlt => absurd hlt (by omega)) ?_
     refine LM.nil ?_
     refine QM.sub (e' := [(4, _), (10, _), (49, _), (50, _), (51, _)]) ⟨rfl, rfl, rfl, rfl, rfl, trivial⟩ ?_
     refine QM.then ?_
     refine wpM.seq ?_
     refine wpM.region ?_
     refine LM.rd (om_ldW Tryz.isAgg87 Tryz.sizeOf87 rfl rfl) ?_
     refine LM.callT (oc_call (enters_fn Tryz.func58 (by kernel_rfl) rfl) rfl) WoT.mono (fun w hm hc hg => words_spec w (hI.ops _ hpm).1 ((hI.ops _ hpm).2.ext hc)) ?_
     rintro u57 m57 ⟨ad57, n57, cap57, rfl, hn57, hs57⟩ -; obtain ⟨adz, nz, cz, mz, hnz, hsz, hbz, rfl⟩ := hW2
     refine LM.val (ov_move rfl) ?_
     refine LM.val (ov_extract rfl rfl) ?_
     refine LM.val (ov_extract rfl rfl) ?_
     refine LM.val (ov_assign rfl) ?_
     refine LM.val (ov_assign rfl) ?_
     refine LM.nil ?_
     refine QM.sub (e' := [(4, _), (11, _), (49, _), (50, _), (51, _)]) ⟨rfl, rfl, rfl, rfl, rfl, trivial⟩ ?_
     refine QM.then ?_
     refine wpM.region ?_
     have h9 := lin_flen (gs := s.gs) (t := wGroup); have h7 := lck_flen (ls := s.ls); have h8 := pg_flen (ps := (s.ps.map PgV.c).take k) (fun p hp => hp12 p (List.mem_of_mem_take hp)); have h6 := List.length_take_le k (s.ps.map PgV.c); have h5 := words_len (s.ps.getD k default).c.fv (s.ps.getD k default).c.xs; have h4 := hp12 _ (List.mem_map_of_mem hpm); have hw57 : (wordsO (s.ps.getD k default).c.fv (s.ps.getD k default).c.xs).1 = wordsF (s.ps.getD k default).c.fv (s.ps.getD k default).c.xs := (by unfold wordsO; rw [if_pos (List.all_eq_true.1 (mayS_progs hmS) _ (List.mem_map_of_mem hpm))])
     refine LM.val (ov_move rfl) ?_
     refine LM.val (ov_move rfl) ?_
     refine LM.val (ov_nilCheck rfl) ?_
     refine LM.val (ov_field Tryz.underlying101 rfl Tryz.sizeOf23 rfl (k := 0) rfl rfl) ?_
     first | refine LM.rd (om_ld Tryz.isAgg23 rfl rfl) ?_
     refine LM.val (ov_move rfl) ?_
     refine LM.appN (ys := wordsF (s.ps.getD k default).c.fv (s.ps.getD k default).c.xs) Tryz.underlying23 Tryz.typeInfo65 rfl rfl rfl rfl rfl rfl rfl hsz (fun w hm hc hg => (hw57 ▸ hs57.srM (by intro _; rfl) hm)) (by intro _; rfl) (by intro _ u hu; simp [fW] at hu; (repeat (first | (rcases hu with rfl | hu) | subst hu | rfl))) (by first | exact Nat.le_refl _ | omega) (fun p hp hlt => absurd hlt (Nat.not_lt_of_le (Sl.ge hsz p hp))) (by first | (simp only [List.length_append, linW_len]; unfold maxLen; omega) | omega | (unfold maxLen; simp only [fldW_len, List.length_cons, List.length_nil]; omega) | (unfold maxLen; omega)) (by simp only [Tryz.t65, List.length_append, linW_len]; omega) (fun ad66 n66 cap66 m66 hn66 hs66 hin66 => ?_)
     refine LM.val (ov_nilCheck rfl) ?_
     refine LM.val (ov_field Tryz.underlying101 rfl Tryz.sizeOf23 rfl (k := 0) rfl rfl) ?_
     refine LM.st Tryz.sizeOf23 rfl rfl rfl (by first | decide | exact Nat.le_of_ble_eq_true rfl | (simp; done) | (simp; omega)) rfl (fun hlt => absurd hlt (by omega)) ?_
     refine LM.nil ?_
     refine QM.sub (e' := [(4, _), (49, _), (50, _), (51, _)]) ⟨rfl, rfl, rfl, rfl, trivial⟩ ?_
     refine QM.block_normal ?_
     refine QM.then ?_
     refine wpM.region ?_
     refine LM.val (ov_add64 rfl rfl (by omega)) ?_
     refine LM.val (ov_move rfl) ?_
     refine LM.nil ?_
     refine QM.sub (e' := [(4, _), (49, _), (50, _), (51, _)]) ⟨rfl, rfl, rfl, rfl, trivial⟩ ?_
     refine QM.againK ((k + 1, wrB b17 ad66 n66 cap66 :: (m66 ++ []))) ⟨(by first | rfl | exact lk rfl (by congr 1; omega) | exact lk rfl (by simp)), rfl, rfl, rfl, trivial⟩ (by (repeat' (first | exact SubM.nil _ | refine SubM.cons rfl ?_ | refine SubM.app ?_))) (fun _ h => h) ?_ ?_
     · exact ⟨by omega, by rw [pgW_snoc (by simp; omega), map_getD, ← List.append_assoc]; exact ⟨ad66, n66, cap66, m66, by simp only [hn66, List.length_append], hs66, hbz, rfl⟩⟩
     · first | omega | (dsimp only; omega)
    ·
     refine wpM.exit ?_
     refine QM.then_exit ?_
     refine QM.then_exit ?_
     refine QM.block_hit ?_
     refine QM.then ?_
     refine wpM.seq ?_
     refine wpM.region ?_
     obtain ⟨adz, nz, cz, mz, hnz, hsz, hbz, rfl⟩ := hW2
     refine LM.val (ov_move rfl) ?_
     refine LM.val (ov_nilCheck rfl) ?_
     refine LM.val (ov_field Tryz.underlying101 rfl Tryz.sizeOf23 rfl (k := 0) rfl rfl) ?_
     first | refine LM.rd (om_ld Tryz.isAgg23 rfl rfl) ?_
     refine LM.val (ov_assign rfl) ?_
     refine LM.val (ov_assign rfl) ?_
     refine LM.nil ?_
     refine QM.sub (e' := [(2, _), (3, _)]) ⟨rfl, rfl, trivial⟩ ?_
     refine QM.then ?_
     refine wpM.ret ?_
     refine QM.leave (.inl rfl) [.tmp 2, .tmp 3] Tryz.results18 rfl ?_
     intro w' hm' hc' hg'
     have hkl : k = s.ps.length := (by omega); have hw : wordsS s.C = (linW wCores s.cr ++ linW wGrain s.gr ++ s.gs.flatMap (linW wGroup) ++ s.ls.flatMap lckW ++ pgW ((s.ps.map PgV.c).take k), 0) := (by unfold wordsS; rw [if_pos hmS, setW_eq, hkl, List.take_of_length_le (by omega)]; rfl); rw [hw]; exact ⟨hc', mz ++ [], ⟨adz, nz, cz, rfl, hnz, by rw [List.append_nil]; exact hsz⟩, SubM.mem (by (repeat' (first | exact SubM.nil _ | refine SubM.app ?_))) w' hm', fun p hp => by rw [List.append_nil] at hp; exact Sl.ge hsz p hp⟩

set_option maxRecDepth 100000 in
theorem sprint_spec {s : StV} (w : World) (hI : s.In w) (hT : Tb w) : Ret Tryz.prog 16 #[s.val] w (fun v w' => v = .tuple #[vS (printS s.C).1, .int .i64 (printS s.C).2] ∧ Ext w w') := by
 refine Ret.enterM (l := [s.val]) Tryz.func16 rfl Tryz.ntmps16 rfl ([]) (no) (Mem.nil w) ?_
 refine wpM.seq ?_
 refine wpM.region ?_
 refine LM.box rfl rfl (fun b1 hb1 => ?_)
 refine LM.val (ov_assign rfl) ?_
 refine LM.val (ov_assign rfl) ?_
 refine LM.nil ?_
 refine QM.sub (e' := [(1, _)]) ⟨rfl, trivial⟩ ?_
 refine QM.then ?_
 refine wpM.seq ?_
 refine wpM.region ?_
 refine LM.rd (om_ldW Tryz.isAgg30 Tryz.sizeOf30 rfl rfl) ?_
 refine LM.callT (oc_call (enters_fn Tryz.func18 (by kernel_rfl) rfl) rfl) WoT.mono (fun w hm hc hg => swords_spec w (hI.ext hc)) ?_
 rintro u8 m8 ⟨ad8, n8, cap8, rfl, hn8, hs8⟩ -
 refine LM.val (ov_move rfl) ?_
 refine LM.val (ov_extract rfl rfl) ?_
 refine LM.val (ov_extract rfl rfl) ?_
 refine LM.val (ov_assign rfl) ?_
 refine LM.val (ov_assign rfl) ?_
 refine LM.nil ?_
 refine QM.sub (e' := [(4, _), (5, _)]) ⟨rfl, rfl, trivial⟩ ?_
 refine QM.then ?_
 refine wpM.seq ?_
 refine wpM.seq ?_
 refine wpM.region ?_
 refine LM.val (ov_move rfl) ?_
 refine LM.val (ov_neq rfl rfl) ?_
 refine LM.nil ?_
 refine QM.sub (e' := [(4, _), (5, _), (12, _)]) ⟨rfl, rfl, rfl, trivial⟩ ?_
 refine QM.then ?_
 refine wpM.condD rfl (fun h1 => ?_) (fun h1 => ?_)
 ·
  refine wpM.seq ?_
  refine wpM.region ?_
  refine LM.val (ov_move rfl) ?_
  refine LM.val (ov_assign rfl) ?_
  refine LM.val (ov_assign rfl) ?_
  refine LM.nil ?_
  refine QM.sub (e' := [(2, _), (3, _)]) ⟨rfl, rfl, trivial⟩ ?_
  refine QM.then ?_
  refine wpM.ret ?_
  refine QM.then_ret ?_
  refine QM.leave (.inl rfl) [.tmp 2, .tmp 3] Tryz.results16 rfl ?_
  intro w' hm' hc' hg'
  refine ⟨?_, hc'⟩; have hm : mayS s.C = false := (by cases hm : mayS s.C with | false => rfl | true => exact absurd (by unfold wordsS; rw [if_pos hm]) h1); unfold printS wordsS; rw [hm]; rfl
 ·
  refine wpM.skip ?_
  refine QM.then ?_
  refine wpM.seq ?_
  refine wpM.region ?_
  refine LM.val (ov_move rfl) ?_
  refine LM.callE (oc_call (enters_fn Tryz.func54 (by kernel_rfl) rfl) rfl) (fun w hm hc hg => join_spec w hn8 (wordsS_l8 s.C) (hs8.srM (by intro _; rfl) hm) (wordsS_t8 s.C) (hT.ext hc)) ?_
  refine LM.val (ov_extract rfl rfl) ?_
  refine LM.val (ov_extract rfl rfl) ?_
  refine LM.val (ov_assign rfl) ?_
  refine LM.val (ov_assign rfl) ?_
  refine LM.nil ?_
  refine QM.sub (e' := [(2, _), (3, _)]) ⟨rfl, rfl, trivial⟩ ?_
  refine QM.then ?_
  refine wpM.ret ?_
  refine QM.leave (.inl rfl) [.tmp 2, .tmp 3] Tryz.results16 rfl ?_
  intro w' hm' hc' hg'
  refine ⟨?_, hc'⟩; have hm : mayS s.C = true := (by cases hm : mayS s.C with | true => rfl | false => exact absurd (show (wordsS s.C).2 = 1 by unfold wordsS; rw [hm]; rfl) (by omega)); unfold printS wordsS; rw [hm]; rfl

end Go.Eng
set_option linter.unusedVariables false
set_option linter.unusedSimpArgs false
namespace Go.Eng
open Go Go.Proofs Go.RowKit

def FlT (n0 : Nat) (ws : List Wrd) (u : Value) (m : Mem0) : Prop := ∃ ad n cap, u = .slice ad n cap ∧ n = ws.length ∧ Sl fW 65 4 n0 ws (.slice ad n cap) m
abbrev eBk (b : Nat) : Nat × Obj := (b, .cells #[.int .i64 3, vS [59], .int .i64 0, .int .i64 0] 65 (0, 0))
set_option maxRecDepth 100000 in
theorem rfield_spec {n0 : Nat} {ws : List Wrd} {ad : Option Addr} {n cap : Nat} {m : Mem0} (t : List UInt8) (k : Int) (w : World) (hsl : Sl fW 65 4 n0 ws (.slice ad n cap) m) (hM : Mem w m) (hn0 : n0 ≤ w.heap.size) (hlx : ws.length ≤ 100000) : Ret Tryz.prog 60 #[.slice ad n cap, vS t, .int .i64 k] w (Upd m (FlT n0 (ws ++ fldW t k)) w) := by
 refine Ret.enterM (l := [.slice ad n cap, vS t, .int .i64 k]) Tryz.func60 rfl Tryz.ntmps60 rfl (m ++ []) ((fun x => ∃ q ∈ m, q.1 = x)) (by rw [List.append_nil]; exact hM) ?_
 refine wpM.seq ?_
 refine wpM.region ?_
 refine LM.val (ov_assign rfl) ?_
 refine LM.nil ?_
 refine QM.sub (e' := [(0, _), (1, _), (2, _)]) ⟨rfl, rfl, rfl, trivial⟩ ?_
 refine QM.then ?_
 refine wpM.seq ?_
 refine wpM.region ?_
 refine LM.val (ov_move rfl) ?_
 refine LM.val (ov_move rfl) ?_
 refine LM.val (ov_build (cs := #[_, _, _, _]) rfl (by first | rfl | kernel_rfl)) ?_
 refine LM.val (ov_move rfl) ?_
 refine LM.val (ov_build (cs := #[_, _, _, _]) rfl (by first | rfl | kernel_rfl)) ?_
 refine LM.row (vs := [_, _]) Tryz.underlying23 Tryz.sizeOf65 Tryz.zeroValue65 rfl rfl rfl rfl rfl rfl (fun b12 hb12 => ?_)
 refine LM.appN (ys := fldW t k) Tryz.underlying23 Tryz.typeInfo65 rfl rfl rfl rfl rfl rfl rfl hsl (fun w hm hc hg => row_sr 2 (hm.at b12) rfl rfl (fun _ => rfl)) (by intro _; rfl) (by intro _ u hu; simp [fW] at hu; (repeat (first | (rcases hu with rfl | hu) | subst hu | rfl))) (by first | exact Nat.le_refl _ | omega) (fun p hp _ => ⟨p, hp, rfl⟩) (by first | omega | (unfold maxLen; omega) | (simp only [fldW_len, linW_len, List.length_append, List.length_cons, List.length_nil]; unfold maxLen; omega)) (by simp only [Tryz.t65, fldW_len, linW_len, List.length_append, List.length_cons, List.length_nil]; omega) (fun ad13 n13 cap13 m13 hn13 hs13 hin13 => ?_)
 refine LM.val (ov_assign rfl) ?_
 refine LM.nil ?_
 refine QM.sub (e' := [(6, _)]) ⟨rfl, trivial⟩ ?_
 refine QM.then ?_
 refine wpM.ret ?_
 refine QM.leave (.inl rfl) [.tmp 6] Tryz.results60 rfl ?_
 intro w' hm' hc' hg'
 exact ⟨hc', m13, ⟨ad13, n13, cap13, rfl, by rw [hn13]; simp, hs13⟩, hm'.pick _, hin13⟩

set_option maxRecDepth 100000 in
set_option maxHeartbeats 3000000 in
theorem rswords_spec {s : StV} (w : World) (hI : s.In w) (hmS : mayS s.C = true) : Ret Tryz.prog 21 #[s.val] w (New fW 65 4 (setW s.C) w) := by
 have hgn := hI.hgn; have hln := hI.hln; have hpn := hI.hpn; have hpS := hI.hp; have hgS := hI.hg; have hlS := hI.hl; obtain ⟨_, _, hg4, _, hl8, _, hp8, _⟩ := mayS_inv hmS; have hg4 : 1 ≤ s.gs.length ∧ s.gs.length ≤ 4 := hg4; have hl8 : s.ls.length ≤ 8 := hl8; have hcl : (s.ps.map PgV.c).length = s.ps.length := List.length_map ..; have hp8 : 1 ≤ s.ps.length ∧ s.ps.length ≤ 8 := (by have h9 : 1 ≤ (s.ps.map PgV.c).length ∧ (s.ps.map PgV.c).length ≤ 8 := hp8; omega); have hp12 : ∀ p ∈ s.ps.map PgV.c, p.xs.length ≤ 12 := progs12 hmS; have hnl : Sl fW 65 4 w.heap.size [] (.slice none 0 0) [] := .nil _ _ _ _; have h9g := lin_flen (gs := s.gs) (t := wGroup); have h9l := lck_flen (ls := s.ls)
 refine Ret.enterM (l := [s.val]) Tryz.func21 rfl Tryz.ntmps21 rfl ([]) (no) (Mem.nil w) ?_
 refine wpM.seq ?_
 refine wpM.region ?_
 refine LM.box rfl rfl (fun b1 hb1 => ?_)
 refine LM.val (ov_assign rfl) ?_
 refine LM.nil ?_
 refine QM.sub (e' := [(1, _)]) ⟨rfl, trivial⟩ ?_
 refine QM.then ?_
 refine wpM.seq ?_
 refine wpM.region ?_
 refine LM.val (ov_build (cs := #[_, _, _, _]) rfl (by first | rfl | kernel_rfl)) ?_
 refine LM.alloc Tryz.zeroValue65 rfl (fun b3 hb3 => ?_)
 refine LM.stW Tryz.sizeOf65 rfl rfl rfl rfl (by first | rfl | decide | (simp; done)) (fun hlt => absurd hlt (by omega)) ?_
 refine LM.nil ?_
 refine QM.sub (e' := [(1, _), (3, _)]) ⟨rfl, rfl, trivial⟩ ?_
 refine QM.then ?_
 refine wpM.seq ?_
 refine wpM.joinK (α := Option Addr × Nat × Nat × Mem0) (fun ⟨ad, n, cap, m⟩ => [(4, .slice ad n cap)]) [(1, _), (3, _)] (fun ⟨ad, n, cap, m⟩ => m ++ (eBk b3 :: stB b1 s :: [])) (fun ⟨ad, n, cap, m⟩ => n = 3 ∧ Sl fW 65 4 w.heap.size (linW wCores s.cr) (.slice ad n cap) m) ⟨rfl, rfl, trivial⟩ ?_ ?_
 ·
  refine wpM.keep ((b1, _) :: (b3, _) :: []) (fun _ => True) (.one 0 0 (.one 1 1 (.one 3 1 (.fork 2 (.one 4 2 (.one 5 2 (.one 6 0 .nil))) 4 (.one 2 2 (.one 5 2 (.one 6 0 .nil))))))) (by kernel_rfl) (by kernel_rfl) (by (repeat' (first | exact SubM.nil _ | refine SubM.cons rfl ?_ | refine SubM.app ?_))) (fun _ _ => trivial) ?_
  refine KD.val rfl rfl (ov_field Tryz.underlying30 rfl Tryz.sizeOf3 rfl (k := 0) rfl rfl) ?_
  first | refine KD.rd rfl rfl (om_ld Tryz.isAgg3 rfl rfl) ?_
  refine KD.rd rfl rfl (om_ldW Tryz.isAgg65 Tryz.sizeOf65 rfl rfl) ?_
  refine KD.fork rfl rfl ?_ ?_
  ·
   refine LM.cU (oc_call (enters_fn Tryz.func60 (by kernel_rfl) rfl) rfl) (fun w hm hc hg => rfield_spec wCores s.cr w hnl (hm.pick _) hc.size (by first | omega | (simp only [fldW_len, linW_len, List.length_append, List.length_cons, List.length_nil]; omega))) hnl.wlk (fun p hp hlt => absurd hlt (Nat.not_lt_of_le (Sl.ge hnl p hp))) ?_
   rintro u13 m13 ⟨ad13, n13, cap13, rfl, hn13, hs13⟩ hin13
   refine LM.nil ?_
   refine QM.one (by (repeat' (first | exact SubM.nil _ | refine SubM.cons rfl ?_ | refine SubM.app ?_))) (fun _ _ => trivial) ?_
   refine KD.one rfl ?_
   refine LM.single Tryz.underlying23 Tryz.sizeOf65 Tryz.zeroValue65 rfl rfl rfl rfl rfl (fun b15 hb15 => ?_)
   refine LM.nil ?_
   refine QM.one (by (repeat' (first | exact SubM.nil _ | refine SubM.cons rfl ?_ | refine SubM.app ?_))) (fun _ _ => trivial) ?_
   refine KD.one rfl ?_
   refine LM.appN (ys := [mk3 [59]]) Tryz.underlying23 Tryz.typeInfo65 rfl rfl rfl rfl rfl rfl rfl hs13 (fun w hm hc hg => row_sr 1 (hm.at b15) rfl rfl (fun _ => rfl)) (by intro _; rfl) (by intro _ u hu; simp [fW] at hu; (repeat (first | (rcases hu with rfl | hu) | subst hu | rfl))) (by first | exact Nat.le_refl _ | omega) (fun p hp hlt => absurd hlt (Nat.not_lt_of_le (Sl.ge hs13 p hp))) (by first | omega | (unfold maxLen; omega) | (simp only [fldW_len, linW_len, List.length_append, List.length_cons, List.length_nil]; unfold maxLen; omega)) (by simp only [Tryz.t65, fldW_len, linW_len, List.length_append, List.length_cons, List.length_nil]; omega) (fun ad16 n16 cap16 m16 hn16 hs16 hin16 => ?_)
   refine LM.nil ?_
   refine QM.one (by (repeat' (first | exact SubM.nil _ | refine SubM.cons rfl ?_ | refine SubM.app ?_))) (fun _ _ => trivial) ?_
   refine KD.val rfl rfl (ov_assign rfl) ?_
   refine KD.nil ?_
   refine QM.sub (e' := [(1, _), (3, _), (4, _)]) ⟨rfl, rfl, rfl, trivial⟩ ?_
   refine QM.meetK ((ad16, n16, cap16, m16)) ⟨(by first | rfl | exact lk rfl (by congr 1; omega) | exact lk rfl (by simp)), rfl, rfl, trivial⟩ (by (repeat' (first | exact SubM.nil _ | refine SubM.cons rfl ?_ | refine SubM.app ?_))) ?_
   · exact ⟨by rw [hn16]; rfl, hs16⟩
  ·
   refine LM.single Tryz.underlying23 Tryz.sizeOf65 Tryz.zeroValue65 rfl rfl rfl rfl rfl (fun b15 hb15 => ?_)
   refine LM.nil ?_
   refine QM.one (by (repeat' (first | exact SubM.nil _ | refine SubM.cons rfl ?_ | refine SubM.app ?_))) (fun _ _ => trivial) ?_
   refine KD.one rfl ?_
   refine LM.cU (oc_call (enters_fn Tryz.func60 (by kernel_rfl) rfl) rfl) (fun w hm hc hg => rfield_spec wCores s.cr w hnl (hm.pick _) hc.size (by first | omega | (simp only [fldW_len, linW_len, List.length_append, List.length_cons, List.length_nil]; omega))) hnl.wlk (fun p hp hlt => absurd hlt (Nat.not_lt_of_le (Sl.ge hnl p hp))) ?_
   rintro u13 m13 ⟨ad13, n13, cap13, rfl, hn13, hs13⟩ hin13
   refine LM.nil ?_
   refine QM.one (by (repeat' (first | exact SubM.nil _ | refine SubM.cons rfl ?_ | refine SubM.app ?_))) (fun _ _ => trivial) ?_
   refine KD.one rfl ?_
   refine LM.appN (ys := [mk3 [59]]) Tryz.underlying23 Tryz.typeInfo65 rfl rfl rfl rfl rfl rfl rfl hs13 (fun w hm hc hg => row_sr 1 (hm.at b15) rfl rfl (fun _ => rfl)) (by intro _; rfl) (by intro _ u hu; simp [fW] at hu; (repeat (first | (rcases hu with rfl | hu) | subst hu | rfl))) (by first | exact Nat.le_refl _ | omega) (fun p hp hlt => absurd hlt (Nat.not_lt_of_le (Sl.ge hs13 p hp))) (by first | omega | (unfold maxLen; omega) | (simp only [fldW_len, linW_len, List.length_append, List.length_cons, List.length_nil]; unfold maxLen; omega)) (by simp only [Tryz.t65, fldW_len, linW_len, List.length_append, List.length_cons, List.length_nil]; omega) (fun ad16 n16 cap16 m16 hn16 hs16 hin16 => ?_)
   refine LM.nil ?_
   refine QM.one (by (repeat' (first | exact SubM.nil _ | refine SubM.cons rfl ?_ | refine SubM.app ?_))) (fun _ _ => trivial) ?_
   refine KD.val rfl rfl (ov_assign rfl) ?_
   refine KD.nil ?_
   refine QM.sub (e' := [(1, _), (3, _), (4, _)]) ⟨rfl, rfl, rfl, trivial⟩ ?_
   refine QM.meetK ((ad16, n16, cap16, m16)) ⟨(by first | rfl | exact lk rfl (by congr 1; omega) | exact lk rfl (by simp)), rfl, rfl, trivial⟩ (by (repeat' (first | exact SubM.nil _ | refine SubM.cons rfl ?_ | refine SubM.app ?_))) ?_
   · exact ⟨by rw [hn16]; rfl, hs16⟩
 ·
  rintro ⟨ad, n, cap, m⟩ ⟨hnA, hsA⟩
  change QM _ _ _ _ _ (m ++ (eBk b3 :: stB b1 s :: [])) _ _ _
  refine QM.then ?_
  refine wpM.seq ?_
  refine wpM.joinK (α := Option Addr × Nat × Nat × Mem0) (fun ⟨ad, n, cap, m⟩ => [(4, .slice ad n cap)]) [(1, _), (3, _)] (fun ⟨ad, n, cap, m⟩ => m ++ (eBk b3 :: stB b1 s :: [])) (fun ⟨ad, n, cap, m⟩ => n = 6 ∧ Sl fW 65 4 w.heap.size (linW wCores s.cr ++ linW wGrain s.gr) (.slice ad n cap) m) ⟨rfl, rfl, trivial⟩ ?_ ?_
  ·
   refine wpM.keep ((b1, _) :: (b3, _) :: []) (fun _ => True) (.one 0 0 (.one 1 0 (.one 2 1 (.one 4 1 (.fork 3 (.one 5 2 (.one 6 2 (.one 7 0 .nil))) 5 (.one 3 2 (.one 6 2 (.one 7 0 .nil)))))))) (by kernel_rfl) (by kernel_rfl) (by (repeat' (first | exact SubM.nil _ | refine SubM.cons rfl ?_ | refine SubM.app ?_))) (fun _ _ => trivial) ?_
   refine KD.val rfl rfl (ov_move rfl) ?_
   refine KD.val rfl rfl (ov_field Tryz.underlying30 rfl Tryz.sizeOf3 rfl (k := 1) rfl rfl) ?_
   first | refine KD.rd rfl rfl (om_ld Tryz.isAgg3 rfl rfl) ?_
   refine KD.rd rfl rfl (om_ldW Tryz.isAgg65 Tryz.sizeOf65 rfl rfl) ?_
   refine KD.fork rfl rfl ?_ ?_
   ·
    refine LM.cU (oc_call (enters_fn Tryz.func60 (by kernel_rfl) rfl) rfl) (fun w hm hc hg => rfield_spec wGrain s.gr w hsA (hm.pick _) hc.size (by first | omega | (simp only [fldW_len, linW_len, List.length_append, List.length_cons, List.length_nil]; omega))) hsA.wlk (fun p hp hlt => absurd hlt (Nat.not_lt_of_le (Sl.ge hsA p hp))) ?_
    rintro u20 m20 ⟨ad20, n20, cap20, rfl, hn20, hs20⟩ hin20
    refine LM.nil ?_
    refine QM.one (by (repeat' (first | exact SubM.nil _ | refine SubM.cons rfl ?_ | refine SubM.app ?_))) (fun _ _ => trivial) ?_
    refine KD.one rfl ?_
    refine LM.single Tryz.underlying23 Tryz.sizeOf65 Tryz.zeroValue65 rfl rfl rfl rfl rfl (fun b22 hb22 => ?_)
    refine LM.nil ?_
    refine QM.one (by (repeat' (first | exact SubM.nil _ | refine SubM.cons rfl ?_ | refine SubM.app ?_))) (fun _ _ => trivial) ?_
    refine KD.one rfl ?_
    refine LM.appN (ys := [mk3 [59]]) Tryz.underlying23 Tryz.typeInfo65 rfl rfl rfl rfl rfl rfl rfl hs20 (fun w hm hc hg => row_sr 1 (hm.at b22) rfl rfl (fun _ => rfl)) (by intro _; rfl) (by intro _ u hu; simp [fW] at hu; (repeat (first | (rcases hu with rfl | hu) | subst hu | rfl))) (by first | exact Nat.le_refl _ | omega) (fun p hp hlt => absurd hlt (Nat.not_lt_of_le (Sl.ge hs20 p hp))) (by first | omega | (unfold maxLen; omega) | (simp only [fldW_len, linW_len, List.length_append, List.length_cons, List.length_nil]; unfold maxLen; omega)) (by simp only [Tryz.t65, fldW_len, linW_len, List.length_append, List.length_cons, List.length_nil]; omega) (fun ad23 n23 cap23 m23 hn23 hs23 hin23 => ?_)
    refine LM.nil ?_
    refine QM.one (by (repeat' (first | exact SubM.nil _ | refine SubM.cons rfl ?_ | refine SubM.app ?_))) (fun _ _ => trivial) ?_
    refine KD.val rfl rfl (ov_assign rfl) ?_
    refine KD.nil ?_
    refine QM.sub (e' := [(1, _), (3, _), (4, _)]) ⟨rfl, rfl, rfl, trivial⟩ ?_
    refine QM.meetK ((ad23, n23, cap23, m23)) ⟨(by first | rfl | exact lk rfl (by congr 1; omega) | exact lk rfl (by simp)), rfl, rfl, trivial⟩ (by (repeat' (first | exact SubM.nil _ | refine SubM.cons rfl ?_ | refine SubM.app ?_))) ?_
    · exact ⟨by rw [hn23]; rfl, by have e : linW wCores s.cr ++ linW wGrain s.gr = linW wCores s.cr ++ fldW wGrain s.gr ++ [mk3 [59]] := (by simp [linW]); rw [e]; exact hs23⟩
   ·
    refine LM.single Tryz.underlying23 Tryz.sizeOf65 Tryz.zeroValue65 rfl rfl rfl rfl rfl (fun b22 hb22 => ?_)
    refine LM.nil ?_
    refine QM.one (by (repeat' (first | exact SubM.nil _ | refine SubM.cons rfl ?_ | refine SubM.app ?_))) (fun _ _ => trivial) ?_
    refine KD.one rfl ?_
    refine LM.cU (oc_call (enters_fn Tryz.func60 (by kernel_rfl) rfl) rfl) (fun w hm hc hg => rfield_spec wGrain s.gr w hsA (hm.pick _) hc.size (by first | omega | (simp only [fldW_len, linW_len, List.length_append, List.length_cons, List.length_nil]; omega))) hsA.wlk (fun p hp hlt => absurd hlt (Nat.not_lt_of_le (Sl.ge hsA p hp))) ?_
    rintro u20 m20 ⟨ad20, n20, cap20, rfl, hn20, hs20⟩ hin20
    refine LM.nil ?_
    refine QM.one (by (repeat' (first | exact SubM.nil _ | refine SubM.cons rfl ?_ | refine SubM.app ?_))) (fun _ _ => trivial) ?_
    refine KD.one rfl ?_
    refine LM.appN (ys := [mk3 [59]]) Tryz.underlying23 Tryz.typeInfo65 rfl rfl rfl rfl rfl rfl rfl hs20 (fun w hm hc hg => row_sr 1 (hm.at b22) rfl rfl (fun _ => rfl)) (by intro _; rfl) (by intro _ u hu; simp [fW] at hu; (repeat (first | (rcases hu with rfl | hu) | subst hu | rfl))) (by first | exact Nat.le_refl _ | omega) (fun p hp hlt => absurd hlt (Nat.not_lt_of_le (Sl.ge hs20 p hp))) (by first | omega | (unfold maxLen; omega) | (simp only [fldW_len, linW_len, List.length_append, List.length_cons, List.length_nil]; unfold maxLen; omega)) (by simp only [Tryz.t65, fldW_len, linW_len, List.length_append, List.length_cons, List.length_nil]; omega) (fun ad23 n23 cap23 m23 hn23 hs23 hin23 => ?_)
    refine LM.nil ?_
    refine QM.one (by (repeat' (first | exact SubM.nil _ | refine SubM.cons rfl ?_ | refine SubM.app ?_))) (fun _ _ => trivial) ?_
    refine KD.val rfl rfl (ov_assign rfl) ?_
    refine KD.nil ?_
    refine QM.sub (e' := [(1, _), (3, _), (4, _)]) ⟨rfl, rfl, rfl, trivial⟩ ?_
    refine QM.meetK ((ad23, n23, cap23, m23)) ⟨(by first | rfl | exact lk rfl (by congr 1; omega) | exact lk rfl (by simp)), rfl, rfl, trivial⟩ (by (repeat' (first | exact SubM.nil _ | refine SubM.cons rfl ?_ | refine SubM.app ?_))) ?_
    · exact ⟨by rw [hn23]; rfl, by have e : linW wCores s.cr ++ linW wGrain s.gr = linW wCores s.cr ++ fldW wGrain s.gr ++ [mk3 [59]] := (by simp [linW]); rw [e]; exact hs23⟩
  ·
   rintro ⟨ad, n, cap, m⟩ ⟨hnB, hsB⟩
   change QM _ _ _ _ _ (m ++ (eBk b3 :: stB b1 s :: [])) _ _ _
   refine QM.then ?_
   refine wpM.seq ?_
   refine wpM.seq ?_
   refine wpM.region ?_
   refine LM.val (ov_assign rfl) ?_
   refine LM.nil ?_
   refine QM.sub (e' := [(1, _), (3, _), (4, _), (5, _)]) ⟨rfl, rfl, rfl, rfl, trivial⟩ ?_
   refine QM.then ?_
   refine wpM.block ?_
   refine wpM.loopK0 (α := Nat × List Wrd × Option Addr × Nat × Nat × Mem0) (fun ⟨i, l, ad, n, cap, m⟩ => [(4, .slice ad n cap), (5, .int .i64 (i : Nat))]) [(1, _), (3, _)] (fun ⟨i, l, ad, n, cap, m⟩ => m ++ (eBk b3 :: stB b1 s :: [])) (fun ⟨i, l, ad, n, cap, m⟩ => i ≤ s.gs.length ∧ l = linW wCores s.cr ++ linW wGrain s.gr ++ (s.gs.take i).flatMap (linW wGroup) ∧ l.length ≤ 100 ∧ n = l.length ∧ Sl fW 65 4 w.heap.size l (.slice ad n cap) m) (fun ⟨i, l, ad, n, cap, m⟩ => s.gs.length - i) ((0, linW wCores s.cr ++ linW wGrain s.gr, ad, n, cap, m)) ⟨(by first | rfl | exact lk rfl (by congr 1; omega) | exact lk rfl (by simp)), (by first | rfl | exact lk rfl (by congr 1; omega) | exact lk rfl (by simp)), rfl, rfl, trivial⟩ (by (repeat' (first | exact SubM.nil _ | refine SubM.cons rfl ?_ | refine SubM.app ?_))) ⟨Nat.zero_le _, by simp, by simp [linW_len], hnB, hsB⟩ ?_
   rintro ⟨i, l, ad, n, cap, m⟩ ⟨hi, hl, hlx, hn, hs⟩
   change wpM _ _ _ _ _ _ _ (m ++ (eBk b3 :: stB b1 s :: [])) _ _ _
   refine wpM.seq ?_
   refine wpM.seq ?_
   refine wpM.region ?_
   refine LM.val (ov_move rfl) ?_
   refine LM.val (ov_field Tryz.underlying30 rfl Tryz.sizeOf26 rfl (k := 2) rfl rfl) ?_
   first | refine LM.rd (om_ld Tryz.isAgg26 rfl rfl) ?_
   refine LM.val (ov_len Tryz.underlying26 rfl) ?_
   refine LM.val (ov_lss rfl rfl) ?_
   refine LM.nil ?_
   refine QM.sub (e' := [(1, _), (3, _), (4, _), (5, _), (28, _)]) ⟨rfl, rfl, rfl, rfl, rfl, trivial⟩ ?_
   refine QM.then ?_
   refine wpM.condD rfl (fun h1 => ?_) (fun h1 => ?_)
   ·
    refine wpM.skip ?_
    refine QM.then ?_
    refine wpM.seq ?_
    refine wpM.block ?_
    refine wpM.keep ((b1, _) :: (b3, _) :: []) (fun _ => True) (.one 0 0 (.one 1 0 (.one 2 1 (.one 3 0 (.one 4 0 (.one 5 1 (.one 7 1 (.fork 6 (.one 8 2 (.one 9 2 (.one 10 0 .nil))) 8 (.one 6 2 (.one 9 2 (.one 10 0 .nil))))))))))) (by kernel_rfl) (by kernel_rfl) (by (repeat' (first | exact SubM.nil _ | refine SubM.cons rfl ?_ | refine SubM.app ?_))) (fun _ _ => trivial) ?_
    refine KD.val rfl rfl (ov_move rfl) ?_
    refine KD.val rfl rfl (ov_field Tryz.underlying30 rfl Tryz.sizeOf26 rfl (k := 2) rfl rfl) ?_
    first | refine KD.rd rfl rfl (om_ld Tryz.isAgg26 rfl rfl) ?_
    refine KD.val rfl rfl (ov_move rfl) ?_
    refine KD.val rfl rfl (ov_idxSN (by first | exact Sr.spt (by assumption) | exact Sl.spt (by assumption)) Tryz.underlying26 Tryz.sizeOf3 rfl rfl (by omega)) ?_
    first | refine KD.rd rfl rfl (om_sl1 (by assumption) (by intro _; rfl) Tryz.isAgg3 rfl rfl (by exact getq 0 (by first | omega | (simp only [List.length_set, List.length_append, List.length_cons, List.length_nil]; omega))) (by rfl)) ?_ | refine KD.rdC rfl rfl (om_sr1 (by assumption) Tryz.isAgg3 rfl rfl (by exact getq 0 (by first | omega | (simp only [List.length_set, List.length_append, List.length_cons, List.length_nil]; omega))) (by rfl) id) ?_ | refine KD.rd rfl rfl (om_ld Tryz.isAgg3 rfl rfl) ?_
    refine KD.rd rfl rfl (om_ldW Tryz.isAgg65 Tryz.sizeOf65 rfl rfl) ?_
    refine KD.fork rfl rfl ?_ ?_
    ·
     refine LM.cU (oc_call (enters_fn Tryz.func60 (by kernel_rfl) rfl) rfl) (fun w hm hc hg => rfield_spec wGroup (s.gs.getD i 0) w hs (hm.pick _) hc.size (by first | omega | (simp only [fldW_len, linW_len, List.length_append, List.length_cons, List.length_nil]; omega))) hs.wlk (fun p hp hlt => absurd hlt (Nat.not_lt_of_le (Sl.ge hs p hp))) ?_
     rintro u37 m37 ⟨ad37, n37, cap37, rfl, hn37, hs37⟩ hin37
     refine LM.nil ?_
     refine QM.one (by (repeat' (first | exact SubM.nil _ | refine SubM.cons rfl ?_ | refine SubM.app ?_))) (fun _ _ => trivial) ?_
     refine KD.one rfl ?_
     refine LM.single Tryz.underlying23 Tryz.sizeOf65 Tryz.zeroValue65 rfl rfl rfl rfl rfl (fun b39 hb39 => ?_)
     refine LM.nil ?_
     refine QM.one (by (repeat' (first | exact SubM.nil _ | refine SubM.cons rfl ?_ | refine SubM.app ?_))) (fun _ _ => trivial) ?_
     refine KD.one rfl ?_
     refine LM.appN (ys := [mk3 [59]]) Tryz.underlying23 Tryz.typeInfo65 rfl rfl rfl rfl rfl rfl rfl hs37 (fun w hm hc hg => row_sr 1 (hm.at b39) rfl rfl (fun _ => rfl)) (by intro _; rfl) (by intro _ u hu; simp [fW] at hu; (repeat (first | (rcases hu with rfl | hu) | subst hu | rfl))) (by first | exact Nat.le_refl _ | omega) (fun p hp hlt => absurd hlt (Nat.not_lt_of_le (Sl.ge hs37 p hp))) (by first | omega | (unfold maxLen; omega) | (simp only [fldW_len, linW_len, List.length_append, List.length_cons, List.length_nil]; unfold maxLen; omega)) (by simp only [Tryz.t65, fldW_len, linW_len, List.length_append, List.length_cons, List.length_nil]; omega) (fun ad40 n40 cap40 m40 hn40 hs40 hin40 => ?_)
     refine LM.nil ?_
     refine QM.one (by (repeat' (first | exact SubM.nil _ | refine SubM.cons rfl ?_ | refine SubM.app ?_))) (fun _ _ => trivial) ?_
     refine KD.val rfl rfl (ov_assign rfl) ?_
     refine KD.nil ?_
     refine QM.sub (e' := [(1, _), (3, _), (4, _), (5, _)]) ⟨rfl, rfl, rfl, rfl, trivial⟩ ?_
     refine QM.block_normal ?_
     refine QM.then ?_
     refine wpM.region ?_
     refine LM.val (ov_move rfl) ?_
     refine LM.val (ov_add64 rfl rfl (by omega)) ?_
     refine LM.val (ov_assign rfl) ?_
     refine LM.nil ?_
     refine QM.sub (e' := [(1, _), (3, _), (4, _), (5, _)]) ⟨rfl, rfl, rfl, rfl, trivial⟩ ?_
     refine QM.againK ((i + 1, l ++ fldW wGroup (s.gs.getD i 0) ++ [mk3 [59]], ad40, n40, cap40, m40)) ⟨(by first | rfl | exact lk rfl (by congr 1; omega) | exact lk rfl (by simp)), (by first | rfl | exact lk rfl (by congr 1; omega) | exact lk rfl (by simp)), rfl, rfl, trivial⟩ (by (repeat' (first | exact SubM.nil _ | refine SubM.cons rfl ?_ | refine SubM.app ?_))) (fun _ h => h) ?_ ?_
     · exact ⟨by omega, by rw [lin_snoc (by omega), hl]; simp [linW], by have h8 := lin_flen (gs := s.gs.take i) (t := wGroup); have h7 := List.length_take_le i s.gs; rw [hl]; simp only [List.length_append, linW_len, fldW_len, List.length_cons, List.length_nil]; omega, by rw [hn40]; simp [Nat.add_assoc], hs40⟩
     · first | omega | (dsimp only; omega)
    ·
     refine LM.single Tryz.underlying23 Tryz.sizeOf65 Tryz.zeroValue65 rfl rfl rfl rfl rfl (fun b39 hb39 => ?_)
     refine LM.nil ?_
     refine QM.one (by (repeat' (first | exact SubM.nil _ | refine SubM.cons rfl ?_ | refine SubM.app ?_))) (fun _ _ => trivial) ?_
     refine KD.one rfl ?_
     refine LM.cU (oc_call (enters_fn Tryz.func60 (by kernel_rfl) rfl) rfl) (fun w hm hc hg => rfield_spec wGroup (s.gs.getD i 0) w hs (hm.pick _) hc.size (by first | omega | (simp only [fldW_len, linW_len, List.length_append, List.length_cons, List.length_nil]; omega))) hs.wlk (fun p hp hlt => absurd hlt (Nat.not_lt_of_le (Sl.ge hs p hp))) ?_
     rintro u37 m37 ⟨ad37, n37, cap37, rfl, hn37, hs37⟩ hin37
     refine LM.nil ?_
     refine QM.one (by (repeat' (first | exact SubM.nil _ | refine SubM.cons rfl ?_ | refine SubM.app ?_))) (fun _ _ => trivial) ?_
     refine KD.one rfl ?_
     refine LM.appN (ys := [mk3 [59]]) Tryz.underlying23 Tryz.typeInfo65 rfl rfl rfl rfl rfl rfl rfl hs37 (fun w hm hc hg => row_sr 1 (hm.at b39) rfl rfl (fun _ => rfl)) (by intro _; rfl) (by intro _ u hu; simp [fW] at hu; (repeat (first | (rcases hu with rfl | hu) | subst hu | rfl))) (by first | exact Nat.le_refl _ | omega) (fun p hp hlt => absurd hlt (Nat.not_lt_of_le (Sl.ge hs37 p hp))) (by first | omega | (unfold maxLen; omega) | (simp only [fldW_len, linW_len, List.length_append, List.length_cons, List.length_nil]; unfold maxLen; omega)) (by simp only [Tryz.t65, fldW_len, linW_len, List.length_append, List.length_cons, List.length_nil]; omega) (fun ad40 n40 cap40 m40 hn40 hs40 hin40 => ?_)
     refine LM.nil ?_
     refine QM.one (by (repeat' (first | exact SubM.nil _ | refine SubM.cons rfl ?_ | refine SubM.app ?_))) (fun _ _ => trivial) ?_
     refine KD.val rfl rfl (ov_assign rfl) ?_
     refine KD.nil ?_
     refine QM.sub (e' := [(1, _), (3, _), (4, _), (5, _)]) ⟨rfl, rfl, rfl, rfl, trivial⟩ ?_
     refine QM.block_normal ?_
     refine QM.then ?_
     refine wpM.region ?_
     refine LM.val (ov_move rfl) ?_
     refine LM.val (ov_add64 rfl rfl (by omega)) ?_
     refine LM.val (ov_assign rfl) ?_
     refine LM.nil ?_
     refine QM.sub (e' := [(1, _), (3, _), (4, _), (5, _)]) ⟨rfl, rfl, rfl, rfl, trivial⟩ ?_
     refine QM.againK ((i + 1, l ++ fldW wGroup (s.gs.getD i 0) ++ [mk3 [59]], ad40, n40, cap40, m40)) ⟨(by first | rfl | exact lk rfl (by congr 1; omega) | exact lk rfl (by simp)), (by first | rfl | exact lk rfl (by congr 1; omega) | exact lk rfl (by simp)), rfl, rfl, trivial⟩ (by (repeat' (first | exact SubM.nil _ | refine SubM.cons rfl ?_ | refine SubM.app ?_))) (fun _ h => h) ?_ ?_
     · exact ⟨by omega, by rw [lin_snoc (by omega), hl]; simp [linW], by have h8 := lin_flen (gs := s.gs.take i) (t := wGroup); have h7 := List.length_take_le i s.gs; rw [hl]; simp only [List.length_append, linW_len, fldW_len, List.length_cons, List.length_nil]; omega, by rw [hn40]; simp [Nat.add_assoc], hs40⟩
     · first | omega | (dsimp only; omega)
   ·
    refine wpM.exit ?_
    refine QM.then_exit ?_
    refine QM.then_exit ?_
    refine QM.block_hit ?_
    refine QM.then ?_
    refine wpM.seq ?_
    refine wpM.seq ?_
    refine wpM.region ?_
    refine LM.val (ov_assign rfl) ?_
    refine LM.nil ?_
    refine QM.sub (e' := [(1, _), (3, _), (4, _), (6, _)]) ⟨rfl, rfl, rfl, rfl, trivial⟩ ?_
    refine QM.then ?_
    refine wpM.block ?_
    refine wpM.loopK0 (α := Nat × List Wrd × Option Addr × Nat × Nat × Mem0) (fun ⟨j, l, ad, n, cap, m⟩ => [(4, .slice ad n cap), (6, .int .i64 (j : Nat))]) [(1, _), (3, _)] (fun ⟨j, l, ad, n, cap, m⟩ => m ++ (eBk b3 :: stB b1 s :: [])) (fun ⟨j, l, ad, n, cap, m⟩ => j ≤ s.ls.length ∧ l = linW wCores s.cr ++ linW wGrain s.gr ++ s.gs.flatMap (linW wGroup) ++ (s.ls.take j).flatMap lckW ∧ l.length ≤ 1000 ∧ n = l.length ∧ Sl fW 65 4 w.heap.size l (.slice ad n cap) m) (fun ⟨j, l, ad, n, cap, m⟩ => s.ls.length - j) ((0, l, ad, n, cap, m)) ⟨(by first | rfl | exact lk rfl (by congr 1; omega) | exact lk rfl (by simp)), (by first | rfl | exact lk rfl (by congr 1; omega) | exact lk rfl (by simp)), rfl, rfl, trivial⟩ (by (repeat' (first | exact SubM.nil _ | refine SubM.cons rfl ?_ | refine SubM.app ?_))) ⟨Nat.zero_le _, by have hil : i = s.gs.length := (by omega); rw [hil, List.take_length] at hl; rw [hl]; simp, by omega, hn, hs⟩ ?_
    rintro ⟨j, l, ad, n, cap, m⟩ ⟨hj, hl, hlx, hn, hs⟩
    change wpM _ _ _ _ _ _ _ (m ++ (eBk b3 :: stB b1 s :: [])) _ _ _
    refine wpM.seq ?_
    refine wpM.seq ?_
    refine wpM.region ?_
    refine LM.val (ov_move rfl) ?_
    refine LM.val (ov_field Tryz.underlying30 rfl Tryz.sizeOf27 rfl (k := 3) rfl rfl) ?_
    first | refine LM.rd (om_ld Tryz.isAgg27 rfl rfl) ?_
    refine LM.val (ov_len Tryz.underlying27 rfl) ?_
    refine LM.val (ov_lss rfl rfl) ?_
    refine LM.nil ?_
    refine QM.sub (e' := [(1, _), (3, _), (4, _), (6, _), (45, _)]) ⟨rfl, rfl, rfl, rfl, rfl, trivial⟩ ?_
    refine QM.then ?_
    refine wpM.condD rfl (fun h2 => ?_) (fun h2 => ?_)
    ·
     refine wpM.skip ?_
     refine QM.then ?_
     refine wpM.seq ?_
     refine wpM.block ?_
     refine wpM.seq ?_
     refine wpM.region ?_
     refine LM.val (ov_field Tryz.underlying30 rfl Tryz.sizeOf27 rfl (k := 3) rfl rfl) ?_
     first | refine LM.rd (om_ld Tryz.isAgg27 rfl rfl) ?_
     refine LM.val (ov_move rfl) ?_
     refine LM.val (ov_idxSN (by first | exact Sr.spt (by assumption) | exact Sl.spt (by assumption)) Tryz.underlying27 Tryz.sizeOf63 rfl rfl (by omega)) ?_
     first | refine LM.rd (om_slA (by assumption) (by intro _; rfl) Tryz.isAgg63 Tryz.sizeOf63 rfl (by exact getq default (by first | omega | (simp only [List.length_set, List.length_append, List.length_cons, List.length_nil]; omega)))) ?_ | refine LM.rdC (om_srEA (by assumption) (by intro _; rfl) Tryz.isAgg63 Tryz.sizeOf63 rfl (by exact getq default (by first | omega | (simp only [List.length_set, List.length_append, List.length_cons, List.length_nil]; omega))) id) ?_ | refine LM.rd (om_ldW Tryz.isAgg63 Tryz.sizeOf63 rfl rfl) ?_ | refine LM.rd (om_ldA Tryz.isAgg63 Tryz.sizeOf63 rfl (vs := [_, _, _, _, _]) rfl ⟨rfl, rfl, rfl, rfl, rfl, trivial⟩) ?_
     refine LM.alloc Tryz.zeroValue63 rfl (fun b7 hb7 => ?_)
     refine LM.stW Tryz.sizeOf63 rfl rfl rfl rfl (by first | rfl | decide | (simp; done)) (fun hlt => absurd hlt (by omega)) ?_
     refine LM.nil ?_
     refine QM.sub (e' := [(1, _), (3, _), (4, _), (6, _), (7, _)]) ⟨rfl, rfl, rfl, rfl, rfl, trivial⟩ ?_
     refine QM.then ?_
     refine wpM.seq ?_
     refine wpM.region ?_
     refine LM.val (ov_assign rfl) ?_
     refine LM.nil ?_
     refine QM.sub (e' := [(1, _), (3, _), (4, _), (6, _), (7, _), (8, _)]) ⟨rfl, rfl, rfl, rfl, rfl, rfl, trivial⟩ ?_
     refine QM.then ?_
     refine wpM.seq ?_
     refine wpM.seq ?_
     refine wpM.region ?_
     refine LM.val (ov_field Tryz.underlying63 rfl Tryz.sizeOf4 rfl (k := 0) rfl rfl) ?_
     first | refine LM.rd (om_ld Tryz.isAgg4 rfl rfl) ?_
     refine LM.nil ?_
     refine QM.sub (e' := [(1, _), (3, _), (4, _), (6, _), (7, _), (8, _), (54, _)]) ⟨rfl, rfl, rfl, rfl, rfl, rfl, rfl, trivial⟩ ?_
     refine QM.then ?_
     refine wpM.joinK (α := List UInt8) (fun tt => [(8, vS tt)]) [(1, _), (3, _), (4, _), (6, _), (7, _)] (fun tt => m ++ ((b7, .cells (fL (s.ls.getD j default)).toArray 63 (0, 0)) :: eBk b3 :: stB b1 s :: [])) (fun tt => tt = (if (s.ls.getD j default).sh then wShared else wLock)) ⟨rfl, rfl, rfl, rfl, rfl, trivial⟩ ?_ ?_
     ·
      first | refine wpM.condD rfl (fun h3 => ?_) (fun h3 => ?_) | refine wpM.condB rfl (fun h3 => ?_) (fun h3 => ?_)
      ·
       refine wpM.region ?_
       refine LM.val (ov_assign rfl) ?_
       refine LM.nil ?_
       refine QM.sub (e' := [(1, _), (3, _), (4, _), (6, _), (7, _), (8, _)]) ⟨rfl, rfl, rfl, rfl, rfl, rfl, trivial⟩ ?_
       refine QM.meetK (wShared) ⟨(by first | rfl | exact lk rfl (by congr 1; omega) | exact lk rfl (by simp)), rfl, rfl, rfl, rfl, rfl, trivial⟩ (by (repeat' (first | exact SubM.nil _ | refine SubM.cons rfl ?_ | refine SubM.app ?_))) ?_
       · rw [if_pos h3]
      ·
       refine wpM.skip ?_
       refine QM.meetK (wLock) ⟨(by first | rfl | exact lk rfl (by congr 1; omega) | exact lk rfl (by simp)), rfl, rfl, rfl, rfl, rfl, trivial⟩ (by (repeat' (first | exact SubM.nil _ | refine SubM.cons rfl ?_ | refine SubM.app ?_))) ?_
       · rw [if_neg (by rw [h3]; simp)]
     ·
      rintro tt htt
      change QM _ _ _ _ _ (m ++ ((b7, .cells (fL (s.ls.getD j default)).toArray 63 (0, 0)) :: eBk b3 :: stB b1 s :: [])) _ _ _
      refine QM.then ?_
      refine wpM.seq ?_
      refine wpM.region ?_
      refine LM.val (ov_move rfl) ?_
      refine LM.val (ov_move rfl) ?_
      refine LM.val (ov_build (cs := #[_, _, _, _]) rfl (by first | rfl | kernel_rfl)) ?_
      refine LM.single Tryz.underlying23 Tryz.sizeOf65 Tryz.zeroValue65 rfl rfl rfl rfl rfl (fun b58 hb58 => ?_)
      refine LM.appN (ys := [nmE tt]) Tryz.underlying23 Tryz.typeInfo65 rfl rfl rfl rfl rfl rfl rfl hs (fun w hm hc hg => row_sr 1 (hm.at b58) rfl rfl (fun _ => rfl)) (by intro _; rfl) (by intro _ u hu; simp [fW] at hu; (repeat (first | (rcases hu with rfl | hu) | subst hu | rfl))) (by first | exact Nat.le_refl _ | omega) (fun p hp hlt => absurd hlt (Nat.not_lt_of_le (Sl.ge hs p hp))) (by first | omega | (unfold maxLen; omega) | (simp only [fldW_len, linW_len, List.length_append, List.length_cons, List.length_nil]; unfold maxLen; omega)) (by simp only [Tryz.t65, fldW_len, linW_len, List.length_append, List.length_cons, List.length_nil]; omega) (fun ad59 n59 cap59 m59 hn59 hs59 hin59 => ?_)
      refine LM.val (ov_assign rfl) ?_
      refine LM.nil ?_
      refine QM.sub (e' := [(1, _), (3, _), (4, _), (6, _), (7, _)]) ⟨rfl, rfl, rfl, rfl, rfl, trivial⟩ ?_
      refine QM.then ?_
      refine wpM.seq ?_
      refine wpM.keep ((b7, _) :: []) (fun _ => True) (.one 0 0 (.one 1 0 (.one 2 1 (.one 4 0 (.one 5 1 (.one 3 2 (.one 6 2 (.one 7 0 .nil)))))))) (by kernel_rfl) (by kernel_rfl) (by (repeat' (first | exact SubM.nil _ | refine SubM.cons rfl ?_ | refine SubM.app ?_))) (fun _ _ => trivial) ?_
      refine KD.val rfl rfl (ov_move rfl) ?_
      refine KD.val rfl rfl (ov_field Tryz.underlying63 rfl Tryz.sizeOf3 rfl (k := 1) rfl rfl) ?_
      first | refine KD.rd rfl rfl (om_ld Tryz.isAgg3 rfl rfl) ?_
      refine KD.val rfl rfl (ov_field Tryz.underlying63 rfl Tryz.sizeOf3 rfl (k := 2) rfl rfl) ?_
      first | refine KD.rd rfl rfl (om_ld Tryz.isAgg3 rfl rfl) ?_
      refine KD.one rfl ?_
      refine LM.cU (oc_call (enters_fn Tryz.func60 (by kernel_rfl) rfl) rfl) (fun w hm hc hg => rfield_spec wSlice (s.ls.getD j default).sl w hs59 (hm.pick _) hc.size (by first | omega | (simp only [fldW_len, linW_len, List.length_append, List.length_cons, List.length_nil]; omega))) hs59.wlk (fun p hp hlt => absurd hlt (Nat.not_lt_of_le (Sl.ge hs59 p hp))) ?_
      rintro u63 m63 ⟨ad63, n63, cap63, rfl, hn63, hs63⟩ hin63
      refine LM.nil ?_
      refine QM.one (by (repeat' (first | exact SubM.nil _ | refine SubM.cons rfl ?_ | refine SubM.app ?_))) (fun _ _ => trivial) ?_
      refine KD.one rfl ?_
      refine LM.cU (oc_call (enters_fn Tryz.func60 (by kernel_rfl) rfl) rfl) (fun w hm hc hg => rfield_spec wCrit (s.ls.getD j default).cr w hs63 (hm.pick _) hc.size (by first | omega | (simp only [fldW_len, linW_len, List.length_append, List.length_cons, List.length_nil]; omega))) hs63.wlk (fun p hp hlt => absurd hlt (Nat.not_lt_of_le (Sl.ge hs63 p hp))) ?_
      rintro u66 m66 ⟨ad66, n66, cap66, rfl, hn66, hs66⟩ hin66
      refine LM.nil ?_
      refine QM.one (by (repeat' (first | exact SubM.nil _ | refine SubM.cons rfl ?_ | refine SubM.app ?_))) (fun _ _ => trivial) ?_
      refine KD.val rfl rfl (ov_assign rfl) ?_
      refine KD.nil ?_
      refine QM.sub (e' := [(1, _), (3, _), (4, _), (6, _), (7, _)]) ⟨rfl, rfl, rfl, rfl, rfl, trivial⟩ ?_
      refine QM.then ?_
      refine wpM.seq ?_
      refine wpM.seq ?_
      refine wpM.region ?_
      refine LM.val (ov_field Tryz.underlying63 rfl Tryz.sizeOf4 rfl (k := 0) rfl rfl) ?_
      first | refine LM.rd (om_ld Tryz.isAgg4 rfl rfl) ?_
      refine LM.nil ?_
      refine QM.sub (e' := [(1, _), (3, _), (4, _), (6, _), (7, _), (68, _)]) ⟨rfl, rfl, rfl, rfl, rfl, rfl, trivial⟩ ?_
      refine QM.then ?_
      refine wpM.joinK (α := List Wrd × Option Addr × Nat × Nat × Mem0) (fun ⟨ld, add, nd, capd, md⟩ => [(4, .slice add nd capd)]) [(1, _), (3, _), (6, _)] (fun ⟨ld, add, nd, capd, md⟩ => md ++ (eBk b3 :: stB b1 s :: [])) (fun ⟨ld, add, nd, capd, md⟩ => ld = l ++ [nmE tt] ++ fldW wSlice (s.ls.getD j default).sl ++ fldW wCrit (s.ls.getD j default).cr ++ (if (s.ls.getD j default).sh then fldW wRead (s.ls.getD j default).rd ++ fldW wWrite (s.ls.getD j default).wr else []) ∧ ld.length ≤ l.length + 9 ∧ nd = ld.length ∧ Sl fW 65 4 w.heap.size ld (.slice add nd capd) md) ⟨rfl, rfl, rfl, trivial⟩ ?_ ?_
      ·
       first | refine wpM.condD rfl (fun h4 => ?_) (fun h4 => ?_) | refine wpM.condB rfl (fun h4 => ?_) (fun h4 => ?_)
       ·
        refine wpM.keep ((b7, _) :: []) (fun _ => True) (.one 0 0 (.one 1 0 (.one 2 1 (.one 4 0 (.one 5 1 (.one 3 2 (.one 6 2 (.one 7 0 .nil)))))))) (by kernel_rfl) (by kernel_rfl) (by (repeat' (first | exact SubM.nil _ | refine SubM.cons rfl ?_ | refine SubM.app ?_))) (fun _ _ => trivial) ?_
        refine KD.val rfl rfl (ov_move rfl) ?_
        refine KD.val rfl rfl (ov_field Tryz.underlying63 rfl Tryz.sizeOf3 rfl (k := 3) rfl rfl) ?_
        first | refine KD.rd rfl rfl (om_ld Tryz.isAgg3 rfl rfl) ?_
        refine KD.val rfl rfl (ov_field Tryz.underlying63 rfl Tryz.sizeOf3 rfl (k := 4) rfl rfl) ?_
        first | refine KD.rd rfl rfl (om_ld Tryz.isAgg3 rfl rfl) ?_
        refine KD.one rfl ?_
        refine LM.cU (oc_call (enters_fn Tryz.func60 (by kernel_rfl) rfl) rfl) (fun w hm hc hg => rfield_spec wRead (s.ls.getD j default).rd w hs66 (hm.pick _) hc.size (by first | omega | (simp only [fldW_len, linW_len, List.length_append, List.length_cons, List.length_nil]; omega))) hs66.wlk (fun p hp hlt => absurd hlt (Nat.not_lt_of_le (Sl.ge hs66 p hp))) ?_
        rintro u72 m72 ⟨ad72, n72, cap72, rfl, hn72, hs72⟩ hin72
        refine LM.nil ?_
        refine QM.one (by (repeat' (first | exact SubM.nil _ | refine SubM.cons rfl ?_ | refine SubM.app ?_))) (fun _ _ => trivial) ?_
        refine KD.one rfl ?_
        refine LM.cU (oc_call (enters_fn Tryz.func60 (by kernel_rfl) rfl) rfl) (fun w hm hc hg => rfield_spec wWrite (s.ls.getD j default).wr w hs72 (hm.pick _) hc.size (by first | omega | (simp only [fldW_len, linW_len, List.length_append, List.length_cons, List.length_nil]; omega))) hs72.wlk (fun p hp hlt => absurd hlt (Nat.not_lt_of_le (Sl.ge hs72 p hp))) ?_
        rintro u75 m75 ⟨ad75, n75, cap75, rfl, hn75, hs75⟩ hin75
        refine LM.nil ?_
        refine QM.one (by (repeat' (first | exact SubM.nil _ | refine SubM.cons rfl ?_ | refine SubM.app ?_))) (fun _ _ => trivial) ?_
        refine KD.val rfl rfl (ov_assign rfl) ?_
        refine KD.nil ?_
        refine QM.sub (e' := [(1, _), (3, _), (4, _), (6, _)]) ⟨rfl, rfl, rfl, rfl, trivial⟩ ?_
        refine QM.meetK ((l ++ [nmE tt] ++ fldW wSlice (s.ls.getD j default).sl ++ fldW wCrit (s.ls.getD j default).cr ++ fldW wRead (s.ls.getD j default).rd ++ fldW wWrite (s.ls.getD j default).wr, ad75, n75, cap75, m75)) ⟨(by first | rfl | exact lk rfl (by congr 1; omega) | exact lk rfl (by simp)), rfl, rfl, rfl, trivial⟩ (by (repeat' (first | exact SubM.nil _ | refine SubM.cons rfl ?_ | refine SubM.app ?_))) ?_
        · exact ⟨by rw [if_pos h4]; simp, by simp [fldW_len], by rw [hn75], hs75⟩
       ·
        refine wpM.skip ?_
        refine QM.meetK ((l ++ [nmE tt] ++ fldW wSlice (s.ls.getD j default).sl ++ fldW wCrit (s.ls.getD j default).cr, ad66, n66, cap66, m66)) ⟨(by first | rfl | exact lk rfl (by congr 1; omega) | exact lk rfl (by simp)), rfl, rfl, rfl, trivial⟩ (by (repeat' (first | exact SubM.nil _ | refine SubM.cons rfl ?_ | refine SubM.app ?_))) ?_
        · exact ⟨by rw [if_neg (by rw [h4]; simp)]; simp, by simp [fldW_len], by rw [hn66], hs66⟩
      ·
       rintro ⟨ld, add, nd, capd, md⟩ ⟨hld, hldx, hnd, hsd⟩
       change QM _ _ _ _ _ (md ++ (eBk b3 :: stB b1 s :: [])) _ _ _
       refine QM.then ?_
       refine wpM.region ?_
       refine LM.val (ov_move rfl) ?_
       refine LM.rd (om_ldW Tryz.isAgg65 Tryz.sizeOf65 rfl rfl) ?_
       refine LM.single Tryz.underlying23 Tryz.sizeOf65 Tryz.zeroValue65 rfl rfl rfl rfl rfl (fun b78 hb78 => ?_)
       refine LM.appN (ys := [mk3 [59]]) Tryz.underlying23 Tryz.typeInfo65 rfl rfl rfl rfl rfl rfl rfl hsd (fun w hm hc hg => row_sr 1 (hm.at b78) rfl rfl (fun _ => rfl)) (by intro _; rfl) (by intro _ u hu; simp [fW] at hu; (repeat (first | (rcases hu with rfl | hu) | subst hu | rfl))) (by first | exact Nat.le_refl _ | omega) (fun p hp hlt => absurd hlt (Nat.not_lt_of_le (Sl.ge hsd p hp))) (by first | omega | (unfold maxLen; omega) | (simp only [fldW_len, linW_len, List.length_append, List.length_cons, List.length_nil]; unfold maxLen; omega)) (by simp only [Tryz.t65, fldW_len, linW_len, List.length_append, List.length_cons, List.length_nil]; omega) (fun ad79 n79 cap79 m79 hn79 hs79 hin79 => ?_)
       refine LM.val (ov_assign rfl) ?_
       refine LM.nil ?_
       refine QM.sub (e' := [(1, _), (3, _), (4, _), (6, _)]) ⟨rfl, rfl, rfl, rfl, trivial⟩ ?_
       refine QM.block_normal ?_
       refine QM.then ?_
       refine wpM.region ?_
       refine LM.val (ov_move rfl) ?_
       refine LM.val (ov_add64 rfl rfl (by omega)) ?_
       refine LM.val (ov_assign rfl) ?_
       refine LM.nil ?_
       refine QM.sub (e' := [(1, _), (3, _), (4, _), (6, _)]) ⟨rfl, rfl, rfl, rfl, trivial⟩ ?_
       refine QM.againK ((j + 1, ld ++ [mk3 [59]], ad79, n79, cap79, m79)) ⟨(by first | rfl | exact lk rfl (by congr 1; omega) | exact lk rfl (by simp)), (by first | rfl | exact lk rfl (by congr 1; omega) | exact lk rfl (by simp)), rfl, rfl, trivial⟩ (by (repeat' (first | exact SubM.nil _ | refine SubM.cons rfl ?_ | refine SubM.app ?_))) (fun _ h => h) ?_ ?_
       · exact ⟨by omega, by rw [lck_snoc (by omega), hld, hl, htt]; unfold lckW; cases (s.ls.getD j default).sh <;> simp, by have h8 := lck_flen (ls := s.ls.take j); have h7 := List.length_take_le j s.ls; rw [hl] at hldx; simp only [List.length_append, linW_len, List.length_cons, List.length_nil] at hldx ⊢; omega, by rw [hn79]; simp, hs79⟩
       · first | omega | (dsimp only; omega)
    ·
     refine wpM.exit ?_
     refine QM.then_exit ?_
     refine QM.then_exit ?_
     refine QM.block_hit ?_
     refine QM.then ?_
     refine wpM.seq ?_
     refine wpM.seq ?_
     refine wpM.region ?_
     refine LM.val (ov_assign rfl) ?_
     refine LM.nil ?_
     refine QM.sub (e' := [(1, _), (4, _), (9, _)]) ⟨rfl, rfl, rfl, trivial⟩ ?_
     refine QM.then ?_
     refine wpM.block ?_
     refine wpM.loopK0 (α := Nat × List Wrd × Option Addr × Nat × Nat × Mem0) (fun ⟨k, l, ad, n, cap, m⟩ => [(4, .slice ad n cap), (9, .int .i64 (k : Nat))]) [(1, _)] (fun ⟨k, l, ad, n, cap, m⟩ => m ++ (stB b1 s :: [])) (fun ⟨k, l, ad, n, cap, m⟩ => k ≤ s.ps.length ∧ l = linW wCores s.cr ++ linW wGrain s.gr ++ s.gs.flatMap (linW wGroup) ++ s.ls.flatMap lckW ++ pgW ((s.ps.map PgV.c).take k) ∧ l.length ≤ 10000 ∧ n = l.length ∧ Sl fW 65 4 w.heap.size l (.slice ad n cap) m) (fun ⟨k, l, ad, n, cap, m⟩ => s.ps.length - k) ((0, l, ad, n, cap, m)) ⟨(by first | rfl | exact lk rfl (by congr 1; omega) | exact lk rfl (by simp)), (by first | rfl | exact lk rfl (by congr 1; omega) | exact lk rfl (by simp)), rfl, trivial⟩ (by (repeat' (first | exact SubM.nil _ | refine SubM.cons rfl ?_ | refine SubM.app ?_))) ⟨Nat.zero_le _, by have hjl : j = s.ls.length := (by omega); rw [hjl, List.take_length] at hl; rw [hl]; simp [pgW], by omega, hn, hs⟩ ?_
     rintro ⟨k, l, ad, n, cap, m⟩ ⟨hk, hl, hlx, hn, hs⟩
     change wpM _ _ _ _ _ _ _ (m ++ (stB b1 s :: [])) _ _ _
     refine wpM.seq ?_
     refine wpM.seq ?_
     refine wpM.region ?_
     refine LM.val (ov_move rfl) ?_
     refine LM.val (ov_field Tryz.underlying30 rfl Tryz.sizeOf28 rfl (k := 4) rfl rfl) ?_
     first | refine LM.rd (om_ld Tryz.isAgg28 rfl rfl) ?_
     refine LM.val (ov_len Tryz.underlying28 rfl) ?_
     refine LM.val (ov_lss rfl rfl) ?_
     refine LM.nil ?_
     refine QM.sub (e' := [(1, _), (4, _), (9, _), (84, _)]) ⟨rfl, rfl, rfl, rfl, trivial⟩ ?_
     refine QM.then ?_
     refine wpM.condD rfl (fun h5 => ?_) (fun h5 => ?_)
     ·
      have hpm : s.ps.getD k default ∈ s.ps := List.mem_of_getElem? (getq default (by omega))
      refine wpM.skip ?_
      refine QM.then ?_
      refine wpM.seq ?_
      refine wpM.block ?_
      refine wpM.region ?_
      have h5 := words_len (s.ps.getD k default).c.fv (s.ps.getD k default).c.xs; have h4 := hp12 _ (List.mem_map_of_mem hpm)
      refine LM.val (ov_move rfl) ?_
      refine LM.val (ov_field Tryz.underlying30 rfl Tryz.sizeOf28 rfl (k := 4) rfl rfl) ?_
      first | refine LM.rd (om_ld Tryz.isAgg28 rfl rfl) ?_
      refine LM.val (ov_move rfl) ?_
      refine LM.val (ov_idxSN (by first | exact Sr.spt (by assumption) | exact Sl.spt (by assumption)) Tryz.underlying28 Tryz.sizeOf87 rfl rfl (by omega)) ?_
      first | refine LM.rd (om_slA (by assumption) (by intro _; rfl) Tryz.isAgg87 Tryz.sizeOf87 rfl (by exact getq default (by first | omega | (simp only [List.length_set, List.length_append, List.length_cons, List.length_nil]; omega)))) ?_ | refine LM.rdC (om_srEA (by assumption) (by intro _; rfl) Tryz.isAgg87 Tryz.sizeOf87 rfl (by exact getq default (by first | omega | (simp only [List.length_set, List.length_append, List.length_cons, List.length_nil]; omega))) id) ?_ | refine LM.rd (om_ldW Tryz.isAgg87 Tryz.sizeOf87 rfl rfl) ?_ | refine LM.rd (om_ldA Tryz.isAgg87 Tryz.sizeOf87 rfl (vs := [_, _]) rfl ⟨rfl, rfl, trivial⟩) ?_
      refine LM.cS (oc_call (enters_fn Tryz.func61 (by kernel_rfl) rfl) rfl) (fun w hm hc hg => rwords_spec w (hI.ops _ hpm).1 ((hI.ops _ hpm).2.ext hc) (by have := hp12 _ (List.mem_map_of_mem hpm); omega)) (fun ad93 n93 cap93 m93 hn93 hs93 => ?_)
      refine LM.appN (ys := wordsF (s.ps.getD k default).c.fv (s.ps.getD k default).c.xs) Tryz.underlying23 Tryz.typeInfo65 rfl rfl rfl rfl rfl rfl rfl hs (fun w hm hc hg => hs93.srM (by intro _; rfl) hm) (by intro _; rfl) (by intro _ u hu; simp [fW] at hu; (repeat (first | (rcases hu with rfl | hu) | subst hu | rfl))) (by first | exact Nat.le_refl _ | omega) (fun p hp hlt => absurd hlt (Nat.not_lt_of_le (Sl.ge hs p hp))) (by first | omega | (unfold maxLen; omega) | (simp only [fldW_len, linW_len, List.length_append, List.length_cons, List.length_nil]; unfold maxLen; omega)) (by simp only [Tryz.t65, fldW_len, linW_len, List.length_append, List.length_cons, List.length_nil]; omega) (fun ad94 n94 cap94 m94 hn94 hs94 hin94 => ?_)
      refine LM.val (ov_assign rfl) ?_
      refine LM.nil ?_
      refine QM.sub (e' := [(1, _), (4, _), (9, _)]) ⟨rfl, rfl, rfl, trivial⟩ ?_
      refine QM.block_normal ?_
      refine QM.then ?_
      refine wpM.region ?_
      refine LM.val (ov_move rfl) ?_
      refine LM.val (ov_add64 rfl rfl (by omega)) ?_
      refine LM.val (ov_assign rfl) ?_
      refine LM.nil ?_
      refine QM.sub (e' := [(1, _), (4, _), (9, _)]) ⟨rfl, rfl, rfl, trivial⟩ ?_
      refine QM.againK ((k + 1, l ++ wordsF (s.ps.getD k default).c.fv (s.ps.getD k default).c.xs, ad94, n94, cap94, m94)) ⟨(by first | rfl | exact lk rfl (by congr 1; omega) | exact lk rfl (by simp)), (by first | rfl | exact lk rfl (by congr 1; omega) | exact lk rfl (by simp)), rfl, trivial⟩ (by (repeat' (first | exact SubM.nil _ | refine SubM.cons rfl ?_ | refine SubM.app ?_))) (fun _ h => h) ?_ ?_
      · exact ⟨by omega, by rw [pgW_snoc (by simp; omega), map_getD, hl]; simp, by have h8 := pg_flen (ps := (s.ps.map PgV.c).take k) (fun p hp => hp12 p (List.mem_of_mem_take hp)); have h6 := List.length_take_le k (s.ps.map PgV.c); rw [hl]; simp only [List.length_append, linW_len]; omega, by first | (rw [hn94, List.length_append]; done) | omega, hs94⟩
      · first | omega | (dsimp only; omega)
     ·
      refine wpM.exit ?_
      refine QM.then_exit ?_
      refine QM.then_exit ?_
      refine QM.block_hit ?_
      refine QM.then ?_
      refine wpM.seq ?_
      refine wpM.region ?_
      refine LM.val (ov_move rfl) ?_
      refine LM.val (ov_assign rfl) ?_
      refine LM.nil ?_
      refine QM.sub (e' := [(2, _)]) ⟨rfl, trivial⟩ ?_
      refine QM.then ?_
      refine wpM.ret ?_
      refine QM.leave (.inl rfl) [.tmp 2] Tryz.results21 rfl ?_
      intro w' hm' hc' hg'
      have hkl : k = s.ps.length := (by omega); have hw : setW s.C = l := (by rw [hl, setW_eq, hkl, List.take_of_length_le (by omega)]; rfl); rw [hw]; exact ⟨hc', m, hs, hm'.pick m⟩

set_option maxRecDepth 100000 in
theorem rsprint_spec {s : StV} (w : World) (hI : s.In w) : Ret Tryz.prog 17 #[s.val] w (fun v w' => v = .tuple #[vS (printS s.C).1, .int .i64 (printS s.C).2] ∧ Ext w w') := by
 refine Ret.enterM (l := [s.val]) Tryz.func17 rfl Tryz.ntmps17 rfl ([]) (no) (Mem.nil w) ?_
 refine wpM.seq ?_
 refine wpM.region ?_
 refine LM.box rfl rfl (fun b1 hb1 => ?_)
 refine LM.val (ov_assign rfl) ?_
 refine LM.val (ov_assign rfl) ?_
 refine LM.nil ?_
 refine QM.sub (e' := [(1, _)]) ⟨rfl, trivial⟩ ?_
 refine QM.then ?_
 refine wpM.seq ?_
 refine wpM.seq ?_
 refine wpM.region ?_
 refine LM.rd (om_ldW Tryz.isAgg30 Tryz.sizeOf30 rfl rfl) ?_
 refine LM.callE (oc_call (enters_fn Tryz.func19 (by kernel_rfl) rfl) rfl) (fun w hm hc hg => rmayS_spec w (hI.ext hc)) ?_
 first | refine LM.val (ov_notD rfl) ?_ | refine LM.val (ov_not rfl) ?_
 refine LM.nil ?_
 refine QM.sub (e' := [(1, _), (6, _)]) ⟨rfl, rfl, trivial⟩ ?_
 refine QM.then ?_
 first | refine wpM.condD rfl (fun h1 => ?_) (fun h1 => ?_) | refine wpM.condB rfl (fun h1 => ?_) (fun h1 => ?_)
 ·
  refine wpM.seq ?_
  refine wpM.region ?_
  refine LM.val (ov_assign rfl) ?_
  refine LM.val (ov_assign rfl) ?_
  refine LM.nil ?_
  refine QM.sub (e' := [(2, _), (3, _)]) ⟨rfl, rfl, trivial⟩ ?_
  refine QM.then ?_
  refine wpM.ret ?_
  refine QM.then_ret ?_
  refine QM.leave (.inl rfl) [.tmp 2, .tmp 3] Tryz.results17 rfl ?_
  intro w' hm' hc' hg'
  refine ⟨?_, hc'⟩; have hm : mayS s.C = false := (by simpa using h1); unfold printS; rw [hm]; rfl
 ·
  refine wpM.skip ?_
  refine QM.then ?_
  refine wpM.seq ?_
  refine wpM.region ?_
  refine LM.rd (om_ldW Tryz.isAgg30 Tryz.sizeOf30 rfl rfl) ?_
  refine LM.cS (oc_call (enters_fn Tryz.func21 (by kernel_rfl) rfl) rfl) (fun w hm hc hg => rswords_spec w (hI.ext hc) (by simpa using h1)) (fun ad8 n8 cap8 m8 hn8 hs8 => ?_)
  refine LM.callE (oc_call (enters_fn Tryz.func55 (by kernel_rfl) rfl) rfl) (fun w hm hc hg => rjoin_spec w hn8 (by have := setW_len (show mayS s.C = true by simpa using h1); omega) (hs8.srM (by intro _; rfl) hm) (fun x hx => by have := setW_text s.C x hx; omega)) ?_
  refine LM.val (ov_extract rfl rfl) ?_
  refine LM.val (ov_extract rfl rfl) ?_
  refine LM.val (ov_assign rfl) ?_
  refine LM.val (ov_assign rfl) ?_
  refine LM.nil ?_
  refine QM.sub (e' := [(2, _), (3, _)]) ⟨rfl, rfl, trivial⟩ ?_
  refine QM.then ?_
  refine wpM.ret ?_
  refine QM.leave (.inl rfl) [.tmp 2, .tmp 3] Tryz.results17 rfl ?_
  intro w' hm' hc' hg'
  refine ⟨?_, hc'⟩; have hm : mayS s.C = true := (by simpa using h1); unfold printS; rw [hm]; rfl

end Go.Eng
set_option linter.unusedVariables false
set_option linter.unusedSimpArgs false
namespace Go.Eng
open Go Go.Proofs Go.RowKit

theorem Sl.cap {α : Type} {f : α → List Value} {E s n0 : Nat} {xs : List α} {ad : Option Addr} {n cap : Nat} {m : Mem0} (h : Sl f E s n0 xs (.slice ad n cap) m) (hx : 0 < xs.length) : xs.length ≤ cap := by
  obtain ⟨b, cap', junk, h1, h2, h3, h4, h5, h6⟩ := h.ne hx
  cases h2; exact h4
end Go.Eng
set_option linter.unusedVariables false
set_option linter.unusedSimpArgs false
namespace Go.Eng
open Go Go.Proofs Go.RowKit

end Go.Eng
set_option linter.unusedVariables false
set_option linter.unusedSimpArgs false
namespace Go.Eng
open Go Go.Proofs Go.RowKit

def aw12L : List UInt8 := [99, 111, 114, 101, 115, 32, 49, 59, 32, 103, 114, 97, 105, 110, 32, 50, 59, 32, 103, 114, 111, 117, 112, 32, 52, 59, 32, 108, 111, 99, 107, 32, 115, 108, 105, 99, 101, 32, 51, 32, 99, 114, 105, 116, 32, 53, 59, 32, 115, 104, 97, 114, 101, 100, 32, 115, 108, 105, 99, 101, 32, 49, 32, 99, 114, 105, 116, 32, 50, 32, 114, 101, 97, 100, 32, 51, 32, 119, 114, 105, 116, 101, 32, 52, 59, 32, 112, 114, 111, 103, 32, 123, 32, 101, 120, 105, 116, 59, 32, 125]
def aw12S : StC := ⟨1, 2, [4], [⟨false, 3, 5, 0, 0⟩, ⟨true, 1, 2, 3, 4⟩], [⟨false, [⟨11, 0, 0⟩]⟩]⟩
theorem aw12_len : (scanO aw12L).1.length = 30 := by decide +kernel
theorem aw12_p0 : setO (scanO aw12L).1 0 = (aw12S, 30, 0) := by decide +kernel
theorem aw12_p1 : setO (scanO aw12L).1 1 = (default, 1, 5) := by decide +kernel
theorem aw12_pr : printS aw12S = (aw12L, 0) := by decide +kernel
theorem aw12_may : mayS aw12S = true := by decide +kernel
theorem bd_of {s : StV} (h : mayS s.C = true) : s.Bd := by
  obtain ⟨_, _, h1, _, h2, _, h3, _⟩ := mayS_inv h
  have hcl : (s.ps.map PgV.c).length = s.ps.length := List.length_map ..
  have h3 : 1 ≤ (s.ps.map PgV.c).length ∧ (s.ps.map PgV.c).length ≤ 8 := h3
  have h1 : 1 ≤ s.gs.length ∧ s.gs.length ≤ 4 := h1
  have h2 : s.ls.length ≤ 8 := h2
  exact ⟨by omega, by omega, by omega, fun p hp => by have := progs12 h p.c (List.mem_map_of_mem hp); omega⟩
theorem wordsS_err (s : StC) : decide ((wordsS s).2 = 0) = mayS s := by
  unfold wordsS
  cases h : mayS s <;> rfl
theorem set_words {s : StC} (h : mayS s = true) : setO (wordsS s).1 0 = (s, ((wordsS s).1.length : Int), 0) := by
  have hw : wordsS s = (setW s, 0) := by unfold wordsS; rw [if_pos h]
  rw [hw]
  have := set_nat (ws := setW s) (i := 0) (Nat.zero_le _)
  rw [show ((0 : Nat) : Int) = 0 from rfl] at this
  rw [this, stpR_words (tl := []) (s := s) (by simp) h (by
    cases hq : isR (setW s) (0 + (setW s).length) 1 wProg with
    | false => rfl
    | true => have := isR_lt hq; omega)]
  simp
set_option maxRecDepth 100000 in
set_option maxHeartbeats 2000000 in
theorem awake12_spec (w : World) (hT : Tb w) : Ret Tryz.prog 9 #[] w (fun v w' => v = .bool true ∧ Ext w w') := by
 refine Ret.enterM (l := []) Tryz.func9 rfl Tryz.ntmps9 rfl ([]) (no) (Mem.nil w) ?_
 refine wpM.seq ?_
 refine wpM.region ?_
 refine LM.val (ov_assign rfl) ?_
 refine LM.nil ?_
 refine QM.sub (e' := []) trivial ?_
 refine QM.then ?_
 refine wpM.seq ?_
 refine wpM.region ?_
 refine LM.callT (oc_call (enters_fn Tryz.func10 (by kernel_rfl) rfl) rfl) ScT.mono (fun w hm hc hg => scan_spec (s := aw12L) w (by decide)) ?_
 rintro u13 m13 ⟨ad13, n13, cap13, rfl, hn13, hs13⟩ -; have hl13 : (scanO aw12L).1.length = 30 := aw12_len
 refine LM.val (ov_move rfl) ?_
 refine LM.val (ov_extract rfl rfl) ?_
 refine LM.val (ov_extract rfl rfl) ?_
 refine LM.val (ov_extract rfl rfl) ?_
 refine LM.val (ov_assign rfl) ?_
 refine LM.val (ov_assign rfl) ?_
 refine LM.val (ov_assign rfl) ?_
 refine LM.nil ?_
 refine QM.sub (e' := [(1, _)]) ⟨rfl, trivial⟩ ?_
 refine QM.then ?_
 refine wpM.seq ?_
 refine wpM.region ?_
 refine LM.val (ov_move rfl) ?_
 refine LM.callT (oc_call (enters_fn Tryz.func11 (by kernel_rfl) rfl) rfl) StT.mono (fun w hm hc hg => setup_spec 0 w hn13 (by omega) (hs13.srM (by intro _; rfl) hm)) ?_
 rw [aw12_p0]; rintro u19 m19 ⟨sv, rfl, hsv, hin⟩ -; have hls : sv.ls = aw12S.ls := congrArg StC.ls hsv; have hln2 : sv.ls.length = 2 := (by rw [hls]; rfl)
 refine LM.val (ov_move rfl) ?_
 refine LM.val (ov_extract rfl rfl) ?_
 refine LM.val (ov_extract rfl rfl) ?_
 refine LM.val (ov_extract rfl rfl) ?_
 refine LM.alloc Tryz.zeroValue30 rfl (fun b4 hb4 => ?_)
 refine LM.stW Tryz.sizeOf30 rfl rfl rfl rfl (by first | rfl | decide | (simp; done)) (fun hlt => absurd hlt (by omega)) ?_
 refine LM.val (ov_assign rfl) ?_
 refine LM.val (ov_assign rfl) ?_
 refine LM.nil ?_
 refine QM.sub (e' := [(1, _), (4, _), (5, _), (6, _)]) ⟨rfl, rfl, rfl, rfl, trivial⟩ ?_
 refine QM.then ?_
 refine wpM.seq ?_
 refine wpM.region ?_
 refine LM.rd (om_ldW Tryz.isAgg30 Tryz.sizeOf30 rfl rfl) ?_
 refine LM.callE (oc_call (enters_fn Tryz.func16 (by kernel_rfl) rfl) rfl) (fun w hm hc hg => (show printS sv.C = (aw12L, 0) by rw [hsv]; exact aw12_pr) ▸ sprint_spec w (hin w (hm.pick m19)) (hT.ext hc)) ?_
 refine LM.val (ov_move rfl) ?_
 refine LM.val (ov_extract rfl rfl) ?_
 refine LM.val (ov_extract rfl rfl) ?_
 refine LM.val (ov_assign rfl) ?_
 refine LM.val (ov_assign rfl) ?_
 refine LM.nil ?_
 refine QM.sub (e' := [(1, _), (4, _), (5, _), (6, _), (7, _), (8, _)]) ⟨rfl, rfl, rfl, rfl, rfl, rfl, trivial⟩ ?_
 refine QM.then ?_
 refine wpM.seq ?_
 refine wpM.region ?_
 refine LM.val (ov_move rfl) ?_
 refine LM.callT (oc_call (enters_fn Tryz.func11 (by kernel_rfl) rfl) rfl) StT.mono (fun w hm hc hg => setup_spec 1 w hn13 (by omega) (hs13.srM (by intro _; rfl) hm)) ?_
 rw [aw12_p1]; rintro u30 m30 ⟨sv2, rfl, hsv2, hin2⟩ -
 refine LM.val (ov_move rfl) ?_
 refine LM.val (ov_extract rfl rfl) ?_
 refine LM.val (ov_extract rfl rfl) ?_
 refine LM.val (ov_extract rfl rfl) ?_
 refine LM.alloc Tryz.zeroValue30 rfl (fun b9 hb9 => ?_)
 refine LM.stW Tryz.sizeOf30 rfl rfl rfl rfl (by first | rfl | decide | (simp; done)) (fun hlt => absurd hlt (by omega)) ?_
 refine LM.val (ov_assign rfl) ?_
 refine LM.val (ov_assign rfl) ?_
 refine LM.nil ?_
 refine QM.sub (e' := [(1, _), (4, _), (5, _), (6, _), (7, _), (8, _), (10, _), (11, _)]) ⟨rfl, rfl, rfl, rfl, rfl, rfl, rfl, rfl, trivial⟩ ?_
 refine QM.then ?_
 refine wpM.seq ?_
 refine wpM.region ?_
 refine LM.know (fun w hm _ _ => (hin w (hm.pick m19)).hln) (fun hln9 => ?_)
 refine LM.val (ov_move rfl) ?_
 refine LM.val (ov_eql rfl rfl) ?_
 refine LM.val (ov_move rfl) ?_
 refine LM.splitD (t := 36) rfl (fun h1 => ?_) (fun h1 => ?_)
 ·
  refine LM.strip (t := 36) rfl rfl rfl ?_
  refine LM.val (ov_move rfl) ?_
  refine LM.strip (t := 36) rfl rfl rfl ?_
  refine LM.val (ov_move rfl) ?_
  refine LM.strip (t := 36) rfl rfl rfl ?_
  refine LM.val (ov_len Tryz.underlying23 rfl) ?_
  refine LM.strip (t := 36) rfl rfl rfl ?_
  refine LM.val (ov_eql rfl rfl) ?_
  refine LM.val (ov_pickT rfl rfl) ?_
  refine LM.val (ov_move rfl) ?_
  refine LM.splitD (t := 42) rfl (fun h2 => ?_) (fun h2 => ?_)
  ·
   refine LM.strip (t := 42) rfl rfl rfl ?_
   refine LM.val (ov_move rfl) ?_
   refine LM.strip (t := 42) rfl rfl rfl ?_
   refine LM.val (ov_eql rfl rfl) ?_
   refine LM.val (ov_pickT rfl rfl) ?_
   refine LM.val (ov_move rfl) ?_
   refine LM.splitD (t := 46) rfl (fun h3 => ?_) (fun h3 => ?_)
   ·
    refine LM.strip (t := 46) rfl rfl rfl ?_
    refine LM.val (ov_move rfl) ?_
    refine LM.strip (t := 46) rfl rfl rfl ?_
    refine LM.val (ov_seqlL rfl rfl) ?_
    refine LM.val (ov_pickT rfl rfl) ?_
    refine LM.val (ov_move rfl) ?_
    refine LM.splitD (t := 50) rfl (fun h4 => ?_) (fun h4 => ?_)
    ·
     refine LM.strip (t := 50) rfl rfl rfl ?_
     refine LM.val (ov_field Tryz.underlying30 rfl Tryz.sizeOf27 rfl (k := 3) rfl rfl) ?_
     refine LM.strip (t := 50) rfl rfl rfl ?_
     first | refine LM.rd (om_ld Tryz.isAgg27 rfl rfl) ?_
     refine LM.strip (t := 50) rfl rfl rfl ?_
     refine LM.val (ov_len Tryz.underlying27 rfl) ?_
     refine LM.strip (t := 50) rfl rfl rfl ?_
     refine LM.val (ov_eql rfl rfl) ?_
     refine LM.val (ov_pickT rfl rfl) ?_
     refine LM.val (ov_move rfl) ?_
     refine LM.splitD (t := 56) rfl (fun h5 => ?_) (fun h5 => ?_)
     ·
      refine LM.strip (t := 56) rfl rfl rfl ?_
      refine LM.val (ov_field Tryz.underlying30 rfl Tryz.sizeOf27 rfl (k := 3) rfl rfl) ?_
      refine LM.strip (t := 56) rfl rfl rfl ?_
      first | refine LM.rd (om_ld Tryz.isAgg27 rfl rfl) ?_
      refine LM.strip (t := 56) rfl rfl rfl ?_
      refine LM.know (fun w hm _ _ => (hin w (hm.pick m19)).hl.spt) (fun hsp => ?_); refine LM.val (ov_idxSN (i := 1) hsp Tryz.underlying27 Tryz.sizeOf63 rfl rfl (by omega)) ?_
      refine LM.strip (t := 56) rfl rfl rfl ?_
      refine LM.val (ov_field Tryz.underlying63 rfl Tryz.sizeOf3 rfl (k := 4) rfl rfl) ?_
      refine LM.strip (t := 56) rfl rfl rfl ?_
      refine LM.rdC (fun w hm hc hg => ow_srE (j := 4) (i := 1) (hin w (hm.pick m19)).hl Tryz.isAgg3 rfl rfl (getq default (by omega)) rfl rfl) ?_
      refine LM.strip (t := 56) rfl rfl rfl ?_
      refine LM.val (ov_eql rfl rfl) ?_
      refine LM.val (ov_pickT rfl rfl) ?_
      refine LM.val (ov_move rfl) ?_
      refine LM.splitD (t := 64) rfl (fun h6 => ?_) (fun h6 => ?_)
      ·
       refine LM.strip (t := 64) rfl rfl rfl ?_
       refine LM.val (ov_move rfl) ?_
       refine LM.strip (t := 64) rfl rfl rfl ?_
       refine LM.val (ov_eql rfl rfl) ?_
       refine LM.val (ov_pickT rfl rfl) ?_
       refine LM.val (ov_move rfl) ?_
       refine LM.splitD (t := 68) rfl (fun h7 => ?_) (fun h7 => ?_)
       ·
        refine LM.strip (t := 68) rfl rfl rfl ?_
        refine LM.val (ov_move rfl) ?_
        refine LM.strip (t := 68) rfl rfl rfl ?_
        refine LM.val (ov_eql rfl rfl) ?_
        refine LM.val (ov_pickT rfl rfl) ?_
        refine LM.val (ov_move rfl) ?_
        refine LM.splitD (t := 72) rfl (fun h8 => ?_) (fun h8 => ?_)
        ·
         refine LM.strip (t := 72) rfl rfl rfl ?_
         refine LM.rd (om_ldW Tryz.isAgg30 Tryz.sizeOf30 rfl rfl) ?_
         refine LM.strip (t := 72) rfl rfl rfl ?_
         refine LM.callE (oc_call (enters_fn Tryz.func14 (by kernel_rfl) rfl) rfl) (fun w hm hc hg => (show mayS sv.C = true by rw [hsv]; exact aw12_may) ▸ mayS_spec w (hin w (hm.pick m19))) ?_
         refine LM.val (ov_pickT rfl rfl) ?_
         refine LM.val (ov_assign rfl) ?_
         refine LM.nil ?_
         refine QM.sub (e' := [(0, _)]) ⟨rfl, trivial⟩ ?_
         refine QM.then ?_
         refine wpM.ret ?_
         refine QM.leave (.inl rfl) [.tmp 0] Tryz.results9 rfl ?_
         intro w' hm' hc' hg'
         exact ⟨rfl, hc'⟩
        ·
         refine LM.drop (t := 72) rfl rfl rfl ?_
         refine LM.drop (t := 72) rfl rfl rfl ?_
         refine LM.val (ov_pickF rfl rfl) ?_
         refine LM.val (ov_assign rfl) ?_
         refine LM.nil ?_
         refine QM.sub (e' := [(0, _)]) ⟨rfl, trivial⟩ ?_
         refine QM.then ?_
         refine wpM.ret ?_
         refine QM.leave (.inl rfl) [.tmp 0] Tryz.results9 rfl ?_
         intro w' hm' hc' hg'
         first | exact ⟨rfl, hc'⟩ | (exfalso; first | omega | (simp at *; done) | (simp_all; done))
       ·
        refine LM.drop (t := 68) rfl rfl rfl ?_
        refine LM.drop (t := 68) rfl rfl rfl ?_
        refine LM.val (ov_pickF rfl rfl) ?_
        refine LM.val (ov_move rfl) ?_
        refine LM.drop (t := 72) rfl rfl rfl ?_
        refine LM.drop (t := 72) rfl rfl rfl ?_
        refine LM.val (ov_pickF rfl rfl) ?_
        refine LM.val (ov_assign rfl) ?_
        refine LM.nil ?_
        refine QM.sub (e' := [(0, _)]) ⟨rfl, trivial⟩ ?_
        refine QM.then ?_
        refine wpM.ret ?_
        refine QM.leave (.inl rfl) [.tmp 0] Tryz.results9 rfl ?_
        intro w' hm' hc' hg'
        first | exact ⟨rfl, hc'⟩ | (exfalso; first | omega | (simp at *; done) | (simp_all; done))
      ·
       refine LM.drop (t := 64) rfl rfl rfl ?_
       refine LM.drop (t := 64) rfl rfl rfl ?_
       refine LM.val (ov_pickF rfl rfl) ?_
       refine LM.val (ov_move rfl) ?_
       refine LM.drop (t := 68) rfl rfl rfl ?_
       refine LM.drop (t := 68) rfl rfl rfl ?_
       refine LM.val (ov_pickF rfl rfl) ?_
       refine LM.val (ov_move rfl) ?_
       refine LM.drop (t := 72) rfl rfl rfl ?_
       refine LM.drop (t := 72) rfl rfl rfl ?_
       refine LM.val (ov_pickF rfl rfl) ?_
       refine LM.val (ov_assign rfl) ?_
       refine LM.nil ?_
       refine QM.sub (e' := [(0, _)]) ⟨rfl, trivial⟩ ?_
       refine QM.then ?_
       refine wpM.ret ?_
       refine QM.leave (.inl rfl) [.tmp 0] Tryz.results9 rfl ?_
       intro w' hm' hc' hg'
       exact absurd (by rw [hls]; rfl) h6
     ·
      refine LM.drop (t := 56) rfl rfl rfl ?_
      refine LM.drop (t := 56) rfl rfl rfl ?_
      refine LM.drop (t := 56) rfl rfl rfl ?_
      refine LM.drop (t := 56) rfl rfl rfl ?_
      refine LM.drop (t := 56) rfl rfl rfl ?_
      refine LM.drop (t := 56) rfl rfl rfl ?_
      refine LM.val (ov_pickF rfl rfl) ?_
      refine LM.val (ov_move rfl) ?_
      refine LM.drop (t := 64) rfl rfl rfl ?_
      refine LM.drop (t := 64) rfl rfl rfl ?_
      refine LM.val (ov_pickF rfl rfl) ?_
      refine LM.val (ov_move rfl) ?_
      refine LM.drop (t := 68) rfl rfl rfl ?_
      refine LM.drop (t := 68) rfl rfl rfl ?_
      refine LM.val (ov_pickF rfl rfl) ?_
      refine LM.val (ov_move rfl) ?_
      refine LM.drop (t := 72) rfl rfl rfl ?_
      refine LM.drop (t := 72) rfl rfl rfl ?_
      refine LM.val (ov_pickF rfl rfl) ?_
      refine LM.val (ov_assign rfl) ?_
      refine LM.nil ?_
      refine QM.sub (e' := [(0, _)]) ⟨rfl, trivial⟩ ?_
      refine QM.then ?_
      refine wpM.ret ?_
      refine QM.leave (.inl rfl) [.tmp 0] Tryz.results9 rfl ?_
      intro w' hm' hc' hg'
      exact absurd (by omega) h5
    ·
     refine LM.drop (t := 50) rfl rfl rfl ?_
     refine LM.drop (t := 50) rfl rfl rfl ?_
     refine LM.drop (t := 50) rfl rfl rfl ?_
     refine LM.drop (t := 50) rfl rfl rfl ?_
     refine LM.val (ov_pickF rfl rfl) ?_
     refine LM.val (ov_move rfl) ?_
     refine LM.drop (t := 56) rfl rfl rfl ?_
     refine LM.drop (t := 56) rfl rfl rfl ?_
     refine LM.drop (t := 56) rfl rfl rfl ?_
     refine LM.drop (t := 56) rfl rfl rfl ?_
     refine LM.drop (t := 56) rfl rfl rfl ?_
     refine LM.drop (t := 56) rfl rfl rfl ?_
     refine LM.val (ov_pickF rfl rfl) ?_
     refine LM.val (ov_move rfl) ?_
     refine LM.drop (t := 64) rfl rfl rfl ?_
     refine LM.drop (t := 64) rfl rfl rfl ?_
     refine LM.val (ov_pickF rfl rfl) ?_
     refine LM.val (ov_move rfl) ?_
     refine LM.drop (t := 68) rfl rfl rfl ?_
     refine LM.drop (t := 68) rfl rfl rfl ?_
     refine LM.val (ov_pickF rfl rfl) ?_
     refine LM.val (ov_move rfl) ?_
     refine LM.drop (t := 72) rfl rfl rfl ?_
     refine LM.drop (t := 72) rfl rfl rfl ?_
     refine LM.val (ov_pickF rfl rfl) ?_
     refine LM.val (ov_assign rfl) ?_
     refine LM.nil ?_
     refine QM.sub (e' := [(0, _)]) ⟨rfl, trivial⟩ ?_
     refine QM.then ?_
     refine wpM.ret ?_
     refine QM.leave (.inl rfl) [.tmp 0] Tryz.results9 rfl ?_
     intro w' hm' hc' hg'
     exact absurd (by first | rfl | decide) h4
   ·
    refine LM.drop (t := 46) rfl rfl rfl ?_
    refine LM.drop (t := 46) rfl rfl rfl ?_
    refine LM.val (ov_pickF rfl rfl) ?_
    refine LM.val (ov_move rfl) ?_
    refine LM.drop (t := 50) rfl rfl rfl ?_
    refine LM.drop (t := 50) rfl rfl rfl ?_
    refine LM.drop (t := 50) rfl rfl rfl ?_
    refine LM.drop (t := 50) rfl rfl rfl ?_
    refine LM.val (ov_pickF rfl rfl) ?_
    refine LM.val (ov_move rfl) ?_
    refine LM.drop (t := 56) rfl rfl rfl ?_
    refine LM.drop (t := 56) rfl rfl rfl ?_
    refine LM.drop (t := 56) rfl rfl rfl ?_
    refine LM.drop (t := 56) rfl rfl rfl ?_
    refine LM.drop (t := 56) rfl rfl rfl ?_
    refine LM.drop (t := 56) rfl rfl rfl ?_
    refine LM.val (ov_pickF rfl rfl) ?_
    refine LM.val (ov_move rfl) ?_
    refine LM.drop (t := 64) rfl rfl rfl ?_
    refine LM.drop (t := 64) rfl rfl rfl ?_
    refine LM.val (ov_pickF rfl rfl) ?_
    refine LM.val (ov_move rfl) ?_
    refine LM.drop (t := 68) rfl rfl rfl ?_
    refine LM.drop (t := 68) rfl rfl rfl ?_
    refine LM.val (ov_pickF rfl rfl) ?_
    refine LM.val (ov_move rfl) ?_
    refine LM.drop (t := 72) rfl rfl rfl ?_
    refine LM.drop (t := 72) rfl rfl rfl ?_
    refine LM.val (ov_pickF rfl rfl) ?_
    refine LM.val (ov_assign rfl) ?_
    refine LM.nil ?_
    refine QM.sub (e' := [(0, _)]) ⟨rfl, trivial⟩ ?_
    refine QM.then ?_
    refine wpM.ret ?_
    refine QM.leave (.inl rfl) [.tmp 0] Tryz.results9 rfl ?_
    intro w' hm' hc' hg'
    first | exact ⟨rfl, hc'⟩ | (exfalso; first | omega | (simp at *; done) | (simp_all; done))
  ·
   refine LM.drop (t := 42) rfl rfl rfl ?_
   refine LM.drop (t := 42) rfl rfl rfl ?_
   refine LM.val (ov_pickF rfl rfl) ?_
   refine LM.val (ov_move rfl) ?_
   refine LM.drop (t := 46) rfl rfl rfl ?_
   refine LM.drop (t := 46) rfl rfl rfl ?_
   refine LM.val (ov_pickF rfl rfl) ?_
   refine LM.val (ov_move rfl) ?_
   refine LM.drop (t := 50) rfl rfl rfl ?_
   refine LM.drop (t := 50) rfl rfl rfl ?_
   refine LM.drop (t := 50) rfl rfl rfl ?_
   refine LM.drop (t := 50) rfl rfl rfl ?_
   refine LM.val (ov_pickF rfl rfl) ?_
   refine LM.val (ov_move rfl) ?_
   refine LM.drop (t := 56) rfl rfl rfl ?_
   refine LM.drop (t := 56) rfl rfl rfl ?_
   refine LM.drop (t := 56) rfl rfl rfl ?_
   refine LM.drop (t := 56) rfl rfl rfl ?_
   refine LM.drop (t := 56) rfl rfl rfl ?_
   refine LM.drop (t := 56) rfl rfl rfl ?_
   refine LM.val (ov_pickF rfl rfl) ?_
   refine LM.val (ov_move rfl) ?_
   refine LM.drop (t := 64) rfl rfl rfl ?_
   refine LM.drop (t := 64) rfl rfl rfl ?_
   refine LM.val (ov_pickF rfl rfl) ?_
   refine LM.val (ov_move rfl) ?_
   refine LM.drop (t := 68) rfl rfl rfl ?_
   refine LM.drop (t := 68) rfl rfl rfl ?_
   refine LM.val (ov_pickF rfl rfl) ?_
   refine LM.val (ov_move rfl) ?_
   refine LM.drop (t := 72) rfl rfl rfl ?_
   refine LM.drop (t := 72) rfl rfl rfl ?_
   refine LM.val (ov_pickF rfl rfl) ?_
   refine LM.val (ov_assign rfl) ?_
   refine LM.nil ?_
   refine QM.sub (e' := [(0, _)]) ⟨rfl, trivial⟩ ?_
   refine QM.then ?_
   refine wpM.ret ?_
   refine QM.leave (.inl rfl) [.tmp 0] Tryz.results9 rfl ?_
   intro w' hm' hc' hg'
   first | exact ⟨rfl, hc'⟩ | (exfalso; first | omega | (simp at *; done) | (simp_all; done))
 ·
  refine LM.drop (t := 36) rfl rfl rfl ?_
  refine LM.drop (t := 36) rfl rfl rfl ?_
  refine LM.drop (t := 36) rfl rfl rfl ?_
  refine LM.drop (t := 36) rfl rfl rfl ?_
  refine LM.val (ov_pickF rfl rfl) ?_
  refine LM.val (ov_move rfl) ?_
  refine LM.drop (t := 42) rfl rfl rfl ?_
  refine LM.drop (t := 42) rfl rfl rfl ?_
  refine LM.val (ov_pickF rfl rfl) ?_
  refine LM.val (ov_move rfl) ?_
  refine LM.drop (t := 46) rfl rfl rfl ?_
  refine LM.drop (t := 46) rfl rfl rfl ?_
  refine LM.val (ov_pickF rfl rfl) ?_
  refine LM.val (ov_move rfl) ?_
  refine LM.drop (t := 50) rfl rfl rfl ?_
  refine LM.drop (t := 50) rfl rfl rfl ?_
  refine LM.drop (t := 50) rfl rfl rfl ?_
  refine LM.drop (t := 50) rfl rfl rfl ?_
  refine LM.val (ov_pickF rfl rfl) ?_
  refine LM.val (ov_move rfl) ?_
  refine LM.drop (t := 56) rfl rfl rfl ?_
  refine LM.drop (t := 56) rfl rfl rfl ?_
  refine LM.drop (t := 56) rfl rfl rfl ?_
  refine LM.drop (t := 56) rfl rfl rfl ?_
  refine LM.drop (t := 56) rfl rfl rfl ?_
  refine LM.drop (t := 56) rfl rfl rfl ?_
  refine LM.val (ov_pickF rfl rfl) ?_
  refine LM.val (ov_move rfl) ?_
  refine LM.drop (t := 64) rfl rfl rfl ?_
  refine LM.drop (t := 64) rfl rfl rfl ?_
  refine LM.val (ov_pickF rfl rfl) ?_
  refine LM.val (ov_move rfl) ?_
  refine LM.drop (t := 68) rfl rfl rfl ?_
  refine LM.drop (t := 68) rfl rfl rfl ?_
  refine LM.val (ov_pickF rfl rfl) ?_
  refine LM.val (ov_move rfl) ?_
  refine LM.drop (t := 72) rfl rfl rfl ?_
  refine LM.drop (t := 72) rfl rfl rfl ?_
  refine LM.val (ov_pickF rfl rfl) ?_
  refine LM.val (ov_assign rfl) ?_
  refine LM.nil ?_
  refine QM.sub (e' := [(0, _)]) ⟨rfl, trivial⟩ ?_
  refine QM.then ?_
  refine wpM.ret ?_
  refine QM.leave (.inl rfl) [.tmp 0] Tryz.results9 rfl ?_
  intro w' hm' hc' hg'
  first | exact ⟨rfl, hc'⟩ | (exfalso; first | omega | (simp at *; done) | (simp_all; done))

set_option maxRecDepth 100000 in
set_option maxHeartbeats 4000000 in
theorem setupBack {s : StV} (w : World) (hT : Tb w) (hS : s.In w) : Ret Tryz.prog 4 #[s.val] w (fun v w' => v = .bool true ∧ Ext w w') := by
 refine Ret.enterM (l := [s.val]) Tryz.func4 rfl Tryz.ntmps4 rfl ([]) (no) (Mem.nil w) ?_
 refine wpM.seq ?_
 refine wpM.region ?_
 refine LM.box rfl rfl (fun b1 hb1 => ?_)
 refine LM.val (ov_assign rfl) ?_
 refine LM.nil ?_
 refine QM.sub (e' := [(1, _)]) ⟨rfl, trivial⟩ ?_
 refine QM.then ?_
 refine wpM.seq ?_
 refine wpM.seq ?_
 refine wpM.region ?_
 refine LM.callE (oc_call (enters_fn Tryz.func9 (by kernel_rfl) rfl) rfl) (fun w hm hc hg => awake12_spec w (hT.ext hc)) ?_
 first | refine LM.val (ov_notD rfl) ?_ | refine LM.val (ov_not rfl) ?_
 refine LM.nil ?_
 refine QM.sub (e' := [(1, _), (14, _)]) ⟨rfl, rfl, trivial⟩ ?_
 refine QM.then ?_
 first | refine wpM.condD rfl (fun h1 => ?_) (fun h1 => ?_) | refine wpM.condB rfl (fun h1 => ?_) (fun h1 => ?_)
 ·
  refine wpM.seq ?_
  refine wpM.region ?_
  refine LM.val (ov_assign rfl) ?_
  refine LM.nil ?_
  refine QM.sub (e' := [(2, _)]) ⟨rfl, trivial⟩ ?_
  refine QM.then ?_
  refine wpM.ret ?_
  refine QM.then_ret ?_
  refine QM.leave (.inl rfl) [.tmp 2] Tryz.results4 rfl ?_
  intro w' hm' hc' hg'
  first | exact ⟨rfl, hc'⟩ | (exfalso; first | omega | (simp at *; done) | (simp_all; done))
 ·
  refine wpM.skip ?_
  refine QM.then ?_
  refine wpM.seq ?_
  refine wpM.seq ?_
  refine wpM.region ?_
  refine LM.rd (om_ldW Tryz.isAgg30 Tryz.sizeOf30 rfl rfl) ?_
  refine LM.callE (oc_call (enters_fn Tryz.func15 (by kernel_rfl) rfl) rfl) (fun w hm hc hg => small12_spec w (hS.ext hc)) ?_
  first | refine LM.val (ov_notD rfl) ?_ | refine LM.val (ov_not rfl) ?_
  refine LM.nil ?_
  refine QM.sub (e' := [(1, _), (17, _)]) ⟨rfl, rfl, trivial⟩ ?_
  refine QM.then ?_
  first | refine wpM.condD rfl (fun h2 => ?_) (fun h2 => ?_) | refine wpM.condB rfl (fun h2 => ?_) (fun h2 => ?_)
  ·
   refine wpM.seq ?_
   refine wpM.region ?_
   refine LM.val (ov_assign rfl) ?_
   refine LM.nil ?_
   refine QM.sub (e' := [(2, _)]) ⟨rfl, trivial⟩ ?_
   refine QM.then ?_
   refine wpM.ret ?_
   refine QM.then_ret ?_
   refine QM.leave (.inl rfl) [.tmp 2] Tryz.results4 rfl ?_
   intro w' hm' hc' hg'
   exact ⟨rfl, hc'⟩
  ·
   refine wpM.skip ?_
   refine QM.then ?_
   refine wpM.seq ?_
   refine wpM.region ?_
   refine LM.rd (om_ldW Tryz.isAgg30 Tryz.sizeOf30 rfl rfl) ?_
   refine LM.callE (oc_call (enters_fn Tryz.func16 (by kernel_rfl) rfl) rfl) (fun w hm hc hg => sprint_spec w (hS.ext hc) (hT.ext hc)) ?_
   refine LM.val (ov_move rfl) ?_
   refine LM.val (ov_extract rfl rfl) ?_
   refine LM.val (ov_extract rfl rfl) ?_
   refine LM.val (ov_assign rfl) ?_
   refine LM.val (ov_assign rfl) ?_
   refine LM.nil ?_
   refine QM.sub (e' := [(1, _), (3, _), (4, _)]) ⟨rfl, rfl, rfl, trivial⟩ ?_
   refine QM.then ?_
   refine wpM.seq ?_
   refine wpM.region ?_
   refine LM.rd (om_ldW Tryz.isAgg30 Tryz.sizeOf30 rfl rfl) ?_
   refine LM.callE (oc_call (enters_fn Tryz.func17 (by kernel_rfl) rfl) rfl) (fun w hm hc hg => rsprint_spec w (hS.ext hc)) ?_
   refine LM.val (ov_move rfl) ?_
   refine LM.val (ov_extract rfl rfl) ?_
   refine LM.val (ov_extract rfl rfl) ?_
   refine LM.val (ov_assign rfl) ?_
   refine LM.val (ov_assign rfl) ?_
   refine LM.nil ?_
   refine QM.sub (e' := [(1, _), (3, _), (4, _), (5, _), (6, _)]) ⟨rfl, rfl, rfl, rfl, rfl, trivial⟩ ?_
   refine QM.then ?_
   refine wpM.seq ?_
   refine wpM.region ?_
   refine LM.rd (om_ldW Tryz.isAgg30 Tryz.sizeOf30 rfl rfl) ?_
   refine LM.callT (oc_call (enters_fn Tryz.func18 (by kernel_rfl) rfl) rfl) WoT.mono (fun w hm hc hg => swords_spec w (hS.ext hc)) ?_
   rintro u30 m30 ⟨ad30, n30, cap30, rfl, hn30, hs30⟩ -
   refine LM.val (ov_move rfl) ?_
   refine LM.val (ov_extract rfl rfl) ?_
   refine LM.val (ov_extract rfl rfl) ?_
   refine LM.val (ov_assign rfl) ?_
   refine LM.val (ov_assign rfl) ?_
   refine LM.nil ?_
   refine QM.sub (e' := [(1, _), (3, _), (4, _), (5, _), (6, _), (7, _), (8, _)]) ⟨rfl, rfl, rfl, rfl, rfl, rfl, rfl, trivial⟩ ?_
   refine QM.then ?_
   refine wpM.seq ?_
   refine wpM.region ?_
   refine LM.rd (om_ldW Tryz.isAgg30 Tryz.sizeOf30 rfl rfl) ?_
   refine LM.callE (oc_call (enters_fn Tryz.func19 (by kernel_rfl) rfl) rfl) (fun w hm hc hg => rmayS_spec w (hS.ext hc)) ?_
   refine LM.val (ov_assign rfl) ?_
   refine LM.nil ?_
   refine QM.sub (e' := [(1, _), (3, _), (4, _), (5, _), (6, _), (7, _), (8, _), (9, _)]) ⟨rfl, rfl, rfl, rfl, rfl, rfl, rfl, rfl, trivial⟩ ?_
   refine QM.then ?_
   refine wpM.seq ?_
   refine wpM.seq ?_
   refine wpM.region ?_
   refine LM.val (ov_move rfl) ?_
   refine LM.val (ov_move rfl) ?_
   refine LM.val (ov_sneqL rfl rfl) ?_
   refine LM.val (ov_move rfl) ?_
   refine LM.splitD (t := 38) rfl (fun h3 => ?_) (fun h3 => ?_)
   ·
    exact absurd rfl h3
   ·
    refine LM.strip (t := 38) rfl rfl rfl ?_
    refine LM.val (ov_move rfl) ?_
    refine LM.strip (t := 38) rfl rfl rfl ?_
    refine LM.val (ov_move rfl) ?_
    refine LM.strip (t := 38) rfl rfl rfl ?_
    refine LM.val (ov_neq rfl rfl) ?_
    refine LM.val (ov_pickF rfl rfl) ?_
    refine LM.val (ov_move rfl) ?_
    refine LM.splitD (t := 43) rfl (fun h4 => ?_) (fun h4 => ?_)
    ·
     exact absurd rfl h4
    ·
     refine LM.strip (t := 43) rfl rfl rfl ?_
     refine LM.rd (om_ldW Tryz.isAgg30 Tryz.sizeOf30 rfl rfl) ?_
     refine LM.strip (t := 43) rfl rfl rfl ?_
     refine LM.callE (oc_call (enters_fn Tryz.func14 (by kernel_rfl) rfl) rfl) (fun w hm hc hg => mayS_spec w (hS.ext hc)) ?_
     refine LM.strip (t := 43) rfl rfl rfl ?_
     refine LM.val (ov_move rfl) ?_
     refine LM.strip (t := 43) rfl rfl rfl ?_
     refine LM.val (ov_bneq Tryz.underlying4 rfl rfl) ?_
     refine LM.val (ov_pickF rfl rfl) ?_
     refine LM.val (ov_move rfl) ?_
     first | refine LM.splitD (t := 49) rfl (fun h5 => ?_) (fun h5 => ?_) | refine LM.splitB (t := 49) rfl (fun h5 => ?_) (fun h5 => ?_)
     ·
      exfalso; simp at h5
     ·
      refine LM.strip (t := 49) rfl rfl rfl ?_
      refine LM.val (ov_move rfl) ?_
      refine LM.strip (t := 49) rfl rfl rfl ?_
      refine LM.val (ov_eql rfl rfl) ?_
      refine LM.strip (t := 49) rfl rfl rfl ?_
      refine LM.val (ov_move rfl) ?_
      refine LM.strip (t := 49) rfl rfl rfl ?_
      refine LM.val (ov_bneq Tryz.underlying4 rfl rfl) ?_
      refine LM.val (ov_pickF rfl rfl) ?_
      refine LM.nil ?_
      refine QM.sub (e' := [(1, _), (7, _), (8, _), (9, _), (54, _)]) ⟨rfl, rfl, rfl, rfl, rfl, trivial⟩ ?_
      refine QM.then ?_
      first | refine wpM.condD rfl (fun h6 => ?_) (fun h6 => ?_) | refine wpM.condB rfl (fun h6 => ?_) (fun h6 => ?_)
      ·
       exfalso; have := wordsS_err s.C; simp at h6 this; simp_all
      ·
       refine wpM.skip ?_
       refine QM.then ?_
       refine wpM.seq ?_
       refine wpM.seq ?_
       refine wpM.region ?_
       refine LM.val (ov_move rfl) ?_
       first | refine LM.val (ov_notD rfl) ?_ | refine LM.val (ov_not rfl) ?_
       refine LM.nil ?_
       refine QM.sub (e' := [(1, _), (7, _), (8, _), (56, _)]) ⟨rfl, rfl, rfl, rfl, trivial⟩ ?_
       refine QM.then ?_
       first | refine wpM.condD rfl (fun h7 => ?_) (fun h7 => ?_) | refine wpM.condB rfl (fun h7 => ?_) (fun h7 => ?_)
       ·
        refine wpM.seq ?_
        refine wpM.region ?_
        refine LM.val (ov_move rfl) ?_
        refine LM.val (ov_len Tryz.underlying23 rfl) ?_
        refine LM.val (ov_eql rfl rfl) ?_
        refine LM.val (ov_move rfl) ?_
        refine LM.splitD (t := 60) rfl (fun h8 => ?_) (fun h8 => ?_)
        ·
         refine LM.strip (t := 60) rfl rfl rfl ?_
         refine LM.val (ov_move rfl) ?_
         refine LM.strip (t := 60) rfl rfl rfl ?_
         refine LM.val (ov_eql rfl rfl) ?_
         refine LM.val (ov_pickT rfl rfl) ?_
         refine LM.val (ov_assign rfl) ?_
         refine LM.nil ?_
         refine QM.sub (e' := [(2, _)]) ⟨rfl, trivial⟩ ?_
         refine QM.then ?_
         refine wpM.ret ?_
         refine QM.then_ret ?_
         refine QM.leave (.inl rfl) [.tmp 2] Tryz.results4 rfl ?_
         intro w' hm' hc' hg'
         have hm0 : mayS s.C = false := (by simpa using h7); refine ⟨?_, hc'⟩; show Value.bool (decide ((wordsS s.C).2 = 1)) = _; unfold wordsS; rw [if_neg (by rw [hm0]; simp)]; rfl
        ·
         refine LM.drop (t := 60) rfl rfl rfl ?_
         refine LM.drop (t := 60) rfl rfl rfl ?_
         refine LM.val (ov_pickF rfl rfl) ?_
         refine LM.val (ov_assign rfl) ?_
         refine LM.nil ?_
         refine QM.sub (e' := [(2, _)]) ⟨rfl, trivial⟩ ?_
         refine QM.then ?_
         refine wpM.ret ?_
         refine QM.then_ret ?_
         refine QM.leave (.inl rfl) [.tmp 2] Tryz.results4 rfl ?_
         intro w' hm' hc' hg'
         have hm0 : mayS s.C = false := (by simpa using h7); exfalso; apply h8; rw [hn30]; unfold wordsS; rw [if_neg (by rw [hm0]; simp)]; rfl
       ·
        have hmS : mayS s.C = true := (by simpa using h7); have hWS : wordsS s.C = (setW s.C, 0) := (by unfold wordsS; rw [if_pos hmS])
        refine wpM.skip ?_
        refine QM.then ?_
        refine wpM.seq ?_
        refine wpM.region ?_
        refine LM.val (ov_move rfl) ?_
        refine LM.callT (oc_call (enters_fn Tryz.func11 (by kernel_rfl) rfl) rfl) StT.mono (fun w hm hc hg => setup_spec 0 w hn30 (wordsS_l8 s.C) (hs30.srM (by intro _; rfl) hm)) ?_
        rw [set_words hmS]; rintro u66 m66 ⟨sv, rfl, hsv, hin⟩ -
        refine LM.val (ov_move rfl) ?_
        refine LM.val (ov_extract rfl rfl) ?_
        refine LM.val (ov_extract rfl rfl) ?_
        refine LM.val (ov_extract rfl rfl) ?_
        refine LM.alloc Tryz.zeroValue30 rfl (fun b10 hb10 => ?_)
        refine LM.stW Tryz.sizeOf30 rfl rfl rfl rfl (by first | rfl | decide | (simp; done)) (fun hlt => absurd hlt (by omega)) ?_
        refine LM.val (ov_assign rfl) ?_
        refine LM.val (ov_assign rfl) ?_
        refine LM.nil ?_
        refine QM.sub (e' := [(1, _), (7, _), (10, _), (11, _), (12, _)]) ⟨rfl, rfl, rfl, rfl, rfl, trivial⟩ ?_
        refine QM.then ?_
        refine wpM.seq ?_
        refine wpM.region ?_
        refine LM.val (ov_move rfl) ?_
        refine LM.rd (om_ldW Tryz.isAgg30 Tryz.sizeOf30 rfl rfl) ?_
        refine LM.cS (oc_call (enters_fn Tryz.func21 (by kernel_rfl) rfl) rfl) (fun w hm hc hg => rswords_spec w (hS.ext hc) hmS) (fun ad72 n72 cap72 m72 hn72 hs72 => ?_)
        refine LM.callE (oc_call (enters_fn Tryz.func20 (by kernel_rfl) rfl) rfl) (fun w hm hc hg => wsame_spec true w hn30 (hs30.srM (by intro _; rfl) hm) hn72 (hs72.srM (by intro _; rfl) hm) (wordsS_l8 s.C)) ?_
        refine LM.val (ov_move rfl) ?_
        first | refine LM.splitD (t := 74) rfl (fun h9 => ?_) (fun h9 => ?_) | refine LM.splitB (t := 74) rfl (fun h9 => ?_) (fun h9 => ?_)
        ·
         refine LM.strip (t := 74) rfl rfl rfl ?_
         refine LM.val (ov_move rfl) ?_
         refine LM.strip (t := 74) rfl rfl rfl ?_
         refine LM.val (ov_eql rfl rfl) ?_
         refine LM.val (ov_pickT rfl rfl) ?_
         refine LM.val (ov_move rfl) ?_
         refine LM.splitD (t := 78) rfl (fun h10 => ?_) (fun h10 => ?_)
         ·
          refine LM.strip (t := 78) rfl rfl rfl ?_
          refine LM.val (ov_move rfl) ?_
          refine LM.strip (t := 78) rfl rfl rfl ?_
          refine LM.val (ov_move rfl) ?_
          refine LM.strip (t := 78) rfl rfl rfl ?_
          refine LM.val (ov_len Tryz.underlying23 rfl) ?_
          refine LM.strip (t := 78) rfl rfl rfl ?_
          refine LM.val (ov_eql rfl rfl) ?_
          refine LM.val (ov_pickT rfl rfl) ?_
          refine LM.val (ov_move rfl) ?_
          refine LM.splitD (t := 84) rfl (fun h11 => ?_) (fun h11 => ?_)
          ·
           refine LM.strip (t := 84) rfl rfl rfl ?_
           refine LM.rd (om_ldW Tryz.isAgg30 Tryz.sizeOf30 rfl rfl) ?_
           refine LM.strip (t := 84) rfl rfl rfl ?_
           refine LM.rd (om_ldW Tryz.isAgg30 Tryz.sizeOf30 rfl rfl) ?_
           refine LM.strip (t := 84) rfl rfl rfl ?_
           refine LM.callE (oc_call (enters_fn Tryz.func13 (by kernel_rfl) rfl) rfl) (fun w hm hc hg => rssame_spec w (hin w (hm.pick m66)) (hS.ext hc) (bd_of (by rw [hsv]; exact hmS))) ?_
           refine LM.val (ov_pickT rfl rfl) ?_
           refine LM.val (ov_move rfl) ?_
           refine LM.splitD (t := 89) rfl (fun h12 => ?_) (fun h12 => ?_)
           ·
            refine LM.strip (t := 89) rfl rfl rfl ?_
            refine LM.rd (om_ldW Tryz.isAgg30 Tryz.sizeOf30 rfl rfl) ?_
            refine LM.strip (t := 89) rfl rfl rfl ?_
            refine LM.rd (om_ldW Tryz.isAgg30 Tryz.sizeOf30 rfl rfl) ?_
            refine LM.strip (t := 89) rfl rfl rfl ?_
            refine LM.callE (oc_call (enters_fn Tryz.func22 (by kernel_rfl) rfl) rfl) (fun w hm hc hg => ssame_spec w (hin w (hm.pick m66)) (hS.ext hc) (bd_of (by rw [hsv]; exact hmS))) ?_
            refine LM.val (ov_pickT rfl rfl) ?_
            refine LM.val (ov_assign rfl) ?_
            refine LM.nil ?_
            refine QM.sub (e' := [(2, _)]) ⟨rfl, trivial⟩ ?_
            refine QM.then ?_
            refine wpM.ret ?_
            refine QM.leave (.inl rfl) [.tmp 2] Tryz.results4 rfl ?_
            intro w' hm' hc' hg'
            refine ⟨?_, hc'⟩; show Value.bool (decide (sv.C = s.C)) = _; rw [hsv, decide_eq_true rfl]
           ·
            refine LM.drop (t := 89) rfl rfl rfl ?_
            refine LM.drop (t := 89) rfl rfl rfl ?_
            refine LM.drop (t := 89) rfl rfl rfl ?_
            refine LM.val (ov_pickF rfl rfl) ?_
            refine LM.val (ov_assign rfl) ?_
            refine LM.nil ?_
            refine QM.sub (e' := [(2, _)]) ⟨rfl, trivial⟩ ?_
            refine QM.then ?_
            refine wpM.ret ?_
            refine QM.leave (.inl rfl) [.tmp 2] Tryz.results4 rfl ?_
            intro w' hm' hc' hg'
            exact absurd (by first | rfl | exact hsv) h12
          ·
           refine LM.drop (t := 84) rfl rfl rfl ?_
           refine LM.drop (t := 84) rfl rfl rfl ?_
           refine LM.drop (t := 84) rfl rfl rfl ?_
           refine LM.val (ov_pickF rfl rfl) ?_
           refine LM.val (ov_move rfl) ?_
           refine LM.drop (t := 89) rfl rfl rfl ?_
           refine LM.drop (t := 89) rfl rfl rfl ?_
           refine LM.drop (t := 89) rfl rfl rfl ?_
           refine LM.val (ov_pickF rfl rfl) ?_
           refine LM.val (ov_assign rfl) ?_
           refine LM.nil ?_
           refine QM.sub (e' := [(2, _)]) ⟨rfl, trivial⟩ ?_
           refine QM.then ?_
           refine wpM.ret ?_
           refine QM.leave (.inl rfl) [.tmp 2] Tryz.results4 rfl ?_
           intro w' hm' hc' hg'
           exact absurd (by rw [hn30]) h11
         ·
          refine LM.drop (t := 78) rfl rfl rfl ?_
          refine LM.drop (t := 78) rfl rfl rfl ?_
          refine LM.drop (t := 78) rfl rfl rfl ?_
          refine LM.drop (t := 78) rfl rfl rfl ?_
          refine LM.val (ov_pickF rfl rfl) ?_
          refine LM.val (ov_move rfl) ?_
          refine LM.drop (t := 84) rfl rfl rfl ?_
          refine LM.drop (t := 84) rfl rfl rfl ?_
          refine LM.drop (t := 84) rfl rfl rfl ?_
          refine LM.val (ov_pickF rfl rfl) ?_
          refine LM.val (ov_move rfl) ?_
          refine LM.drop (t := 89) rfl rfl rfl ?_
          refine LM.drop (t := 89) rfl rfl rfl ?_
          refine LM.drop (t := 89) rfl rfl rfl ?_
          refine LM.val (ov_pickF rfl rfl) ?_
          refine LM.val (ov_assign rfl) ?_
          refine LM.nil ?_
          refine QM.sub (e' := [(2, _)]) ⟨rfl, trivial⟩ ?_
          refine QM.then ?_
          refine wpM.ret ?_
          refine QM.leave (.inl rfl) [.tmp 2] Tryz.results4 rfl ?_
          intro w' hm' hc' hg'
          exact absurd rfl h10
        ·
         refine LM.drop (t := 74) rfl rfl rfl ?_
         refine LM.drop (t := 74) rfl rfl rfl ?_
         refine LM.val (ov_pickF rfl rfl) ?_
         refine LM.val (ov_move rfl) ?_
         refine LM.drop (t := 78) rfl rfl rfl ?_
         refine LM.drop (t := 78) rfl rfl rfl ?_
         refine LM.drop (t := 78) rfl rfl rfl ?_
         refine LM.drop (t := 78) rfl rfl rfl ?_
         refine LM.val (ov_pickF rfl rfl) ?_
         refine LM.val (ov_move rfl) ?_
         refine LM.drop (t := 84) rfl rfl rfl ?_
         refine LM.drop (t := 84) rfl rfl rfl ?_
         refine LM.drop (t := 84) rfl rfl rfl ?_
         refine LM.val (ov_pickF rfl rfl) ?_
         refine LM.val (ov_move rfl) ?_
         refine LM.drop (t := 89) rfl rfl rfl ?_
         refine LM.drop (t := 89) rfl rfl rfl ?_
         refine LM.drop (t := 89) rfl rfl rfl ?_
         refine LM.val (ov_pickF rfl rfl) ?_
         refine LM.val (ov_assign rfl) ?_
         refine LM.nil ?_
         refine QM.sub (e' := [(2, _)]) ⟨rfl, trivial⟩ ?_
         refine QM.then ?_
         refine wpM.ret ?_
         refine QM.leave (.inl rfl) [.tmp 2] Tryz.results4 rfl ?_
         intro w' hm' hc' hg'
         rw [hWS, sameW_refl] at h9; cases h9

end Go.Eng
set_option linter.unusedVariables false
set_option linter.unusedSimpArgs false
namespace Go.Eng
open Go Go.Proofs Go.RowKit Go.ChangeShapes Go.WideShapes

set_option maxRecDepth 100000 in
theorem rdb_api_Op : Rdb Tryz.prog 135 fO (fun a => (-9223372036854775808 ≤ a.k ∧ a.k ≤ 9223372036854775807) ∧ (-9223372036854775808 ≤ a.a ∧ a.a ≤ 9223372036854775807) ∧ (-9223372036854775808 ≤ a.b ∧ a.b ≤ 9223372036854775807)) := fun {H enc w base sp held fuel cs x} h => by
  obtain ⟨h1, h2⟩ := trod_fields Tryz.underlying135 h
  rw [show Tryz.prog.cellsOf 135 = 3 by kernel_rfl] at h1
  have c3 : Tryz.prog.cellsOf 3 = 1 := by kernel_rfl
  match cs, h1 with
  | [a0, a1, a2], _ =>
    simp only [List.forall_mem_cons, c3, List.drop_succ_cons, List.drop_zero, List.take_succ_cons, List.take_zero] at h2
    obtain ⟨⟨_, _, f0⟩, ⟨_, _, f1⟩, ⟨_, _, f2⟩, _⟩ := h2
    obtain ⟨m0, e0, _, w0⟩ := DataW.trod_int Tryz.underlying3 f0
    obtain ⟨m1, e1, _, w1⟩ := DataW.trod_int Tryz.underlying3 f1
    obtain ⟨m2, e2, _, w2⟩ := DataW.trod_int Tryz.underlying3 f2
    simp only [List.cons.injEq, and_true] at e0 e1 e2
    subst e0
    subst e1
    subst e2
    exact ⟨⟨m0, m1, m2⟩, rfl, ⟨bounds_i64 w0, bounds_i64 w1, bounds_i64 w2⟩⟩
set_option maxRecDepth 100000 in
theorem rdb_api_Lock : Rdb Tryz.prog 63 fL (fun a => (-9223372036854775808 ≤ a.sl ∧ a.sl ≤ 9223372036854775807) ∧ (-9223372036854775808 ≤ a.cr ∧ a.cr ≤ 9223372036854775807) ∧ (-9223372036854775808 ≤ a.rd ∧ a.rd ≤ 9223372036854775807) ∧ (-9223372036854775808 ≤ a.wr ∧ a.wr ≤ 9223372036854775807)) := fun {H enc w base sp held fuel cs x} h => by
  obtain ⟨h1, h2⟩ := trod_fields Tryz.underlying63 h
  rw [show Tryz.prog.cellsOf 63 = 5 by kernel_rfl] at h1
  have c3 : Tryz.prog.cellsOf 3 = 1 := by kernel_rfl
  have c4 : Tryz.prog.cellsOf 4 = 1 := by kernel_rfl
  match cs, h1 with
  | [a0, a1, a2, a3, a4], _ =>
    simp only [List.forall_mem_cons, c3, c4, List.drop_succ_cons, List.drop_zero, List.take_succ_cons, List.take_zero] at h2
    obtain ⟨⟨_, _, f0⟩, ⟨_, _, f1⟩, ⟨_, _, f2⟩, ⟨_, _, f3⟩, ⟨_, _, f4⟩, _⟩ := h2
    obtain ⟨m0, e0, _⟩ := DataW.trod_bool Tryz.underlying4 f0
    obtain ⟨m1, e1, _, w1⟩ := DataW.trod_int Tryz.underlying3 f1
    obtain ⟨m2, e2, _, w2⟩ := DataW.trod_int Tryz.underlying3 f2
    obtain ⟨m3, e3, _, w3⟩ := DataW.trod_int Tryz.underlying3 f3
    obtain ⟨m4, e4, _, w4⟩ := DataW.trod_int Tryz.underlying3 f4
    simp only [List.cons.injEq, and_true] at e0 e1 e2 e3 e4
    subst e0
    subst e1
    subst e2
    subst e3
    subst e4
    exact ⟨⟨m0, m1, m2, m3, m4⟩, rfl, ⟨bounds_i64 w1, bounds_i64 w2, bounds_i64 w3, bounds_i64 w4⟩⟩
set_option maxRecDepth 100000 in
theorem rdW_Prog (w : World) : RdW Tryz.prog w 87 fPg (fun p => p.In w) := fun {H enc base sp held fuel cs x} h => by
  obtain ⟨h1, h2⟩ := trod_fields Tryz.underlying87 h
  rw [show Tryz.prog.cellsOf 87 = 2 by kernel_rfl] at h1
  have c0 : Tryz.prog.cellsOf 4 = 1 := by kernel_rfl
  have c1 : Tryz.prog.cellsOf 85 = 1 := by kernel_rfl
  match cs, h1 with
  | [a0, a1], _ =>
    simp only [List.forall_mem_cons, c0, c1, List.drop_succ_cons, List.drop_zero, List.take_succ_cons, List.take_zero] at h2
    obtain ⟨⟨_, _, f0⟩, ⟨n1, y1, f1⟩, _⟩ := h2
    obtain ⟨m0, e0, _⟩ := DataW.trod_bool Tryz.underlying4 f0
    simp only [List.cons.injEq, and_true] at e0
    subst e0
    obtain ⟨xs, ad, cap, e1, h3, _, h4⟩ := rdW_sl (s := 3) Tryz.underlying85 (rdb_api_Op.at w) (by kernel_rfl) (by decide) (fun _ => rfl) f1
    simp only [List.cons.injEq, and_true] at e1
    subst e1
    exact ⟨⟨⟨m0, xs⟩, ad, xs.length, cap⟩, rfl, rfl, h3⟩
set_option maxRecDepth 100000 in
theorem rdW_Setup (w : World) : RdW Tryz.prog w 30 StV.cs (fun s => s.In w) := fun {H enc base sp held fuel cs x} h => by
  obtain ⟨h1, h2⟩ := trod_fields Tryz.underlying30 h
  rw [show Tryz.prog.cellsOf 30 = 5 by kernel_rfl] at h1
  have c0 : Tryz.prog.cellsOf 3 = 1 := by kernel_rfl
  have c1 : Tryz.prog.cellsOf 26 = 1 := by kernel_rfl
  have c2 : Tryz.prog.cellsOf 27 = 1 := by kernel_rfl
  have c3 : Tryz.prog.cellsOf 28 = 1 := by kernel_rfl
  match cs, h1 with
  | [a0, a1, a2, a3, a4], _ =>
    simp only [List.forall_mem_cons, c0, c1, c2, c3, List.drop_succ_cons, List.drop_zero, List.take_succ_cons, List.take_zero] at h2
    obtain ⟨⟨_, _, f0⟩, ⟨_, _, f1⟩, ⟨_, _, f2⟩, ⟨_, _, f3⟩, ⟨_, _, f4⟩, _⟩ := h2
    obtain ⟨m0, e0, _, _⟩ := DataW.trod_int Tryz.underlying3 f0
    obtain ⟨m1, e1, _, _⟩ := DataW.trod_int Tryz.underlying3 f1
    obtain ⟨gs, ga, gc, e2, h3, _, _⟩ := rdW_sl (s := 1) Tryz.underlying26 (Rdb.at (rdb_I Tryz.underlying3) w) (by kernel_rfl) (by decide) (fun _ => rfl) f2
    obtain ⟨ls, la, lc, e3, h4, _, _⟩ := rdW_sl (s := 5) Tryz.underlying27 (rdb_api_Lock.at w) (by kernel_rfl) (by decide) (fun _ => rfl) f3
    obtain ⟨ps, pa, pc, e4, h5, h6, _⟩ := rdW_sl (s := 2) Tryz.underlying28 (rdW_Prog w) (by kernel_rfl) (by decide) (fun _ => rfl) f4
    simp only [List.cons.injEq, and_true] at e0 e1 e2 e3 e4
    subst e0; subst e1; subst e2; subst e3; subst e4
    exact ⟨⟨m0, m1, gs, ga, gs.length, gc, ls, la, ls.length, lc, ps, pa, ps.length, pc⟩, rfl, ⟨rfl, h3, rfl, h4, rfl, h5, h6⟩⟩
set_option maxRecDepth 100000 in
theorem open_api_Setup {H : Type} {enc : TypeId × Value → H} {w : World} {base : Nat} {sp : Nat → Bool} {held : Bool} {r : Reach} {b0 : Nat} {v : Value} {d : DataW H} {ps : List MemPlace}
    (hval : Value.okWide Tryz.prog w r b0 30 v) (h : DataW.Trod enc Tryz.prog w base sp held 30 v d ps) : ∃ s : StV, v = s.val ∧ s.In w := by
  obtain ⟨s, h1, h2⟩ := open_aggW (rdW_Setup w) (.inr ⟨_, Tryz.underlying30⟩) hval h
  exact ⟨s, h1, h2⟩
end Go.Eng
