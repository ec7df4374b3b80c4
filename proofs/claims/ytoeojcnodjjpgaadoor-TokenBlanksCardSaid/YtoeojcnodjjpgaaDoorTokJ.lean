/- Blanks and remarks between words change none; TokenBlanks, walked. No condition. -/
import Derived.Test.YtoeojcnodjjpgaaDoorTokI
set_option linter.unusedVariables false
set_option linter.unusedSimpArgs false
namespace Go.Eng
open Go Go.Proofs Go.RowKit

theorem drop_one {s rest : List UInt8} {c : UInt8} {i : Nat} (h : s.drop i = c :: rest) : i < s.length ∧ s.getD i 0 = c ∧ s.drop (i + 1) = rest := by
  have h1 : i < s.length := by have := congrArg List.length h; rw [List.length_drop] at this; simp at this; omega
  rw [drop_get h1] at h
  exact ⟨h1, (List.cons.inj h).1, (List.cons.inj h).2⟩
theorem scan_blank {s rest : List UInt8} {c : UInt8} {i : Nat} {last : Int} {out : List Wrd} (h : s.drop i = c :: rest) (hc : blankB c = true) : scanR s i last out = scanR s (i + 1) last out ∧ s.drop (i + 1) = rest := by
  obtain ⟨h1, h2, h3⟩ := drop_one h
  exact ⟨scanR_blank h1 (by rw [h2]; exact hc), h3⟩
/-- a remark, up to the end of its line -/
theorem scan_rem {s r rest : List UInt8} {i : Nat} {last : Int} {out : List Wrd} (hr : r.all notNl = true) (h : s.drop i = 35 :: (r ++ 10 :: rest)) : scanR s i last out = scanR s (i + r.length + 2) last out ∧ s.drop (i + r.length + 2) = rest := by
  obtain ⟨h1, h2, h3⟩ := drop_one h
  have hrun : runL notNl s i = (35 :: r).length := runL_of (t := 35 :: r) (rest := 10 :: rest) (by rw [h]; rfl) (by rw [List.all_cons, hr]; decide) (show notNl 10 = false by decide)
  have hd : s.drop (i + (r.length + 1)) = 10 :: rest := by rw [← List.drop_drop, h]; simp [List.drop_append]
  obtain ⟨e1, e2⟩ := scan_blank (last := last) (out := out) hd (by decide)
  exact ⟨by rw [scanR_hash h1 (by rw [h2]; decide) (by rw [h2]; decide) rfl, hrun]; exact e1, e2⟩
theorem scan_last {s r : List UInt8} {i : Nat} {last : Int} {out : List Wrd} (hr : r.all notNl = true) (h : s.drop i = 35 :: r) : scanR s i last out = (out, 0, 0) := by
  obtain ⟨h1, h2, h3⟩ := drop_one h
  have hrun : runL notNl s i = (35 :: r).length := runL_of (t := 35 :: r) (rest := []) (by rw [h]; simp) (by rw [List.all_cons, hr]; decide) trivial
  have hl := congrArg List.length h
  rw [List.length_drop] at hl
  rw [scanR_hash h1 (by rw [h2]; decide) (by rw [h2]; decide) rfl, hrun]
  exact scanR_end (by omega)
def headT (r : List UInt8) : List UInt8 := [9, 35] ++ r ++ [10]
def oneR (r : List UInt8) (x : Wrd) : List UInt8 := (textO x).1 ++ [32, 10, 9, 35] ++ r ++ [10, 32, 32]
def blT (r : List UInt8) (l : List Wrd) : List UInt8 := l.flatMap (oneR r)
theorem scan_blanks {s r : List UInt8} (hr : r.all notNl = true) : ∀ (l : List Wrd) (i : Nat) (last : Int) (out : List Wrd), s.drop i = blT r l ++ 35 :: r → last < (i : Int) → (∀ x ∈ l, (textO x).2 = 0) → ∃ l', scanR s i last out = (out ++ l', 0, 0) ∧ sameW false l' l = true
  | [], i, last, out, h, _, _ => ⟨[], by rw [scan_last hr (by simpa [blT] using h)]; simp, rfl⟩
  | x :: l, i, last, out, h, hl, hk => by
    have hx := hk x (List.mem_cons_self ..)
    have e : s.drop i = (textO x).1 ++ (32 :: 10 :: 9 :: 35 :: (r ++ 10 :: 32 :: 32 :: (blT r l ++ 35 :: r))) := by rw [h]; simp [blT, oneR]
    obtain ⟨y, h1, h2⟩ := word_step (out := out) (last := last) hx e ⟨(show letB 32 = false by decide), (show digB 32 = false by decide)⟩ (.inl (by omega))
    have d0 : s.drop (i + (textO x).1.length) = 32 :: 10 :: 9 :: 35 :: (r ++ 10 :: 32 :: 32 :: (blT r l ++ 35 :: r)) := by rw [← List.drop_drop, e, List.drop_left]
    obtain ⟨a1, d1⟩ := scan_blank (last := ((i + (textO x).1.length : Nat) : Int)) (out := out ++ [y]) d0 (by decide)
    obtain ⟨a2, d2⟩ := scan_blank (last := ((i + (textO x).1.length : Nat) : Int)) (out := out ++ [y]) d1 (by decide)
    obtain ⟨a3, d3⟩ := scan_blank (last := ((i + (textO x).1.length : Nat) : Int)) (out := out ++ [y]) d2 (by decide)
    obtain ⟨a4, d4⟩ := scan_rem (last := ((i + (textO x).1.length : Nat) : Int)) (out := out ++ [y]) hr d3
    obtain ⟨a5, d5⟩ := scan_blank (last := ((i + (textO x).1.length : Nat) : Int)) (out := out ++ [y]) d4 (by decide)
    obtain ⟨a6, d6⟩ := scan_blank (last := ((i + (textO x).1.length : Nat) : Int)) (out := out ++ [y]) d5 (by decide)
    obtain ⟨l', h3, h4⟩ := scan_blanks hr l _ ((i + (textO x).1.length : Nat) : Int) (out ++ [y]) d6 (by omega) (fun z hz => hk z (List.mem_cons_of_mem _ hz))
    exact ⟨y :: l', by rw [h1, a1, a2, a3, a4, a5, a6, h3]; simp, by rw [sameW, h2, h4]; rfl⟩
theorem scan_remarks {r : List UInt8} {l : List Wrd} (hr : r.all notNl = true) (hk : ∀ x ∈ l, (textO x).2 = 0) (hlen : (headT r ++ blT r l ++ 35 :: r).length ≤ 8000) : ∃ l', scanO (headT r ++ blT r l ++ 35 :: r) = (l', 0, 0) ∧ sameW false l' l = true := by
  have d0 : (headT r ++ blT r l ++ 35 :: r).drop 0 = 9 :: 35 :: (r ++ 10 :: (blT r l ++ 35 :: r)) := by simp [headT]
  obtain ⟨a1, d1⟩ := scan_blank (last := -1) (out := []) d0 (by decide)
  obtain ⟨a2, d2⟩ := scan_rem (last := -1) (out := []) hr d1
  obtain ⟨l', h3, h4⟩ := scan_blanks hr l _ (-1) [] d2 (by omega) hk
  exact ⟨l', by unfold scanO; rw [if_neg (by omega), a1, a2, h3]; rfl, h4⟩
theorem bl_snoc {r : List UInt8} {xs : List Wrd} {i : Nat} (h : i < xs.length) : blT r (xs.take (i + 1)) = blT r (xs.take i) ++ oneR r (xs.getD i default) := by
  unfold blT; rw [take_snoc default h, List.flatMap_append]; simp
theorem allN_snoc {r : List UInt8} {i : Nat} (h : i < r.length) (h0 : (r.take i).all notNl = true) (h1 : notNl (r.getD i 0) = true) : (r.take (i + 1)).all notNl = true := by
  rw [take_snoc 0 h, List.all_append, h0]; simp only [List.all_cons, List.all_nil, Bool.and_true, Bool.true_and]; exact h1
set_option maxRecDepth 100000 in
set_option maxHeartbeats 1000000 in
theorem tokenBlanks {ws : List Wrd} {ad : Option Addr} {n cap : Nat} (r : List UInt8) (w : World) (hT : Tb w) (hn : n = ws.length) (hl : Sr fW 4 ws (.slice ad n cap) w) (hrx : r.length ≤ 9223372036854775807) (htx : ∀ x ∈ ws, x.t.length ≤ 9223372036854775807) : Ret Tryd.prog 10 #[.slice ad n cap, vS r] w (fun v w' => v = .bool true ∧ Ext w w') := by
 refine Ret.enterM (l := [.slice ad n cap, vS r]) Tryd.func10 rfl Tryd.ntmps10 rfl ([]) (no) (Mem.nil w) ?_
 refine wpM.seq ?_
 refine wpM.region ?_
 refine LM.val (ov_assign rfl) ?_
 refine LM.nil ?_
 refine QM.sub (e' := [(0, _), (1, _)]) ⟨rfl, rfl, trivial⟩ ?_
 refine QM.then ?_
 refine wpM.seq ?_
 refine wpM.seq ?_
 refine wpM.region ?_
 refine LM.callE (oc_call (enters_fn Tryd.func38 (by kernel_rfl) rfl) rfl) (fun w hm hc hg => awake09_spec w (hT.ext hc)) ?_
 first | refine LM.val (ov_notD rfl) ?_ | refine LM.val (ov_not rfl) ?_
 refine LM.nil ?_
 refine QM.sub (e' := [(0, _), (1, _), (15, _)]) ⟨rfl, rfl, rfl, trivial⟩ ?_
 refine QM.then ?_
 first | refine wpM.condD rfl (fun h1 => ?_) (fun h1 => ?_) | refine wpM.condB rfl (fun h1 => ?_) (fun h1 => ?_)
 ·
  refine wpM.seq ?_
  refine wpM.region ?_
  refine LM.val (ov_assign rfl) ?_
  refine LM.nil ?_
  refine QM.sub (e' := [(4, _)]) ⟨rfl, trivial⟩ ?_
  refine QM.then ?_
  refine wpM.ret ?_
  refine QM.then_ret ?_
  refine QM.leave (.inl rfl) [.tmp 4] Tryd.results10 rfl ?_
  intro w' hm' hc' hg'
  first | exact ⟨rfl, hc'⟩ | (exfalso; first | omega | (simp at *; done) | (simp_all; done))
 ·
  refine wpM.skip ?_
  refine QM.then ?_
  refine wpM.seq ?_
  refine wpM.seq ?_
  refine wpM.region ?_
  refine LM.val (ov_move rfl) ?_
  refine LM.val (ov_len Tryd.underlying24 rfl) ?_
  refine LM.val (ov_gtr rfl rfl) ?_
  refine LM.val (ov_move rfl) ?_
  first | refine LM.splitD (t := 19) rfl (fun h2 => ?_) (fun h2 => ?_) | refine LM.splitB (t := 19) rfl (fun h2 => ?_) (fun h2 => ?_)
  ·
   refine LM.drop (t := 19) rfl rfl rfl ?_
   refine LM.drop (t := 19) rfl rfl rfl ?_
   refine LM.drop (t := 19) rfl rfl rfl ?_
   refine LM.val (ov_pickT rfl rfl) ?_
   refine LM.nil ?_
   refine QM.sub (e' := [(0, _), (1, _), (23, _)]) ⟨rfl, rfl, rfl, trivial⟩ ?_
   refine QM.then ?_
   refine wpM.condT rfl ?_
   refine wpM.seq ?_
   refine wpM.region ?_
   refine LM.val (ov_assign rfl) ?_
   refine LM.nil ?_
   refine QM.sub (e' := [(4, _)]) ⟨rfl, trivial⟩ ?_
   refine QM.then ?_
   refine wpM.ret ?_
   refine QM.then_ret ?_
   refine QM.leave (.inl rfl) [.tmp 4] Tryd.results10 rfl ?_
   intro w' hm' hc' hg'
   first | exact ⟨rfl, hc'⟩ | (exfalso; first | omega | (simp at *; done) | (simp_all; done))
  ·
   refine LM.strip (t := 19) rfl rfl rfl ?_
   refine LM.val (ov_move rfl) ?_
   refine LM.strip (t := 19) rfl rfl rfl ?_
   refine LM.val (ov_slenL Tryd.underlying9 rfl) ?_
   refine LM.strip (t := 19) rfl rfl rfl ?_
   refine LM.val (ov_gtr rfl rfl) ?_
   refine LM.val (ov_pickF rfl rfl) ?_
   refine LM.nil ?_
   refine QM.sub (e' := [(0, _), (1, _), (23, _)]) ⟨rfl, rfl, rfl, trivial⟩ ?_
   refine QM.then ?_
   first | refine wpM.condD rfl (fun h3 => ?_) (fun h3 => ?_) | refine wpM.condB rfl (fun h3 => ?_) (fun h3 => ?_)
   ·
    refine wpM.seq ?_
    refine wpM.region ?_
    refine LM.val (ov_assign rfl) ?_
    refine LM.nil ?_
    refine QM.sub (e' := [(4, _)]) ⟨rfl, trivial⟩ ?_
    refine QM.then ?_
    refine wpM.ret ?_
    refine QM.then_ret ?_
    refine QM.leave (.inl rfl) [.tmp 4] Tryd.results10 rfl ?_
    intro w' hm' hc' hg'
    first | exact ⟨rfl, hc'⟩ | (exfalso; first | omega | (simp at *; done) | (simp_all; done))
   ·
    refine wpM.skip ?_
    refine QM.then ?_
    refine wpM.seq ?_
    refine wpM.seq ?_
    refine wpM.region ?_
    refine LM.val (ov_move rfl) ?_
    refine LM.val (ov_slenL Tryd.underlying9 rfl) ?_
    refine LM.val (ov_move rfl) ?_
    refine LM.nil ?_
    refine QM.sub (e' := [(0, _), (1, _), (25, _), (26, _)]) ⟨rfl, rfl, rfl, rfl, trivial⟩ ?_
    refine QM.then ?_
    refine wpM.block ?_
    refine wpM.loopK0 (α := Nat) (fun i => [(26, .int .i64 (i : Nat))]) [(0, _), (1, _), (25, _)] (fun i => []) (fun i => i ≤ r.length ∧ (r.take i).all notNl = true) (fun i => r.length - i) (0) ⟨(by first | rfl | exact lk rfl (by congr 1; omega) | exact lk rfl (by simp)), rfl, rfl, rfl, trivial⟩ (by (repeat' (first | exact SubM.nil _ | refine SubM.cons rfl ?_ | refine SubM.app ?_))) ⟨Nat.zero_le _, rfl⟩ ?_
    rintro i ⟨hi, hr0⟩
    change wpM _ _ _ _ _ _ _ ([]) _ _ _
    refine wpM.seq ?_
    refine wpM.region ?_
    refine LM.val (ov_lss rfl rfl) ?_
    refine LM.nil ?_
    refine QM.sub (e' := [(0, _), (1, _), (25, _), (26, _), (27, _)]) ⟨rfl, rfl, rfl, rfl, rfl, trivial⟩ ?_
    refine QM.then ?_
    refine wpM.seq ?_
    first | refine wpM.condD rfl (fun h4 => ?_) (fun h4 => ?_) | refine wpM.condB rfl (fun h4 => ?_) (fun h4 => ?_)
    ·
     refine wpM.skip ?_
     refine QM.then ?_
     refine wpM.seq ?_
     refine wpM.block ?_
     refine wpM.seq ?_
     refine wpM.region ?_
     refine LM.val (ov_move rfl) ?_
     refine LM.val (ov_assign rfl) ?_
     refine LM.nil ?_
     refine QM.sub (e' := [(0, _), (1, _), (5, _), (25, _), (26, _)]) ⟨rfl, rfl, rfl, rfl, rfl, trivial⟩ ?_
     refine QM.then ?_
     refine wpM.seq ?_
     refine wpM.region ?_
     refine LM.val (ov_move rfl) ?_
     refine LM.val (ov_move rfl) ?_
     first | refine LM.val (ov_sidxN Tryd.underlying9 rfl rfl (by omega)) ?_ | refine LM.val (ov_sidxL Tryd.underlying9 rfl rfl (by omega)) ?_
     refine LM.val (ov_eql rfl rfl) ?_
     refine LM.nil ?_
     refine QM.sub (e' := [(0, _), (1, _), (25, _), (26, _), (32, _)]) ⟨rfl, rfl, rfl, rfl, rfl, trivial⟩ ?_
     refine QM.then ?_
     first | refine wpM.condD rfl (fun h5 => ?_) (fun h5 => ?_) | refine wpM.condB rfl (fun h5 => ?_) (fun h5 => ?_)
     ·
      refine wpM.seq ?_
      refine wpM.region ?_
      refine LM.val (ov_assign rfl) ?_
      refine LM.nil ?_
      refine QM.sub (e' := [(4, _)]) ⟨rfl, trivial⟩ ?_
      refine QM.then ?_
      refine wpM.ret ?_
      refine QM.block_ret ?_
      refine QM.then_ret ?_
      refine QM.then_ret ?_
      refine QM.block_ret ?_
      refine QM.then_ret ?_
      refine QM.leave (.inl rfl) [.tmp 4] Tryd.results10 rfl ?_
      intro w' hm' hc' hg'
      first | exact ⟨rfl, hc'⟩ | (exfalso; first | omega | (simp at *; done) | (simp_all; done))
     ·
      refine wpM.skip ?_
      refine QM.block_normal ?_
      refine QM.then ?_
      refine wpM.region ?_
      refine LM.val (ov_add64 rfl rfl (by omega)) ?_
      refine LM.val (ov_move rfl) ?_
      refine LM.nil ?_
      refine QM.sub (e' := [(0, _), (1, _), (25, _), (26, _)]) ⟨rfl, rfl, rfl, rfl, trivial⟩ ?_
      refine QM.againK (i + 1) ⟨(by first | rfl | exact lk rfl (by congr 1; omega) | exact lk rfl (by simp)), rfl, rfl, rfl, trivial⟩ (by (repeat' (first | exact SubM.nil _ | refine SubM.cons rfl ?_ | refine SubM.app ?_))) (fun _ h => h) ?_ ?_
      · exact ⟨by omega, allN_snoc (by omega) hr0 (decide_eq_true (by omega))⟩
      · first | omega | (dsimp only; omega)
    ·
     have hr : r.all notNl = true := (by have hil : i = r.length := (by omega); rw [hil, List.take_length] at hr0; exact hr0)
     refine wpM.exit ?_
     refine QM.then_exit ?_
     refine QM.then_exit ?_
     refine QM.block_hit ?_
     refine QM.then ?_
     refine wpM.seq ?_
     refine wpM.region ?_
     refine LM.val (ov_move rfl) ?_
     refine LM.val (ov_saddL rfl rfl (by first | omega | (simp only [List.length_append, List.length_cons, List.length_nil]; omega))) ?_
     refine LM.val (ov_saddL rfl rfl (by first | omega | (simp only [List.length_append, List.length_cons, List.length_nil]; omega))) ?_
     refine LM.val (ov_assign rfl) ?_
     refine LM.nil ?_
     refine QM.sub (e' := [(0, _), (1, _), (6, _)]) ⟨rfl, rfl, rfl, trivial⟩ ?_
     refine QM.then ?_
     refine wpM.seq ?_
     refine wpM.seq ?_
     refine wpM.region ?_
     refine LM.val (ov_move rfl) ?_
     refine LM.val (ov_len Tryd.underlying24 rfl) ?_
     refine LM.val (ov_move rfl) ?_
     refine LM.nil ?_
     refine QM.sub (e' := [(0, _), (1, _), (6, _), (37, _), (38, _), (39, _)]) ⟨rfl, rfl, rfl, rfl, rfl, rfl, trivial⟩ ?_
     refine QM.then ?_
     refine wpM.block ?_
     refine wpM.loopK0 (α := Nat × List UInt8) (fun ⟨i, txt⟩ => [(6, vS txt), (39, .int .i64 (i : Nat))]) [(0, _), (1, _), (37, _), (38, _)] (fun ⟨i, txt⟩ => []) (fun ⟨i, txt⟩ => i ≤ ws.length ∧ txt = headT r ++ blT r (ws.take i) ∧ txt.length ≤ 43 + 59 * i ∧ ∀ x ∈ ws.take i, (textO x).2 = 0) (fun ⟨i, txt⟩ => ws.length - i) ((0, headT r)) ⟨(by first | rfl | exact lk rfl (by congr 1; omega) | exact lk rfl (by simp)), (by first | rfl | exact lk rfl (by congr 1; omega) | exact lk rfl (by simp)), rfl, rfl, rfl, rfl, trivial⟩ (by (repeat' (first | exact SubM.nil _ | refine SubM.cons rfl ?_ | refine SubM.app ?_))) ⟨Nat.zero_le _, by simp [blT], by simp [headT]; omega, fun x hx => by cases hx⟩ ?_
     rintro ⟨i, txt⟩ ⟨hi2, htxt, htl, hok⟩
     change wpM _ _ _ _ _ _ _ ([]) _ _ _
     refine wpM.seq ?_
     refine wpM.region ?_
     refine LM.val (ov_lss rfl rfl) ?_
     refine LM.nil ?_
     refine QM.sub (e' := [(0, _), (1, _), (6, _), (37, _), (38, _), (39, _), (40, _)]) ⟨rfl, rfl, rfl, rfl, rfl, rfl, rfl, trivial⟩ ?_
     refine QM.then ?_
     refine wpM.seq ?_
     first | refine wpM.condD rfl (fun h6 => ?_) (fun h6 => ?_) | refine wpM.condB rfl (fun h6 => ?_) (fun h6 => ?_)
     ·
      refine wpM.skip ?_
      refine QM.then ?_
      refine wpM.seq ?_
      refine wpM.block ?_
      refine wpM.seq ?_
      refine wpM.region ?_
      first | refine LM.val (ov_idxSN (by first | exact Sr.spt (by assumption) | exact Sl.spt (by assumption)) Tryd.underlying24 Tryd.sizeOf72 rfl rfl (by omega)) ?_ | refine LM.val (ov_idxS (by first | exact Sr.spt (by assumption) | exact Sl.spt (by assumption)) Tryd.underlying24 Tryd.sizeOf72 rfl rfl (by omega)) ?_ | refine LM.val (ov_idx Tryd.underlying24 Tryd.sizeOf72 rfl rfl (by omega)) ?_
      first | refine LM.rd (om_slA (by assumption) (by intro _; rfl) Tryd.isAgg72 Tryd.sizeOf72 rfl (by exact getq default (by first | omega | (simp only [List.length_set, List.length_append, List.length_cons, List.length_nil]; omega)))) ?_ | refine LM.rdC (om_srEA (by assumption) (by intro _; rfl) Tryd.isAgg72 Tryd.sizeOf72 rfl (by exact getq default (by first | omega | (simp only [List.length_set, List.length_append, List.length_cons, List.length_nil]; omega))) id) ?_ | refine LM.rd (om_ldW Tryd.isAgg72 Tryd.sizeOf72 rfl rfl) ?_ | refine LM.rd (om_ldA Tryd.isAgg72 Tryd.sizeOf72 rfl (vs := [_, _, _, _]) rfl ⟨rfl, rfl, rfl, rfl, trivial⟩) ?_
      refine LM.alloc Tryd.zeroValue72 rfl (fun b8 hb8 => ?_)
      first | refine LM.stW Tryd.sizeOf72 rfl rfl rfl rfl (by first | rfl | decide | (simp; done)) (fun hlt => absurd hlt (by omega)) ?_ | refine LM.st Tryd.sizeOf72 rfl rfl rfl (by first | decide | exact Nat.le_of_ble_eq_true rfl | (simp; done) | (simp; omega)) rfl (fun hlt => absurd hlt (by omega)) ?_
      refine LM.nil ?_
      refine QM.sub (e' := [(0, _), (1, _), (6, _), (8, _), (37, _), (38, _), (39, _)]) ⟨rfl, rfl, rfl, rfl, rfl, rfl, rfl, trivial⟩ ?_
      refine QM.then ?_
      refine wpM.seq ?_
      refine wpM.region ?_
      first | refine LM.rd (om_ldW Tryd.isAgg72 Tryd.sizeOf72 rfl rfl) ?_ | refine LM.rd (om_ldA Tryd.isAgg72 Tryd.sizeOf72 rfl (vs := [_, _, _, _]) rfl ⟨rfl, rfl, rfl, rfl, trivial⟩) ?_
      refine LM.callE (oc_call (enters_fn Tryd.func42 (by kernel_rfl) rfl) rfl) (fun w hm hc hg => rtext_spec _ w (htx _ (List.mem_of_getElem? (getq default (show i < ws.length by omega))))) ?_
      refine LM.val (ov_move rfl) ?_
      refine LM.val (ov_extract rfl rfl) ?_
      refine LM.val (ov_extract rfl rfl) ?_
      refine LM.val (ov_assign rfl) ?_
      refine LM.val (ov_assign rfl) ?_
      refine LM.nil ?_
      refine QM.sub (e' := [(0, _), (1, _), (6, _), (9, _), (10, _), (37, _), (38, _), (39, _)]) ⟨rfl, rfl, rfl, rfl, rfl, rfl, rfl, rfl, trivial⟩ ?_
      refine QM.then ?_
      refine wpM.seq ?_
      refine wpM.seq ?_
      refine wpM.region ?_
      refine LM.val (ov_move rfl) ?_
      refine LM.val (ov_neq rfl rfl) ?_
      refine LM.val (ov_move rfl) ?_
      first | refine LM.splitD (t := 50) rfl (fun h7 => ?_) (fun h7 => ?_) | refine LM.splitB (t := 50) rfl (fun h7 => ?_) (fun h7 => ?_)
      ·
       refine LM.drop (t := 50) rfl rfl rfl ?_
       refine LM.drop (t := 50) rfl rfl rfl ?_
       refine LM.drop (t := 50) rfl rfl rfl ?_
       refine LM.val (ov_pickT rfl rfl) ?_
       refine LM.nil ?_
       refine QM.sub (e' := [(0, _), (1, _), (6, _), (9, _), (37, _), (38, _), (39, _), (54, _)]) ⟨rfl, rfl, rfl, rfl, rfl, rfl, rfl, rfl, trivial⟩ ?_
       refine QM.then ?_
       refine wpM.condT rfl ?_
       refine wpM.seq ?_
       refine wpM.region ?_
       refine LM.val (ov_assign rfl) ?_
       refine LM.nil ?_
       refine QM.sub (e' := [(4, _)]) ⟨rfl, trivial⟩ ?_
       refine QM.then ?_
       refine wpM.ret ?_
       refine QM.then_ret ?_
       refine QM.block_ret ?_
       refine QM.then_ret ?_
       refine QM.then_ret ?_
       refine QM.block_ret ?_
       refine QM.then_ret ?_
       refine QM.leave (.inl rfl) [.tmp 4] Tryd.results10 rfl ?_
       intro w' hm' hc' hg'
       first | exact ⟨rfl, hc'⟩ | (exfalso; first | omega | (simp at *; done) | (simp_all; done))
      ·
       refine LM.strip (t := 50) rfl rfl rfl ?_
       refine LM.val (ov_move rfl) ?_
       refine LM.strip (t := 50) rfl rfl rfl ?_
       refine LM.val (ov_slenL Tryd.underlying9 rfl) ?_
       refine LM.strip (t := 50) rfl rfl rfl ?_
       refine LM.val (ov_gtr rfl rfl) ?_
       refine LM.val (ov_pickF rfl rfl) ?_
       refine LM.nil ?_
       refine QM.sub (e' := [(0, _), (1, _), (6, _), (9, _), (37, _), (38, _), (39, _), (54, _)]) ⟨rfl, rfl, rfl, rfl, rfl, rfl, rfl, rfl, trivial⟩ ?_
       refine QM.then ?_
       first | refine wpM.condD rfl (fun h8 => ?_) (fun h8 => ?_) | refine wpM.condB rfl (fun h8 => ?_) (fun h8 => ?_)
       ·
        refine wpM.seq ?_
        refine wpM.region ?_
        refine LM.val (ov_assign rfl) ?_
        refine LM.nil ?_
        refine QM.sub (e' := [(4, _)]) ⟨rfl, trivial⟩ ?_
        refine QM.then ?_
        refine wpM.ret ?_
        refine QM.then_ret ?_
        refine QM.block_ret ?_
        refine QM.then_ret ?_
        refine QM.then_ret ?_
        refine QM.block_ret ?_
        refine QM.then_ret ?_
        refine QM.leave (.inl rfl) [.tmp 4] Tryd.results10 rfl ?_
        intro w' hm' hc' hg'
        first | exact ⟨rfl, hc'⟩ | (exfalso; first | omega | (simp at *; done) | (simp_all; done))
       ·
        refine wpM.skip ?_
        refine QM.then ?_
        refine wpM.region ?_
        refine LM.val (ov_move rfl) ?_
        refine LM.val (ov_move rfl) ?_
        refine LM.val (ov_saddL rfl rfl (by first | omega | (simp only [List.length_append, List.length_cons, List.length_nil]; omega))) ?_
        refine LM.val (ov_move rfl) ?_
        refine LM.val (ov_saddL rfl rfl (by first | omega | (simp only [List.length_append, List.length_cons, List.length_nil]; omega))) ?_
        refine LM.val (ov_saddL rfl rfl (by first | omega | (simp only [List.length_append, List.length_cons, List.length_nil]; omega))) ?_
        refine LM.val (ov_saddL rfl rfl (by first | omega | (simp only [List.length_append, List.length_cons, List.length_nil]; omega))) ?_
        refine LM.val (ov_assign rfl) ?_
        refine LM.nil ?_
        refine QM.sub (e' := [(0, _), (1, _), (6, _), (37, _), (38, _), (39, _)]) ⟨rfl, rfl, rfl, rfl, rfl, rfl, trivial⟩ ?_
        refine QM.block_normal ?_
        refine QM.then ?_
        refine wpM.region ?_
        refine LM.val (ov_add64 rfl rfl (by omega)) ?_
        refine LM.val (ov_move rfl) ?_
        refine LM.nil ?_
        refine QM.sub (e' := [(0, _), (1, _), (6, _), (37, _), (38, _), (39, _)]) ⟨rfl, rfl, rfl, rfl, rfl, rfl, trivial⟩ ?_
        refine QM.againK ((i + 1, txt ++ oneR r (ws.getD i default))) ⟨(by first | rfl | exact lk rfl (by congr 1; omega) | exact lk rfl (by simp)), (by first | rfl | exact lk rfl (by congr 1; omega) | exact lk rfl (by simp)), rfl, rfl, rfl, rfl, trivial⟩ (by (repeat' (first | exact SubM.nil _ | refine SubM.cons rfl ?_ | refine SubM.app ?_))) (fun _ h => h) ?_ ?_
        · exact ⟨by omega, by rw [bl_snoc (by omega), htxt, List.append_assoc], by simp [oneR, -List.getD_eq_getElem?_getD]; omega, take_all (by omega) hok (Classical.not_not.1 h7)⟩
        · first | omega | (dsimp only; omega)
     ·
      have hil2 : i = ws.length := (by omega); have htxt2 : txt ++ [35] ++ r = headT r ++ blT r ws ++ 35 :: r := (by rw [htxt, hil2, List.take_length]; simp); have hok2 : ∀ x ∈ ws, (textO x).2 = 0 := (by rw [hil2, List.take_length] at hok; exact hok); obtain ⟨l', hsc0, hsm⟩ := scan_remarks hr hok2 (by rw [← htxt2]; simp; omega); have hsc : scanO (txt ++ [35] ++ r) = (l', 0, 0) := (by rw [htxt2]; exact hsc0)
      refine wpM.exit ?_
      refine QM.then_exit ?_
      refine QM.then_exit ?_
      refine QM.block_hit ?_
      refine QM.then ?_
      refine wpM.seq ?_
      refine wpM.region ?_
      refine LM.val (ov_move rfl) ?_
      refine LM.val (ov_saddL rfl rfl (by first | omega | (simp only [List.length_append, List.length_cons, List.length_nil]; omega))) ?_
      refine LM.val (ov_move rfl) ?_
      refine LM.val (ov_saddL rfl rfl (by first | omega | (simp only [List.length_append, List.length_cons, List.length_nil]; omega))) ?_
      refine LM.callT (oc_call (enters_fn Tryd.func43 (by kernel_rfl) rfl) rfl) ScT.mono (fun w hm hc hg => tscan_spec w) ?_
      rw [hsc]; rintro u69 m69 ⟨ad69, n69, cap69, rfl, hn69, hs69⟩ -
      refine LM.val (ov_move rfl) ?_
      refine LM.val (ov_extract rfl rfl) ?_
      refine LM.val (ov_extract rfl rfl) ?_
      refine LM.val (ov_extract rfl rfl) ?_
      refine LM.val (ov_assign rfl) ?_
      refine LM.val (ov_assign rfl) ?_
      refine LM.val (ov_assign rfl) ?_
      refine LM.nil ?_
      refine QM.sub (e' := [(0, _), (11, _), (13, _)]) ⟨rfl, rfl, rfl, trivial⟩ ?_
      refine QM.then ?_
      refine wpM.seq ?_
      refine wpM.region ?_
      refine LM.val (ov_move rfl) ?_
      refine LM.val (ov_eql rfl rfl) ?_
      refine LM.val (ov_move rfl) ?_
      first | refine LM.splitD (t := 74) rfl (fun h9 => ?_) (fun h9 => ?_) | refine LM.splitB (t := 74) rfl (fun h9 => ?_) (fun h9 => ?_)
      ·
       refine LM.strip (t := 74) rfl rfl rfl ?_
       refine LM.val (ov_move rfl) ?_
       refine LM.strip (t := 74) rfl rfl rfl ?_
       refine LM.val (ov_move rfl) ?_
       refine LM.strip (t := 74) rfl rfl rfl ?_
       refine LM.callE (oc_call (enters_fn Tryd.func16 (by kernel_rfl) rfl) rfl) (fun w hm hc hg => wsame_spec false w hn69 (hs69.srM (by intro _; rfl) hm) hn (hl.ext hc) (show l'.length ≤ 1000000000 by have := sameW_len hsm; omega)) ?_
       refine LM.val (ov_pickT rfl rfl) ?_
       refine LM.val (ov_assign rfl) ?_
       refine LM.nil ?_
       refine QM.sub (e' := [(4, _)]) ⟨rfl, trivial⟩ ?_
       refine QM.then ?_
       refine wpM.ret ?_
       refine QM.leave (.inl rfl) [.tmp 4] Tryd.results10 rfl ?_
       intro w' hm' hc' hg'
       refine ⟨?_, hc'⟩; show Value.bool (sameW false l' ws) = _; rw [hsm]
      ·
       exfalso; simp at h9

end Go.Eng

