/- Setups: what is parsed may be; words of one that may be are parsed again; no program text in sight. No condition. -/
import Derived.Test.YtbndlommbpkijaaGreatDoorM3
set_option linter.unusedVariables false
set_option linter.unusedSimpArgs false
namespace Go.Eng
open Go Go.RowKit

theorem fix_ge {α : Type} {p : α → Bool} {xs : List α} (d : α) (h : 0 ≤ fixI p xs) : (fixI p xs).toNat < xs.length ∧ p (xs.getD (fixI p xs).toNat d) = true := by
  unfold fixI at h ⊢
  split at h
  · rename_i q
    rw [if_pos q, Int.toNat_natCast]
    have hlt : xs.findIdx p < xs.length := by
      obtain ⟨x, hx, hp⟩ := List.any_eq_true.1 q
      exact List.findIdx_lt_length_of_exists ⟨x, hx, hp⟩
    refine ⟨hlt, ?_⟩
    have e := getq d hlt
    rw [List.getElem?_eq_getElem hlt] at e
    rw [← Option.some.inj e]
    exact List.findIdx_getElem (w := hlt)
  · omega
theorem fix_lt {α : Type} {p : α → Bool} {xs : List α} (h : ¬ 0 ≤ fixI p xs) : xs.any p = false := by
  unfold fixI at h
  cases q : xs.any p with
  | false => rfl
  | true => rw [if_pos q] at h; omega
/-! what is parsed may be -/
theorem isL_lt {ws : List Wrd} {i : Nat} {e : Int} (h : isL ws i e = true) : i < ws.length ∧ e = 0 := by
  unfold isL at h; rw [Bool.or_eq_true] at h
  rcases h with h | h <;> exact isE_lt h
theorem lkF_zero {ws : List Wrd} : ∀ (f i : Nat) (e : Int) (ls : List CLk), (lkF ws f i e ls).2.2 = 0 → e = 0
  | 0, i, e, ls, h => by
    unfold lkF at h; split at h
    · rename_i q; exact (isL_lt q).2
    · exact h
  | f + 1, i, e, ls, h => by
    unfold lkF at h; split at h
    · rename_i q; exact (isL_lt q).2
    · exact h
theorem isP_zero {ws : List Wrd} {i : Nat} {e : Int} {ps : List PgC} (h : isP ws i e ps = true) : e = 0 := by
  unfold isP at h; simp only [Bool.and_eq_true, decide_eq_true_eq] at h; exact h.1
theorem pgF_zero {ws : List Wrd} : ∀ (f i : Nat) (e : Int) (ps : List PgC) (pl : List Int), (pgF ws f i e ps pl).2.2.2 = 0 → e = 0
  | 0, i, e, ps, pl, h => by
    unfold pgF at h; split at h
    · rename_i q; exact isP_zero q
    · exact h
  | f + 1, i, e, ps, pl, h => by
    unfold pgF at h; split at h
    · rename_i q; exact isP_zero q
    · exact h
theorem winL (n : Nat) (m : Int) : winB (n : Int) m = true ↔ 1 ≤ n ∧ (n : Int) ≤ m := by
  unfold winB; simp only [Bool.and_eq_true, decide_eq_true_eq]; omega
/-! words are parsed again -/
theorem isR_at {ws : List Wrd} {p j : Nat} {l : List Wrd} {k : Int} {t : List UInt8} {x : Wrd} (h : ws.drop p = l) (hj : j < l.length) (hx : l.getD j default = x) : isR ws (p + j) k t = (decide (x.k = k) && decide (x.t = t)) :=
  isR_of (drop_len h hj) ((drop_getD default h j).trans hx)
theorem need_hit {ws : List Wrd} {p : Nat} {k : Int} {t : List UInt8} (h : isR ws p k t = true) : needE ws p 0 k t = (p + 1, 0) := by
  unfold needE; rw [isE_0, if_pos h]
theorem fld_words {ws tl : List Wrd} {p : Nat} {t : List UInt8} {n m : Int} (h : ws.drop p = fldW t n ++ tl) (hw : winB n m = true) : fldE ws p 0 t m = (p + 2, 0, n) := by
  have h0 : isR ws p 1 t = true := by
    have := isR_at (j := 0) (k := 1) (t := t) (x := nmE t) h (by simp [fldW]) rfl
    rw [Nat.add_zero] at this; rw [this]; simp [nmE]
  have h1 : ws.getD (p + 1) default = noE n := (drop_getD default h 1).trans rfl
  have l1 : p + 1 < ws.length := drop_len h (j := 1) (by simp [fldW])
  unfold fldE; rw [need_hit h0]
  rw [num_e (by decide) l1 (by rw [h1]; rfl) (by rw [h1]; unfold hasB; rw [if_neg (by decide)]; exact hw), h1]
  rfl
theorem end_words {ws tl : List Wrd} {p : Nat} (h : ws.drop p = mk3 [59] :: tl) : needE ws p 0 3 [59] = (p + 1, 0) := by
  refine need_hit ?_
  have := isR_at (j := 0) (k := 3) (t := [59]) (x := mk3 [59]) h (by simp) rfl
  rw [Nat.add_zero] at this; rw [this]; rfl
theorem lin_words {ws tl : List Wrd} {p : Nat} {t : List UInt8} {n m : Int} (h : ws.drop p = linW t n ++ tl) (hw : winB n m = true) : linE ws p 0 t m = (p + 3, 0, n) := by
  have h1 : ws.drop p = fldW t n ++ (mk3 [59] :: tl) := by rw [h]; simp [linW]
  have hf := fld_words h1 hw
  have h2 : ws.drop (p + 2) = mk3 [59] :: tl := drop_add h1
  unfold linE; rw [hf]; simp only; rw [end_words h2]
theorem lck_words {ws tl : List Wrd} {p : Nat} {x : CLk} (h : ws.drop p = (fldW wSlice x.sl ++ fldW wCrit x.cr ++ (if x.sh then fldW wRead x.rd ++ fldW wWrite x.wr else []) ++ [mk3 [59]]) ++ tl) (hx : lokB x = true) :
    lckE ws x.sh p 0 = (p + (if x.sh then 9 else 5), 0, x) := by
  obtain ⟨sh, sl, cr, rd, wr⟩ := x
  unfold lokB at hx
  simp only [Bool.and_eq_true] at hx
  obtain ⟨⟨h1, h2⟩, h3⟩ := hx
  cases sh with
  | true =>
    rw [if_pos rfl, Bool.and_eq_true] at h1
    simp only at h h1 h2 h3 ⊢
    have e0 : ws.drop p = fldW wSlice sl ++ (fldW wCrit cr ++ (fldW wRead rd ++ (fldW wWrite wr ++ (mk3 [59] :: tl)))) := by rw [h]; simp
    have a := fld_words e0 h2
    have e1 : ws.drop (p + 2) = _ := drop_add e0
    have b := fld_words e1 h3
    have e2 : ws.drop (p + 2 + 2) = _ := drop_add e1
    have c := fld_words e2 h1.1
    have e3 : ws.drop (p + 2 + 2 + 2) = _ := drop_add e2
    have d := fld_words e3 h1.2
    have e4 : ws.drop (p + 2 + 2 + 2 + 2) = _ := drop_add e3
    have z := end_words e4
    have kA : lkA ws p 0 = (p + 2, 0, sl) := a
    have kB : lkB ws p 0 = (p + 2 + 2, 0, cr) := by unfold lkB; rw [kA]; exact b
    have kC : lkC ws true p 0 = (p + 2 + 2 + 2, 0, rd) := by unfold lkC; rw [if_pos rfl, kB]; exact c
    have kD : lkD ws true p 0 = (p + 2 + 2 + 2 + 2, 0, wr) := by unfold lkD; rw [if_pos rfl, kC]; exact d
    unfold lckE; rw [kA, kB, kC, kD]; simp only; rw [z]; rfl
  | false =>
    simp only [Bool.false_eq_true, if_false, Bool.and_eq_true, decide_eq_true_eq] at h h1 h2 h3 ⊢
    obtain ⟨rfl, rfl⟩ := h1
    have e0 : ws.drop p = fldW wSlice sl ++ (fldW wCrit cr ++ (mk3 [59] :: tl)) := by rw [h]; simp
    have a := fld_words e0 h2
    have e1 : ws.drop (p + 2) = _ := drop_add e0
    have b := fld_words e1 h3
    have e2 : ws.drop (p + 2 + 2) = _ := drop_add e1
    have z := end_words e2
    have kA : lkA ws p 0 = (p + 2, 0, sl) := a
    have kB : lkB ws p 0 = (p + 2 + 2, 0, cr) := by unfold lkB; rw [kA]; exact b
    have kC : lkC ws false p 0 = (p + 2 + 2, 0, 0) := by unfold lkC; rw [if_neg (by simp), kB]
    have kD : lkD ws false p 0 = (p + 2 + 2, 0, 0) := by unfold lkD; rw [if_neg (by simp), kC]
    unfold lckE; rw [kA, kB, kC, kD]; simp only; rw [z]
theorem gp_words {ws tl : List Wrd} : ∀ (ys gs : List Int) (p : Nat), ws.drop p = ys.flatMap (linW wGroup) ++ tl → ys.all (fun n => winB n 16) = true → gs.length + ys.length ≤ 4 → isR ws (p + (ys.flatMap (linW wGroup)).length) 1 wGroup = false → gpL ws p 0 gs = (gs ++ ys, p + (ys.flatMap (linW wGroup)).length, 0)
  | [], gs, p, h, _, _, hn => by
    rw [gpL_stop (by rw [isE_0]; simpa using hn)]; simp
  | y :: ys, gs, p, h, ha, hl, hn => by
    rw [List.all_cons, Bool.and_eq_true] at ha
    rw [List.length_cons] at hl
    have h1 : ws.drop p = linW wGroup y ++ (ys.flatMap (linW wGroup) ++ tl) := by rw [h, List.flatMap_cons, List.append_assoc]
    have h0 : isE ws p 0 1 wGroup = true := by
      have := isR_at (j := 0) (k := 1) (t := wGroup) (x := nmE wGroup) h1 (by simp [linW, fldW]) rfl
      rw [Nat.add_zero] at this; rw [isE_0, this]; rfl
    have hll : (linW wGroup y).length = 3 := rfl
    rw [gpL_next h0 (by omega), lin_words h1 ha.1]
    simp only
    have hfl : ((y :: ys).flatMap (linW wGroup)).length = 3 + (ys.flatMap (linW wGroup)).length := by rw [List.flatMap_cons, List.length_append]; rfl
    rw [hfl] at hn ⊢
    rw [gp_words ys (gs ++ [y]) (p + 3) (drop_add h1) ha.2 (by simp; omega) (by rw [Nat.add_assoc]; exact hn)]
    simp [Nat.add_assoc]
theorem lckW_len (x : CLk) : (lckW x).length = 1 + (if x.sh then 9 else 5) := by
  unfold lckW fldW; cases x.sh <;> simp
theorem lk_words {ws tl : List Wrd} : ∀ (ys ls : List CLk) (p : Nat), ws.drop p = ys.flatMap lckW ++ tl → ys.all lokB = true → ls.length + ys.length ≤ 8 → isL ws (p + (ys.flatMap lckW).length) 0 = false → lkL ws p 0 ls = (ls ++ ys, p + (ys.flatMap lckW).length, 0)
  | [], ls, p, h, _, _, hn => by
    rw [lkL_stop (by simpa using hn)]; simp
  | y :: ys, ls, p, h, ha, hl, hn => by
    rw [List.all_cons, Bool.and_eq_true] at ha
    rw [List.length_cons] at hl
    have h1 : ws.drop p = lckW y ++ (ys.flatMap lckW ++ tl) := by rw [h, List.flatMap_cons, List.append_assoc]
    have hS : isE ws p 0 1 wShared = y.sh := by
      have := isR_at (j := 0) (k := 1) (t := wShared) (x := nmE (if y.sh then wShared else wLock)) h1 (by simp [lckW]) rfl
      rw [Nat.add_zero] at this; rw [isE_0, this]; cases y.sh <;> rfl
    have h0 : isL ws p 0 = true := by
      have := isR_at (j := 0) (k := 1) (t := wLock) (x := nmE (if y.sh then wShared else wLock)) h1 (by simp [lckW]) rfl
      rw [Nat.add_zero] at this
      unfold isL; rw [hS, isE_0, this]; cases y.sh <;> rfl
    have h2 : ws.drop (p + 1) = (fldW wSlice y.sl ++ fldW wCrit y.cr ++ (if y.sh then fldW wRead y.rd ++ fldW wWrite y.wr else []) ++ [mk3 [59]]) ++ (ys.flatMap lckW ++ tl) := by
      rw [← List.drop_drop, h1]; rfl
    have hc := lck_words h2 ha.1
    rw [lkL_next h0 (by omega), hS, hc]
    simp only
    have hfl : ((y :: ys).flatMap lckW).length = (lckW y).length + (ys.flatMap lckW).length := by rw [List.flatMap_cons, List.length_append]
    rw [hfl] at hn ⊢
    have h3 := drop_add h1
    rw [lckW_len] at h3 hn ⊢
    rw [show p + 1 + (if y.sh = true then 9 else 5) = p + (1 + (if y.sh = true then 9 else 5)) by omega]
    rw [lk_words ys (ls ++ [y]) _ h3 ha.2 (by simp; omega) (by rw [Nat.add_assoc]; exact hn)]
    simp [Nat.add_assoc]
theorem pg_words {ws tl : List Wrd} : ∀ (ys ps : List PgC) (pl : List Int) (p : Nat), ws.drop p = ys.flatMap (fun p => wordsF p.fv p.xs) ++ tl → ys.all (fun p => mayB p.xs) = true → 0 < ps.length + ys.length → ps.length + ys.length ≤ 8 → isR ws (p + (ys.flatMap (fun p => wordsF p.fv p.xs)).length) 1 wProg = false →
    ∃ pl', pgL ws p 0 ps pl = (ps ++ ys, pl', p + (ys.flatMap (fun p => wordsF p.fv p.xs)).length, 0)
  | [], ps, pl, p, h, _, h0, _, hn => by
    refine ⟨pl, ?_⟩
    have h1 : ¬ ps.length = 0 := by rw [List.length_nil] at h0; omega
    rw [List.flatMap_nil, List.length_nil, Nat.add_zero] at hn
    rw [pgL_stop (by unfold isP; rw [isE_0, decide_eq_false h1, hn]; rfl)]; simp
  | y :: ys, ps, pl, p, h, ha, h0, hl, hn => by
    rw [List.all_cons, Bool.and_eq_true] at ha
    rw [List.length_cons] at hl
    have h1 : ws.drop p = wordsF y.fv y.xs ++ (ys.flatMap (fun p => wordsF p.fv p.xs) ++ tl) := by rw [h, List.flatMap_cons, List.append_assoc]
    have hP : isP ws p 0 ps = true := by
      have := isR_at (j := 0) (k := 1) (t := wProg) (x := nmE wProg) h1 (by rw [words_cons]; simp) (by rw [words_cons]; rfl)
      rw [Nat.add_zero] at this; unfold isP; rw [isE_0, this]; simp [nmE]
    have hpar := parse_words h1 ha.1
    rw [pgL_next hP (by omega), hpar]
    simp only [Int.toNat_natCast]
    have hfl : ((y :: ys).flatMap (fun p => wordsF p.fv p.xs)).length = (wordsF y.fv y.xs).length + (ys.flatMap (fun p => wordsF p.fv p.xs)).length := by rw [List.flatMap_cons, List.length_append]
    rw [hfl] at hn ⊢
    obtain ⟨pl', hp⟩ := pg_words ys (ps ++ [prC (y.fv, y.xs, ((p + (wordsF y.fv y.xs).length : Nat) : Int), 0)]) (pl ++ [(p : Int)]) (p + (wordsF y.fv y.xs).length) (drop_add h1) ha.2 (by simp; omega) (by simp; omega) (by rw [Nat.add_assoc]; exact hn)
    refine ⟨pl', ?_⟩
    rw [hp]
    have e : prC (y.fv, y.xs, ((p + (wordsF y.fv y.xs).length : Nat) : Int), 0) = y := rfl
    rw [e]; simp [Nat.add_assoc]
theorem mayS_inv {s : StC} (h : mayS s = true) : winB s.cr 4 = true ∧ winB s.gr 8 = true ∧ (1 ≤ s.gs.length ∧ s.gs.length ≤ 4) ∧ s.gs.all (fun n => winB n 16) = true ∧ s.ls.length ≤ 8 ∧ s.ls.all lokB = true ∧ (1 ≤ s.ps.length ∧ s.ps.length ≤ 8) ∧ s.ps.any (misB s.ls s.ps.length) = false := by
  unfold mayS at h
  simp only [Bool.and_eq_true, decide_eq_true_eq, Bool.not_eq_true', winL] at h
  obtain ⟨⟨⟨⟨⟨a, b⟩, ⟨c, d⟩⟩, ⟨e, f⟩⟩, g⟩, k⟩ := h
  exact ⟨a, b, ⟨c.1, by omega⟩, d, e, f, ⟨g.1, by omega⟩, k⟩
theorem mayS_progs {s : StC} (h : mayS s = true) : s.ps.all (fun p => mayB p.xs) = true := by
  have h1 := (mayS_inv h).2.2.2.2.2.2.2
  rw [List.all_eq_true]
  intro p hp
  have h2 := List.any_eq_false.1 h1 p hp
  have h3 : (ckO p.fv p.xs s.ls (s.ps.length : Int)).2 = 0 := by
    unfold misB at h2; simpa using h2
  exact (ck_zero h3).1
theorem head_ls {s : List CLk} {tl : List Wrd} {t : List UInt8} (h1 : t ≠ wShared) (h2 : t ≠ wLock) : ∀ {ws : List Wrd} {p : Nat}, ws.drop p = s.flatMap lckW ++ tl → (s = [] → isR ws p 1 t = false) → isR ws p 1 t = false := by
  intro ws p h h0
  cases s with
  | nil => exact h0 rfl
  | cons y ys =>
    have := isR_at (j := 0) (k := 1) (t := t) (x := nmE (if y.sh then wShared else wLock)) h (by simp [lckW]) (by simp [lckW])
    rw [Nat.add_zero] at this; rw [this]
    cases y.sh
    · show (decide ((1 : Int) = 1) && decide (wLock = t)) = false
      rw [show decide (wLock = t) = false from decide_eq_false (fun q => h2 q.symm)]; rfl
    · show (decide ((1 : Int) = 1) && decide (wShared = t)) = false
      rw [show decide (wShared = t) = false from decide_eq_false (fun q => h1 q.symm)]; rfl
theorem head_ps {s : List PgC} {tl : List Wrd} {t : List UInt8} (h1 : t ≠ wProg) (h0 : 0 < s.length) : ∀ {ws : List Wrd} {p : Nat}, ws.drop p = s.flatMap (fun p => wordsF p.fv p.xs) ++ tl → isR ws p 1 t = false := by
  intro ws p h
  cases s with
  | nil => simp at h0
  | cons y ys =>
    have e : (y :: ys).flatMap (fun p => wordsF p.fv p.xs) ++ tl = wordsF y.fv y.xs ++ (ys.flatMap (fun p => wordsF p.fv p.xs) ++ tl) := by rw [List.flatMap_cons, List.append_assoc]
    rw [e, words_cons] at h
    have := isR_at (j := 0) (k := 1) (t := t) (x := nmE wProg) h (by simp) rfl
    rw [Nat.add_zero] at this; rw [this]
    show (decide ((1 : Int) = 1) && decide (wProg = t)) = false
    rw [show decide (wProg = t) = false from decide_eq_false (fun q => h1 q.symm)]; rfl
theorem stpR_words {ws tl : List Wrd} {p : Nat} {s : StC} (h : ws.drop p = setW s ++ tl) (hm : mayS s = true) (hn : isR ws (p + (setW s).length) 1 wProg = false) : stpR ws p = (s, ((p + (setW s).length : Nat) : Int), 0) := by
  obtain ⟨a, b, c, d, e, f, g, k⟩ := mayS_inv hm
  have hp := mayS_progs hm
  obtain ⟨cr, gr, gs, ls, ps⟩ := s
  simp only at a b c d e f g k hp
  unfold setW at h hn ⊢
  simp only at h hn ⊢
  have e0 : ws.drop p = linW wCores cr ++ (linW wGrain gr ++ (gs.flatMap (linW wGroup) ++ (ls.flatMap lckW ++ (ps.flatMap (fun p => wordsF p.fv p.xs) ++ tl)))) := by rw [h]; simp
  have e1 : ws.drop (p + 3) = _ := drop_add e0
  have e2 : ws.drop (p + 3 + 3) = _ := drop_add e1
  have e3 := drop_add e2
  have e4 := drop_add e3
  have hL3 : ∀ (t : List UInt8), t ≠ wShared → t ≠ wLock → t ≠ wProg → isR ws (p + 3 + 3 + (gs.flatMap (linW wGroup)).length) 1 t = false := fun t h1 h2 h3 =>
    head_ls h1 h2 e3 (fun q => by subst q; exact head_ps h3 g.1 (by simpa using e3))
  have kA : sA ws p = (p + 3, 0, cr) := lin_words e0 a
  have kB : sB2 ws p = (p + 3 + 3, 0, gr) := by unfold sB2; rw [kA]; exact lin_words e1 b
  have kG : sG ws p = (gs, p + 3 + 3 + (gs.flatMap (linW wGroup)).length, 0) := by
    unfold sG; rw [kB]
    show gpO ws (p + 3 + 3) 0 = _
    cases gs with
    | nil => simp at c
    | cons y ys =>
      rw [List.all_cons, Bool.and_eq_true] at d
      have e2' : ws.drop (p + 3 + 3) = linW wGroup y ++ (ys.flatMap (linW wGroup) ++ (ls.flatMap lckW ++ (ps.flatMap (fun p => wordsF p.fv p.xs) ++ tl))) := by rw [e2, List.flatMap_cons, List.append_assoc]
      have hg := hL3 wGroup (by decide) (by decide) (by decide)
      have hfl : ((y :: ys).flatMap (linW wGroup)).length = 3 + (ys.flatMap (linW wGroup)).length := by rw [List.flatMap_cons, List.length_append]; rfl
      rw [hfl] at hg ⊢
      unfold gpO; rw [lin_words e2' d.1]
      simp only
      rw [gp_words ys [y] (p + 3 + 3 + 3) (drop_add e2') d.2 (by simpa [Nat.add_comm] using c.2) (by rw [← hg, Nat.add_assoc (p + 3 + 3)])]
      rw [List.singleton_append, Nat.add_assoc (p + 3 + 3)]
  have kL : sL ws p = (ls, p + 3 + 3 + (gs.flatMap (linW wGroup)).length + (ls.flatMap lckW).length, 0) := by
    unfold sL; rw [kG]
    simp only
    rw [lk_words ls [] _ e3 f (by simpa using e) (by unfold isL; rw [isE_0, isE_0, head_ps (by decide) g.1 e4, head_ps (by decide) g.1 e4]; rfl)]
    simp
  have hlen : (linW wCores cr ++ linW wGrain gr ++ gs.flatMap (linW wGroup) ++ ls.flatMap lckW ++ ps.flatMap (fun p => wordsF p.fv p.xs)).length = 3 + 3 + (gs.flatMap (linW wGroup)).length + (ls.flatMap lckW).length + (ps.flatMap (fun p => wordsF p.fv p.xs)).length := by
    simp only [List.length_append]; rfl
  rw [hlen] at hn ⊢
  obtain ⟨pl', hpg⟩ := pg_words ps [] [] _ e4 hp (by simp only [List.length_nil]; omega) (by simpa using g.2) (by rw [← hn]; congr 1; omega)
  have kP : sP ws p = (ps, pl', p + (3 + 3 + (gs.flatMap (linW wGroup)).length + (ls.flatMap lckW).length + (ps.flatMap (fun p => wordsF p.fv p.xs)).length), 0) := by
    unfold sP; rw [kL]; simp only; rw [hpg]; simp [Nat.add_assoc]
  have hmis : ¬ 0 ≤ misI ls ps := by unfold misI; rw [fix_miss k]; decide
  unfold stpR
  rw [kA, kB, kG, kL, kP]
  simp only
  rw [if_neg (by simp), if_neg hmis]
/-! how many words -/
theorem setW_text (s : StC) : ∀ x ∈ setW s, x.t.length ≤ 7 := by
  have hf : ∀ (t : List UInt8) (n : Int), t.length ≤ 7 → ∀ x ∈ fldW t n, x.t.length ≤ 7 := by
    intro t n ht x hx
    simp only [fldW, List.mem_cons, List.not_mem_nil, or_false] at hx
    rcases hx with rfl | rfl
    · exact ht
    · simp [noE]
  have hl : ∀ (t : List UInt8) (n : Int), t.length ≤ 7 → ∀ x ∈ linW t n, x.t.length ≤ 7 := by
    intro t n ht x hx
    simp only [linW, List.mem_append, List.mem_cons, List.not_mem_nil, or_false] at hx
    rcases hx with hx | rfl
    · exact hf t n ht x hx
    · simp [mk3]
  intro x hx
  simp only [setW, List.mem_append, List.mem_flatMap] at hx
  rcases hx with (((hx | hx) | ⟨g, _, hx⟩) | ⟨l, _, hx⟩) | ⟨p, _, hx⟩
  · exact hl _ _ (by decide) x hx
  · exact hl _ _ (by decide) x hx
  · exact hl _ _ (by decide) x hx
  · simp only [lckW, List.mem_cons, List.mem_append, List.not_mem_nil, or_false] at hx
    rcases hx with rfl | ((hx | hx) | hx) | rfl
    · cases l.sh <;> simp [nmE]
    · exact hf _ _ (by decide) x hx
    · exact hf _ _ (by decide) x hx
    · split at hx
      · rcases List.mem_append.1 hx with hx | hx
        · exact hf _ _ (by decide) x hx
        · exact hf _ _ (by decide) x hx
      · cases hx
    · simp [mk3]
  · exact words_text p.fv p.xs x hx
end Go.Eng
set_option linter.unusedVariables false
set_option linter.unusedSimpArgs false
namespace Go.Eng
open Go Go.Proofs Go.RowKit

theorem row_sr {α : Type} {f : α → List Value} {s : Nat} {xs : List α} {b : Nat} {cs : Array Value} {E : TypeId} {fz : Nat × Nat} {w : World} (n : Nat) (h : w.heap[b]? = some (.cells cs E fz)) (hn : n = xs.length) (hcs : cs = arr f xs []) (hf : ∀ a, (f a).length = s) : Sr f s xs (.slice (some ⟨b, 0, none⟩) n n) w := by
  subst hn; exact Sr.row h hcs rfl (Nat.le_refl _) hf
set_option maxRecDepth 100000 in
theorem index_int {xs : List Int} {ad : Option Addr} {n cap : Nat} (x : Int) (w : World) (hn : n = xs.length) (hl : Sr fI 1 xs (.slice ad n cap) w) (hx : xs.length ≤ 1000) : Ret Tryz.prog 170 #[.slice ad n cap, .int .i64 x] w (fun v w' => v = .int .i64 (fixI (fun y => decide (x = y)) xs) ∧ Ext w w') := by
 refine Ret.enterM (l := [.slice ad n cap, .int .i64 x]) Tryz.func170 rfl Tryz.ntmps170 rfl ([]) (no) (Mem.nil w) ?_
 refine wpM.seq ?_
 refine wpM.region ?_
 refine LM.val (ov_assign rfl) ?_
 refine LM.nil ?_
 refine QM.sub (e' := [(0, _), (1, _)]) ⟨rfl, rfl, trivial⟩ ?_
 refine QM.then ?_
 refine wpM.seq ?_
 refine wpM.seq ?_
 refine wpM.region ?_
 refine LM.val (ov_move rfl) ?_
 refine LM.val (ov_len Tryz.underlying26 rfl) ?_
 refine LM.val (ov_move rfl) ?_
 refine LM.nil ?_
 refine QM.sub (e' := [(0, _), (1, _), (7, _), (8, _)]) ⟨rfl, rfl, rfl, rfl, trivial⟩ ?_
 refine QM.then ?_
 refine wpM.block ?_
 refine wpM.loopK0 (α := Nat) (fun i => [(8, .int .i64 (i : Nat))]) [(0, _), (1, _), (7, _)] (fun i => []) (fun i => i ≤ xs.length ∧ (xs.take i).any (fun y => decide (x = y)) = false) (fun i => xs.length - i) (0) ⟨(by first | rfl | exact lk rfl (by congr 1; omega) | exact lk rfl (by simp)), rfl, rfl, rfl, trivial⟩ (by (repeat' (first | exact SubM.nil _ | refine SubM.cons rfl ?_ | refine SubM.app ?_))) ⟨Nat.zero_le _, rfl⟩ ?_
 rintro i ⟨hi, ha⟩
 change wpM _ _ _ _ _ _ _ ([]) _ _ _
 refine wpM.seq ?_
 refine wpM.region ?_
 refine LM.val (ov_lss rfl rfl) ?_
 refine LM.nil ?_
 refine QM.sub (e' := [(0, _), (1, _), (7, _), (8, _), (9, _)]) ⟨rfl, rfl, rfl, rfl, rfl, trivial⟩ ?_
 refine QM.then ?_
 refine wpM.seq ?_
 refine wpM.condD rfl (fun h1 => ?_) (fun h1 => ?_)
 ·
  refine wpM.skip ?_
  refine QM.then ?_
  refine wpM.seq ?_
  refine wpM.block ?_
  refine wpM.seq ?_
  refine wpM.region ?_
  refine LM.val (ov_move rfl) ?_
  refine LM.val (ov_assign rfl) ?_
  refine LM.nil ?_
  refine QM.sub (e' := [(0, _), (1, _), (5, _), (7, _), (8, _)]) ⟨rfl, rfl, rfl, rfl, rfl, trivial⟩ ?_
  refine QM.then ?_
  refine wpM.seq ?_
  refine wpM.region ?_
  refine LM.val (ov_move rfl) ?_
  refine LM.val (ov_move rfl) ?_
  refine LM.val (ov_move rfl) ?_
  refine LM.val (ov_idxSN (by first | exact Sr.spt (by assumption) | exact Sl.spt (by assumption)) Tryz.underlying26 Tryz.sizeOf3 rfl rfl (by omega)) ?_
  first | refine LM.rd (om_sl1 (by assumption) (by intro _; rfl) Tryz.isAgg3 rfl rfl (by exact getq 0 (by first | omega | (simp only [List.length_set, List.length_append, List.length_cons, List.length_nil]; omega))) (by rfl)) ?_ | refine LM.rdC (om_sr1 (by assumption) Tryz.isAgg3 rfl rfl (by exact getq 0 (by first | omega | (simp only [List.length_set, List.length_append, List.length_cons, List.length_nil]; omega))) (by rfl) id) ?_ | refine LM.rd (om_ld Tryz.isAgg3 rfl rfl) ?_
  refine LM.val (ov_eql rfl rfl) ?_
  refine LM.nil ?_
  refine QM.sub (e' := [(0, _), (1, _), (5, _), (7, _), (8, _), (16, _)]) ⟨rfl, rfl, rfl, rfl, rfl, rfl, trivial⟩ ?_
  refine QM.then ?_
  refine wpM.condD rfl (fun h2 => ?_) (fun h2 => ?_)
  ·
   refine wpM.seq ?_
   refine wpM.region ?_
   refine LM.val (ov_move rfl) ?_
   refine LM.val (ov_assign rfl) ?_
   refine LM.nil ?_
   refine QM.sub (e' := [(4, _)]) ⟨rfl, trivial⟩ ?_
   refine QM.then ?_
   refine wpM.ret ?_
   refine QM.block_ret ?_
   refine QM.then_ret ?_
   refine QM.then_ret ?_
   refine QM.block_ret ?_
   refine QM.then_ret ?_
   refine QM.leave (.inl rfl) [.tmp 4] Tryz.results170 rfl ?_
   intro w' hm' hc' hg'
   exact ⟨by show Value.int .i64 _ = _; rw [fix_hit 0 ha (by omega) (decide_eq_true h2)], hc'⟩
  ·
   refine wpM.skip ?_
   refine QM.block_normal ?_
   refine QM.then ?_
   refine wpM.region ?_
   refine LM.val (ov_add64 rfl rfl (by omega)) ?_
   refine LM.val (ov_move rfl) ?_
   refine LM.nil ?_
   refine QM.sub (e' := [(0, _), (1, _), (7, _), (8, _)]) ⟨rfl, rfl, rfl, rfl, trivial⟩ ?_
   refine QM.againK (i + 1) ⟨(by first | rfl | exact lk rfl (by congr 1; omega) | exact lk rfl (by simp)), rfl, rfl, rfl, trivial⟩ (by (repeat' (first | exact SubM.nil _ | refine SubM.cons rfl ?_ | refine SubM.app ?_))) (fun _ h => h) ?_ ?_
   · exact ⟨by omega, by rw [any_snoc 0 (by omega), ha, Bool.false_or]; exact decide_eq_false h2⟩
   · omega
 ·
  refine wpM.exit ?_
  refine QM.then_exit ?_
  refine QM.then_exit ?_
  refine QM.block_hit ?_
  refine QM.then ?_
  refine wpM.seq ?_
  refine wpM.region ?_
  refine LM.val (ov_assign rfl) ?_
  refine LM.nil ?_
  refine QM.sub (e' := [(4, _)]) ⟨rfl, trivial⟩ ?_
  refine QM.then ?_
  refine wpM.ret ?_
  refine QM.leave (.inl rfl) [.tmp 4] Tryz.results170 rfl ?_
  intro w' hm' hc' hg'
  have hil : i = xs.length := (by omega); subst hil; rw [List.take_length] at ha; exact ⟨by show Value.int .i64 _ = _; rw [fix_miss ha], hc'⟩

set_option maxRecDepth 100000 in
theorem contains_int {xs : List Int} {ad : Option Addr} {n cap : Nat} (x : Int) (w : World) (hn : n = xs.length) (hl : Sr fI 1 xs (.slice ad n cap) w) (hx : xs.length ≤ 1000) : Ret Tryz.prog 154 #[.slice ad n cap, .int .i64 x] w (fun v w' => v = .bool (xs.any (fun y => decide (x = y))) ∧ Ext w w') := by
 refine Ret.enterM (l := [.slice ad n cap, .int .i64 x]) Tryz.func154 rfl Tryz.ntmps154 rfl ([]) (no) (Mem.nil w) ?_
 refine wpM.seq ?_
 refine wpM.region ?_
 refine LM.val (ov_assign rfl) ?_
 refine LM.nil ?_
 refine QM.sub (e' := [(0, _), (1, _)]) ⟨rfl, rfl, trivial⟩ ?_
 refine QM.then ?_
 refine wpM.seq ?_
 refine wpM.region ?_
 refine LM.val (ov_move rfl) ?_
 refine LM.val (ov_move rfl) ?_
 refine LM.callE (oc_call (enters_fn Tryz.func170 (by kernel_rfl) rfl) rfl) (fun w hm hc hg => index_int x w hn (hl.ext hc) hx) ?_
 refine LM.val (ov_geq rfl rfl) ?_
 refine LM.val (ov_assign rfl) ?_
 refine LM.nil ?_
 refine QM.sub (e' := [(4, _)]) ⟨rfl, trivial⟩ ?_
 refine QM.then ?_
 refine wpM.ret ?_
 refine QM.leave (.inl rfl) [.tmp 4] Tryz.results154 rfl ?_
 intro w' hm' hc' hg'
 exact ⟨by show Value.bool _ = _; rw [← fix_pos], hc'⟩

set_option maxRecDepth 100000 in
theorem takes_spec (k : Int) (w : World) : Ret Tryz.prog 151 #[.int .i64 k] w (fun v w' => v = .bool (takesB k) ∧ Ext w w') := by
 refine Ret.enterM (l := [.int .i64 k]) Tryz.func151 rfl Tryz.ntmps151 rfl ([]) (no) (Mem.nil w) ?_
 refine wpM.seq ?_
 refine wpM.region ?_
 refine LM.val (ov_assign rfl) ?_
 refine LM.nil ?_
 refine QM.sub (e' := [(0, _)]) ⟨rfl, trivial⟩ ?_
 refine QM.then ?_
 refine wpM.seq ?_
 refine wpM.region ?_
 refine LM.row (vs := [_, _, _, _]) Tryz.underlying26 Tryz.sizeOf3 Tryz.zeroValue3 rfl rfl rfl rfl rfl rfl (fun b3 hb3 => ?_)
 refine LM.val (ov_move rfl) ?_
 refine LM.callE (oc_call (enters_fn Tryz.func154 (by kernel_rfl) rfl) rfl) (fun w hm hc hg => contains_int (xs := [2, 3, 4, 5]) k w rfl (row_sr 4 (hm.at b3) rfl rfl (fun _ => rfl)) (by decide)) ?_
 refine LM.val (ov_assign rfl) ?_
 refine LM.nil ?_
 refine QM.sub (e' := [(2, _)]) ⟨rfl, trivial⟩ ?_
 refine QM.then ?_
 refine wpM.ret ?_
 refine QM.leave (.inl rfl) [.tmp 2] Tryz.results151 rfl ?_
 intro w' hm' hc' hg'
 exact ⟨by show Value.bool _ = _; rw [takes_row], hc'⟩

set_option maxRecDepth 100000 in
theorem passes_spec (o : COp) (w : World) : Ret Tryz.prog 132 #[.agg (fO o).toArray] w (fun v w' => v = .bool (passB o.k) ∧ Ext w w') := by
 refine Ret.enterM (l := [.agg (fO o).toArray]) Tryz.func132 rfl Tryz.ntmps132 rfl ([]) (no) (Mem.nil w) ?_
 refine wpM.seq ?_
 refine wpM.region ?_
 refine LM.box rfl rfl (fun b1 hb1 => ?_)
 refine LM.val (ov_assign rfl) ?_
 refine LM.nil ?_
 refine QM.sub (e' := [(1, _)]) ⟨rfl, trivial⟩ ?_
 refine QM.then ?_
 refine wpM.seq ?_
 refine wpM.region ?_
 refine LM.row (vs := [_, _, _, _]) Tryz.underlying26 Tryz.sizeOf3 Tryz.zeroValue3 rfl rfl rfl rfl rfl rfl (fun b3 hb3 => ?_)
 refine LM.val (ov_field Tryz.underlying135 rfl Tryz.sizeOf3 rfl (k := 0) rfl rfl) ?_
 first | refine LM.rd (om_ld Tryz.isAgg3 rfl rfl) ?_
 refine LM.callE (oc_call (enters_fn Tryz.func154 (by kernel_rfl) rfl) rfl) (fun w hm hc hg => contains_int (xs := [1, 7, 8, 11]) o.k w rfl (row_sr 4 (hm.at b3) rfl rfl (fun _ => rfl)) (by decide)) ?_
 refine LM.val (ov_assign rfl) ?_
 refine LM.nil ?_
 refine QM.sub (e' := [(2, _)]) ⟨rfl, trivial⟩ ?_
 refine QM.then ?_
 refine wpM.ret ?_
 refine QM.leave (.inl rfl) [.tmp 2] Tryz.results132 rfl ?_
 intro w' hm' hc' hg'
 exact ⟨by show Value.bool _ = _; rw [pass_row], hc'⟩

set_option maxRecDepth 100000 in
theorem ixf_pass {xs : List COp} {ad : Option Addr} {n cap : Nat} (w : World) (hn : n = xs.length) (hl : Sr fO 3 xs (.slice ad n cap) w) (hx : xs.length ≤ 1000000) : Ret Tryz.prog 153 #[.slice ad n cap, .func (.func 132) #[] #[]] w (fun v w' => v = .int .i64 (fixI (fun o => passB o.k) xs) ∧ Ext w w') := by
 refine Ret.enterM (l := [.slice ad n cap, .func (.func 132) #[] #[]]) Tryz.func153 rfl Tryz.ntmps153 rfl ([]) (no) (Mem.nil w) ?_
 refine wpM.seq ?_
 refine wpM.region ?_
 refine LM.val (ov_assign rfl) ?_
 refine LM.nil ?_
 refine QM.sub (e' := [(0, _), (1, _)]) ⟨rfl, rfl, trivial⟩ ?_
 refine QM.then ?_
 refine wpM.seq ?_
 refine wpM.seq ?_
 refine wpM.region ?_
 refine LM.val (ov_move rfl) ?_
 refine LM.val (ov_len Tryz.underlying85 rfl) ?_
 refine LM.val (ov_move rfl) ?_
 refine LM.nil ?_
 refine QM.sub (e' := [(0, _), (1, _), (7, _), (8, _)]) ⟨rfl, rfl, rfl, rfl, trivial⟩ ?_
 refine QM.then ?_
 refine wpM.block ?_
 refine wpM.loopK0 (α := Nat) (fun i => [(8, .int .i64 (i : Nat))]) [(0, _), (1, _), (7, _)] (fun i => []) (fun i => i ≤ xs.length ∧ (xs.take i).any (fun o => passB o.k) = false) (fun i => xs.length - i) (0) ⟨(by first | rfl | exact lk rfl (by congr 1; omega) | exact lk rfl (by simp)), rfl, rfl, rfl, trivial⟩ (by (repeat' (first | exact SubM.nil _ | refine SubM.cons rfl ?_ | refine SubM.app ?_))) ⟨Nat.zero_le _, rfl⟩ ?_
 rintro i ⟨hi, ha⟩
 change wpM _ _ _ _ _ _ _ ([]) _ _ _
 refine wpM.seq ?_
 refine wpM.region ?_
 refine LM.val (ov_lss rfl rfl) ?_
 refine LM.nil ?_
 refine QM.sub (e' := [(0, _), (1, _), (7, _), (8, _), (9, _)]) ⟨rfl, rfl, rfl, rfl, rfl, trivial⟩ ?_
 refine QM.then ?_
 refine wpM.seq ?_
 refine wpM.condD rfl (fun h1 => ?_) (fun h1 => ?_)
 ·
  refine wpM.skip ?_
  refine QM.then ?_
  refine wpM.seq ?_
  refine wpM.block ?_
  refine wpM.seq ?_
  refine wpM.region ?_
  refine LM.val (ov_move rfl) ?_
  refine LM.val (ov_assign rfl) ?_
  refine LM.nil ?_
  refine QM.sub (e' := [(0, _), (1, _), (5, _), (7, _), (8, _)]) ⟨rfl, rfl, rfl, rfl, rfl, trivial⟩ ?_
  refine QM.then ?_
  refine wpM.seq ?_
  refine wpM.region ?_
  refine LM.val (ov_move rfl) ?_
  refine LM.val (ov_move rfl) ?_
  refine LM.val (ov_move rfl) ?_
  refine LM.val (ov_idxSN (by first | exact Sr.spt (by assumption) | exact Sl.spt (by assumption)) Tryz.underlying85 Tryz.sizeOf135 rfl rfl (by omega)) ?_
  first | refine LM.rd (om_slA (by assumption) (by intro _; rfl) Tryz.isAgg135 Tryz.sizeOf135 rfl (by exact getq default (by first | omega | (simp only [List.length_set, List.length_append, List.length_cons, List.length_nil]; omega)))) ?_ | refine LM.rdC (om_srEA (by assumption) (by intro _; rfl) Tryz.isAgg135 Tryz.sizeOf135 rfl (by exact getq default (by first | omega | (simp only [List.length_set, List.length_append, List.length_cons, List.length_nil]; omega))) id) ?_ | refine LM.rd (om_ldW Tryz.isAgg135 Tryz.sizeOf135 rfl rfl) ?_ | refine LM.rd (om_ldA Tryz.isAgg135 Tryz.sizeOf135 rfl (vs := [_, _, _]) rfl ⟨rfl, rfl, rfl, trivial⟩) ?_
  refine LM.callE (oc_callV rfl (enters_fn Tryz.func132 (by kernel_rfl) rfl) rfl) (fun w hm hc hg => passes_spec _ w) ?_
  refine LM.nil ?_
  refine QM.sub (e' := [(0, _), (1, _), (5, _), (7, _), (8, _), (16, _)]) ⟨rfl, rfl, rfl, rfl, rfl, rfl, trivial⟩ ?_
  refine QM.then ?_
  first | refine wpM.condD rfl (fun h2 => ?_) (fun h2 => ?_) | refine wpM.condB rfl (fun h2 => ?_) (fun h2 => ?_)
  ·
   refine wpM.seq ?_
   refine wpM.region ?_
   refine LM.val (ov_move rfl) ?_
   refine LM.val (ov_assign rfl) ?_
   refine LM.nil ?_
   refine QM.sub (e' := [(4, _)]) ⟨rfl, trivial⟩ ?_
   refine QM.then ?_
   refine wpM.ret ?_
   refine QM.block_ret ?_
   refine QM.then_ret ?_
   refine QM.then_ret ?_
   refine QM.block_ret ?_
   refine QM.then_ret ?_
   refine QM.leave (.inl rfl) [.tmp 4] Tryz.results153 rfl ?_
   intro w' hm' hc' hg'
   exact ⟨by show Value.int .i64 _ = _; rw [fix_hit default ha (by omega) (by simpa using h2)], hc'⟩
  ·
   refine wpM.skip ?_
   refine QM.block_normal ?_
   refine QM.then ?_
   refine wpM.region ?_
   refine LM.val (ov_add64 rfl rfl (by omega)) ?_
   refine LM.val (ov_move rfl) ?_
   refine LM.nil ?_
   refine QM.sub (e' := [(0, _), (1, _), (7, _), (8, _)]) ⟨rfl, rfl, rfl, rfl, trivial⟩ ?_
   refine QM.againK (i + 1) ⟨(by first | rfl | exact lk rfl (by congr 1; omega) | exact lk rfl (by simp)), rfl, rfl, rfl, trivial⟩ (by (repeat' (first | exact SubM.nil _ | refine SubM.cons rfl ?_ | refine SubM.app ?_))) (fun _ h => h) ?_ ?_
   · exact ⟨by omega, by rw [any_snoc default (by omega), ha, Bool.false_or]; simpa using h2⟩
   · omega
 ·
  refine wpM.exit ?_
  refine QM.then_exit ?_
  refine QM.then_exit ?_
  refine QM.block_hit ?_
  refine QM.then ?_
  refine wpM.seq ?_
  refine wpM.region ?_
  refine LM.val (ov_assign rfl) ?_
  refine LM.nil ?_
  refine QM.sub (e' := [(4, _)]) ⟨rfl, trivial⟩ ?_
  refine QM.then ?_
  refine wpM.ret ?_
  refine QM.leave (.inl rfl) [.tmp 4] Tryz.results153 rfl ?_
  intro w' hm' hc' hg'
  have hil : i = xs.length := (by omega); subst hil; rw [List.take_length] at ha; exact ⟨by show Value.int .i64 _ = _; rw [fix_miss ha], hc'⟩

set_option maxRecDepth 100000 in
theorem cof_pass {xs : List COp} {ad : Option Addr} {n cap : Nat} (w : World) (hn : n = xs.length) (hl : Sr fO 3 xs (.slice ad n cap) w) (hx : xs.length ≤ 1000000) : Ret Tryz.prog 131 #[.slice ad n cap, .func (.func 132) #[] #[]] w (fun v w' => v = .bool (xs.any (fun o => passB o.k)) ∧ Ext w w') := by
 refine Ret.enterM (l := [.slice ad n cap, .func (.func 132) #[] #[]]) Tryz.func131 rfl Tryz.ntmps131 rfl ([]) (no) (Mem.nil w) ?_
 refine wpM.seq ?_
 refine wpM.region ?_
 refine LM.val (ov_assign rfl) ?_
 refine LM.nil ?_
 refine QM.sub (e' := [(0, _), (1, _)]) ⟨rfl, rfl, trivial⟩ ?_
 refine QM.then ?_
 refine wpM.seq ?_
 refine wpM.region ?_
 refine LM.val (ov_move rfl) ?_
 refine LM.val (ov_move rfl) ?_
 refine LM.callE (oc_call (enters_fn Tryz.func153 (by kernel_rfl) rfl) rfl) (fun w hm hc hg => ixf_pass w hn (hl.ext hc) hx) ?_
 refine LM.val (ov_geq rfl rfl) ?_
 refine LM.val (ov_assign rfl) ?_
 refine LM.nil ?_
 refine QM.sub (e' := [(4, _)]) ⟨rfl, trivial⟩ ?_
 refine QM.then ?_
 refine wpM.ret ?_
 refine QM.leave (.inl rfl) [.tmp 4] Tryz.results131 rfl ?_
 intro w' hm' hc' hg'
 exact ⟨by show Value.bool _ = _; rw [← fix_pos], hc'⟩

set_option maxRecDepth 100000 in
theorem rtakes_spec (o : COp) (w : World) : Ret Tryz.prog 91 #[.agg (fO o).toArray] w (fun v w' => v = .bool (takesB o.k) ∧ Ext w w') := by
 refine Ret.enterM (l := [.agg (fO o).toArray]) Tryz.func91 rfl Tryz.ntmps91 rfl ([]) (no) (Mem.nil w) ?_
 refine wpM.seq ?_
 refine wpM.region ?_
 refine LM.box rfl rfl (fun b1 hb1 => ?_)
 refine LM.val (ov_assign rfl) ?_
 refine LM.nil ?_
 refine QM.sub (e' := [(1, _)]) ⟨rfl, trivial⟩ ?_
 refine QM.then ?_
 refine wpM.seq ?_
 refine wpM.region ?_
 refine LM.val (ov_field Tryz.underlying135 rfl Tryz.sizeOf3 rfl (k := 0) rfl rfl) ?_
 first | refine LM.rd (om_ld Tryz.isAgg3 rfl rfl) ?_
 refine LM.val (ov_geq rfl rfl) ?_
 refine LM.val (ov_move rfl) ?_
 refine LM.splitD (t := 6) rfl (fun h1 => ?_) (fun h1 => ?_)
 ·
  refine LM.strip (t := 6) rfl rfl rfl ?_
  refine LM.val (ov_field Tryz.underlying135 rfl Tryz.sizeOf3 rfl (k := 0) rfl rfl) ?_
  refine LM.strip (t := 6) rfl rfl rfl ?_
  first | refine LM.rd (om_ld Tryz.isAgg3 rfl rfl) ?_
  refine LM.strip (t := 6) rfl rfl rfl ?_
  refine LM.val (ov_leq rfl rfl) ?_
  refine LM.val (ov_pickT rfl rfl) ?_
  refine LM.val (ov_assign rfl) ?_
  refine LM.nil ?_
  refine QM.sub (e' := [(2, _)]) ⟨rfl, trivial⟩ ?_
  refine QM.then ?_
  refine wpM.ret ?_
  refine QM.leave (.inl rfl) [.tmp 2] Tryz.results91 rfl ?_
  intro w' hm' hc' hg'
  refine ⟨?_, hc'⟩; simp only [resV, takesB]; congr 1; first | (rw [decide_eq_false (show ¬ 2 ≤ o.k by omega)]; rfl) | (rw [decide_eq_true (show 2 ≤ o.k by omega)]; rfl)
 ·
  refine LM.drop (t := 6) rfl rfl rfl ?_
  refine LM.drop (t := 6) rfl rfl rfl ?_
  refine LM.drop (t := 6) rfl rfl rfl ?_
  refine LM.val (ov_pickF rfl rfl) ?_
  refine LM.val (ov_assign rfl) ?_
  refine LM.nil ?_
  refine QM.sub (e' := [(2, _)]) ⟨rfl, trivial⟩ ?_
  refine QM.then ?_
  refine wpM.ret ?_
  refine QM.leave (.inl rfl) [.tmp 2] Tryz.results91 rfl ?_
  intro w' hm' hc' hg'
  refine ⟨?_, hc'⟩; simp only [resV, takesB]; congr 1; first | (rw [decide_eq_false (show ¬ 2 ≤ o.k by omega)]; rfl) | (rw [decide_eq_true (show 2 ≤ o.k by omega)]; rfl)

end Go.Eng
set_option linter.unusedVariables false
set_option linter.unusedSimpArgs false
namespace Go.Eng
open Go Go.Proofs Go.RowKit

theorem smallO.drop {xs : List COp} (h : smallO xs) (k : Nat) : smallO (xs.drop k) := ⟨by rw [List.length_drop]; have := h.1; omega, fun o ho => h.2 o (List.mem_of_mem_drop ho)⟩
theorem getD_drop {xs : List COp} {i j : Nat} : (xs.drop i).getD j default = xs.getD (i + j) default := by rw [List.getD_eq_getElem?_getD, List.getElem?_drop, ← List.getD_eq_getElem?_getD]
abbrev sV (i to lock ticks : Int) : Value := .agg #[.int .i64 i, .int .i64 to, .int .i64 lock, .int .i64 ticks]
abbrev sBc (b : Nat) (i to lock ticks : Int) : Nat × Obj := (b, .cells #[.int .i64 i, .int .i64 to, .int .i64 lock, .int .i64 ticks] 140 (0, 0))
abbrev oB (b : Nat) (o : COp) : Nat × Obj := (b, .cells (fO o).toArray 135 (0, 0))
theorem stop_no {lock : Int} {o : COp} (h1 : ¬ o.k = 11) (h2 : ¬ (o.k = 6 ∧ o.a = lock)) : stopB lock o = false := by
  unfold stopB; rw [decide_eq_false h1]
  by_cases h : o.k = 6
  · rw [decide_eq_false (fun q => h2 ⟨h, q⟩)]; simp
  · rw [decide_eq_false h]; rfl
theorem stop_11 {lock : Int} {o : COp} (h1 : o.k = 11) : stopB lock o = true := by unfold stopB; rw [decide_eq_true h1]; rfl
theorem stop_6 {lock : Int} {o : COp} (h1 : o.k = 6) (h2 : o.a = lock) : stopB lock o = true := by unfold stopB; rw [decide_eq_true h1, decide_eq_true h2]; simp
/-- what is known between the steps of a section -/
def SecI (lock : Int) (ys : List COp) (j : Nat) (acc : Int) : Prop :=
  j ≤ ys.length ∧ (secT lock ys).1 = j + (secT lock (ys.drop j)).1 ∧ (secT lock ys).2 = acc + (secT lock (ys.drop j)).2 ∧ -((j : Int) * 1125899906842624) ≤ acc ∧ acc ≤ (j : Int) * 1125899906842624
theorem SecI.zero (lock : Int) (ys : List COp) : SecI lock ys 0 0 := ⟨Nat.zero_le _, by simp, by simp, by simp, by simp⟩
theorem SecI.step {lock : Int} {ys : List COp} {j : Nat} {acc acc' : Int} (h : SecI lock ys j acc) (hs : smallO ys) (hj : j < ys.length) (hn : stopB lock (ys.getD j default) = false) (ha : acc' = acc + if (ys.getD j default).k = 1 then (ys.getD j default).a else 0) : SecI lock ys (j + 1) acc' := by
  obtain ⟨h1, h2, h3, h4, h5⟩ := h
  have e := sec_step hj hn
  have hb := hs.at j
  rw [e] at h2 h3
  dsimp only at h2 h3
  have : ((j + 1 : Nat) : Int) * 1125899906842624 = (j : Int) * 1125899906842624 + 1125899906842624 := by push_cast; omega
  refine ⟨by omega, by omega, by rw [ha]; omega, ?_, ?_⟩ <;> rw [this, ha] <;> split <;> omega
theorem SecI.stop {lock : Int} {ys : List COp} {j : Nat} {acc : Int} (h : SecI lock ys j acc) (hj : j < ys.length) (hn : stopB lock (ys.getD j default) = true) : secT lock ys = (j, acc) := by
  obtain ⟨h1, h2, h3, h4, h5⟩ := h
  rw [sec_stop hj hn] at h2 h3
  exact Prod.ext (by simpa using h2) (by simpa using h3)
theorem SecI.fin {lock : Int} {ys : List COp} {j : Nat} {acc : Int} (h : SecI lock ys j acc) (hj : ys.length ≤ j) : secT lock ys = (ys.length, acc) := by
  obtain ⟨h1, h2, h3, h4, h5⟩ := h
  rw [sec_end hj] at h2 h3
  exact Prod.ext (by dsimp only at h2 ⊢; omega) (by simpa using h3)
set_option maxRecDepth 100000 in
theorem section_spec {xs : List COp} {fv : Bool} {ad : Option Addr} {n cap : Nat} (i : Nat) (w : World) (hn : n = xs.length) (hl : Sr fO 3 xs (.slice ad n cap) w) (hs : smallO xs) (hi : i < xs.length) : Ret Tryz.prog 152 #[pV fv ad n cap, .int .i64 (i : Nat)] w (fun v w' => v = secV xs i ∧ Ext w w') := by
 have hx20 := hs.1; have hld := hl.drop (l := i + 1) (by omega); have hsy := hs.drop (i + 1); obtain ⟨ys, hys⟩ : ∃ ys, xs.drop (i + 1) = ys := ⟨_, rfl⟩; have hyl : ys.length = xs.length - (i + 1) := (by rw [← hys, List.length_drop]); have hsec : secO xs i = secT (xs.getD i default).a ys := (by unfold secO; rw [hys]); rw [hys] at hld hsy; simp only [secV, hsec]
 refine Ret.enterM (l := [pV fv ad n cap, .int .i64 (i : Nat)]) Tryz.func152 rfl Tryz.ntmps152 rfl ([]) (no) (Mem.nil w) ?_
 refine wpM.seq ?_
 refine wpM.region ?_
 refine LM.box rfl rfl (fun b2 hb2 => ?_)
 refine LM.alloc Tryz.zeroValue140 rfl (fun b4 hb4 => ?_)
 refine LM.nil ?_
 refine QM.sub (e' := [(1, _), (2, _), (4, _)]) ⟨rfl, rfl, rfl, trivial⟩ ?_
 refine QM.then ?_
 refine wpM.seq ?_
 refine wpM.draw [(0, 0), (1, 0), (2, 1), (3, 0), (4, 0), (5, 1), (6, 0), (7, 0), (8, 0), (9, 1), (10, 0), (11, 2), (12, 3)] (by kernel_rfl) (by kernel_rfl) ?_
 refine LD.val rfl rfl (ov_move rfl) ?_
 refine LD.val rfl rfl (ov_field Tryz.underlying87 rfl Tryz.sizeOf85 rfl (k := 1) rfl rfl) ?_
 first | refine LD.rd rfl rfl (om_ld Tryz.isAgg85 rfl rfl) ?_
 refine LD.val rfl rfl (ov_len Tryz.underlying85 rfl) ?_
 refine LD.val rfl rfl (ov_field Tryz.underlying87 rfl Tryz.sizeOf85 rfl (k := 1) rfl rfl) ?_
 first | refine LD.rd rfl rfl (om_ld Tryz.isAgg85 rfl rfl) ?_
 refine LD.val rfl rfl (ov_move rfl) ?_
 refine LD.val rfl rfl (ov_idxSN (by first | exact Sr.spt (by assumption) | exact Sl.spt (by assumption)) Tryz.underlying85 Tryz.sizeOf135 rfl rfl (by omega)) ?_
 refine LD.val rfl rfl (ov_field Tryz.underlying135 rfl Tryz.sizeOf3 rfl (k := 1) rfl rfl) ?_
 first | refine LD.rd rfl rfl (om_slE (j := 1) (by assumption) (by intro _; rfl) Tryz.isAgg3 rfl rfl (by exact getq default (by first | omega | (simp only [List.length_set, List.length_append, List.length_cons, List.length_nil]; omega))) rfl (by rfl)) ?_ | refine LD.rdC rfl rfl (om_srE (j := 1) (by assumption) Tryz.isAgg3 rfl rfl (by exact getq default (by first | omega | (simp only [List.length_set, List.length_append, List.length_cons, List.length_nil]; omega))) (by rfl) (by rfl) id) ?_ | refine LD.rd rfl rfl (om_ld Tryz.isAgg3 rfl rfl) ?_
 refine LD.val rfl rfl (ov_build (cs := #[_, _, _, _]) rfl (by first | rfl | kernel_rfl)) ?_
 refine LD.alloc rfl rfl Tryz.zeroValue140 rfl (fun b5 hb5 => ?_)
 refine LD.tail rfl rfl ?_
 refine LM.stW Tryz.sizeOf140 rfl rfl rfl rfl (by first | rfl | decide | (simp; done)) (fun hlt => absurd hlt (by omega)) ?_
 refine LM.nil ?_
 refine QM.qn ?_
 refine QM.sub (e' := [(1, _), (2, _), (4, _), (5, _)]) ⟨rfl, rfl, rfl, rfl, trivial⟩ ?_
 refine QM.then ?_
 refine wpM.seq ?_
 refine wpM.seq ?_
 refine wpM.region ?_
 refine LM.val (ov_field Tryz.underlying87 rfl Tryz.sizeOf85 rfl (k := 1) rfl rfl) ?_
 first | refine LM.rd (om_ld Tryz.isAgg85 rfl rfl) ?_
 refine LM.val (ov_move rfl) ?_
 refine LM.val (ov_add64 rfl rfl (by omega)) ?_
 refine LM.val (ov_subLo (i + 1) Tryz.underlying85 Tryz.sizeOf135 rfl rfl (by omega) (by omega)) ?_
 refine LM.val (ov_len Tryz.underlying85 rfl) ?_
 refine LM.val (ov_move rfl) ?_
 refine LM.nil ?_
 refine QM.sub (e' := [(1, _), (4, _), (5, _), (23, _), (24, _), (25, _)]) ⟨rfl, rfl, rfl, rfl, rfl, rfl, trivial⟩ ?_
 refine QM.then ?_
 refine wpM.block ?_
 refine wpM.loopK0 (α := Nat × Int) (fun ⟨j, acc⟩ => [(25, .int .i64 (j : Nat))]) [(1, _), (4, _), (5, _), (23, _), (24, _)] (fun ⟨j, acc⟩ => sBc b5 (i : Nat) n (xs.getD i default).a acc :: sBc b4 0 0 0 0 :: pB b2 fv ad n cap :: []) (fun ⟨j, acc⟩ => SecI (xs.getD i default).a ys j acc) (fun ⟨j, acc⟩ => ys.length - j) ((0, 0)) ⟨(by first | rfl | exact lk rfl (by congr 1; omega) | exact lk rfl (by simp)), rfl, rfl, rfl, rfl, rfl, trivial⟩ (by (repeat' (first | exact SubM.nil _ | refine SubM.cons rfl ?_ | refine SubM.app ?_))) (SecI.zero _ ys) ?_
 rintro ⟨j, acc⟩ hI
 change wpM _ _ _ _ _ _ _ (sBc b5 (i : Nat) n (xs.getD i default).a acc :: sBc b4 0 0 0 0 :: pB b2 fv ad n cap :: []) _ _ _
 have hj := hI.1; have hb := hsy.at j; obtain ⟨-, -, -, hb1, hb2⟩ := id hI
 refine wpM.seq ?_
 refine wpM.region ?_
 refine LM.val (ov_lss rfl rfl) ?_
 refine LM.nil ?_
 refine QM.sub (e' := [(1, _), (4, _), (5, _), (23, _), (24, _), (25, _), (26, _)]) ⟨rfl, rfl, rfl, rfl, rfl, rfl, rfl, trivial⟩ ?_
 refine QM.then ?_
 refine wpM.seq ?_
 refine wpM.condD rfl (fun h1 => ?_) (fun h1 => ?_)
 ·
  refine wpM.skip ?_
  refine QM.then ?_
  refine wpM.seq ?_
  refine wpM.block ?_
  refine wpM.seq ?_
  refine wpM.region ?_
  refine LM.val (ov_move rfl) ?_
  refine LM.val (ov_idxSN (by first | exact Sr.spt (by assumption) | exact Sl.spt (by assumption)) Tryz.underlying85 Tryz.sizeOf135 rfl rfl (by omega)) ?_
  first | refine LM.rd (om_slA (by assumption) (by intro _; rfl) Tryz.isAgg135 Tryz.sizeOf135 rfl (by exact getq default (by first | omega | (simp only [List.length_set, List.length_append, List.length_cons, List.length_nil]; omega)))) ?_ | refine LM.rdC (om_srEA (by assumption) (by intro _; rfl) Tryz.isAgg135 Tryz.sizeOf135 rfl (by exact getq default (by first | omega | (simp only [List.length_set, List.length_append, List.length_cons, List.length_nil]; omega))) id) ?_ | refine LM.rd (om_ldW Tryz.isAgg135 Tryz.sizeOf135 rfl rfl) ?_ | refine LM.rd (om_ldA Tryz.isAgg135 Tryz.sizeOf135 rfl (vs := [_, _, _]) rfl ⟨rfl, rfl, rfl, trivial⟩) ?_
  refine LM.alloc Tryz.zeroValue135 rfl (fun b7 hb7 => ?_)
  refine LM.val (ov_assign rfl) ?_
  refine LM.stW Tryz.sizeOf135 rfl rfl rfl rfl (by first | rfl | decide | (simp; done)) (fun hlt => absurd hlt (by omega)) ?_
  refine LM.nil ?_
  refine QM.sub (e' := [(1, _), (4, _), (5, _), (6, _), (7, _), (23, _), (24, _), (25, _)]) ⟨rfl, rfl, rfl, rfl, rfl, rfl, rfl, rfl, trivial⟩ ?_
  refine QM.then ?_
  refine wpM.block ?_
  refine wpM.seq ?_
  refine wpM.seq ?_
  refine wpM.region ?_
  refine LM.val (ov_field Tryz.underlying135 rfl Tryz.sizeOf3 rfl (k := 0) rfl rfl) ?_
  first | refine LM.rd (om_ld Tryz.isAgg3 rfl rfl) ?_
  refine LM.val (ov_eql rfl rfl) ?_
  refine LM.val (ov_assign rfl) ?_
  refine LM.nil ?_
  refine QM.sub (e' := [(1, _), (4, _), (5, _), (6, _), (7, _), (23, _), (24, _), (25, _), (30, _)]) ⟨rfl, rfl, rfl, rfl, rfl, rfl, rfl, rfl, rfl, trivial⟩ ?_
  refine QM.then ?_
  refine wpM.condXD (t := 30) rfl (fun h2 => ?_) (fun h2 => ?_)
  ·
   refine wpM.skip ?_
   refine QM.then ?_
   refine wpM.condT rfl ?_
   refine wpM.seq ?_
   refine wpM.region ?_
   refine LM.val (ov_move rfl) ?_
   refine LM.val (ov_add64 rfl rfl (by omega)) ?_
   refine LM.val (ov_move rfl) ?_
   refine LM.val (ov_add64 rfl rfl (by omega)) ?_
   refine LM.val (ov_field Tryz.underlying140 rfl Tryz.sizeOf3 rfl (k := 1) rfl rfl) ?_
   refine LM.st Tryz.sizeOf3 rfl rfl rfl (by first | decide | exact Nat.le_of_ble_eq_true rfl | (simp; done) | (simp; omega)) rfl (fun hlt => absurd hlt (by omega)) ?_
   refine LM.nil ?_
   refine QM.sub (e' := [(4, _), (5, _)]) ⟨rfl, rfl, trivial⟩ ?_
   refine QM.then ?_
   refine wpM.seq ?_
   refine wpM.region ?_
   refine LM.rd (om_ldW Tryz.isAgg140 Tryz.sizeOf140 rfl rfl) ?_
   refine LM.stW Tryz.sizeOf140 rfl rfl rfl rfl (by first | rfl | decide | (simp; done)) (fun hlt => absurd hlt (by omega)) ?_
   refine LM.nil ?_
   refine QM.sub (e' := [(4, _)]) ⟨rfl, trivial⟩ ?_
   refine QM.then ?_
   refine wpM.ret ?_
   refine QM.block_ret ?_
   refine QM.block_ret ?_
   refine QM.then_ret ?_
   refine QM.then_ret ?_
   refine QM.block_ret ?_
   refine QM.then_ret ?_
   refine QM.leaveCs (ds := ([])) (.inl rfl) [.cell 4 140] Tryz.results152 hd_nil (rc_w rfl Tryz.isAgg140 Tryz.sizeOf140 rfl rc_nil) ?_
   intro w' hm' hc'
   have hq := hI.stop (by omega) (stop_11 h2); refine ⟨?_, hc'⟩; rw [hq]; show sV _ _ _ _ = _; congr 5
  ·
   refine wpM.region ?_
   refine LM.val (ov_field Tryz.underlying135 rfl Tryz.sizeOf3 rfl (k := 0) rfl rfl) ?_
   first | refine LM.rd (om_ld Tryz.isAgg3 rfl rfl) ?_
   refine LM.val (ov_eql rfl rfl) ?_
   refine LM.val (ov_move rfl) ?_
   refine LM.splitD (t := 37) rfl (fun h3 => ?_) (fun h3 => ?_)
   ·
    refine LM.strip (t := 37) rfl rfl rfl ?_
    refine LM.val (ov_field Tryz.underlying135 rfl Tryz.sizeOf3 rfl (k := 1) rfl rfl) ?_
    refine LM.strip (t := 37) rfl rfl rfl ?_
    first | refine LM.rd (om_ld Tryz.isAgg3 rfl rfl) ?_
    refine LM.strip (t := 37) rfl rfl rfl ?_
    refine LM.val (ov_field Tryz.underlying140 rfl Tryz.sizeOf3 rfl (k := 2) rfl rfl) ?_
    refine LM.strip (t := 37) rfl rfl rfl ?_
    first | refine LM.rd (om_ld Tryz.isAgg3 rfl rfl) ?_
    refine LM.strip (t := 37) rfl rfl rfl ?_
    refine LM.val (ov_eql rfl rfl) ?_
    refine LM.val (ov_pickT rfl rfl) ?_
    refine LM.val (ov_assign rfl) ?_
    refine LM.nil ?_
    refine QM.sub (e' := [(1, _), (4, _), (5, _), (6, _), (7, _), (23, _), (24, _), (25, _), (30, _)]) ⟨rfl, rfl, rfl, rfl, rfl, rfl, rfl, rfl, rfl, trivial⟩ ?_
    refine QM.then ?_
    refine wpM.condD rfl (fun h4 => ?_) (fun h4 => ?_)
    ·
     refine wpM.seq ?_
     refine wpM.region ?_
     refine LM.val (ov_move rfl) ?_
     refine LM.val (ov_add64 rfl rfl (by omega)) ?_
     refine LM.val (ov_move rfl) ?_
     refine LM.val (ov_add64 rfl rfl (by omega)) ?_
     refine LM.val (ov_field Tryz.underlying140 rfl Tryz.sizeOf3 rfl (k := 1) rfl rfl) ?_
     refine LM.st Tryz.sizeOf3 rfl rfl rfl (by first | decide | exact Nat.le_of_ble_eq_true rfl | (simp; done) | (simp; omega)) rfl (fun hlt => absurd hlt (by omega)) ?_
     refine LM.nil ?_
     refine QM.sub (e' := [(4, _), (5, _)]) ⟨rfl, rfl, trivial⟩ ?_
     refine QM.then ?_
     refine wpM.seq ?_
     refine wpM.region ?_
     refine LM.rd (om_ldW Tryz.isAgg140 Tryz.sizeOf140 rfl rfl) ?_
     refine LM.stW Tryz.sizeOf140 rfl rfl rfl rfl (by first | rfl | decide | (simp; done)) (fun hlt => absurd hlt (by omega)) ?_
     refine LM.nil ?_
     refine QM.sub (e' := [(4, _)]) ⟨rfl, trivial⟩ ?_
     refine QM.then ?_
     refine wpM.ret ?_
     refine QM.block_ret ?_
     refine QM.block_ret ?_
     refine QM.then_ret ?_
     refine QM.then_ret ?_
     refine QM.block_ret ?_
     refine QM.then_ret ?_
     refine QM.leaveCs (ds := ([])) (.inl rfl) [.cell 4 140] Tryz.results152 hd_nil (rc_w rfl Tryz.isAgg140 Tryz.sizeOf140 rfl rc_nil) ?_
     intro w' hm' hc'
     have hq := hI.stop (by omega) (stop_6 h3 h4); refine ⟨?_, hc'⟩; rw [hq]; show sV _ _ _ _ = _; congr 5
    ·
     refine wpM.seq ?_
     refine wpM.region ?_
     refine LM.val (ov_field Tryz.underlying135 rfl Tryz.sizeOf3 rfl (k := 0) rfl rfl) ?_
     first | refine LM.rd (om_ld Tryz.isAgg3 rfl rfl) ?_
     refine LM.val (ov_eql rfl rfl) ?_
     refine LM.val (ov_assign rfl) ?_
     refine LM.nil ?_
     refine QM.sub (e' := [(1, _), (4, _), (5, _), (7, _), (23, _), (24, _), (25, _), (50, _)]) ⟨rfl, rfl, rfl, rfl, rfl, rfl, rfl, rfl, trivial⟩ ?_
     refine QM.then ?_
     refine wpM.condD rfl (fun h5 => ?_) (fun h5 => ?_)
     ·
      refine wpM.region ?_
      refine LM.val (ov_field Tryz.underlying140 rfl Tryz.sizeOf3 rfl (k := 3) rfl rfl) ?_
      first | refine LM.rd (om_ld Tryz.isAgg3 rfl rfl) ?_
      refine LM.val (ov_field Tryz.underlying135 rfl Tryz.sizeOf3 rfl (k := 1) rfl rfl) ?_
      first | refine LM.rd (om_ld Tryz.isAgg3 rfl rfl) ?_
      refine LM.val (ov_add64 rfl rfl (by omega)) ?_
      refine LM.val (ov_field Tryz.underlying140 rfl Tryz.sizeOf3 rfl (k := 3) rfl rfl) ?_
      refine LM.st Tryz.sizeOf3 rfl rfl rfl (by first | decide | exact Nat.le_of_ble_eq_true rfl | (simp; done) | (simp; omega)) rfl (fun hlt => absurd hlt (by omega)) ?_
      refine LM.nil ?_
      refine QM.sub (e' := [(1, _), (4, _), (5, _), (23, _), (24, _), (25, _)]) ⟨rfl, rfl, rfl, rfl, rfl, rfl, trivial⟩ ?_
      refine QM.block_normal ?_
      refine QM.block_normal ?_
      refine QM.then ?_
      refine wpM.region ?_
      refine LM.val (ov_add64 rfl rfl (by omega)) ?_
      refine LM.val (ov_move rfl) ?_
      refine LM.nil ?_
      refine QM.sub (e' := [(1, _), (4, _), (5, _), (23, _), (24, _), (25, _)]) ⟨rfl, rfl, rfl, rfl, rfl, rfl, trivial⟩ ?_
      refine QM.againK ((j + 1, acc + (ys.getD j default).a)) ⟨(by first | rfl | exact lk rfl (by congr 1; omega) | exact lk rfl (by simp)), rfl, rfl, rfl, rfl, rfl, trivial⟩ (by (repeat' (first | exact SubM.nil _ | refine SubM.cons rfl ?_ | refine SubM.app ?_))) (fun _ h => h) ?_ ?_
      · exact hI.step hsy (by omega) (stop_no h2 (fun q => by first | exact h4 q.2 | exact h3 q.1)) (by rw [if_pos h5])
      · omega
     ·
      refine wpM.skip ?_
      refine QM.block_normal ?_
      refine QM.block_normal ?_
      refine QM.then ?_
      refine wpM.region ?_
      refine LM.val (ov_add64 rfl rfl (by omega)) ?_
      refine LM.val (ov_move rfl) ?_
      refine LM.nil ?_
      refine QM.sub (e' := [(1, _), (4, _), (5, _), (23, _), (24, _), (25, _)]) ⟨rfl, rfl, rfl, rfl, rfl, rfl, trivial⟩ ?_
      refine QM.againK ((j + 1, acc)) ⟨(by first | rfl | exact lk rfl (by congr 1; omega) | exact lk rfl (by simp)), rfl, rfl, rfl, rfl, rfl, trivial⟩ (by (repeat' (first | exact SubM.nil _ | refine SubM.cons rfl ?_ | refine SubM.app ?_))) (fun _ h => h) ?_ ?_
      · exact hI.step hsy (by omega) (stop_no h2 (fun q => by first | exact h4 q.2 | exact h3 q.1)) (by rw [if_neg h5]; omega)
      · first | omega | (dsimp only; omega)
   ·
    refine LM.drop (t := 37) rfl rfl rfl ?_
    refine LM.drop (t := 37) rfl rfl rfl ?_
    refine LM.drop (t := 37) rfl rfl rfl ?_
    refine LM.drop (t := 37) rfl rfl rfl ?_
    refine LM.drop (t := 37) rfl rfl rfl ?_
    refine LM.val (ov_pickF rfl rfl) ?_
    refine LM.val (ov_assign rfl) ?_
    refine LM.nil ?_
    refine QM.sub (e' := [(1, _), (4, _), (5, _), (6, _), (7, _), (23, _), (24, _), (25, _), (30, _)]) ⟨rfl, rfl, rfl, rfl, rfl, rfl, rfl, rfl, rfl, trivial⟩ ?_
    refine QM.then ?_
    refine wpM.condF rfl ?_
    refine wpM.seq ?_
    refine wpM.region ?_
    refine LM.val (ov_field Tryz.underlying135 rfl Tryz.sizeOf3 rfl (k := 0) rfl rfl) ?_
    first | refine LM.rd (om_ld Tryz.isAgg3 rfl rfl) ?_
    refine LM.val (ov_eql rfl rfl) ?_
    refine LM.val (ov_assign rfl) ?_
    refine LM.nil ?_
    refine QM.sub (e' := [(1, _), (4, _), (5, _), (7, _), (23, _), (24, _), (25, _), (50, _)]) ⟨rfl, rfl, rfl, rfl, rfl, rfl, rfl, rfl, trivial⟩ ?_
    refine QM.then ?_
    refine wpM.condD rfl (fun h6 => ?_) (fun h6 => ?_)
    ·
     refine wpM.region ?_
     refine LM.val (ov_field Tryz.underlying140 rfl Tryz.sizeOf3 rfl (k := 3) rfl rfl) ?_
     first | refine LM.rd (om_ld Tryz.isAgg3 rfl rfl) ?_
     refine LM.val (ov_field Tryz.underlying135 rfl Tryz.sizeOf3 rfl (k := 1) rfl rfl) ?_
     first | refine LM.rd (om_ld Tryz.isAgg3 rfl rfl) ?_
     refine LM.val (ov_add64 rfl rfl (by omega)) ?_
     refine LM.val (ov_field Tryz.underlying140 rfl Tryz.sizeOf3 rfl (k := 3) rfl rfl) ?_
     refine LM.st Tryz.sizeOf3 rfl rfl rfl (by first | decide | exact Nat.le_of_ble_eq_true rfl | (simp; done) | (simp; omega)) rfl (fun hlt => absurd hlt (by omega)) ?_
     refine LM.nil ?_
     refine QM.sub (e' := [(1, _), (4, _), (5, _), (23, _), (24, _), (25, _)]) ⟨rfl, rfl, rfl, rfl, rfl, rfl, trivial⟩ ?_
     refine QM.block_normal ?_
     refine QM.block_normal ?_
     refine QM.then ?_
     refine wpM.region ?_
     refine LM.val (ov_add64 rfl rfl (by omega)) ?_
     refine LM.val (ov_move rfl) ?_
     refine LM.nil ?_
     refine QM.sub (e' := [(1, _), (4, _), (5, _), (23, _), (24, _), (25, _)]) ⟨rfl, rfl, rfl, rfl, rfl, rfl, trivial⟩ ?_
     refine QM.againK ((j + 1, acc + (ys.getD j default).a)) ⟨(by first | rfl | exact lk rfl (by congr 1; omega) | exact lk rfl (by simp)), rfl, rfl, rfl, rfl, rfl, trivial⟩ (by (repeat' (first | exact SubM.nil _ | refine SubM.cons rfl ?_ | refine SubM.app ?_))) (fun _ h => h) ?_ ?_
     · exact hI.step hsy (by omega) (stop_no h2 (fun q => by first | exact h4 q.2 | exact h3 q.1)) (by rw [if_pos h6])
     · first | omega | (dsimp only; omega)
    ·
     refine wpM.skip ?_
     refine QM.block_normal ?_
     refine QM.block_normal ?_
     refine QM.then ?_
     refine wpM.region ?_
     refine LM.val (ov_add64 rfl rfl (by omega)) ?_
     refine LM.val (ov_move rfl) ?_
     refine LM.nil ?_
     refine QM.sub (e' := [(1, _), (4, _), (5, _), (23, _), (24, _), (25, _)]) ⟨rfl, rfl, rfl, rfl, rfl, rfl, trivial⟩ ?_
     refine QM.againK ((j + 1, acc)) ⟨(by first | rfl | exact lk rfl (by congr 1; omega) | exact lk rfl (by simp)), rfl, rfl, rfl, rfl, rfl, trivial⟩ (by (repeat' (first | exact SubM.nil _ | refine SubM.cons rfl ?_ | refine SubM.app ?_))) (fun _ h => h) ?_ ?_
     · exact hI.step hsy (by omega) (stop_no h2 (fun q => by first | exact h4 q.2 | exact h3 q.1)) (by rw [if_neg h6]; omega)
     · first | omega | (dsimp only; omega)
 ·
  refine wpM.exit ?_
  refine QM.then_exit ?_
  refine QM.then_exit ?_
  refine QM.block_hit ?_
  refine QM.then ?_
  refine wpM.seq ?_
  refine wpM.region ?_
  refine LM.rd (om_ldW Tryz.isAgg140 Tryz.sizeOf140 rfl rfl) ?_
  refine LM.stW Tryz.sizeOf140 rfl rfl rfl rfl (by first | rfl | decide | (simp; done)) (fun hlt => absurd hlt (by omega)) ?_
  refine LM.nil ?_
  refine QM.sub (e' := [(4, _)]) ⟨rfl, trivial⟩ ?_
  refine QM.then ?_
  refine wpM.ret ?_
  refine QM.leaveCs (ds := ([])) (.inl rfl) [.cell 4 140] Tryz.results152 hd_nil (rc_w rfl Tryz.isAgg140 Tryz.sizeOf140 rfl rc_nil) ?_
  intro w' hm' hc'
  have hq := hI.fin (by omega); refine ⟨?_, hc'⟩; rw [hq]; show sV _ _ _ _ = _; congr 5; omega

set_option maxRecDepth 100000 in
theorem rsection_spec {xs : List COp} {fv : Bool} {ad : Option Addr} {n cap : Nat} (i : Nat) (w : World) (hn : n = xs.length) (hl : Sr fO 3 xs (.slice ad n cap) w) (hs : smallO xs) (hi : i < xs.length) : Ret Tryz.prog 92 #[pV fv ad n cap, .int .i64 (i : Nat)] w (fun v w' => v = secV xs i ∧ Ext w w') := by
 have hx20 := hs.1; have hsy := hs.drop (i + 1); obtain ⟨ys, hys⟩ : ∃ ys, xs.drop (i + 1) = ys := ⟨_, rfl⟩; have hyl : ys.length = xs.length - (i + 1) := (by rw [← hys, List.length_drop]); have hsec : secO xs i = secT (xs.getD i default).a ys := (by unfold secO; rw [hys]); have hyx : ∀ j, ys.getD j default = xs.getD (i + 1 + j) default := (fun j => by rw [← hys, getD_drop]); rw [hys] at hsy; simp only [secV, hsec]
 refine Ret.enterM (l := [pV fv ad n cap, .int .i64 (i : Nat)]) Tryz.func92 rfl Tryz.ntmps92 rfl ([]) (no) (Mem.nil w) ?_
 refine wpM.seq ?_
 refine wpM.region ?_
 refine LM.box rfl rfl (fun b2 hb2 => ?_)
 refine LM.alloc Tryz.zeroValue140 rfl (fun b4 hb4 => ?_)
 refine LM.nil ?_
 refine QM.sub (e' := [(1, _), (2, _), (4, _)]) ⟨rfl, rfl, rfl, trivial⟩ ?_
 refine QM.then ?_
 refine wpM.seq ?_
 refine wpM.region ?_
 refine LM.val (ov_move rfl) ?_
 refine LM.val (ov_move rfl) ?_
 refine LM.val (ov_add64 rfl rfl (by omega)) ?_
 refine LM.val (ov_field Tryz.underlying87 rfl Tryz.sizeOf85 rfl (k := 1) rfl rfl) ?_
 first | refine LM.rd (om_ld Tryz.isAgg85 rfl rfl) ?_
 refine LM.val (ov_move rfl) ?_
 refine LM.val (ov_idxSN (by first | exact Sr.spt (by assumption) | exact Sl.spt (by assumption)) Tryz.underlying85 Tryz.sizeOf135 rfl rfl (by omega)) ?_
 refine LM.val (ov_field Tryz.underlying135 rfl Tryz.sizeOf3 rfl (k := 1) rfl rfl) ?_
 first | refine LM.rd (om_slE (j := 1) (by assumption) (by intro _; rfl) Tryz.isAgg3 rfl rfl (by exact getq default (by first | omega | (simp only [List.length_set, List.length_append, List.length_cons, List.length_nil]; omega))) rfl (by rfl)) ?_ | refine LM.rdC (om_srE (j := 1) (by assumption) Tryz.isAgg3 rfl rfl (by exact getq default (by first | omega | (simp only [List.length_set, List.length_append, List.length_cons, List.length_nil]; omega))) (by rfl) (by rfl) id) ?_ | refine LM.rd (om_ld Tryz.isAgg3 rfl rfl) ?_
 refine LM.val (ov_build (cs := #[_, _, _, _]) rfl (by first | rfl | kernel_rfl)) ?_
 refine LM.alloc Tryz.zeroValue140 rfl (fun b5 hb5 => ?_)
 refine LM.stW Tryz.sizeOf140 rfl rfl rfl rfl (by first | rfl | decide | (simp; done)) (fun hlt => absurd hlt (by omega)) ?_
 refine LM.nil ?_
 refine QM.sub (e' := [(2, _), (4, _), (5, _)]) ⟨rfl, rfl, rfl, trivial⟩ ?_
 refine QM.then ?_
 refine wpM.seq ?_
 refine wpM.block ?_
 refine wpM.loopK0 (α := Nat × Int × Int) (fun ⟨j, to, acc⟩ => []) [(2, _), (4, _), (5, _)] (fun ⟨j, to, acc⟩ => sBc b5 (i : Nat) to (xs.getD i default).a acc :: sBc b4 0 0 0 0 :: pB b2 fv ad n cap :: []) (fun ⟨j, to, acc⟩ => SecI (xs.getD i default).a ys j acc ∧ to = (i : Int) + 1 + (j : Nat)) (fun ⟨j, to, acc⟩ => ys.length - j) ((0, (i : Int) + 1, 0)) ⟨rfl, rfl, rfl, trivial⟩ (by (repeat' (first | exact SubM.nil _ | refine SubM.cons rfl ?_ | refine SubM.app ?_))) ⟨SecI.zero _ ys, by simp⟩ ?_
 rintro ⟨j, to, acc⟩ ⟨hI, hto⟩
 change wpM _ _ _ _ _ _ _ (sBc b5 (i : Nat) to (xs.getD i default).a acc :: sBc b4 0 0 0 0 :: pB b2 fv ad n cap :: []) _ _ _
 have hj := hI.1; have htn : to.toNat = i + 1 + j := (by omega); have hyt : ys.getD j default = xs.getD to.toNat default := (by rw [hyx, htn]); have hb := hsy.at j; rw [hyt] at hb; obtain ⟨-, -, -, hb1, hb2⟩ := id hI
 refine wpM.seq ?_
 refine wpM.seq ?_
 refine wpM.region ?_
 refine LM.val (ov_field Tryz.underlying140 rfl Tryz.sizeOf3 rfl (k := 1) rfl rfl) ?_
 first | refine LM.rd (om_ld Tryz.isAgg3 rfl rfl) ?_
 refine LM.val (ov_field Tryz.underlying87 rfl Tryz.sizeOf85 rfl (k := 1) rfl rfl) ?_
 first | refine LM.rd (om_ld Tryz.isAgg85 rfl rfl) ?_
 refine LM.val (ov_len Tryz.underlying85 rfl) ?_
 refine LM.val (ov_lss rfl rfl) ?_
 refine LM.nil ?_
 refine QM.sub (e' := [(2, _), (4, _), (5, _), (22, _)]) ⟨rfl, rfl, rfl, rfl, trivial⟩ ?_
 refine QM.then ?_
 refine wpM.condD rfl (fun h1 => ?_) (fun h1 => ?_)
 ·
  refine wpM.skip ?_
  refine QM.then ?_
  refine wpM.block ?_
  refine wpM.seq ?_
  refine wpM.region ?_
  refine LM.val (ov_field Tryz.underlying87 rfl Tryz.sizeOf85 rfl (k := 1) rfl rfl) ?_
  first | refine LM.rd (om_ld Tryz.isAgg85 rfl rfl) ?_
  refine LM.val (ov_field Tryz.underlying140 rfl Tryz.sizeOf3 rfl (k := 1) rfl rfl) ?_
  first | refine LM.rd (om_ld Tryz.isAgg3 rfl rfl) ?_
  first | refine LM.val (ov_idxSN (by first | exact Sr.spt (by assumption) | exact Sl.spt (by assumption)) Tryz.underlying85 Tryz.sizeOf135 rfl rfl (by omega)) ?_ | refine LM.val (ov_idxS (by first | exact Sr.spt (by assumption) | exact Sl.spt (by assumption)) Tryz.underlying85 Tryz.sizeOf135 rfl rfl (by omega)) ?_ | refine LM.val (ov_idx Tryz.underlying85 Tryz.sizeOf135 rfl rfl (by omega)) ?_
  first | refine LM.rd (om_slA (by assumption) (by intro _; rfl) Tryz.isAgg135 Tryz.sizeOf135 rfl (by exact getq default (by first | omega | (simp only [List.length_set, List.length_append, List.length_cons, List.length_nil]; omega)))) ?_ | refine LM.rdC (om_srEA (by assumption) (by intro _; rfl) Tryz.isAgg135 Tryz.sizeOf135 rfl (by exact getq default (by first | omega | (simp only [List.length_set, List.length_append, List.length_cons, List.length_nil]; omega))) id) ?_ | refine LM.rd (om_ldW Tryz.isAgg135 Tryz.sizeOf135 rfl rfl) ?_ | refine LM.rd (om_ldA Tryz.isAgg135 Tryz.sizeOf135 rfl (vs := [_, _, _]) rfl ⟨rfl, rfl, rfl, trivial⟩) ?_
  refine LM.alloc Tryz.zeroValue135 rfl (fun b6 hb6 => ?_)
  refine LM.stW Tryz.sizeOf135 rfl rfl rfl rfl (by first | rfl | decide | (simp; done)) (fun hlt => absurd hlt (by omega)) ?_
  refine LM.nil ?_
  refine QM.sub (e' := [(2, _), (4, _), (5, _), (6, _)]) ⟨rfl, rfl, rfl, rfl, trivial⟩ ?_
  refine QM.then ?_
  refine wpM.seq ?_
  refine wpM.seq ?_
  refine wpM.region ?_
  refine LM.val (ov_field Tryz.underlying135 rfl Tryz.sizeOf3 rfl (k := 0) rfl rfl) ?_
  first | refine LM.rd (om_ld Tryz.isAgg3 rfl rfl) ?_
  refine LM.val (ov_eql rfl rfl) ?_
  refine LM.val (ov_move rfl) ?_
  refine LM.splitD (t := 32) rfl (fun h2 => ?_) (fun h2 => ?_)
  ·
   refine LM.drop (t := 32) rfl rfl rfl ?_
   refine LM.drop (t := 32) rfl rfl rfl ?_
   refine LM.drop (t := 32) rfl rfl rfl ?_
   refine LM.dropU (t := 32) rfl rfl rfl ?_
   refine LM.dropX (t := 36) rfl rfl ?_
   refine LM.dropX (t := 36) rfl rfl ?_
   refine LM.dropX (t := 36) rfl rfl ?_
   refine LM.dropX (t := 36) rfl rfl ?_
   refine LM.dropX (t := 36) rfl rfl ?_
   refine LM.drop (t := 32) rfl rfl rfl ?_
   refine LM.val (ov_pickT rfl rfl) ?_
   refine LM.nil ?_
   refine QM.sub (e' := [(2, _), (4, _), (5, _), (6, _), (43, _)]) ⟨rfl, rfl, rfl, rfl, rfl, trivial⟩ ?_
   refine QM.then ?_
   refine wpM.condT rfl ?_
   refine wpM.seq ?_
   refine wpM.region ?_
   refine LM.rd (om_ldW Tryz.isAgg140 Tryz.sizeOf140 rfl rfl) ?_
   refine LM.stW Tryz.sizeOf140 rfl rfl rfl rfl (by first | rfl | decide | (simp; done)) (fun hlt => absurd hlt (by omega)) ?_
   refine LM.nil ?_
   refine QM.sub (e' := [(4, _)]) ⟨rfl, trivial⟩ ?_
   refine QM.then ?_
   refine wpM.ret ?_
   refine QM.then_ret ?_
   refine QM.block_ret ?_
   refine QM.then_ret ?_
   refine QM.block_ret ?_
   refine QM.then_ret ?_
   refine QM.leaveCs (ds := ([])) (.inl rfl) [.cell 4 140] Tryz.results92 hd_nil (rc_w rfl Tryz.isAgg140 Tryz.sizeOf140 rfl rc_nil) ?_
   intro w' hm' hc'
   have hq := hI.stop (by omega) (by rw [hyt]; exact stop_11 h2); refine ⟨?_, hc'⟩; rw [hq]; show sV _ _ _ _ = _; congr 5
  ·
   refine LM.strip (t := 32) rfl rfl rfl ?_
   refine LM.val (ov_field Tryz.underlying135 rfl Tryz.sizeOf3 rfl (k := 0) rfl rfl) ?_
   refine LM.strip (t := 32) rfl rfl rfl ?_
   first | refine LM.rd (om_ld Tryz.isAgg3 rfl rfl) ?_
   refine LM.strip (t := 32) rfl rfl rfl ?_
   refine LM.val (ov_eql rfl rfl) ?_
   refine LM.strip (t := 32) rfl rfl rfl ?_
   refine LM.val (ov_move rfl) ?_
   refine LM.splitD (t := 36) rfl (fun h3 => ?_) (fun h3 => ?_)
   ·
    refine LM.strip (t := 36) rfl rfl rfl ?_
    refine LM.val (ov_field Tryz.underlying135 rfl Tryz.sizeOf3 rfl (k := 1) rfl rfl) ?_
    refine LM.strip (t := 36) rfl rfl rfl ?_
    first | refine LM.rd (om_ld Tryz.isAgg3 rfl rfl) ?_
    refine LM.strip (t := 36) rfl rfl rfl ?_
    refine LM.val (ov_field Tryz.underlying140 rfl Tryz.sizeOf3 rfl (k := 2) rfl rfl) ?_
    refine LM.strip (t := 36) rfl rfl rfl ?_
    first | refine LM.rd (om_ld Tryz.isAgg3 rfl rfl) ?_
    refine LM.strip (t := 36) rfl rfl rfl ?_
    refine LM.val (ov_eql rfl rfl) ?_
    refine LM.strip (t := 32) rfl rfl rfl ?_
    refine LM.val (ov_pickT rfl rfl) ?_
    refine LM.val (ov_pickF rfl rfl) ?_
    refine LM.nil ?_
    refine QM.sub (e' := [(2, _), (4, _), (5, _), (6, _), (43, _)]) ⟨rfl, rfl, rfl, rfl, rfl, trivial⟩ ?_
    refine QM.then ?_
    refine wpM.condD rfl (fun h4 => ?_) (fun h4 => ?_)
    ·
     refine wpM.seq ?_
     refine wpM.region ?_
     refine LM.rd (om_ldW Tryz.isAgg140 Tryz.sizeOf140 rfl rfl) ?_
     refine LM.stW Tryz.sizeOf140 rfl rfl rfl rfl (by first | rfl | decide | (simp; done)) (fun hlt => absurd hlt (by omega)) ?_
     refine LM.nil ?_
     refine QM.sub (e' := [(4, _)]) ⟨rfl, trivial⟩ ?_
     refine QM.then ?_
     refine wpM.ret ?_
     refine QM.then_ret ?_
     refine QM.block_ret ?_
     refine QM.then_ret ?_
     refine QM.block_ret ?_
     refine QM.then_ret ?_
     refine QM.leaveCs (ds := ([])) (.inl rfl) [.cell 4 140] Tryz.results92 hd_nil (rc_w rfl Tryz.isAgg140 Tryz.sizeOf140 rfl rc_nil) ?_
     intro w' hm' hc'
     have hq := hI.stop (by omega) (by rw [hyt]; exact stop_6 h3 h4); refine ⟨?_, hc'⟩; rw [hq]; show sV _ _ _ _ = _; congr 5
    ·
     refine wpM.skip ?_
     refine QM.then ?_
     refine wpM.seq ?_
     refine wpM.seq ?_
     refine wpM.region ?_
     refine LM.val (ov_field Tryz.underlying135 rfl Tryz.sizeOf3 rfl (k := 0) rfl rfl) ?_
     first | refine LM.rd (om_ld Tryz.isAgg3 rfl rfl) ?_
     refine LM.val (ov_eql rfl rfl) ?_
     refine LM.nil ?_
     refine QM.sub (e' := [(2, _), (4, _), (5, _), (6, _), (47, _)]) ⟨rfl, rfl, rfl, rfl, rfl, trivial⟩ ?_
     refine QM.then ?_
     refine wpM.condD rfl (fun h5 => ?_) (fun h5 => ?_)
     ·
      refine wpM.region ?_
      refine LM.val (ov_field Tryz.underlying140 rfl Tryz.sizeOf3 rfl (k := 3) rfl rfl) ?_
      first | refine LM.rd (om_ld Tryz.isAgg3 rfl rfl) ?_
      refine LM.val (ov_field Tryz.underlying135 rfl Tryz.sizeOf3 rfl (k := 1) rfl rfl) ?_
      first | refine LM.rd (om_ld Tryz.isAgg3 rfl rfl) ?_
      refine LM.val (ov_add64 rfl rfl (by omega)) ?_
      refine LM.val (ov_field Tryz.underlying140 rfl Tryz.sizeOf3 rfl (k := 3) rfl rfl) ?_
      refine LM.st Tryz.sizeOf3 rfl rfl rfl (by first | decide | exact Nat.le_of_ble_eq_true rfl | (simp; done) | (simp; omega)) rfl (fun hlt => absurd hlt (by omega)) ?_
      refine LM.nil ?_
      refine QM.sub (e' := [(2, _), (4, _), (5, _)]) ⟨rfl, rfl, rfl, trivial⟩ ?_
      refine QM.then ?_
      refine wpM.region ?_
      refine LM.val (ov_field Tryz.underlying140 rfl Tryz.sizeOf3 rfl (k := 1) rfl rfl) ?_
      first | refine LM.rd (om_ld Tryz.isAgg3 rfl rfl) ?_
      refine LM.val (ov_add64 rfl rfl (by omega)) ?_
      refine LM.val (ov_field Tryz.underlying140 rfl Tryz.sizeOf3 rfl (k := 1) rfl rfl) ?_
      refine LM.st Tryz.sizeOf3 rfl rfl rfl (by first | decide | exact Nat.le_of_ble_eq_true rfl | (simp; done) | (simp; omega)) rfl (fun hlt => absurd hlt (by omega)) ?_
      refine LM.nil ?_
      refine QM.sub (e' := [(2, _), (4, _), (5, _)]) ⟨rfl, rfl, rfl, trivial⟩ ?_
      refine QM.block_normal ?_
      refine QM.againK ((j + 1, to + 1, acc + (xs.getD to.toNat default).a)) ⟨rfl, rfl, rfl, trivial⟩ (by (repeat' (first | exact SubM.nil _ | refine SubM.cons rfl ?_ | refine SubM.app ?_))) (fun _ h => h) ?_ ?_
      · exact ⟨hI.step hsy (by omega) (by rw [hyt]; exact stop_no h2 (fun q => by first | exact h4 q.2 | exact h3 q.1)) (by rw [hyt, if_pos h5]), by push_cast; omega⟩
      · omega
     ·
      refine wpM.skip ?_
      refine QM.then ?_
      refine wpM.region ?_
      refine LM.val (ov_field Tryz.underlying140 rfl Tryz.sizeOf3 rfl (k := 1) rfl rfl) ?_
      first | refine LM.rd (om_ld Tryz.isAgg3 rfl rfl) ?_
      refine LM.val (ov_add64 rfl rfl (by omega)) ?_
      refine LM.val (ov_field Tryz.underlying140 rfl Tryz.sizeOf3 rfl (k := 1) rfl rfl) ?_
      refine LM.st Tryz.sizeOf3 rfl rfl rfl (by first | decide | exact Nat.le_of_ble_eq_true rfl | (simp; done) | (simp; omega)) rfl (fun hlt => absurd hlt (by omega)) ?_
      refine LM.nil ?_
      refine QM.sub (e' := [(2, _), (4, _), (5, _)]) ⟨rfl, rfl, rfl, trivial⟩ ?_
      refine QM.block_normal ?_
      refine QM.againK ((j + 1, to + 1, acc)) ⟨rfl, rfl, rfl, trivial⟩ (by (repeat' (first | exact SubM.nil _ | refine SubM.cons rfl ?_ | refine SubM.app ?_))) (fun _ h => h) ?_ ?_
      · exact ⟨hI.step hsy (by omega) (by rw [hyt]; exact stop_no h2 (fun q => by first | exact h4 q.2 | exact h3 q.1)) (by rw [hyt, if_neg h5]; omega), by push_cast; omega⟩
      · first | omega | (dsimp only; omega)
   ·
    refine LM.drop (t := 36) rfl rfl rfl ?_
    refine LM.drop (t := 36) rfl rfl rfl ?_
    refine LM.drop (t := 36) rfl rfl rfl ?_
    refine LM.drop (t := 36) rfl rfl rfl ?_
    refine LM.drop (t := 36) rfl rfl rfl ?_
    refine LM.strip (t := 32) rfl rfl rfl ?_
    refine LM.val (ov_pickF rfl rfl) ?_
    refine LM.val (ov_pickF rfl rfl) ?_
    refine LM.nil ?_
    refine QM.sub (e' := [(2, _), (4, _), (5, _), (6, _), (43, _)]) ⟨rfl, rfl, rfl, rfl, rfl, trivial⟩ ?_
    refine QM.then ?_
    refine wpM.condF rfl ?_
    refine wpM.skip ?_
    refine QM.then ?_
    refine wpM.seq ?_
    refine wpM.seq ?_
    refine wpM.region ?_
    refine LM.val (ov_field Tryz.underlying135 rfl Tryz.sizeOf3 rfl (k := 0) rfl rfl) ?_
    first | refine LM.rd (om_ld Tryz.isAgg3 rfl rfl) ?_
    refine LM.val (ov_eql rfl rfl) ?_
    refine LM.nil ?_
    refine QM.sub (e' := [(2, _), (4, _), (5, _), (6, _), (47, _)]) ⟨rfl, rfl, rfl, rfl, rfl, trivial⟩ ?_
    refine QM.then ?_
    refine wpM.condD rfl (fun h6 => ?_) (fun h6 => ?_)
    ·
     refine wpM.region ?_
     refine LM.val (ov_field Tryz.underlying140 rfl Tryz.sizeOf3 rfl (k := 3) rfl rfl) ?_
     first | refine LM.rd (om_ld Tryz.isAgg3 rfl rfl) ?_
     refine LM.val (ov_field Tryz.underlying135 rfl Tryz.sizeOf3 rfl (k := 1) rfl rfl) ?_
     first | refine LM.rd (om_ld Tryz.isAgg3 rfl rfl) ?_
     refine LM.val (ov_add64 rfl rfl (by omega)) ?_
     refine LM.val (ov_field Tryz.underlying140 rfl Tryz.sizeOf3 rfl (k := 3) rfl rfl) ?_
     refine LM.st Tryz.sizeOf3 rfl rfl rfl (by first | decide | exact Nat.le_of_ble_eq_true rfl | (simp; done) | (simp; omega)) rfl (fun hlt => absurd hlt (by omega)) ?_
     refine LM.nil ?_
     refine QM.sub (e' := [(2, _), (4, _), (5, _)]) ⟨rfl, rfl, rfl, trivial⟩ ?_
     refine QM.then ?_
     refine wpM.region ?_
     refine LM.val (ov_field Tryz.underlying140 rfl Tryz.sizeOf3 rfl (k := 1) rfl rfl) ?_
     first | refine LM.rd (om_ld Tryz.isAgg3 rfl rfl) ?_
     refine LM.val (ov_add64 rfl rfl (by omega)) ?_
     refine LM.val (ov_field Tryz.underlying140 rfl Tryz.sizeOf3 rfl (k := 1) rfl rfl) ?_
     refine LM.st Tryz.sizeOf3 rfl rfl rfl (by first | decide | exact Nat.le_of_ble_eq_true rfl | (simp; done) | (simp; omega)) rfl (fun hlt => absurd hlt (by omega)) ?_
     refine LM.nil ?_
     refine QM.sub (e' := [(2, _), (4, _), (5, _)]) ⟨rfl, rfl, rfl, trivial⟩ ?_
     refine QM.block_normal ?_
     refine QM.againK ((j + 1, to + 1, acc + (xs.getD to.toNat default).a)) ⟨rfl, rfl, rfl, trivial⟩ (by (repeat' (first | exact SubM.nil _ | refine SubM.cons rfl ?_ | refine SubM.app ?_))) (fun _ h => h) ?_ ?_
     · exact ⟨hI.step hsy (by omega) (by rw [hyt]; exact stop_no h2 (fun q => by first | exact h4 q.2 | exact h3 q.1)) (by rw [hyt, if_pos h6]), by push_cast; omega⟩
     · first | omega | (dsimp only; omega)
    ·
     refine wpM.skip ?_
     refine QM.then ?_
     refine wpM.region ?_
     refine LM.val (ov_field Tryz.underlying140 rfl Tryz.sizeOf3 rfl (k := 1) rfl rfl) ?_
     first | refine LM.rd (om_ld Tryz.isAgg3 rfl rfl) ?_
     refine LM.val (ov_add64 rfl rfl (by omega)) ?_
     refine LM.val (ov_field Tryz.underlying140 rfl Tryz.sizeOf3 rfl (k := 1) rfl rfl) ?_
     refine LM.st Tryz.sizeOf3 rfl rfl rfl (by first | decide | exact Nat.le_of_ble_eq_true rfl | (simp; done) | (simp; omega)) rfl (fun hlt => absurd hlt (by omega)) ?_
     refine LM.nil ?_
     refine QM.sub (e' := [(2, _), (4, _), (5, _)]) ⟨rfl, rfl, rfl, trivial⟩ ?_
     refine QM.block_normal ?_
     refine QM.againK ((j + 1, to + 1, acc)) ⟨rfl, rfl, rfl, trivial⟩ (by (repeat' (first | exact SubM.nil _ | refine SubM.cons rfl ?_ | refine SubM.app ?_))) (fun _ h => h) ?_ ?_
     · exact ⟨hI.step hsy (by omega) (by rw [hyt]; exact stop_no h2 (fun q => by first | exact h4 q.2 | exact h3 q.1)) (by rw [hyt, if_neg h6]; omega), by push_cast; omega⟩
     · first | omega | (dsimp only; omega)
 ·
  refine wpM.exit ?_
  refine QM.then_exit ?_
  refine QM.then_exit ?_
  refine QM.block_hit ?_
  refine QM.then ?_
  refine wpM.seq ?_
  refine wpM.region ?_
  refine LM.rd (om_ldW Tryz.isAgg140 Tryz.sizeOf140 rfl rfl) ?_
  refine LM.stW Tryz.sizeOf140 rfl rfl rfl rfl (by first | rfl | decide | (simp; done)) (fun hlt => absurd hlt (by omega)) ?_
  refine LM.nil ?_
  refine QM.sub (e' := [(4, _)]) ⟨rfl, trivial⟩ ?_
  refine QM.then ?_
  refine wpM.ret ?_
  refine QM.leaveCs (ds := ([])) (.inl rfl) [.cell 4 140] Tryz.results92 hd_nil (rc_w rfl Tryz.isAgg140 Tryz.sizeOf140 rfl rc_nil) ?_
  intro w' hm' hc'
  have hq := hI.fin (by omega); refine ⟨?_, hc'⟩; rw [hq]; show sV _ _ _ _ = _; congr 5; omega

end Go.Eng
set_option linter.unusedVariables false
set_option linter.unusedSimpArgs false
namespace Go.Eng
open Go Go.Proofs Go.RowKit

abbrev lBc (b : Nat) (ad : Option Addr) (n cap : Nat) : Nat × Obj := (b, .cells #[.slice ad n cap] 27 (0, 0))
abbrev iBc (b : Nat) (x : Int) : Nat × Obj := (b, .cells #[.int .i64 x] 3 (0, 0))
abbrev eBc (b : Nat) (x : Int) : Nat × Obj := (b, .cells #[.int .i64 x] 31 (0, 0))
def EachTc (fv : Bool) (ad : Option Addr) (n cap : Nat) (n0 : Nat) (v : Value) (m : Mem0) : Prop := ∃ b1, v = .func (.func 150) #[] #[.pointer (some ⟨b1, 0, none⟩)] ∧ m = [pB b1 fv ad n cap] ∧ n0 ≤ b1
theorem EachTc.mono {fv : Bool} {ad : Option Addr} {n cap : Nat} : ∀ (k k' : Nat) u m, k' ≤ k → EachTc fv ad n cap k u m → EachTc fv ad n cap k' u m := fun k k' u m h ⟨b1, h1, h2, h3⟩ => ⟨b1, h1, h2, by omega⟩
def SecsT (fv : Bool) (ad : Option Addr) (n cap : Nat) (n0 : Nat) (v : Value) (m : Mem0) : Prop := ∃ b1, v = .func (.func 99999) #[] #[.pointer (some ⟨b1, 0, none⟩)] ∧ m = [pB b1 fv ad n cap] ∧ n0 ≤ b1
theorem SecsT.mono {fv : Bool} {ad : Option Addr} {n cap : Nat} : ∀ (k k' : Nat) u m, k' ≤ k → SecsT fv ad n cap k u m → SecsT fv ad n cap k' u m := fun k k' u m h ⟨b1, h1, h2, h3⟩ => ⟨b1, h1, h2, by omega⟩
theorem fits_lt {T K : Bool} {q : Bool} {a : Int} {n : Nat} (hq : q = ((T || K) && decide (a ≥ n))) (h : q = false) (ht : T = true) : a < n := by
  rw [h, ht, Bool.true_or, Bool.true_and] at hq
  have := of_decide_eq_false hq.symm
  omega
set_option maxRecDepth 100000 in
set_option maxHeartbeats 1000000 in
theorem fits_spec {xs : List COp} {ls : List CLk} {fv : Bool} {ad ad2 : Option Addr} {n cap n2 cap2 : Nat} (i : Nat) (progs : Int) (w : World) (hn : n = xs.length) (hl : Sr fO 3 xs (.slice ad n cap) w) (hn2 : n2 = ls.length) (hl2 : Sr fL 5 ls (.slice ad2 n2 cap2) w) (hm0 : mayB xs = true) (hi : i < xs.length) : Ret Tryz.prog 130 #[pV fv ad n cap, .int .i64 (i : Nat), .slice ad2 n2 cap2, .int .i64 progs] w (fun v w' => v = .int .i64 (fitsO fv xs ls progs i) ∧ Ext w w') := by
 have hs := may_small hm0; have hr := right_a (may_at hm0 hi)
 refine Ret.enterM (l := [pV fv ad n cap, .int .i64 (i : Nat), .slice ad2 n2 cap2, .int .i64 progs]) Tryz.func130 rfl Tryz.ntmps130 rfl ([]) (no) (Mem.nil w) ?_
 refine wpM.seq ?_
 refine wpM.region ?_
 refine LM.box rfl rfl (fun b4 hb4 => ?_)
 refine LM.val (ov_assign rfl) ?_
 refine LM.nil ?_
 refine QM.sub (e' := [(1, _), (2, _), (3, _), (4, _)]) ⟨rfl, rfl, rfl, rfl, trivial⟩ ?_
 refine QM.then ?_
 refine wpM.seq ?_
 refine wpM.region ?_
 refine LM.val (ov_field Tryz.underlying87 rfl Tryz.sizeOf85 rfl (k := 1) rfl rfl) ?_
 first | refine LM.rd (om_ld Tryz.isAgg85 rfl rfl) ?_
 refine LM.val (ov_move rfl) ?_
 refine LM.val (ov_idxSN (by first | exact Sr.spt (by assumption) | exact Sl.spt (by assumption)) Tryz.underlying85 Tryz.sizeOf135 rfl rfl (by omega)) ?_
 first | refine LM.rd (om_slA (by assumption) (by intro _; rfl) Tryz.isAgg135 Tryz.sizeOf135 rfl (by exact getq default (by first | omega | (simp only [List.length_set, List.length_append, List.length_cons, List.length_nil]; omega)))) ?_ | refine LM.rdC (om_srEA (by assumption) (by intro _; rfl) Tryz.isAgg135 Tryz.sizeOf135 rfl (by exact getq default (by first | omega | (simp only [List.length_set, List.length_append, List.length_cons, List.length_nil]; omega))) id) ?_ | refine LM.rd (om_ldW Tryz.isAgg135 Tryz.sizeOf135 rfl rfl) ?_ | refine LM.rd (om_ldA Tryz.isAgg135 Tryz.sizeOf135 rfl (vs := [_, _, _]) rfl ⟨rfl, rfl, rfl, trivial⟩) ?_
 refine LM.alloc Tryz.zeroValue135 rfl (fun b9 hb9 => ?_)
 refine LM.stW Tryz.sizeOf135 rfl rfl rfl rfl (by first | rfl | decide | (simp; done)) (fun hlt => absurd hlt (by omega)) ?_
 refine LM.nil ?_
 refine QM.sub (e' := [(1, _), (2, _), (3, _), (4, _), (9, _)]) ⟨rfl, rfl, rfl, rfl, rfl, trivial⟩ ?_
 refine QM.then ?_
 refine wpM.seq ?_
 refine wpM.region ?_
 refine LM.val (ov_field Tryz.underlying135 rfl Tryz.sizeOf3 rfl (k := 0) rfl rfl) ?_
 first | refine LM.rd (om_ld Tryz.isAgg3 rfl rfl) ?_
 refine LM.callE (oc_call (enters_fn Tryz.func151 (by kernel_rfl) rfl) rfl) (fun w hm hc hg => takes_spec _ w) ?_
 refine LM.val (ov_assign rfl) ?_
 refine LM.nil ?_
 refine QM.sub (e' := [(1, _), (2, _), (3, _), (4, _), (9, _), (10, _)]) ⟨rfl, rfl, rfl, rfl, rfl, rfl, trivial⟩ ?_
 refine QM.then ?_
 refine wpM.seq ?_
 refine wpM.block ?_
 refine wpM.seq ?_
 refine wpM.seq ?_
 refine wpM.joinK (α := Bool) (fun q => [(20, .bool q)]) [(1, _), (2, _), (3, _), (4, _), (9, _), (10, _)] (fun q => oB b9 (xs.getD i default) :: pB b4 fv ad n cap :: []) (fun q => q = ((takesB (xs.getD i default).k || decide ((xs.getD i default).k = 6)) && decide ((xs.getD i default).a ≥ n2))) ⟨rfl, rfl, rfl, rfl, rfl, rfl, trivial⟩ ?_ ?_
 ·
  refine wpM.region ?_
  refine LM.val (ov_move rfl) ?_
  refine LM.val (ov_move rfl) ?_
  first | refine LM.splitD (t := 22) rfl (fun h1 => ?_) (fun h1 => ?_) | refine LM.splitB (t := 22) rfl (fun h1 => ?_) (fun h1 => ?_)
  ·
   refine LM.drop (t := 22) rfl rfl rfl ?_
   refine LM.drop (t := 22) rfl rfl rfl ?_
   refine LM.drop (t := 22) rfl rfl rfl ?_
   refine LM.val (ov_pickT rfl rfl) ?_
   refine LM.val (ov_move rfl) ?_
   refine LM.strip (t := 27) rfl rfl rfl ?_
   refine LM.val (ov_field Tryz.underlying135 rfl Tryz.sizeOf3 rfl (k := 1) rfl rfl) ?_
   refine LM.strip (t := 27) rfl rfl rfl ?_
   first | refine LM.rd (om_ld Tryz.isAgg3 rfl rfl) ?_
   refine LM.strip (t := 27) rfl rfl rfl ?_
   refine LM.val (ov_move rfl) ?_
   refine LM.strip (t := 27) rfl rfl rfl ?_
   refine LM.val (ov_len Tryz.underlying27 rfl) ?_
   refine LM.strip (t := 27) rfl rfl rfl ?_
   refine LM.val (ov_geq rfl rfl) ?_
   refine LM.val (ov_pickT rfl rfl) ?_
   refine LM.val (ov_assign rfl) ?_
   refine LM.nil ?_
   refine QM.sub (e' := [(1, _), (2, _), (3, _), (4, _), (9, _), (10, _), (20, _)]) ⟨rfl, rfl, rfl, rfl, rfl, rfl, rfl, trivial⟩ ?_
   refine QM.meetK (_) ⟨(by first | rfl | exact lk rfl (by congr 1; omega) | exact lk rfl (by simp)), rfl, rfl, rfl, rfl, rfl, rfl, trivial⟩ (by (repeat' (first | exact SubM.nil _ | refine SubM.cons rfl ?_ | refine SubM.app ?_))) ?_
   · simp only [h1, decide_true, decide_false, Bool.true_and, Bool.false_and, Bool.and_true, Bool.and_false, Bool.not_true, Bool.not_false, Bool.true_or, Bool.false_or, Bool.or_true, Bool.or_false, ne_eq, not_true_eq_false, not_false_eq_true, Bool.and_self]
  ·
   refine LM.strip (t := 22) rfl rfl rfl ?_
   refine LM.val (ov_field Tryz.underlying135 rfl Tryz.sizeOf3 rfl (k := 0) rfl rfl) ?_
   refine LM.strip (t := 22) rfl rfl rfl ?_
   first | refine LM.rd (om_ld Tryz.isAgg3 rfl rfl) ?_
   refine LM.strip (t := 22) rfl rfl rfl ?_
   refine LM.val (ov_eql rfl rfl) ?_
   refine LM.val (ov_pickF rfl rfl) ?_
   refine LM.val (ov_move rfl) ?_
   refine LM.splitD (t := 27) rfl (fun h2 => ?_) (fun h2 => ?_)
   ·
    refine LM.strip (t := 27) rfl rfl rfl ?_
    refine LM.val (ov_field Tryz.underlying135 rfl Tryz.sizeOf3 rfl (k := 1) rfl rfl) ?_
    refine LM.strip (t := 27) rfl rfl rfl ?_
    first | refine LM.rd (om_ld Tryz.isAgg3 rfl rfl) ?_
    refine LM.strip (t := 27) rfl rfl rfl ?_
    refine LM.val (ov_move rfl) ?_
    refine LM.strip (t := 27) rfl rfl rfl ?_
    refine LM.val (ov_len Tryz.underlying27 rfl) ?_
    refine LM.strip (t := 27) rfl rfl rfl ?_
    refine LM.val (ov_geq rfl rfl) ?_
    refine LM.val (ov_pickT rfl rfl) ?_
    refine LM.val (ov_assign rfl) ?_
    refine LM.nil ?_
    refine QM.sub (e' := [(1, _), (2, _), (3, _), (4, _), (9, _), (10, _), (20, _)]) ⟨rfl, rfl, rfl, rfl, rfl, rfl, rfl, trivial⟩ ?_
    refine QM.meetK (_) ⟨(by first | rfl | exact lk rfl (by congr 1; omega) | exact lk rfl (by simp)), rfl, rfl, rfl, rfl, rfl, rfl, trivial⟩ (by (repeat' (first | exact SubM.nil _ | refine SubM.cons rfl ?_ | refine SubM.app ?_))) ?_
    · simp only [h1, h2, decide_true, decide_false, Bool.true_and, Bool.false_and, Bool.and_true, Bool.and_false, Bool.not_true, Bool.not_false, Bool.true_or, Bool.false_or, Bool.or_true, Bool.or_false, ne_eq, not_true_eq_false, not_false_eq_true, Bool.and_self]
   ·
    refine LM.drop (t := 27) rfl rfl rfl ?_
    refine LM.drop (t := 27) rfl rfl rfl ?_
    refine LM.drop (t := 27) rfl rfl rfl ?_
    refine LM.drop (t := 27) rfl rfl rfl ?_
    refine LM.drop (t := 27) rfl rfl rfl ?_
    refine LM.val (ov_pickF rfl rfl) ?_
    refine LM.val (ov_assign rfl) ?_
    refine LM.nil ?_
    refine QM.sub (e' := [(1, _), (2, _), (3, _), (4, _), (9, _), (10, _), (20, _)]) ⟨rfl, rfl, rfl, rfl, rfl, rfl, rfl, trivial⟩ ?_
    refine QM.meetK (_) ⟨(by first | rfl | exact lk rfl (by congr 1; omega) | exact lk rfl (by simp)), rfl, rfl, rfl, rfl, rfl, rfl, trivial⟩ (by (repeat' (first | exact SubM.nil _ | refine SubM.cons rfl ?_ | refine SubM.app ?_))) ?_
    · simp only [h1, h2, decide_true, decide_false, Bool.true_and, Bool.false_and, Bool.and_true, Bool.and_false, Bool.not_true, Bool.not_false, Bool.true_or, Bool.false_or, Bool.or_true, Bool.or_false, ne_eq, not_true_eq_false, not_false_eq_true, Bool.and_self]
 ·
  rintro q hq
  change QM _ _ _ _ _ (oB b9 (xs.getD i default) :: pB b4 fv ad n cap :: []) _ _ _
  refine QM.then ?_
  first | refine wpM.condXD (t := 20) rfl (fun h3 => ?_) (fun h3 => ?_) | refine wpM.condXB (t := 20) rfl (fun h3 => ?_) (fun h3 => ?_)
  ·
   refine wpM.skip ?_
   refine QM.then ?_
   refine wpM.condT rfl ?_
   refine wpM.seq ?_
   refine wpM.region ?_
   refine LM.val (ov_assign rfl) ?_
   refine LM.nil ?_
   refine QM.sub (e' := [(8, _)]) ⟨rfl, trivial⟩ ?_
   refine QM.then ?_
   refine wpM.ret ?_
   refine QM.block_ret ?_
   refine QM.then_ret ?_
   refine QM.leave (.inl rfl) [.tmp 8] Tryz.results130 rfl ?_
   intro w' hm' hc' hg'
   refine ⟨?_, hc'⟩; simp only [resV, fitsO, ← hn, ← hn2, ← hq]; simp only [h3, decide_true, decide_false, Bool.true_and, Bool.false_and, Bool.and_true, Bool.and_false, Bool.not_true, Bool.not_false, Bool.true_or, Bool.false_or, Bool.or_true, Bool.or_false, ne_eq, not_true_eq_false, not_false_eq_true, Bool.and_self, if_true, ite_true]
  ·
   refine wpM.joinK (α := Bool) (fun q2 => [(20, .bool q2)]) [(1, _), (2, _), (4, _), (9, _), (10, _)] (fun q2 => oB b9 (xs.getD i default) :: pB b4 fv ad n cap :: []) (fun q2 => q2 = (decide ((xs.getD i default).k = 9) && decide ((xs.getD i default).a ≥ progs))) ⟨rfl, rfl, rfl, rfl, rfl, trivial⟩ ?_ ?_
   ·
    refine wpM.region ?_
    refine LM.val (ov_field Tryz.underlying135 rfl Tryz.sizeOf3 rfl (k := 0) rfl rfl) ?_
    first | refine LM.rd (om_ld Tryz.isAgg3 rfl rfl) ?_
    refine LM.val (ov_eql rfl rfl) ?_
    refine LM.val (ov_move rfl) ?_
    refine LM.splitD (t := 37) rfl (fun h4 => ?_) (fun h4 => ?_)
    ·
     refine LM.strip (t := 37) rfl rfl rfl ?_
     refine LM.val (ov_field Tryz.underlying135 rfl Tryz.sizeOf3 rfl (k := 1) rfl rfl) ?_
     refine LM.strip (t := 37) rfl rfl rfl ?_
     first | refine LM.rd (om_ld Tryz.isAgg3 rfl rfl) ?_
     refine LM.strip (t := 37) rfl rfl rfl ?_
     refine LM.val (ov_move rfl) ?_
     refine LM.strip (t := 37) rfl rfl rfl ?_
     refine LM.val (ov_geq rfl rfl) ?_
     refine LM.val (ov_pickT rfl rfl) ?_
     refine LM.val (ov_assign rfl) ?_
     refine LM.nil ?_
     refine QM.sub (e' := [(1, _), (2, _), (4, _), (9, _), (10, _), (20, _)]) ⟨rfl, rfl, rfl, rfl, rfl, rfl, trivial⟩ ?_
     refine QM.meetK (_) ⟨(by first | rfl | exact lk rfl (by congr 1; omega) | exact lk rfl (by simp)), rfl, rfl, rfl, rfl, rfl, trivial⟩ (by (repeat' (first | exact SubM.nil _ | refine SubM.cons rfl ?_ | refine SubM.app ?_))) ?_
     · simp only [h3, h4, decide_true, decide_false, Bool.true_and, Bool.false_and, Bool.and_true, Bool.and_false, Bool.not_true, Bool.not_false, Bool.true_or, Bool.false_or, Bool.or_true, Bool.or_false, ne_eq, not_true_eq_false, not_false_eq_true, Bool.and_self]
    ·
     refine LM.drop (t := 37) rfl rfl rfl ?_
     refine LM.drop (t := 37) rfl rfl rfl ?_
     refine LM.drop (t := 37) rfl rfl rfl ?_
     refine LM.drop (t := 37) rfl rfl rfl ?_
     refine LM.val (ov_pickF rfl rfl) ?_
     refine LM.val (ov_assign rfl) ?_
     refine LM.nil ?_
     refine QM.sub (e' := [(1, _), (2, _), (4, _), (9, _), (10, _), (20, _)]) ⟨rfl, rfl, rfl, rfl, rfl, rfl, trivial⟩ ?_
     refine QM.meetK (_) ⟨(by first | rfl | exact lk rfl (by congr 1; omega) | exact lk rfl (by simp)), rfl, rfl, rfl, rfl, rfl, trivial⟩ (by (repeat' (first | exact SubM.nil _ | refine SubM.cons rfl ?_ | refine SubM.app ?_))) ?_
     · simp only [h3, h4, decide_true, decide_false, Bool.true_and, Bool.false_and, Bool.and_true, Bool.and_false, Bool.not_true, Bool.not_false, Bool.true_or, Bool.false_or, Bool.or_true, Bool.or_false, ne_eq, not_true_eq_false, not_false_eq_true, Bool.and_self]
   ·
    rintro q2 hq2
    change QM _ _ _ _ _ (oB b9 (xs.getD i default) :: pB b4 fv ad n cap :: []) _ _ _
    refine QM.then ?_
    first | refine wpM.condD rfl (fun h5 => ?_) (fun h5 => ?_) | refine wpM.condB rfl (fun h5 => ?_) (fun h5 => ?_)
    ·
     refine wpM.seq ?_
     refine wpM.region ?_
     refine LM.val (ov_assign rfl) ?_
     refine LM.nil ?_
     refine QM.sub (e' := [(8, _)]) ⟨rfl, trivial⟩ ?_
     refine QM.then ?_
     refine wpM.ret ?_
     refine QM.block_ret ?_
     refine QM.then_ret ?_
     refine QM.leave (.inl rfl) [.tmp 8] Tryz.results130 rfl ?_
     intro w' hm' hc' hg'
     refine ⟨?_, hc'⟩; simp only [resV, fitsO, ← hn, ← hn2, ← hq, ← hq2]; simp only [h3, h5, decide_true, decide_false, Bool.true_and, Bool.false_and, Bool.and_true, Bool.and_false, Bool.not_true, Bool.not_false, Bool.true_or, Bool.false_or, Bool.or_true, Bool.or_false, ne_eq, not_true_eq_false, not_false_eq_true, Bool.and_self, if_true, ite_true]
    ·
     refine wpM.seq ?_
     refine wpM.joinK (α := Bool) (fun q3 => [(43, .bool q3)]) [(1, _), (2, _), (4, _), (9, _), (10, _)] (fun q3 => oB b9 (xs.getD i default) :: pB b4 fv ad n cap :: []) (fun q3 => q3 = (decide ((xs.getD i default).k = 3) && !(ls.getD (xs.getD i default).a.toNat default).sh)) ⟨rfl, rfl, rfl, rfl, rfl, trivial⟩ ?_ ?_
     ·
      refine wpM.region ?_
      refine LM.val (ov_field Tryz.underlying135 rfl Tryz.sizeOf3 rfl (k := 0) rfl rfl) ?_
      first | refine LM.rd (om_ld Tryz.isAgg3 rfl rfl) ?_
      refine LM.val (ov_eql rfl rfl) ?_
      refine LM.val (ov_move rfl) ?_
      refine LM.splitD (t := 47) rfl (fun h6 => ?_) (fun h6 => ?_)
      ·
       have hlt := fits_lt hq h3 (by rw [h6]; rfl)
       refine LM.strip (t := 47) rfl rfl rfl ?_
       refine LM.val (ov_move rfl) ?_
       refine LM.strip (t := 47) rfl rfl rfl ?_
       refine LM.val (ov_field Tryz.underlying135 rfl Tryz.sizeOf3 rfl (k := 1) rfl rfl) ?_
       refine LM.strip (t := 47) rfl rfl rfl ?_
       first | refine LM.rd (om_ld Tryz.isAgg3 rfl rfl) ?_
       refine LM.strip (t := 47) rfl rfl rfl ?_
       first | refine LM.val (ov_idxSN (by first | exact Sr.spt (by assumption) | exact Sl.spt (by assumption)) Tryz.underlying27 Tryz.sizeOf63 rfl rfl (by omega)) ?_ | refine LM.val (ov_idxS (by first | exact Sr.spt (by assumption) | exact Sl.spt (by assumption)) Tryz.underlying27 Tryz.sizeOf63 rfl rfl (by omega)) ?_ | refine LM.val (ov_idx Tryz.underlying27 Tryz.sizeOf63 rfl rfl (by omega)) ?_
       refine LM.strip (t := 47) rfl rfl rfl ?_
       refine LM.val (ov_field Tryz.underlying63 rfl Tryz.sizeOf4 rfl (k := 0) rfl rfl) ?_
       refine LM.strip (t := 47) rfl rfl rfl ?_
       first | refine LM.rd (om_slE (j := 0) (by assumption) (by intro _; rfl) Tryz.isAgg4 rfl rfl (by exact getq default (by first | omega | (simp only [List.length_set, List.length_append, List.length_cons, List.length_nil]; omega))) rfl (by rfl)) ?_ | refine LM.rdC (om_srE (j := 0) (by assumption) Tryz.isAgg4 rfl rfl (by exact getq default (by first | omega | (simp only [List.length_set, List.length_append, List.length_cons, List.length_nil]; omega))) (by rfl) (by rfl) id) ?_ | refine LM.rd (om_ld Tryz.isAgg4 rfl rfl) ?_
       refine LM.strip (t := 47) rfl rfl rfl ?_
       first | refine LM.val (ov_notD rfl) ?_ | refine LM.val (ov_not rfl) ?_
       refine LM.val (ov_pickT rfl rfl) ?_
       refine LM.val (ov_assign rfl) ?_
       refine LM.nil ?_
       refine QM.sub (e' := [(1, _), (2, _), (4, _), (9, _), (10, _), (43, _)]) ⟨rfl, rfl, rfl, rfl, rfl, rfl, trivial⟩ ?_
       refine QM.meetK (_) ⟨(by first | rfl | exact lk rfl (by congr 1; omega) | exact lk rfl (by simp)), rfl, rfl, rfl, rfl, rfl, trivial⟩ (by (repeat' (first | exact SubM.nil _ | refine SubM.cons rfl ?_ | refine SubM.app ?_))) ?_
       · simp only [h3, h5, h6, decide_true, decide_false, Bool.true_and, Bool.false_and, Bool.and_true, Bool.and_false, Bool.not_true, Bool.not_false, Bool.true_or, Bool.false_or, Bool.or_true, Bool.or_false, ne_eq, not_true_eq_false, not_false_eq_true, Bool.and_self]
      ·
       refine LM.drop (t := 47) rfl rfl rfl ?_
       refine LM.drop (t := 47) rfl rfl rfl ?_
       refine LM.drop (t := 47) rfl rfl rfl ?_
       refine LM.drop (t := 47) rfl rfl rfl ?_
       refine LM.drop (t := 47) rfl rfl rfl ?_
       refine LM.drop (t := 47) rfl rfl rfl ?_
       refine LM.drop (t := 47) rfl rfl rfl ?_
       refine LM.val (ov_pickF rfl rfl) ?_
       refine LM.val (ov_assign rfl) ?_
       refine LM.nil ?_
       refine QM.sub (e' := [(1, _), (2, _), (4, _), (9, _), (10, _), (43, _)]) ⟨rfl, rfl, rfl, rfl, rfl, rfl, trivial⟩ ?_
       refine QM.meetK (_) ⟨(by first | rfl | exact lk rfl (by congr 1; omega) | exact lk rfl (by simp)), rfl, rfl, rfl, rfl, rfl, trivial⟩ (by (repeat' (first | exact SubM.nil _ | refine SubM.cons rfl ?_ | refine SubM.app ?_))) ?_
       · simp only [h3, h5, h6, decide_true, decide_false, Bool.true_and, Bool.false_and, Bool.and_true, Bool.and_false, Bool.not_true, Bool.not_false, Bool.true_or, Bool.false_or, Bool.or_true, Bool.or_false, ne_eq, not_true_eq_false, not_false_eq_true, Bool.and_self]
     ·
      rintro q3 hq3
      change QM _ _ _ _ _ (oB b9 (xs.getD i default) :: pB b4 fv ad n cap :: []) _ _ _
      refine QM.then ?_
      first | refine wpM.condD rfl (fun h7 => ?_) (fun h7 => ?_) | refine wpM.condB rfl (fun h7 => ?_) (fun h7 => ?_)
      ·
       refine wpM.seq ?_
       refine wpM.region ?_
       refine LM.val (ov_assign rfl) ?_
       refine LM.nil ?_
       refine QM.sub (e' := [(8, _)]) ⟨rfl, trivial⟩ ?_
       refine QM.then ?_
       refine wpM.ret ?_
       refine QM.block_ret ?_
       refine QM.then_ret ?_
       refine QM.leave (.inl rfl) [.tmp 8] Tryz.results130 rfl ?_
       intro w' hm' hc' hg'
       refine ⟨?_, hc'⟩; simp only [resV, fitsO, ← hn, ← hn2, ← hq, ← hq2, ← hq3]; simp only [h3, h5, h7, decide_true, decide_false, Bool.true_and, Bool.false_and, Bool.and_true, Bool.and_false, Bool.not_true, Bool.not_false, Bool.true_or, Bool.false_or, Bool.or_true, Bool.or_false, ne_eq, not_true_eq_false, not_false_eq_true, Bool.and_self, if_true, if_false, ite_true, Bool.false_eq_true]
      ·
       refine wpM.seq ?_
       refine wpM.region ?_
       refine LM.val (ov_move rfl) ?_
       first | refine LM.val (ov_notD rfl) ?_ | refine LM.val (ov_not rfl) ?_
       refine LM.val (ov_assign rfl) ?_
       refine LM.nil ?_
       refine QM.sub (e' := [(1, _), (2, _), (4, _), (9, _), (56, _)]) ⟨rfl, rfl, rfl, rfl, rfl, trivial⟩ ?_
       refine QM.then ?_
       first | refine wpM.condD rfl (fun h8 => ?_) (fun h8 => ?_) | refine wpM.condB rfl (fun h8 => ?_) (fun h8 => ?_)
       ·
        refine wpM.seq ?_
        refine wpM.region ?_
        refine LM.val (ov_assign rfl) ?_
        refine LM.nil ?_
        refine QM.sub (e' := [(8, _)]) ⟨rfl, trivial⟩ ?_
        refine QM.then ?_
        refine wpM.ret ?_
        refine QM.block_ret ?_
        refine QM.then_ret ?_
        refine QM.leave (.inl rfl) [.tmp 8] Tryz.results130 rfl ?_
        intro w' hm' hc' hg'
        refine ⟨?_, hc'⟩; simp only [resV, fitsO, ← hn, ← hn2, ← hq, ← hq2, ← hq3]; simp only [h3, h5, h7, h8, decide_true, decide_false, Bool.true_and, Bool.false_and, Bool.and_true, Bool.and_false, Bool.not_true, Bool.not_false, Bool.true_or, Bool.false_or, Bool.or_true, Bool.or_false, ne_eq, not_true_eq_false, not_false_eq_true, Bool.and_self, if_true, if_false, ite_true, Bool.false_eq_true]
       ·
        have hlt := fits_lt hq h3 (by simpa using h8)
        refine wpM.skip ?_
        refine QM.block_normal ?_
        refine QM.then ?_
        refine wpM.seq ?_
        refine wpM.region ?_
        refine LM.rd (om_ldW Tryz.isAgg87 Tryz.sizeOf87 rfl rfl) ?_
        refine LM.val (ov_move rfl) ?_
        refine LM.callE (oc_call (enters_fn Tryz.func152 (by kernel_rfl) rfl) rfl) (fun w hm hc hg => section_spec i w hn (hl.ext hc) hs hi) ?_
        refine LM.alloc Tryz.zeroValue140 rfl (fun b11 hb11 => ?_)
        refine LM.stW Tryz.sizeOf140 rfl rfl rfl rfl (by first | rfl | decide | (simp; done)) (fun hlt => absurd hlt (by omega)) ?_
        refine LM.nil ?_
        refine QM.sub (e' := [(2, _), (4, _), (9, _), (11, _)]) ⟨rfl, rfl, rfl, rfl, trivial⟩ ?_
        refine QM.then ?_
        refine wpM.seq ?_
        refine wpM.seq ?_
        refine wpM.joinK (α := Bool) (fun q4 => [(87, .bool q4)]) [] (fun q4 => []) (fun q4 => q4 = (decide ((secO xs i).2 < 1) || decide ((secO xs i).2 > (ls.getD (xs.getD i default).a.toNat default).cr) || fv && decide (((i + 1 + (secO xs i).1 : Nat) : Int) = n))) trivial ?_ ?_
        ·
         refine wpM.draw [(0, 0), (1, 1), (2, 0), (3, 0), (4, 0), (5, 1), (6, 0), (7, 0), (8, 1), (9, 0), (10, 0), (11, 1), (12, 0), (13, 0), (14, 0), (15, 0), (16, 1), (17, 0), (18, 0), (19, 1), (20, 0), (21, 1), (22, 0), (23, 0), (24, 0), (25, 0)] (by kernel_rfl) (by kernel_rfl) ?_
         refine LD.val rfl rfl (ov_field Tryz.underlying140 rfl Tryz.sizeOf3 rfl (k := 3) rfl rfl) ?_
         first | refine LD.rd rfl rfl (om_ld Tryz.isAgg3 rfl rfl) ?_
         refine LD.val rfl rfl (ov_lss rfl rfl) ?_
         refine LD.val rfl rfl (ov_move rfl) ?_
         refine LD.splitD (t := 65) rfl (fun h9 => ?_) (fun h9 => ?_)
         ·
          refine LD.drop rfl rfl ⟨65, _, rfl, rfl, rfl⟩ ?_
          refine LD.drop rfl rfl ⟨65, _, rfl, rfl, rfl⟩ ?_
          refine LD.drop rfl rfl ⟨65, _, rfl, rfl, rfl⟩ ?_
          refine LD.drop rfl rfl ⟨65, _, rfl, rfl, rfl⟩ ?_
          refine LD.drop rfl rfl ⟨65, _, rfl, rfl, rfl⟩ ?_
          refine LD.drop rfl rfl ⟨65, _, rfl, rfl, rfl⟩ ?_
          refine LD.drop rfl rfl ⟨65, _, rfl, rfl, rfl⟩ ?_
          refine LD.drop rfl rfl ⟨65, _, rfl, rfl, rfl⟩ ?_
          refine LD.drop rfl rfl ⟨65, _, rfl, rfl, rfl⟩ ?_
          refine LD.val rfl rfl (ov_pickT rfl rfl) ?_
          refine LD.val rfl rfl (ov_move rfl) ?_
          refine LD.drop rfl rfl ⟨76, _, rfl, rfl, rfl⟩ ?_
          refine LD.drop rfl rfl ⟨76, _, rfl, rfl, rfl⟩ ?_
          refine LD.dropU rfl rfl ⟨76, _, rfl, rfl, rfl⟩ ?_
          refine LD.dropX rfl rfl rfl rfl ?_
          refine LD.dropX rfl rfl rfl rfl ?_
          refine LD.dropX rfl rfl rfl rfl ?_
          refine LD.dropX rfl rfl rfl rfl ?_
          refine LD.dropX rfl rfl rfl rfl ?_
          refine LD.dropX rfl rfl rfl rfl ?_
          refine LD.drop rfl rfl ⟨76, _, rfl, rfl, rfl⟩ ?_
          refine LD.val rfl rfl (ov_pickT rfl rfl) ?_
          refine LD.nil ?_
          refine QM.sub (e' := [(87, _)]) ⟨rfl, trivial⟩ ?_
          refine QM.meetK (_) ⟨(by first | rfl | exact lk rfl (by congr 1; omega) | exact lk rfl (by simp)), trivial⟩ (by (repeat' (first | exact SubM.nil _ | refine SubM.cons rfl ?_ | refine SubM.app ?_))) ?_
          · simp only [h3, h5, h7, h8, h9, decide_true, decide_false, Bool.true_and, Bool.false_and, Bool.and_true, Bool.and_false, Bool.not_true, Bool.not_false, Bool.true_or, Bool.false_or, Bool.or_true, Bool.or_false, ne_eq, not_true_eq_false, not_false_eq_true, Bool.and_self]
         ·
          refine LD.val rfl ⟨65, _, rfl, rfl, rfl⟩ (ov_field Tryz.underlying140 rfl Tryz.sizeOf3 rfl (k := 3) rfl rfl) ?_
          first | refine LD.rd rfl ⟨65, _, rfl, rfl, rfl⟩ (om_ld Tryz.isAgg3 rfl rfl) ?_
          refine LD.val rfl ⟨65, _, rfl, rfl, rfl⟩ (ov_move rfl) ?_
          refine LD.val rfl ⟨65, _, rfl, rfl, rfl⟩ (ov_field Tryz.underlying135 rfl Tryz.sizeOf3 rfl (k := 1) rfl rfl) ?_
          first | refine LD.rd rfl ⟨65, _, rfl, rfl, rfl⟩ (om_ld Tryz.isAgg3 rfl rfl) ?_
          first | refine LD.val rfl ⟨65, _, rfl, rfl, rfl⟩ (ov_idxSN (by first | exact Sr.spt (by assumption) | exact Sl.spt (by assumption)) Tryz.underlying27 Tryz.sizeOf63 rfl rfl (by omega)) ?_ | refine LD.val rfl ⟨65, _, rfl, rfl, rfl⟩ (ov_idxS (by first | exact Sr.spt (by assumption) | exact Sl.spt (by assumption)) Tryz.underlying27 Tryz.sizeOf63 rfl rfl (by omega)) ?_ | refine LD.val rfl ⟨65, _, rfl, rfl, rfl⟩ (ov_idx Tryz.underlying27 Tryz.sizeOf63 rfl rfl (by omega)) ?_
          refine LD.val rfl ⟨65, _, rfl, rfl, rfl⟩ (ov_field Tryz.underlying63 rfl Tryz.sizeOf3 rfl (k := 2) rfl rfl) ?_
          first | refine LD.rd rfl ⟨65, _, rfl, rfl, rfl⟩ (om_slE (j := 2) (by assumption) (by intro _; rfl) Tryz.isAgg3 rfl rfl (by exact getq default (by first | omega | (simp only [List.length_set, List.length_append, List.length_cons, List.length_nil]; omega))) rfl (by rfl)) ?_ | refine LD.rdC rfl ⟨65, _, rfl, rfl, rfl⟩ (om_srE (j := 2) (by assumption) Tryz.isAgg3 rfl rfl (by exact getq default (by first | omega | (simp only [List.length_set, List.length_append, List.length_cons, List.length_nil]; omega))) (by rfl) (by rfl) id) ?_ | refine LD.rd rfl ⟨65, _, rfl, rfl, rfl⟩ (om_ld Tryz.isAgg3 rfl rfl) ?_
          refine LD.val rfl ⟨65, _, rfl, rfl, rfl⟩ (ov_gtr rfl rfl) ?_
          refine LD.val rfl rfl (ov_pickF rfl rfl) ?_
          refine LD.val rfl rfl (ov_move rfl) ?_
          refine LD.splitD (t := 76) rfl (fun h10 => ?_) (fun h10 => ?_)
          ·
           refine LD.drop rfl rfl ⟨76, _, rfl, rfl, rfl⟩ ?_
           refine LD.drop rfl rfl ⟨76, _, rfl, rfl, rfl⟩ ?_
           refine LD.dropU rfl rfl ⟨76, _, rfl, rfl, rfl⟩ ?_
           refine LD.dropX rfl rfl rfl rfl ?_
           refine LD.dropX rfl rfl rfl rfl ?_
           refine LD.dropX rfl rfl rfl rfl ?_
           refine LD.dropX rfl rfl rfl rfl ?_
           refine LD.dropX rfl rfl rfl rfl ?_
           refine LD.dropX rfl rfl rfl rfl ?_
           refine LD.drop rfl rfl ⟨76, _, rfl, rfl, rfl⟩ ?_
           refine LD.val rfl rfl (ov_pickT rfl rfl) ?_
           refine LD.nil ?_
           refine QM.sub (e' := [(87, _)]) ⟨rfl, trivial⟩ ?_
           refine QM.meetK (_) ⟨(by first | rfl | exact lk rfl (by congr 1; omega) | exact lk rfl (by simp)), trivial⟩ (by (repeat' (first | exact SubM.nil _ | refine SubM.cons rfl ?_ | refine SubM.app ?_))) ?_
           · simp only [h3, h5, h7, h8, h9, h10, decide_true, decide_false, Bool.true_and, Bool.false_and, Bool.and_true, Bool.and_false, Bool.not_true, Bool.not_false, Bool.true_or, Bool.false_or, Bool.or_true, Bool.or_false, ne_eq, not_true_eq_false, not_false_eq_true, Bool.and_self]
          ·
           refine LD.val rfl ⟨76, _, rfl, rfl, rfl⟩ (ov_field Tryz.underlying87 rfl Tryz.sizeOf4 rfl (k := 0) rfl rfl) ?_
           first | refine LD.rd rfl ⟨76, _, rfl, rfl, rfl⟩ (om_ld Tryz.isAgg4 rfl rfl) ?_
           refine LD.val rfl ⟨76, _, rfl, rfl, rfl⟩ (ov_move rfl) ?_
           first | refine LD.splitD (t := 79) rfl (fun h11 => ?_) (fun h11 => ?_) | refine LD.splitB (t := 79) rfl (fun h11 => ?_) (fun h11 => ?_)
           ·
            refine LD.val rfl ⟨79, _, rfl, rfl, rfl⟩ (ov_field Tryz.underlying140 rfl Tryz.sizeOf3 rfl (k := 1) rfl rfl) ?_
            first | refine LD.rd rfl ⟨79, _, rfl, rfl, rfl⟩ (om_ld Tryz.isAgg3 rfl rfl) ?_
            refine LD.val rfl ⟨79, _, rfl, rfl, rfl⟩ (ov_field Tryz.underlying87 rfl Tryz.sizeOf85 rfl (k := 1) rfl rfl) ?_
            first | refine LD.rd rfl ⟨79, _, rfl, rfl, rfl⟩ (om_ld Tryz.isAgg85 rfl rfl) ?_
            refine LD.val rfl ⟨79, _, rfl, rfl, rfl⟩ (ov_len Tryz.underlying85 rfl) ?_
            refine LD.val rfl ⟨79, _, rfl, rfl, rfl⟩ (ov_eql rfl rfl) ?_
            refine LD.val rfl ⟨76, _, rfl, rfl, rfl⟩ (ov_pickT rfl rfl) ?_
            refine LD.val rfl rfl (ov_pickF rfl rfl) ?_
            refine LD.nil ?_
            refine QM.sub (e' := [(87, _)]) ⟨rfl, trivial⟩ ?_
            refine QM.meetK (_) ⟨(by first | rfl | exact lk rfl (by congr 1; omega) | exact lk rfl (by simp)), trivial⟩ (by (repeat' (first | exact SubM.nil _ | refine SubM.cons rfl ?_ | refine SubM.app ?_))) ?_
            · simp only [h3, h5, h7, h8, h9, h10, h11, decide_true, decide_false, Bool.true_and, Bool.false_and, Bool.and_true, Bool.and_false, Bool.not_true, Bool.not_false, Bool.true_or, Bool.false_or, Bool.or_true, Bool.or_false, ne_eq, not_true_eq_false, not_false_eq_true, Bool.and_self]
           ·
            refine LD.drop rfl rfl ⟨79, _, rfl, rfl, rfl⟩ ?_
            refine LD.drop rfl rfl ⟨79, _, rfl, rfl, rfl⟩ ?_
            refine LD.drop rfl rfl ⟨79, _, rfl, rfl, rfl⟩ ?_
            refine LD.drop rfl rfl ⟨79, _, rfl, rfl, rfl⟩ ?_
            refine LD.drop rfl rfl ⟨79, _, rfl, rfl, rfl⟩ ?_
            refine LD.drop rfl rfl ⟨79, _, rfl, rfl, rfl⟩ ?_
            refine LD.val rfl ⟨76, _, rfl, rfl, rfl⟩ (ov_pickF rfl rfl) ?_
            refine LD.val rfl rfl (ov_pickF rfl rfl) ?_
            refine LD.nil ?_
            refine QM.sub (e' := [(87, _)]) ⟨rfl, trivial⟩ ?_
            refine QM.meetK (_) ⟨(by first | rfl | exact lk rfl (by congr 1; omega) | exact lk rfl (by simp)), trivial⟩ (by (repeat' (first | exact SubM.nil _ | refine SubM.cons rfl ?_ | refine SubM.app ?_))) ?_
            · simp only [h3, h5, h7, h8, h9, h10, h11, decide_true, decide_false, Bool.true_and, Bool.false_and, Bool.and_true, Bool.and_false, Bool.not_true, Bool.not_false, Bool.true_or, Bool.false_or, Bool.or_true, Bool.or_false, ne_eq, not_true_eq_false, not_false_eq_true, Bool.and_self]
        ·
         rintro q4 hq4
         change QM _ _ _ _ _ ([]) _ _ _
         refine QM.then ?_
         first | refine wpM.condD rfl (fun h12 => ?_) (fun h12 => ?_) | refine wpM.condB rfl (fun h12 => ?_) (fun h12 => ?_)
         ·
          refine wpM.seq ?_
          refine wpM.region ?_
          refine LM.val (ov_assign rfl) ?_
          refine LM.nil ?_
          refine QM.sub (e' := [(8, _)]) ⟨rfl, trivial⟩ ?_
          refine QM.then ?_
          refine wpM.ret ?_
          refine QM.then_ret ?_
          refine QM.leave (.inl rfl) [.tmp 8] Tryz.results130 rfl ?_
          intro w' hm' hc' hg'
          refine ⟨?_, hc'⟩; simp only [resV, fitsO, ← hn, ← hn2, ← hq, ← hq2, ← hq3, ← hq4]; simp only [h3, h5, h7, h8, h12, decide_true, decide_false, Bool.true_and, Bool.false_and, Bool.and_true, Bool.and_false, Bool.not_true, Bool.not_false, Bool.true_or, Bool.false_or, Bool.or_true, Bool.or_false, ne_eq, not_true_eq_false, not_false_eq_true, Bool.and_self, if_true, if_false, ite_true, Bool.false_eq_true]
         ·
          refine wpM.skip ?_
          refine QM.then ?_
          refine wpM.seq ?_
          refine wpM.region ?_
          refine LM.val (ov_assign rfl) ?_
          refine LM.nil ?_
          refine QM.sub (e' := [(8, _)]) ⟨rfl, trivial⟩ ?_
          refine QM.then ?_
          refine wpM.ret ?_
          refine QM.leave (.inl rfl) [.tmp 8] Tryz.results130 rfl ?_
          intro w' hm' hc' hg'
          refine ⟨?_, hc'⟩; simp only [resV, fitsO, ← hn, ← hn2, ← hq, ← hq2, ← hq3, ← hq4]; simp only [h3, h5, h7, h8, h12, decide_true, decide_false, Bool.true_and, Bool.false_and, Bool.and_true, Bool.and_false, Bool.not_true, Bool.not_false, Bool.true_or, Bool.false_or, Bool.or_true, Bool.or_false, ne_eq, not_true_eq_false, not_false_eq_true, Bool.and_self, if_true, if_false, ite_true, Bool.false_eq_true]

set_option maxRecDepth 100000 in
theorem each_specC (fv : Bool) (ad : Option Addr) (n cap : Nat) (w : World) : Ret Tryz.prog 129 #[pV fv ad n cap] w (fun v w' => Ext w w' ∧ ∃ m, EachTc fv ad n cap w.heap.size v m ∧ Mem w' m ∧ ∀ p ∈ m, w.heap.size ≤ p.1) := by
 refine Ret.enterM (l := [pV fv ad n cap]) Tryz.func129 rfl Tryz.ntmps129 rfl ([]) (no) (Mem.nil w) ?_
 refine wpM.seq ?_
 refine wpM.region ?_
 refine LM.box rfl rfl (fun b1 hb1 => ?_)
 refine LM.val (ov_assign rfl) ?_
 refine LM.nil ?_
 refine QM.sub (e' := [(1, _)]) ⟨rfl, trivial⟩ ?_
 refine QM.then ?_
 refine wpM.seq ?_
 refine wpM.region ?_
 refine LM.val (ov_makeFunc rfl) ?_
 refine LM.val (ov_assign rfl) ?_
 refine LM.nil ?_
 refine QM.sub (e' := [(2, _)]) ⟨rfl, trivial⟩ ?_
 refine QM.then ?_
 refine wpM.ret ?_
 refine QM.leave (.inl rfl) [.tmp 2] Tryz.results129 rfl ?_
 intro w' hm' hc' hg'
 exact ⟨hc', _, ⟨b1, rfl, rfl, hb1⟩, hm', fun p hp => by simp only [List.mem_cons, List.not_mem_nil, or_false] at hp; subst hp; assumption⟩

set_option maxRecDepth 100000 in
set_option maxHeartbeats 1000000 in
theorem each_seqC {xs : List COp} {fv : Bool} {ad : Option Addr} {n cap : Nat} {b1 : Nat} (hn : n = xs.length) (hx2 : xs.length ≤ 1000000000000) : SeqC Tryz.prog 150 #[.pointer (some ⟨b1, 0, none⟩)] (eachA xs) (fun w => Mem w [pB b1 fv ad n cap] ∧ Sr fO 3 xs (.slice ad n cap) w) (True) := by
 refine SeqC.enter (lb := [.pointer (some ⟨b1, 0, none⟩)]) Tryz.func150 rfl Tryz.ntmps150 rfl ?_
 intro l n0 J Jx w0 hfin hJr gJ gJx hy
 refine wpM.seq ?_
 refine wpM.region ?_
 refine LM.val (ov_field Tryz.underlying87 rfl Tryz.sizeOf85 rfl (k := 1) rfl rfl) ?_
 refine LM.rdC (fun w _ _ hg => om_load 0 Tryz.isAgg85 rfl rfl rfl w (hJr _ w hg).1) ?_
 refine LM.val (ov_len Tryz.underlying85 rfl) ?_
 refine LM.val (ov_move rfl) ?_
 refine LM.nil ?_
 refine QM.sub (e' := [(0, _), (6, _), (7, _), (8, _)]) ⟨rfl, rfl, rfl, rfl, trivial⟩ ?_
 refine QM.then ?_
 refine wpM.block ?_
 refine wpM.loopK (α := Nat) (fun i => [(8, .int .i64 (i : Nat))]) [(0, _), (6, _), (7, _)] (fun i => []) (fun i => J i) (fun i => i ≤ xs.length) (fun i => xs.length - i) (0) ⟨(by first | rfl | exact lk rfl (by congr 1; omega) | exact lk rfl (by simp)), rfl, rfl, rfl, trivial⟩ (by (repeat' (first | exact SubM.nil _ | refine SubM.cons rfl ?_ | refine SubM.app ?_))) (fun _ h => h) (Nat.zero_le _) ?_
 rintro i hi
 change wpM _ _ _ _ _ _ _ ([]) _ _ _
 refine wpM.seq ?_
 refine wpM.region ?_
 refine LM.val (ov_lss rfl rfl) ?_
 refine LM.nil ?_
 refine QM.sub (e' := [(0, _), (6, _), (7, _), (8, _), (9, _)]) ⟨rfl, rfl, rfl, rfl, rfl, trivial⟩ ?_
 refine QM.then ?_
 refine wpM.seq ?_
 refine wpM.condD rfl (fun h1 => ?_) (fun h1 => ?_)
 ·
  refine wpM.skip ?_
  refine QM.then ?_
  refine wpM.seq ?_
  refine wpM.block ?_
  refine wpM.seq ?_
  refine wpM.region ?_
  refine LM.val (ov_move rfl) ?_
  refine LM.know (fun w _ _ hg => (hJr _ w hg).2.spt) (fun hsp => ?_); refine LM.val (ov_idxSN hsp Tryz.underlying85 Tryz.sizeOf135 rfl rfl (by omega)) ?_
  refine LM.rdC (fun w hm hc hg => ow_srEA (hJr _ w hg).2 (by intro _; rfl) Tryz.isAgg135 Tryz.sizeOf135 rfl (getq default (by omega))) ?_
  refine LM.allocF Tryz.zeroValue135 rfl (fun b4 hb4 => ?_)
  refine LM.val (ov_assign rfl) ?_
  refine LM.stWF Tryz.sizeOf135 rfl rfl rfl rfl (by first | rfl | decide | (simp; done)) (fun hlt => absurd hlt (by omega)) (by omega) ?_
  refine LM.unF ?_
  refine LM.nil ?_
  refine QM.sub (e' := [(0, _), (3, _), (4, _), (6, _), (7, _), (8, _)]) ⟨rfl, rfl, rfl, rfl, rfl, rfl, trivial⟩ ?_
  refine QM.then ?_
  refine wpM.seq ?_
  refine wpM.region ?_
  refine LM.val (ov_move rfl) ?_
  refine LM.val (ov_move rfl) ?_
  refine LM.rd (om_ldW Tryz.isAgg135 Tryz.sizeOf135 rfl rfl) ?_
  refine LM.mem (M' := []) (fun w _ => Mem.nil w) ?_
  refine LM.yield (n := n0) (G1 := J (i + 1)) (G2 := Jx) rfl rfl (fun w hj => hy (i) _ w (eachA_get (by omega)) hj) (fun _ => trivial) ?_ ?_
  ·
   first | refine LM.val (ov_notD rfl) ?_ | refine LM.val (ov_not rfl) ?_
   refine LM.nil ?_
   refine QM.sub (e' := [(0, _), (6, _), (7, _), (8, _), (17, _)]) ⟨rfl, rfl, rfl, rfl, rfl, trivial⟩ ?_
   refine QM.then ?_
   refine wpM.condF rfl ?_
   refine wpM.skip ?_
   refine QM.block_normal ?_
   refine QM.then ?_
   refine wpM.region ?_
   refine LM.val (ov_add64 rfl rfl (by omega)) ?_
   refine LM.val (ov_move rfl) ?_
   refine LM.nil ?_
   refine QM.sub (e' := [(0, _), (6, _), (7, _), (8, _)]) ⟨rfl, rfl, rfl, rfl, trivial⟩ ?_
   refine QM.againK (i + 1) ⟨(by first | rfl | exact lk rfl (by congr 1; omega) | exact lk rfl (by simp)), rfl, rfl, rfl, trivial⟩ (by (repeat' (first | exact SubM.nil _ | refine SubM.cons rfl ?_ | refine SubM.app ?_))) (fun w h => h) ?_ ?_
   · omega
   · omega
  ·
   first | refine LM.val (ov_notD rfl) ?_ | refine LM.val (ov_not rfl) ?_
   refine LM.nil ?_
   refine QM.sub (e' := [(0, _), (6, _), (7, _), (8, _), (17, _)]) ⟨rfl, rfl, rfl, rfl, rfl, trivial⟩ ?_
   refine QM.then ?_
   refine wpM.condT rfl ?_
   refine wpM.ret ?_
   refine QM.block_ret ?_
   refine QM.then_ret ?_
   refine QM.then_ret ?_
   refine QM.block_ret ?_
   refine QM.leave (.inl rfl) [] Tryz.results150 rfl ?_
   intro w' hm' hc' hg'
   exact .inr hg'
 ·
  refine wpM.exit ?_
  refine QM.then_exit ?_
  refine QM.then_exit ?_
  refine QM.block_hit ?_
  refine QM.leave (.inr rfl) [] Tryz.results150 rfl ?_
  intro w' hm' hc' hg'
  first | exact .inr hg' | (have hil : i = xs.length := (by omega); subst hil; exact .inl (by rw [eachA_len]; exact hg'))

end Go.Eng
set_option linter.unusedVariables false
set_option linter.unusedSimpArgs false
namespace Go.Eng
open Go Go.Proofs Go.RowKit

def ckV (fv : Bool) (xs : List COp) (ls : List CLk) (progs : Int) : Value := .tuple #[.int .i64 (ckO fv xs ls progs).1, .int .i64 (ckO fv xs ls progs).2]
theorem fits_lt2 {T K r : Bool} {q : Bool} {a : Int} {n : Nat} (hq : q = ((T || K) && decide (a ≥ n) || r)) (h : q = false) (ht : T = true) : a < n := by
  rw [h, ht, Bool.true_or, Bool.true_and] at hq
  have := (Bool.or_eq_false_iff.1 hq.symm).1
  have := of_decide_eq_false this
  omega
theorem ckV_at {fv : Bool} {xs : List COp} {ls : List CLk} {progs e : Int} {i : Nat} (h : mayB xs = true) (h0 : ∀ j, j < i → fitsO fv xs ls progs j = 0) (hi : i < xs.length) (hf : fitsO fv xs ls progs i = e) (he : e ≠ 0) : ckV fv xs ls progs = .tuple #[.int .i64 (i : Nat), .int .i64 e] := by
  unfold ckV; rw [ck_at h h0 hi (by rw [hf]; exact he), hf]
theorem ckV_end {fv : Bool} {xs : List COp} {ls : List CLk} {progs : Int} {b : Bool} (h : mayB xs = true) (h0 : ∀ j, j < xs.length → fitsO fv xs ls progs j = 0) (hb : (fv && !xs.any (fun o => passB o.k)) = b) : ckV fv xs ls progs = .tuple #[.int .i64 0, .int .i64 (if b then 1 else 0)] := by
  unfold ckV; rw [ck_end h h0, hb]; cases b <;> rfl
theorem ckV_none {fv : Bool} {xs : List COp} {ls : List CLk} {progs : Int} (h : mayB xs = false) : ckV fv xs ls progs = .tuple #[.int .i64 0, .int .i64 1] := by
  unfold ckV; rw [ck_none h]
set_option maxRecDepth 100000 in
theorem check_spec {xs : List COp} {ls : List CLk} {fv : Bool} {ad ad2 : Option Addr} {n cap n2 cap2 : Nat} (progs : Int) (w : World) (hn : n = xs.length) (hl : Sr fO 3 xs (.slice ad n cap) w) (hn2 : n2 = ls.length) (hl2 : Sr fL 5 ls (.slice ad2 n2 cap2) w) : Ret Tryz.prog 86 #[pV fv ad n cap, .slice ad2 n2 cap2, .int .i64 progs] w (fun v w' => v = ckV fv xs ls progs ∧ Ext w w') := by
 refine Ret.enterM (l := [pV fv ad n cap, .slice ad2 n2 cap2, .int .i64 progs]) Tryz.func86 rfl Tryz.ntmps86 rfl ([]) (no) (Mem.nil w) ?_
 refine wpM.seq ?_
 refine wpM.region ?_
 refine LM.box rfl rfl (fun b3 hb3 => ?_)
 refine LM.box rfl rfl (fun b4 hb4 => ?_)
 refine LM.box rfl rfl (fun b5 hb5 => ?_)
 refine LM.alloc Tryz.zeroValue3 rfl (fun b6 hb6 => ?_)
 refine LM.alloc Tryz.zeroValue31 rfl (fun b7 hb7 => ?_)
 refine LM.nil ?_
 refine QM.sub (e' := [(3, _), (4, _), (5, _), (6, _), (7, _)]) ⟨rfl, rfl, rfl, rfl, rfl, trivial⟩ ?_
 refine QM.then ?_
 refine wpM.seq ?_
 refine wpM.seq ?_
 refine wpM.region ?_
 refine LM.rd (om_ldW Tryz.isAgg87 Tryz.sizeOf87 rfl rfl) ?_
 refine LM.callE (oc_call (enters_fn Tryz.func103 (by kernel_rfl) rfl) rfl) (fun w hm hc hg => pmay_spec w hn (hl.ext hc)) ?_
 first | refine LM.val (ov_notD rfl) ?_ | refine LM.val (ov_not rfl) ?_
 refine LM.nil ?_
 refine QM.sub (e' := [(3, _), (4, _), (5, _), (6, _), (7, _), (12, _)]) ⟨rfl, rfl, rfl, rfl, rfl, rfl, trivial⟩ ?_
 refine QM.then ?_
 first | refine wpM.condD rfl (fun h1 => ?_) (fun h1 => ?_) | refine wpM.condB rfl (fun h1 => ?_) (fun h1 => ?_)
 ·
  refine wpM.seq ?_
  refine wpM.region ?_
  refine LM.st Tryz.sizeOf3 rfl rfl rfl (by first | decide | exact Nat.le_of_ble_eq_true rfl | (simp; done) | (simp; omega)) rfl (fun hlt => absurd hlt (by omega)) ?_
  refine LM.st Tryz.sizeOf31 rfl rfl rfl (by first | decide | exact Nat.le_of_ble_eq_true rfl | (simp; done) | (simp; omega)) rfl (fun hlt => absurd hlt (by omega)) ?_
  refine LM.nil ?_
  refine QM.sub (e' := [(6, _), (7, _)]) ⟨rfl, rfl, trivial⟩ ?_
  refine QM.then ?_
  refine wpM.ret ?_
  refine QM.then_ret ?_
  refine QM.leaveCs (ds := ([])) (.inl rfl) [.cell 6 3, .cell 7 31] Tryz.results86 hd_nil (rc_c rfl Tryz.isAgg3 rfl (rc_c rfl Tryz.isAgg31 rfl rc_nil)) ?_
  intro w' hm' hc'
  exact ⟨(ckV_none (by simpa using h1)).symm, hc'⟩
 ·
  have hm0 : mayB xs = true := (by simpa using h1); have hx20 := (may_small hm0).1
  refine wpM.skip ?_
  refine QM.then ?_
  refine wpM.seq ?_
  refine wpM.seq ?_
  refine wpM.region ?_
  refine LM.rd (om_ldW Tryz.isAgg87 Tryz.sizeOf87 rfl rfl) ?_
  refine LM.callT (oc_call (enters_fn Tryz.func129 (by kernel_rfl) rfl) rfl) EachTc.mono (fun w hm hc hg => each_specC fv ad n cap w) ?_
  rintro u14 m14 ⟨c1, rfl, rfl, hc1⟩ -
  refine LM.nil ?_
  refine QM.sub (e' := [(3, _), (4, _), (5, _), (6, _), (7, _), (14, _)]) ⟨rfl, rfl, rfl, rfl, rfl, rfl, trivial⟩ ?_
  refine QM.then ?_
  refine wpM.block ?_
  refine wpM.toRange (α := Unit) (fun k ⟨⟩ => pB c1 fv ad n cap :: eBc b7 0 :: iBc b6 0 :: iBc b5 progs :: lBc b4 ad2 n2 cap2 :: pB b3 fv ad n cap :: []) (⟨⟩) (by (repeat' (first | exact SubM.nil _ | refine SubM.cons rfl ?_ | refine SubM.app ?_))) ?_
  refine wpM.range (α := Unit) (β := Nat) (enters_fn Tryz.func150 (by kernel_rfl) rfl) rfl (each_seqC (xs := xs) hn (by omega)) (fun k ⟨⟩ => pB c1 fv ad n cap :: eBc b7 0 :: iBc b6 0 :: iBc b5 progs :: lBc b4 ad2 n2 cap2 :: pB b3 fv ad n cap :: []) (fun _ _ => top) (fun k ⟨⟩ => k ≤ xs.length ∧ ∀ j, j < k → fitsO fv xs ls progs j = 0) (fun i => eBc b7 (fitsO fv xs ls progs i) :: iBc b6 (i : Nat) :: []) (fun _ => top) (fun c i => c = .ret ∧ i < xs.length ∧ (∀ j, j < i → fitsO fv xs ls progs j = 0) ∧ fitsO fv xs ls progs i ≠ 0) ⟨⟩ rfl (fun _ h => h) ⟨Nat.zero_le _, fun j hj => absurd hj (Nat.not_lt_zero _)⟩ (by kernel_rfl) (by intro k av hav; obtain ⟨hkx, rfl⟩ := eachA_inv hav; rfl) (.inl trivial) (fun k a w hm hc _ _ => ⟨SubM.mem (by (repeat' (first | exact SubM.nil _ | refine SubM.cons rfl ?_ | refine SubM.app ?_))) w hm, hl.ext hc⟩) (fun _ _ _ _ => gl_top _) (fun _ _ _ => gl_top _) (fun k x _ => by ((repeat (refine mm_cons rfl ?_)); exact fun p hp => .inl (by first | exact hp | (simp at hp; done) | (simp [hp]; done) | (simp at hp ⊢; first | exact .inl hp | exact hp | (simp [hp]; done))))) (fun c z _ => by ((repeat (refine mm_cons rfl ?_)); exact fun p hp => .inl (by first | exact hp | (simp at hp; done) | (simp [hp]; done) | (simp at hp ⊢; first | exact .inl hp | exact hp | (simp [hp]; done))))) ?_ ?_ ?_ ?_
  ·
   rintro k av ⟨⟩ l D rc n1 W1 hD hll hput hrc hav ⟨hk, h0⟩
   change wpM _ _ _ _ _ _ _ ((l, Obj.loop rc) :: ([(D, Obj.deferred (some []))] ++ (pB c1 fv ad n cap :: eBc b7 0 :: iBc b6 0 :: iBc b5 progs :: lBc b4 ad2 n2 cap2 :: pB b3 fv ad n cap :: []))) _ _ _
   obtain ⟨hkx, rfl⟩ := eachA_inv hav
   refine wpM.region ?_
   refine LM.val (ov_assign rfl) ?_
   refine LM.nil ?_
   refine QM.sub (e' := [(3, _), (4, _), (5, _), (6, _), (7, _), (8, _)]) ⟨rfl, rfl, rfl, rfl, rfl, rfl, trivial⟩ ?_
   refine QM.toBodyF (hput k ⟨⟩) hll ?_
   refine wpM.block ?_
   refine wpM.seq ?_
   refine wpM.region ?_
   refine LM.rd (om_ldW Tryz.isAgg87 Tryz.sizeOf87 rfl rfl) ?_
   refine LM.val (ov_move rfl) ?_
   first | refine LM.rd (om_ld Tryz.isAgg27 rfl rfl) ?_
   first | refine LM.rd (om_ld Tryz.isAgg3 rfl rfl) ?_
   refine LM.callE (oc_call (enters_fn Tryz.func130 (by kernel_rfl) rfl) rfl) (fun w hm hc hg => fits_spec k progs w hn (hl.ext hc) hn2 (hl2.ext hc) hm0 hkx) ?_
   refine LM.val (ov_assign rfl) ?_
   refine LM.nil ?_
   refine QM.sub (e' := [(6, _), (7, _), (8, _), (9, _)]) ⟨rfl, rfl, rfl, rfl, trivial⟩ ?_
   refine QM.then ?_
   refine wpM.seq ?_
   refine wpM.region ?_
   refine LM.val (ov_move rfl) ?_
   refine LM.val (ov_neq rfl rfl) ?_
   refine LM.nil ?_
   refine QM.sub (e' := [(6, _), (7, _), (8, _), (9, _), (23, _)]) ⟨rfl, rfl, rfl, rfl, rfl, trivial⟩ ?_
   refine QM.then ?_
   refine wpM.condD rfl (fun h2 => ?_) (fun h2 => ?_)
   ·
    refine wpM.seq ?_
    refine wpM.region ?_
    refine LM.val (ov_move rfl) ?_
    refine LM.val (ov_move rfl) ?_
    refine LM.st Tryz.sizeOf3 rfl rfl rfl (by first | decide | exact Nat.le_of_ble_eq_true rfl | (simp; done) | (simp; omega)) rfl (fun hlt => absurd hlt (by omega)) ?_
    refine LM.st Tryz.sizeOf31 rfl rfl rfl (by first | decide | exact Nat.le_of_ble_eq_true rfl | (simp; done) | (simp; omega)) rfl (fun hlt => absurd hlt (by omega)) ?_
    refine LM.nil ?_
    refine QM.sub (e' := [(6, _), (7, _)]) ⟨rfl, rfl, trivial⟩ ?_
    refine QM.then ?_
    refine wpM.ret ?_
    refine QM.block_ret ?_
    refine QM.rret (k) (SubM.mem (by (repeat' (first | exact SubM.nil _ | refine SubM.cons rfl ?_ | refine SubM.app ?_)))) (fun _ h => h) ?_
    · exact ⟨rfl, hkx, h0, by simpa using h2⟩
   ·
    refine wpM.skip ?_
    refine QM.block_normal ?_
    refine QM.next (⟨⟩) (SubM.mem (by (repeat' (first | exact SubM.nil _ | refine SubM.cons rfl ?_ | refine SubM.app ?_)))) (fun _ h => h) ?_
    · exact ⟨by omega, before_succ h0 (by simpa using h2)⟩
  ·
   rintro ⟨⟩ D0 hD0 ⟨hk, h0⟩
   refine QM.sub (e' := [(3, _), (6, _), (7, _)]) ⟨rfl, rfl, rfl, trivial⟩ ?_
   refine QM.block_normal ?_
   refine QM.then ?_
   refine wpM.seq ?_
   refine wpM.seq ?_
   refine wpM.region ?_
   refine LM.val (ov_field Tryz.underlying87 rfl Tryz.sizeOf4 rfl (k := 0) rfl rfl) ?_
   first | refine LM.rd (om_ld Tryz.isAgg4 rfl rfl) ?_
   refine LM.val (ov_move rfl) ?_
   first | refine LM.splitD (t := 28) rfl (fun h3 => ?_) (fun h3 => ?_) | refine LM.splitB (t := 28) rfl (fun h3 => ?_) (fun h3 => ?_)
   ·
    refine LM.strip (t := 28) rfl rfl rfl ?_
    refine LM.val (ov_field Tryz.underlying87 rfl Tryz.sizeOf85 rfl (k := 1) rfl rfl) ?_
    refine LM.strip (t := 28) rfl rfl rfl ?_
    first | refine LM.rd (om_ld Tryz.isAgg85 rfl rfl) ?_
    refine LM.strip (t := 28) rfl rfl rfl ?_
    refine LM.callE (oc_call (enters_fn Tryz.func131 (by kernel_rfl) rfl) rfl) (fun w hm hc hg => cof_pass w hn (hl.ext hc) (by omega)) ?_
    refine LM.strip (t := 28) rfl rfl rfl ?_
    first | refine LM.val (ov_notD rfl) ?_ | refine LM.val (ov_not rfl) ?_
    refine LM.val (ov_pickT rfl rfl) ?_
    refine LM.nil ?_
    refine QM.sub (e' := [(6, _), (7, _), (33, _)]) ⟨rfl, rfl, rfl, trivial⟩ ?_
    refine QM.then ?_
    first | refine wpM.condD rfl (fun h4 => ?_) (fun h4 => ?_) | refine wpM.condB rfl (fun h4 => ?_) (fun h4 => ?_)
    ·
     refine wpM.seq ?_
     refine wpM.region ?_
     refine LM.st Tryz.sizeOf3 rfl rfl rfl (by first | decide | exact Nat.le_of_ble_eq_true rfl | (simp; done) | (simp; omega)) rfl (fun hlt => absurd hlt (by omega)) ?_
     refine LM.st Tryz.sizeOf31 rfl rfl rfl (by first | decide | exact Nat.le_of_ble_eq_true rfl | (simp; done) | (simp; omega)) rfl (fun hlt => absurd hlt (by omega)) ?_
     refine LM.nil ?_
     refine QM.sub (e' := [(6, _), (7, _)]) ⟨rfl, rfl, trivial⟩ ?_
     refine QM.then ?_
     refine wpM.ret ?_
     refine QM.then_ret ?_
     refine QM.leaveCs (ds := (D0 :: [])) (.inl rfl) [.cell 6 3, .cell 7 31] Tryz.results86 (hd_cons hD0 hd_nil) (rc_c rfl Tryz.isAgg3 rfl (rc_c rfl Tryz.isAgg31 rfl rc_nil)) ?_
     intro w' hm' hc'
     exact ⟨(ckV_end (b := true) hm0 (fun j hj => h0 j (by rw [eachA_len]; exact hj)) (by rw [h3, h4]; rfl)).symm, hc'⟩
    ·
     refine wpM.skip ?_
     refine QM.then ?_
     refine wpM.seq ?_
     refine wpM.region ?_
     refine LM.st Tryz.sizeOf3 rfl rfl rfl (by first | decide | exact Nat.le_of_ble_eq_true rfl | (simp; done) | (simp; omega)) rfl (fun hlt => absurd hlt (by omega)) ?_
     refine LM.st Tryz.sizeOf31 rfl rfl rfl (by first | decide | exact Nat.le_of_ble_eq_true rfl | (simp; done) | (simp; omega)) rfl (fun hlt => absurd hlt (by omega)) ?_
     refine LM.nil ?_
     refine QM.sub (e' := [(6, _), (7, _)]) ⟨rfl, rfl, trivial⟩ ?_
     refine QM.then ?_
     refine wpM.ret ?_
     refine QM.leaveCs (ds := (D0 :: [])) (.inl rfl) [.cell 6 3, .cell 7 31] Tryz.results86 (hd_cons hD0 hd_nil) (rc_c rfl Tryz.isAgg3 rfl (rc_c rfl Tryz.isAgg31 rfl rc_nil)) ?_
     intro w' hm' hc'
     exact ⟨(ckV_end (b := false) hm0 (fun j hj => h0 j (by rw [eachA_len]; exact hj)) (by rw [h3, h4]; rfl)).symm, hc'⟩
   ·
    refine LM.drop (t := 28) rfl rfl rfl ?_
    refine LM.drop (t := 28) rfl rfl rfl ?_
    refine LM.drop (t := 28) rfl rfl rfl ?_
    refine LM.drop (t := 28) rfl rfl rfl ?_
    refine LM.val (ov_pickF rfl rfl) ?_
    refine LM.nil ?_
    refine QM.sub (e' := [(6, _), (7, _), (33, _)]) ⟨rfl, rfl, rfl, trivial⟩ ?_
    refine QM.then ?_
    refine wpM.condF rfl ?_
    refine wpM.skip ?_
    refine QM.then ?_
    refine wpM.seq ?_
    refine wpM.region ?_
    refine LM.st Tryz.sizeOf3 rfl rfl rfl (by first | decide | exact Nat.le_of_ble_eq_true rfl | (simp; done) | (simp; omega)) rfl (fun hlt => absurd hlt (by omega)) ?_
    refine LM.st Tryz.sizeOf31 rfl rfl rfl (by first | decide | exact Nat.le_of_ble_eq_true rfl | (simp; done) | (simp; omega)) rfl (fun hlt => absurd hlt (by omega)) ?_
    refine LM.nil ?_
    refine QM.sub (e' := [(6, _), (7, _)]) ⟨rfl, rfl, trivial⟩ ?_
    refine QM.then ?_
    refine wpM.ret ?_
    refine QM.leaveCs (ds := (D0 :: [])) (.inl rfl) [.cell 6 3, .cell 7 31] Tryz.results86 (hd_cons hD0 hd_nil) (rc_c rfl Tryz.isAgg3 rfl (rc_c rfl Tryz.isAgg31 rfl rc_nil)) ?_
    intro w' hm' hc'
    exact ⟨(ckV_end (b := false) hm0 (fun j hj => h0 j (by rw [eachA_len]; exact hj)) (by rw [h3]; rfl)).symm, hc'⟩
  ·
   rintro i D0 hD0 hx
   obtain ⟨-, hi, h0, hne⟩ := hx
   refine QM.block_ret ?_
   refine QM.then_ret ?_
   refine QM.leaveCs (ds := (D0 :: [])) (.inl rfl) [.cell 6 3, .cell 7 31] Tryz.results86 (hd_cons hD0 hd_nil) (rc_c rfl Tryz.isAgg3 rfl (rc_c rfl Tryz.isAgg31 rfl rc_nil)) ?_
   intro w' hm' hc'
   exact ⟨(ckV_at hm0 h0 hi rfl hne).symm, hc'⟩
  ·
   rintro id i D0 hD0 hx
   first | exact hx.elim | cases hx.1 | cases hx

set_option maxRecDepth 100000 in
set_option maxHeartbeats 1000000 in
theorem rcheck_spec {xs : List COp} {ls : List CLk} {fv : Bool} {ad ad2 : Option Addr} {n cap n2 cap2 : Nat} (progs : Int) (w : World) (hn : n = xs.length) (hl : Sr fO 3 xs (.slice ad n cap) w) (hn2 : n2 = ls.length) (hl2 : Sr fL 5 ls (.slice ad2 n2 cap2) w) : Ret Tryz.prog 46 #[pV fv ad n cap, .slice ad2 n2 cap2, .int .i64 progs] w (fun v w' => v = ckV fv xs ls progs ∧ Ext w w') := by
 refine Ret.enterM (l := [pV fv ad n cap, .slice ad2 n2 cap2, .int .i64 progs]) Tryz.func46 rfl Tryz.ntmps46 rfl ([]) (no) (Mem.nil w) ?_
 refine wpM.seq ?_
 refine wpM.region ?_
 refine LM.box rfl rfl (fun b3 hb3 => ?_)
 refine LM.val (ov_assign rfl) ?_
 refine LM.val (ov_assign rfl) ?_
 refine LM.nil ?_
 refine QM.sub (e' := [(1, _), (2, _), (3, _)]) ⟨rfl, rfl, rfl, trivial⟩ ?_
 refine QM.then ?_
 refine wpM.seq ?_
 refine wpM.seq ?_
 refine wpM.region ?_
 refine LM.rd (om_ldW Tryz.isAgg87 Tryz.sizeOf87 rfl rfl) ?_
 refine LM.callE (oc_call (enters_fn Tryz.func90 (by kernel_rfl) rfl) rfl) (fun w hm hc hg => rmay_spec w hn (hl.ext hc)) ?_
 first | refine LM.val (ov_notD rfl) ?_ | refine LM.val (ov_not rfl) ?_
 refine LM.nil ?_
 refine QM.sub (e' := [(1, _), (2, _), (3, _), (14, _)]) ⟨rfl, rfl, rfl, rfl, trivial⟩ ?_
 refine QM.then ?_
 first | refine wpM.condD rfl (fun h1 => ?_) (fun h1 => ?_) | refine wpM.condB rfl (fun h1 => ?_) (fun h1 => ?_)
 ·
  refine wpM.seq ?_
  refine wpM.region ?_
  refine LM.val (ov_assign rfl) ?_
  refine LM.val (ov_assign rfl) ?_
  refine LM.nil ?_
  refine QM.sub (e' := [(6, _), (7, _)]) ⟨rfl, rfl, trivial⟩ ?_
  refine QM.then ?_
  refine wpM.ret ?_
  refine QM.then_ret ?_
  refine QM.leave (.inl rfl) [.tmp 6, .tmp 7] Tryz.results46 rfl ?_
  intro w' hm' hc' hg'
  exact ⟨(ckV_none (by simpa using h1)).symm, hc'⟩
 ·
  have hm0 : mayB xs = true := (by simpa using h1); have hsm := may_small hm0; have hx20 := hsm.1
  refine wpM.skip ?_
  refine QM.then ?_
  refine wpM.seq ?_
  refine wpM.region ?_
  refine LM.val (ov_assign rfl) ?_
  refine LM.nil ?_
  refine QM.sub (e' := [(1, _), (2, _), (3, _), (8, _)]) ⟨rfl, rfl, rfl, rfl, trivial⟩ ?_
  refine QM.then ?_
  refine wpM.seq ?_
  refine wpM.seq ?_
  refine wpM.region ?_
  refine LM.val (ov_assign rfl) ?_
  refine LM.nil ?_
  refine QM.sub (e' := [(1, _), (2, _), (3, _), (8, _), (9, _)]) ⟨rfl, rfl, rfl, rfl, rfl, trivial⟩ ?_
  refine QM.then ?_
  refine wpM.block ?_
  refine wpM.loopK0 (α := Nat) (fun i => [(8, .bool ((xs.take i).any (fun o => passB o.k))), (9, .int .i64 (i : Nat))]) [(1, _), (2, _), (3, _)] (fun i => pB b3 fv ad n cap :: []) (fun i => i ≤ xs.length ∧ ∀ j, j < i → fitsO fv xs ls progs j = 0) (fun i => xs.length - i) (0) ⟨(by first | rfl | exact lk rfl (by congr 1; omega) | exact lk rfl (by simp)), (by first | rfl | exact lk rfl (by congr 1; omega) | exact lk rfl (by simp)), rfl, rfl, rfl, trivial⟩ (by (repeat' (first | exact SubM.nil _ | refine SubM.cons rfl ?_ | refine SubM.app ?_))) ⟨Nat.zero_le _, fun j hj => absurd hj (Nat.not_lt_zero _)⟩ ?_
  rintro i ⟨hi, h0⟩
  change wpM _ _ _ _ _ _ _ (pB b3 fv ad n cap :: []) _ _ _
  refine wpM.seq ?_
  refine wpM.seq ?_
  refine wpM.region ?_
  refine LM.val (ov_move rfl) ?_
  refine LM.val (ov_field Tryz.underlying87 rfl Tryz.sizeOf85 rfl (k := 1) rfl rfl) ?_
  first | refine LM.rd (om_ld Tryz.isAgg85 rfl rfl) ?_
  refine LM.val (ov_len Tryz.underlying85 rfl) ?_
  refine LM.val (ov_lss rfl rfl) ?_
  refine LM.nil ?_
  refine QM.sub (e' := [(1, _), (2, _), (3, _), (8, _), (9, _), (19, _)]) ⟨rfl, rfl, rfl, rfl, rfl, rfl, trivial⟩ ?_
  refine QM.then ?_
  refine wpM.condD rfl (fun h2 => ?_) (fun h2 => ?_)
  ·
   refine wpM.skip ?_
   refine QM.then ?_
   refine wpM.seq ?_
   refine wpM.block ?_
   refine wpM.seq ?_
   refine wpM.region ?_
   refine LM.val (ov_field Tryz.underlying87 rfl Tryz.sizeOf85 rfl (k := 1) rfl rfl) ?_
   first | refine LM.rd (om_ld Tryz.isAgg85 rfl rfl) ?_
   refine LM.val (ov_move rfl) ?_
   refine LM.val (ov_idxSN (by first | exact Sr.spt (by assumption) | exact Sl.spt (by assumption)) Tryz.underlying85 Tryz.sizeOf135 rfl rfl (by omega)) ?_
   first | refine LM.rd (om_slA (by assumption) (by intro _; rfl) Tryz.isAgg135 Tryz.sizeOf135 rfl (by exact getq default (by first | omega | (simp only [List.length_set, List.length_append, List.length_cons, List.length_nil]; omega)))) ?_ | refine LM.rdC (om_srEA (by assumption) (by intro _; rfl) Tryz.isAgg135 Tryz.sizeOf135 rfl (by exact getq default (by first | omega | (simp only [List.length_set, List.length_append, List.length_cons, List.length_nil]; omega))) id) ?_ | refine LM.rd (om_ldW Tryz.isAgg135 Tryz.sizeOf135 rfl rfl) ?_ | refine LM.rd (om_ldA Tryz.isAgg135 Tryz.sizeOf135 rfl (vs := [_, _, _]) rfl ⟨rfl, rfl, rfl, trivial⟩) ?_
   refine LM.alloc Tryz.zeroValue135 rfl (fun b10 hb10 => ?_)
   refine LM.stW Tryz.sizeOf135 rfl rfl rfl rfl (by first | rfl | decide | (simp; done)) (fun hlt => absurd hlt (by omega)) ?_
   refine LM.nil ?_
   refine QM.sub (e' := [(1, _), (2, _), (3, _), (8, _), (9, _), (10, _)]) ⟨rfl, rfl, rfl, rfl, rfl, rfl, trivial⟩ ?_
   refine QM.then ?_
   refine wpM.seq ?_
   refine wpM.joinK (α := Bool) (fun t => [(8, .bool t)]) [(1, _), (2, _), (3, _), (9, _), (10, _)] (fun t => oB b10 (xs.getD i default) :: pB b3 fv ad n cap :: []) (fun t => t = (xs.take (i + 1)).any (fun o => passB o.k)) ⟨rfl, rfl, rfl, rfl, rfl, trivial⟩ ?_ ?_
   ·
    refine wpM.region ?_
    refine LM.val (ov_move rfl) ?_
    refine LM.val (ov_move rfl) ?_
    first | refine LM.splitD (t := 28) rfl (fun h3 => ?_) (fun h3 => ?_) | refine LM.splitB (t := 28) rfl (fun h3 => ?_) (fun h3 => ?_)
    ·
     refine LM.drop (t := 28) rfl rfl rfl ?_
     refine LM.drop (t := 28) rfl rfl rfl ?_
     refine LM.drop (t := 28) rfl rfl rfl ?_
     refine LM.val (ov_pickT rfl rfl) ?_
     refine LM.val (ov_move rfl) ?_
     refine LM.drop (t := 33) rfl rfl rfl ?_
     refine LM.drop (t := 33) rfl rfl rfl ?_
     refine LM.drop (t := 33) rfl rfl rfl ?_
     refine LM.val (ov_pickT rfl rfl) ?_
     refine LM.val (ov_move rfl) ?_
     refine LM.drop (t := 38) rfl rfl rfl ?_
     refine LM.drop (t := 38) rfl rfl rfl ?_
     refine LM.drop (t := 38) rfl rfl rfl ?_
     refine LM.val (ov_pickT rfl rfl) ?_
     refine LM.val (ov_move rfl) ?_
     refine LM.drop (t := 43) rfl rfl rfl ?_
     refine LM.drop (t := 43) rfl rfl rfl ?_
     refine LM.drop (t := 43) rfl rfl rfl ?_
     refine LM.val (ov_pickT rfl rfl) ?_
     refine LM.val (ov_assign rfl) ?_
     refine LM.nil ?_
     refine QM.sub (e' := [(1, _), (2, _), (3, _), (8, _), (9, _), (10, _)]) ⟨rfl, rfl, rfl, rfl, rfl, rfl, trivial⟩ ?_
     refine QM.meetK (_) ⟨(by first | rfl | exact lk rfl (by congr 1; omega) | exact lk rfl (by simp)), rfl, rfl, rfl, rfl, rfl, trivial⟩ (by (repeat' (first | exact SubM.nil _ | refine SubM.cons rfl ?_ | refine SubM.app ?_))) ?_
     · rw [any_snoc default (by omega), passB]; simp only [h1, h2, h3, decide_true, decide_false, Bool.true_and, Bool.false_and, Bool.and_true, Bool.and_false, Bool.not_true, Bool.not_false, Bool.true_or, Bool.false_or, Bool.or_true, Bool.or_false, ne_eq, not_true_eq_false, not_false_eq_true, Bool.and_self]
    ·
     refine LM.strip (t := 28) rfl rfl rfl ?_
     refine LM.val (ov_field Tryz.underlying135 rfl Tryz.sizeOf3 rfl (k := 0) rfl rfl) ?_
     refine LM.strip (t := 28) rfl rfl rfl ?_
     first | refine LM.rd (om_ld Tryz.isAgg3 rfl rfl) ?_
     refine LM.strip (t := 28) rfl rfl rfl ?_
     refine LM.val (ov_eql rfl rfl) ?_
     refine LM.val (ov_pickF rfl rfl) ?_
     refine LM.val (ov_move rfl) ?_
     refine LM.splitD (t := 33) rfl (fun h4 => ?_) (fun h4 => ?_)
     ·
      refine LM.drop (t := 33) rfl rfl rfl ?_
      refine LM.drop (t := 33) rfl rfl rfl ?_
      refine LM.drop (t := 33) rfl rfl rfl ?_
      refine LM.val (ov_pickT rfl rfl) ?_
      refine LM.val (ov_move rfl) ?_
      refine LM.drop (t := 38) rfl rfl rfl ?_
      refine LM.drop (t := 38) rfl rfl rfl ?_
      refine LM.drop (t := 38) rfl rfl rfl ?_
      refine LM.val (ov_pickT rfl rfl) ?_
      refine LM.val (ov_move rfl) ?_
      refine LM.drop (t := 43) rfl rfl rfl ?_
      refine LM.drop (t := 43) rfl rfl rfl ?_
      refine LM.drop (t := 43) rfl rfl rfl ?_
      refine LM.val (ov_pickT rfl rfl) ?_
      refine LM.val (ov_assign rfl) ?_
      refine LM.nil ?_
      refine QM.sub (e' := [(1, _), (2, _), (3, _), (8, _), (9, _), (10, _)]) ⟨rfl, rfl, rfl, rfl, rfl, rfl, trivial⟩ ?_
      refine QM.meetK (_) ⟨(by first | rfl | exact lk rfl (by congr 1; omega) | exact lk rfl (by simp)), rfl, rfl, rfl, rfl, rfl, trivial⟩ (by (repeat' (first | exact SubM.nil _ | refine SubM.cons rfl ?_ | refine SubM.app ?_))) ?_
      · rw [any_snoc default (by omega), passB]; simp only [h1, h2, h3, h4, decide_true, decide_false, Bool.true_and, Bool.false_and, Bool.and_true, Bool.and_false, Bool.not_true, Bool.not_false, Bool.true_or, Bool.false_or, Bool.or_true, Bool.or_false, ne_eq, not_true_eq_false, not_false_eq_true, Bool.and_self]
     ·
      refine LM.strip (t := 33) rfl rfl rfl ?_
      refine LM.val (ov_field Tryz.underlying135 rfl Tryz.sizeOf3 rfl (k := 0) rfl rfl) ?_
      refine LM.strip (t := 33) rfl rfl rfl ?_
      first | refine LM.rd (om_ld Tryz.isAgg3 rfl rfl) ?_
      refine LM.strip (t := 33) rfl rfl rfl ?_
      refine LM.val (ov_eql rfl rfl) ?_
      refine LM.val (ov_pickF rfl rfl) ?_
      refine LM.val (ov_move rfl) ?_
      refine LM.splitD (t := 38) rfl (fun h5 => ?_) (fun h5 => ?_)
      ·
       refine LM.drop (t := 38) rfl rfl rfl ?_
       refine LM.drop (t := 38) rfl rfl rfl ?_
       refine LM.drop (t := 38) rfl rfl rfl ?_
       refine LM.val (ov_pickT rfl rfl) ?_
       refine LM.val (ov_move rfl) ?_
       refine LM.drop (t := 43) rfl rfl rfl ?_
       refine LM.drop (t := 43) rfl rfl rfl ?_
       refine LM.drop (t := 43) rfl rfl rfl ?_
       refine LM.val (ov_pickT rfl rfl) ?_
       refine LM.val (ov_assign rfl) ?_
       refine LM.nil ?_
       refine QM.sub (e' := [(1, _), (2, _), (3, _), (8, _), (9, _), (10, _)]) ⟨rfl, rfl, rfl, rfl, rfl, rfl, trivial⟩ ?_
       refine QM.meetK (_) ⟨(by first | rfl | exact lk rfl (by congr 1; omega) | exact lk rfl (by simp)), rfl, rfl, rfl, rfl, rfl, trivial⟩ (by (repeat' (first | exact SubM.nil _ | refine SubM.cons rfl ?_ | refine SubM.app ?_))) ?_
       · rw [any_snoc default (by omega), passB]; simp only [h1, h2, h3, h4, h5, decide_true, decide_false, Bool.true_and, Bool.false_and, Bool.and_true, Bool.and_false, Bool.not_true, Bool.not_false, Bool.true_or, Bool.false_or, Bool.or_true, Bool.or_false, ne_eq, not_true_eq_false, not_false_eq_true, Bool.and_self]
      ·
       refine LM.strip (t := 38) rfl rfl rfl ?_
       refine LM.val (ov_field Tryz.underlying135 rfl Tryz.sizeOf3 rfl (k := 0) rfl rfl) ?_
       refine LM.strip (t := 38) rfl rfl rfl ?_
       first | refine LM.rd (om_ld Tryz.isAgg3 rfl rfl) ?_
       refine LM.strip (t := 38) rfl rfl rfl ?_
       refine LM.val (ov_eql rfl rfl) ?_
       refine LM.val (ov_pickF rfl rfl) ?_
       refine LM.val (ov_move rfl) ?_
       refine LM.splitD (t := 43) rfl (fun h6 => ?_) (fun h6 => ?_)
       ·
        refine LM.drop (t := 43) rfl rfl rfl ?_
        refine LM.drop (t := 43) rfl rfl rfl ?_
        refine LM.drop (t := 43) rfl rfl rfl ?_
        refine LM.val (ov_pickT rfl rfl) ?_
        refine LM.val (ov_assign rfl) ?_
        refine LM.nil ?_
        refine QM.sub (e' := [(1, _), (2, _), (3, _), (8, _), (9, _), (10, _)]) ⟨rfl, rfl, rfl, rfl, rfl, rfl, trivial⟩ ?_
        refine QM.meetK (_) ⟨(by first | rfl | exact lk rfl (by congr 1; omega) | exact lk rfl (by simp)), rfl, rfl, rfl, rfl, rfl, trivial⟩ (by (repeat' (first | exact SubM.nil _ | refine SubM.cons rfl ?_ | refine SubM.app ?_))) ?_
        · rw [any_snoc default (by omega), passB]; simp only [h1, h2, h3, h4, h5, h6, decide_true, decide_false, Bool.true_and, Bool.false_and, Bool.and_true, Bool.and_false, Bool.not_true, Bool.not_false, Bool.true_or, Bool.false_or, Bool.or_true, Bool.or_false, ne_eq, not_true_eq_false, not_false_eq_true, Bool.and_self]
       ·
        refine LM.strip (t := 43) rfl rfl rfl ?_
        refine LM.val (ov_field Tryz.underlying135 rfl Tryz.sizeOf3 rfl (k := 0) rfl rfl) ?_
        refine LM.strip (t := 43) rfl rfl rfl ?_
        first | refine LM.rd (om_ld Tryz.isAgg3 rfl rfl) ?_
        refine LM.strip (t := 43) rfl rfl rfl ?_
        refine LM.val (ov_eql rfl rfl) ?_
        refine LM.val (ov_pickF rfl rfl) ?_
        refine LM.val (ov_assign rfl) ?_
        refine LM.nil ?_
        refine QM.sub (e' := [(1, _), (2, _), (3, _), (8, _), (9, _), (10, _)]) ⟨rfl, rfl, rfl, rfl, rfl, rfl, trivial⟩ ?_
        refine QM.meetK (_) ⟨(by first | rfl | exact lk rfl (by congr 1; omega) | exact lk rfl (by simp)), rfl, rfl, rfl, rfl, rfl, trivial⟩ (by (repeat' (first | exact SubM.nil _ | refine SubM.cons rfl ?_ | refine SubM.app ?_))) ?_
        · rw [any_snoc default (by omega), passB]; simp only [h1, h2, h3, h4, h5, h6, decide_true, decide_false, Bool.true_and, Bool.false_and, Bool.and_true, Bool.and_false, Bool.not_true, Bool.not_false, Bool.true_or, Bool.false_or, Bool.or_true, Bool.or_false, ne_eq, not_true_eq_false, not_false_eq_true, Bool.and_self]
   ·
    rintro t rfl
    change QM _ _ _ _ _ (oB b10 (xs.getD i default) :: pB b3 fv ad n cap :: []) _ _ _
    have hr := right_a (may_at hm0 (show i < xs.length by omega))
    refine QM.then ?_
    refine wpM.seq ?_
    refine wpM.seq ?_
    refine wpM.joinK (α := Bool) (fun q => [(72, .bool q)]) [(1, _), (2, _), (3, _), (8, _), (9, _), (10, _)] (fun q => oB b10 (xs.getD i default) :: pB b3 fv ad n cap :: []) (fun q => q = ((takesB (xs.getD i default).k || decide ((xs.getD i default).k = 6)) && decide ((xs.getD i default).a ≥ n2) || decide ((xs.getD i default).k = 9) && decide ((xs.getD i default).a ≥ progs))) ⟨rfl, rfl, rfl, rfl, rfl, rfl, trivial⟩ ?_ ?_
    ·
     refine wpM.region ?_
     refine LM.rd (om_ldW Tryz.isAgg135 Tryz.sizeOf135 rfl rfl) ?_
     refine LM.callE (oc_call (enters_fn Tryz.func91 (by kernel_rfl) rfl) rfl) (fun w hm hc hg => rtakes_spec _ w) ?_
     refine LM.val (ov_move rfl) ?_
     first | refine LM.splitD (t := 50) rfl (fun h7 => ?_) (fun h7 => ?_) | refine LM.splitB (t := 50) rfl (fun h7 => ?_) (fun h7 => ?_)
     ·
      refine LM.drop (t := 50) rfl rfl rfl ?_
      refine LM.drop (t := 50) rfl rfl rfl ?_
      refine LM.drop (t := 50) rfl rfl rfl ?_
      refine LM.val (ov_pickT rfl rfl) ?_
      refine LM.val (ov_move rfl) ?_
      refine LM.strip (t := 55) rfl rfl rfl ?_
      refine LM.val (ov_field Tryz.underlying135 rfl Tryz.sizeOf3 rfl (k := 1) rfl rfl) ?_
      refine LM.strip (t := 55) rfl rfl rfl ?_
      first | refine LM.rd (om_ld Tryz.isAgg3 rfl rfl) ?_
      refine LM.strip (t := 55) rfl rfl rfl ?_
      refine LM.val (ov_move rfl) ?_
      refine LM.strip (t := 55) rfl rfl rfl ?_
      refine LM.val (ov_len Tryz.underlying27 rfl) ?_
      refine LM.strip (t := 55) rfl rfl rfl ?_
      refine LM.val (ov_geq rfl rfl) ?_
      refine LM.val (ov_pickT rfl rfl) ?_
      refine LM.val (ov_move rfl) ?_
      refine LM.splitD (t := 62) rfl (fun h8 => ?_) (fun h8 => ?_)
      ·
       refine LM.drop (t := 62) rfl rfl rfl ?_
       refine LM.drop (t := 62) rfl rfl rfl ?_
       refine LM.drop (t := 62) rfl rfl rfl ?_
       refine LM.dropU (t := 62) rfl rfl rfl ?_
       refine LM.dropX (t := 66) rfl rfl ?_
       refine LM.dropX (t := 66) rfl rfl ?_
       refine LM.dropX (t := 66) rfl rfl ?_
       refine LM.dropX (t := 66) rfl rfl ?_
       refine LM.drop (t := 62) rfl rfl rfl ?_
       refine LM.val (ov_pickT rfl rfl) ?_
       refine LM.nil ?_
       refine QM.sub (e' := [(1, _), (2, _), (3, _), (8, _), (9, _), (10, _), (72, _)]) ⟨rfl, rfl, rfl, rfl, rfl, rfl, rfl, trivial⟩ ?_
       refine QM.meetK (_) ⟨(by first | rfl | exact lk rfl (by congr 1; omega) | exact lk rfl (by simp)), rfl, rfl, rfl, rfl, rfl, rfl, trivial⟩ (by (repeat' (first | exact SubM.nil _ | refine SubM.cons rfl ?_ | refine SubM.app ?_))) ?_
       · first | (exfalso; omega) | (simp only [h1, h2, h7, h8, decide_true, decide_false, Bool.true_and, Bool.false_and, Bool.and_true, Bool.and_false, Bool.not_true, Bool.not_false, Bool.true_or, Bool.false_or, Bool.or_true, Bool.or_false, ne_eq, not_true_eq_false, not_false_eq_true, Bool.and_self]; done) | (simp only [h1, h2, h7, h8, decide_true, decide_false, Bool.true_and, Bool.false_and, Bool.and_true, Bool.and_false, Bool.not_true, Bool.not_false, Bool.true_or, Bool.false_or, Bool.or_true, Bool.or_false, ne_eq, not_true_eq_false, not_false_eq_true, Bool.and_self]; rfl)
      ·
       refine LM.strip (t := 62) rfl rfl rfl ?_
       refine LM.val (ov_field Tryz.underlying135 rfl Tryz.sizeOf3 rfl (k := 0) rfl rfl) ?_
       refine LM.strip (t := 62) rfl rfl rfl ?_
       first | refine LM.rd (om_ld Tryz.isAgg3 rfl rfl) ?_
       refine LM.strip (t := 62) rfl rfl rfl ?_
       refine LM.val (ov_eql rfl rfl) ?_
       refine LM.strip (t := 62) rfl rfl rfl ?_
       refine LM.val (ov_move rfl) ?_
       refine LM.splitD (t := 66) rfl (fun h9 => ?_) (fun h9 => ?_)
       ·
        refine LM.strip (t := 66) rfl rfl rfl ?_
        refine LM.val (ov_field Tryz.underlying135 rfl Tryz.sizeOf3 rfl (k := 1) rfl rfl) ?_
        refine LM.strip (t := 66) rfl rfl rfl ?_
        first | refine LM.rd (om_ld Tryz.isAgg3 rfl rfl) ?_
        refine LM.strip (t := 66) rfl rfl rfl ?_
        refine LM.val (ov_move rfl) ?_
        refine LM.strip (t := 66) rfl rfl rfl ?_
        refine LM.val (ov_geq rfl rfl) ?_
        refine LM.strip (t := 62) rfl rfl rfl ?_
        refine LM.val (ov_pickT rfl rfl) ?_
        refine LM.val (ov_pickF rfl rfl) ?_
        refine LM.nil ?_
        refine QM.sub (e' := [(1, _), (2, _), (3, _), (8, _), (9, _), (10, _), (72, _)]) ⟨rfl, rfl, rfl, rfl, rfl, rfl, rfl, trivial⟩ ?_
        refine QM.meetK (_) ⟨(by first | rfl | exact lk rfl (by congr 1; omega) | exact lk rfl (by simp)), rfl, rfl, rfl, rfl, rfl, rfl, trivial⟩ (by (repeat' (first | exact SubM.nil _ | refine SubM.cons rfl ?_ | refine SubM.app ?_))) ?_
        · first | (exfalso; omega) | (simp only [h1, h2, h7, h8, h9, decide_true, decide_false, Bool.true_and, Bool.false_and, Bool.and_true, Bool.and_false, Bool.not_true, Bool.not_false, Bool.true_or, Bool.false_or, Bool.or_true, Bool.or_false, ne_eq, not_true_eq_false, not_false_eq_true, Bool.and_self]; done) | (simp only [h1, h2, h7, h8, h9, decide_true, decide_false, Bool.true_and, Bool.false_and, Bool.and_true, Bool.and_false, Bool.not_true, Bool.not_false, Bool.true_or, Bool.false_or, Bool.or_true, Bool.or_false, ne_eq, not_true_eq_false, not_false_eq_true, Bool.and_self]; rfl)
       ·
        refine LM.drop (t := 66) rfl rfl rfl ?_
        refine LM.drop (t := 66) rfl rfl rfl ?_
        refine LM.drop (t := 66) rfl rfl rfl ?_
        refine LM.drop (t := 66) rfl rfl rfl ?_
        refine LM.strip (t := 62) rfl rfl rfl ?_
        refine LM.val (ov_pickF rfl rfl) ?_
        refine LM.val (ov_pickF rfl rfl) ?_
        refine LM.nil ?_
        refine QM.sub (e' := [(1, _), (2, _), (3, _), (8, _), (9, _), (10, _), (72, _)]) ⟨rfl, rfl, rfl, rfl, rfl, rfl, rfl, trivial⟩ ?_
        refine QM.meetK (_) ⟨(by first | rfl | exact lk rfl (by congr 1; omega) | exact lk rfl (by simp)), rfl, rfl, rfl, rfl, rfl, rfl, trivial⟩ (by (repeat' (first | exact SubM.nil _ | refine SubM.cons rfl ?_ | refine SubM.app ?_))) ?_
        · first | (exfalso; omega) | (simp only [h1, h2, h7, h8, h9, decide_true, decide_false, Bool.true_and, Bool.false_and, Bool.and_true, Bool.and_false, Bool.not_true, Bool.not_false, Bool.true_or, Bool.false_or, Bool.or_true, Bool.or_false, ne_eq, not_true_eq_false, not_false_eq_true, Bool.and_self]; done) | (simp only [h1, h2, h7, h8, h9, decide_true, decide_false, Bool.true_and, Bool.false_and, Bool.and_true, Bool.and_false, Bool.not_true, Bool.not_false, Bool.true_or, Bool.false_or, Bool.or_true, Bool.or_false, ne_eq, not_true_eq_false, not_false_eq_true, Bool.and_self]; rfl)
     ·
      refine LM.strip (t := 50) rfl rfl rfl ?_
      refine LM.val (ov_field Tryz.underlying135 rfl Tryz.sizeOf3 rfl (k := 0) rfl rfl) ?_
      refine LM.strip (t := 50) rfl rfl rfl ?_
      first | refine LM.rd (om_ld Tryz.isAgg3 rfl rfl) ?_
      refine LM.strip (t := 50) rfl rfl rfl ?_
      refine LM.val (ov_eql rfl rfl) ?_
      refine LM.val (ov_pickF rfl rfl) ?_
      refine LM.val (ov_move rfl) ?_
      refine LM.splitD (t := 55) rfl (fun h10 => ?_) (fun h10 => ?_)
      ·
       refine LM.strip (t := 55) rfl rfl rfl ?_
       refine LM.val (ov_field Tryz.underlying135 rfl Tryz.sizeOf3 rfl (k := 1) rfl rfl) ?_
       refine LM.strip (t := 55) rfl rfl rfl ?_
       first | refine LM.rd (om_ld Tryz.isAgg3 rfl rfl) ?_
       refine LM.strip (t := 55) rfl rfl rfl ?_
       refine LM.val (ov_move rfl) ?_
       refine LM.strip (t := 55) rfl rfl rfl ?_
       refine LM.val (ov_len Tryz.underlying27 rfl) ?_
       refine LM.strip (t := 55) rfl rfl rfl ?_
       refine LM.val (ov_geq rfl rfl) ?_
       refine LM.val (ov_pickT rfl rfl) ?_
       refine LM.val (ov_move rfl) ?_
       refine LM.splitD (t := 62) rfl (fun h11 => ?_) (fun h11 => ?_)
       ·
        refine LM.drop (t := 62) rfl rfl rfl ?_
        refine LM.drop (t := 62) rfl rfl rfl ?_
        refine LM.drop (t := 62) rfl rfl rfl ?_
        refine LM.dropU (t := 62) rfl rfl rfl ?_
        refine LM.dropX (t := 66) rfl rfl ?_
        refine LM.dropX (t := 66) rfl rfl ?_
        refine LM.dropX (t := 66) rfl rfl ?_
        refine LM.dropX (t := 66) rfl rfl ?_
        refine LM.drop (t := 62) rfl rfl rfl ?_
        refine LM.val (ov_pickT rfl rfl) ?_
        refine LM.nil ?_
        refine QM.sub (e' := [(1, _), (2, _), (3, _), (8, _), (9, _), (10, _), (72, _)]) ⟨rfl, rfl, rfl, rfl, rfl, rfl, rfl, trivial⟩ ?_
        refine QM.meetK (_) ⟨(by first | rfl | exact lk rfl (by congr 1; omega) | exact lk rfl (by simp)), rfl, rfl, rfl, rfl, rfl, rfl, trivial⟩ (by (repeat' (first | exact SubM.nil _ | refine SubM.cons rfl ?_ | refine SubM.app ?_))) ?_
        · first | (exfalso; omega) | (simp only [h1, h2, h7, h10, h11, decide_true, decide_false, Bool.true_and, Bool.false_and, Bool.and_true, Bool.and_false, Bool.not_true, Bool.not_false, Bool.true_or, Bool.false_or, Bool.or_true, Bool.or_false, ne_eq, not_true_eq_false, not_false_eq_true, Bool.and_self]; done) | (simp only [h1, h2, h7, h10, h11, decide_true, decide_false, Bool.true_and, Bool.false_and, Bool.and_true, Bool.and_false, Bool.not_true, Bool.not_false, Bool.true_or, Bool.false_or, Bool.or_true, Bool.or_false, ne_eq, not_true_eq_false, not_false_eq_true, Bool.and_self]; rfl)
       ·
        refine LM.strip (t := 62) rfl rfl rfl ?_
        refine LM.val (ov_field Tryz.underlying135 rfl Tryz.sizeOf3 rfl (k := 0) rfl rfl) ?_
        refine LM.strip (t := 62) rfl rfl rfl ?_
        first | refine LM.rd (om_ld Tryz.isAgg3 rfl rfl) ?_
        refine LM.strip (t := 62) rfl rfl rfl ?_
        refine LM.val (ov_eql rfl rfl) ?_
        refine LM.strip (t := 62) rfl rfl rfl ?_
        refine LM.val (ov_move rfl) ?_
        refine LM.splitD (t := 66) rfl (fun h12 => ?_) (fun h12 => ?_)
        ·
         refine LM.strip (t := 66) rfl rfl rfl ?_
         refine LM.val (ov_field Tryz.underlying135 rfl Tryz.sizeOf3 rfl (k := 1) rfl rfl) ?_
         refine LM.strip (t := 66) rfl rfl rfl ?_
         first | refine LM.rd (om_ld Tryz.isAgg3 rfl rfl) ?_
         refine LM.strip (t := 66) rfl rfl rfl ?_
         refine LM.val (ov_move rfl) ?_
         refine LM.strip (t := 66) rfl rfl rfl ?_
         refine LM.val (ov_geq rfl rfl) ?_
         refine LM.strip (t := 62) rfl rfl rfl ?_
         refine LM.val (ov_pickT rfl rfl) ?_
         refine LM.val (ov_pickF rfl rfl) ?_
         refine LM.nil ?_
         refine QM.sub (e' := [(1, _), (2, _), (3, _), (8, _), (9, _), (10, _), (72, _)]) ⟨rfl, rfl, rfl, rfl, rfl, rfl, rfl, trivial⟩ ?_
         refine QM.meetK (_) ⟨(by first | rfl | exact lk rfl (by congr 1; omega) | exact lk rfl (by simp)), rfl, rfl, rfl, rfl, rfl, rfl, trivial⟩ (by (repeat' (first | exact SubM.nil _ | refine SubM.cons rfl ?_ | refine SubM.app ?_))) ?_
         · (exfalso; omega)
        ·
         refine LM.drop (t := 66) rfl rfl rfl ?_
         refine LM.drop (t := 66) rfl rfl rfl ?_
         refine LM.drop (t := 66) rfl rfl rfl ?_
         refine LM.drop (t := 66) rfl rfl rfl ?_
         refine LM.strip (t := 62) rfl rfl rfl ?_
         refine LM.val (ov_pickF rfl rfl) ?_
         refine LM.val (ov_pickF rfl rfl) ?_
         refine LM.nil ?_
         refine QM.sub (e' := [(1, _), (2, _), (3, _), (8, _), (9, _), (10, _), (72, _)]) ⟨rfl, rfl, rfl, rfl, rfl, rfl, rfl, trivial⟩ ?_
         refine QM.meetK (_) ⟨(by first | rfl | exact lk rfl (by congr 1; omega) | exact lk rfl (by simp)), rfl, rfl, rfl, rfl, rfl, rfl, trivial⟩ (by (repeat' (first | exact SubM.nil _ | refine SubM.cons rfl ?_ | refine SubM.app ?_))) ?_
         · first | (exfalso; omega) | (simp only [h1, h2, h7, h10, h11, h12, decide_true, decide_false, Bool.true_and, Bool.false_and, Bool.and_true, Bool.and_false, Bool.not_true, Bool.not_false, Bool.true_or, Bool.false_or, Bool.or_true, Bool.or_false, ne_eq, not_true_eq_false, not_false_eq_true, Bool.and_self]; done) | (simp only [h1, h2, h7, h10, h11, h12, decide_true, decide_false, Bool.true_and, Bool.false_and, Bool.and_true, Bool.and_false, Bool.not_true, Bool.not_false, Bool.true_or, Bool.false_or, Bool.or_true, Bool.or_false, ne_eq, not_true_eq_false, not_false_eq_true, Bool.and_self]; rfl)
      ·
       refine LM.drop (t := 55) rfl rfl rfl ?_
       refine LM.drop (t := 55) rfl rfl rfl ?_
       refine LM.drop (t := 55) rfl rfl rfl ?_
       refine LM.drop (t := 55) rfl rfl rfl ?_
       refine LM.drop (t := 55) rfl rfl rfl ?_
       refine LM.val (ov_pickF rfl rfl) ?_
       refine LM.val (ov_move rfl) ?_
       refine LM.strip (t := 62) rfl rfl rfl ?_
       refine LM.val (ov_field Tryz.underlying135 rfl Tryz.sizeOf3 rfl (k := 0) rfl rfl) ?_
       refine LM.strip (t := 62) rfl rfl rfl ?_
       first | refine LM.rd (om_ld Tryz.isAgg3 rfl rfl) ?_
       refine LM.strip (t := 62) rfl rfl rfl ?_
       refine LM.val (ov_eql rfl rfl) ?_
       refine LM.strip (t := 62) rfl rfl rfl ?_
       refine LM.val (ov_move rfl) ?_
       refine LM.splitD (t := 66) rfl (fun h13 => ?_) (fun h13 => ?_)
       ·
        refine LM.strip (t := 66) rfl rfl rfl ?_
        refine LM.val (ov_field Tryz.underlying135 rfl Tryz.sizeOf3 rfl (k := 1) rfl rfl) ?_
        refine LM.strip (t := 66) rfl rfl rfl ?_
        first | refine LM.rd (om_ld Tryz.isAgg3 rfl rfl) ?_
        refine LM.strip (t := 66) rfl rfl rfl ?_
        refine LM.val (ov_move rfl) ?_
        refine LM.strip (t := 66) rfl rfl rfl ?_
        refine LM.val (ov_geq rfl rfl) ?_
        refine LM.strip (t := 62) rfl rfl rfl ?_
        refine LM.val (ov_pickT rfl rfl) ?_
        refine LM.val (ov_pickF rfl rfl) ?_
        refine LM.nil ?_
        refine QM.sub (e' := [(1, _), (2, _), (3, _), (8, _), (9, _), (10, _), (72, _)]) ⟨rfl, rfl, rfl, rfl, rfl, rfl, rfl, trivial⟩ ?_
        refine QM.meetK (_) ⟨(by first | rfl | exact lk rfl (by congr 1; omega) | exact lk rfl (by simp)), rfl, rfl, rfl, rfl, rfl, rfl, trivial⟩ (by (repeat' (first | exact SubM.nil _ | refine SubM.cons rfl ?_ | refine SubM.app ?_))) ?_
        · first | (exfalso; omega) | (simp only [h1, h2, h7, h10, h13, decide_true, decide_false, Bool.true_and, Bool.false_and, Bool.and_true, Bool.and_false, Bool.not_true, Bool.not_false, Bool.true_or, Bool.false_or, Bool.or_true, Bool.or_false, ne_eq, not_true_eq_false, not_false_eq_true, Bool.and_self]; done) | (simp only [h1, h2, h7, h10, h13, decide_true, decide_false, Bool.true_and, Bool.false_and, Bool.and_true, Bool.and_false, Bool.not_true, Bool.not_false, Bool.true_or, Bool.false_or, Bool.or_true, Bool.or_false, ne_eq, not_true_eq_false, not_false_eq_true, Bool.and_self]; rfl)
       ·
        refine LM.drop (t := 66) rfl rfl rfl ?_
        refine LM.drop (t := 66) rfl rfl rfl ?_
        refine LM.drop (t := 66) rfl rfl rfl ?_
        refine LM.drop (t := 66) rfl rfl rfl ?_
        refine LM.strip (t := 62) rfl rfl rfl ?_
        refine LM.val (ov_pickF rfl rfl) ?_
        refine LM.val (ov_pickF rfl rfl) ?_
        refine LM.nil ?_
        refine QM.sub (e' := [(1, _), (2, _), (3, _), (8, _), (9, _), (10, _), (72, _)]) ⟨rfl, rfl, rfl, rfl, rfl, rfl, rfl, trivial⟩ ?_
        refine QM.meetK (_) ⟨(by first | rfl | exact lk rfl (by congr 1; omega) | exact lk rfl (by simp)), rfl, rfl, rfl, rfl, rfl, rfl, trivial⟩ (by (repeat' (first | exact SubM.nil _ | refine SubM.cons rfl ?_ | refine SubM.app ?_))) ?_
        · first | (exfalso; omega) | (simp only [h1, h2, h7, h10, h13, decide_true, decide_false, Bool.true_and, Bool.false_and, Bool.and_true, Bool.and_false, Bool.not_true, Bool.not_false, Bool.true_or, Bool.false_or, Bool.or_true, Bool.or_false, ne_eq, not_true_eq_false, not_false_eq_true, Bool.and_self]; done) | (simp only [h1, h2, h7, h10, h13, decide_true, decide_false, Bool.true_and, Bool.false_and, Bool.and_true, Bool.and_false, Bool.not_true, Bool.not_false, Bool.true_or, Bool.false_or, Bool.or_true, Bool.or_false, ne_eq, not_true_eq_false, not_false_eq_true, Bool.and_self]; rfl)
    ·
     rintro q hq
     change QM _ _ _ _ _ (oB b10 (xs.getD i default) :: pB b3 fv ad n cap :: []) _ _ _
     refine QM.then ?_
     first | refine wpM.condD rfl (fun h14 => ?_) (fun h14 => ?_) | refine wpM.condB rfl (fun h14 => ?_) (fun h14 => ?_)
     ·
      refine wpM.seq ?_
      refine wpM.region ?_
      refine LM.val (ov_move rfl) ?_
      refine LM.val (ov_assign rfl) ?_
      refine LM.val (ov_assign rfl) ?_
      refine LM.nil ?_
      refine QM.sub (e' := [(6, _), (7, _)]) ⟨rfl, rfl, trivial⟩ ?_
      refine QM.then ?_
      refine wpM.ret ?_
      refine QM.then_ret ?_
      refine QM.block_ret ?_
      refine QM.then_ret ?_
      refine QM.then_ret ?_
      refine QM.block_ret ?_
      refine QM.then_ret ?_
      refine QM.leave (.inl rfl) [.tmp 6, .tmp 7] Tryz.results46 rfl ?_
      intro w' hm' hc' hg'
      exact ⟨(ckV_at (e := 4) hm0 h0 (by omega) (by simp only [fitsO, ← hn, ← hn2, ← hq]; simp only [h1, h2, h14, decide_true, decide_false, Bool.true_and, Bool.false_and, Bool.and_true, Bool.and_false, Bool.not_true, Bool.not_false, Bool.true_or, Bool.false_or, Bool.or_true, Bool.or_false, ne_eq, not_true_eq_false, not_false_eq_true, Bool.and_self, if_true]) (by decide)).symm, hc'⟩
     ·
      refine wpM.skip ?_
      refine QM.then ?_
      refine wpM.seq ?_
      refine wpM.seq ?_
      refine wpM.joinK (α := Bool) (fun q3 => [(85, .bool q3)]) [(1, _), (2, _), (3, _), (8, _), (9, _), (10, _)] (fun q3 => oB b10 (xs.getD i default) :: pB b3 fv ad n cap :: []) (fun q3 => q3 = (decide ((xs.getD i default).k = 3) && !(ls.getD (xs.getD i default).a.toNat default).sh)) ⟨rfl, rfl, rfl, rfl, rfl, rfl, trivial⟩ ?_ ?_
      ·
       refine wpM.region ?_
       refine LM.val (ov_field Tryz.underlying135 rfl Tryz.sizeOf3 rfl (k := 0) rfl rfl) ?_
       first | refine LM.rd (om_ld Tryz.isAgg3 rfl rfl) ?_
       refine LM.val (ov_eql rfl rfl) ?_
       refine LM.val (ov_move rfl) ?_
       refine LM.splitD (t := 77) rfl (fun h15 => ?_) (fun h15 => ?_)
       ·
        have hlt := fits_lt2 hq h14 (by rw [h15]; rfl)
        refine LM.strip (t := 77) rfl rfl rfl ?_
        refine LM.val (ov_move rfl) ?_
        refine LM.strip (t := 77) rfl rfl rfl ?_
        refine LM.val (ov_field Tryz.underlying135 rfl Tryz.sizeOf3 rfl (k := 1) rfl rfl) ?_
        refine LM.strip (t := 77) rfl rfl rfl ?_
        first | refine LM.rd (om_ld Tryz.isAgg3 rfl rfl) ?_
        refine LM.strip (t := 77) rfl rfl rfl ?_
        first | refine LM.val (ov_idxSN (by first | exact Sr.spt (by assumption) | exact Sl.spt (by assumption)) Tryz.underlying27 Tryz.sizeOf63 rfl rfl (by omega)) ?_ | refine LM.val (ov_idxS (by first | exact Sr.spt (by assumption) | exact Sl.spt (by assumption)) Tryz.underlying27 Tryz.sizeOf63 rfl rfl (by omega)) ?_ | refine LM.val (ov_idx Tryz.underlying27 Tryz.sizeOf63 rfl rfl (by omega)) ?_
        refine LM.strip (t := 77) rfl rfl rfl ?_
        refine LM.val (ov_field Tryz.underlying63 rfl Tryz.sizeOf4 rfl (k := 0) rfl rfl) ?_
        refine LM.strip (t := 77) rfl rfl rfl ?_
        first | refine LM.rd (om_slE (j := 0) (by assumption) (by intro _; rfl) Tryz.isAgg4 rfl rfl (by exact getq default (by first | omega | (simp only [List.length_set, List.length_append, List.length_cons, List.length_nil]; omega))) rfl (by rfl)) ?_ | refine LM.rdC (om_srE (j := 0) (by assumption) Tryz.isAgg4 rfl rfl (by exact getq default (by first | omega | (simp only [List.length_set, List.length_append, List.length_cons, List.length_nil]; omega))) (by rfl) (by rfl) id) ?_ | refine LM.rd (om_ld Tryz.isAgg4 rfl rfl) ?_
        refine LM.strip (t := 77) rfl rfl rfl ?_
        first | refine LM.val (ov_notD rfl) ?_ | refine LM.val (ov_not rfl) ?_
        refine LM.val (ov_pickT rfl rfl) ?_
        refine LM.nil ?_
        refine QM.sub (e' := [(1, _), (2, _), (3, _), (8, _), (9, _), (10, _), (85, _)]) ⟨rfl, rfl, rfl, rfl, rfl, rfl, rfl, trivial⟩ ?_
        refine QM.meetK (_) ⟨(by first | rfl | exact lk rfl (by congr 1; omega) | exact lk rfl (by simp)), rfl, rfl, rfl, rfl, rfl, rfl, trivial⟩ (by (repeat' (first | exact SubM.nil _ | refine SubM.cons rfl ?_ | refine SubM.app ?_))) ?_
        · simp only [h1, h2, h14, h15, decide_true, decide_false, Bool.true_and, Bool.false_and, Bool.and_true, Bool.and_false, Bool.not_true, Bool.not_false, Bool.true_or, Bool.false_or, Bool.or_true, Bool.or_false, ne_eq, not_true_eq_false, not_false_eq_true, Bool.and_self]
       ·
        refine LM.drop (t := 77) rfl rfl rfl ?_
        refine LM.drop (t := 77) rfl rfl rfl ?_
        refine LM.drop (t := 77) rfl rfl rfl ?_
        refine LM.drop (t := 77) rfl rfl rfl ?_
        refine LM.drop (t := 77) rfl rfl rfl ?_
        refine LM.drop (t := 77) rfl rfl rfl ?_
        refine LM.drop (t := 77) rfl rfl rfl ?_
        refine LM.val (ov_pickF rfl rfl) ?_
        refine LM.nil ?_
        refine QM.sub (e' := [(1, _), (2, _), (3, _), (8, _), (9, _), (10, _), (85, _)]) ⟨rfl, rfl, rfl, rfl, rfl, rfl, rfl, trivial⟩ ?_
        refine QM.meetK (_) ⟨(by first | rfl | exact lk rfl (by congr 1; omega) | exact lk rfl (by simp)), rfl, rfl, rfl, rfl, rfl, rfl, trivial⟩ (by (repeat' (first | exact SubM.nil _ | refine SubM.cons rfl ?_ | refine SubM.app ?_))) ?_
        · simp only [h1, h2, h14, h15, decide_true, decide_false, Bool.true_and, Bool.false_and, Bool.and_true, Bool.and_false, Bool.not_true, Bool.not_false, Bool.true_or, Bool.false_or, Bool.or_true, Bool.or_false, ne_eq, not_true_eq_false, not_false_eq_true, Bool.and_self]
      ·
       rintro q3 hq3
       change QM _ _ _ _ _ (oB b10 (xs.getD i default) :: pB b3 fv ad n cap :: []) _ _ _
       refine QM.then ?_
       first | refine wpM.condD rfl (fun h16 => ?_) (fun h16 => ?_) | refine wpM.condB rfl (fun h16 => ?_) (fun h16 => ?_)
       ·
        refine wpM.seq ?_
        refine wpM.region ?_
        refine LM.val (ov_move rfl) ?_
        refine LM.val (ov_assign rfl) ?_
        refine LM.val (ov_assign rfl) ?_
        refine LM.nil ?_
        refine QM.sub (e' := [(6, _), (7, _)]) ⟨rfl, rfl, trivial⟩ ?_
        refine QM.then ?_
        refine wpM.ret ?_
        refine QM.then_ret ?_
        refine QM.block_ret ?_
        refine QM.then_ret ?_
        refine QM.then_ret ?_
        refine QM.block_ret ?_
        refine QM.then_ret ?_
        refine QM.leave (.inl rfl) [.tmp 6, .tmp 7] Tryz.results46 rfl ?_
        intro w' hm' hc' hg'
        exact ⟨(ckV_at (e := 1) hm0 h0 (by omega) (by simp only [fitsO, ← hn, ← hn2, ← hq, ← hq3]; simp only [h1, h2, h14, h16, decide_true, decide_false, Bool.true_and, Bool.false_and, Bool.and_true, Bool.and_false, Bool.not_true, Bool.not_false, Bool.true_or, Bool.false_or, Bool.or_true, Bool.or_false, ne_eq, not_true_eq_false, not_false_eq_true, Bool.and_self, if_true, if_false, Bool.false_eq_true]) (by decide)).symm, hc'⟩
       ·
        refine wpM.skip ?_
        refine QM.then ?_
        refine wpM.seq ?_
        refine wpM.region ?_
        refine LM.rd (om_ldW Tryz.isAgg135 Tryz.sizeOf135 rfl rfl) ?_
        refine LM.callE (oc_call (enters_fn Tryz.func91 (by kernel_rfl) rfl) rfl) (fun w hm hc hg => rtakes_spec _ w) ?_
        refine LM.nil ?_
        refine QM.sub (e' := [(1, _), (2, _), (3, _), (8, _), (9, _), (10, _), (88, _)]) ⟨rfl, rfl, rfl, rfl, rfl, rfl, rfl, trivial⟩ ?_
        refine QM.then ?_
        first | refine wpM.condD rfl (fun h17 => ?_) (fun h17 => ?_) | refine wpM.condB rfl (fun h17 => ?_) (fun h17 => ?_)
        ·
         have hlt := fits_lt2 hq h14 h17
         refine wpM.seq ?_
         refine wpM.region ?_
         refine LM.rd (om_ldW Tryz.isAgg87 Tryz.sizeOf87 rfl rfl) ?_
         refine LM.val (ov_move rfl) ?_
         refine LM.callE (oc_call (enters_fn Tryz.func92 (by kernel_rfl) rfl) rfl) (fun w hm hc hg => rsection_spec i w hn (hl.ext hc) hsm (by omega)) ?_
         refine LM.alloc Tryz.zeroValue140 rfl (fun b11 hb11 => ?_)
         refine LM.stW Tryz.sizeOf140 rfl rfl rfl rfl (by first | rfl | decide | (simp; done)) (fun hlt => absurd hlt (by omega)) ?_
         refine LM.nil ?_
         refine QM.sub (e' := [(1, _), (2, _), (3, _), (8, _), (9, _), (10, _), (11, _)]) ⟨rfl, rfl, rfl, rfl, rfl, rfl, rfl, trivial⟩ ?_
         refine QM.then ?_
         refine wpM.seq ?_
         refine wpM.joinK (α := Bool) (fun q4 => [(117, .bool q4)]) [(1, _), (2, _), (3, _), (8, _), (9, _)] (fun q4 => pB b3 fv ad n cap :: []) (fun q4 => q4 = (decide ((secO xs i).2 < 1) || decide ((secO xs i).2 > (ls.getD (xs.getD i default).a.toNat default).cr) || fv && decide (((i + 1 + (secO xs i).1 : Nat) : Int) = n))) ⟨rfl, rfl, rfl, rfl, rfl, trivial⟩ ?_ ?_
         ·
          refine wpM.draw [(0, 0), (1, 1), (2, 0), (3, 0), (4, 0), (5, 1), (6, 0), (7, 0), (8, 1), (9, 0), (10, 0), (11, 1), (12, 0), (13, 0), (14, 0), (15, 0), (16, 1), (17, 0), (18, 0), (19, 1), (20, 0), (21, 1), (22, 0), (23, 0), (24, 0), (25, 0)] (by kernel_rfl) (by kernel_rfl) ?_
          refine LD.val rfl rfl (ov_field Tryz.underlying140 rfl Tryz.sizeOf3 rfl (k := 3) rfl rfl) ?_
          first | refine LD.rd rfl rfl (om_ld Tryz.isAgg3 rfl rfl) ?_
          refine LD.val rfl rfl (ov_lss rfl rfl) ?_
          refine LD.val rfl rfl (ov_move rfl) ?_
          refine LD.splitD (t := 95) rfl (fun h18 => ?_) (fun h18 => ?_)
          ·
           refine LD.drop rfl rfl ⟨95, _, rfl, rfl, rfl⟩ ?_
           refine LD.drop rfl rfl ⟨95, _, rfl, rfl, rfl⟩ ?_
           refine LD.drop rfl rfl ⟨95, _, rfl, rfl, rfl⟩ ?_
           refine LD.drop rfl rfl ⟨95, _, rfl, rfl, rfl⟩ ?_
           refine LD.drop rfl rfl ⟨95, _, rfl, rfl, rfl⟩ ?_
           refine LD.drop rfl rfl ⟨95, _, rfl, rfl, rfl⟩ ?_
           refine LD.drop rfl rfl ⟨95, _, rfl, rfl, rfl⟩ ?_
           refine LD.drop rfl rfl ⟨95, _, rfl, rfl, rfl⟩ ?_
           refine LD.drop rfl rfl ⟨95, _, rfl, rfl, rfl⟩ ?_
           refine LD.val rfl rfl (ov_pickT rfl rfl) ?_
           refine LD.val rfl rfl (ov_move rfl) ?_
           refine LD.drop rfl rfl ⟨106, _, rfl, rfl, rfl⟩ ?_
           refine LD.drop rfl rfl ⟨106, _, rfl, rfl, rfl⟩ ?_
           refine LD.dropU rfl rfl ⟨106, _, rfl, rfl, rfl⟩ ?_
           refine LD.dropX rfl rfl rfl rfl ?_
           refine LD.dropX rfl rfl rfl rfl ?_
           refine LD.dropX rfl rfl rfl rfl ?_
           refine LD.dropX rfl rfl rfl rfl ?_
           refine LD.dropX rfl rfl rfl rfl ?_
           refine LD.dropX rfl rfl rfl rfl ?_
           refine LD.drop rfl rfl ⟨106, _, rfl, rfl, rfl⟩ ?_
           refine LD.val rfl rfl (ov_pickT rfl rfl) ?_
           refine LD.nil ?_
           refine QM.sub (e' := [(1, _), (2, _), (3, _), (8, _), (9, _), (117, _)]) ⟨rfl, rfl, rfl, rfl, rfl, rfl, trivial⟩ ?_
           refine QM.meetK (_) ⟨(by first | rfl | exact lk rfl (by congr 1; omega) | exact lk rfl (by simp)), rfl, rfl, rfl, rfl, rfl, trivial⟩ (by (repeat' (first | exact SubM.nil _ | refine SubM.cons rfl ?_ | refine SubM.app ?_))) ?_
           · simp only [h1, h2, h14, h16, h17, h18, decide_true, decide_false, Bool.true_and, Bool.false_and, Bool.and_true, Bool.and_false, Bool.not_true, Bool.not_false, Bool.true_or, Bool.false_or, Bool.or_true, Bool.or_false, ne_eq, not_true_eq_false, not_false_eq_true, Bool.and_self]
          ·
           refine LD.val rfl ⟨95, _, rfl, rfl, rfl⟩ (ov_field Tryz.underlying140 rfl Tryz.sizeOf3 rfl (k := 3) rfl rfl) ?_
           first | refine LD.rd rfl ⟨95, _, rfl, rfl, rfl⟩ (om_ld Tryz.isAgg3 rfl rfl) ?_
           refine LD.val rfl ⟨95, _, rfl, rfl, rfl⟩ (ov_move rfl) ?_
           refine LD.val rfl ⟨95, _, rfl, rfl, rfl⟩ (ov_field Tryz.underlying135 rfl Tryz.sizeOf3 rfl (k := 1) rfl rfl) ?_
           first | refine LD.rd rfl ⟨95, _, rfl, rfl, rfl⟩ (om_ld Tryz.isAgg3 rfl rfl) ?_
           first | refine LD.val rfl ⟨95, _, rfl, rfl, rfl⟩ (ov_idxSN (by first | exact Sr.spt (by assumption) | exact Sl.spt (by assumption)) Tryz.underlying27 Tryz.sizeOf63 rfl rfl (by omega)) ?_ | refine LD.val rfl ⟨95, _, rfl, rfl, rfl⟩ (ov_idxS (by first | exact Sr.spt (by assumption) | exact Sl.spt (by assumption)) Tryz.underlying27 Tryz.sizeOf63 rfl rfl (by omega)) ?_ | refine LD.val rfl ⟨95, _, rfl, rfl, rfl⟩ (ov_idx Tryz.underlying27 Tryz.sizeOf63 rfl rfl (by omega)) ?_
           refine LD.val rfl ⟨95, _, rfl, rfl, rfl⟩ (ov_field Tryz.underlying63 rfl Tryz.sizeOf3 rfl (k := 2) rfl rfl) ?_
           first | refine LD.rd rfl ⟨95, _, rfl, rfl, rfl⟩ (om_slE (j := 2) (by assumption) (by intro _; rfl) Tryz.isAgg3 rfl rfl (by exact getq default (by first | omega | (simp only [List.length_set, List.length_append, List.length_cons, List.length_nil]; omega))) rfl (by rfl)) ?_ | refine LD.rdC rfl ⟨95, _, rfl, rfl, rfl⟩ (om_srE (j := 2) (by assumption) Tryz.isAgg3 rfl rfl (by exact getq default (by first | omega | (simp only [List.length_set, List.length_append, List.length_cons, List.length_nil]; omega))) (by rfl) (by rfl) id) ?_ | refine LD.rd rfl ⟨95, _, rfl, rfl, rfl⟩ (om_ld Tryz.isAgg3 rfl rfl) ?_
           refine LD.val rfl ⟨95, _, rfl, rfl, rfl⟩ (ov_gtr rfl rfl) ?_
           refine LD.val rfl rfl (ov_pickF rfl rfl) ?_
           refine LD.val rfl rfl (ov_move rfl) ?_
           refine LD.splitD (t := 106) rfl (fun h19 => ?_) (fun h19 => ?_)
           ·
            refine LD.drop rfl rfl ⟨106, _, rfl, rfl, rfl⟩ ?_
            refine LD.drop rfl rfl ⟨106, _, rfl, rfl, rfl⟩ ?_
            refine LD.dropU rfl rfl ⟨106, _, rfl, rfl, rfl⟩ ?_
            refine LD.dropX rfl rfl rfl rfl ?_
            refine LD.dropX rfl rfl rfl rfl ?_
            refine LD.dropX rfl rfl rfl rfl ?_
            refine LD.dropX rfl rfl rfl rfl ?_
            refine LD.dropX rfl rfl rfl rfl ?_
            refine LD.dropX rfl rfl rfl rfl ?_
            refine LD.drop rfl rfl ⟨106, _, rfl, rfl, rfl⟩ ?_
            refine LD.val rfl rfl (ov_pickT rfl rfl) ?_
            refine LD.nil ?_
            refine QM.sub (e' := [(1, _), (2, _), (3, _), (8, _), (9, _), (117, _)]) ⟨rfl, rfl, rfl, rfl, rfl, rfl, trivial⟩ ?_
            refine QM.meetK (_) ⟨(by first | rfl | exact lk rfl (by congr 1; omega) | exact lk rfl (by simp)), rfl, rfl, rfl, rfl, rfl, trivial⟩ (by (repeat' (first | exact SubM.nil _ | refine SubM.cons rfl ?_ | refine SubM.app ?_))) ?_
            · simp only [h1, h2, h14, h16, h17, h18, h19, decide_true, decide_false, Bool.true_and, Bool.false_and, Bool.and_true, Bool.and_false, Bool.not_true, Bool.not_false, Bool.true_or, Bool.false_or, Bool.or_true, Bool.or_false, ne_eq, not_true_eq_false, not_false_eq_true, Bool.and_self]
           ·
            refine LD.val rfl ⟨106, _, rfl, rfl, rfl⟩ (ov_field Tryz.underlying87 rfl Tryz.sizeOf4 rfl (k := 0) rfl rfl) ?_
            first | refine LD.rd rfl ⟨106, _, rfl, rfl, rfl⟩ (om_ld Tryz.isAgg4 rfl rfl) ?_
            refine LD.val rfl ⟨106, _, rfl, rfl, rfl⟩ (ov_move rfl) ?_
            first | refine LD.splitD (t := 109) rfl (fun h20 => ?_) (fun h20 => ?_) | refine LD.splitB (t := 109) rfl (fun h20 => ?_) (fun h20 => ?_)
            ·
             refine LD.val rfl ⟨109, _, rfl, rfl, rfl⟩ (ov_field Tryz.underlying140 rfl Tryz.sizeOf3 rfl (k := 1) rfl rfl) ?_
             first | refine LD.rd rfl ⟨109, _, rfl, rfl, rfl⟩ (om_ld Tryz.isAgg3 rfl rfl) ?_
             refine LD.val rfl ⟨109, _, rfl, rfl, rfl⟩ (ov_field Tryz.underlying87 rfl Tryz.sizeOf85 rfl (k := 1) rfl rfl) ?_
             first | refine LD.rd rfl ⟨109, _, rfl, rfl, rfl⟩ (om_ld Tryz.isAgg85 rfl rfl) ?_
             refine LD.val rfl ⟨109, _, rfl, rfl, rfl⟩ (ov_len Tryz.underlying85 rfl) ?_
             refine LD.val rfl ⟨109, _, rfl, rfl, rfl⟩ (ov_eql rfl rfl) ?_
             refine LD.val rfl ⟨106, _, rfl, rfl, rfl⟩ (ov_pickT rfl rfl) ?_
             refine LD.val rfl rfl (ov_pickF rfl rfl) ?_
             refine LD.nil ?_
             refine QM.sub (e' := [(1, _), (2, _), (3, _), (8, _), (9, _), (117, _)]) ⟨rfl, rfl, rfl, rfl, rfl, rfl, trivial⟩ ?_
             refine QM.meetK (_) ⟨(by first | rfl | exact lk rfl (by congr 1; omega) | exact lk rfl (by simp)), rfl, rfl, rfl, rfl, rfl, trivial⟩ (by (repeat' (first | exact SubM.nil _ | refine SubM.cons rfl ?_ | refine SubM.app ?_))) ?_
             · simp only [h1, h2, h14, h16, h17, h18, h19, h20, decide_true, decide_false, Bool.true_and, Bool.false_and, Bool.and_true, Bool.and_false, Bool.not_true, Bool.not_false, Bool.true_or, Bool.false_or, Bool.or_true, Bool.or_false, ne_eq, not_true_eq_false, not_false_eq_true, Bool.and_self]
            ·
             refine LD.drop rfl rfl ⟨109, _, rfl, rfl, rfl⟩ ?_
             refine LD.drop rfl rfl ⟨109, _, rfl, rfl, rfl⟩ ?_
             refine LD.drop rfl rfl ⟨109, _, rfl, rfl, rfl⟩ ?_
             refine LD.drop rfl rfl ⟨109, _, rfl, rfl, rfl⟩ ?_
             refine LD.drop rfl rfl ⟨109, _, rfl, rfl, rfl⟩ ?_
             refine LD.drop rfl rfl ⟨109, _, rfl, rfl, rfl⟩ ?_
             refine LD.val rfl ⟨106, _, rfl, rfl, rfl⟩ (ov_pickF rfl rfl) ?_
             refine LD.val rfl rfl (ov_pickF rfl rfl) ?_
             refine LD.nil ?_
             refine QM.sub (e' := [(1, _), (2, _), (3, _), (8, _), (9, _), (117, _)]) ⟨rfl, rfl, rfl, rfl, rfl, rfl, trivial⟩ ?_
             refine QM.meetK (_) ⟨(by first | rfl | exact lk rfl (by congr 1; omega) | exact lk rfl (by simp)), rfl, rfl, rfl, rfl, rfl, trivial⟩ (by (repeat' (first | exact SubM.nil _ | refine SubM.cons rfl ?_ | refine SubM.app ?_))) ?_
             · simp only [h1, h2, h14, h16, h17, h18, h19, h20, decide_true, decide_false, Bool.true_and, Bool.false_and, Bool.and_true, Bool.and_false, Bool.not_true, Bool.not_false, Bool.true_or, Bool.false_or, Bool.or_true, Bool.or_false, ne_eq, not_true_eq_false, not_false_eq_true, Bool.and_self]
         ·
          rintro q4 hq4
          change QM _ _ _ _ _ (pB b3 fv ad n cap :: []) _ _ _
          refine QM.then ?_
          first | refine wpM.condD rfl (fun h21 => ?_) (fun h21 => ?_) | refine wpM.condB rfl (fun h21 => ?_) (fun h21 => ?_)
          ·
           refine wpM.seq ?_
           refine wpM.region ?_
           refine LM.val (ov_move rfl) ?_
           refine LM.val (ov_assign rfl) ?_
           refine LM.val (ov_assign rfl) ?_
           refine LM.nil ?_
           refine QM.sub (e' := [(6, _), (7, _)]) ⟨rfl, rfl, trivial⟩ ?_
           refine QM.then ?_
           refine wpM.ret ?_
           refine QM.block_ret ?_
           refine QM.then_ret ?_
           refine QM.then_ret ?_
           refine QM.block_ret ?_
           refine QM.then_ret ?_
           refine QM.leave (.inl rfl) [.tmp 6, .tmp 7] Tryz.results46 rfl ?_
           intro w' hm' hc' hg'
           exact ⟨(ckV_at (e := 13) hm0 h0 (by omega) (by simp only [fitsO, ← hn, ← hn2, ← hq, ← hq3, ← hq4]; simp only [h1, h2, h14, h16, h17, h21, decide_true, decide_false, Bool.true_and, Bool.false_and, Bool.and_true, Bool.and_false, Bool.not_true, Bool.not_false, Bool.true_or, Bool.false_or, Bool.or_true, Bool.or_false, ne_eq, not_true_eq_false, not_false_eq_true, Bool.and_self, if_true, if_false, Bool.false_eq_true]) (by decide)).symm, hc'⟩
          ·
           refine wpM.skip ?_
           refine QM.block_normal ?_
           refine QM.then ?_
           refine wpM.region ?_
           refine LM.val (ov_move rfl) ?_
           refine LM.val (ov_add64 rfl rfl (by omega)) ?_
           refine LM.val (ov_assign rfl) ?_
           refine LM.nil ?_
           refine QM.sub (e' := [(1, _), (2, _), (3, _), (8, _), (9, _)]) ⟨rfl, rfl, rfl, rfl, rfl, trivial⟩ ?_
           refine QM.againK (i + 1) ⟨(by first | rfl | exact lk rfl (by congr 1; omega) | exact lk rfl (by simp)), (by first | rfl | exact lk rfl (by congr 1; omega) | exact lk rfl (by simp)), rfl, rfl, rfl, trivial⟩ (by (repeat' (first | exact SubM.nil _ | refine SubM.cons rfl ?_ | refine SubM.app ?_))) (fun _ h => h) ?_ ?_
           · exact ⟨by omega, before_succ h0 (by simp only [fitsO, ← hn, ← hn2, ← hq, ← hq3, ← hq4]; simp only [h1, h2, h14, h16, h17, h21, decide_true, decide_false, Bool.true_and, Bool.false_and, Bool.and_true, Bool.and_false, Bool.not_true, Bool.not_false, Bool.true_or, Bool.false_or, Bool.or_true, Bool.or_false, ne_eq, not_true_eq_false, not_false_eq_true, Bool.and_self, if_true, if_false, ite_true, Bool.false_eq_true])⟩
           · omega
        ·
         refine wpM.skip ?_
         refine QM.block_normal ?_
         refine QM.then ?_
         refine wpM.region ?_
         refine LM.val (ov_move rfl) ?_
         refine LM.val (ov_add64 rfl rfl (by omega)) ?_
         refine LM.val (ov_assign rfl) ?_
         refine LM.nil ?_
         refine QM.sub (e' := [(1, _), (2, _), (3, _), (8, _), (9, _)]) ⟨rfl, rfl, rfl, rfl, rfl, trivial⟩ ?_
         refine QM.againK (i + 1) ⟨(by first | rfl | exact lk rfl (by congr 1; omega) | exact lk rfl (by simp)), (by first | rfl | exact lk rfl (by congr 1; omega) | exact lk rfl (by simp)), rfl, rfl, rfl, trivial⟩ (by (repeat' (first | exact SubM.nil _ | refine SubM.cons rfl ?_ | refine SubM.app ?_))) (fun _ h => h) ?_ ?_
         · exact ⟨by omega, before_succ h0 (by simp only [fitsO, ← hn, ← hn2, ← hq, ← hq3]; simp only [h1, h2, h14, h16, h17, decide_true, decide_false, Bool.true_and, Bool.false_and, Bool.and_true, Bool.and_false, Bool.not_true, Bool.not_false, Bool.true_or, Bool.false_or, Bool.or_true, Bool.or_false, ne_eq, not_true_eq_false, not_false_eq_true, Bool.and_self, if_true, if_false, ite_true, Bool.false_eq_true])⟩
         · omega
  ·
   refine wpM.exit ?_
   refine QM.then_exit ?_
   refine QM.then_exit ?_
   refine QM.block_hit ?_
   refine QM.then ?_
   refine wpM.seq ?_
   refine wpM.seq ?_
   refine wpM.region ?_
   refine LM.val (ov_field Tryz.underlying87 rfl Tryz.sizeOf4 rfl (k := 0) rfl rfl) ?_
   first | refine LM.rd (om_ld Tryz.isAgg4 rfl rfl) ?_
   refine LM.val (ov_move rfl) ?_
   first | refine LM.splitD (t := 121) rfl (fun h22 => ?_) (fun h22 => ?_) | refine LM.splitB (t := 121) rfl (fun h22 => ?_) (fun h22 => ?_)
   ·
    refine LM.strip (t := 121) rfl rfl rfl ?_
    refine LM.val (ov_move rfl) ?_
    refine LM.strip (t := 121) rfl rfl rfl ?_
    first | refine LM.val (ov_notD rfl) ?_ | refine LM.val (ov_not rfl) ?_
    refine LM.val (ov_pickT rfl rfl) ?_
    refine LM.nil ?_
    refine QM.sub (e' := [(124, _)]) ⟨rfl, trivial⟩ ?_
    refine QM.then ?_
    first | refine wpM.condD rfl (fun h23 => ?_) (fun h23 => ?_) | refine wpM.condB rfl (fun h23 => ?_) (fun h23 => ?_)
    ·
     refine wpM.seq ?_
     refine wpM.region ?_
     refine LM.val (ov_assign rfl) ?_
     refine LM.val (ov_assign rfl) ?_
     refine LM.nil ?_
     refine QM.sub (e' := [(6, _), (7, _)]) ⟨rfl, rfl, trivial⟩ ?_
     refine QM.then ?_
     refine wpM.ret ?_
     refine QM.then_ret ?_
     refine QM.leave (.inl rfl) [.tmp 6, .tmp 7] Tryz.results46 rfl ?_
     intro w' hm' hc' hg'
     have hil : i = xs.length := (by omega); subst hil; rw [List.take_length] at h23; exact ⟨(ckV_end (b := true) hm0 h0 (by rw [h22, h23]; rfl)).symm, hc'⟩
    ·
     refine wpM.skip ?_
     refine QM.then ?_
     refine wpM.seq ?_
     refine wpM.region ?_
     refine LM.val (ov_assign rfl) ?_
     refine LM.val (ov_assign rfl) ?_
     refine LM.nil ?_
     refine QM.sub (e' := [(6, _), (7, _)]) ⟨rfl, rfl, trivial⟩ ?_
     refine QM.then ?_
     refine wpM.ret ?_
     refine QM.leave (.inl rfl) [.tmp 6, .tmp 7] Tryz.results46 rfl ?_
     intro w' hm' hc' hg'
     have hil : i = xs.length := (by omega); subst hil; rw [List.take_length] at h23; exact ⟨(ckV_end (b := false) hm0 h0 (by rw [h22, h23]; rfl)).symm, hc'⟩
   ·
    refine LM.drop (t := 121) rfl rfl rfl ?_
    refine LM.drop (t := 121) rfl rfl rfl ?_
    refine LM.val (ov_pickF rfl rfl) ?_
    refine LM.nil ?_
    refine QM.sub (e' := [(124, _)]) ⟨rfl, trivial⟩ ?_
    refine QM.then ?_
    refine wpM.condF rfl ?_
    refine wpM.skip ?_
    refine QM.then ?_
    refine wpM.seq ?_
    refine wpM.region ?_
    refine LM.val (ov_assign rfl) ?_
    refine LM.val (ov_assign rfl) ?_
    refine LM.nil ?_
    refine QM.sub (e' := [(6, _), (7, _)]) ⟨rfl, rfl, trivial⟩ ?_
    refine QM.then ?_
    refine wpM.ret ?_
    refine QM.leave (.inl rfl) [.tmp 6, .tmp 7] Tryz.results46 rfl ?_
    intro w' hm' hc' hg'
    have hil : i = xs.length := (by omega); subst hil; exact ⟨(ckV_end (b := false) hm0 h0 (by rw [h22]; rfl)).symm, hc'⟩

end Go.Eng
set_option linter.unusedVariables false
set_option linter.unusedSimpArgs false
namespace Go.Eng
open Go Go.Proofs Go.RowKit

/-- a program as it lies -/
structure PgV where
  c : PgC
  ad : Option Addr
  n : Nat
  cap : Nat
instance : Inhabited PgV := ⟨⟨default, none, 0, 0⟩⟩
def fPg (p : PgV) : List Value := [.bool p.c.fv, .slice p.ad p.n p.cap]
/-- its ops are there -/
def PgV.In (p : PgV) (w : World) : Prop := p.n = p.c.xs.length ∧ Sr fO 3 p.c.xs (.slice p.ad p.n p.cap) w
theorem PgV.In.ext {p : PgV} {w w' : World} (h : p.In w) (k : Ext w w') : p.In w' := ⟨h.1, h.2.ext k⟩
def PgsIn (ps : List PgV) (w : World) : Prop := ∀ p ∈ ps, p.In w
theorem PgsIn.ext {ps : List PgV} {w w' : World} (h : PgsIn ps w) (k : Ext w w') : PgsIn ps w' := fun p hp => (h p hp).ext k
/-- a setup as it lies -/
structure StV where
  cr : Int
  gr : Int
  gs : List Int
  ga : Option Addr
  gn : Nat
  gc : Nat
  ls : List CLk
  la : Option Addr
  ln : Nat
  lc : Nat
  ps : List PgV
  pa : Option Addr
  pn : Nat
  pc : Nat
instance : Inhabited StV := ⟨⟨0, 0, [], none, 0, 0, [], none, 0, 0, [], none, 0, 0⟩⟩
def StV.cs (s : StV) : List Value := [.int .i64 s.cr, .int .i64 s.gr, .slice s.ga s.gn s.gc, .slice s.la s.ln s.lc, .slice s.pa s.pn s.pc]
abbrev StV.val (s : StV) : Value := .agg #[.int .i64 s.cr, .int .i64 s.gr, .slice s.ga s.gn s.gc, .slice s.la s.ln s.lc, .slice s.pa s.pn s.pc]
def StV.C (s : StV) : StC := ⟨s.cr, s.gr, s.gs, s.ls, s.ps.map PgV.c⟩
structure StV.In (s : StV) (w : World) : Prop where
  hgn : s.gn = s.gs.length
  hg : Sr fI 1 s.gs (.slice s.ga s.gn s.gc) w
  hln : s.ln = s.ls.length
  hl : Sr fL 5 s.ls (.slice s.la s.ln s.lc) w
  hpn : s.pn = s.ps.length
  hp : Sr fPg 2 s.ps (.slice s.pa s.pn s.pc) w
  ops : PgsIn s.ps w
theorem StV.In.ext {s : StV} {w w' : World} (h : s.In w) (k : Ext w w') : s.In w' := ⟨h.hgn, h.hg.ext k, h.hln, h.hl.ext k, h.hpn, h.hp.ext k, h.ops.ext k⟩
theorem map_getD {ps : List PgV} {i : Nat} : (ps.map PgV.c).getD i default = (ps.getD i default).c := by
  rw [List.getD_eq_getElem?_getD, List.getD_eq_getElem?_getD, List.getElem?_map]; cases ps[i]? <;> rfl
end Go.Eng
set_option linter.unusedVariables false
set_option linter.unusedSimpArgs false
namespace Go.Eng
open Go Go.Proofs Go.RowKit

/-- what is known of a setup's parts -/
structure SetI (ws : List Wrd) (i0 : Nat) (gs : List Int) (i1 : Nat) (e1 : Int) (ls : List CLk) (i2 : Nat) (e2 : Int) (ps : List PgC) (pl : List Int) (i3 : Nat) (e3 : Int) : Prop where
  g : (sG ws i0).2 = (i1, e1) ∧ (e1 = 0 → (sG ws i0).1 = gs)
  l : lkL ws i1 e1 [] = (ls, i2, e2)
  p : pgL ws i2 e2 [] [] = (ps, pl, i3, e3)
theorem SetI.two {ws : List Wrd} {i0 : Nat} {gs : List Int} {i1 : Nat} {e1 : Int} {ls : List CLk} {i2 : Nat} {e2 : Int} {ps : List PgC} {pl : List Int} {i3 : Nat} {e3 : Int} (h : SetI ws i0 gs i1 e1 ls i2 e2 ps pl i3 e3) : sL ws i0 = (ls, i2, e2) ∧ sP ws i0 = (ps, pl, i3, e3) := by
  have a : sL ws i0 = (ls, i2, e2) := by unfold Go.Eng.sL; rw [h.g.1]; exact h.l
  exact ⟨a, by unfold sP; rw [a]; exact h.p⟩
theorem SetI.bad {ws : List Wrd} {i0 : Nat} {gs : List Int} {i1 : Nat} {e1 : Int} {ls : List CLk} {i2 : Nat} {e2 : Int} {ps : List PgC} {pl : List Int} {i3 : Nat} {e3 : Int} (h : SetI ws i0 gs i1 e1 ls i2 e2 ps pl i3 e3) (he : e3 ≠ 0) : stpR ws i0 = (default, (i3 : Int), e3) := by
  unfold stpR; rw [h.two.2]; simp only; rw [if_pos he]
theorem SetI.ok {ws : List Wrd} {i0 : Nat} {gs : List Int} {i1 : Nat} {e1 : Int} {ls : List CLk} {i2 : Nat} {e2 : Int} {ps : List PgC} {pl : List Int} {i3 : Nat} {e3 : Int} (h : SetI ws i0 gs i1 e1 ls i2 e2 ps pl i3 e3) (he : e3 = 0) (h0 : ps.any (misB ls ps.length) = false) : stpR ws i0 = (⟨(sA ws i0).2.2, (sB2 ws i0).2.2, gs, ls, ps⟩, (i3 : Int), 0) := by
  have z2 : e2 = 0 := by
    have := pgF_zero (ws := ws) _ i2 e2 [] [] (by have := h.p; unfold pgL at this; rw [this]; exact he)
    exact this
  have z1 : e1 = 0 := by
    have := lkF_zero (ws := ws) _ i1 e1 [] (by have := h.l; unfold lkL at this; rw [this]; exact z2)
    exact this
  have e' : misI ls ps = -1 := fix_miss h0
  unfold stpR; rw [h.two.2, h.two.1]; simp only; rw [if_neg (by simp [he]), e', if_neg (by decide), h.g.2 z1]
/-- where the parser of programs stands -/
theorem par_pos {ws : List Wrd} {i : Nat} (h : i ≤ ws.length) : 0 ≤ (parseO ws (i : Int)).2.2.1 ∧ (parseO ws (i : Int)).2.2.1.toNat ≤ ws.length := by
  have key : ∀ (f i : Nat) (ops : List COp), i ≤ ws.length → 0 ≤ (loopP f ws i ops).2.1 ∧ (loopP f ws i ops).2.1.toNat ≤ ws.length := by
    intro f
    induction f with
    | zero => intro i ops hi; exact ⟨by show (0 : Int) ≤ (i : Int); omega, by show ((i : Int)).toNat ≤ _; omega⟩
    | succ f ih =>
      intro i ops hi
      unfold loopP
      split
      · rename_i q
        have := isR_lt q
        split
        · exact ⟨by show (0 : Int) ≤ (i : Int); omega, by show ((i : Int)).toNat ≤ _; omega⟩
        · exact ⟨by show (0 : Int) ≤ ((i + 1 : Nat) : Int); omega, by show (((i + 1 : Nat) : Int)).toNat ≤ _; omega⟩
      · have hp := opR_pos (k := ops.length) hi
        split
        · exact ⟨by show (0 : Int) ≤ ((opR ws i ops.length).1 : Int); omega, by show (((opR ws i ops.length).1 : Int)).toNat ≤ _; omega⟩
        · exact ih _ _ hp
  rw [parse_nat h]
  simp only
  unfold bodyR
  split
  · rename_i q
    have := isR_lt q
    have hh : (headR ws i).2 ≤ ws.length := by
      unfold headR; simp only; split
      · rename_i q; have := isR_lt q; omega
      · omega
    split
    · rename_i q2
      have := isR_lt q2
      exact key _ _ _ (by omega)
    · exact ⟨by show (0 : Int) ≤ ((headR ws i).2 : Int); omega, by show (((headR ws i).2 : Int)).toNat ≤ _; omega⟩
  · exact ⟨by show (0 : Int) ≤ (i : Int); omega, by show ((i : Int)).toNat ≤ _; omega⟩
def StT (r : StC × Int × Int) (n0 : Nat) (v : Value) (m : Mem0) : Prop := ∃ sv : StV, v = .tuple #[sv.val, .int .i64 r.2.1, .int .i64 r.2.2] ∧ sv.C = r.1 ∧ ∀ w, Mem w m → sv.In w
theorem StT.mono {r : StC × Int × Int} : ∀ (k k' : Nat) u m, k' ≤ k → StT r k u m → StT r k' u m := fun k k' u m h q => q
theorem StT.none {p e : Int} {n0 : Nat} : StT (default, p, e) n0 (.tuple #[(default : StV).val, .int .i64 p, .int .i64 e]) [] :=
  ⟨default, rfl, rfl, fun w _ => ⟨rfl, .nil _ _ _, rfl, .nil _ _ _, rfl, .nil _ _ _, fun p hp => by cases hp⟩⟩
abbrev sO (c g : Int) (ga : Option Addr) (gn gc : Nat) (la : Option Addr) (ln lc : Nat) (pa : Option Addr) (pn pc : Nat) : Obj := .cells #[.int .i64 c, .int .i64 g, .slice ga gn gc, .slice la ln lc, .slice pa pn pc] 30 (0, 0)
abbrev z0 : Obj := sO 0 0 none 0 0 none 0 0 none 0 0
theorem snoc_map {ps : List PgV} {p : PgV} : (ps ++ [p]).map PgV.c = ps.map PgV.c ++ [p.c] := by simp
theorem snoc_in {ps : List PgV} {p : PgV} {w : World} (h : PgsIn ps w) (k : p.In w) : PgsIn (ps ++ [p]) w := fun q hq => by
  rcases List.mem_append.1 hq with hq | hq
  · exact h q hq
  · rw [List.mem_singleton] at hq; subst hq; exact k
theorem sr_of_sl {α : Type} {f : α → List Value} {E s n0 : Nat} {xs : List α} {v : Value} {m : Mem0} {w : World} (h : Sl f E s n0 xs v m) (hf : ∀ a, (f a).length = s) (hm : Mem w m) : Sr f s xs v w := h.sr hf (fun p hp => hm.2 p hp)
end Go.Eng
