/- A table of waits: what is done to the queue of a key, by the key alone. No condition. -/
import Derived.Test.YtljpjpnjaeidiaaM3
import Derived.Test.YtljpjpnjaeidiaaM2
set_option linter.unusedVariables false
set_option linter.unusedSimpArgs false
namespace Go.Eng
open Go Go.Proofs Go.RowKit
theorem rows_set : ∀ (l : List Rw) (i : Nat) (r' : Rw), i < l.length → fRw (rg l i) = fRw r' → (l.set i r').flatMap fRw = l.flatMap fRw
  | [], i, r', h, _ => by cases h
  | x :: l, 0, r', _, e => by
    have e' : fRw x = fRw r' := e
    simp only [List.set_cons_zero, List.flatMap_cons]; rw [e']
  | x :: l, i + 1, r', h, e => by
    simp only [List.set_cons_succ, List.flatMap_cons]; rw [rows_set l i r' (Nat.lt_of_succ_lt_succ h) e]
section
variable {each most : Int} {n0 n cap b bs bh : Nat} {ad : Option Addr} {R : Nat} {F : Int → Option Rw} {m : Mem0} {key : Int} {r : Rw} {w : World}
theorem rq_some (fr : Bool) (h : RoM each n0 n cap ad R F m) (hF : F key = some r) (hM : Mem w (tbC b ad n cap most each bs bh :: m)) :
    Ret Try.prog 37 #[.pointer (some ⟨b, 0, none⟩), .int .i64 key, .bool fr] w (fun u w' => u = .pointer (some ⟨r.b, 0, none⟩) ∧ Ext w w') := by
  obtain ⟨hs, mo, rs, ms, mq, rest, h1, h2, h3, h4, h5, h6, h7, h8, h9, h10, h11, h12, h13⟩ := h.split key
  rw [h10] at hF
  obtain ⟨i, hi, hr, hk, hno⟩ := fk_some hF
  have hM' : Mem w (tbC b ad n cap most each bs bh :: (mo ++ ms)) := hM.part1 (rest := mq ++ rest) (by rw [List.append_assoc]; exact h11)
  have := tqueue_yes key fr (bk key n) i w h1 h2 h5 h3 h4 h6 hi (by rw [hr]; exact hk) hno hM'
  rw [hr] at this; exact this
theorem rq_none (h : RoM each n0 n cap ad R F m) (hF : F key = none) (hM : Mem w (tbC b ad n cap most each bs bh :: m)) :
    Ret Try.prog 37 #[.pointer (some ⟨b, 0, none⟩), .int .i64 key, .bool false] w (fun u w' => u = .pointer none ∧ Ext w w') := by
  obtain ⟨hs, mo, rs, ms, mq, rest, h1, h2, h3, h4, h5, h6, h7, h8, h9, h10, h11, h12, h13⟩ := h.split key
  rw [h10] at hF
  have hM' : Mem w (tbC b ad n cap most each bs bh :: (mo ++ ms)) := hM.part1 (rest := mq ++ rest) (by rw [List.append_assoc]; exact h11)
  exact tqueue_no key (bk key n) w h1 h2 h5 h3 h4 h6 (fk_none hF) hM'
theorem rq_new (h : RoM each n0 n cap ad R F m) (hF : F key = none) (hR : R ≤ 1000000000) (hn0 : n0 ≤ w.heap.size) (hM : Mem w (tbC b ad n cap most each bs bh :: m)) :
    Ret Try.prog 37 #[.pointer (some ⟨b, 0, none⟩), .int .i64 key, .bool true] w (Upd m (fun u m' => ∃ b', u = .pointer (some ⟨b', 0, none⟩) ∧ RoM each n0 n cap ad (R + 1) (fset F key (some ⟨key, b', [], 0⟩)) m') w) := by
  obtain ⟨hs, mo, rs, ms, mq, rest, h1, h2, h3, h4, h5, h6, h7, h8, h9, h10, h11, h12, h13⟩ := h.split key
  rw [h10] at hF
  have hp : m.Perm ((mo ++ ms) ++ (mq ++ rest)) := by rw [List.append_assoc]; exact h11
  have hM' := hM.part1 hp
  refine (tqueue_new key (bk key n) w h1 h2 h5 h3 h4 h6 (by omega) (fk_none hF) hn0 hM').mono (fun u w' hU => ?_)
  refine hU.lift hp hM.tail (fun p hp => ?_) (fun mp' ⟨b', h', mo', ms', mq', q1, q2, q3, q4, q5, q6⟩ => ?_)
  · rcases List.mem_append.1 hp with hp | hp
    · exact h5.wlk p hp
    · exact h6.wlk p hp
  · have hnk : fk (⟨key, b', [], 0⟩ : Rw).key rs = none := hF
    obtain ⟨m', k1, k2⟩ := h12 h' (rs ++ [⟨key, b', [], 0⟩]) mo' ms' (mq ++ mq') (R + 1) q3 q5 (h7.snoc (q6.mono hn0)) (h8.snoc hnk) (by rw [List.length_append, List.length_singleton]; omega) (by omega) (fset F key (some ⟨key, b', [], 0⟩)) (fun k => by
      rw [fk_snoc _ k hnk]
      unfold fset
      by_cases e : k = key
      · subst e; rw [if_pos rfl, if_pos rfl, if_pos rfl]
      · rw [if_neg e, if_neg e]
        by_cases e2 : bk k n = bk key n
        · rw [if_pos e2]; exact h13 k e2
        · rw [if_neg e2])
    refine ⟨m', ⟨b', q1, k1⟩, k2.trans ?_⟩
    rw [q2]
    simp only [List.append_assoc]
    refine List.Perm.append_left _ (List.Perm.append_left _ ?_)
    rw [← List.append_assoc, ← List.append_assoc]
    exact List.perm_append_comm.append_right _
theorem rq_split (h : RoM each n0 n cap ad R F m) (hF : F key = some r) : ∃ mq rest, FoM (newAr each).most n0 r.b r.q r.tk mq ∧ m.Perm (mq ++ rest) ∧ (∀ q' tk' mq', FoM (newAr each).most n0 r.b q' tk' mq' → ∃ m', RoM each n0 n cap ad R (fset F key (some { r with q := q', tk := tk' })) m' ∧ m'.Perm (mq' ++ rest)) := by
  obtain ⟨hs, mo, rs, ms, mq, rest, h1, h2, h3, h4, h5, h6, h7, h8, h9, h10, h11, h12, h13⟩ := h.split key
  have hF' := hF
  rw [h10] at hF
  obtain ⟨i, hi, hr, hk, hno⟩ := fk_some hF
  obtain ⟨m1, rest1, k1, k2, k3, _⟩ := h7.split hi
  rw [hr] at k1
  refine ⟨m1, mo ++ (ms ++ (rest1 ++ rest)), k1, h11.trans ?_, fun q' tk' mq' hq => ?_⟩
  · have e1 : (mo ++ (ms ++ (mq ++ rest))).Perm (mo ++ (ms ++ ((m1 ++ rest1) ++ rest))) := (k2.append_right rest).append_left ms |>.append_left mo
    refine e1.trans ?_
    rw [List.append_assoc]
    refine List.Perm.trans ?_ (List.perm_append_comm.trans ?_ : ((mo ++ ms) ++ (rest1 ++ rest) ++ m1).Perm _)
    · simp only [List.append_assoc]
      refine List.Perm.append_left _ (List.Perm.append_left _ ?_)
      rw [← List.append_assoc rest1]
      exact List.perm_append_comm
    · simp only [List.append_assoc]; exact List.Perm.refl _
  · obtain ⟨mq2, j1, j2⟩ := k3 { r with q := q', tk := tk' } mq' hq
    have hke : (rg rs i).key = ({ r with q := q', tk := tk' } : Rw).key := by rw [hr]
    have hSl : Sl fRw 95 2 n0 (rs.set i { r with q := q', tk := tk' }) (.slice (bg hs (bk key n)).ad (bg hs (bk key n)).n (bg hs (bk key n)).cap) ms := by
      have e3 : (rs.set i { r with q := q', tk := tk' }).flatMap fRw = rs.flatMap fRw := rows_set rs i _ hi (by rw [hr]; rfl)
      rcases h6 with ⟨z1, z2, z3⟩ | ⟨z, c, junk, z1, z2, z3, z4, z5, z6⟩
      · subst z3; cases hi
      · exact .inr ⟨z, c, junk, z1, by rw [List.length_set]; exact z2, by unfold arr at *; rw [e3]; exact z3, by rw [List.length_set]; exact z4, z5, by rw [List.length_set]; exact z6⟩
    obtain ⟨m', p1, p2⟩ := h12 (bg hs (bk key n)) (rs.set i { r with q := q', tk := tk' }) mo ms mq2 R (by rw [bg_set h3]; exact h5) hSl j1 (h8.set hi hke) (by rw [List.length_set]; exact h9) (Nat.le_refl _) (fset F key (some { r with q := q', tk := tk' })) (fun k => by
      rw [fk_set k hi hke (fun i' hi' => by show _ ≠ r.key; rw [hk]; exact hno i' hi')]
      unfold fset
      show (if k = key then _ else _) = if bk k n = bk key n then (if k = r.key then _ else _) else _
      rw [hk]
      by_cases e : k = key
      · subst e; rw [if_pos rfl, if_pos rfl, if_pos rfl]
      · rw [if_neg e, if_neg e]
        by_cases e2 : bk k n = bk key n
        · rw [if_pos e2]; exact h13 k e2
        · rw [if_neg e2])
    · refine ⟨m', p1, p2.trans ?_⟩
      have e1 : (mo ++ (ms ++ (mq2 ++ rest))).Perm (mo ++ (ms ++ ((mq' ++ rest1) ++ rest))) := (j2.append_right rest).append_left ms |>.append_left mo
      refine e1.trans ?_
      rw [List.append_assoc]
      refine List.Perm.trans ?_ (List.perm_append_comm.trans ?_ : ((mo ++ ms) ++ (rest1 ++ rest) ++ mq').Perm _)
      · simp only [List.append_assoc]
        refine List.Perm.append_left _ (List.Perm.append_left _ ?_)
        rw [← List.append_assoc rest1]
        exact List.perm_append_comm
      · simp only [List.append_assoc]; exact List.Perm.refl _
theorem rq_push (v : Wt) (h : RoM each n0 n cap ad R F m) (hF : F key = some r) (htk : r.tk ≤ 1000000000) (hn0 : n0 ≤ w.heap.size) (hM : Mem w m) :
    Ret Try.prog 45 #[.pointer (some ⟨r.b, 0, none⟩), .agg (fWt v).toArray] w (Upd m (fun u m' => u = .tuple #[.int .i64 (if (newAr each).most ≤ (r.q.length : Int) then 0 else r.tk + 1), .int .i64 (foE (newAr each).most r.q)] ∧ RoM each n0 n cap ad R (fset F key (some { r with q := foX (newAr each).most r.q r.tk v, tk := foT (newAr each).most r.q r.tk })) m') w) := by
  obtain ⟨mq, rest, h1, h2, h3⟩ := rq_split h hF
  refine (foPush_spec v w h1 htk hn0 (hM.part h2)).mono (fun u w' hU => hU.lift h2 hM h1.wlk (fun mp' ⟨e, hq⟩ => ?_))
  obtain ⟨m', k1, k2⟩ := h3 _ _ mp' hq
  exact ⟨m', ⟨e, k1⟩, k2⟩
theorem rq_remove (i : Nat) (h : RoM each n0 n cap ad R F m) (hF : F key = some r) (hi : i < r.q.length) (hM : Mem w m) :
    Ret Try.prog 48 #[.pointer (some ⟨r.b, 0, none⟩), .int .i64 (qd r.q i).1] w (Upd m (fun u m' => u = .tuple #[.agg (fWt (qd r.q i).2).toArray, .bool true] ∧ RoM each n0 n cap ad R (fset F key (some { r with q := r.q.eraseIdx i })) m') w) := by
  obtain ⟨mq, rest, h1, h2, h3⟩ := rq_split h hF
  refine (fremove_spec i w h1 hi (hM.part h2)).mono (fun u w' hU => hU.lift h2 hM h1.wlk (fun mp' ⟨e, hq⟩ => ?_))
  obtain ⟨m', k1, k2⟩ := h3 _ _ mp' hq
  exact ⟨m', ⟨e, k1⟩, k2⟩
theorem rq_clean_yes (h : RoM each n0 n cap ad R F m) (hF : F key = some r) (hq : r.q = []) (hM : Mem w (tbC b ad n cap most each bs bh :: m)) :
    Ret Try.prog 46 #[.pointer (some ⟨b, 0, none⟩), .int .i64 key] w (Upd m (fun u m' => u = .tuple #[] ∧ RoM each n0 n cap ad R (fset F key none) m') w) := by
  obtain ⟨hs, mo, rs, ms, mq, rest, h1, h2, h3, h4, h5, h6, h7, h8, h9, h10, h11, h12, h13⟩ := h.split key
  rw [h10] at hF
  obtain ⟨i, hi, hr, hk, hno⟩ := fk_some hF
  obtain ⟨m1, rest1, k1, k2, k3, k4⟩ := h7.split hi
  have hkey : (rg rs i).key = key := by rw [hr]; exact hk
  rw [show (rg rs i).q = [] by rw [hr]; exact hq] at k1
  have hp0 : m.Perm ((mo ++ (ms ++ m1)) ++ (rest1 ++ rest)) := by
    refine h11.trans ?_
    simp only [List.append_assoc]
    refine List.Perm.append_left _ (List.Perm.append_left _ ?_)
    rw [← List.append_assoc m1]
    exact k2.append_right rest
  have hp : m.Perm ((mo ++ ms) ++ (m1 ++ (rest1 ++ rest))) := by simp only [List.append_assoc] at *; exact hp0
  refine (tclean_yes key (bk key n) i w h1 h2 h5 h3 h4 h6 hi hkey hno k1 (hM.part1 hp0)).mono (fun u w' hU => ?_)
  refine hU.liftD hp hM.tail (fun p hp => ?_) (fun mp' ⟨h', mo', ms', q1, q2, q3, q4, q5⟩ => ?_)
  · rcases List.mem_append.1 hp with hp | hp
    · exact h5.wlk p hp
    · exact h6.wlk p hp
  obtain ⟨mF, j1, j2⟩ := h12 h' (rs.eraseIdx i) mo' ms' rest1 R q3 q5 k4 (h8.erase i) (by rw [List.length_eraseIdx, if_pos hi]; omega) (Nat.le_refl _) (fset F key none) (fun k => by
    rw [fk_erase k h8 hi, hkey]
    unfold fset
    by_cases e : k = key
    · subst e; rw [if_pos rfl, if_pos rfl, if_pos rfl]
    · rw [if_neg e, if_neg e]
      by_cases e2 : bk k n = bk key n
      · rw [if_pos e2]; exact h13 k e2
      · rw [if_neg e2])
  refine ⟨mF, m1, ⟨q1, j1⟩, ?_⟩
  rw [q2]
  refine List.Perm.trans ?_ (j2.symm.append_right m1)
  simp only [List.append_assoc]
  refine List.Perm.append_left _ (List.Perm.append_left _ ?_)
  rw [← List.append_assoc rest1]
  exact List.perm_append_comm
theorem rq_clean_no (h : RoM each n0 n cap ad R F m) (hF : F key = some r) (hq : 0 < r.q.length) (hM : Mem w (tbC b ad n cap most each bs bh :: m)) :
    Ret Try.prog 46 #[.pointer (some ⟨b, 0, none⟩), .int .i64 key] w (fun u w' => u = .tuple #[] ∧ Ext w w') := by
  obtain ⟨hs, mo, rs, ms, mq, rest, h1, h2, h3, h4, h5, h6, h7, h8, h9, h10, h11, h12, h13⟩ := h.split key
  rw [h10] at hF
  obtain ⟨i, hi, hr, hk, hno⟩ := fk_some hF
  obtain ⟨m1, rest1, k1, k2, k3, k4⟩ := h7.split hi
  have hkey : (rg rs i).key = key := by rw [hr]; exact hk
  have hp0 : m.Perm ((mo ++ (ms ++ m1)) ++ (rest1 ++ rest)) := by
    refine h11.trans ?_
    simp only [List.append_assoc]
    refine List.Perm.append_left _ (List.Perm.append_left _ ?_)
    rw [← List.append_assoc m1]
    exact k2.append_right rest
  exact tclean_no key (bk key n) i w h1 h2 h5 h3 h4 h6 (fun i' hi' e => h8.uniq hi hi' (by rw [e, hkey])) k1 (by rw [hr]; exact hq) (hM.part1 hp0)
end
end Go.Eng
namespace Go.Eng
open Go Go.Proofs Go.RowKit
def vSp (key tk : Int) : Value := .agg #[.int .i64 key, .int .i64 tk]
abbrev mE (each : Int) : Int := (newAr each).most
theorem fset_at (F : Int → Option Rw) (key : Int) (v : Option Rw) : fset F key v key = v := if_pos rfl
theorem inM_tr {a c : Nat × Obj} {m : Mem0} : ∀ p ∈ m, inM (a :: c :: m) p.1 := fun p hp => ⟨p, List.mem_cons_of_mem _ (List.mem_cons_of_mem _ hp), rfl⟩
theorem tb_leaf {each most : Int} {n0 n cap b bs bh cl cl' R : Nat} {ad : Option Addr} {F' : Int → Option Rw} {es es' : Array MapEntry} {sp' : List (Int × Value)} {mr mr' M : Mem0} {u0 : Value} {w w' : World} (hR : RoM each n0 n cap ad R F' mr') (he : EnsS .i64 es' cl' sp') (hm : Mem w' M)
    (hs : SubM M (tbC b ad n cap most each bs bh :: (bs, .map es' cl') :: (mr' ++ []))) (hc : Chg (inM (tbC b ad n cap most each bs bh :: (bs, .map es cl) :: mr)) w w') (hin : inn mr w.heap.size mr') :
    Upd (tbC b ad n cap most each bs bh :: (bs, .map es cl) :: mr) (fun u m' => u = u0 ∧ ∃ es' cl' mr', m' = tbC b ad n cap most each bs bh :: (bs, .map es' cl') :: mr' ∧ RoM each n0 n cap ad R F' mr' ∧ EnsS .i64 es' cl' sp') w u0 w' := by
  rw [List.append_nil] at hs
  refine ⟨hc, _, ⟨rfl, es', cl', mr', rfl, hR, he⟩, hs.mem w' hm, fun p hp => ?_⟩
  simp only [List.mem_cons] at hp
  rcases hp with rfl | rfl | hp
  · exact .inr ⟨_, List.mem_cons_self .., rfl⟩
  · exact .inr ⟨(bs, .map es cl), by simp only [List.mem_cons, true_or, or_true], rfl⟩
  · rcases hin p hp with q | ⟨q, hq, e⟩
    · exact .inl q
    · exact .inr ⟨q, List.mem_cons_of_mem _ (List.mem_cons_of_mem _ hq), e⟩
theorem getD_some9 {l : List (Int × Value)} {a : Int} {v z : Value} (h : aget l a = some v) : (aget l a).getD z = v := by rw [h]; rfl
theorem getD_none9 {l : List (Int × Value)} {a : Int} {z : Value} (h : aget l a = none) : (aget l a).getD z = z := by rw [h]; rfl
def entN (each : Int) (F : Int → Option Rw) (v : Wt) (b' : Nat) : Int → Option Rw := if mE each ≤ 0 then F else fset F v.key (some ⟨v.key, b', [(1, v)], 1⟩)
theorem entN_full {each : Int} {F : Int → Option Rw} {v : Wt} {b' : Nat} {x y : Option Rw} (h : mE each ≤ 0) (hF : F v.key = none) : fset (fset (fset F v.key x) v.key y) v.key none = entN each F v b' := by
  unfold entN; rw [if_pos h]
  funext k
  unfold fset
  by_cases e : k = v.key
  · rw [if_pos e, e, hF]
  · rw [if_neg e, if_neg e, if_neg e]
theorem entN_new {each : Int} {F : Int → Option Rw} {v : Wt} {b' : Nat} {x : Option Rw} (h : ¬ mE each ≤ 0) : fset (fset F v.key x) v.key (some { (⟨v.key, b', [], 0⟩ : Rw) with q := foX (mE each) [] 0 v, tk := foT (mE each) [] 0 }) = entN each F v b' := by
  unfold entN; rw [if_neg h]
  have e1 : foX (mE each) [] 0 v = [(1, v)] := if_neg h
  have e2 : foT (mE each) [] 0 = 1 := if_neg h
  funext k
  unfold fset
  by_cases e : k = v.key
  · rw [if_pos e, if_pos e]; show some (Rw.mk _ _ (foX (mE each) [] 0 v) (foT (mE each) [] 0)) = _; rw [e1, e2]
  · rw [if_neg e, if_neg e, if_neg e]
theorem tb_leafN {each most : Int} {n0 n cap b bs bh cl cl' R b' : Nat} {ad : Option Addr} {F : Int → Option Rw} {es es' : Array MapEntry} {sp' : List (Int × Value)} {mr mr' M : Mem0} {u0 : Value} {v : Wt} {w w' : World} (hR : RoM each n0 n cap ad R (entN each F v b') mr') (he : EnsS .i64 es' cl' sp') (hm : Mem w' M)
    (hs : SubM M (tbC b ad n cap most each bs bh :: (bs, .map es' cl') :: (mr' ++ []))) (hc : Chg (inM (tbC b ad n cap most each bs bh :: (bs, .map es cl) :: mr)) w w') (hin : inn mr w.heap.size mr') :
    Upd (tbC b ad n cap most each bs bh :: (bs, .map es cl) :: mr) (fun u m' => u = u0 ∧ ∃ b' es' cl' mr', m' = tbC b ad n cap most each bs bh :: (bs, .map es' cl') :: mr' ∧ RoM each n0 n cap ad R (entN each F v b') mr' ∧ EnsS .i64 es' cl' sp') w u0 w' := by
  obtain ⟨h1, m', ⟨h2, es2, cl2, mr2, h3, h4, h5⟩, h6, h7⟩ := tb_leaf hR he hm hs hc hin
  exact ⟨h1, m', ⟨h2, b', es2, cl2, mr2, h3, h4, h5⟩, h6, h7⟩
set_option maxRecDepth 100000 in
theorem tenter_some {each most : Int} {n0 n cap b bs bh cl R : Nat} {ad : Option Addr} {F : Int → Option Rw} {es : Array MapEntry} {sp : List (Int × Value)} {mr : Mem0} {r : Rw} (v : Wt) (w : World) (hR : RoM each n0 n cap ad R F mr) (he : EnsS .i64 es cl sp) (hF : F v.key = some r) (hq : 0 < r.q.length) (htk : r.tk ≤ 1000000000) (hn0 : n0 ≤ w.heap.size) (hM : Mem w (tbC b ad n cap most each bs bh :: (bs, .map es cl) :: mr)) : Ret Try.prog 28 #[.pointer (some ⟨b, 0, none⟩), .agg (fWt v).toArray] w (Upd (tbC b ad n cap most each bs bh :: (bs, .map es cl) :: mr) (fun u m' => u = .int .i64 (foE (mE each) r.q) ∧ ∃ es' cl' mr', m' = tbC b ad n cap most each bs bh :: (bs, .map es' cl') :: mr' ∧ RoM each n0 n cap ad R (fset F v.key (some { r with q := foX (mE each) r.q r.tk v, tk := foT (mE each) r.q r.tk })) mr' ∧ EnsS .i64 es' cl' (if mE each ≤ (r.q.length : Int) then sp else aput sp v.who (vSp v.key (r.tk + 1)))) w) := by
 have he1 := he.1
 refine Ret.enterM (l := [.pointer (some ⟨b, 0, none⟩), .agg (fWt v).toArray]) Try.func28 rfl Try.ntmps28 rfl (tbC b ad n cap most each bs bh :: (bs, .map es cl) :: (mr ++ [])) ((inM (tbC b ad n cap most each bs bh :: (bs, .map es cl) :: mr))) (by rw [List.append_nil]; exact hM) ?_
 refine wpM.seq (wpM.region ?_)
 refine LM.box rfl rfl (fun b3 hb3 => ?_)
 refine LM.as rfl ?_
 refine LM.nil (QM.sub (e' := [(0, _), (3, _)]) au9 (QM.then ?_))
 refine wpM.seq ?_
 refine wpM.keep ((b3, .cells (fWt v).toArray 32 (0, 0)) :: []) (fun _ => True) (.one 0 0 (.one 1 0 (.one 2 1 (.one 4 1 (.one 3 2 (.one 5 2 (.one 6 0 (.one 7 0 (.one 8 0 (.one 9 0 (.one 10 0 .nil))))))))))) (by kernel_rfl) (by kernel_rfl) au1 (fun _ _ => trivial) ?_
 refine KD.val rfl rfl (ov_move rfl) ?_
 refine KD.val rfl rfl (ov_field Try.underlying32 rfl Try.sizeOf3 rfl (k := 1) rfl rfl) ?_
 refine KD.rd rfl rfl (om_ld Try.isAgg3 rfl rfl) ?_
 refine KD.rd rfl rfl (om_ldW Try.isAgg32 Try.sizeOf32 rfl rfl) ?_
 refine KD.one rfl ?_
 refine LM.callE (oc_call (enters_fn Try.func37 (by kernel_rfl) rfl) rfl) (fun w hm hc hg => rq_some true hR hF (hm.pick (tbC b ad n cap most each bs bh :: mr))) ?_
 refine LM.nil ?_
 refine QM.one au1 (fun _ _ => trivial) ?_
 refine KD.one rfl ?_
 refine LM.cU (oc_call (enters_fn Try.func45 (by kernel_rfl) rfl) rfl) (fun w hm hc hg => rq_push v hR hF htk (Nat.le_trans hn0 hc.size) (hm.pick mr)) hR.wlk (fun p hp _ => inM_tr p hp) ?_
 rintro u13 m13 ⟨rfl, h13⟩ hin13
 refine LM.nil ?_
 refine QM.one au1 (fun _ _ => trivial) ?_
 refine KD.val rfl rfl (ov_move rfl) ?_
 refine KD.val rfl rfl (ov_extract rfl rfl) ?_
 refine KD.val rfl rfl (ov_extract rfl rfl) ?_
 refine KD.val rfl rfl (ov_assign rfl) ?_
 refine KD.val rfl rfl (ov_assign rfl) ?_
 refine KD.nil ?_
 refine QM.sub (e' := [(0, _), (3, _), (5, _), (6, _)]) au9 (QM.then ?_)
 refine wpM.seq ?_
 refine wpM.seq (wpM.region ?_)
 refine LM.mv rfl ?_
 refine LM.val (ov_neq rfl rfl) ?_
 refine LM.nil (QM.sub (e' := [(0, _), (3, _), (5, _), (6, _), (17, _)]) au9 (QM.then ?_))
 refine wpM.condD rfl (fun h1 => ?_) (fun h1 => ?_)
 ·
  have hfull : mE each ≤ (r.q.length : Int) := (by apply Classical.byContradiction; intro z; unfold foE at h1; rw [if_neg z] at h1; exact absurd rfl h1)
  refine wpM.seq (wpM.region ?_)
  refine LM.mv rfl (LM.val (ov_field Try.underlying32 rfl Try.sizeOf3 rfl (k := 1) rfl rfl) ?_)
  refine LM.rd (om_ld Try.isAgg3 rfl rfl) ?_
  refine LM.callE (oc_call (enters_fn Try.func46 (by kernel_rfl) rfl) rfl) (fun w hm hc hg => rq_clean_no (r := { r with q := foX (mE each) r.q r.tk v, tk := foT (mE each) r.q r.tk }) h13 (fset_at _ _ _) (by show 0 < (foX (mE each) r.q r.tk v).length; unfold foX; split <;> first | exact hq | (rw [List.length_append, List.length_singleton]; omega)) (hm.pick (tbC b ad n cap most each bs bh :: m13))) ?_
  refine LM.nil (QM.sub (e' := [(6, _)]) ⟨rfl, trivial⟩ (QM.then (wpM.seq (wpM.region ?_))))
  refine LM.mv rfl (LM.as rfl ?_)
  refine LM.nil (QM.sub (e' := [(4, _)]) ⟨rfl, trivial⟩ (QM.then ?_))
  refine wpM.ret ?_
  refine QM.then_ret ?_
  refine QM.leave (.inl rfl) [.tmp 4] Try.results28 rfl ?_
  intro w' hm' hc' hg'
  rw [if_pos hfull]; exact tb_leaf h13 he hm' (by (repeat' (first | exact SubM.nil _ | refine SubM.cons (by rfl) ?_ | refine SubM.app ?_))) hc' hin13
 have hfull : ¬ mE each ≤ (r.q.length : Int) := (by intro z; unfold foE at h1; rw [if_pos z] at h1; exact absurd h1 (by decide))
 refine wpM.skip ?_
 refine QM.then ?_
 refine wpM.seq ?_
 refine wpM.draw [(0, 0), (1, 0), (2, 0), (3, 1), (4, 0), (5, 1), (6, 0), (7, 1), (8, 0), (9, 0), (10, 3)] (by kernel_rfl) (by kernel_rfl) ?_
 refine LD.val rfl rfl (ov_move rfl) ?_
 refine LD.val rfl rfl (ov_nilCheck rfl) ?_
 refine LD.val rfl rfl (ov_field Try.underlying62 rfl Try.sizeOf58 rfl (k := 3) rfl rfl) ?_
 refine LD.rd rfl rfl (om_ld Try.isAgg58 rfl rfl) ?_
 refine LD.val rfl rfl (ov_field Try.underlying32 rfl Try.sizeOf3 rfl (k := 0) rfl rfl) ?_
 refine LD.rd rfl rfl (om_ld Try.isAgg3 rfl rfl) ?_
 refine LD.val rfl rfl (ov_field Try.underlying32 rfl Try.sizeOf3 rfl (k := 1) rfl rfl) ?_
 refine LD.rd rfl rfl (om_ld Try.isAgg3 rfl rfl) ?_
 refine LD.val rfl rfl (ov_move rfl) ?_
 refine LD.val rfl rfl (ov_build (cs := #[_, _]) rfl (by first | rfl | kernel_rfl)) ?_
 refine LD.tail rfl rfl ?_
 refine LM.mUS Try.underlying58 Try.underlying3 rfl rfl rfl (by assumption) (fun hlt => by first | exact inM_0 | exact inM_1 | exact absurd hlt (by omega)) (fun esu1 clu1 hesu1 => ?_)
 refine LM.nil ?_
 refine QM.qn ?_
 refine QM.sub (e' := []) trivial (QM.then (wpM.seq (wpM.region ?_)))
 refine LM.as rfl ?_
 refine LM.nil (QM.sub (e' := [(4, _)]) ⟨rfl, trivial⟩ (QM.then ?_))
 refine wpM.ret ?_
 refine QM.leave (.inl rfl) [.tmp 4] Try.results28 rfl ?_
 intro w' hm' hc' hg'
 rw [if_neg hfull, show foE (mE each) r.q = 0 from if_neg hfull]; refine tb_leaf h13 ?_ hm' (by (repeat' (first | exact SubM.nil _ | refine SubM.cons (by rfl) ?_ | refine SubM.app ?_))) hc' hin13; rw [if_neg hfull] at hesu1; exact hesu1
set_option maxRecDepth 100000 in
theorem tenter_none {each most : Int} {n0 n cap b bs bh cl R : Nat} {ad : Option Addr} {F : Int → Option Rw} {es : Array MapEntry} {sp : List (Int × Value)} {mr : Mem0} (v : Wt) (w : World) (hR : RoM each n0 n cap ad R F mr) (he : EnsS .i64 es cl sp) (hF : F v.key = none) (hRr : R ≤ 1000000000) (hn0 : n0 ≤ w.heap.size) (hM : Mem w (tbC b ad n cap most each bs bh :: (bs, .map es cl) :: mr)) : Ret Try.prog 28 #[.pointer (some ⟨b, 0, none⟩), .agg (fWt v).toArray] w (Upd (tbC b ad n cap most each bs bh :: (bs, .map es cl) :: mr) (fun u m' => u = .int .i64 (foE (mE each) []) ∧ ∃ b' es' cl' mr', m' = tbC b ad n cap most each bs bh :: (bs, .map es' cl') :: mr' ∧ RoM each n0 n cap ad (R + 1) (entN each F v b') mr' ∧ EnsS .i64 es' cl' (if mE each ≤ 0 then sp else aput sp v.who (vSp v.key 1))) w) := by
 have he1 := he.1
 refine Ret.enterM (l := [.pointer (some ⟨b, 0, none⟩), .agg (fWt v).toArray]) Try.func28 rfl Try.ntmps28 rfl (tbC b ad n cap most each bs bh :: (bs, .map es cl) :: (mr ++ [])) ((inM (tbC b ad n cap most each bs bh :: (bs, .map es cl) :: mr))) (by rw [List.append_nil]; exact hM) ?_
 refine wpM.seq (wpM.region ?_)
 refine LM.box rfl rfl (fun b3 hb3 => ?_)
 refine LM.as rfl ?_
 refine LM.nil (QM.sub (e' := [(0, _), (3, _)]) au9 (QM.then ?_))
 refine wpM.seq ?_
 refine wpM.keep ((b3, .cells (fWt v).toArray 32 (0, 0)) :: []) (fun _ => True) (.one 0 0 (.one 1 0 (.one 2 1 (.one 4 1 (.one 3 2 (.one 5 2 (.one 6 0 (.one 7 0 (.one 8 0 (.one 9 0 (.one 10 0 .nil))))))))))) (by kernel_rfl) (by kernel_rfl) au1 (fun _ _ => trivial) ?_
 refine KD.val rfl rfl (ov_move rfl) ?_
 refine KD.val rfl rfl (ov_field Try.underlying32 rfl Try.sizeOf3 rfl (k := 1) rfl rfl) ?_
 refine KD.rd rfl rfl (om_ld Try.isAgg3 rfl rfl) ?_
 refine KD.rd rfl rfl (om_ldW Try.isAgg32 Try.sizeOf32 rfl rfl) ?_
 refine KD.one rfl ?_
 refine LM.cU (oc_call (enters_fn Try.func37 (by kernel_rfl) rfl) rfl) (fun w hm hc hg => rq_new hR hF hRr (Nat.le_trans hn0 hc.size) (hm.pick (tbC b ad n cap most each bs bh :: mr))) hR.wlk (fun p hp _ => inM_tr p hp) ?_
 rintro u11 m11 ⟨b11, rfl, h11⟩ hin11
 refine LM.nil ?_
 refine QM.one au1 (fun _ _ => trivial) ?_
 refine KD.one rfl ?_
 refine LM.cU (oc_call (enters_fn Try.func45 (by kernel_rfl) rfl) rfl) (fun w hm hc hg => rq_push (r := ⟨v.key, b11, [], 0⟩) v h11 (fset_at _ _ _) (show (0 : Int) ≤ 1000000000 by decide) (Nat.le_trans hn0 hc.size) (hm.pick m11)) h11.wlk (inn_S hin11 inM_tr) ?_
 rintro u13 m13 ⟨rfl, h13⟩ hin13
 refine LM.nil ?_
 refine QM.one au1 (fun _ _ => trivial) ?_
 refine KD.val rfl rfl (ov_move rfl) ?_
 refine KD.val rfl rfl (ov_extract rfl rfl) ?_
 refine KD.val rfl rfl (ov_extract rfl rfl) ?_
 refine KD.val rfl rfl (ov_assign rfl) ?_
 refine KD.val rfl rfl (ov_assign rfl) ?_
 refine KD.nil ?_
 refine QM.sub (e' := [(0, _), (3, _), (5, _), (6, _)]) au9 (QM.then ?_)
 refine wpM.seq ?_
 refine wpM.seq (wpM.region ?_)
 refine LM.mv rfl ?_
 refine LM.val (ov_neq rfl rfl) ?_
 refine LM.nil (QM.sub (e' := [(0, _), (3, _), (5, _), (6, _), (17, _)]) au9 (QM.then ?_))
 refine wpM.condD rfl (fun h1 => ?_) (fun h1 => ?_)
 ·
  have hfull : mE each ≤ (([] : List (Int × Wt)).length : Int) := (by apply Classical.byContradiction; intro z; unfold foE at h1; rw [if_neg z] at h1; exact absurd rfl h1)
  refine wpM.seq (wpM.region ?_)
  refine LM.mv rfl (LM.val (ov_field Try.underlying32 rfl Try.sizeOf3 rfl (k := 1) rfl rfl) ?_)
  refine LM.rd (om_ld Try.isAgg3 rfl rfl) ?_
  refine LM.cU (oc_call (enters_fn Try.func46 (by kernel_rfl) rfl) rfl) (fun w hm hc hg => rq_clean_yes (r := { (⟨v.key, b11, [], 0⟩ : Rw) with q := foX (mE each) [] 0 v, tk := foT (mE each) [] 0 }) h13 (fset_at _ _ _) (if_pos hfull) (hm.pick (tbC b ad n cap most each bs bh :: m13))) h13.wlk (inn_S (inn_trans hin11 hin13) inM_tr) ?_
  rintro u21 m21 ⟨rfl, h21⟩ hin21
  refine LM.nil (QM.sub (e' := [(6, _)]) ⟨rfl, trivial⟩ (QM.then (wpM.seq (wpM.region ?_))))
  refine LM.mv rfl (LM.as rfl ?_)
  refine LM.nil (QM.sub (e' := [(4, _)]) ⟨rfl, trivial⟩ (QM.then ?_))
  refine wpM.ret ?_
  refine QM.then_ret ?_
  refine QM.leave (.inl rfl) [.tmp 4] Try.results28 rfl ?_
  intro w' hm' hc' hg'
  rw [if_pos (show mE each ≤ 0 from hfull)]; rw [entN_full (b' := b11) hfull hF] at h21; exact tb_leafN h21 he hm' (by (repeat' (first | exact SubM.nil _ | refine SubM.cons (by rfl) ?_ | refine SubM.app ?_))) hc' (inn_trans (inn_trans hin11 hin13) hin21)
 have hfull : ¬ mE each ≤ (([] : List (Int × Wt)).length : Int) := (by intro z; unfold foE at h1; rw [if_pos z] at h1; exact absurd h1 (by decide))
 refine wpM.skip ?_
 refine QM.then ?_
 refine wpM.seq ?_
 refine wpM.draw [(0, 0), (1, 0), (2, 0), (3, 1), (4, 0), (5, 1), (6, 0), (7, 1), (8, 0), (9, 0), (10, 3)] (by kernel_rfl) (by kernel_rfl) ?_
 refine LD.val rfl rfl (ov_move rfl) ?_
 refine LD.val rfl rfl (ov_nilCheck rfl) ?_
 refine LD.val rfl rfl (ov_field Try.underlying62 rfl Try.sizeOf58 rfl (k := 3) rfl rfl) ?_
 refine LD.rd rfl rfl (om_ld Try.isAgg58 rfl rfl) ?_
 refine LD.val rfl rfl (ov_field Try.underlying32 rfl Try.sizeOf3 rfl (k := 0) rfl rfl) ?_
 refine LD.rd rfl rfl (om_ld Try.isAgg3 rfl rfl) ?_
 refine LD.val rfl rfl (ov_field Try.underlying32 rfl Try.sizeOf3 rfl (k := 1) rfl rfl) ?_
 refine LD.rd rfl rfl (om_ld Try.isAgg3 rfl rfl) ?_
 refine LD.val rfl rfl (ov_move rfl) ?_
 refine LD.val rfl rfl (ov_build (cs := #[_, _]) rfl (by first | rfl | kernel_rfl)) ?_
 refine LD.tail rfl rfl ?_
 refine LM.mUS Try.underlying58 Try.underlying3 rfl rfl rfl (by assumption) (fun hlt => by first | exact inM_0 | exact inM_1 | exact absurd hlt (by omega)) (fun esu1 clu1 hesu1 => ?_)
 refine LM.nil ?_
 refine QM.qn ?_
 refine QM.sub (e' := []) trivial (QM.then (wpM.seq (wpM.region ?_)))
 refine LM.as rfl ?_
 refine LM.nil (QM.sub (e' := [(4, _)]) ⟨rfl, trivial⟩ (QM.then ?_))
 refine wpM.ret ?_
 refine QM.leave (.inl rfl) [.tmp 4] Try.results28 rfl ?_
 intro w' hm' hc' hg'
 rw [if_neg (show ¬ mE each ≤ 0 from hfull), show foE (mE each) [] = 0 from if_neg hfull]; rw [entN_new hfull] at h13; refine tb_leafN h13 ?_ hm' (by (repeat' (first | exact SubM.nil _ | refine SubM.cons (by rfl) ?_ | refine SubM.app ?_))) hc' (inn_trans hin11 hin13); rw [if_neg hfull] at hesu1; exact hesu1
end Go.Eng
namespace Go.Eng
open Go Go.Proofs Go.RowKit
theorem fset_fset (F : Int → Option Rw) (key : Int) (x y : Option Rw) : fset (fset F key x) key y = fset F key y := by
  funext k; unfold fset
  by_cases e : k = key
  · rw [if_pos e, if_pos e]
  · rw [if_neg e, if_neg e, if_neg e]
def lvF (F : Int → Option Rw) (key : Int) (r : Rw) (i : Nat) : Int → Option Rw := if r.q.length = 1 then fset F key none else fset F key (some { r with q := r.q.eraseIdx i })
set_option maxRecDepth 100000 in
theorem tleave_last {each most : Int} {n0 n cap b bs bh cl R : Nat} {ad : Option Addr} {F : Int → Option Rw} {es : Array MapEntry} {sp : List (Int × Value)} {mr : Mem0} {r : Rw} {key who : Int} (i : Nat) (w : World) (hR : RoM each n0 n cap ad R F mr) (he : EnsS .i64 es cl sp) (hF : F key = some r) (hi : i < r.q.length) (h1q : r.q.length = 1) (hw0 : aget sp who = some (vSp key (qd r.q i).1)) (hM : Mem w (tbC b ad n cap most each bs bh :: (bs, .map es cl) :: mr)) : Ret Try.prog 33 #[.pointer (some ⟨b, 0, none⟩), .int .i64 who] w (Upd (tbC b ad n cap most each bs bh :: (bs, .map es cl) :: mr) (fun u m' => u = .tuple #[.agg (fWt (qd r.q i).2).toArray, .bool true] ∧ ∃ es' cl' mr', m' = tbC b ad n cap most each bs bh :: (bs, .map es' cl') :: mr' ∧ RoM each n0 n cap ad R (lvF F key r i) mr' ∧ EnsS .i64 es' cl' (adel sp who)) w) := by
 have he1 := he.1
 refine Ret.enterM (l := [.pointer (some ⟨b, 0, none⟩), .int .i64 who]) Try.func33 rfl Try.ntmps33 rfl (tbC b ad n cap most each bs bh :: (bs, .map es cl) :: (mr ++ [])) ((inM (tbC b ad n cap most each bs bh :: (bs, .map es cl) :: mr))) (by rw [List.append_nil]; exact hM) ?_
 refine wpM.seq (wpM.region ?_)
 refine LM.alloc Try.zeroValue32 rfl (fun b4 hb4 => ?_)
 refine LM.as rfl ?_
 refine LM.nil (QM.sub (e' := [(0, _), (1, _), (4, _)]) au9 (QM.then ?_))
 refine wpM.seq ?_
 refine wpM.seq (wpM.region ?_)
 refine LM.mv rfl ?_
 refine LM.val (ov_peql (by kernel_rfl) rfl rfl) ?_
 refine LM.nil (QM.sub (e' := [(0, _), (1, _), (4, _), (11, _)]) au9 (QM.then ?_))
 refine wpM.condF rfl ?_
 refine wpM.skip ?_
 refine QM.then (wpM.seq (wpM.region ?_))
 refine LM.mv rfl ?_
 refine LM.val (ov_nilCheck rfl) ?_
 refine LM.val (ov_field Try.underlying62 rfl Try.sizeOf58 rfl (k := 3) rfl rfl) ?_
 refine LM.rd (om_ld Try.isAgg58 rfl rfl) ?_
 refine LM.mv rfl ?_
 refine LM.rd (om_lkOk Try.underlying58 Try.underlying3 Try.zeroValue64 rfl rfl (by assumption) (getD_some9 hw0) (has_some' hw0)) ?_
 refine LM.mv rfl ?_
 refine LM.val (ov_extract rfl rfl) ?_
 refine LM.val (ov_extract rfl rfl) ?_
 refine LM.alloc Try.zeroValue64 rfl (fun b6 hb6 => ?_)
 refine LM.stW Try.sizeOf64 rfl rfl rfl rfl au7 (fun hlt => by first | exact inM_0 | exact inM_1 | exact absurd hlt (by omega)) ?_
 refine LM.as rfl ?_
 refine LM.nil (QM.sub (e' := [(0, _), (1, _), (4, _), (6, _), (7, _)]) au9 (QM.then ?_))
 refine wpM.seq ?_
 refine wpM.seq (wpM.region ?_)
 refine LM.mv rfl ?_
 first | refine LM.val (ov_notD rfl) ?_ | refine LM.val (ov_not rfl) ?_
 refine LM.nil (QM.sub (e' := [(0, _), (1, _), (4, _), (6, _), (23, _)]) au9 (QM.then ?_))
 first | refine wpM.condD rfl (fun h1 => ?_) (fun h1 => ?_) | refine wpM.condB rfl (fun h1 => ?_) (fun h1 => ?_)
 ·
  cases h1
 refine wpM.skip ?_
 refine QM.then ?_
 refine wpM.seq ?_
 refine wpM.keep ((b6, .cells #[.int .i64 key, .int .i64 (qd r.q i).1] 64 (0, 0)) :: []) (fun _ => True) (.one 0 0 (.one 1 0 (.one 2 1 (.one 4 0 (.one 5 1 (.fork 3 (.fork 6 (.one 7 0 (.one 8 0 (.one 9 0 (.one 10 2 (.one 11 2 (.one 12 0 .nil)))))) 10 (.one 6 2 (.one 7 0 (.one 8 0 (.one 9 0 (.one 11 2 (.one 12 0 .nil))))))) 10 (.one 3 2 (.one 6 2 (.one 7 0 (.one 8 0 (.one 9 0 (.one 11 2 (.one 12 0 .nil))))))))))))) (by kernel_rfl) (by kernel_rfl) au1 (fun _ _ => trivial) ?_
 refine KD.val rfl rfl (ov_move rfl) ?_
 refine KD.val rfl rfl (ov_field Try.underlying64 rfl Try.sizeOf3 rfl (k := 0) rfl rfl) ?_
 refine KD.rd rfl rfl (om_ld Try.isAgg3 rfl rfl) ?_
 refine KD.val rfl rfl (ov_field Try.underlying64 rfl Try.sizeOf3 rfl (k := 1) rfl rfl) ?_
 refine KD.rd rfl rfl (om_ld Try.isAgg3 rfl rfl) ?_
 refine KD.fork rfl rfl ?_ ?_
 ·
  refine LM.callE (oc_call (enters_fn Try.func37 (by kernel_rfl) rfl) rfl) (fun w hm hc hg => rq_some false hR hF (hm.pick (tbC b ad n cap most each bs bh :: mr))) ?_
  refine LM.nil ?_
  refine QM.one au1 (fun _ _ => trivial) ?_
  refine KD.fork rfl rfl ?_ ?_
  ·
   refine LM.cU (oc_call (enters_fn Try.func48 (by kernel_rfl) rfl) rfl) (fun w hm hc hg => rq_remove i hR hF hi (hm.pick mr)) hR.wlk (fun p hp _ => inM_tr p hp) ?_
   rintro u32 m32 ⟨rfl, h32⟩ hin32
   refine LM.nil ?_
   refine QM.one au1 (fun _ _ => trivial) ?_
   refine KD.val rfl rfl (ov_move rfl) ?_
   refine KD.val rfl rfl (ov_extract rfl rfl) ?_
   refine KD.val rfl rfl (ov_extract rfl rfl) ?_
   refine KD.one rfl ?_
   refine LM.alloc Try.zeroValue32 rfl (fun b8 hb8 => ?_)
   refine LM.nil ?_
   refine QM.one au1 (fun _ _ => trivial) ?_
   refine KD.one rfl ?_
   refine LM.stW Try.sizeOf32 rfl rfl rfl rfl au7 (fun hlt => by first | exact inM_0 | exact inM_1 | exact absurd hlt (by omega)) ?_
   refine LM.nil ?_
   refine QM.one au1 (fun _ _ => trivial) ?_
   refine KD.val rfl rfl (ov_assign rfl) ?_
   refine KD.nil ?_
   refine QM.sub (e' := [(0, _), (1, _), (4, _), (6, _), (8, _)]) au9 (QM.then (wpM.seq (wpM.region ?_)))
   refine LM.mv rfl ?_
   refine LM.val (ov_nilCheck rfl) ?_
   refine LM.val (ov_field Try.underlying62 rfl Try.sizeOf58 rfl (k := 3) rfl rfl) ?_
   refine LM.rd (om_ld Try.isAgg58 rfl rfl) ?_
   refine LM.mv rfl ?_
   refine LM.mDS Try.underlying58 Try.underlying3 rfl rfl (by assumption) (fun hlt => by first | exact inM_0 | exact inM_1 | exact absurd hlt (by omega)) (fun esu1 clu1 hesu1 => ?_)
   refine LM.nil (QM.sub (e' := [(0, _), (4, _), (6, _), (8, _)]) au9 (QM.then (wpM.seq (wpM.region ?_))))
   refine LM.mv rfl (LM.val (ov_field Try.underlying64 rfl Try.sizeOf3 rfl (k := 0) rfl rfl) ?_)
   refine LM.rd (om_ld Try.isAgg3 rfl rfl) ?_
   refine LM.cU (oc_call (enters_fn Try.func46 (by kernel_rfl) rfl) rfl) (fun w hm hc hg => rq_clean_yes (r := { r with q := r.q.eraseIdx i }) h32 (fset_at _ _ _) (List.eq_nil_of_length_eq_zero (by show (r.q.eraseIdx i).length = 0; rw [List.length_eraseIdx, if_pos hi]; omega)) (hm.pick (tbC b ad n cap most each bs bh :: m32))) h32.wlk (inn_S hin32 inM_tr) ?_
   rintro u43 m43 ⟨rfl, h43⟩ hin43
   refine LM.nil (QM.sub (e' := [(4, _), (8, _)]) au9 (QM.then (wpM.seq (wpM.region ?_))))
   refine LM.rd (om_ldW Try.isAgg32 Try.sizeOf32 rfl rfl) ?_
   refine LM.stW Try.sizeOf32 rfl rfl rfl rfl au7 (fun hlt => by first | exact inM_0 | exact inM_1 | exact absurd hlt (by omega)) ?_
   refine LM.as rfl ?_
   refine LM.nil (QM.sub (e' := [(4, _), (5, _)]) au9 (QM.then ?_))
   refine wpM.ret ?_
   refine QM.leaveCs (ds := ([])) (.inl rfl) [.cell 4 32, .tmp 5] Try.results33 hd_nil (rc_w rfl Try.isAgg32 Try.sizeOf32 rfl (rc_tmp rfl rc_nil)) ?_
   intro w' hm' hc'
   rw [fset_fset] at h43; exact tb_leaf (by rw [show lvF F key r i = fset F key none from if_pos h1q]; exact h43) hesu1 hm' (by (repeat' (first | exact SubM.nil _ | refine SubM.cons (by rfl) ?_ | refine SubM.app ?_))) hc' (inn_trans hin32 hin43)
  refine LM.alloc Try.zeroValue32 rfl (fun b8 hb8 => ?_)
  refine LM.nil ?_
  refine QM.one au1 (fun _ _ => trivial) ?_
  refine KD.one rfl ?_
  refine LM.cU (oc_call (enters_fn Try.func48 (by kernel_rfl) rfl) rfl) (fun w hm hc hg => rq_remove i hR hF hi (hm.pick mr)) hR.wlk (fun p hp _ => inM_tr p hp) ?_
  rintro u32 m32 ⟨rfl, h32⟩ hin32
  refine LM.nil ?_
  refine QM.one au1 (fun _ _ => trivial) ?_
  refine KD.val rfl rfl (ov_move rfl) ?_
  refine KD.val rfl rfl (ov_extract rfl rfl) ?_
  refine KD.val rfl rfl (ov_extract rfl rfl) ?_
  refine KD.one rfl ?_
  refine LM.stW Try.sizeOf32 rfl rfl rfl rfl au7 (fun hlt => by first | exact inM_0 | exact inM_1 | exact absurd hlt (by omega)) ?_
  refine LM.nil ?_
  refine QM.one au1 (fun _ _ => trivial) ?_
  refine KD.val rfl rfl (ov_assign rfl) ?_
  refine KD.nil ?_
  refine QM.sub (e' := [(0, _), (1, _), (4, _), (6, _), (8, _)]) au9 (QM.then (wpM.seq (wpM.region ?_)))
  refine LM.mv rfl ?_
  refine LM.val (ov_nilCheck rfl) ?_
  refine LM.val (ov_field Try.underlying62 rfl Try.sizeOf58 rfl (k := 3) rfl rfl) ?_
  refine LM.rd (om_ld Try.isAgg58 rfl rfl) ?_
  refine LM.mv rfl ?_
  refine LM.mDS Try.underlying58 Try.underlying3 rfl rfl (by assumption) (fun hlt => by first | exact inM_0 | exact inM_1 | exact absurd hlt (by omega)) (fun esu1 clu1 hesu1 => ?_)
  refine LM.nil (QM.sub (e' := [(0, _), (4, _), (6, _), (8, _)]) au9 (QM.then (wpM.seq (wpM.region ?_))))
  refine LM.mv rfl (LM.val (ov_field Try.underlying64 rfl Try.sizeOf3 rfl (k := 0) rfl rfl) ?_)
  refine LM.rd (om_ld Try.isAgg3 rfl rfl) ?_
  refine LM.cU (oc_call (enters_fn Try.func46 (by kernel_rfl) rfl) rfl) (fun w hm hc hg => rq_clean_yes (r := { r with q := r.q.eraseIdx i }) h32 (fset_at _ _ _) (List.eq_nil_of_length_eq_zero (by show (r.q.eraseIdx i).length = 0; rw [List.length_eraseIdx, if_pos hi]; omega)) (hm.pick (tbC b ad n cap most each bs bh :: m32))) h32.wlk (inn_S hin32 inM_tr) ?_
  rintro u43 m43 ⟨rfl, h43⟩ hin43
  refine LM.nil (QM.sub (e' := [(4, _), (8, _)]) au9 (QM.then (wpM.seq (wpM.region ?_))))
  refine LM.rd (om_ldW Try.isAgg32 Try.sizeOf32 rfl rfl) ?_
  refine LM.stW Try.sizeOf32 rfl rfl rfl rfl au7 (fun hlt => by first | exact inM_0 | exact inM_1 | exact absurd hlt (by omega)) ?_
  refine LM.as rfl ?_
  refine LM.nil (QM.sub (e' := [(4, _), (5, _)]) au9 (QM.then ?_))
  refine wpM.ret ?_
  refine QM.leaveCs (ds := ([])) (.inl rfl) [.cell 4 32, .tmp 5] Try.results33 hd_nil (rc_w rfl Try.isAgg32 Try.sizeOf32 rfl (rc_tmp rfl rc_nil)) ?_
  intro w' hm' hc'
  rw [fset_fset] at h43; exact tb_leaf (by rw [show lvF F key r i = fset F key none from if_pos h1q]; exact h43) hesu1 hm' (by (repeat' (first | exact SubM.nil _ | refine SubM.cons (by rfl) ?_ | refine SubM.app ?_))) hc' (inn_trans hin32 hin43)
 refine LM.alloc Try.zeroValue32 rfl (fun b8 hb8 => ?_)
 refine LM.nil ?_
 refine QM.one au1 (fun _ _ => trivial) ?_
 refine KD.one rfl ?_
 refine LM.callE (oc_call (enters_fn Try.func37 (by kernel_rfl) rfl) rfl) (fun w hm hc hg => rq_some false hR hF (hm.pick (tbC b ad n cap most each bs bh :: mr))) ?_
 refine LM.nil ?_
 refine QM.one au1 (fun _ _ => trivial) ?_
 refine KD.one rfl ?_
 refine LM.cU (oc_call (enters_fn Try.func48 (by kernel_rfl) rfl) rfl) (fun w hm hc hg => rq_remove i hR hF hi (hm.pick mr)) hR.wlk (fun p hp _ => inM_tr p hp) ?_
 rintro u32 m32 ⟨rfl, h32⟩ hin32
 refine LM.nil ?_
 refine QM.one au1 (fun _ _ => trivial) ?_
 refine KD.val rfl rfl (ov_move rfl) ?_
 refine KD.val rfl rfl (ov_extract rfl rfl) ?_
 refine KD.val rfl rfl (ov_extract rfl rfl) ?_
 refine KD.one rfl ?_
 refine LM.stW Try.sizeOf32 rfl rfl rfl rfl au7 (fun hlt => by first | exact inM_0 | exact inM_1 | exact absurd hlt (by omega)) ?_
 refine LM.nil ?_
 refine QM.one au1 (fun _ _ => trivial) ?_
 refine KD.val rfl rfl (ov_assign rfl) ?_
 refine KD.nil ?_
 refine QM.sub (e' := [(0, _), (1, _), (4, _), (6, _), (8, _)]) au9 (QM.then (wpM.seq (wpM.region ?_)))
 refine LM.mv rfl ?_
 refine LM.val (ov_nilCheck rfl) ?_
 refine LM.val (ov_field Try.underlying62 rfl Try.sizeOf58 rfl (k := 3) rfl rfl) ?_
 refine LM.rd (om_ld Try.isAgg58 rfl rfl) ?_
 refine LM.mv rfl ?_
 refine LM.mDS Try.underlying58 Try.underlying3 rfl rfl (by assumption) (fun hlt => by first | exact inM_0 | exact inM_1 | exact absurd hlt (by omega)) (fun esu1 clu1 hesu1 => ?_)
 refine LM.nil (QM.sub (e' := [(0, _), (4, _), (6, _), (8, _)]) au9 (QM.then (wpM.seq (wpM.region ?_))))
 refine LM.mv rfl (LM.val (ov_field Try.underlying64 rfl Try.sizeOf3 rfl (k := 0) rfl rfl) ?_)
 refine LM.rd (om_ld Try.isAgg3 rfl rfl) ?_
 refine LM.cU (oc_call (enters_fn Try.func46 (by kernel_rfl) rfl) rfl) (fun w hm hc hg => rq_clean_yes (r := { r with q := r.q.eraseIdx i }) h32 (fset_at _ _ _) (List.eq_nil_of_length_eq_zero (by show (r.q.eraseIdx i).length = 0; rw [List.length_eraseIdx, if_pos hi]; omega)) (hm.pick (tbC b ad n cap most each bs bh :: m32))) h32.wlk (inn_S hin32 inM_tr) ?_
 rintro u43 m43 ⟨rfl, h43⟩ hin43
 refine LM.nil (QM.sub (e' := [(4, _), (8, _)]) au9 (QM.then (wpM.seq (wpM.region ?_))))
 refine LM.rd (om_ldW Try.isAgg32 Try.sizeOf32 rfl rfl) ?_
 refine LM.stW Try.sizeOf32 rfl rfl rfl rfl au7 (fun hlt => by first | exact inM_0 | exact inM_1 | exact absurd hlt (by omega)) ?_
 refine LM.as rfl ?_
 refine LM.nil (QM.sub (e' := [(4, _), (5, _)]) au9 (QM.then ?_))
 refine wpM.ret ?_
 refine QM.leaveCs (ds := ([])) (.inl rfl) [.cell 4 32, .tmp 5] Try.results33 hd_nil (rc_w rfl Try.isAgg32 Try.sizeOf32 rfl (rc_tmp rfl rc_nil)) ?_
 intro w' hm' hc'
 rw [fset_fset] at h43; exact tb_leaf (by rw [show lvF F key r i = fset F key none from if_pos h1q]; exact h43) hesu1 hm' (by (repeat' (first | exact SubM.nil _ | refine SubM.cons (by rfl) ?_ | refine SubM.app ?_))) hc' (inn_trans hin32 hin43)
set_option maxRecDepth 100000 in
theorem tleave_more {each most : Int} {n0 n cap b bs bh cl R : Nat} {ad : Option Addr} {F : Int → Option Rw} {es : Array MapEntry} {sp : List (Int × Value)} {mr : Mem0} {r : Rw} {key who : Int} (i : Nat) (w : World) (hR : RoM each n0 n cap ad R F mr) (he : EnsS .i64 es cl sp) (hF : F key = some r) (hi : i < r.q.length) (h1q : r.q.length ≠ 1) (hw0 : aget sp who = some (vSp key (qd r.q i).1)) (hM : Mem w (tbC b ad n cap most each bs bh :: (bs, .map es cl) :: mr)) : Ret Try.prog 33 #[.pointer (some ⟨b, 0, none⟩), .int .i64 who] w (Upd (tbC b ad n cap most each bs bh :: (bs, .map es cl) :: mr) (fun u m' => u = .tuple #[.agg (fWt (qd r.q i).2).toArray, .bool true] ∧ ∃ es' cl' mr', m' = tbC b ad n cap most each bs bh :: (bs, .map es' cl') :: mr' ∧ RoM each n0 n cap ad R (lvF F key r i) mr' ∧ EnsS .i64 es' cl' (adel sp who)) w) := by
 have he1 := he.1
 refine Ret.enterM (l := [.pointer (some ⟨b, 0, none⟩), .int .i64 who]) Try.func33 rfl Try.ntmps33 rfl (tbC b ad n cap most each bs bh :: (bs, .map es cl) :: (mr ++ [])) ((inM (tbC b ad n cap most each bs bh :: (bs, .map es cl) :: mr))) (by rw [List.append_nil]; exact hM) ?_
 refine wpM.seq (wpM.region ?_)
 refine LM.alloc Try.zeroValue32 rfl (fun b4 hb4 => ?_)
 refine LM.as rfl ?_
 refine LM.nil (QM.sub (e' := [(0, _), (1, _), (4, _)]) au9 (QM.then ?_))
 refine wpM.seq ?_
 refine wpM.seq (wpM.region ?_)
 refine LM.mv rfl ?_
 refine LM.val (ov_peql (by kernel_rfl) rfl rfl) ?_
 refine LM.nil (QM.sub (e' := [(0, _), (1, _), (4, _), (11, _)]) au9 (QM.then ?_))
 refine wpM.condF rfl ?_
 refine wpM.skip ?_
 refine QM.then (wpM.seq (wpM.region ?_))
 refine LM.mv rfl ?_
 refine LM.val (ov_nilCheck rfl) ?_
 refine LM.val (ov_field Try.underlying62 rfl Try.sizeOf58 rfl (k := 3) rfl rfl) ?_
 refine LM.rd (om_ld Try.isAgg58 rfl rfl) ?_
 refine LM.mv rfl ?_
 refine LM.rd (om_lkOk Try.underlying58 Try.underlying3 Try.zeroValue64 rfl rfl (by assumption) (getD_some9 hw0) (has_some' hw0)) ?_
 refine LM.mv rfl ?_
 refine LM.val (ov_extract rfl rfl) ?_
 refine LM.val (ov_extract rfl rfl) ?_
 refine LM.alloc Try.zeroValue64 rfl (fun b6 hb6 => ?_)
 refine LM.stW Try.sizeOf64 rfl rfl rfl rfl au7 (fun hlt => by first | exact inM_0 | exact inM_1 | exact absurd hlt (by omega)) ?_
 refine LM.as rfl ?_
 refine LM.nil (QM.sub (e' := [(0, _), (1, _), (4, _), (6, _), (7, _)]) au9 (QM.then ?_))
 refine wpM.seq ?_
 refine wpM.seq (wpM.region ?_)
 refine LM.mv rfl ?_
 first | refine LM.val (ov_notD rfl) ?_ | refine LM.val (ov_not rfl) ?_
 refine LM.nil (QM.sub (e' := [(0, _), (1, _), (4, _), (6, _), (23, _)]) au9 (QM.then ?_))
 first | refine wpM.condD rfl (fun h1 => ?_) (fun h1 => ?_) | refine wpM.condB rfl (fun h1 => ?_) (fun h1 => ?_)
 ·
  cases h1
 refine wpM.skip ?_
 refine QM.then ?_
 refine wpM.seq ?_
 refine wpM.keep ((b6, .cells #[.int .i64 key, .int .i64 (qd r.q i).1] 64 (0, 0)) :: []) (fun _ => True) (.one 0 0 (.one 1 0 (.one 2 1 (.one 4 0 (.one 5 1 (.fork 3 (.fork 6 (.one 7 0 (.one 8 0 (.one 9 0 (.one 10 2 (.one 11 2 (.one 12 0 .nil)))))) 10 (.one 6 2 (.one 7 0 (.one 8 0 (.one 9 0 (.one 11 2 (.one 12 0 .nil))))))) 10 (.one 3 2 (.one 6 2 (.one 7 0 (.one 8 0 (.one 9 0 (.one 11 2 (.one 12 0 .nil))))))))))))) (by kernel_rfl) (by kernel_rfl) au1 (fun _ _ => trivial) ?_
 refine KD.val rfl rfl (ov_move rfl) ?_
 refine KD.val rfl rfl (ov_field Try.underlying64 rfl Try.sizeOf3 rfl (k := 0) rfl rfl) ?_
 refine KD.rd rfl rfl (om_ld Try.isAgg3 rfl rfl) ?_
 refine KD.val rfl rfl (ov_field Try.underlying64 rfl Try.sizeOf3 rfl (k := 1) rfl rfl) ?_
 refine KD.rd rfl rfl (om_ld Try.isAgg3 rfl rfl) ?_
 refine KD.fork rfl rfl ?_ ?_
 ·
  refine LM.callE (oc_call (enters_fn Try.func37 (by kernel_rfl) rfl) rfl) (fun w hm hc hg => rq_some false hR hF (hm.pick (tbC b ad n cap most each bs bh :: mr))) ?_
  refine LM.nil ?_
  refine QM.one au1 (fun _ _ => trivial) ?_
  refine KD.fork rfl rfl ?_ ?_
  ·
   refine LM.cU (oc_call (enters_fn Try.func48 (by kernel_rfl) rfl) rfl) (fun w hm hc hg => rq_remove i hR hF hi (hm.pick mr)) hR.wlk (fun p hp _ => inM_tr p hp) ?_
   rintro u32 m32 ⟨rfl, h32⟩ hin32
   refine LM.nil ?_
   refine QM.one au1 (fun _ _ => trivial) ?_
   refine KD.val rfl rfl (ov_move rfl) ?_
   refine KD.val rfl rfl (ov_extract rfl rfl) ?_
   refine KD.val rfl rfl (ov_extract rfl rfl) ?_
   refine KD.one rfl ?_
   refine LM.alloc Try.zeroValue32 rfl (fun b8 hb8 => ?_)
   refine LM.nil ?_
   refine QM.one au1 (fun _ _ => trivial) ?_
   refine KD.one rfl ?_
   refine LM.stW Try.sizeOf32 rfl rfl rfl rfl au7 (fun hlt => by first | exact inM_0 | exact inM_1 | exact absurd hlt (by omega)) ?_
   refine LM.nil ?_
   refine QM.one au1 (fun _ _ => trivial) ?_
   refine KD.val rfl rfl (ov_assign rfl) ?_
   refine KD.nil ?_
   refine QM.sub (e' := [(0, _), (1, _), (4, _), (6, _), (8, _)]) au9 (QM.then (wpM.seq (wpM.region ?_)))
   refine LM.mv rfl ?_
   refine LM.val (ov_nilCheck rfl) ?_
   refine LM.val (ov_field Try.underlying62 rfl Try.sizeOf58 rfl (k := 3) rfl rfl) ?_
   refine LM.rd (om_ld Try.isAgg58 rfl rfl) ?_
   refine LM.mv rfl ?_
   refine LM.mDS Try.underlying58 Try.underlying3 rfl rfl (by assumption) (fun hlt => by first | exact inM_0 | exact inM_1 | exact absurd hlt (by omega)) (fun esu1 clu1 hesu1 => ?_)
   refine LM.nil (QM.sub (e' := [(0, _), (4, _), (6, _), (8, _)]) au9 (QM.then (wpM.seq (wpM.region ?_))))
   refine LM.mv rfl (LM.val (ov_field Try.underlying64 rfl Try.sizeOf3 rfl (k := 0) rfl rfl) ?_)
   refine LM.rd (om_ld Try.isAgg3 rfl rfl) ?_
   refine LM.callE (oc_call (enters_fn Try.func46 (by kernel_rfl) rfl) rfl) (fun w hm hc hg => rq_clean_no (r := { r with q := r.q.eraseIdx i }) h32 (fset_at _ _ _) (by show 0 < (r.q.eraseIdx i).length; rw [List.length_eraseIdx, if_pos hi]; omega) (hm.pick (tbC b ad n cap most each bs bh :: m32))) ?_
   refine LM.nil (QM.sub (e' := [(4, _), (8, _)]) au9 (QM.then (wpM.seq (wpM.region ?_))))
   refine LM.rd (om_ldW Try.isAgg32 Try.sizeOf32 rfl rfl) ?_
   refine LM.stW Try.sizeOf32 rfl rfl rfl rfl au7 (fun hlt => by first | exact inM_0 | exact inM_1 | exact absurd hlt (by omega)) ?_
   refine LM.as rfl ?_
   refine LM.nil (QM.sub (e' := [(4, _), (5, _)]) au9 (QM.then ?_))
   refine wpM.ret ?_
   refine QM.leaveCs (ds := ([])) (.inl rfl) [.cell 4 32, .tmp 5] Try.results33 hd_nil (rc_w rfl Try.isAgg32 Try.sizeOf32 rfl (rc_tmp rfl rc_nil)) ?_
   intro w' hm' hc'
   exact tb_leaf (by rw [show lvF F key r i = fset F key (some { r with q := r.q.eraseIdx i }) from if_neg h1q]; exact h32) hesu1 hm' (by (repeat' (first | exact SubM.nil _ | refine SubM.cons (by rfl) ?_ | refine SubM.app ?_))) hc' hin32
  refine LM.alloc Try.zeroValue32 rfl (fun b8 hb8 => ?_)
  refine LM.nil ?_
  refine QM.one au1 (fun _ _ => trivial) ?_
  refine KD.one rfl ?_
  refine LM.cU (oc_call (enters_fn Try.func48 (by kernel_rfl) rfl) rfl) (fun w hm hc hg => rq_remove i hR hF hi (hm.pick mr)) hR.wlk (fun p hp _ => inM_tr p hp) ?_
  rintro u32 m32 ⟨rfl, h32⟩ hin32
  refine LM.nil ?_
  refine QM.one au1 (fun _ _ => trivial) ?_
  refine KD.val rfl rfl (ov_move rfl) ?_
  refine KD.val rfl rfl (ov_extract rfl rfl) ?_
  refine KD.val rfl rfl (ov_extract rfl rfl) ?_
  refine KD.one rfl ?_
  refine LM.stW Try.sizeOf32 rfl rfl rfl rfl au7 (fun hlt => by first | exact inM_0 | exact inM_1 | exact absurd hlt (by omega)) ?_
  refine LM.nil ?_
  refine QM.one au1 (fun _ _ => trivial) ?_
  refine KD.val rfl rfl (ov_assign rfl) ?_
  refine KD.nil ?_
  refine QM.sub (e' := [(0, _), (1, _), (4, _), (6, _), (8, _)]) au9 (QM.then (wpM.seq (wpM.region ?_)))
  refine LM.mv rfl ?_
  refine LM.val (ov_nilCheck rfl) ?_
  refine LM.val (ov_field Try.underlying62 rfl Try.sizeOf58 rfl (k := 3) rfl rfl) ?_
  refine LM.rd (om_ld Try.isAgg58 rfl rfl) ?_
  refine LM.mv rfl ?_
  refine LM.mDS Try.underlying58 Try.underlying3 rfl rfl (by assumption) (fun hlt => by first | exact inM_0 | exact inM_1 | exact absurd hlt (by omega)) (fun esu1 clu1 hesu1 => ?_)
  refine LM.nil (QM.sub (e' := [(0, _), (4, _), (6, _), (8, _)]) au9 (QM.then (wpM.seq (wpM.region ?_))))
  refine LM.mv rfl (LM.val (ov_field Try.underlying64 rfl Try.sizeOf3 rfl (k := 0) rfl rfl) ?_)
  refine LM.rd (om_ld Try.isAgg3 rfl rfl) ?_
  refine LM.callE (oc_call (enters_fn Try.func46 (by kernel_rfl) rfl) rfl) (fun w hm hc hg => rq_clean_no (r := { r with q := r.q.eraseIdx i }) h32 (fset_at _ _ _) (by show 0 < (r.q.eraseIdx i).length; rw [List.length_eraseIdx, if_pos hi]; omega) (hm.pick (tbC b ad n cap most each bs bh :: m32))) ?_
  refine LM.nil (QM.sub (e' := [(4, _), (8, _)]) au9 (QM.then (wpM.seq (wpM.region ?_))))
  refine LM.rd (om_ldW Try.isAgg32 Try.sizeOf32 rfl rfl) ?_
  refine LM.stW Try.sizeOf32 rfl rfl rfl rfl au7 (fun hlt => by first | exact inM_0 | exact inM_1 | exact absurd hlt (by omega)) ?_
  refine LM.as rfl ?_
  refine LM.nil (QM.sub (e' := [(4, _), (5, _)]) au9 (QM.then ?_))
  refine wpM.ret ?_
  refine QM.leaveCs (ds := ([])) (.inl rfl) [.cell 4 32, .tmp 5] Try.results33 hd_nil (rc_w rfl Try.isAgg32 Try.sizeOf32 rfl (rc_tmp rfl rc_nil)) ?_
  intro w' hm' hc'
  exact tb_leaf (by rw [show lvF F key r i = fset F key (some { r with q := r.q.eraseIdx i }) from if_neg h1q]; exact h32) hesu1 hm' (by (repeat' (first | exact SubM.nil _ | refine SubM.cons (by rfl) ?_ | refine SubM.app ?_))) hc' hin32
 refine LM.alloc Try.zeroValue32 rfl (fun b8 hb8 => ?_)
 refine LM.nil ?_
 refine QM.one au1 (fun _ _ => trivial) ?_
 refine KD.one rfl ?_
 refine LM.callE (oc_call (enters_fn Try.func37 (by kernel_rfl) rfl) rfl) (fun w hm hc hg => rq_some false hR hF (hm.pick (tbC b ad n cap most each bs bh :: mr))) ?_
 refine LM.nil ?_
 refine QM.one au1 (fun _ _ => trivial) ?_
 refine KD.one rfl ?_
 refine LM.cU (oc_call (enters_fn Try.func48 (by kernel_rfl) rfl) rfl) (fun w hm hc hg => rq_remove i hR hF hi (hm.pick mr)) hR.wlk (fun p hp _ => inM_tr p hp) ?_
 rintro u32 m32 ⟨rfl, h32⟩ hin32
 refine LM.nil ?_
 refine QM.one au1 (fun _ _ => trivial) ?_
 refine KD.val rfl rfl (ov_move rfl) ?_
 refine KD.val rfl rfl (ov_extract rfl rfl) ?_
 refine KD.val rfl rfl (ov_extract rfl rfl) ?_
 refine KD.one rfl ?_
 refine LM.stW Try.sizeOf32 rfl rfl rfl rfl au7 (fun hlt => by first | exact inM_0 | exact inM_1 | exact absurd hlt (by omega)) ?_
 refine LM.nil ?_
 refine QM.one au1 (fun _ _ => trivial) ?_
 refine KD.val rfl rfl (ov_assign rfl) ?_
 refine KD.nil ?_
 refine QM.sub (e' := [(0, _), (1, _), (4, _), (6, _), (8, _)]) au9 (QM.then (wpM.seq (wpM.region ?_)))
 refine LM.mv rfl ?_
 refine LM.val (ov_nilCheck rfl) ?_
 refine LM.val (ov_field Try.underlying62 rfl Try.sizeOf58 rfl (k := 3) rfl rfl) ?_
 refine LM.rd (om_ld Try.isAgg58 rfl rfl) ?_
 refine LM.mv rfl ?_
 refine LM.mDS Try.underlying58 Try.underlying3 rfl rfl (by assumption) (fun hlt => by first | exact inM_0 | exact inM_1 | exact absurd hlt (by omega)) (fun esu1 clu1 hesu1 => ?_)
 refine LM.nil (QM.sub (e' := [(0, _), (4, _), (6, _), (8, _)]) au9 (QM.then (wpM.seq (wpM.region ?_))))
 refine LM.mv rfl (LM.val (ov_field Try.underlying64 rfl Try.sizeOf3 rfl (k := 0) rfl rfl) ?_)
 refine LM.rd (om_ld Try.isAgg3 rfl rfl) ?_
 refine LM.callE (oc_call (enters_fn Try.func46 (by kernel_rfl) rfl) rfl) (fun w hm hc hg => rq_clean_no (r := { r with q := r.q.eraseIdx i }) h32 (fset_at _ _ _) (by show 0 < (r.q.eraseIdx i).length; rw [List.length_eraseIdx, if_pos hi]; omega) (hm.pick (tbC b ad n cap most each bs bh :: m32))) ?_
 refine LM.nil (QM.sub (e' := [(4, _), (8, _)]) au9 (QM.then (wpM.seq (wpM.region ?_))))
 refine LM.rd (om_ldW Try.isAgg32 Try.sizeOf32 rfl rfl) ?_
 refine LM.stW Try.sizeOf32 rfl rfl rfl rfl au7 (fun hlt => by first | exact inM_0 | exact inM_1 | exact absurd hlt (by omega)) ?_
 refine LM.as rfl ?_
 refine LM.nil (QM.sub (e' := [(4, _), (5, _)]) au9 (QM.then ?_))
 refine wpM.ret ?_
 refine QM.leaveCs (ds := ([])) (.inl rfl) [.cell 4 32, .tmp 5] Try.results33 hd_nil (rc_w rfl Try.isAgg32 Try.sizeOf32 rfl (rc_tmp rfl rc_nil)) ?_
 intro w' hm' hc'
 exact tb_leaf (by rw [show lvF F key r i = fset F key (some { r with q := r.q.eraseIdx i }) from if_neg h1q]; exact h32) hesu1 hm' (by (repeat' (first | exact SubM.nil _ | refine SubM.cons (by rfl) ?_ | refine SubM.app ?_))) hc' hin32
set_option maxRecDepth 100000 in
theorem tleave_nil (who : Int) (w : World) : Ret Try.prog 33 #[.pointer none, .int .i64 who] w (fun u w' => u = .tuple #[.agg (fWt default).toArray, .bool false] ∧ Ext w w') := by
 refine Ret.enterM (l := [.pointer none, .int .i64 who]) Try.func33 rfl Try.ntmps33 rfl ([]) (no) (Mem.nil w) ?_
 refine wpM.seq (wpM.region ?_)
 refine LM.alloc Try.zeroValue32 rfl (fun b4 hb4 => ?_)
 refine LM.as rfl ?_
 refine LM.nil (QM.sub (e' := [(0, _), (1, _), (4, _)]) au9 (QM.then ?_))
 refine wpM.seq ?_
 refine wpM.seq (wpM.region ?_)
 refine LM.mv rfl ?_
 refine LM.val (ov_peql (by kernel_rfl) rfl rfl) ?_
 refine LM.nil (QM.sub (e' := [(0, _), (1, _), (4, _), (11, _)]) au9 (QM.then ?_))
 first | refine wpM.condD rfl (fun h1 => ?_) (fun h1 => ?_) | refine wpM.condB rfl (fun h1 => ?_) (fun h1 => ?_)
 ·
  refine wpM.seq (wpM.region ?_)
  refine LM.val (ov_build (cs := #[_, _, _]) rfl (by first | rfl | kernel_rfl)) ?_
  refine LM.stW Try.sizeOf32 rfl rfl rfl rfl au7 (fun hlt => by first | exact inM_0 | exact inM_1 | exact absurd hlt (by omega)) ?_
  refine LM.as rfl ?_
  refine LM.nil (QM.sub (e' := [(4, _), (5, _)]) au9 (QM.then ?_))
  refine wpM.ret ?_
  refine QM.then_ret ?_
  refine QM.leaveCs (ds := ([])) (.inl rfl) [.cell 4 32, .tmp 5] Try.results33 hd_nil (rc_w rfl Try.isAgg32 Try.sizeOf32 rfl (rc_tmp rfl rc_nil)) ?_
  intro w' hm' hc'
  exact ⟨rfl, hc'⟩
 cases h1
end Go.Eng
namespace Go.Eng
open Go Go.RowKit
abbrev qS (q : List (Int × Wt)) : List Wt := q.map (·.2)
def LF (L : List Wt) (key : Int) : List Wt := L.filter (fun w => decide (w.key = key))
def rmW (L : List Wt) (who : Int) : List Wt := L.filter (fun w => decide (w.who ≠ who))
def Wd1 (L : List Wt) : Prop := L.Pairwise (fun a b => a.who ≠ b.who)
theorem LF_app (L : List Wt) (v : Wt) (k : Int) : LF (L ++ [v]) k = if k = v.key then LF L k ++ [v] else LF L k := by
  unfold LF; rw [List.filter_append]
  by_cases e : k = v.key
  · rw [if_pos e, List.filter_cons_of_pos (by simp [e])]; rfl
  · rw [if_neg e, List.filter_cons_of_neg (by simpa using fun z => e z.symm)]; simp
theorem LF_rm (L : List Wt) (who k : Int) : LF (rmW L who) k = rmW (LF L k) who := by
  unfold LF rmW; rw [List.filter_filter, List.filter_filter]; congr 1; funext w; rw [Bool.and_comm]
theorem LF_mem {L : List Wt} {k : Int} {w : Wt} : w ∈ LF L k ↔ w ∈ L ∧ w.key = k := by unfold LF; rw [List.mem_filter]; simp
theorem rm_mem {L : List Wt} {who : Int} {w : Wt} : w ∈ rmW L who ↔ w ∈ L ∧ w.who ≠ who := by unfold rmW; rw [List.mem_filter]; simp
theorem rm_no {L : List Wt} {who : Int} (h : ∀ w ∈ L, w.who ≠ who) : rmW L who = L := List.filter_eq_self.2 (fun w hw => decide_eq_true (h w hw))
theorem wd_rm {L : List Wt} (h : Wd1 L) (who : Int) : Wd1 (rmW L who) := h.filter _
theorem wd_lf {L : List Wt} (h : Wd1 L) (k : Int) : Wd1 (LF L k) := h.filter _
theorem wd_snoc {L : List Wt} (h : Wd1 L) {v : Wt} (hn : ∀ w ∈ L, w.who ≠ v.who) : Wd1 (L ++ [v]) :=
  List.pairwise_append.2 ⟨h, List.pairwise_singleton .., fun a ha b hb => by rw [List.mem_singleton] at hb; subst hb; exact hn a ha⟩
theorem wd_eq {L : List Wt} (h : Wd1 L) {a b : Wt} (ha : a ∈ L) (hb : b ∈ L) (e : a.who = b.who) : a = b := by
  induction L with
  | nil => cases ha
  | cons x L ih =>
    have h1 := List.pairwise_cons.1 h
    rcases List.mem_cons.1 ha with ea | ha
    · rcases List.mem_cons.1 hb with eb | hb
      · rw [ea, eb]
      · rw [ea] at e; exact absurd e (h1.1 b hb)
    · rcases List.mem_cons.1 hb with eb | hb
      · rw [eb] at e; exact absurd e.symm (h1.1 a ha)
      · exact ih h1.2 ha hb
theorem rm_erase : ∀ {L : List Wt} {i : Nat} {w : Wt}, Wd1 L → L[i]? = some w → rmW L w.who = L.eraseIdx i
  | [], i, w, _, h => by simp at h
  | x :: L, 0, w, h, hi => by
    simp at hi; subst hi
    have h1 := List.pairwise_cons.1 h
    show List.filter _ _ = _
    rw [List.filter_cons_of_neg (by simp)]
    exact rm_no (fun y hy e => h1.1 y hy e.symm)
  | x :: L, i + 1, w, h, hi => by
    have h1 := List.pairwise_cons.1 h
    have hi' : L[i]? = some w := by simpa using hi
    have hx : x.who ≠ w.who := h1.1 w (List.mem_of_getElem? hi')
    show List.filter _ _ = _
    rw [List.filter_cons_of_pos (by simpa using hx), List.eraseIdx_cons_succ]
    congr 1
    exact rm_erase h1.2 hi'
theorem rm_len {L : List Wt} (h : Wd1 L) {w : Wt} (hw : w ∈ L) : (rmW L w.who).length + 1 = L.length := by
  obtain ⟨i, hi, rfl⟩ := List.getElem_of_mem hw
  rw [rm_erase h (List.getElem?_eq_getElem hi), List.length_eraseIdx, if_pos hi]; omega
theorem nd_le : ∀ (a b : List Int), a.Nodup → (∀ x ∈ a, x ∈ b) → a.length ≤ b.length
  | [], b, _, _ => Nat.zero_le _
  | x :: a, b, h, hs => by
    have h1 := List.nodup_cons.1 h
    have hx := hs x (List.mem_cons_self ..)
    have := nd_le a (b.erase x) h1.2 (fun y hy => (List.mem_erase_of_ne (fun e => h1.1 (by rw [← e]; exact hy))).2 (hs y (List.mem_cons_of_mem _ hy)))
    rw [List.length_erase_of_mem hx] at this
    have hb : 0 < b.length := List.length_pos_of_mem hx
    simp only [List.length_cons]; omega
theorem map_eraseW {α β : Type} (f : α → β) : ∀ (l : List α) (i : Nat), (l.eraseIdx i).map f = (l.map f).eraseIdx i
  | [], _ => rfl
  | _ :: _, 0 => rfl
  | x :: l, i + 1 => by simp only [List.eraseIdx_cons_succ, List.map_cons]; rw [map_eraseW f l i]
theorem qS_get {q : List (Int × Wt)} {i : Nat} (h : i < q.length) : (qS q)[i]? = some (qd q i).2 := by
  unfold qS qd; rw [List.getElem?_map, List.getD_eq_getElem?_getD, List.getElem?_eq_getElem h]; rfl
structure TbQ (most each : Int) (T : Nat) (L : List Wt) (F : Int → Option Rw) (sp : List (Int × Value)) : Prop where
  mo : 0 ≤ most ∧ most ≤ 4096
  ea : 0 ≤ each ∧ each ≤ 4096
  len : (L.length : Int) ≤ most
  wd : Wd1 L
  fn : ∀ key, F key = none → LF L key = []
  fs : ∀ key r, F key = some r → 0 < r.q.length ∧ qS r.q = LF L key ∧ r.tk ≤ T
  sk : (sp.map (·.1)).Nodup
  sl : sp.length = L.length
  si : ∀ key r i, F key = some r → i < r.q.length → aget sp (qd r.q i).2.who = some (vSp key (qd r.q i).1)
  sn : ∀ who, (∀ w ∈ L, w.who ≠ who) → aget sp who = none
structure TbH (L : List Wt) (S : List Hi) : Prop where
  hs : ∀ x ∈ S, ∃ w ∈ L, w.who = x.id ∧ w.til = x.V ∧ w.til ≠ 0#64
  hc : ∀ w ∈ L, w.til ≠ 0#64 → ∃ x ∈ S, x.id = w.who ∧ x.V = w.til
theorem mE_each {each : Int} (h : 0 ≤ each ∧ each ≤ 4096) : mE each = each := by unfold mE newAr; simp only; rw [if_neg (by omega), if_neg (by omega)]
theorem aput_lenN {m : List (Int × Value)} {a : Int} {v : Value} (h : aget m a = none) : (aput m a v).length = m.length + 1 := by
  induction m with
  | nil => rw [aput_nil]; rfl
  | cons x m ih =>
    obtain ⟨b, u⟩ := x
    rw [aget_cons] at h
    by_cases e : a = b
    · rw [if_pos e] at h; cases h
    · rw [if_neg e] at h
      rw [aput_cons, if_neg e, List.length_cons, List.length_cons, ih h]
theorem adel_lenS {m : List (Int × Value)} {a : Int} {v : Value} (h : aget m a = some v) : (adel m a).length + 1 = m.length := by
  induction m with
  | nil => rw [aget_nil] at h; cases h
  | cons x m ih =>
    obtain ⟨b, u⟩ := x
    rw [aget_cons] at h
    by_cases e : a = b
    · rw [adel_cons, if_pos e]; rfl
    · rw [if_neg e] at h
      rw [adel_cons, if_neg e, List.length_cons, List.length_cons, ih h]
def cntL (L : List Wt) (key : Int) : Nat := (LF L key).length
def entE (each : Int) (L : List Wt) (v : Wt) : Int := if each ≤ (cntL L v.key : Int) then 3 else 0
def entL (each : Int) (L : List Wt) (v : Wt) : List Wt := if each ≤ (cntL L v.key : Int) then L else L ++ [v]
theorem TbQ.mono {most each : Int} {T T' : Nat} {L : List Wt} {F : Int → Option Rw} {sp : List (Int × Value)} (h : TbQ most each T L F sp) (k : T ≤ T') : TbQ most each T' L F sp :=
  ⟨h.mo, h.ea, h.len, h.wd, h.fn, fun key r hr => ⟨(h.fs key r hr).1, (h.fs key r hr).2.1, by have := (h.fs key r hr).2.2; omega⟩, h.sk, h.sl, h.si, h.sn⟩
theorem TbQ.at {most each : Int} {T : Nat} {L : List Wt} {F : Int → Option Rw} {sp : List (Int × Value)} (h : TbQ most each T L F sp) {w : Wt} (hw : w ∈ L) : ∃ r i, F w.key = some r ∧ i < r.q.length ∧ (qd r.q i).2 = w ∧ aget sp w.who = some (vSp w.key (qd r.q i).1) := by
  have h1 : w ∈ LF L w.key := LF_mem.2 ⟨hw, rfl⟩
  cases hF : F w.key with
  | none => rw [h.fn _ hF] at h1; cases h1
  | some r =>
    obtain ⟨h2, h3, h4⟩ := h.fs _ r hF
    rw [← h3] at h1
    obtain ⟨i, hi, e⟩ := List.getElem_of_mem h1
    have hi' : i < r.q.length := by simpa using hi
    have e2 : (qd r.q i).2 = w := by
      have := qS_get hi'
      rw [List.getElem?_eq_getElem hi, e] at this; exact (Option.some.inj this).symm
    have h5 := h.si _ r i hF hi'
    rw [e2] at h5
    exact ⟨r, i, rfl, hi', e2, h5⟩
theorem TbQ.more {most each : Int} {T : Nat} {L : List Wt} {F : Int → Option Rw} {sp : List (Int × Value)} (h : TbQ most each T L F sp) {v : Wt} (hn : ∀ w ∈ L, w.who ≠ v.who) (hl : (L.length : Int) < most) {q : List (Int × Wt)} {tk : Int} {r' : Rw} (h1 : r'.q = q ++ [(tk + 1, v)]) (h2 : r'.tk = tk + 1)
    (hq : qS q = LF L v.key) (hqi : ∀ i, i < q.length → aget sp (qd q i).2.who = some (vSp v.key (qd q i).1)) (htk : tk ≤ T) :
    TbQ most each (T + 1) (L ++ [v]) (fset F v.key (some r')) (aput sp v.who (vSp v.key (tk + 1))) := by
  have hnone := h.sn v.who hn
  constructor
  case mo => exact h.mo
  case ea => exact h.ea
  case len => rw [List.length_append, List.length_singleton]; omega
  case wd => exact wd_snoc h.wd hn
  case fn =>
    intro key hk
    unfold fset at hk
    by_cases e : key = v.key
    · rw [if_pos e] at hk; cases hk
    · rw [if_neg e] at hk
      rw [LF_app, if_neg e]; exact h.fn key hk
  case fs =>
    intro key r hk
    unfold fset at hk
    rw [LF_app]
    by_cases e : key = v.key
    · rw [if_pos e] at hk; cases hk
      rw [if_pos e, e]
      rw [h1, h2]
      refine ⟨by simp, by unfold qS at *; rw [List.map_append, hq]; rfl, by omega⟩
    · rw [if_neg e] at hk
      rw [if_neg e]
      obtain ⟨k1, k2, k3⟩ := h.fs key r hk
      exact ⟨k1, k2, by omega⟩
  case sk => exact aputN' h.sk
  case sl => rw [aput_lenN hnone, List.length_append, List.length_singleton, h.sl]
  case si =>
    intro key r i hk hi
    unfold fset at hk
    rw [aget_aput]
    by_cases e : key = v.key
    · rw [if_pos e] at hk; cases hk
      rw [h1] at hi ⊢
      rw [List.length_append, List.length_singleton] at hi
      rw [qd_snoc]
      by_cases e2 : i = q.length
      · rw [if_pos e2, if_pos rfl, e]
      · rw [if_neg e2, if_neg ?_, e]; exact hqi i (by omega)
        have : (qd q i).2 ∈ LF L v.key := by rw [← hq]; exact List.mem_of_getElem? (qS_get (by omega))
        exact hn _ (LF_mem.1 this).1
    · rw [if_neg e] at hk
      rw [if_neg ?_]; exact h.si key r i hk hi
      have : (qd r.q i).2 ∈ LF L key := by rw [← (h.fs key r hk).2.1]; exact List.mem_of_getElem? (qS_get hi)
      exact hn _ (LF_mem.1 this).1
  case sn =>
    intro who hw
    have h1 := hw v (by simp)
    rw [aget_aput, if_neg (fun e => h1 e.symm)]
    exact h.sn who (fun w hwm => hw w (List.mem_append_left _ hwm))
theorem TbQ.less {most each : Int} {T : Nat} {L : List Wt} {F : Int → Option Rw} {sp : List (Int × Value)} (h : TbQ most each T L F sp) {r : Rw} {i : Nat} {key : Int} (hF : F key = some r) (hi : i < r.q.length) :
    TbQ most each T (rmW L (qd r.q i).2.who) (lvF F key r i) (adel sp (qd r.q i).2.who) := by
  obtain ⟨k1, k2, k3⟩ := h.fs key r hF
  have hwq : (qd r.q i).2 ∈ LF L key := by rw [← k2]; exact List.mem_of_getElem? (qS_get hi)
  have hwL := (LF_mem.1 hwq).1
  have hwk := (LF_mem.1 hwq).2
  have hlen := rm_len h.wd hwL
  have hqe : qS (r.q.eraseIdx i) = LF (rmW L (qd r.q i).2.who) key := by
    rw [LF_rm, ← k2, rm_erase (by rw [k2]; exact wd_lf h.wd key) (qS_get hi)]
    unfold qS; exact map_eraseW _ _ _
  have hother : ∀ k, k ≠ key → LF (rmW L (qd r.q i).2.who) k = LF L k := fun k hk => by
    rw [LF_rm]; refine rm_no (fun x hx e => hk ?_)
    have h1 := LF_mem.1 hx
    rw [← h1.2, wd_eq h.wd h1.1 hwL e, hwk]
  have hel : (r.q.eraseIdx i).length = r.q.length - 1 := by rw [List.length_eraseIdx, if_pos hi]
  have hcase : (lvF F key r i key = none ∧ r.q.length = 1) ∨ (lvF F key r i key = some { r with q := r.q.eraseIdx i } ∧ r.q.length ≠ 1) := by
    unfold lvF
    by_cases c : r.q.length = 1
    · rw [if_pos c]; exact .inl ⟨fset_at _ _ _, c⟩
    · rw [if_neg c]; exact .inr ⟨fset_at _ _ _, c⟩
  have hoth : ∀ k, k ≠ key → lvF F key r i k = F k := fun k hk => by
    unfold lvF; split <;> exact if_neg hk
  constructor
  case mo => exact h.mo
  case ea => exact h.ea
  case len => have := h.len; omega
  case wd => exact wd_rm h.wd _
  case fn =>
    intro k hk
    by_cases e : k = key
    · subst e
      rcases hcase with ⟨c1, c2⟩ | ⟨c1, c2⟩
      · rw [← hqe, List.eq_nil_of_length_eq_zero (l := r.q.eraseIdx i) (by omega)]; rfl
      · rw [c1] at hk; cases hk
    · rw [hoth k e] at hk; rw [hother k e]; exact h.fn k hk
  case fs =>
    intro k r' hk
    by_cases e : k = key
    · subst e
      rcases hcase with ⟨c1, c2⟩ | ⟨c1, c2⟩
      · rw [c1] at hk; cases hk
      · rw [c1] at hk; cases hk
        exact ⟨by show 0 < (r.q.eraseIdx i).length; omega, hqe, k3⟩
    · rw [hoth k e] at hk; rw [hother k e]; exact h.fs k r' hk
  case sk => exact adelN' h.sk
  case sl => have := adel_lenS (h.si key r i hF hi); have := h.sl; omega
  case si =>
    intro k r' j hk hj
    rw [aget_adel' h.sk]
    by_cases e : k = key
    · subst e
      rcases hcase with ⟨c1, c2⟩ | ⟨c1, c2⟩
      · rw [c1] at hk; cases hk
      · rw [c1] at hk; cases hk
        have hj' : j < (r.q.eraseIdx i).length := hj
        have hne : (qd (r.q.eraseIdx i) j).2.who ≠ (qd r.q i).2.who := by
          have : (qd (r.q.eraseIdx i) j).2 ∈ LF (rmW L (qd r.q i).2.who) k := by rw [← hqe]; exact List.mem_of_getElem? (qS_get hj')
          exact (rm_mem.1 (LF_mem.1 this).1).2
        show (if (qd (r.q.eraseIdx i) j).2.who = _ then _ else _) = _
        rw [if_neg hne]
        show aget sp (qd (r.q.eraseIdx i) j).2.who = some (vSp k (qd (r.q.eraseIdx i) j).1)
        rw [qd_erase]
        split
        · exact h.si k r j hF (by omega)
        · exact h.si k r (j + 1) hF (by omega)
    · rw [hoth k e] at hk
      have : (qd r'.q j).2 ∈ LF L k := by rw [← (h.fs k r' hk).2.1]; exact List.mem_of_getElem? (qS_get hj)
      rw [if_neg (fun z => e (by rw [← (LF_mem.1 this).2, wd_eq h.wd (LF_mem.1 this).1 hwL z, hwk]))]
      exact h.si k r' j hk hj
  case sn =>
    intro who hw
    rw [aget_adel' h.sk]
    by_cases e : who = (qd r.q i).2.who
    · rw [if_pos e]
    · rw [if_neg e]
      refine h.sn who (fun w hwm z => ?_)
      exact hw w (rm_mem.2 ⟨hwm, fun q => e (z.symm.trans q)⟩) z
theorem TbH.len {L : List Wt} {S : List Hi} (h : TbH L S) (hi : S.Pairwise (fun a b => a.id ≠ b.id)) : S.length ≤ L.length := by
  have := nd_le (S.map (·.id)) (L.map (·.who)) (by rw [List.nodup_iff_pairwise_ne, List.pairwise_map]; exact hi) (fun x hx => by
    obtain ⟨y, hy, rfl⟩ := List.mem_map.1 hx
    obtain ⟨w, hw, e, _⟩ := h.hs y hy
    exact List.mem_map.2 ⟨w, hw, e⟩)
  simpa using this
end Go.Eng
namespace Go.Eng
open Go Go.Proofs Go.RowKit
def TqM (most each : Int) (n0 T : Nat) (L : List Wt) (b bh : Nat) (m : Mem0) : Prop :=
  ∃ (ad : Option Addr) (n cap bs : Nat) (es : Array MapEntry) (cl : Nat) (F : Int → Option Rw) (R : Nat) (sp : List (Int × Value)) (mr : Mem0), m = tbC b ad n cap most each bs bh :: (bs, .map es cl) :: mr ∧ RoM each n0 n cap ad R F mr ∧ EnsS .i64 es cl sp ∧ n0 ≤ b ∧ n0 ≤ bs ∧ R ≤ T ∧ TbQ most each T L F sp
theorem TqM.ge {most each : Int} {n0 T b bh : Nat} {L : List Wt} {m : Mem0} (h : TqM most each n0 T L b bh m) : ∀ p ∈ m, n0 ≤ p.1 := by
  obtain ⟨ad, n, cap, bs, es, cl, F, R, sp, mr, rfl, hR, he, hb, hbs, hRT, hQ⟩ := h
  intro p hp
  simp only [List.mem_cons] at hp
  rcases hp with rfl | rfl | hp
  · exact hb
  · exact hbs
  · exact hR.ge p hp
theorem TqM.wlk {most each : Int} {n0 T b bh : Nat} {L : List Wt} {m : Mem0} (h : TqM most each n0 T L b bh m) : ∀ p ∈ m, Go.Eng.wlk p.2 = false := by
  obtain ⟨ad, n, cap, bs, es, cl, F, R, sp, mr, rfl, hR, he, hb, hbs, hRT, hQ⟩ := h
  exact wlk_h rfl rfl hR.wlk
theorem TqM.mono {most each : Int} {n0 n1 T b bh : Nat} {L : List Wt} {m : Mem0} (h : TqM most each n0 T L b bh m) (k : n1 ≤ n0) : TqM most each n1 T L b bh m := by
  obtain ⟨ad, n, cap, bs, es, cl, F, R, sp, mr, rfl, hR, he, hb, hbs, hRT, hQ⟩ := h
  exact ⟨ad, n, cap, bs, es, cl, F, R, sp, mr, rfl, hR.mono k, he, Nat.le_trans k hb, Nat.le_trans k hbs, hRT, hQ⟩
theorem TqM.tmono {most each : Int} {n0 T T' b bh : Nat} {L : List Wt} {m : Mem0} (h : TqM most each n0 T L b bh m) (k : T ≤ T') : TqM most each n0 T' L b bh m := by
  obtain ⟨ad, n, cap, bs, es, cl, F, R, sp, mr, e, hR, he, hb, hbs, hRT, hQ⟩ := h
  exact ⟨ad, n, cap, bs, es, cl, F, R, sp, mr, e, hR, he, hb, hbs, by omega, hQ.mono k⟩
theorem TqM.lim {most each : Int} {n0 T b bh : Nat} {L : List Wt} {m : Mem0} (h : TqM most each n0 T L b bh m) : (0 ≤ most ∧ most ≤ 4096) ∧ (0 ≤ each ∧ each ≤ 4096) ∧ (L.length : Int) ≤ most ∧ Wd1 L := by
  obtain ⟨ad, n, cap, bs, es, cl, F, R, sp, mr, rfl, hR, he, hb, hbs, hRT, hQ⟩ := h
  exact ⟨hQ.mo, hQ.ea, hQ.len, hQ.wd⟩
theorem qlen_cnt {most each : Int} {T : Nat} {L : List Wt} {F : Int → Option Rw} {sp : List (Int × Value)} (h : TbQ most each T L F sp) {key : Int} {r : Rw} (hF : F key = some r) : r.q.length = cntL L key := by
  unfold cntL; rw [← (h.fs key r hF).2.1]; unfold qS; rw [List.length_map]
theorem fset_id {F : Int → Option Rw} {key : Int} {r : Rw} (h : F key = some r) : fset F key (some r) = F := by
  funext k; unfold fset
  by_cases e : k = key
  · rw [if_pos e, e, h]
  · rw [if_neg e]
theorem tent_spec {most each : Int} {n0 T b bh : Nat} {L : List Wt} {m : Mem0} (v : Wt) (w : World) (h : TqM most each n0 T L b bh m) (hT : T ≤ 1000000000) (hn : ∀ x ∈ L, x.who ≠ v.who) (hl : (L.length : Int) < most) (hn0 : n0 ≤ w.heap.size) (hM : Mem w m) :
    Ret Try.prog 28 #[.pointer (some ⟨b, 0, none⟩), .agg (fWt v).toArray] w (Upd m (fun u m' => u = .int .i64 (entE each L v) ∧ TqM most each n0 (T + 1) (entL each L v) b bh m') w) := by
  obtain ⟨ad, n, cap, bs, es, cl, F, R, sp, mr, rfl, hR, he, hb, hbs, hRT, hQ⟩ := h
  have hmE := mE_each hQ.ea
  cases hF : F v.key with
  | some r =>
    obtain ⟨k1, k2, k3⟩ := hQ.fs _ r hF
    have hlen := qlen_cnt hQ hF
    refine (tenter_some v w hR he hF k1 (by omega) hn0 hM).mono (fun u w' hU => hU.imp (fun u m' ⟨e, es', cl', mr', hm', hR', he'⟩ => ?_))
    unfold foE foX foT at *
    rw [hmE, hlen] at *
    unfold entE entL
    by_cases c : each ≤ (cntL L v.key : Int)
    · rw [if_pos c] at e he'
      rw [if_pos c, if_pos c] at hR'
      rw [if_pos c, if_pos c]
      exact ⟨e, ad, n, cap, bs, es', cl', F, R, sp, mr', hm', by rw [← fset_id hF]; exact hR', he', hb, hbs, by omega, hQ.mono (by omega)⟩
    · rw [if_neg c] at e he'
      rw [if_neg c, if_neg c] at hR'
      rw [if_neg c, if_neg c]
      exact ⟨e, ad, n, cap, bs, es', cl', _, R, _, mr', hm', hR', he', hb, hbs, by omega, hQ.more hn hl rfl rfl k2 (fun i hi => hQ.si _ r i hF hi) k3⟩
  | none =>
    have hnil := hQ.fn _ hF
    have hcnt : cntL L v.key = 0 := by unfold cntL; rw [hnil]; rfl
    refine (tenter_none v w hR he hF (by omega) hn0 hM).mono (fun u w' hU => hU.imp (fun u m' ⟨e, b', es', cl', mr', hm', hR', he'⟩ => ?_))
    unfold foE entN at *
    rw [hmE] at *
    unfold entE entL
    rw [hcnt]
    by_cases c : each ≤ 0
    · rw [if_pos (show each ≤ ((0 : Nat) : Int) from c), if_pos (show each ≤ ((0 : Nat) : Int) from c)]
      rw [if_pos (show each ≤ (([] : List (Int × Wt)).length : Int) from c)] at e
      rw [if_pos c] at hR' he'
      exact ⟨e, ad, n, cap, bs, es', cl', F, R + 1, sp, mr', hm', hR', he', hb, hbs, by omega, hQ.mono (by omega)⟩
    · rw [if_neg (show ¬ each ≤ ((0 : Nat) : Int) from c), if_neg (show ¬ each ≤ ((0 : Nat) : Int) from c)]
      rw [if_neg (show ¬ each ≤ (([] : List (Int × Wt)).length : Int) from c)] at e
      rw [if_neg c] at hR' he'
      exact ⟨e, ad, n, cap, bs, es', cl', _, R + 1, _, mr', hm', hR', he', hb, hbs, by omega, hQ.more (q := []) (tk := 0) hn hl rfl rfl (by rw [hnil]; rfl) (fun i hi => by cases hi) (by omega)⟩
theorem tlv_spec {most each : Int} {n0 T b bh : Nat} {L : List Wt} {m : Mem0} (x : Wt) (w : World) (h : TqM most each n0 T L b bh m) (hx : x ∈ L) (hM : Mem w m) :
    Ret Try.prog 33 #[.pointer (some ⟨b, 0, none⟩), .int .i64 x.who] w (Upd m (fun u m' => u = .tuple #[.agg (fWt x).toArray, .bool true] ∧ TqM most each n0 T (rmW L x.who) b bh m') w) := by
  obtain ⟨ad, n, cap, bs, es, cl, F, R, sp, mr, rfl, hR, he, hb, hbs, hRT, hQ⟩ := h
  obtain ⟨r, i, hF, hi, hxi, hsp⟩ := hQ.at hx
  have hL := hQ.less hF hi
  rw [hxi] at hL
  by_cases c : r.q.length = 1
  · have k := tleave_last i w hR he hF hi c hsp hM
    rw [hxi] at k
    exact k.mono (fun u w' hU => hU.imp (fun u m' ⟨e, es', cl', mr', hm', hR', he'⟩ => ⟨e, ad, n, cap, bs, es', cl', _, R, _, mr', hm', hR', he', hb, hbs, hRT, hL⟩))
  · have k := tleave_more i w hR he hF hi c hsp hM
    rw [hxi] at k
    exact k.mono (fun u w' hU => hU.imp (fun u m' ⟨e, es', cl', mr', hm', hR', he'⟩ => ⟨e, ad, n, cap, bs, es', cl', _, R, _, mr', hm', hR', he', hb, hbs, hRT, hL⟩))
def TbM (most each : Int) (n0 T : Nat) (L : List Wt) (b : Nat) (m : Mem0) : Prop := ∃ bh S mq mh, m = mq ++ mh ∧ TqM most each n0 T L b bh mq ∧ HoM 4096 n0 bh S mh ∧ TbH L S
theorem TbM.ge {most each : Int} {n0 T b : Nat} {L : List Wt} {m : Mem0} (h : TbM most each n0 T L b m) : ∀ p ∈ m, n0 ≤ p.1 := by
  obtain ⟨bh, S, mq, mh, rfl, h1, h2, h3⟩ := h
  intro p hp
  rcases List.mem_append.1 hp with hp | hp
  · exact h1.ge p hp
  · exact h2.ge p hp
theorem TbM.wlk {most each : Int} {n0 T b : Nat} {L : List Wt} {m : Mem0} (h : TbM most each n0 T L b m) : ∀ p ∈ m, Go.Eng.wlk p.2 = false := by
  obtain ⟨bh, S, mq, mh, rfl, h1, h2, h3⟩ := h
  intro p hp
  rcases List.mem_append.1 hp with hp | hp
  · exact h1.wlk p hp
  · exact h2.wlk p hp
theorem TbM.mono {most each : Int} {n0 n1 T b : Nat} {L : List Wt} {m : Mem0} (h : TbM most each n0 T L b m) (k : n1 ≤ n0) : TbM most each n1 T L b m := by
  obtain ⟨bh, S, mq, mh, e, h1, h2, h3⟩ := h
  exact ⟨bh, S, mq, mh, e, h1.mono k, h2.mono k, h3⟩
theorem TbM.tmono {most each : Int} {n0 T T' b : Nat} {L : List Wt} {m : Mem0} (h : TbM most each n0 T L b m) (k : T ≤ T') : TbM most each n0 T' L b m := by
  obtain ⟨bh, S, mq, mh, e, h1, h2, h3⟩ := h
  exact ⟨bh, S, mq, mh, e, h1.tmono k, h2, h3⟩
theorem TbM.lim {most each : Int} {n0 T b : Nat} {L : List Wt} {m : Mem0} (h : TbM most each n0 T L b m) : (0 ≤ most ∧ most ≤ 4096) ∧ (0 ≤ each ∧ each ≤ 4096) ∧ (L.length : Int) ≤ most ∧ Wd1 L := by
  obtain ⟨bh, S, mq, mh, e, h1, h2, h3⟩ := h; exact h1.lim
end Go.Eng
namespace Go.Eng
open Go Go.Proofs Go.RowKit
theorem tb_fin {most each : Int} {n0 T' b bh : Nat} {L' : List Wt} {S' : List Hi} {mq mh mq' mh' M : Mem0} {u0 : Value} {w w' : World} (hq : TqM most each n0 T' L' b bh mq') (hS : HoM 4096 n0 bh S' mh') (hH : TbH L' S') (hm : Mem w' M) (hs : SubM M (mq' ++ (mh' ++ []))) (hc : Chg (inM (mq ++ mh)) w w') (h1 : inn mq w.heap.size mq') (h2 : inn mh w.heap.size mh') :
    Upd (mq ++ mh) (fun u m' => u = u0 ∧ TbM most each n0 T' L' b m') w u0 w' := by
  rw [List.append_nil] at hs
  refine ⟨hc, _, ⟨rfl, bh, S', mq', mh', rfl, hq, hS, hH⟩, hs.mem w' hm, fun p hp => ?_⟩
  rcases List.mem_append.1 hp with hp | hp
  · exact (h1 p hp).imp id (fun ⟨q, hq, e⟩ => ⟨q, List.mem_append_left _ hq, e⟩)
  · exact (h2 p hp).imp id (fun ⟨q, hq, e⟩ => ⟨q, List.mem_append_right _ hq, e⟩)
theorem tbh_same {L : List Wt} {S : List Hi} (h : TbH L S) {v : Wt} (hz : v.til = 0#64) : TbH (L ++ [v]) S :=
  ⟨fun x hx => by obtain ⟨w, hw, k⟩ := h.hs x hx; exact ⟨w, List.mem_append_left _ hw, k⟩, fun w hw hne => by
    rcases List.mem_append.1 hw with hw | hw
    · exact h.hc w hw hne
    · rw [List.mem_singleton] at hw; subst hw; exact absurd hz hne⟩
theorem tbh_push {L : List Wt} {S : List Hi} (h : TbH L S) {v : Wt} (hz : v.til ≠ 0#64) : TbH (L ++ [v]) (insS ⟨v.til, v.who, v.key⟩ S) :=
  ⟨fun x hx => by
    rcases List.mem_cons.1 ((insS_perm _ S).mem_iff.1 hx) with e | hx
    · subst e; exact ⟨v, by simp, rfl, rfl, hz⟩
    · obtain ⟨w, hw, k⟩ := h.hs x hx; exact ⟨w, List.mem_append_left _ hw, k⟩, fun w hw hne => by
    rcases List.mem_append.1 hw with hw | hw
    · obtain ⟨x, hx, k⟩ := h.hc w hw hne; exact ⟨x, (insS_perm _ S).mem_iff.2 (List.mem_cons_of_mem _ hx), k⟩
    · rw [List.mem_singleton] at hw; subst hw; exact ⟨_, (insS_perm _ S).mem_iff.2 (List.mem_cons_self ..), rfl, rfl⟩⟩
theorem tbh_rm {L : List Wt} {S : List Hi} (h : TbH L S) (who : Int) : TbH (rmW L who) (S.filter (fun y => y.id ≠ who)) :=
  ⟨fun x hx => by
    rw [List.mem_filter] at hx
    obtain ⟨w, hw, e, k⟩ := h.hs x hx.1
    exact ⟨w, rm_mem.2 ⟨hw, by rw [e]; exact of_decide_eq_true hx.2⟩, e, k⟩, fun w hw hne => by
    obtain ⟨h1, h2⟩ := rm_mem.1 hw
    obtain ⟨x, hx, e, k⟩ := h.hc w h1 hne
    exact ⟨x, List.mem_filter.2 ⟨hx, decide_eq_true (by rw [e]; exact h2)⟩, e, k⟩⟩
def wtE (most each : Int) (L : List Wt) (v : Wt) : Int := if ∃ x ∈ L, x.who = v.who then 12 else if most ≤ (L.length : Int) then 3 else entE each L v
def wtL (most each : Int) (L : List Wt) (v : Wt) : List Wt := if ∃ x ∈ L, x.who = v.who then L else if most ≤ (L.length : Int) then L else entL each L v
set_option maxRecDepth 100000 in
theorem twait_met {most each : Int} {n cap b bs bh cl : Nat} {ad : Option Addr} {es : Array MapEntry} {sp : List (Int × Value)} {key tk : Int} (v : Wt) (w : World) (he : EnsS .i64 es cl sp) (hw0 : aget sp v.who = some (vSp key tk)) (hM : Mem w (tbC b ad n cap most each bs bh :: (bs, .map es cl) :: [])) : Ret Try.prog 8 #[.pointer (some ⟨b, 0, none⟩), .agg (fWt v).toArray] w (fun u w' => u = .int .i64 12 ∧ Ext w w') := by
 have he1 := he.1
 refine Ret.enterM (l := [.pointer (some ⟨b, 0, none⟩), .agg (fWt v).toArray]) Try.func8 rfl Try.ntmps8 rfl (tbC b ad n cap most each bs bh :: (bs, .map es cl) :: []) (no) hM ?_
 refine wpM.seq (wpM.region ?_)
 refine LM.box rfl rfl (fun b3 hb3 => ?_)
 refine LM.as rfl ?_
 refine LM.nil (QM.sub (e' := [(0, _), (3, _)]) au9 (QM.then ?_))
 refine wpM.seq ?_
 refine wpM.seq (wpM.region ?_)
 refine LM.mv rfl ?_
 refine LM.val (ov_peql (by kernel_rfl) rfl rfl) ?_
 refine LM.nil (QM.sub (e' := [(0, _), (3, _), (9, _)]) au9 (QM.then ?_))
 refine wpM.condF rfl ?_
 refine wpM.skip ?_
 refine QM.then ?_
 refine wpM.seq ?_
 refine wpM.seq ?_
 refine wpM.keep (tbC b ad n cap most each bs bh :: (bs, .map es cl) :: (b3, .cells (fWt v).toArray 32 (0, 0)) :: []) (fun _ => True) (.one 0 0 (.one 1 0 (.one 2 0 (.one 3 1 (.one 4 0 (.one 5 1 (.one 6 1 (.one 7 0 (.one 8 0 (.one 9 0 (.one 10 2 (.one 11 2 (.one 12 0 .nil))))))))))))) (by kernel_rfl) (by kernel_rfl) au1 (fun _ _ => trivial) ?_
 refine KD.val rfl rfl (ov_move rfl) ?_
 refine KD.val rfl rfl (ov_nilCheck rfl) ?_
 refine KD.val rfl rfl (ov_field Try.underlying62 rfl Try.sizeOf58 rfl (k := 3) rfl rfl) ?_
 refine KD.rd rfl rfl (om_ld Try.isAgg58 rfl rfl) ?_
 refine KD.val rfl rfl (ov_field Try.underlying32 rfl Try.sizeOf3 rfl (k := 0) rfl rfl) ?_
 refine KD.rd rfl rfl (om_ld Try.isAgg3 rfl rfl) ?_
 refine KD.rd rfl rfl (om_lkOk Try.underlying58 Try.underlying3 Try.zeroValue64 rfl rfl (by assumption) (getD_some9 hw0) (has_some' hw0)) ?_
 refine KD.val rfl rfl (ov_move rfl) ?_
 refine KD.val rfl rfl (ov_extract rfl rfl) ?_
 refine KD.val rfl rfl (ov_extract rfl rfl) ?_
 refine KD.one rfl ?_
 refine LM.alloc Try.zeroValue64 rfl (fun b5 hb5 => ?_)
 refine LM.nil ?_
 refine QM.one au1 (fun _ _ => trivial) ?_
 refine KD.one rfl ?_
 refine LM.stW Try.sizeOf64 rfl rfl rfl rfl au7 (fun hlt => by first | exact inM_0 | exact inM_1 | exact absurd hlt (by omega)) ?_
 refine LM.nil ?_
 refine QM.one au1 (fun _ _ => trivial) ?_
 refine KD.val rfl rfl (ov_assign rfl) ?_
 refine KD.nil ?_
 refine QM.sub (e' := [(0, _), (3, _), (6, _)]) au9 (QM.then (wpM.seq (wpM.region ?_)))
 refine LM.mv rfl ?_
 refine LM.nil (QM.sub (e' := [(0, _), (3, _), (20, _)]) au9 (QM.then ?_))
 first | refine wpM.condD rfl (fun h1 => ?_) (fun h1 => ?_) | refine wpM.condB rfl (fun h1 => ?_) (fun h1 => ?_)
 ·
  refine wpM.seq (wpM.region ?_)
  refine LM.as rfl ?_
  refine LM.nil (QM.sub (e' := [(4, _)]) ⟨rfl, trivial⟩ (QM.then ?_))
  refine wpM.ret ?_
  refine QM.then_ret ?_
  refine QM.leave (.inl rfl) [.tmp 4] Try.results8 rfl ?_
  intro w' hm' hc' hg'
  exact ⟨rfl, hc'⟩
 cases h1
set_option maxRecDepth 100000 in
theorem twait_new {most each : Int} {n0 T b bh : Nat} {L : List Wt} {S : List Hi} {mq mh : Mem0} (v : Wt) (w : World) (hTq : TqM most each n0 T L b bh mq) (hT : T ≤ 1000000000) (hS : HoM 4096 n0 bh S mh) (hH : TbH L S) (hnw : ∀ x ∈ L, x.who ≠ v.who) (hn0 : n0 ≤ w.heap.size) (hM : Mem w (mq ++ mh)) : Ret Try.prog 8 #[.pointer (some ⟨b, 0, none⟩), .agg (fWt v).toArray] w (Upd (mq ++ mh) (fun u m' => u = .int .i64 (wtE most each L v) ∧ TbM most each n0 (T + 1) (wtL most each L v) b m') w) := by
 have hQ0 := hTq; obtain ⟨ad, n, cap, bs, es, cl, F, R, sp, mr, rfl, hR, he, hb, hbs, hRT, hQ⟩ := hTq; have he1 := he.1; have hw0 := hQ.sn v.who hnw; have hno : ¬ ∃ x ∈ L, x.who = v.who := (fun ⟨x, hx, e⟩ => hnw x hx e); have hsl := hQ.sl
 refine Ret.enterM (l := [.pointer (some ⟨b, 0, none⟩), .agg (fWt v).toArray]) Try.func8 rfl Try.ntmps8 rfl (tbC b ad n cap most each bs bh :: (bs, .map es cl) :: (mr ++ (mh ++ []))) ((inM ((tbC b ad n cap most each bs bh :: (bs, .map es cl) :: mr) ++ mh))) (by rw [List.append_nil]; exact hM) ?_
 refine wpM.seq (wpM.region ?_)
 refine LM.box rfl rfl (fun b3 hb3 => ?_)
 refine LM.as rfl ?_
 refine LM.nil (QM.sub (e' := [(0, _), (3, _)]) au9 (QM.then ?_))
 refine wpM.seq ?_
 refine wpM.seq (wpM.region ?_)
 refine LM.mv rfl ?_
 refine LM.val (ov_peql (by kernel_rfl) rfl rfl) ?_
 refine LM.nil (QM.sub (e' := [(0, _), (3, _), (9, _)]) au9 (QM.then ?_))
 refine wpM.condF rfl ?_
 refine wpM.skip ?_
 refine QM.then ?_
 refine wpM.seq ?_
 refine wpM.seq ?_
 refine wpM.keep (tbC b ad n cap most each bs bh :: (bs, .map es cl) :: (b3, .cells (fWt v).toArray 32 (0, 0)) :: []) (fun _ => True) (.one 0 0 (.one 1 0 (.one 2 0 (.one 3 1 (.one 4 0 (.one 5 1 (.one 6 1 (.one 7 0 (.one 8 0 (.one 9 0 (.one 10 2 (.one 11 2 (.one 12 0 .nil))))))))))))) (by kernel_rfl) (by kernel_rfl) au1 (fun _ _ => trivial) ?_
 refine KD.val rfl rfl (ov_move rfl) ?_
 refine KD.val rfl rfl (ov_nilCheck rfl) ?_
 refine KD.val rfl rfl (ov_field Try.underlying62 rfl Try.sizeOf58 rfl (k := 3) rfl rfl) ?_
 refine KD.rd rfl rfl (om_ld Try.isAgg58 rfl rfl) ?_
 refine KD.val rfl rfl (ov_field Try.underlying32 rfl Try.sizeOf3 rfl (k := 0) rfl rfl) ?_
 refine KD.rd rfl rfl (om_ld Try.isAgg3 rfl rfl) ?_
 refine KD.rd rfl rfl (om_lkOk Try.underlying58 Try.underlying3 Try.zeroValue64 rfl rfl (by assumption) (getD_none9 hw0) (has_none' hw0)) ?_
 refine KD.val rfl rfl (ov_move rfl) ?_
 refine KD.val rfl rfl (ov_extract rfl rfl) ?_
 refine KD.val rfl rfl (ov_extract rfl rfl) ?_
 refine KD.one rfl ?_
 refine LM.alloc Try.zeroValue64 rfl (fun b5 hb5 => ?_)
 refine LM.nil ?_
 refine QM.one au1 (fun _ _ => trivial) ?_
 refine KD.one rfl ?_
 refine LM.stW Try.sizeOf64 rfl rfl rfl rfl au7 (fun hlt => by first | exact inM_0 | exact inM_1 | exact absurd hlt (by omega)) ?_
 refine LM.nil ?_
 refine QM.one au1 (fun _ _ => trivial) ?_
 refine KD.val rfl rfl (ov_assign rfl) ?_
 refine KD.nil ?_
 refine QM.sub (e' := [(0, _), (3, _), (6, _)]) au9 (QM.then (wpM.seq (wpM.region ?_)))
 refine LM.mv rfl ?_
 refine LM.nil (QM.sub (e' := [(0, _), (3, _), (20, _)]) au9 (QM.then ?_))
 first | refine wpM.condD rfl (fun h1 => ?_) (fun h1 => ?_) | refine wpM.condB rfl (fun h1 => ?_) (fun h1 => ?_)
 ·
  cases h1
 refine wpM.skip ?_
 refine QM.then ?_
 refine wpM.seq ?_
 refine wpM.seq ?_
 refine wpM.draw [(0, 0), (1, 0), (2, 0), (3, 1), (4, 1), (5, 0), (6, 0), (7, 0), (8, 1), (9, 0)] (by kernel_rfl) (by kernel_rfl) ?_
 refine LD.val rfl rfl (ov_move rfl) ?_
 refine LD.val rfl rfl (ov_nilCheck rfl) ?_
 refine LD.val rfl rfl (ov_field Try.underlying62 rfl Try.sizeOf58 rfl (k := 3) rfl rfl) ?_
 refine LD.rd rfl rfl (om_ld Try.isAgg58 rfl rfl) ?_
 refine LD.rd rfl rfl (om_mlen Try.underlying58 rfl (by assumption) rfl) ?_
 refine LD.val rfl rfl (ov_move rfl) ?_
 refine LD.val rfl rfl (ov_nilCheck rfl) ?_
 refine LD.val rfl rfl (ov_field Try.underlying62 rfl Try.sizeOf3 rfl (k := 1) rfl rfl) ?_
 refine LD.rd rfl rfl (om_ld Try.isAgg3 rfl rfl) ?_
 refine LD.val rfl rfl (ov_geq rfl rfl) ?_
 refine LD.nil ?_
 refine QM.sub (e' := [(0, _), (3, _), (30, _)]) au9 (QM.then ?_)
 refine wpM.condD rfl (fun h2 => ?_) (fun h2 => ?_)
 ·
  refine wpM.seq (wpM.region ?_)
  refine LM.as rfl ?_
  refine LM.nil (QM.sub (e' := [(4, _)]) ⟨rfl, trivial⟩ (QM.then ?_))
  refine wpM.ret ?_
  refine QM.then_ret ?_
  refine QM.leave (.inl rfl) [.tmp 4] Try.results8 rfl ?_
  intro w' hm' hc' hg'
  rw [show wtE most each L v = 3 by (unfold wtE; rw [if_neg hno, if_pos (by omega)]), show wtL most each L v = L by (unfold wtL; rw [if_neg hno, if_pos (by omega)])]; exact tb_fin (hQ0.tmono (Nat.le_succ _)) hS hH hm' (by (repeat' (first | exact SubM.nil _ | refine SubM.cons (by rfl) ?_ | refine SubM.app ?_))) hc' (inn_refl _ _) (inn_refl _ _)
 refine wpM.skip ?_
 refine QM.then (wpM.seq (wpM.region ?_))
 refine LM.mv rfl ?_
 refine LM.rd (om_ldW Try.isAgg32 Try.sizeOf32 rfl rfl) ?_
 refine LM.cU (oc_call (enters_fn Try.func28 (by kernel_rfl) rfl) rfl) (fun w hm hc hg => tent_spec v w hQ0 hT hnw (by omega) (Nat.le_trans hn0 hc.size) (hm.pick (tbC b ad n cap most each bs bh :: (bs, .map es cl) :: mr))) hQ0.wlk (fun p hp _ => inM_al p hp) ?_
 rintro u33 m33 ⟨rfl, h33⟩ hin33; have hQ3 := h33; obtain ⟨ad3, n3, cap3, bs3, es3, cl3, F3, R3, sp3, mr3, rfl, hR3, he3, hb3, hbs3, hRT3, hQ3'⟩ := h33
 refine LM.as rfl ?_
 refine LM.nil (QM.sub (e' := [(0, _), (3, _), (7, _)]) au9 (QM.then ?_))
 refine wpM.seq ?_
 refine wpM.seq (wpM.region ?_)
 refine LM.mv rfl ?_
 refine LM.val (ov_eql rfl rfl) ?_
 refine LM.mv rfl ?_
 refine LM.splitD (t := 36) rfl (fun h3 => ?_) (fun h3 => ?_)
 ·
  refine LM.sp 36 rfl rfl rfl (LM.val (ov_field Try.underlying32 rfl Try.sizeOf30 rfl (k := 2) rfl rfl) (LM.sp 36 rfl rfl rfl ?_))
  refine LM.rd (om_ld Try.isAgg30 rfl rfl) ?_
  refine LM.sp 36 rfl rfl rfl ?_
  refine LM.val (ov_uneq (b := 0#64) rfl rfl) ?_
  refine LM.val (ov_pickT rfl rfl) ?_
  refine LM.nil (QM.sub (e' := [(0, _), (3, _), (7, _), (40, _)]) au9 (QM.then ?_))
  refine wpM.condD rfl (fun h4 => ?_) (fun h4 => ?_)
  ·
   refine wpM.draw [(0, 0), (1, 0), (2, 0), (3, 1), (4, 0), (5, 1), (6, 0), (7, 1), (8, 0), (9, 0), (10, 1), (11, 3)] (by kernel_rfl) (by kernel_rfl) ?_
   refine LD.val rfl rfl (ov_move rfl) ?_
   refine LD.val rfl rfl (ov_nilCheck rfl) ?_
   refine LD.val rfl rfl (ov_field Try.underlying62 rfl Try.sizeOf59 rfl (k := 4) rfl rfl) ?_
   refine LD.rd rfl rfl (om_ld Try.isAgg59 rfl rfl) ?_
   refine LD.val rfl rfl (ov_field Try.underlying32 rfl Try.sizeOf30 rfl (k := 2) rfl rfl) ?_
   refine LD.rd rfl rfl (om_ld Try.isAgg30 rfl rfl) ?_
   refine LD.val rfl rfl (ov_field Try.underlying32 rfl Try.sizeOf3 rfl (k := 0) rfl rfl) ?_
   refine LD.rd rfl rfl (om_ld Try.isAgg3 rfl rfl) ?_
   refine LD.val rfl rfl (ov_build (cs := #[_, _]) rfl (by first | rfl | kernel_rfl)) ?_
   refine LD.val rfl rfl (ov_field Try.underlying32 rfl Try.sizeOf3 rfl (k := 1) rfl rfl) ?_
   refine LD.rd rfl rfl (om_ld Try.isAgg3 rfl rfl) ?_
   refine LD.tail rfl rfl ?_
   refine LM.cU (oc_call (enters_fn Try.func29 (by kernel_rfl) rfl) rfl) (fun w hm hc hg => hopush_spec ⟨v.til, v.who, v.key⟩ w hS (Nat.le_trans hn0 hc.size) (hm.pick mh)) hS.wlk (fun p hp _ => inM_ar p hp) ?_
   rintro u52 m52 ⟨rfl, h52⟩ hin52
   refine LM.nil ?_
   refine QM.qn ?_
   refine QM.sub (e' := [(7, _)]) ⟨rfl, trivial⟩ (QM.then (wpM.seq (wpM.region ?_)))
   refine LM.mv rfl (LM.as rfl ?_)
   refine LM.nil (QM.sub (e' := [(4, _)]) ⟨rfl, trivial⟩ (QM.then ?_))
   refine wpM.ret ?_
   refine QM.leave (.inl rfl) [.tmp 4] Try.results8 rfl ?_
   intro w' hm' hc' hg'
   have hE : ¬ each ≤ (cntL L v.key : Int) := (by intro z; unfold entE at h3; rw [if_pos z] at h3; exact absurd h3 (by decide)); have hI := hH.len hS.ids; have hlm := hS.len; have hmo := hQ.mo; have hz : v.til ≠ 0#64 := h4; rw [show wtE most each L v = entE each L v by (unfold wtE; rw [if_neg hno, if_neg (by omega)]), show wtL most each L v = L ++ [v] by (unfold wtL entL; rw [if_neg hno, if_neg (by omega), if_neg hE])]; rw [show entL each L v = L ++ [v] from if_neg hE] at hQ3; rw [show hoX 4096 S ⟨v.til, v.who, v.key⟩ = insS ⟨v.til, v.who, v.key⟩ S by (unfold hoX; rw [if_neg (fun ⟨y, hy, e⟩ => by obtain ⟨x, hx, e2, _⟩ := hH.hs y hy; exact hnw x hx (e2.trans e)), if_neg (by omega)])] at h52; exact tb_fin hQ3 h52 (tbh_push hH hz) hm' (by (repeat' (first | exact SubM.nil _ | refine SubM.cons (by rfl) ?_ | refine SubM.app ?_))) hc' hin33 hin52
  refine wpM.skip ?_
  refine QM.then (wpM.seq (wpM.region ?_))
  refine LM.mv rfl (LM.as rfl ?_)
  refine LM.nil (QM.sub (e' := [(4, _)]) ⟨rfl, trivial⟩ (QM.then ?_))
  refine wpM.ret ?_
  refine QM.leave (.inl rfl) [.tmp 4] Try.results8 rfl ?_
  intro w' hm' hc' hg'
  have hE : ¬ each ≤ (cntL L v.key : Int) := (by intro z; unfold entE at h3; rw [if_pos z] at h3; exact absurd h3 (by decide)); have hz : v.til = 0#64 := (by simpa using h4); rw [show wtE most each L v = entE each L v by (unfold wtE; rw [if_neg hno, if_neg (by omega)]), show wtL most each L v = L ++ [v] by (unfold wtL entL; rw [if_neg hno, if_neg (by omega), if_neg hE])]; rw [show entL each L v = L ++ [v] from if_neg hE] at hQ3; exact tb_fin hQ3 hS (tbh_same hH hz) hm' (by (repeat' (first | exact SubM.nil _ | refine SubM.cons (by rfl) ?_ | refine SubM.app ?_))) hc' hin33 (inn_refl _ _)
 refine LM.dr 36 rfl rfl rfl (LM.dr 36 rfl rfl rfl (LM.dr 36 rfl rfl rfl ?_))
 refine LM.val (ov_pickF rfl rfl) ?_
 refine LM.nil (QM.sub (e' := [(0, _), (3, _), (7, _), (40, _)]) au9 (QM.then ?_))
 refine wpM.condF rfl ?_
 refine wpM.skip ?_
 refine QM.then (wpM.seq (wpM.region ?_))
 refine LM.mv rfl (LM.as rfl ?_)
 refine LM.nil (QM.sub (e' := [(4, _)]) ⟨rfl, trivial⟩ (QM.then ?_))
 refine wpM.ret ?_
 refine QM.leave (.inl rfl) [.tmp 4] Try.results8 rfl ?_
 intro w' hm' hc' hg'
 have hE : each ≤ (cntL L v.key : Int) := (by apply Classical.byContradiction; intro z; unfold entE at h3; rw [if_neg z] at h3; exact absurd rfl h3); rw [show wtE most each L v = entE each L v by (unfold wtE; rw [if_neg hno, if_neg (by omega)]), show wtL most each L v = L by (unfold wtL entL; rw [if_neg hno, if_neg (by omega), if_pos hE])]; rw [show entL each L v = L from if_pos hE] at hQ3; exact tb_fin hQ3 hS hH hm' (by (repeat' (first | exact SubM.nil _ | refine SubM.cons (by rfl) ?_ | refine SubM.app ?_))) hc' hin33 (inn_refl _ _)
end Go.Eng
namespace Go.Eng
open Go Go.Proofs Go.RowKit
theorem twait_spec {most each : Int} {n0 T b : Nat} {L : List Wt} {m : Mem0} (v : Wt) (w : World) (h : TbM most each n0 T L b m) (hT : T ≤ 1000000000) (hn0 : n0 ≤ w.heap.size) (hM : Mem w m) :
    Ret Try.prog 8 #[.pointer (some ⟨b, 0, none⟩), .agg (fWt v).toArray] w (Upd m (fun u m' => u = .int .i64 (wtE most each L v) ∧ TbM most each n0 (T + 1) (wtL most each L v) b m') w) := by
  have h0 := h
  obtain ⟨bh, S, mq, mh, rfl, h1, h2, h3⟩ := h
  by_cases c : ∃ x ∈ L, x.who = v.who
  · obtain ⟨x, hx, e⟩ := c
    obtain ⟨ad, n, cap, bs, es, cl, F, R, sp, mr, rfl, hR, he, hb, hbs, hRT, hQ⟩ := h1
    obtain ⟨r, i, hF, hi, hxi, hsp⟩ := hQ.at hx
    rw [e] at hsp
    refine (twait_met v w he hsp (hM.sub ((List.nil_sublist _).cons_cons _ |>.cons_cons _))).mono (fun u w' ⟨hu, hc⟩ => ?_)
    have hc' : ∃ x ∈ L, x.who = v.who := ⟨x, hx, e⟩
    rw [show wtE most each L v = 12 from if_pos hc', show wtL most each L v = L from if_pos hc']
    exact ⟨hc.chg, _, ⟨hu, h0.tmono (Nat.le_succ _)⟩, hM.ext hc, fun p hp => .inr ⟨p, hp, rfl⟩⟩
  · exact twait_new v w h1 hT h2 h3 (fun x hx e => c ⟨x, hx, e⟩) hn0 hM
set_option maxRecDepth 100000 in
theorem tcancel_t {most each : Int} {n0 T b bh : Nat} {L : List Wt} {S : List Hi} {mq mh : Mem0} (x : Wt) (w : World) (hTq : TqM most each n0 T L b bh mq) (hS : HoM 4096 n0 bh S mh) (hH : TbH L S) (hx : x ∈ L) (hz : x.til ≠ 0#64) (hM : Mem w (mq ++ mh)) : Ret Try.prog 13 #[.pointer (some ⟨b, 0, none⟩), .int .i64 x.who] w (Upd (mq ++ mh) (fun u m' => u = .tuple #[.agg (fWt x).toArray, .bool true] ∧ TbM most each n0 T (rmW L x.who) b m') w) := by
 obtain ⟨y, hyS, hyi, hyV⟩ := hH.hc x hx hz
 refine Ret.enterM (l := [.pointer (some ⟨b, 0, none⟩), .int .i64 x.who]) Try.func13 rfl Try.ntmps13 rfl (mq ++ (mh ++ [])) ((inM (mq ++ mh))) (by rw [List.append_nil]; exact hM) ?_
 refine wpM.seq (wpM.region ?_)
 refine LM.alloc Try.zeroValue32 rfl (fun b4 hb4 => ?_)
 refine LM.as rfl ?_
 refine LM.nil (QM.sub (e' := [(0, _), (1, _), (4, _)]) au9 (QM.then (wpM.seq (wpM.region ?_))))
 refine LM.mv rfl (LM.mv rfl ?_)
 refine LM.cU (oc_call (enters_fn Try.func33 (by kernel_rfl) rfl) rfl) (fun w hm hc hg => tlv_spec x w hTq hx (hm.pick mq)) hTq.wlk (fun p hp _ => inM_al p hp) ?_
 rintro u11 m11 ⟨rfl, h11⟩ hin11; have hQ3 := h11; obtain ⟨ad3, n3, cap3, bs3, es3, cl3, F3, R3, sp3, mr3, rfl, hR3, he3, hb3, hbs3, hRT3, hQ3'⟩ := h11
 refine LM.mv rfl ?_
 refine LM.val (ov_extract rfl rfl) ?_
 refine LM.val (ov_extract rfl rfl) ?_
 refine LM.alloc Try.zeroValue32 rfl (fun b6 hb6 => ?_)
 refine LM.stW Try.sizeOf32 rfl rfl rfl rfl au7 (fun hlt => by first | exact inM_0 | exact inM_1 | exact absurd hlt (by omega)) ?_
 refine LM.as rfl ?_
 refine LM.nil (QM.sub (e' := [(0, _), (1, _), (4, _), (6, _), (7, _)]) au9 (QM.then ?_))
 refine wpM.seq ?_
 refine wpM.seq (wpM.region ?_)
 refine LM.mv rfl ?_
 refine LM.nil (QM.sub (e' := [(0, _), (1, _), (4, _), (6, _), (7, _), (14, _)]) au9 (QM.then ?_))
 first | refine wpM.condD rfl (fun h1 => ?_) (fun h1 => ?_) | refine wpM.condB rfl (fun h1 => ?_) (fun h1 => ?_)
 ·
  refine wpM.region ?_
  refine LM.mv rfl ?_
  refine LM.val (ov_nilCheck rfl) ?_
  refine LM.val (ov_field Try.underlying62 rfl Try.sizeOf59 rfl (k := 4) rfl rfl) ?_
  refine LM.rd (om_ld Try.isAgg59 rfl rfl) ?_
  refine LM.mv rfl ?_
  refine LM.cU (oc_call (enters_fn Try.func34 (by kernel_rfl) rfl) rfl) (fun w hm hc hg => (by have k := horemove_yes y w hS hyS (hm.pick mh); rw [hyi] at k; exact k)) hS.wlk (fun p hp _ => inM_ar p hp) ?_
  rintro u20 m20 ⟨rfl, h20⟩ hin20
  refine LM.nil (QM.sub (e' := [(4, _), (6, _), (7, _)]) au9 (QM.then (wpM.seq (wpM.region ?_))))
  refine LM.rd (om_ldW Try.isAgg32 Try.sizeOf32 rfl rfl) ?_
  refine LM.mv rfl ?_
  refine LM.stW Try.sizeOf32 rfl rfl rfl rfl au7 (fun hlt => by first | exact inM_0 | exact inM_1 | exact absurd hlt (by omega)) ?_
  refine LM.as rfl ?_
  refine LM.nil (QM.sub (e' := [(4, _), (5, _)]) au9 (QM.then ?_))
  refine wpM.ret ?_
  refine QM.leaveCs (ds := ([])) (.inl rfl) [.cell 4 32, .tmp 5] Try.results13 hd_nil (rc_w rfl Try.isAgg32 Try.sizeOf32 rfl (rc_tmp rfl rc_nil)) ?_
  intro w' hm' hc'
  exact tb_fin hQ3 h20 (tbh_rm hH _) hm' (by (repeat' (first | exact SubM.nil _ | refine SubM.cons (by rfl) ?_ | refine SubM.app ?_))) hc' hin11 hin20
 cases h1
set_option maxRecDepth 100000 in
theorem tcancel_z {most each : Int} {n0 T b bh : Nat} {L : List Wt} {S : List Hi} {mq mh : Mem0} (x : Wt) (w : World) (hTq : TqM most each n0 T L b bh mq) (hS : HoM 4096 n0 bh S mh) (hH : TbH L S) (hx : x ∈ L) (hns : ∀ y ∈ S, y.id ≠ x.who) (hM : Mem w (mq ++ mh)) : Ret Try.prog 13 #[.pointer (some ⟨b, 0, none⟩), .int .i64 x.who] w (Upd (mq ++ mh) (fun u m' => u = .tuple #[.agg (fWt x).toArray, .bool true] ∧ TbM most each n0 T (rmW L x.who) b m') w) := by
 refine Ret.enterM (l := [.pointer (some ⟨b, 0, none⟩), .int .i64 x.who]) Try.func13 rfl Try.ntmps13 rfl (mq ++ (mh ++ [])) ((inM (mq ++ mh))) (by rw [List.append_nil]; exact hM) ?_
 refine wpM.seq (wpM.region ?_)
 refine LM.alloc Try.zeroValue32 rfl (fun b4 hb4 => ?_)
 refine LM.as rfl ?_
 refine LM.nil (QM.sub (e' := [(0, _), (1, _), (4, _)]) au9 (QM.then (wpM.seq (wpM.region ?_))))
 refine LM.mv rfl (LM.mv rfl ?_)
 refine LM.cU (oc_call (enters_fn Try.func33 (by kernel_rfl) rfl) rfl) (fun w hm hc hg => tlv_spec x w hTq hx (hm.pick mq)) hTq.wlk (fun p hp _ => inM_al p hp) ?_
 rintro u11 m11 ⟨rfl, h11⟩ hin11; have hQ3 := h11; obtain ⟨ad3, n3, cap3, bs3, es3, cl3, F3, R3, sp3, mr3, rfl, hR3, he3, hb3, hbs3, hRT3, hQ3'⟩ := h11
 refine LM.mv rfl ?_
 refine LM.val (ov_extract rfl rfl) ?_
 refine LM.val (ov_extract rfl rfl) ?_
 refine LM.alloc Try.zeroValue32 rfl (fun b6 hb6 => ?_)
 refine LM.stW Try.sizeOf32 rfl rfl rfl rfl au7 (fun hlt => by first | exact inM_0 | exact inM_1 | exact absurd hlt (by omega)) ?_
 refine LM.as rfl ?_
 refine LM.nil (QM.sub (e' := [(0, _), (1, _), (4, _), (6, _), (7, _)]) au9 (QM.then ?_))
 refine wpM.seq ?_
 refine wpM.seq (wpM.region ?_)
 refine LM.mv rfl ?_
 refine LM.nil (QM.sub (e' := [(0, _), (1, _), (4, _), (6, _), (7, _), (14, _)]) au9 (QM.then ?_))
 first | refine wpM.condD rfl (fun h1 => ?_) (fun h1 => ?_) | refine wpM.condB rfl (fun h1 => ?_) (fun h1 => ?_)
 ·
  refine wpM.region ?_
  refine LM.mv rfl ?_
  refine LM.val (ov_nilCheck rfl) ?_
  refine LM.val (ov_field Try.underlying62 rfl Try.sizeOf59 rfl (k := 4) rfl rfl) ?_
  refine LM.rd (om_ld Try.isAgg59 rfl rfl) ?_
  refine LM.mv rfl ?_
  refine LM.callE (oc_call (enters_fn Try.func34 (by kernel_rfl) rfl) rfl) (fun w hm hc hg => horemove_no x.who w hS hns (hm.pick mh)) ?_
  refine LM.nil (QM.sub (e' := [(4, _), (6, _), (7, _)]) au9 (QM.then (wpM.seq (wpM.region ?_))))
  refine LM.rd (om_ldW Try.isAgg32 Try.sizeOf32 rfl rfl) ?_
  refine LM.mv rfl ?_
  refine LM.stW Try.sizeOf32 rfl rfl rfl rfl au7 (fun hlt => by first | exact inM_0 | exact inM_1 | exact absurd hlt (by omega)) ?_
  refine LM.as rfl ?_
  refine LM.nil (QM.sub (e' := [(4, _), (5, _)]) au9 (QM.then ?_))
  refine wpM.ret ?_
  refine QM.leaveCs (ds := ([])) (.inl rfl) [.cell 4 32, .tmp 5] Try.results13 hd_nil (rc_w rfl Try.isAgg32 Try.sizeOf32 rfl (rc_tmp rfl rc_nil)) ?_
  intro w' hm' hc'
  exact tb_fin hQ3 hS (by have k := tbh_rm hH x.who; rw [filter_none hns] at k; exact k) hm' (by (repeat' (first | exact SubM.nil _ | refine SubM.cons (by rfl) ?_ | refine SubM.app ?_))) hc' hin11 (inn_refl _ _)
 cases h1
theorem tcancel_yes {most each : Int} {n0 T b : Nat} {L : List Wt} {m : Mem0} (x : Wt) (w : World) (h : TbM most each n0 T L b m) (hx : x ∈ L) (hM : Mem w m) :
    Ret Try.prog 13 #[.pointer (some ⟨b, 0, none⟩), .int .i64 x.who] w (Upd m (fun u m' => u = .tuple #[.agg (fWt x).toArray, .bool true] ∧ TbM most each n0 T (rmW L x.who) b m') w) := by
  obtain ⟨bh, S, mq, mh, rfl, h1, h2, h3⟩ := h
  have hwd := h1.lim.2.2.2
  by_cases hz : x.til = 0#64
  · refine tcancel_z x w h1 h2 h3 hx (fun y hy e => ?_) hM
    obtain ⟨v, hv, e1, e2, e3⟩ := h3.hs y hy
    rw [wd_eq hwd hv hx (e1.trans e)] at e3; exact e3 hz
  · exact tcancel_t x w h1 h2 h3 hx hz hM
set_option maxRecDepth 100000 in
theorem tcancel_nil (who : Int) (w : World) : Ret Try.prog 13 #[.pointer none, .int .i64 who] w (fun u w' => u = .tuple #[.agg (fWt default).toArray, .bool false] ∧ Ext w w') := by
 refine Ret.enterM (l := [.pointer none, .int .i64 who]) Try.func13 rfl Try.ntmps13 rfl ([]) (no) (Mem.nil w) ?_
 refine wpM.seq (wpM.region ?_)
 refine LM.alloc Try.zeroValue32 rfl (fun b4 hb4 => ?_)
 refine LM.as rfl ?_
 refine LM.nil (QM.sub (e' := [(0, _), (1, _), (4, _)]) au9 (QM.then (wpM.seq (wpM.region ?_))))
 refine LM.mv rfl (LM.mv rfl ?_)
 refine LM.callE (oc_call (enters_fn Try.func33 (by kernel_rfl) rfl) rfl) (fun w hm hc hg => tleave_nil who w) ?_
 refine LM.mv rfl ?_
 refine LM.val (ov_extract rfl rfl) ?_
 refine LM.val (ov_extract rfl rfl) ?_
 refine LM.alloc Try.zeroValue32 rfl (fun b6 hb6 => ?_)
 refine LM.stW Try.sizeOf32 rfl rfl rfl rfl au7 (fun hlt => by first | exact inM_0 | exact inM_1 | exact absurd hlt (by omega)) ?_
 refine LM.as rfl ?_
 refine LM.nil (QM.sub (e' := [(0, _), (1, _), (4, _), (6, _), (7, _)]) au9 (QM.then ?_))
 refine wpM.seq ?_
 refine wpM.seq (wpM.region ?_)
 refine LM.mv rfl ?_
 refine LM.nil (QM.sub (e' := [(0, _), (1, _), (4, _), (6, _), (7, _), (14, _)]) au9 (QM.then ?_))
 first | refine wpM.condD rfl (fun h1 => ?_) (fun h1 => ?_) | refine wpM.condB rfl (fun h1 => ?_) (fun h1 => ?_)
 ·
  cases h1
 refine wpM.skip ?_
 refine QM.then (wpM.seq (wpM.region ?_))
 refine LM.rd (om_ldW Try.isAgg32 Try.sizeOf32 rfl rfl) ?_
 refine LM.mv rfl ?_
 refine LM.stW Try.sizeOf32 rfl rfl rfl rfl au7 (fun hlt => by first | exact inM_0 | exact inM_1 | exact absurd hlt (by omega)) ?_
 refine LM.as rfl ?_
 refine LM.nil (QM.sub (e' := [(4, _), (5, _)]) au9 (QM.then ?_))
 refine wpM.ret ?_
 refine QM.leaveCs (ds := ([])) (.inl rfl) [.cell 4 32, .tmp 5] Try.results13 hd_nil (rc_w rfl Try.isAgg32 Try.sizeOf32 rfl (rc_tmp rfl rc_nil)) ?_
 intro w' hm' hc'
 exact ⟨rfl, hc'⟩
set_option maxRecDepth 100000 in
theorem twho_nil (who : Int) (w : World) : Ret Try.prog 19 #[.pointer none, .int .i64 who] w (fun u w' => u = .tuple #[.agg (fWt default).toArray, .bool false] ∧ Ext w w') := by
 refine Ret.enterM (l := [.pointer none, .int .i64 who]) Try.func19 rfl Try.ntmps19 rfl ([]) (no) (Mem.nil w) ?_
 refine wpM.seq (wpM.region ?_)
 refine LM.alloc Try.zeroValue32 rfl (fun b4 hb4 => ?_)
 refine LM.as rfl ?_
 refine LM.nil (QM.sub (e' := [(0, _), (1, _), (4, _)]) au9 (QM.then ?_))
 refine wpM.seq ?_
 refine wpM.seq (wpM.region ?_)
 refine LM.mv rfl ?_
 refine LM.val (ov_peql (by kernel_rfl) rfl rfl) ?_
 refine LM.nil (QM.sub (e' := [(0, _), (1, _), (4, _), (9, _)]) au9 (QM.then ?_))
 first | refine wpM.condD rfl (fun h1 => ?_) (fun h1 => ?_) | refine wpM.condB rfl (fun h1 => ?_) (fun h1 => ?_)
 ·
  refine wpM.seq (wpM.region ?_)
  refine LM.val (ov_build (cs := #[_, _, _]) rfl (by first | rfl | kernel_rfl)) ?_
  refine LM.stW Try.sizeOf32 rfl rfl rfl rfl au7 (fun hlt => by first | exact inM_0 | exact inM_1 | exact absurd hlt (by omega)) ?_
  refine LM.as rfl ?_
  refine LM.nil (QM.sub (e' := [(4, _), (5, _)]) au9 (QM.then ?_))
  refine wpM.ret ?_
  refine QM.then_ret ?_
  refine QM.leaveCs (ds := ([])) (.inl rfl) [.cell 4 32, .tmp 5] Try.results19 hd_nil (rc_w rfl Try.isAgg32 Try.sizeOf32 rfl (rc_tmp rfl rc_nil)) ?_
  intro w' hm' hc'
  exact ⟨rfl, hc'⟩
 cases h1
set_option maxRecDepth 100000 in
theorem tlen_spec {most each : Int} {n0 T b : Nat} {L : List Wt} {m : Mem0} (w : World) (h : TbM most each n0 T L b m) (hM : Mem w m) : Ret Try.prog 23 #[.pointer (some ⟨b, 0, none⟩)] w (fun u w' => u = .int .i64 (L.length : Nat) ∧ Ext w w') := by
 obtain ⟨bh, S, mq, mh, rfl, ⟨ad, n, cap, bs, es, cl, F, R, sp, mr, rfl, hR, he, hb, hbs, hRT, hQ⟩, h2, h3⟩ := h; have he1 := he.1; have hsl := hQ.sl; rw [← hsl]
 refine Ret.enterM (l := [.pointer (some ⟨b, 0, none⟩)]) Try.func23 rfl Try.ntmps23 rfl (tbC b ad n cap most each bs bh :: (bs, .map es cl) :: (mr ++ (mh ++ []))) (no) (by rw [List.append_nil]; exact hM) ?_
 refine wpM.seq (wpM.region ?_)
 refine LM.as rfl ?_
 refine LM.nil (QM.sub (e' := [(0, _)]) ⟨rfl, trivial⟩ (QM.then ?_))
 refine wpM.seq ?_
 refine wpM.seq (wpM.region ?_)
 refine LM.mv rfl ?_
 refine LM.val (ov_peql (by kernel_rfl) rfl rfl) ?_
 refine LM.nil (QM.sub (e' := [(0, _), (4, _)]) au9 (QM.then ?_))
 refine wpM.condF rfl ?_
 refine wpM.skip ?_
 refine QM.then (wpM.seq (wpM.region ?_))
 refine LM.mv rfl ?_
 refine LM.val (ov_nilCheck rfl) ?_
 refine LM.val (ov_field Try.underlying62 rfl Try.sizeOf58 rfl (k := 3) rfl rfl) ?_
 refine LM.rd (om_ld Try.isAgg58 rfl rfl) ?_
 refine LM.rd (om_mlen Try.underlying58 rfl (by assumption) rfl) ?_
 refine LM.as rfl ?_
 refine LM.nil (QM.sub (e' := [(2, _)]) ⟨rfl, trivial⟩ (QM.then ?_))
 refine wpM.ret ?_
 refine QM.leave (.inl rfl) [.tmp 2] Try.results23 rfl ?_
 intro w' hm' hc' hg'
 exact ⟨rfl, hc'⟩
set_option maxRecDepth 100000 in
theorem tlen_nil (w : World) : Ret Try.prog 23 #[.pointer none] w (fun u w' => u = .int .i64 0 ∧ Ext w w') := by
 refine Ret.enterM (l := [.pointer none]) Try.func23 rfl Try.ntmps23 rfl ([]) (no) (Mem.nil w) ?_
 refine wpM.seq (wpM.region ?_)
 refine LM.as rfl ?_
 refine LM.nil (QM.sub (e' := [(0, _)]) ⟨rfl, trivial⟩ (QM.then ?_))
 refine wpM.seq ?_
 refine wpM.seq (wpM.region ?_)
 refine LM.mv rfl ?_
 refine LM.val (ov_peql (by kernel_rfl) rfl rfl) ?_
 refine LM.nil (QM.sub (e' := [(0, _), (4, _)]) au9 (QM.then ?_))
 first | refine wpM.condD rfl (fun h1 => ?_) (fun h1 => ?_) | refine wpM.condB rfl (fun h1 => ?_) (fun h1 => ?_)
 ·
  refine wpM.seq (wpM.region ?_)
  refine LM.as rfl ?_
  refine LM.nil (QM.sub (e' := [(2, _)]) ⟨rfl, trivial⟩ (QM.then ?_))
  refine wpM.ret ?_
  refine QM.then_ret ?_
  refine QM.leave (.inl rfl) [.tmp 2] Try.results23 rfl ?_
  intro w' hm' hc' hg'
  exact ⟨rfl, hc'⟩
 cases h1
set_option maxRecDepth 100000 in
theorem troom_nil (w : World) : Ret Try.prog 35 #[.pointer none] w (fun u w' => u = .int .i64 0 ∧ Ext w w') := by
 refine Ret.enterM (l := [.pointer none]) Try.func35 rfl Try.ntmps35 rfl ([]) (no) (Mem.nil w) ?_
 refine wpM.seq (wpM.region ?_)
 refine LM.as rfl ?_
 refine LM.nil (QM.sub (e' := [(0, _)]) ⟨rfl, trivial⟩ (QM.then ?_))
 refine wpM.seq ?_
 refine wpM.seq (wpM.region ?_)
 refine LM.mv rfl ?_
 refine LM.val (ov_peql (by kernel_rfl) rfl rfl) ?_
 refine LM.nil (QM.sub (e' := [(0, _), (4, _)]) au9 (QM.then ?_))
 first | refine wpM.condD rfl (fun h1 => ?_) (fun h1 => ?_) | refine wpM.condB rfl (fun h1 => ?_) (fun h1 => ?_)
 ·
  refine wpM.seq (wpM.region ?_)
  refine LM.as rfl ?_
  refine LM.nil (QM.sub (e' := [(2, _)]) ⟨rfl, trivial⟩ (QM.then ?_))
  refine wpM.ret ?_
  refine QM.then_ret ?_
  refine QM.leave (.inl rfl) [.tmp 2] Try.results35 rfl ?_
  intro w' hm' hc' hg'
  exact ⟨rfl, hc'⟩
 cases h1
set_option maxRecDepth 100000 in
theorem tcount_nil (key : Int) (w : World) : Ret Try.prog 24 #[.pointer none, .int .i64 key] w (fun u w' => u = .int .i64 0 ∧ Ext w w') := by
 refine Ret.enterM (l := [.pointer none, .int .i64 key]) Try.func24 rfl Try.ntmps24 rfl ([]) (no) (Mem.nil w) ?_
 refine wpM.seq (wpM.region ?_)
 refine LM.as rfl ?_
 refine LM.nil (QM.sub (e' := [(0, _), (1, _)]) au9 (QM.then ?_))
 refine wpM.seq ?_
 refine wpM.seq (wpM.region ?_)
 refine LM.mv rfl ?_
 refine LM.val (ov_peql (by kernel_rfl) rfl rfl) ?_
 refine LM.nil (QM.sub (e' := [(0, _), (1, _), (6, _)]) au9 (QM.then ?_))
 first | refine wpM.condD rfl (fun h1 => ?_) (fun h1 => ?_) | refine wpM.condB rfl (fun h1 => ?_) (fun h1 => ?_)
 ·
  refine wpM.seq (wpM.region ?_)
  refine LM.as rfl ?_
  refine LM.nil (QM.sub (e' := [(4, _)]) ⟨rfl, trivial⟩ (QM.then ?_))
  refine wpM.ret ?_
  refine QM.then_ret ?_
  refine QM.leave (.inl rfl) [.tmp 4] Try.results24 rfl ?_
  intro w' hm' hc' hg'
  exact ⟨rfl, hc'⟩
 cases h1
end Go.Eng
namespace Go.Eng
open Go Go.Proofs Go.RowKit
def ofA (l : List Wt) : List (Array Value) := l.map (fun x => #[.agg (fWt x).toArray])
theorem ofA_len (l : List Wt) : (ofA l).length = l.length := List.length_map ..
theorem ofA_get {q : List (Int × Wt)} {k : Nat} (h : k < q.length) : (ofA (qS q))[k]? = some #[.agg (fWt (qd q k).2).toArray] := by
  unfold ofA; rw [List.getElem?_map, qS_get h]; rfl
theorem ofA_inv {l : List Wt} {k : Nat} {av : Array Value} (h : (ofA l)[k]? = some av) : ∃ x, l[k]? = some x ∧ av = #[.agg (fWt x).toArray] := by
  unfold ofA at h; rw [List.getElem?_map] at h
  cases hx : l[k]? with
  | none => rw [hx] at h; cases h
  | some x => rw [hx] at h; exact ⟨x, rfl, (Option.some.inj h).symm⟩
abbrev tF (c : Nat) (g : Option Addr) : Nat × Obj := (c, .cells #[.pointer g] 25 (0, 0))
abbrev kF (c : Nat) (key : Int) : Nat × Obj := (c, .cells #[.int .i64 key] 3 (0, 0))
abbrev yF (c l : Nat) : Nat × Obj := (c, .cells #[.func (.yield l) #[] #[]] 75 (0, 0))
abbrev qF0 (c : Nat) : Nat × Obj := (c, .cells #[.pointer none] 72 (0, 0))
def OfT (g : Option Addr) (key : Int) (n0 : Nat) (v : Value) (m : Mem0) : Prop := ∃ c1 c2, v = .func (.func 42) #[] #[.pointer (some ⟨c1, 0, none⟩), .pointer (some ⟨c2, 0, none⟩)] ∧ m = tF c1 g :: kF c2 key :: [] ∧ n0 ≤ c1 ∧ n0 ≤ c2
theorem OfT.mono {g : Option Addr} {key : Int} : ∀ (k k' : Nat) u m, k' ≤ k → OfT g key k u m → OfT g key k' u m := fun k k' u m h ⟨c1, c2, h1, h2, h3, h4⟩ => ⟨c1, c2, h1, h2, by omega, by omega⟩
def FoA0 (n0 : Nat) (v : Value) (m : Mem0) : Prop := ∃ c1, v = .func (.func 58) #[] #[.pointer (some ⟨c1, 0, none⟩)] ∧ m = [qF0 c1] ∧ n0 ≤ c1
theorem FoA0.mono : ∀ (k k' : Nat) u m, k' ≤ k → FoA0 k u m → FoA0 k' u m := fun k k' u m h ⟨b1, h1, h2, h3⟩ => ⟨b1, h1, h2, by omega⟩
theorem hgd {w : World} {c : Nat × Obj} {m : Mem0} {wj : World} (hc : w.heap[c.1]? = some c.2) (hm : Mem w m) (hlt : ∀ p ∈ m, p.1 < wj.heap.size) (hge : wj.heap.size ≤ c.1) : Mem w (c :: m) := hm.cons hc (fun p hp e => by have := hlt p hp; omega)
set_option maxRecDepth 100000 in
theorem of_spec (g : Option Addr) (key : Int) (w : World) : Ret Try.prog 22 #[.pointer g, .int .i64 key] w (fun v w' => Ext w w' ∧ ∃ m, OfT g key w.heap.size v m ∧ Mem w' m ∧ ∀ p ∈ m, w.heap.size ≤ p.1) := by
 refine Ret.enterM (l := [.pointer g, .int .i64 key]) Try.func22 rfl Try.ntmps22 rfl ([]) (no) (Mem.nil w) ?_
 refine wpM.seq (wpM.region ?_)
 refine LM.box rfl rfl (fun b2 hb2 => ?_)
 refine LM.box rfl rfl (fun b3 hb3 => ?_)
 refine LM.as rfl ?_
 refine LM.nil (QM.sub (e' := [(2, _), (3, _)]) au9 (QM.then (wpM.seq (wpM.region ?_))))
 refine LM.val (ov_makeFunc rfl) ?_
 refine LM.as rfl ?_
 refine LM.nil (QM.sub (e' := [(4, _)]) ⟨rfl, trivial⟩ (QM.then ?_))
 refine wpM.ret ?_
 refine QM.leave (.inl rfl) [.tmp 4] Try.results22 rfl ?_
 intro w' hm' hc' hg'
 exact ⟨hc', _, ⟨b2, b3, rfl, rfl, hb2, hb3⟩, SubM.mem au1 _ hm', fun p hp => by simp only [List.mem_cons, List.not_mem_nil, or_false] at hp; rcases hp with rfl | rfl <;> assumption⟩
set_option maxRecDepth 100000 in
theorem foall_nil (w : World) : Ret Try.prog 43 #[.pointer none] w (fun v w' => Ext w w' ∧ ∃ m, FoA0 w.heap.size v m ∧ Mem w' m ∧ ∀ p ∈ m, w.heap.size ≤ p.1) := by
 refine Ret.enterM (l := [.pointer none]) Try.func43 rfl Try.ntmps43 rfl ([]) (no) (Mem.nil w) ?_
 refine wpM.seq (wpM.region ?_)
 refine LM.box rfl rfl (fun b1 hb1 => ?_)
 refine LM.as rfl ?_
 refine LM.nil (QM.sub (e' := [(1, _)]) ⟨rfl, trivial⟩ (QM.then (wpM.seq (wpM.region ?_))))
 refine LM.val (ov_makeFunc rfl) ?_
 refine LM.as rfl ?_
 refine LM.nil (QM.sub (e' := [(2, _)]) ⟨rfl, trivial⟩ (QM.then ?_))
 refine wpM.ret ?_
 refine QM.leave (.inl rfl) [.tmp 2] Try.results43 rfl ?_
 intro w' hm' hc' hg'
 exact ⟨hc', _, ⟨b1, rfl, rfl, hb1⟩, SubM.mem au1 _ hm', fun p hp => by simp only [List.mem_cons, List.not_mem_nil, or_false] at hp; subst hp; assumption⟩
set_option maxRecDepth 100000 in
theorem foall_seq0 {c1 : Nat} : SeqCP Try.prog 58 #[.pointer (some ⟨c1, 0, none⟩)] ([]) (fun w => Mem w [qF0 c1]) (True) := by
 refine SeqCP.enter (lb := [.pointer (some ⟨c1, 0, none⟩)]) Try.func58 rfl Try.ntmps58 rfl ?_
 intro l0 n0 J Jx w0 hn0 hfin hJr hL hy
 refine wpM.openJ (n := n0) (fun wj1 hmj1 hCj1 hjj1 hkj1 => ?_)
 refine wpM.seq ?_
 refine wpM.seq (wpM.region ?_)
 refine LM.rdC (fun w hm hc hg => om_ld (M := qF0 c1 :: []) Try.isAgg72 rfl rfl w ((hL.rd hJr hjj1 hc))) ?_
 refine LM.val (ov_peql (by kernel_rfl) rfl rfl) ?_
 refine LM.nil (QM.sub (e' := [(0, _), (1, _), (7, _)]) au9 (QM.then ?_))
 first | refine wpM.condD rfl (fun h1 => ?_) (fun h1 => ?_) | refine wpM.condB rfl (fun h1 => ?_) (fun h1 => ?_)
 ·
  refine wpM.ret ?_
  refine QM.then_ret ?_
  refine QM.closeJ hL hCj1 hjj1 hkj1 (kk_top _) ([]) (SubM.mem (by (try dsimp only); (repeat' (first | exact SubM.nil _ | refine SubM.cons rfl ?_ | refine SubM.app ?_)))) (by (try dsimp only); (repeat' (first | exact pn_nil | refine pn_cons (by first | (left; omega) | (right; simp; done)) rfl ?_ | refine pn_app ?_ ?_))) ?_
  refine QM.leaveDJ (ds := ([])) (.inl rfl) [] Try.results58 rfl hn0 hd_nil (gl_j hL (Nat.le_refl _) (gl_top _)) ?_
  intro w' hm' hg'
  exact .inl hg'.1
 cases h1
set_option maxRecDepth 100000 in
theorem of_seq_some {each most : Int} {nR n cap b bs bh c1 c2 R : Nat} {ad : Option Addr} {F : Int → Option Rw} {mr : Mem0} {r : Rw} {key : Int} (hR : RoM each nR n cap ad R F mr) (hF : F key = some r) : SeqCP Try.prog 42 #[.pointer (some ⟨c1, 0, none⟩),  .pointer (some ⟨c2, 0, none⟩)] (ofA (qS r.q)) (fun w => Mem w (tF c1 (some ⟨b, 0, none⟩) :: kF c2 key :: tbC b ad n cap most each bs bh :: mr)) (True) := by
 obtain ⟨mq, rest, hFo, hpm, -⟩ := rq_split hR hF
 refine SeqCP.enter (lb := [.pointer (some ⟨c1, 0, none⟩),  .pointer (some ⟨c2, 0, none⟩)]) Try.func42 rfl Try.ntmps42 rfl ?_
 intro l0 n0 J Jx w0 hn0 hfin hJr hL hy
 refine wpM.openJ (n := n0) (fun wj1 hmj1 hCj1 hjj1 hkj1 => ?_)
 have hlt : ∀ p ∈ mq, p.1 < wj1.heap.size := fun p hp => (hJr _ _ _ hjj1).lt (List.mem_cons_of_mem _ (List.mem_cons_of_mem _ (List.mem_cons_of_mem _ (hpm.mem_iff.2 (List.mem_append_left _ hp)))))
 refine wpM.seq (wpM.region ?_)
 refine LM.box rfl rfl (fun b3 hb3 => ?_)
 refine LM.nil (QM.sub (e' := [(1, _), (2, _), (3, _)]) au9 (QM.then ?_))
 refine wpM.seq ?_
 refine wpM.seq (wpM.region ?_)
 refine LM.rdC (fun w hm hc hg => om_ld (M := tF c1 (some ⟨b, 0, none⟩) :: kF c2 key :: tbC b ad n cap most each bs bh :: mr) Try.isAgg25 rfl rfl w ((hL.rd hJr hjj1 hc))) ?_
 refine LM.val (ov_peql (by kernel_rfl) rfl rfl) ?_
 refine LM.nil (QM.sub (e' := [(1, _), (2, _), (3, _), (7, _)]) au9 (QM.then ?_))
 refine wpM.condF rfl ?_
 refine wpM.skip ?_
 refine QM.then (wpM.seq (wpM.region ?_))
 refine LM.rdC (fun w hm hc hg => om_ld (M := tF c1 (some ⟨b, 0, none⟩) :: kF c2 key :: tbC b ad n cap most each bs bh :: mr) Try.isAgg25 rfl rfl w ((hL.rd hJr hjj1 hc))) ?_
 refine LM.rdC (fun w hm hc hg => om_ld (M := tF c1 (some ⟨b, 0, none⟩) :: kF c2 key :: tbC b ad n cap most each bs bh :: mr) Try.isAgg3 rfl rfl w ((hL.rd hJr hjj1 hc))) ?_
 refine LM.callE (oc_call (enters_fn Try.func37 (by kernel_rfl) rfl) rfl) (fun w hm hc hg => rq_some false hR hF ((hL.rd hJr hjj1 hc)).tail.tail) ?_
 refine LM.callT (oc_call (enters_fn Try.func43 (by kernel_rfl) rfl) rfl) FoA.mono (fun w hm hc hg => foall_spec r.b w) ?_
 rintro u11 m11 ⟨c11, rfl, rfl, hc11⟩ -
 refine LM.nil (QM.sub (e' := [(3, _), (11, _)]) au9 (QM.then ?_))
 refine wpM.block ?_
 refine wpM.closeJ hL hCj1 hjj1 hkj1 (kk_top _) ((yF b3 l0 :: qF c11 r.b :: []) ++ []) (SubM.mem (by (try dsimp only); (repeat' (first | exact SubM.nil _ | refine SubM.cons rfl ?_ | refine SubM.app ?_ | exact SubM.all _ | exact SubM.spl)))) (by (try dsimp only); (repeat' (first | exact pn_nil | exact pn_sameR (fun p hp => (hin p hp).2) | refine pn_cons (by first | (left; omega) | (right; simp; done)) rfl ?_ | refine pn_app ?_ ?_))) ?_
 refine wpM.toRange (α := Unit) (fun k ⟨⟩ => yF b3 l0 :: qF c11 r.b :: ([] ++ [])) (⟨⟩) (by (repeat' (first | exact SubM.nil _ | refine SubM.cons rfl ?_ | refine SubM.app ?_ | exact SubM.all _ | exact SubM.spl))) ?_
 refine wpM.rangeS (α := Unit) (β := Unit) (enters_fn Try.func58 (by kernel_rfl) rfl) rfl ((foall_seq hFo).toS) (fun k ⟨⟩ Mp => yF b3 l0 :: qF c11 r.b :: (Mp ++ [])) (by rintro k ⟨⟩ Mp; first | rfl | simp) (fun k ⟨⟩ Mp => (fun w => J (k) ((yF b3 l0 :: qF c11 r.b :: []) ++ Mp) w ∧ top w)) (fun k ⟨⟩ => True) (fun ⟨⟩ => []) (fun _ => (fun w => Jx w ∧ top w)) (fun c ⟨⟩ => c = .ret ∧ True) ⟨⟩ rfl (fun _ h => h) trivial (by kernel_rfl) (by intro k av hav; obtain ⟨hkl, rfl⟩ := foA_inv hav; rfl) (fun p hp => by cases hp) (fun _ _ _ => trivial) (.inl trivial) (fun k x Mp w hm hc hg _ => hgd (wj := wj1) (hm.2 _ (by simp)) (((hJr _ _ _ hg.1).tail.tail.tail).part hpm) hlt hc11) (by rintro k ⟨⟩ Mp Mp' w w' g hm hm' hc hn hw -; (try dsimp only at g); (try dsimp only at hm); (try dsimp only at hm'); (try dsimp only); exact gu_j (mp := (yF b3 l0 :: qF c11 r.b :: [])) hL (kk_top _) (by intro p hp; simp only [List.mem_cons, List.not_mem_nil, or_false] at hp; rcases hp with rfl | rfl <;> rfl) g (hm.pick Mp) (by have h9 := SubM.mem (M' := (yF b3 l0 :: qF c11 r.b :: []) ++ (Mp' ++ [])) (by (repeat' (first | exact SubM.nil _ | refine SubM.cons rfl ?_ | refine SubM.app ?_ | exact SubM.all _ | exact SubM.spl))) w' hm'; rw [List.append_nil] at h9; exact h9) hc hn hw) (fun w hg _ _ _ => gl_j hL (hL.le _ _ _ hg.1) (gl_top _)) (fun w hg _ => gl_x hL (hL.le _ _ _ hg.1) (gl_top _)) (fun k x _ => by ((repeat (refine mm_cons rfl ?_)); exact fun p hp => .inl (by first | exact hp | (simp at hp; done) | (simp [hp]; done) | (simp at hp ⊢; first | exact .inl hp | exact hp | (simp [hp]; done))))) (fun c z _ => by ((repeat (refine mm_cons rfl ?_)); exact fun p hp => .inl (by first | exact hp | (simp at hp; done) | (simp [hp]; done) | (simp at hp ⊢; first | exact .inl hp | exact hp | (simp [hp]; done))))) ?_ ?_ ?_ ?_
 ·
  rintro k av ⟨⟩ l D rc n1 W1 Mp hnn hD hll hput hrc hav hT hin -
  have hnn1 : n0 ≤ n1 := (by obtain ⟨w, hg, hw⟩ := hnn; exact Nat.le_trans (hL.le _ _ _ hg.1) hw)
  change wpM _ _ _ _ _ _ _ ((l, Obj.loop rc) :: ([(D, Obj.deferred (some []))] ++ (yF b3 l0 :: qF c11 r.b :: (Mp ++ [])))) _ _ _
  obtain ⟨hkl, rfl⟩ := foA_inv hav
  refine wpM.openJ2 (n := n0) (fun wj2 hmj2 hCj2 hjj2 hkj2 => ?_)
  refine wpM.region ?_
  refine LM.alloc Try.zeroValue32 rfl (fun b5 hb5 => ?_)
  refine LM.stW Try.sizeOf32 rfl rfl rfl rfl au7 (fun hlt => by first | exact absurd hlt (by omega) | (simp [inM]; done)) ?_
  refine LM.nil (QM.sub (e' := [(3, _), (5, _)]) au9 ?_)
  refine QM.closeJ2 hL hCj2 hjj2 hkj2 (kk_and (kk_top _) hnn1) ((yF b3 l0 :: qF c11 r.b :: []) ++ Mp) (SubM.mem (by (try dsimp only); (repeat' (first | exact SubM.nil _ | refine SubM.cons rfl ?_ | refine SubM.app ?_ | exact SubM.all _ | exact SubM.spl)))) (by (try dsimp only); (repeat' (first | exact pn_nil | exact pn_sameR (fun p hp => (hin p hp).2) | refine pn_cons (by first | (left; omega) | (right; simp; done)) rfl ?_ | refine pn_app ?_ ?_))) ?_
  refine QM.toBodyF (hput k ⟨⟩ Mp) hll ?_
  refine wpM.openJ2 (n := n0) (fun wj3 hmj3 hCj3 hjj3 hkj3 => ?_)
  refine wpM.block ?_
  refine wpM.seq (wpM.region ?_)
  refine LM.rd (om_ld Try.isAgg75 rfl rfl) ?_
  refine LM.rd (om_ldW Try.isAgg32 Try.sizeOf32 rfl rfl) ?_
  refine LM.yieldJ (n := n0) (k := k) hL rfl rfl (fun m w hj => hy (k) _ m w (ofA_get hkl) hj) hCj3 hjj3 hkj3 (kk_and (kk_top _) hnn1) ((l, Obj.loop (busyOf rc)) :: (D, Obj.deferred (some [])) :: ([])) ((yF b3 l0 :: qF c11 r.b :: []) ++ Mp) ((l, Obj.loop (busyOf rc)) :: (D, Obj.deferred (some [])) :: ((yF b3 l0 :: qF c11 r.b :: []) ++ Mp)) (by simp only [List.append_assoc, List.cons_append, List.nil_append]) (SubM.mem (by (repeat' (first | exact SubM.nil _ | refine SubM.cons rfl ?_ | refine SubM.app ?_ | exact SubM.all _ | exact SubM.spl)))) (by (repeat' (first | exact pn_nil | refine lo_cons (by omega) rfl ?_ | refine lo_dm (by intro D hD; first | (have := hds1 D hD; omega) | (have := hds2 D hD; omega)) ?_))) (by (try dsimp only); (repeat' (first | exact pn_nil | exact pn_sameR (fun p hp => (hin p hp).2) | refine pn_cons (by first | (left; omega) | (right; simp; done)) rfl ?_ | refine pn_app ?_ ?_))) (fun wj4 hmj4 hCj4 hjj4 hkj4 => ?_) (fun wj4 hmj4 hCj4 hjj4 hkj4 => ?_)
  ·
   change LM _ _ _ _ _ _ _ _ ((l, Obj.loop (busyOf rc)) :: (D, Obj.deferred (some [])) :: ((yF b3 l0 :: qF c11 r.b :: []) ++ Mp)) _ _ _
   first | refine LM.val (ov_notD rfl) ?_ | refine LM.val (ov_not rfl) ?_
   refine LM.nil (QM.sub (e' := [(17, _)]) ⟨rfl, trivial⟩ (QM.then ?_))
   refine wpM.condF rfl ?_
   refine wpM.skip ?_
   refine QM.block_normal ?_
   refine QM.closeJ2 hL hCj4 hjj4 hkj4 (kk_and (kk_top _) hnn1) ((fun (k : Nat) => ((fun ⟨⟩ => (yF b3 l0 :: qF c11 r.b :: []) ++ Mp) : Unit → Mem0)) (k + 1) (⟨⟩)) (SubM.mem (by (try dsimp only); (repeat' (first | exact SubM.nil _ | refine SubM.cons rfl ?_ | refine SubM.app ?_ | exact SubM.all _ | exact SubM.spl)))) (by (try dsimp only); (repeat' (first | exact pn_nil | exact pn_sameR (fun p hp => (hin p hp).2) | refine pn_cons (by first | (left; omega) | (right; simp; done)) rfl ?_ | refine pn_app ?_ ?_))) ?_
   refine QM.next (⟨⟩) (SubM.mem (by (repeat' (first | exact SubM.nil _ | refine SubM.cons rfl ?_ | refine SubM.app ?_ | exact SubM.all _ | exact SubM.spl)))) (fun _ h => h) ?_
   · trivial
  change LM _ _ _ _ _ _ _ _ ((l, Obj.loop (busyOf rc)) :: (D, Obj.deferred (some [])) :: ([])) _ _ _
  first | refine LM.val (ov_notD rfl) ?_ | refine LM.val (ov_not rfl) ?_
  refine LM.nil (QM.sub (e' := [(17, _)]) ⟨rfl, trivial⟩ (QM.then ?_))
  refine wpM.condT rfl ?_
  refine wpM.ret ?_
  refine QM.block_ret ?_
  refine QM.closeX2 hL hCj4 hjj4 hkj4 (kk_and (kk_top _) hnn1) ?_
  refine QM.rret (⟨⟩) (SubM.mem (by (repeat' (first | exact SubM.nil _ | refine SubM.cons rfl ?_ | refine SubM.app ?_ | exact SubM.all _ | exact SubM.spl)))) (fun _ h => h) ?_
  · exact ⟨rfl, trivial⟩
 ·
  rintro ⟨⟩ Mp D0 hD0 hT hin -
  refine QM.openJ (n := n0) (fun wj5 hmj5 hCj5 hjj5 hkj5 => ?_)
  refine QM.sub (e' := []) trivial ?_
  refine QM.block_normal ?_
  refine QM.closeJ hL hCj5 hjj5 hkj5 (kk_top _) ([]) (SubM.mem (by (try dsimp only); (repeat' (first | exact SubM.nil _ | refine SubM.cons rfl ?_ | refine SubM.app ?_ | exact SubM.all _ | exact SubM.spl)))) (by (try dsimp only); (repeat' (first | exact pn_nil | exact pn_sameR (fun p hp => (hin p hp).2) | refine pn_cons (by first | (left; omega) | (right; simp; done)) rfl ?_ | refine pn_app ?_ ?_))) ?_
  refine QM.leaveDJ (ds := (D0 :: [])) (.inr rfl) [] Try.results42 rfl hn0 (hd_cons hD0 hd_nil) (gl_j hL (Nat.le_refl _) (gl_top _)) ?_
  intro w' hm' hg'
  exact .inl (by rw [show (ofA (qS r.q)).length = (foA r.q).length by rw [ofA_len, foA_len]; exact List.length_map ..]; exact hg'.1)
 ·
  rintro ⟨⟩ D0 hD0 hx
  obtain ⟨-, hx⟩ := hx
  refine QM.openX (n := n0) (fun wj6 hmj6 hCj6 hjj6 hkj6 => ?_)
  refine QM.block_ret ?_
  refine QM.closeX hL hCj6 hjj6 hkj6 (kk_top _) ?_
  refine QM.leaveDJ (ds := (D0 :: [])) (.inl rfl) [] Try.results42 rfl hn0 (hd_cons hD0 hd_nil) (gl_x hL (Nat.le_refl _) (gl_top _)) ?_
  intro w' hm' hg'
  exact .inr hg'.1
 rintro id ⟨⟩ D0 hD0 hx
 first | exact hx.elim | cases hx.1 | cases hx
end Go.Eng
namespace Go.Eng
open Go Go.Proofs Go.RowKit
theorem foA0_inv {k : Nat} {av : Array Value} (h : ([] : List (Array Value))[k]? = some av) : False := by simp at h
theorem hgd1 {w : World} {c : Nat × Obj} (hc : w.heap[c.1]? = some c.2) : Mem w [c] := (Mem.nil w).cons hc (fun p hp => by cases hp)
set_option maxRecDepth 100000 in
theorem of_seq_none {each most : Int} {nR n cap b bs bh c1 c2 R : Nat} {ad : Option Addr} {F : Int → Option Rw} {mr : Mem0} {key : Int} (hR : RoM each nR n cap ad R F mr) (hF : F key = none) : SeqCP Try.prog 42 #[.pointer (some ⟨c1, 0, none⟩),  .pointer (some ⟨c2, 0, none⟩)] ([]) (fun w => Mem w (tF c1 (some ⟨b, 0, none⟩) :: kF c2 key :: tbC b ad n cap most each bs bh :: mr)) (True) := by
 refine SeqCP.enter (lb := [.pointer (some ⟨c1, 0, none⟩),  .pointer (some ⟨c2, 0, none⟩)]) Try.func42 rfl Try.ntmps42 rfl ?_
 intro l0 n0 J Jx w0 hn0 hfin hJr hL hy
 refine wpM.openJ (n := n0) (fun wj1 hmj1 hCj1 hjj1 hkj1 => ?_)
 refine wpM.seq (wpM.region ?_)
 refine LM.box rfl rfl (fun b3 hb3 => ?_)
 refine LM.nil (QM.sub (e' := [(1, _), (2, _), (3, _)]) au9 (QM.then ?_))
 refine wpM.seq ?_
 refine wpM.seq (wpM.region ?_)
 refine LM.rdC (fun w hm hc hg => om_ld (M := tF c1 (some ⟨b, 0, none⟩) :: kF c2 key :: tbC b ad n cap most each bs bh :: mr) Try.isAgg25 rfl rfl w ((hL.rd hJr hjj1 hc))) ?_
 refine LM.val (ov_peql (by kernel_rfl) rfl rfl) ?_
 refine LM.nil (QM.sub (e' := [(1, _), (2, _), (3, _), (7, _)]) au9 (QM.then ?_))
 refine wpM.condF rfl ?_
 refine wpM.skip ?_
 refine QM.then (wpM.seq (wpM.region ?_))
 refine LM.rdC (fun w hm hc hg => om_ld (M := tF c1 (some ⟨b, 0, none⟩) :: kF c2 key :: tbC b ad n cap most each bs bh :: mr) Try.isAgg25 rfl rfl w ((hL.rd hJr hjj1 hc))) ?_
 refine LM.rdC (fun w hm hc hg => om_ld (M := tF c1 (some ⟨b, 0, none⟩) :: kF c2 key :: tbC b ad n cap most each bs bh :: mr) Try.isAgg3 rfl rfl w ((hL.rd hJr hjj1 hc))) ?_
 refine LM.callE (oc_call (enters_fn Try.func37 (by kernel_rfl) rfl) rfl) (fun w hm hc hg => rq_none hR hF ((hL.rd hJr hjj1 hc)).tail.tail) ?_
 refine LM.callT (oc_call (enters_fn Try.func43 (by kernel_rfl) rfl) rfl) FoA0.mono (fun w hm hc hg => foall_nil w) ?_
 rintro u11 m11 ⟨c11, rfl, rfl, hc11⟩ -
 refine LM.nil (QM.sub (e' := [(3, _), (11, _)]) au9 (QM.then ?_))
 refine wpM.block ?_
 refine wpM.closeJ hL hCj1 hjj1 hkj1 (kk_top _) ((yF b3 l0 :: qF0 c11 :: []) ++ []) (SubM.mem (by (try dsimp only); (repeat' (first | exact SubM.nil _ | refine SubM.cons rfl ?_ | refine SubM.app ?_ | exact SubM.all _ | exact SubM.spl)))) (by (try dsimp only); (repeat' (first | exact pn_nil | exact pn_sameR (fun p hp => (hin p hp).2) | refine pn_cons (by first | (left; omega) | (right; simp; done)) rfl ?_ | refine pn_app ?_ ?_))) ?_
 refine wpM.toRange (α := Unit) (fun k ⟨⟩ => yF b3 l0 :: qF0 c11 :: ([] ++ [])) (⟨⟩) (by (repeat' (first | exact SubM.nil _ | refine SubM.cons rfl ?_ | refine SubM.app ?_ | exact SubM.all _ | exact SubM.spl))) ?_
 refine wpM.rangeS (α := Unit) (β := Unit) (enters_fn Try.func58 (by kernel_rfl) rfl) rfl ((foall_seq0 (c1 := c11)).toS) (fun k ⟨⟩ Mp => yF b3 l0 :: qF0 c11 :: (Mp ++ [])) (by rintro k ⟨⟩ Mp; first | rfl | simp) (fun k ⟨⟩ Mp => (fun w => J (k) ((yF b3 l0 :: qF0 c11 :: []) ++ Mp) w ∧ top w)) (fun k ⟨⟩ => True) (fun ⟨⟩ => []) (fun _ => (fun w => Jx w ∧ top w)) (fun c ⟨⟩ => False) ⟨⟩ rfl (fun _ h => h) trivial (by kernel_rfl) (by intro k av hav; exact (foA0_inv hav).elim) (fun p hp => by cases hp) (fun _ _ _ => trivial) (.inl trivial) (fun k x Mp w hm hc hg _ => hgd1 (hm.2 _ (by simp))) (by rintro k ⟨⟩ Mp Mp' w w' g hm hm' hc hn hw -; (try dsimp only at g); (try dsimp only at hm); (try dsimp only at hm'); (try dsimp only); exact gu_j (mp := (yF b3 l0 :: qF0 c11 :: [])) hL (kk_top _) (by intro p hp; simp only [List.mem_cons, List.not_mem_nil, or_false] at hp; rcases hp with rfl | rfl <;> rfl) g (hm.pick Mp) (by have h9 := SubM.mem (M' := (yF b3 l0 :: qF0 c11 :: []) ++ (Mp' ++ [])) (by (repeat' (first | exact SubM.nil _ | refine SubM.cons rfl ?_ | refine SubM.app ?_ | exact SubM.all _ | exact SubM.spl))) w' hm'; rw [List.append_nil] at h9; exact h9) hc hn hw) (fun w hg _ _ _ => gl_j hL (hL.le _ _ _ hg.1) (gl_top _)) (fun w hg _ => gl_x hL (hL.le _ _ _ hg.1) (gl_top _)) (fun k x _ => by ((repeat (refine mm_cons rfl ?_)); exact fun p hp => .inl (by first | exact hp | (simp at hp; done) | (simp [hp]; done) | (simp at hp ⊢; first | exact .inl hp | exact hp | (simp [hp]; done))))) (fun c z _ => by ((repeat (refine mm_cons rfl ?_)); exact fun p hp => .inl (by first | exact hp | (simp at hp; done) | (simp [hp]; done) | (simp at hp ⊢; first | exact .inl hp | exact hp | (simp [hp]; done))))) ?_ ?_ ?_ ?_
 ·
  rintro k av ⟨⟩ l D rc n1 W1 Mp hnn hD hll hput hrc hav hT hin -
  have hnn1 : n0 ≤ n1 := (by obtain ⟨w, hg, hw⟩ := hnn; exact Nat.le_trans (hL.le _ _ _ hg.1) hw)
  change wpM _ _ _ _ _ _ _ ((l, Obj.loop rc) :: ([(D, Obj.deferred (some []))] ++ (yF b3 l0 :: qF0 c11 :: (Mp ++ [])))) _ _ _
  exfalso; exact foA0_inv hav
  skip
 ·
  rintro ⟨⟩ Mp D0 hD0 hT hin -
  refine QM.openJ (n := n0) (fun wj2 hmj2 hCj2 hjj2 hkj2 => ?_)
  refine QM.sub (e' := []) trivial ?_
  refine QM.block_normal ?_
  refine QM.closeJ hL hCj2 hjj2 hkj2 (kk_top _) ([]) (SubM.mem (by (try dsimp only); (repeat' (first | exact SubM.nil _ | refine SubM.cons rfl ?_ | refine SubM.app ?_ | exact SubM.all _ | exact SubM.spl)))) (by (try dsimp only); (repeat' (first | exact pn_nil | exact pn_sameR (fun p hp => (hin p hp).2) | refine pn_cons (by first | (left; omega) | (right; simp; done)) rfl ?_ | refine pn_app ?_ ?_))) ?_
  refine QM.leaveDJ (ds := (D0 :: [])) (.inr rfl) [] Try.results42 rfl hn0 (hd_cons hD0 hd_nil) (gl_j hL (Nat.le_refl _) (gl_top _)) ?_
  intro w' hm' hg'
  exact .inl hg'.1
 ·
  rintro ⟨⟩ D0 hD0 hx
  exact hx.elim
 rintro id ⟨⟩ D0 hD0 hx
 exact hx.elim
set_option maxRecDepth 100000 in
theorem of_seq_nil {c1 c2 : Nat} {key : Int} : SeqCP Try.prog 42 #[.pointer (some ⟨c1, 0, none⟩),  .pointer (some ⟨c2, 0, none⟩)] ([]) (fun w => Mem w [tF c1 none]) (True) := by
 refine SeqCP.enter (lb := [.pointer (some ⟨c1, 0, none⟩),  .pointer (some ⟨c2, 0, none⟩)]) Try.func42 rfl Try.ntmps42 rfl ?_
 intro l0 n0 J Jx w0 hn0 hfin hJr hL hy
 refine wpM.openJ (n := n0) (fun wj1 hmj1 hCj1 hjj1 hkj1 => ?_)
 refine wpM.seq (wpM.region ?_)
 refine LM.box rfl rfl (fun b3 hb3 => ?_)
 refine LM.nil (QM.sub (e' := [(1, _), (2, _), (3, _)]) au9 (QM.then ?_))
 refine wpM.seq ?_
 refine wpM.seq (wpM.region ?_)
 refine LM.rdC (fun w hm hc hg => om_ld (M := tF c1 none :: []) Try.isAgg25 rfl rfl w ((hL.rd hJr hjj1 hc))) ?_
 refine LM.val (ov_peql (by kernel_rfl) rfl rfl) ?_
 refine LM.nil (QM.sub (e' := [(1, _), (2, _), (3, _), (7, _)]) au9 (QM.then ?_))
 first | refine wpM.condD rfl (fun h1 => ?_) (fun h1 => ?_) | refine wpM.condB rfl (fun h1 => ?_) (fun h1 => ?_)
 ·
  refine wpM.ret ?_
  refine QM.then_ret ?_
  refine QM.closeJ hL hCj1 hjj1 hkj1 (kk_top _) ([]) (SubM.mem (by (try dsimp only); (repeat' (first | exact SubM.nil _ | refine SubM.cons rfl ?_ | refine SubM.app ?_)))) (by (try dsimp only); (repeat' (first | exact pn_nil | refine pn_cons (by first | (left; omega) | (right; simp; done)) rfl ?_ | refine pn_app ?_ ?_))) ?_
  refine QM.leaveDJ (ds := ([])) (.inl rfl) [] Try.results42 rfl hn0 hd_nil (gl_j hL (Nat.le_refl _) (gl_top _)) ?_
  intro w' hm' hg'
  exact .inl hg'.1
 cases h1
theorem of_seq {most each : Int} {n0 T b c1 c2 : Nat} {L : List Wt} {m : Mem0} (key : Int) (h : TbM most each n0 T L b m) :
    SeqCP Try.prog 42 #[.pointer (some ⟨c1, 0, none⟩), .pointer (some ⟨c2, 0, none⟩)] (ofA (LF L key)) (fun w => Mem w (tF c1 (some ⟨b, 0, none⟩) :: kF c2 key :: m)) True := by
  obtain ⟨bh, S, mq, mh, rfl, h1, h2, h3⟩ := h
  obtain ⟨ad, n, cap, bs, es, cl, F, R, sp, mr, rfl, hR, he, hb, hbs, hRT, hQ⟩ := h1
  have hrd : ∀ w, Mem w (tF c1 (some ⟨b, 0, none⟩) :: kF c2 key :: (tbC b ad n cap most each bs bh :: (bs, .map es cl) :: mr ++ mh)) → Mem w (tF c1 (some ⟨b, 0, none⟩) :: kF c2 key :: tbC b ad n cap most each bs bh :: mr) := fun w hm =>
    (show Mem w (tF c1 (some ⟨b, 0, none⟩) :: kF c2 key :: tbC b ad n cap most each bs bh :: (bs, .map es cl) :: (mr ++ mh)) from hm).sub ((((List.sublist_append_left mr mh).cons (bs, .map es cl)).cons_cons (tbC b ad n cap most each bs bh)).cons_cons (kF c2 key) |>.cons_cons (tF c1 (some ⟨b, 0, none⟩)))
  cases hF : F key with
  | some r =>
    have k := (of_seq_some (most := most) (b := b) (bs := bs) (bh := bh) (c1 := c1) (c2 := c2) hR hF).rdm hrd
    rw [(hQ.fs key r hF).2.1] at k; exact k
  | none =>
    have k := (of_seq_none (most := most) (b := b) (bs := bs) (bh := bh) (c1 := c1) (c2 := c2) hR hF).rdm hrd
    rw [hQ.fn key hF]; exact k
def fstW (L : List Wt) (key : Int) : Wt := (LF L key).headD default
set_option maxRecDepth 100000 in
theorem tfirst_spec {most each : Int} {n0 T b : Nat} {L : List Wt} {m : Mem0} (key : Int) (w : World) (h : TbM most each n0 T L b m) (hM : Mem w m) : Ret Try.prog 31 #[.pointer (some ⟨b, 0, none⟩), .int .i64 key] w (fun u w' => u = .tuple #[.agg (fWt (fstW L key)).toArray, .bool (decide (0 < cntL L key))] ∧ Ext w w') := by
 refine Ret.enterM (l := [.pointer (some ⟨b, 0, none⟩), .int .i64 key]) Try.func31 rfl Try.ntmps31 rfl (m ++ []) (no) (by rw [List.append_nil]; exact hM) ?_
 refine wpM.seq (wpM.region ?_)
 refine LM.alloc Try.zeroValue32 rfl (fun b4 hb4 => ?_)
 refine LM.alloc Try.zeroValue4 rfl (fun b5 hb5 => ?_)
 refine LM.nil (QM.sub (e' := [(0, _), (1, _), (4, _), (5, _)]) au9 (QM.then ?_))
 refine wpM.seq ?_
 refine wpM.seq (wpM.region ?_)
 refine LM.mv rfl (LM.mv rfl ?_)
 refine LM.callT (oc_call (enters_fn Try.func22 (by kernel_rfl) rfl) rfl) OfT.mono (fun w hm hc hg => of_spec (some ⟨b, 0, none⟩) key w) ?_
 rintro u9 m9 ⟨c1, c2, rfl, rfl, hc1, hc2⟩ -
 refine LM.nil (QM.sub (e' := [(4, _), (5, _), (9, _)]) au9 (QM.then ?_))
 refine wpM.block ?_
 refine wpM.toRange (α := Unit) (fun k ⟨⟩ => tF c1 (some ⟨b, 0, none⟩) :: kF c2 key :: (m ++ ((b4, .cells (fWt default).toArray 32 (0, 0)) :: (b5, .cells #[.bool false] 4 (0, 0)) :: []))) (⟨⟩) au1 ?_
 refine wpM.rangeP (α := Unit) (β := Unit) (enters_fn Try.func42 (by kernel_rfl) rfl) rfl (of_seq (c1 := c1) (c2 := c2) key h) (fun k ⟨⟩ Mp => tF c1 (some ⟨b, 0, none⟩) :: kF c2 key :: (m ++ ((b4, .cells (fWt default).toArray 32 (0, 0)) :: (b5, .cells #[.bool false] 4 (0, 0)) :: (Mp ++ [])))) (by rintro k ⟨⟩ Mp; first | rfl | simp) (fun _ _ => top) (fun k ⟨⟩ => k = 0) (fun ⟨⟩ => (b4, .cells (fWt (fstW L key)).toArray 32 (0, 0)) :: (b5, .cells #[.bool true] 4 (0, 0)) :: []) (fun _ => top) (fun c ⟨⟩ => c = .ret ∧ 0 < cntL L key) ⟨⟩ rfl (fun _ h => h) rfl (by kernel_rfl) (by intro k av hav; obtain ⟨x, hx, rfl⟩ := ofA_inv hav; rfl) (.inl trivial) (fun k a w hm hc hg _ => hm.pick (tF c1 (some ⟨b, 0, none⟩) :: kF c2 key :: m)) (fun _ _ _ _ => gl_top _) (fun _ _ _ => gl_top _) (fun k x _ => mm_cons rfl (mm_cons rfl (mm_app h.wlk (mm_cons rfl (mm_cons rfl mm_nil))))) (fun c z _ => mm_cons rfl (mm_cons rfl mm_nil)) ?_ ?_ ?_ ?_
 ·
  rintro k av ⟨⟩ l D rc n1 W1 Mp hD hll hput hrc hav hk
  change wpM _ _ _ _ _ _ _ ((l, Obj.loop rc) :: ([(D, Obj.deferred (some []))] ++ (tF c1 (some ⟨b, 0, none⟩) :: kF c2 key :: (m ++ ((b4, .cells (fWt default).toArray 32 (0, 0)) :: (b5, .cells #[.bool false] 4 (0, 0)) :: (Mp ++ [])))))) _ _ _
  obtain ⟨x, hx, rfl⟩ := ofA_inv hav; rw [hk] at hx; have hfx : x = fstW L key ∧ 0 < cntL L key := (by unfold fstW cntL; cases hL : LF L key with | nil => rw [hL] at hx; cases hx | cons y l => rw [hL] at hx; exact ⟨(Option.some.inj hx).symm, by simp⟩); obtain ⟨rfl, hpos⟩ := hfx
  refine wpM.region ?_
  refine LM.alloc Try.zeroValue32 rfl (fun b6 hb6 => ?_)
  refine LM.stW Try.sizeOf32 rfl rfl rfl rfl au7 au8 ?_
  refine LM.nil (QM.sub (e' := [(4, _), (5, _), (6, _)]) au9 ?_)
  refine QM.toBodyF (hput k ⟨⟩) hll ?_
  refine wpM.block ?_
  refine wpM.seq (wpM.region ?_)
  refine LM.rd (om_ldW Try.isAgg32 Try.sizeOf32 rfl rfl) ?_
  refine LM.stW Try.sizeOf32 rfl rfl rfl rfl au7 au8 ?_
  refine LM.st Try.sizeOf4 rfl rfl rfl au5 rfl au8 ?_
  refine LM.nil (QM.sub (e' := [(4, _), (5, _)]) au9 (QM.then ?_))
  refine wpM.ret ?_
  refine QM.block_ret ?_
  refine QM.rret (⟨⟩) (SubM.mem au1) (fun _ h => h) ?_
  · exact ⟨rfl, hpos⟩
 ·
  rintro ⟨⟩ D0 hD0 hk
  refine QM.sub (e' := [(4, _), (5, _)]) au9 ?_
  refine QM.block_normal ?_
  refine QM.then (wpM.seq (wpM.region ?_))
  refine LM.val (ov_build (cs := #[_, _, _]) rfl (by first | rfl | kernel_rfl)) ?_
  refine LM.stW Try.sizeOf32 rfl rfl rfl rfl au7 au8 ?_
  refine LM.st Try.sizeOf4 rfl rfl rfl au5 rfl au8 ?_
  refine LM.nil (QM.sub (e' := [(4, _), (5, _)]) au9 (QM.then ?_))
  refine wpM.ret ?_
  refine QM.leaveCs (ds := (D0 :: [])) (.inl rfl) [.cell 4 32, .cell 5 4] Try.results31 (hd_cons hD0 hd_nil) (rc_w rfl Try.isAgg32 Try.sizeOf32 rfl (rc_c rfl Try.isAgg4 rfl rc_nil)) ?_
  intro w' hm' hc'
  have h0 : LF L key = [] := List.eq_nil_of_length_eq_zero (by rw [← ofA_len]; exact hk); refine ⟨?_, hc'⟩; unfold fstW cntL; rw [h0]; rfl
 ·
  rintro ⟨⟩ D0 hD0 hx
  obtain ⟨-, hx⟩ := hx
  refine QM.block_ret ?_
  refine QM.then_ret ?_
  refine QM.leaveCs (ds := (D0 :: [])) (.inl rfl) [.cell 4 32, .cell 5 4] Try.results31 (hd_cons hD0 hd_nil) (rc_w rfl Try.isAgg32 Try.sizeOf32 rfl (rc_c rfl Try.isAgg4 rfl rc_nil)) ?_
  intro w' hm' hc'
  refine ⟨?_, hc'⟩; rw [decide_eq_true hx]; rfl
 rintro id ⟨⟩ D0 hD0 hx
 first | exact hx.elim | cases hx.1 | cases hx
end Go.Eng
namespace Go.Eng
open Go Go.Proofs Go.RowKit
theorem fstW_mem {L : List Wt} {key : Int} (h : 0 < cntL L key) : fstW L key ∈ L ∧ (fstW L key).key = key := by
  unfold fstW cntL at *
  cases hL : LF L key with
  | nil => rw [hL] at h; cases h
  | cons y l => exact LF_mem.1 (by rw [hL]; exact List.mem_cons_self ..)
def wakeF (key n : Int) : Nat → List Int → List Wt → List Int × List Wt
  | 0, o, L => (o, L)
  | f + 1, o, L => if (o.length : Int) < n ∧ 0 < cntL L key then wakeF key n f (o ++ [(fstW L key).who]) (rmW L (fstW L key).who) else (o, L)
theorem wakeF_go {key n : Int} {f : Nat} {o : List Int} {L : List Wt} (h : (o.length : Int) < n ∧ 0 < cntL L key) : wakeF key n (f + 1) o L = wakeF key n f (o ++ [(fstW L key).who]) (rmW L (fstW L key).who) := if_pos h
theorem wakeF_stop {key n : Int} {f : Nat} {o : List Int} {L : List Wt} (h : ¬ ((o.length : Int) < n ∧ 0 < cntL L key)) : wakeF key n f o L = (o, L) := by
  cases f with
  | zero => rfl
  | succ f => exact if_neg h
def WkT (most each : Int) (n0 T b k : Nat) (oL : List Int × List Wt) (u : Value) (m : Mem0) : Prop := ∃ mo mt, Sl fI 3 1 k oL.1 u mo ∧ m = mo ++ mt ∧ TbM most each n0 T oL.2 b mt
theorem wk_leaf {most each : Int} {n0 T b : Nat} {oL : List Int × List Wt} {u : Value} {m mo mt M : Mem0} {w w' : World} (hs : Sl fI 3 1 w.heap.size oL.1 u mo) (ht : TbM most each n0 T oL.2 b mt) (hm : Mem w' M) (hsub : SubM M (mo ++ (mt ++ []))) (hc : Chg (inM m) w w') (hin : inn m w.heap.size mt) : Upd m (WkT most each n0 T b w.heap.size oL) w u w' := by
  rw [List.append_nil] at hsub
  refine ⟨hc, _, ⟨mo, mt, hs, rfl, ht⟩, hsub.mem w' hm, fun p hp => ?_⟩
  rcases List.mem_append.1 hp with hp | hp
  · exact .inl (hs.ge p hp)
  · exact hin p hp
set_option maxRecDepth 100000 in
theorem twake_spec {most each : Int} {n0 T b : Nat} {L : List Wt} {m : Mem0} (key n : Int) (w : World) (h : TbM most each n0 T L b m) (hM : Mem w m) : Ret Try.prog 11 #[.pointer (some ⟨b, 0, none⟩), .int .i64 key, .int .i64 n] w (Upd m (WkT most each n0 T b w.heap.size (wakeF key n L.length [] L)) w) := by
 refine Ret.enterM (l := [.pointer (some ⟨b, 0, none⟩), .int .i64 key, .int .i64 n]) Try.func11 rfl Try.ntmps11 rfl (m ++ []) ((inM m)) (by rw [List.append_nil]; exact hM) ?_
 refine wpM.seq (wpM.region ?_)
 refine LM.as rfl ?_
 refine LM.nil (QM.sub (e' := [(0, _), (1, _), (2, _)]) au9 (QM.then (wpM.seq (wpM.region ?_))))
 refine LM.as rfl ?_
 refine LM.nil (QM.sub (e' := [(0, _), (1, _), (2, _), (7, _)]) au9 (QM.then ?_))
 refine wpM.seq ?_
 refine wpM.block ?_
 refine wpM.loopK0 (α := Nat × List Int × Option Addr × Nat × Nat × Mem0 × List Wt × Mem0) (fun ⟨f, o, ad, no, cap, mo, L', mt⟩ => [(7, .slice ad no cap)]) [(0, _), (1, _), (2, _)] (fun ⟨f, o, ad, no, cap, mo, L', mt⟩ => mo ++ (mt ++ [])) (fun ⟨f, o, ad, no, cap, mo, L', mt⟩ => Sl fI 3 1 w.heap.size o (.slice ad no cap) mo ∧ TbM most each n0 T L' b mt ∧ inn m w.heap.size mt ∧ L'.length ≤ f ∧ o.length + f ≤ 5000 ∧ wakeF key n f o L' = wakeF key n L.length [] L) (fun ⟨f, o, ad, no, cap, mo, L', mt⟩ => f) ((L.length, [], none, 0, 0, [], L, m)) ⟨au2, rfl, rfl, rfl, trivial⟩ au1 ⟨Sl.nil _ _ _ _, h, inn_refl _ _, Nat.le_refl _, by have := h.lim; simp only [List.length_nil]; omega, rfl⟩ ?_
 rintro ⟨f, o, ad, no, cap, mo, L', mt⟩ ⟨hs, ht, hin, hf, hof, hwk⟩
 change wpM _ _ _ _ _ _ _ (mo ++ (mt ++ [])) _ _ _
 have hsl := hs.len.1
 refine wpM.seq ?_
 refine wpM.seq (wpM.region ?_)
 refine LM.mv rfl ?_
 refine LM.val (ov_len Try.underlying29 rfl) ?_
 refine LM.mv rfl ?_
 refine LM.val (ov_lss rfl rfl) ?_
 refine LM.nil (QM.sub (e' := [(0, _), (1, _), (2, _), (7, _), (13, _)]) au9 (QM.then ?_))
 refine wpM.condD rfl (fun h1 => ?_) (fun h1 => ?_)
 ·
  refine wpM.skip ?_
  refine QM.then ?_
  refine wpM.block ?_
  refine wpM.seq (wpM.region ?_)
  refine LM.mv rfl (LM.mv rfl ?_)
  refine LM.callE (oc_call (enters_fn Try.func31 (by kernel_rfl) rfl) rfl) (fun w hm hc hg => tfirst_spec key w ht (hm.pick mt)) ?_
  refine LM.mv rfl ?_
  refine LM.val (ov_extract rfl rfl) ?_
  refine LM.val (ov_extract rfl rfl) ?_
  refine LM.alloc Try.zeroValue32 rfl (fun b8 hb8 => ?_)
  refine LM.stW Try.sizeOf32 rfl rfl rfl rfl au7 au8 ?_
  refine LM.as rfl ?_
  refine LM.nil (QM.sub (e' := [(0, _), (1, _), (2, _), (7, _), (8, _), (9, _)]) au9 (QM.then ?_))
  refine wpM.seq ?_
  refine wpM.seq (wpM.region ?_)
  refine LM.mv rfl ?_
  refine LM.val (ov_notD rfl) ?_
  refine LM.nil (QM.sub (e' := [(0, _), (1, _), (2, _), (7, _), (8, _), (21, _)]) au9 (QM.then ?_))
  refine wpM.condD rfl (fun h2 => ?_) (fun h2 => ?_)
  ·
   refine wpM.exit ?_
   refine QM.then_exit ?_
   refine QM.block_miss rfl ?_
   refine QM.then_exit ?_
   refine QM.block_hit ?_
   refine QM.then (wpM.seq (wpM.region ?_))
   refine LM.mv rfl (LM.as rfl ?_)
   refine LM.nil (QM.sub (e' := [(6, _)]) ⟨rfl, trivial⟩ (QM.then ?_))
   refine wpM.ret ?_
   refine QM.leave (.inl rfl) [.tmp 6] Try.results11 rfl ?_
   intro w' hm' hc' hg'
   have hz : ¬ 0 < cntL L' key := (by first | exact h2 | simpa using h2); rw [wakeF_stop (fun z => hz z.2)] at hwk; rw [← hwk]; exact wk_leaf (oL := (o, L')) hs ht hm' (by (repeat' (first | exact SubM.nil _ | refine SubM.cons (by rfl) ?_ | refine SubM.app ?_))) hc' hin
  have hpos : 0 < cntL L' key := (by first | exact Classical.not_not.1 h2 | exact h2 | simpa using h2); have hfm := fstW_mem hpos; have hf0 : 0 < f := (by have := List.length_pos_of_mem hfm.1; omega)
  refine wpM.skip ?_
  refine QM.then (wpM.seq (wpM.region ?_))
  refine LM.mv rfl (LM.val (ov_field Try.underlying32 rfl Try.sizeOf3 rfl (k := 0) rfl rfl) ?_)
  refine LM.rd (om_ld Try.isAgg3 rfl rfl) ?_
  refine LM.cU (oc_call (enters_fn Try.func13 (by kernel_rfl) rfl) rfl) (fun w hm hc hg => tcancel_yes (fstW L' key) w ht hfm.1 (hm.pick mt)) ht.wlk (inn_S hin inM_in) ?_
  rintro u25 m25 ⟨rfl, h25⟩ hin25
  refine LM.nil (QM.sub (e' := [(0, _), (1, _), (2, _), (7, _), (8, _)]) au9 (QM.then (wpM.region ?_)))
  refine LM.mv rfl (LM.val (ov_field Try.underlying32 rfl Try.sizeOf3 rfl (k := 0) rfl rfl) ?_)
  refine LM.rd (om_ld Try.isAgg3 rfl rfl) ?_
  refine LM.single Try.underlying29 Try.sizeOf3 Try.zeroValue3 rfl rfl rfl rfl rfl (fun b29 hb29 => ?_)
  refine LM.app (a := (fstW L' key).who) Try.underlying29 Try.typeInfo3 rfl rfl rfl rfl rfl rfl rfl (by assumption) (by rfl) (by intro _; rfl) (by intro _ u hu; simp [fI] at hu; (repeat (first | (rcases hu with rfl | hu) | subst hu | rfl))) (by first | exact Nat.le_refl _ | omega) au10 (by first | omega | (unfold maxLen; omega)) (by simp only [Try.t3]; omega) (fun ad30 n30 cap30 m30 hn30 hs30 hin30 => ?_)
  refine LM.as rfl ?_
  refine LM.nil (QM.sub (e' := [(0, _), (1, _), (2, _), (7, _)]) au9 ?_)
  refine QM.block_normal ?_
  refine QM.againK (f - 1, o ++ [(fstW L' key).who], ad30, n30, cap30, m30, rmW L' (fstW L' key).who, m25) ⟨au2, rfl, rfl, rfl, trivial⟩ au1 (fun _ h => h) ?_ ?_
  · exact ⟨hs30, h25, inn_trans hin hin25, by have := rm_len ht.lim.2.2.2 hfm.1; omega, by have := rm_len ht.lim.2.2.2 hfm.1; rw [List.length_append, List.length_singleton]; omega, by rw [← hwk]; obtain ⟨f', rfl⟩ : ∃ f', f = f' + 1 := ⟨f - 1, by have := List.length_pos_of_mem hfm.1; omega⟩; exact (wakeF_go ⟨by omega, hpos⟩).symm⟩
  · first | omega | (dsimp only; omega)
 refine wpM.exit ?_
 refine QM.then_exit ?_
 refine QM.then_exit ?_
 refine QM.block_hit ?_
 refine QM.then (wpM.seq (wpM.region ?_))
 refine LM.mv rfl (LM.as rfl ?_)
 refine LM.nil (QM.sub (e' := [(6, _)]) ⟨rfl, trivial⟩ (QM.then ?_))
 refine wpM.ret ?_
 refine QM.leave (.inl rfl) [.tmp 6] Try.results11 rfl ?_
 intro w' hm' hc' hg'
 rw [wakeF_stop (by omega)] at hwk; rw [← hwk]; exact wk_leaf (oL := (o, L')) hs ht hm' (by (repeat' (first | exact SubM.nil _ | refine SubM.cons (by rfl) ?_ | refine SubM.app ?_))) hc' hin
def toKey (x : Wt) (to : Int) : Wt := { x with key := to }
end Go.Eng
namespace Go.Eng
open Go Go.Proofs Go.RowKit
def exW (L : List Wt) (id : Int) : Wt := (L.find? (fun w => decide (w.who = id))).getD default
theorem exW_of {L : List Wt} (h : Wd1 L) {w : Wt} (hw : w ∈ L) : exW L w.who = w := by
  unfold exW
  cases hf : L.find? (fun x => decide (x.who = w.who)) with
  | none => have := List.find?_eq_none.1 hf w hw; simp at this
  | some y =>
    have h1 := List.mem_of_find?_eq_some hf
    have h2 := List.find?_some hf
    exact wd_eq h h1 hw (of_decide_eq_true h2)
def exL (L : List Wt) : List Hi → List Wt
  | [] => L
  | s :: l => exL (rmW L s.id) l
theorem exL_snoc : ∀ (l : List Hi) (L : List Wt) (s : Hi), exL L (l ++ [s]) = rmW (exL L l) s.id
  | [], L, s => rfl
  | x :: l, L, s => exL_snoc l (rmW L x.id) s
theorem exL_mem : ∀ {l : List Hi} {L : List Wt} {w : Wt}, w ∈ exL L l ↔ w ∈ L ∧ ∀ s ∈ l, w.who ≠ s.id
  | [], L, w => by simp [exL]
  | x :: l, L, w => by
    show w ∈ exL (rmW L x.id) l ↔ _
    rw [exL_mem, rm_mem]
    simp only [List.forall_mem_cons]; exact and_assoc
theorem exL_wd : ∀ {l : List Hi} {L : List Wt}, Wd1 L → Wd1 (exL L l)
  | [], L, h => h
  | x :: l, L, h => exL_wd (l := l) (wd_rm h x.id)
theorem take_sd {S : List Hi} {k : Nat} (h : k < S.length) : S.take (k + 1) = S.take k ++ [sd S k] := by
  rw [List.take_succ_eq_append_getElem h]; unfold sd; rw [List.getD_eq_getElem?_getD, List.getElem?_eq_getElem h]; rfl
theorem exL_succ {L : List Wt} {S : List Hi} {k : Nat} (h : k < S.length) : exL L (S.take (k + 1)) = rmW (exL L (S.take k)) (sd S k).id := by rw [take_sd h, exL_snoc]
theorem tbh_k {L : List Wt} {S : List Hi} (h : TbH L S) (hi : S.Pairwise (fun a b => a.id ≠ b.id)) (k : Nat) : TbH (exL L (S.take k)) (S.drop k) := by
  have hsp : ∀ a ∈ S.take k, ∀ b ∈ S.drop k, a.id ≠ b.id := by
    rw [← List.take_append_drop k S] at hi
    exact (List.pairwise_append.1 hi).2.2
  refine ⟨fun x hx => ?_, fun w hw hne => ?_⟩
  · obtain ⟨w, hw, e, q⟩ := h.hs x (List.mem_of_mem_drop hx)
    exact ⟨w, exL_mem.2 ⟨hw, fun s hs z => hsp s hs x hx (by rw [← z, e])⟩, e, q⟩
  · obtain ⟨h1, h2⟩ := exL_mem.1 hw
    obtain ⟨x, hx, e, q⟩ := h.hc w h1 hne
    rw [← List.take_append_drop k S] at hx
    rcases List.mem_append.1 hx with hx | hx
    · exact absurd e.symm (h2 x hx)
    · exact ⟨x, hx, e, q⟩
theorem ex_k {L : List Wt} {S : List Hi} (h : TbH L S) (hw : Wd1 L) (hi : S.Pairwise (fun a b => a.id ≠ b.id)) {k : Nat} (hk : k < S.length) : exW L (sd S k).id ∈ exL L (S.take k) ∧ (exW L (sd S k).id).who = (sd S k).id ∧ (exW L (sd S k).id).til = (sd S k).V ∧ (exW L (sd S k).id).til ≠ 0#64 := by
  have hd : sd S k ∈ S.drop k := by rw [sd_drop hk]; exact List.mem_cons_self ..
  obtain ⟨w, hw1, e, q⟩ := (tbh_k h hi k).hs _ hd
  have := exW_of hw (exL_mem.1 hw1).1
  rw [e] at this
  rw [this]; exact ⟨hw1, e, q⟩
def exA (u : BitVec 64) (L : List Wt) (S : List Hi) : List (Array Value) := (S.take (dueN u S)).map (fun s => #[.agg (fWt (exW L s.id)).toArray])
theorem exA_len (u : BitVec 64) (L : List Wt) (S : List Hi) : (exA u L S).length = dueN u S := by
  unfold exA; rw [List.length_map, List.length_take]; have := dueN_le u S; omega
theorem exA_get {u : BitVec 64} {L : List Wt} {S : List Hi} {k : Nat} (h : k < dueN u S) : (exA u L S)[k]? = some #[.agg (fWt (exW L (sd S k).id)).toArray] := by
  have hl := dueN_le u S
  unfold exA; rw [List.getElem?_map, List.getElem?_take, if_pos h]
  unfold sd; rw [List.getD_eq_getElem?_getD, List.getElem?_eq_getElem (by omega)]; rfl
theorem exA_inv {u : BitVec 64} {L : List Wt} {S : List Hi} {k : Nat} {av : Array Value} (h : (exA u L S)[k]? = some av) : k < dueN u S ∧ av = #[.agg (fWt (exW L (sd S k).id)).toArray] := by
  have hk : k < dueN u S := by have := (List.getElem?_eq_some_iff.1 h).1; rwa [exA_len] at this
  rw [exA_get hk] at h
  exact ⟨hk, (Option.some.inj h).symm⟩
def ExA (g : Option Addr) (u : BitVec 64) (n0 : Nat) (v : Value) (m : Mem0) : Prop := ∃ c1 c2, v = .func (.func 40) #[] #[.pointer (some ⟨c1, 0, none⟩), .pointer (some ⟨c2, 0, none⟩)] ∧ m = tF c1 g :: uF c2 u :: [] ∧ n0 ≤ c1 ∧ n0 ≤ c2
theorem ExA.mono {g : Option Addr} {u : BitVec 64} : ∀ (k k' : Nat) v m, k' ≤ k → ExA g u k v m → ExA g u k' v m := fun k k' v m h ⟨c1, c2, h1, h2, h3, h4⟩ => ⟨c1, c2, h1, h2, by omega, by omega⟩
def ExT (most each : Int) (nT T b bh : Nat) (L : List Wt) (S : List Hi) (k : Nat) (m : Mem0) : Prop := ∃ mq mh rest, TqM most each nT T (exL L (S.take k)) b bh mq ∧ HoM 4096 nT bh (S.drop k) mh ∧ m.Perm ((mq ++ mh) ++ rest)
theorem ext_of {most each : Int} {nT T b bh k : Nat} {L : List Wt} {S : List Hi} {mq mh Mp : Mem0} {p1 p2 p3 p4 p5 : Nat × Obj} (hq : TqM most each nT T (exL L (S.take k)) b bh mq) (hS : HoM 4096 nT bh (S.drop k) mh) (e : Mp = p4 :: p5 :: mh) : ExT most each nT T b bh L S k ((p1 :: p2 :: p3 :: mq) ++ Mp) := by
  subst e
  refine ⟨mq, mh, [p1, p2, p3, p4, p5], hq, hS, ?_⟩
  show (p1 :: p2 :: p3 :: (mq ++ p4 :: p5 :: mh)).Perm _
  have h1 : (mq ++ p4 :: p5 :: mh).Perm (p4 :: p5 :: (mq ++ mh)) := (List.perm_middle).trans (List.perm_middle.cons p4)
  refine ((h1.cons p3).cons p2 |>.cons p1).trans ?_
  exact (List.perm_append_comm (l₁ := [p1, p2, p3, p4, p5]) (l₂ := mq ++ mh))
set_option maxRecDepth 100000 in
theorem expire_spec (g : Option Addr) (u : BitVec 64) (w : World) : Ret Try.prog 21 #[.pointer g, U u] w (fun v w' => Ext w w' ∧ ∃ m, ExA g u w.heap.size v m ∧ Mem w' m ∧ ∀ p ∈ m, w.heap.size ≤ p.1) := by
 refine Ret.enterM (l := [.pointer g, U u]) Try.func21 rfl Try.ntmps21 rfl ([]) (no) (Mem.nil w) ?_
 refine wpM.seq (wpM.region ?_)
 refine LM.box rfl rfl (fun b2 hb2 => ?_)
 refine LM.box rfl rfl (fun b3 hb3 => ?_)
 refine LM.as rfl ?_
 refine LM.nil (QM.sub (e' := [(2, _), (3, _)]) au9 (QM.then (wpM.seq (wpM.region ?_))))
 refine LM.val (ov_makeFunc rfl) ?_
 refine LM.as rfl ?_
 refine LM.nil (QM.sub (e' := [(4, _)]) ⟨rfl, trivial⟩ (QM.then ?_))
 refine wpM.ret ?_
 refine QM.leave (.inl rfl) [.tmp 4] Try.results21 rfl ?_
 intro w' hm' hc' hg'
 exact ⟨hc', _, ⟨b2, b3, rfl, rfl, hb2, hb3⟩, SubM.mem au1 _ hm', fun p hp => by simp only [List.mem_cons, List.not_mem_nil, or_false] at hp; rcases hp with rfl | rfl <;> assumption⟩
set_option maxRecDepth 100000 in
theorem expire_nil {c1 c2 : Nat} : SeqCP Try.prog 40 #[.pointer (some ⟨c1, 0, none⟩),  .pointer (some ⟨c2, 0, none⟩)] ([]) (fun w => Mem w [tF c1 none]) (True) := by
 refine SeqCP.enter (lb := [.pointer (some ⟨c1, 0, none⟩),  .pointer (some ⟨c2, 0, none⟩)]) Try.func40 rfl Try.ntmps40 rfl ?_
 intro l0 n0 J Jx w0 hn0 hfin hJr hL hy
 refine wpM.openJ (n := n0) (fun wj1 hmj1 hCj1 hjj1 hkj1 => ?_)
 refine wpM.seq (wpM.region ?_)
 refine LM.box rfl rfl (fun b3 hb3 => ?_)
 refine LM.nil (QM.sub (e' := [(1, _), (2, _), (3, _)]) au9 (QM.then ?_))
 refine wpM.seq ?_
 refine wpM.seq (wpM.region ?_)
 refine LM.rdC (fun w hm hc hg => om_ld (M := tF c1 none :: []) Try.isAgg25 rfl rfl w ((hL.rd hJr hjj1 hc))) ?_
 refine LM.val (ov_peql (by kernel_rfl) rfl rfl) ?_
 refine LM.nil (QM.sub (e' := [(1, _), (2, _), (3, _), (8, _)]) au9 (QM.then ?_))
 first | refine wpM.condD rfl (fun h1 => ?_) (fun h1 => ?_) | refine wpM.condB rfl (fun h1 => ?_) (fun h1 => ?_)
 ·
  refine wpM.ret ?_
  refine QM.then_ret ?_
  refine QM.closeJ hL hCj1 hjj1 hkj1 (kk_top _) ([]) (SubM.mem (by (try dsimp only); (repeat' (first | exact SubM.nil _ | refine SubM.cons rfl ?_ | refine SubM.app ?_)))) (by (try dsimp only); (repeat' (first | exact pn_nil | refine pn_cons (by first | (left; omega) | (right; simp; done)) rfl ?_ | refine pn_app ?_ ?_))) ?_
  refine QM.leaveDJ (ds := ([])) (.inl rfl) [] Try.results40 rfl hn0 hd_nil (gl_j hL (Nat.le_refl _) (gl_top _)) ?_
  intro w' hm' hg'
  exact .inl hg'.1
 cases h1
set_option maxRecDepth 100000 in
theorem expire_seq {most each : Int} {nT T b bh c1 c2 : Nat} {L : List Wt} {S : List Hi} {u : BitVec 64} {mq0 mh0 : Mem0} (hq : TqM most each nT T L b bh mq0) (hS : HoM 4096 nT bh S mh0) (hH : TbH L S) : SeqCS Try.prog 40 #[.pointer (some ⟨c1, 0, none⟩),  .pointer (some ⟨c2, 0, none⟩)] (exA u L S) (fun _ => True) (tF c1 (some ⟨b, 0, none⟩) :: uF c2 u :: (mq0 ++ mh0)) (ExT most each nT T b bh L S) (True) := by
 have hwd := hq.lim.2.2.2; have hids := hS.ids; have hq0 := hq; obtain ⟨ad, n, cap, bs, es, cl, F, R, sp, mr, rfl, hR, he, hb, hbs, hRT, hQ⟩ := hq
 refine SeqCS.enter (lb := [.pointer (some ⟨c1, 0, none⟩),  .pointer (some ⟨c2, 0, none⟩)]) Try.func40 rfl Try.ntmps40 rfl ?_
 intro l0 n0 J Jx w0 hn0 hfin hJr hL hy
 refine wpM.openJ (n := n0) (fun wj1 hmj1 hCj1 hjj1 hkj1 => ?_)
 refine wpM.seq (wpM.region ?_)
 refine LM.box rfl rfl (fun b3 hb3 => ?_)
 refine LM.nil (QM.sub (e' := [(1, _), (2, _), (3, _)]) au9 (QM.then ?_))
 refine wpM.seq ?_
 refine wpM.seq (wpM.region ?_)
 refine LM.rd (om_ld Try.isAgg25 rfl rfl) ?_
 refine LM.val (ov_peql (by kernel_rfl) rfl rfl) ?_
 refine LM.nil (QM.sub (e' := [(1, _), (2, _), (3, _), (8, _)]) au9 (QM.then ?_))
 refine wpM.condF rfl ?_
 refine wpM.skip ?_
 refine QM.then ?_
 refine wpM.seq ?_
 refine wpM.draw [(0, 1), (1, 0), (2, 0), (3, 1), (4, 1), (5, 3)] (by kernel_rfl) (by kernel_rfl) ?_
 refine LD.rd rfl rfl (om_ld Try.isAgg25 rfl rfl) ?_
 refine LD.val rfl rfl (ov_nilCheck rfl) ?_
 refine LD.val rfl rfl (ov_field Try.underlying62 rfl Try.sizeOf59 rfl (k := 4) rfl rfl) ?_
 refine LD.rd rfl rfl (om_ld Try.isAgg59 rfl rfl) ?_
 refine LD.rd rfl rfl (om_ld Try.isAgg30 rfl rfl) ?_
 refine LD.tail rfl rfl ?_
 refine LM.callT (oc_call (enters_fn Try.func41 (by kernel_rfl) rfl) rfl) DuA.mono (fun w hm hc hg => due_spec bh u w) ?_
 rintro u14 m14 ⟨c21, c22, rfl, rfl, hc21, hc22⟩ -
 refine LM.nil ?_
 refine QM.qn ?_
 refine QM.sub (e' := [(1, _), (3, _), (14, _)]) au9 (QM.then ?_)
 refine wpM.block ?_
 refine wpM.closeJ hL hCj1 hjj1 hkj1 (kk_top _) ((yF b3 l0 :: tF c1 (some ⟨b, 0, none⟩) :: uF c2 u :: (tbC b ad n cap most each bs bh :: (bs, .map es cl) :: mr)) ++ (hF c21 bh :: uF c22 u :: mh0)) (SubM.mem (by (try dsimp only); (repeat' (first | exact SubM.nil _ | refine SubM.cons rfl ?_ | refine SubM.app ?_ | exact SubM.all _ | exact SubM.spl)))) (by (try dsimp only); (repeat' (first | exact pn_nil | exact pn_sameR (fun p hp => (hin p hp).2) | exact pn_in (fun p hp => (hin21 p hp).imp id (fun ⟨q, hq, e⟩ => ⟨q, List.mem_append_left _ (List.mem_cons_of_mem _ (List.mem_cons_of_mem _ (List.mem_cons_of_mem _ hq))), e⟩)) hq21.wlk | exact pn_in (fun p hp => .inr ⟨p, List.mem_append_left _ (List.mem_cons_of_mem _ (List.mem_cons_of_mem _ (List.mem_cons_of_mem _ hp))), rfl⟩) (TqM.wlk (by assumption)) | exact pn_in (fun p hp => .inr ⟨p, List.mem_cons_of_mem _ (List.mem_cons_of_mem _ (List.mem_append_left _ (List.mem_cons_of_mem _ (List.mem_cons_of_mem _ hp)))), rfl⟩) hR.wlk | exact pn_in (fun p hp => .inr ⟨p, List.mem_cons_of_mem _ (List.mem_cons_of_mem _ (List.mem_append_right _ hp)), rfl⟩) hS.wlk | refine pn_cons (by first | (left; omega) | (right; simp; done)) rfl ?_ | refine pn_app ?_ ?_))) ?_
 refine wpM.toRange (α := Mem0) (fun k mq1 => yF b3 l0 :: tF c1 (some ⟨b, 0, none⟩) :: uF c2 u :: (mq1 ++ (hF c21 bh :: uF c22 u :: mh0 ++ []))) ((tbC b ad n cap most each bs bh :: (bs, .map es cl) :: mr)) (by (repeat' (first | exact SubM.nil _ | refine SubM.cons rfl ?_ | refine SubM.app ?_ | exact SubM.all _ | exact SubM.spl))) ?_
 refine wpM.rangeS (α := Mem0) (β := Unit) (enters_fn Try.func55 (by kernel_rfl) rfl) rfl (due_seq (c1 := c21) (c2 := c22) (u := u) hS) (fun k mq1 Mp => yF b3 l0 :: tF c1 (some ⟨b, 0, none⟩) :: uF c2 u :: (mq1 ++ (Mp ++ []))) (by rintro k mq1 Mp; first | rfl | simp) (fun k mq1 Mp => (fun w => J (k) ((yF b3 l0 :: tF c1 (some ⟨b, 0, none⟩) :: uF c2 u :: mq1) ++ Mp) w ∧ top w)) (fun k mq1 => TqM most each nT T (exL L (S.take k)) b bh mq1) (fun ⟨⟩ => []) (fun _ => (fun w => Jx w ∧ top w)) (fun c ⟨⟩ => c = .ret ∧ True) (tbC b ad n cap most each bs bh :: (bs, .map es cl) :: mr) rfl (fun _ h => h) hq0 (by kernel_rfl) (by intro k av hav; obtain ⟨hkd, rfl⟩ := duA_inv hav; rfl) (by intro p hp; simp only [List.mem_cons] at hp; rcases hp with rfl | rfl | hp; rfl; rfl; exact hS.wlk p hp) (fun _ _ _ => trivial) (.inl trivial) (fun _ _ _ _ _ _ _ _ => trivial) (by rintro k mq1 Mp Mp' w w' g hm hm' hc hn hw hq1; (try dsimp only at g); (try dsimp only at hm); (try dsimp only at hm'); (try dsimp only); exact gu_j (mp := (yF b3 l0 :: tF c1 (some ⟨b, 0, none⟩) :: uF c2 u :: mq1)) hL (kk_top _) (by intro p hp; simp only [List.mem_cons] at hp; rcases hp with rfl | rfl | rfl | hp; rfl; rfl; rfl; exact hq1.wlk p hp) g (hm.pick Mp) (by have h9 := SubM.mem (M' := (yF b3 l0 :: tF c1 (some ⟨b, 0, none⟩) :: uF c2 u :: mq1) ++ (Mp' ++ [])) (by (repeat' (first | exact SubM.nil _ | refine SubM.cons rfl ?_ | refine SubM.app ?_ | exact SubM.all _ | exact SubM.spl))) w' hm'; rw [List.append_nil] at h9; exact h9) hc hn hw) (fun w hg _ _ _ => gl_j hL (hL.le _ _ _ hg.1) (gl_top _)) (fun w hg _ => gl_x hL (hL.le _ _ _ hg.1) (gl_top _)) (fun k x hx => mm_cons rfl (mm_cons rfl (mm_cons rfl (mm_app hx.wlk mm_nil)))) (fun c z _ => by ((repeat (refine mm_cons rfl ?_)); exact fun p hp => .inl (by first | exact hp | (simp at hp; done) | (simp [hp]; done) | (simp at hp ⊢; first | exact .inl hp | exact hp | (simp [hp]; done))))) ?_ ?_ ?_ ?_
 ·
  rintro k av mq1 l D rc n1 W1 Mp hnn hD hll hput hrc hav hT hin hq1
  have hnn1 : n0 ≤ n1 := (by obtain ⟨w, hg, hw⟩ := hnn; exact Nat.le_trans (hL.le _ _ _ hg.1) hw)
  change wpM _ _ _ _ _ _ _ ((l, Obj.loop rc) :: ([(D, Obj.deferred (some []))] ++ (yF b3 l0 :: tF c1 (some ⟨b, 0, none⟩) :: uF c2 u :: (mq1 ++ (Mp ++ []))))) _ _ _
  obtain ⟨hkd, rfl⟩ := duA_inv hav; obtain ⟨mhp, hMp, hSp⟩ := hT; obtain ⟨hx1, hx2, hx3, hx4⟩ := ex_k hH hwd hids (k := k) (by have := dueN_le u S; omega)
  refine wpM.openJ2 (n := n0) (fun wj2 hmj2 hCj2 hjj2 hkj2 => ?_)
  refine wpM.region ?_
  refine LM.alloc Try.zeroValue68 rfl (fun b4 hb4 => ?_)
  refine LM.stW Try.sizeOf68 rfl rfl rfl rfl au7 (fun hlt => by first | exact absurd hlt (by omega) | (simp [inM]; done)) ?_
  refine LM.nil (QM.sub (e' := [(1, _), (3, _), (4, _)]) au9 ?_)
  refine QM.closeJ2 hL hCj2 hjj2 hkj2 (kk_and (kk_top _) hnn1) ((yF b3 l0 :: tF c1 (some ⟨b, 0, none⟩) :: uF c2 u :: mq1) ++ Mp) (SubM.mem (by (try dsimp only); (repeat' (first | exact SubM.nil _ | refine SubM.cons rfl ?_ | refine SubM.app ?_ | exact SubM.all _ | exact SubM.spl)))) (by (try dsimp only); (repeat' (first | exact pn_nil | exact pn_sameR (fun p hp => (hin p hp).2) | exact pn_in (fun p hp => (hin21 p hp).imp id (fun ⟨q, hq, e⟩ => ⟨q, List.mem_append_left _ (List.mem_cons_of_mem _ (List.mem_cons_of_mem _ (List.mem_cons_of_mem _ hq))), e⟩)) hq21.wlk | exact pn_in (fun p hp => .inr ⟨p, List.mem_append_left _ (List.mem_cons_of_mem _ (List.mem_cons_of_mem _ (List.mem_cons_of_mem _ hp))), rfl⟩) (TqM.wlk (by assumption)) | exact pn_in (fun p hp => .inr ⟨p, List.mem_cons_of_mem _ (List.mem_cons_of_mem _ (List.mem_append_left _ (List.mem_cons_of_mem _ (List.mem_cons_of_mem _ hp)))), rfl⟩) hR.wlk | exact pn_in (fun p hp => .inr ⟨p, List.mem_cons_of_mem _ (List.mem_cons_of_mem _ (List.mem_append_right _ hp)), rfl⟩) hS.wlk | refine pn_cons (by first | (left; omega) | (right; simp; done)) rfl ?_ | refine pn_app ?_ ?_))) ?_
  refine QM.toBodyF (hput k mq1 Mp) hll ?_
  refine wpM.openJ2 (n := n0) (fun wj3 hmj3 hCj3 hjj3 hkj3 => ?_)
  refine wpM.block ?_
  refine wpM.seq (wpM.region ?_)
  refine LM.rd (om_ld Try.isAgg25 rfl rfl) ?_
  refine LM.val (ov_field Try.underlying68 rfl Try.sizeOf3 rfl (k := 1) rfl rfl) ?_
  refine LM.rd (om_ld Try.isAgg3 rfl rfl) ?_
  refine LM.cU (oc_call (enters_fn Try.func33 (by kernel_rfl) rfl) rfl) (fun w hm hc hg => (by have q := tlv_spec _ w hq1 hx1 (hm.pick mq1); rw [hx2] at q; exact q)) hq1.wlk (fun p hp _ => ⟨p, List.mem_append_left _ (List.mem_cons_of_mem _ (List.mem_cons_of_mem _ (List.mem_cons_of_mem _ hp))), rfl⟩) ?_
  rintro u21 m21 ⟨rfl, h21⟩ hin21; have hq21 : TqM most each nT T (exL L (S.take (k + 1))) b bh m21 := (by rw [exL_succ (by have := dueN_le u S; omega)]; exact h21)
  refine LM.mv rfl ?_
  refine LM.val (ov_extract rfl rfl) ?_
  refine LM.val (ov_extract rfl rfl) ?_
  refine LM.alloc Try.zeroValue32 rfl (fun b5 hb5 => ?_)
  refine LM.stW Try.sizeOf32 rfl rfl rfl rfl au7 (fun hlt => by first | exact absurd hlt (by omega) | (simp [inM]; done)) ?_
  refine LM.as rfl ?_
  refine LM.nil (QM.sub (e' := [(3, _), (5, _), (6, _)]) au9 (QM.then (wpM.seq (wpM.region ?_))))
  refine LM.mv rfl (LM.mv rfl ?_)
  first | refine LM.splitD (t := 25) rfl (fun h1 => ?_) (fun h1 => ?_) | refine LM.splitB (t := 25) rfl (fun h1 => ?_) (fun h1 => ?_)
  ·
   refine LM.sp 25 rfl rfl rfl ?_
   refine LM.rd (om_ld Try.isAgg75 rfl rfl) ?_
   refine LM.sp 25 rfl rfl rfl ?_
   refine LM.rd (om_ldW Try.isAgg32 Try.sizeOf32 rfl rfl) ?_
   refine LM.sp 25 rfl rfl rfl ?_
   refine LM.yieldS (n := n0) (k := k) hL rfl rfl ((yF b3 l0 :: tF c1 (some ⟨b, 0, none⟩) :: uF c2 u :: m21) ++ Mp) (fun w hj => hy (k) _ _ w (exA_get hkd) (ext_of hq21 hSp hMp) hj) hCj3 hjj3 hkj3 (kk_and (kk_top _) hnn1) ((l, Obj.loop (busyOf rc)) :: (D, Obj.deferred (some [])) :: ([])) ((l, Obj.loop (busyOf rc)) :: (D, Obj.deferred (some [])) :: ((yF b3 l0 :: tF c1 (some ⟨b, 0, none⟩) :: uF c2 u :: m21) ++ Mp)) (by first | rfl | simp only [List.append_assoc, List.cons_append, List.nil_append]) (SubM.mem (by (repeat' (first | exact SubM.nil _ | refine SubM.cons rfl ?_ | refine SubM.app ?_ | exact SubM.all _ | exact SubM.spl)))) (by (repeat' (first | exact pn_nil | refine lo_cons (by omega) rfl ?_ | refine lo_dm (by intro D hD; first | (have := hds1 D hD; omega) | (have := hds2 D hD; omega)) ?_))) (by (try dsimp only); (repeat' (first | exact pn_nil | exact pn_sameR (fun p hp => (hin p hp).2) | exact pn_in (fun p hp => (hin21 p hp).imp id (fun ⟨q, hq, e⟩ => ⟨q, List.mem_append_left _ (List.mem_cons_of_mem _ (List.mem_cons_of_mem _ (List.mem_cons_of_mem _ hq))), e⟩)) hq21.wlk | exact pn_in (fun p hp => .inr ⟨p, List.mem_append_left _ (List.mem_cons_of_mem _ (List.mem_cons_of_mem _ (List.mem_cons_of_mem _ hp))), rfl⟩) (TqM.wlk (by assumption)) | exact pn_in (fun p hp => .inr ⟨p, List.mem_cons_of_mem _ (List.mem_cons_of_mem _ (List.mem_append_left _ (List.mem_cons_of_mem _ (List.mem_cons_of_mem _ hp)))), rfl⟩) hR.wlk | exact pn_in (fun p hp => .inr ⟨p, List.mem_cons_of_mem _ (List.mem_cons_of_mem _ (List.mem_append_right _ hp)), rfl⟩) hS.wlk | refine pn_cons (by first | (left; omega) | (right; simp; done)) rfl ?_ | refine pn_app ?_ ?_))) (fun wj4 hmj4 hCj4 hjj4 hkj4 => ?_) (fun wj4 hmj4 hCj4 hjj4 hkj4 => ?_)
   ·
    change LM _ _ _ _ _ _ _ _ ((l, Obj.loop (busyOf rc)) :: (D, Obj.deferred (some [])) :: ((yF b3 l0 :: tF c1 (some ⟨b, 0, none⟩) :: uF c2 u :: m21) ++ Mp)) _ _ _
    refine LM.sp 25 rfl rfl rfl ?_
    first | refine LM.val (ov_notD rfl) ?_ | refine LM.val (ov_not rfl) ?_
    refine LM.val (ov_pickT rfl rfl) ?_
    refine LM.nil (QM.sub (e' := [(30, _)]) ⟨rfl, trivial⟩ (QM.then ?_))
    refine wpM.condF rfl ?_
    refine wpM.skip ?_
    refine QM.block_normal ?_
    refine QM.closeJ2 hL hCj4 hjj4 hkj4 (kk_and (kk_top _) hnn1) ((fun (k : Nat) => ((fun mq1 => (yF b3 l0 :: tF c1 (some ⟨b, 0, none⟩) :: uF c2 u :: mq1) ++ Mp) : Mem0 → Mem0)) (k + 1) (m21)) (SubM.mem (by (try dsimp only); (repeat' (first | exact SubM.nil _ | refine SubM.cons rfl ?_ | refine SubM.app ?_ | exact SubM.all _ | exact SubM.spl)))) (by (try dsimp only); (repeat' (first | exact pn_nil | exact pn_sameR (fun p hp => (hin p hp).2) | exact pn_in (fun p hp => (hin21 p hp).imp id (fun ⟨q, hq, e⟩ => ⟨q, List.mem_append_left _ (List.mem_cons_of_mem _ (List.mem_cons_of_mem _ (List.mem_cons_of_mem _ hq))), e⟩)) hq21.wlk | exact pn_in (fun p hp => .inr ⟨p, List.mem_append_left _ (List.mem_cons_of_mem _ (List.mem_cons_of_mem _ (List.mem_cons_of_mem _ hp))), rfl⟩) (TqM.wlk (by assumption)) | exact pn_in (fun p hp => .inr ⟨p, List.mem_cons_of_mem _ (List.mem_cons_of_mem _ (List.mem_append_left _ (List.mem_cons_of_mem _ (List.mem_cons_of_mem _ hp)))), rfl⟩) hR.wlk | exact pn_in (fun p hp => .inr ⟨p, List.mem_cons_of_mem _ (List.mem_cons_of_mem _ (List.mem_append_right _ hp)), rfl⟩) hS.wlk | refine pn_cons (by first | (left; omega) | (right; simp; done)) rfl ?_ | refine pn_app ?_ ?_))) ?_
    refine QM.next (m21) (SubM.mem (by (repeat' (first | exact SubM.nil _ | refine SubM.cons rfl ?_ | refine SubM.app ?_ | exact SubM.all _ | exact SubM.spl)))) (fun _ h => h) ?_
    · exact hq21
   change LM _ _ _ _ _ _ _ _ ((l, Obj.loop (busyOf rc)) :: (D, Obj.deferred (some [])) :: ([])) _ _ _
   refine LM.sp 25 rfl rfl rfl ?_
   first | refine LM.val (ov_notD rfl) ?_ | refine LM.val (ov_not rfl) ?_
   refine LM.val (ov_pickT rfl rfl) ?_
   refine LM.nil (QM.sub (e' := [(30, _)]) ⟨rfl, trivial⟩ (QM.then ?_))
   refine wpM.condT rfl ?_
   refine wpM.ret ?_
   refine QM.block_ret ?_
   refine QM.closeX2 hL hCj4 hjj4 hkj4 (kk_and (kk_top _) hnn1) ?_
   refine QM.rret (⟨⟩) (SubM.mem (by (repeat' (first | exact SubM.nil _ | refine SubM.cons rfl ?_ | refine SubM.app ?_ | exact SubM.all _ | exact SubM.spl)))) (fun _ h => h) ?_
   · exact ⟨rfl, trivial⟩
  cases h1
 ·
  rintro mq1 Mp D0 hD0 hT hin hq1
  refine QM.openJ (n := n0) (fun wj5 hmj5 hCj5 hjj5 hkj5 => ?_)
  refine QM.sub (e' := []) trivial ?_
  refine QM.block_normal ?_
  refine QM.closeJ hL hCj5 hjj5 hkj5 (kk_top _) ((yF b3 l0 :: tF c1 (some ⟨b, 0, none⟩) :: uF c2 u :: mq1) ++ Mp) (SubM.mem (by (try dsimp only); (repeat' (first | exact SubM.nil _ | refine SubM.cons rfl ?_ | refine SubM.app ?_ | exact SubM.all _ | exact SubM.spl)))) (by (try dsimp only); (repeat' (first | exact pn_nil | exact pn_sameR (fun p hp => (hin p hp).2) | exact pn_in (fun p hp => (hin21 p hp).imp id (fun ⟨q, hq, e⟩ => ⟨q, List.mem_append_left _ (List.mem_cons_of_mem _ (List.mem_cons_of_mem _ (List.mem_cons_of_mem _ hq))), e⟩)) hq21.wlk | exact pn_in (fun p hp => .inr ⟨p, List.mem_append_left _ (List.mem_cons_of_mem _ (List.mem_cons_of_mem _ (List.mem_cons_of_mem _ hp))), rfl⟩) (TqM.wlk (by assumption)) | exact pn_in (fun p hp => .inr ⟨p, List.mem_cons_of_mem _ (List.mem_cons_of_mem _ (List.mem_append_left _ (List.mem_cons_of_mem _ (List.mem_cons_of_mem _ hp)))), rfl⟩) hR.wlk | exact pn_in (fun p hp => .inr ⟨p, List.mem_cons_of_mem _ (List.mem_cons_of_mem _ (List.mem_append_right _ hp)), rfl⟩) hS.wlk | refine pn_cons (by first | (left; omega) | (right; simp; done)) rfl ?_ | refine pn_app ?_ ?_))) ?_
  refine QM.leaveDJ (ds := (D0 :: [])) (.inr rfl) [] Try.results40 rfl hn0 (hd_cons hD0 hd_nil) (gl_j hL (Nat.le_refl _) (gl_top _)) ?_
  intro w' hm' hg'
  obtain ⟨mhp, hMp, hSp⟩ := hT; exact .inl ⟨_, ext_of (by rw [show (exA u L S).length = (duA u S).length by rw [exA_len, duA_len]]; exact hq1) (by rw [show (exA u L S).length = (duA u S).length by rw [exA_len, duA_len]]; exact hSp) hMp, by rw [show (exA u L S).length = (duA u S).length by rw [exA_len, duA_len]]; exact hg'.1⟩
 ·
  rintro ⟨⟩ D0 hD0 hx
  obtain ⟨-, hx⟩ := hx
  refine QM.openX (n := n0) (fun wj6 hmj6 hCj6 hjj6 hkj6 => ?_)
  refine QM.block_ret ?_
  refine QM.closeX hL hCj6 hjj6 hkj6 (kk_top _) ?_
  refine QM.leaveDJ (ds := (D0 :: [])) (.inl rfl) [] Try.results40 rfl hn0 (hd_cons hD0 hd_nil) (gl_x hL (Nat.le_refl _) (gl_top _)) ?_
  intro w' hm' hg'
  exact .inr hg'.1
 rintro id ⟨⟩ D0 hD0 hx
 first | exact hx.elim | cases hx.1 | cases hx
end Go.Eng
namespace Go.Eng
open Go Go.Proofs Go.RowKit
abbrev wg (L : List Wt) (i : Nat) : Wt := L.getD i default
abbrev rtC (b : Nat) (most each : Int) (ad : Option Addr) (n cap : Nat) : Nat × Obj := (b, .cells #[.int .i64 most, .int .i64 each, .slice ad n cap] 48 (0, 0))
def RtM (most each : Int) (n0 : Nat) (L : List Wt) (b : Nat) (m : Mem0) : Prop := ∃ (ad : Option Addr) (n cap : Nat) (ms : Mem0), m = rtC b most each ad n cap :: ms ∧ n = L.length ∧ Sl fWt 32 3 n0 L (.slice ad n cap) ms ∧ n0 ≤ b
theorem RtM.ge {most each : Int} {n0 b : Nat} {L : List Wt} {m : Mem0} (h : RtM most each n0 L b m) : ∀ p ∈ m, n0 ≤ p.1 := by
  obtain ⟨ad, n, cap, ms, rfl, hn, hs, hb⟩ := h
  intro p hp
  rcases List.mem_cons.1 hp with rfl | hp
  · exact hb
  · exact hs.ge p hp
theorem RtM.wlk {most each : Int} {n0 b : Nat} {L : List Wt} {m : Mem0} (h : RtM most each n0 L b m) : ∀ p ∈ m, Go.Eng.wlk p.2 = false := by
  obtain ⟨ad, n, cap, ms, rfl, hn, hs, hb⟩ := h
  intro p hp
  rcases List.mem_cons.1 hp with rfl | hp
  · rfl
  · exact hs.wlk p hp
theorem RtM.mono {most each : Int} {n0 n1 b : Nat} {L : List Wt} {m : Mem0} (h : RtM most each n0 L b m) (k : n1 ≤ n0) : RtM most each n1 L b m := by
  obtain ⟨ad, n, cap, ms, e, hn, hs, hb⟩ := h
  exact ⟨ad, n, cap, ms, e, hn, hs.mono k, Nat.le_trans k hb⟩
def dSat (now : BitVec 64) (w : Wt) : Prop := w.til ≠ 0#64 ∧ w.til.toNat ≤ now.toNat
instance (now : BitVec 64) (w : Wt) : Decidable (dSat now w) := inferInstanceAs (Decidable (_ ∧ _))
def dLt (a b : Wt) : Prop := a.til.toNat < b.til.toNat ∨ (a.til = b.til ∧ a.who < b.who)
instance (a b : Wt) : Decidable (dLt a b) := inferInstanceAs (Decidable (_ ∨ _))
section
variable {now : BitVec 64} {L : List Wt} {i bb : Nat}
end
def RtN (k e : Int) (n0 : Nat) (v : Value) (m : Mem0) : Prop := ∃ b, v = .pointer (some ⟨b, 0, none⟩) ∧ RtM (newMost k) (newMost e) n0 [] b m
theorem RtN.mono {k e : Int} : ∀ (n n' : Nat) (v : Value) (m : Mem0), n' ≤ n → RtN k e n v m → RtN k e n' v m := fun n n' v m hn ⟨b, h1, h⟩ => ⟨b, h1, h.mono hn⟩
end Go.Eng
namespace Go.Eng
open Go Go.Proofs Go.RowKit
def nbk (k : Int) : Int := if 1 > k then 1 else if 64 < k then 64 else k
theorem nbk_ok (k : Int) : 1 ≤ nbk k ∧ nbk k ≤ 64 := by unfold nbk; (repeat' split) <;> omega
theorem nbk_eq (k : Int) : (if (64 : Int) < (if 1 > k then 1 else k) then 64 else (if 1 > k then 1 else k)) = nbk k := by unfold nbk; (repeat' split) <;> omega
def TbN (mo ea : Int) (n0 : Nat) (v : Value) (m : Mem0) : Prop := ∃ b, v = .pointer (some ⟨b, 0, none⟩) ∧ TbM (newMost mo) (newMost ea) n0 0 [] b m
theorem TbN.mono {mo ea : Int} : ∀ (n n' : Nat) (v : Value) (m : Mem0), n' ≤ n → TbN mo ea n v m → TbN mo ea n' v m := fun n n' v m hn ⟨b, h1, h⟩ => ⟨b, h1, h.mono hn⟩
theorem newRo {each : Int} {n0 n : Nat} {ad : Option Addr} {cap : Nat} {mo : Mem0} (h0 : 0 < n) (h : n ≤ 64) (ho : Sl fBh 93 1 n0 (List.replicate n (default : Bh)) (.slice ad n cap) mo) : RoM each n0 n cap ad 0 (fun _ => none) (mo ++ []) := by
  refine ⟨List.replicate n default, List.replicate n [], mo, [], rfl, by simp, h0, h, ho, ⟨List.replicate n [], ?_, by simp, by simp, fun j hj => ?_⟩, fun j hj => ?_, fun key => ?_⟩
  · simp
  · rw [List.length_replicate] at hj
    unfold bg
    rw [List.getD_eq_getElem?_getD, List.getD_eq_getElem?_getD, List.getD_eq_getElem?_getD, List.getElem?_replicate, List.getElem?_replicate, List.getElem?_replicate, if_pos hj, if_pos hj, if_pos hj]
    exact ⟨[], [], rfl, .nil _ _ _ _, ⟨[], rfl, rfl, fun i hi => by cases hi⟩, List.nodup_nil⟩
  · rw [List.getD_eq_getElem?_getD, List.getElem?_replicate, if_pos hj]; exact Nat.le_refl 0
  · have := (bk_lt (key := key) h0 h).1
    rw [List.getD_eq_getElem?_getD, List.getElem?_replicate, if_pos this]; rfl
theorem newTbQ {most each : Int} (h1 : 0 ≤ most ∧ most ≤ 4096) (h2 : 0 ≤ each ∧ each ≤ 4096) : TbQ most each 0 [] (fun _ => none) [] :=
  ⟨h1, h2, h1.1, List.Pairwise.nil, fun _ _ => rfl, fun _ _ h => (by cases h), List.nodup_nil, rfl, fun _ _ _ h => (by cases h), fun _ _ => rfl⟩
theorem tb_newleaf {mo ea : Int} {b n cap bs bh : Nat} {ad : Option Addr} {mO mh M : Mem0} {w w' : World} (h0 : 0 < n) (h64 : n ≤ 64) (ho : Sl fBh 93 1 w.heap.size (List.replicate n (default : Bh)) (.slice ad n cap) mO) (hh : HoM (newMost 4096) w.heap.size bh [] mh) (hb : w.heap.size ≤ b) (hbs : w.heap.size ≤ bs) (hm : Mem w' M) (hs : SubM M (tbC b ad n cap (newMost mo) (newMost ea) bs bh :: (bs, .map #[] 0) :: (mO ++ (mh ++ [])))) (hc : Ext w w') :
    Ext w w' ∧ ∃ m, TbN mo ea w.heap.size (.pointer (some ⟨b, 0, none⟩)) m ∧ Mem w' m ∧ ∀ p ∈ m, w.heap.size ≤ p.1 := by
  have h : TbM (newMost mo) (newMost ea) w.heap.size 0 [] b ((tbC b ad n cap (newMost mo) (newMost ea) bs bh :: (bs, .map #[] 0) :: (mO ++ [])) ++ mh) :=
    ⟨bh, [], _, mh, rfl, ⟨ad, n, cap, bs, #[], 0, _, 0, [], mO ++ [], rfl, newRo h0 h64 ho, ensS_nil _, hb, hbs, Nat.le_refl _, newTbQ (newMost_ok mo) (newMost_ok ea)⟩, hh, ⟨fun x hx => (by cases hx), fun x hx => (by cases hx)⟩⟩
  refine ⟨hc, _, ⟨b, rfl, h⟩, ?_, h.ge⟩
  have h2 := hs.mem w' hm
  simpa using h2
set_option maxRecDepth 100000 in
theorem tbring_spec (k : Int) (w : World) : Ret Try.prog 25 #[.int .i64 k] w (fun u w' => u = .int .i64 (newMost k) ∧ Ext w w') := by
 refine Ret.enterM (l := [.int .i64 k]) Try.func25 rfl Try.ntmps25 rfl ([]) (no) (Mem.nil w) ?_
 refine wpM.seq (wpM.region ?_)
 try rw [newMost_eq]
 refine LM.as rfl ?_
 refine LM.nil (QM.sub (e' := [(0, _)]) ⟨rfl, trivial⟩ (QM.then (wpM.seq (wpM.region ?_))))
 refine LM.mv rfl ?_
 refine LM.val (ov_max rfl rfl) ?_
 refine LM.val (ov_min rfl rfl) ?_
 try rw [newMost_eq]
 refine LM.as rfl ?_
 refine LM.nil (QM.sub (e' := [(2, _)]) ⟨rfl, trivial⟩ (QM.then ?_))
 refine wpM.ret ?_
 refine QM.leave (.inl rfl) [.tmp 2] Try.results25 rfl ?_
 intro w' hm' hc' hg'
 exact ⟨rfl, hc'⟩
set_option maxRecDepth 100000 in
set_option maxHeartbeats 4000000 in
theorem tnew_spec (bu mo ea : Int) (w : World) : Ret Try.prog 6 #[.int .i64 bu, .int .i64 mo, .int .i64 ea] w (fun v w' => Ext w w' ∧ ∃ m, TbN mo ea w.heap.size v m ∧ Mem w' m ∧ ∀ p ∈ m, w.heap.size ≤ p.1) := by
 obtain ⟨nn, hnn⟩ : ∃ nn : Nat, nbk bu = nn := ⟨(nbk bu).toNat, by have := nbk_ok bu; omega⟩; have hnk := nbk_ok bu
 refine Ret.enterM (l := [.int .i64 bu, .int .i64 mo, .int .i64 ea]) Try.func6 rfl Try.ntmps6 rfl ([]) (no) (Mem.nil w) ?_
 refine wpM.seq (wpM.region ?_)
 refine LM.as rfl ?_
 refine LM.nil (QM.sub (e' := [(0, _), (1, _), (2, _)]) au9 (QM.then (wpM.seq (wpM.region ?_))))
 refine LM.as rfl ?_
 refine LM.nil (QM.sub (e' := [(0, _), (1, _), (2, _), (7, _)]) au9 (QM.then ?_))
 refine wpM.seq ?_
 refine wpM.keep ([]) (fun _ => True) (.one 0 0 (.one 1 0 (.one 2 0 (.one 4 0 (.one 5 0 (.one 7 0 (.one 8 0 (.tri 3 (.fork 6 (.fork 9 (.fork 10 (.one 11 2 (.one 12 0 (.one 13 2 (.one 14 0 .nil)))) 11 (.one 10 2 (.one 12 0 (.one 13 2 (.one 14 0 .nil))))) 10 (.one 9 2 (.one 11 2 (.one 12 0 (.one 13 2 (.one 14 0 .nil)))))) 10 (.one 6 2 (.one 9 2 (.one 11 2 (.one 12 0 (.one 13 2 (.one 14 0 .nil))))))) 6 (.tri 3 (.fork 9 (.fork 10 (.one 11 2 (.one 12 0 (.one 13 2 (.one 14 0 .nil)))) 11 (.one 10 2 (.one 12 0 (.one 13 2 (.one 14 0 .nil))))) 10 (.one 9 2 (.one 11 2 (.one 12 0 (.one 13 2 (.one 14 0 .nil)))))) 9 (.tri 3 (.fork 10 (.one 11 2 (.one 12 0 (.one 13 2 (.one 14 0 .nil)))) 11 (.one 10 2 (.one 12 0 (.one 13 2 (.one 14 0 .nil))))) 10 (.fork 3 (.one 11 2 (.one 12 0 (.one 13 2 (.one 14 0 .nil)))) 11 (.one 3 2 (.one 12 0 (.one 13 2 (.one 14 0 .nil))))) 11 (.fork 3 (.one 10 2 (.one 12 0 (.one 13 2 (.one 14 0 .nil)))) 10 (.one 3 2 (.one 12 0 (.one 13 2 (.one 14 0 .nil)))))) 10 (.fork 3 (.one 9 2 (.one 11 2 (.one 12 0 (.one 13 2 (.one 14 0 .nil))))) 9 (.fork 3 (.one 11 2 (.one 12 0 (.one 13 2 (.one 14 0 .nil)))) 11 (.one 3 2 (.one 12 0 (.one 13 2 (.one 14 0 .nil))))))) 10 (.fork 3 (.one 6 2 (.one 9 2 (.one 11 2 (.one 12 0 (.one 13 2 (.one 14 0 .nil)))))) 6 (.fork 3 (.one 9 2 (.one 11 2 (.one 12 0 (.one 13 2 (.one 14 0 .nil))))) 9 (.fork 3 (.one 11 2 (.one 12 0 (.one 13 2 (.one 14 0 .nil)))) 11 (.one 3 2 (.one 12 0 (.one 13 2 (.one 14 0 .nil))))))))))))))) (by kernel_rfl) (by kernel_rfl) au1 (fun _ _ => trivial) ?_
 refine KD.val rfl rfl (ov_move rfl) ?_
 refine KD.val rfl rfl (ov_max rfl rfl) ?_
 refine KD.val rfl rfl (ov_min rfl rfl) ?_
 refine KD.val rfl rfl (ov_move rfl) ?_
 refine KD.val rfl rfl (ov_move rfl) ?_
 refine KD.val rfl rfl (ov_move rfl) ?_
 refine KD.val rfl rfl (ov_move rfl) ?_
 refine KD.tri rfl rfl rfl ?_ ?_ ?_
 ·
  try rw [nbk_eq, hnn]
  refine LM.makeS (f := fBh) (a0 := (default : Bh)) Try.underlying57 Try.typeInfo93 rfl rfl rfl rfl (by intro _; rfl) rfl rfl rfl (by omega) (by simp only [Try.t93]; omega) (by omega) (by unfold maxLen; omega) (fun ad11 n11 m11 hn11 hs11 => ?_)
  refine LM.nil ?_
  refine QM.one au1 (fun _ _ => trivial) ?_
  refine KD.fork rfl rfl ?_ ?_
  ·
   refine LM.callE (oc_callV rfl (enters_fn Try.func25 (by kernel_rfl) rfl) rfl) (fun w hm hc hg => tbring_spec _ w) ?_
   refine LM.nil ?_
   refine QM.one au1 (fun _ _ => trivial) ?_
   refine KD.fork rfl rfl ?_ ?_
   ·
    refine LM.callE (oc_callV rfl (enters_fn Try.func25 (by kernel_rfl) rfl) rfl) (fun w hm hc hg => tbring_spec _ w) ?_
    refine LM.nil ?_
    refine QM.one au1 (fun _ _ => trivial) ?_
    refine KD.fork rfl rfl ?_ ?_
    ·
     refine LM.makeMap rfl (fun b18 hb18 => ?_)
     refine LM.nil ?_
     refine QM.one au1 (fun _ _ => trivial) ?_
     refine KD.one rfl ?_
     refine LM.callT (oc_call (enters_fn Try.func26 (by kernel_rfl) rfl) rfl) HoN.mono (fun w hm hc hg => honew_spec 4096 w) ?_
     rintro u19 m19 ⟨b19, rfl, h19⟩ hge19
     refine LM.nil ?_
     refine QM.one au1 (fun _ _ => trivial) ?_
     refine KD.val rfl rfl (ov_build (cs := #[.slice ad11 n11 n11, .int .i64 (newMost mo), .int .i64 (newMost ea), .map (some b18), .pointer (some ⟨b19, 0, none⟩)]) rfl (by kernel_rfl)) ?_
     refine KD.one rfl ?_
     refine LM.box rfl rfl (fun b21 hb21 => ?_)
     refine LM.nil ?_
     refine QM.one au1 (fun _ _ => trivial) ?_
     refine KD.val rfl rfl (ov_assign rfl) ?_
     refine KD.nil ?_
     refine QM.sub (e' := [(6, _)]) ⟨rfl, trivial⟩ (QM.then ?_)
     refine wpM.ret ?_
     refine QM.leave (.inl rfl) [.tmp 6] Try.results6 rfl ?_
     intro w' hm' hc' hg'
     have e11 : n11 = nn := hn11.trans (Int.toNat_natCast nn); exact tb_newleaf (mO := m11) (by omega) (by omega) hs11 h19 hb21 hb18 hm' (by (repeat' (first | exact SubM.nil _ | refine SubM.cons (by rfl) ?_ | refine SubM.app ?_))) hc'
    refine LM.callT (oc_call (enters_fn Try.func26 (by kernel_rfl) rfl) rfl) HoN.mono (fun w hm hc hg => honew_spec 4096 w) ?_
    rintro u19 m19 ⟨b19, rfl, h19⟩ hge19
    refine LM.nil ?_
    refine QM.one au1 (fun _ _ => trivial) ?_
    refine KD.one rfl ?_
    refine LM.makeMap rfl (fun b18 hb18 => ?_)
    refine LM.nil ?_
    refine QM.one au1 (fun _ _ => trivial) ?_
    refine KD.val rfl rfl (ov_build (cs := #[.slice ad11 n11 n11, .int .i64 (newMost mo), .int .i64 (newMost ea), .map (some b18), .pointer (some ⟨b19, 0, none⟩)]) rfl (by kernel_rfl)) ?_
    refine KD.one rfl ?_
    refine LM.box rfl rfl (fun b21 hb21 => ?_)
    refine LM.nil ?_
    refine QM.one au1 (fun _ _ => trivial) ?_
    refine KD.val rfl rfl (ov_assign rfl) ?_
    refine KD.nil ?_
    refine QM.sub (e' := [(6, _)]) ⟨rfl, trivial⟩ (QM.then ?_)
    refine wpM.ret ?_
    refine QM.leave (.inl rfl) [.tmp 6] Try.results6 rfl ?_
    intro w' hm' hc' hg'
    have e11 : n11 = nn := hn11.trans (Int.toNat_natCast nn); exact tb_newleaf (mO := m11) (by omega) (by omega) hs11 h19 hb21 hb18 hm' (by (repeat' (first | exact SubM.nil _ | refine SubM.cons (by rfl) ?_ | refine SubM.app ?_))) hc'
   refine LM.makeMap rfl (fun b18 hb18 => ?_)
   refine LM.nil ?_
   refine QM.one au1 (fun _ _ => trivial) ?_
   refine KD.one rfl ?_
   refine LM.callE (oc_callV rfl (enters_fn Try.func25 (by kernel_rfl) rfl) rfl) (fun w hm hc hg => tbring_spec _ w) ?_
   refine LM.nil ?_
   refine QM.one au1 (fun _ _ => trivial) ?_
   refine KD.one rfl ?_
   refine LM.callT (oc_call (enters_fn Try.func26 (by kernel_rfl) rfl) rfl) HoN.mono (fun w hm hc hg => honew_spec 4096 w) ?_
   rintro u19 m19 ⟨b19, rfl, h19⟩ hge19
   refine LM.nil ?_
   refine QM.one au1 (fun _ _ => trivial) ?_
   refine KD.val rfl rfl (ov_build (cs := #[.slice ad11 n11 n11, .int .i64 (newMost mo), .int .i64 (newMost ea), .map (some b18), .pointer (some ⟨b19, 0, none⟩)]) rfl (by kernel_rfl)) ?_
   refine KD.one rfl ?_
   refine LM.box rfl rfl (fun b21 hb21 => ?_)
   refine LM.nil ?_
   refine QM.one au1 (fun _ _ => trivial) ?_
   refine KD.val rfl rfl (ov_assign rfl) ?_
   refine KD.nil ?_
   refine QM.sub (e' := [(6, _)]) ⟨rfl, trivial⟩ (QM.then ?_)
   refine wpM.ret ?_
   refine QM.leave (.inl rfl) [.tmp 6] Try.results6 rfl ?_
   intro w' hm' hc' hg'
   have e11 : n11 = nn := hn11.trans (Int.toNat_natCast nn); exact tb_newleaf (mO := m11) (by omega) (by omega) hs11 h19 hb21 hb18 hm' (by (repeat' (first | exact SubM.nil _ | refine SubM.cons (by rfl) ?_ | refine SubM.app ?_))) hc'
  refine LM.makeMap rfl (fun b18 hb18 => ?_)
  refine LM.nil ?_
  refine QM.one au1 (fun _ _ => trivial) ?_
  refine KD.one rfl ?_
  refine LM.callE (oc_callV rfl (enters_fn Try.func25 (by kernel_rfl) rfl) rfl) (fun w hm hc hg => tbring_spec _ w) ?_
  refine LM.nil ?_
  refine QM.one au1 (fun _ _ => trivial) ?_
  refine KD.one rfl ?_
  refine LM.callE (oc_callV rfl (enters_fn Try.func25 (by kernel_rfl) rfl) rfl) (fun w hm hc hg => tbring_spec _ w) ?_
  refine LM.nil ?_
  refine QM.one au1 (fun _ _ => trivial) ?_
  refine KD.one rfl ?_
  refine LM.callT (oc_call (enters_fn Try.func26 (by kernel_rfl) rfl) rfl) HoN.mono (fun w hm hc hg => honew_spec 4096 w) ?_
  rintro u19 m19 ⟨b19, rfl, h19⟩ hge19
  refine LM.nil ?_
  refine QM.one au1 (fun _ _ => trivial) ?_
  refine KD.val rfl rfl (ov_build (cs := #[.slice ad11 n11 n11, .int .i64 (newMost mo), .int .i64 (newMost ea), .map (some b18), .pointer (some ⟨b19, 0, none⟩)]) rfl (by kernel_rfl)) ?_
  refine KD.one rfl ?_
  refine LM.box rfl rfl (fun b21 hb21 => ?_)
  refine LM.nil ?_
  refine QM.one au1 (fun _ _ => trivial) ?_
  refine KD.val rfl rfl (ov_assign rfl) ?_
  refine KD.nil ?_
  refine QM.sub (e' := [(6, _)]) ⟨rfl, trivial⟩ (QM.then ?_)
  refine wpM.ret ?_
  refine QM.leave (.inl rfl) [.tmp 6] Try.results6 rfl ?_
  intro w' hm' hc' hg'
  have e11 : n11 = nn := hn11.trans (Int.toNat_natCast nn); exact tb_newleaf (mO := m11) (by omega) (by omega) hs11 h19 hb21 hb18 hm' (by (repeat' (first | exact SubM.nil _ | refine SubM.cons (by rfl) ?_ | refine SubM.app ?_))) hc'
 ·
  refine LM.callE (oc_callV rfl (enters_fn Try.func25 (by kernel_rfl) rfl) rfl) (fun w hm hc hg => tbring_spec _ w) ?_
  refine LM.nil ?_
  refine QM.one au1 (fun _ _ => trivial) ?_
  refine KD.tri rfl rfl rfl ?_ ?_ ?_
  ·
   try rw [nbk_eq, hnn]
   refine LM.makeS (f := fBh) (a0 := (default : Bh)) Try.underlying57 Try.typeInfo93 rfl rfl rfl rfl (by intro _; rfl) rfl rfl rfl (by omega) (by simp only [Try.t93]; omega) (by omega) (by unfold maxLen; omega) (fun ad11 n11 m11 hn11 hs11 => ?_)
   refine LM.nil ?_
   refine QM.one au1 (fun _ _ => trivial) ?_
   refine KD.fork rfl rfl ?_ ?_
   ·
    refine LM.callE (oc_callV rfl (enters_fn Try.func25 (by kernel_rfl) rfl) rfl) (fun w hm hc hg => tbring_spec _ w) ?_
    refine LM.nil ?_
    refine QM.one au1 (fun _ _ => trivial) ?_
    refine KD.fork rfl rfl ?_ ?_
    ·
     refine LM.makeMap rfl (fun b18 hb18 => ?_)
     refine LM.nil ?_
     refine QM.one au1 (fun _ _ => trivial) ?_
     refine KD.one rfl ?_
     refine LM.callT (oc_call (enters_fn Try.func26 (by kernel_rfl) rfl) rfl) HoN.mono (fun w hm hc hg => honew_spec 4096 w) ?_
     rintro u19 m19 ⟨b19, rfl, h19⟩ hge19
     refine LM.nil ?_
     refine QM.one au1 (fun _ _ => trivial) ?_
     refine KD.val rfl rfl (ov_build (cs := #[.slice ad11 n11 n11, .int .i64 (newMost mo), .int .i64 (newMost ea), .map (some b18), .pointer (some ⟨b19, 0, none⟩)]) rfl (by kernel_rfl)) ?_
     refine KD.one rfl ?_
     refine LM.box rfl rfl (fun b21 hb21 => ?_)
     refine LM.nil ?_
     refine QM.one au1 (fun _ _ => trivial) ?_
     refine KD.val rfl rfl (ov_assign rfl) ?_
     refine KD.nil ?_
     refine QM.sub (e' := [(6, _)]) ⟨rfl, trivial⟩ (QM.then ?_)
     refine wpM.ret ?_
     refine QM.leave (.inl rfl) [.tmp 6] Try.results6 rfl ?_
     intro w' hm' hc' hg'
     have e11 : n11 = nn := hn11.trans (Int.toNat_natCast nn); exact tb_newleaf (mO := m11) (by omega) (by omega) hs11 h19 hb21 hb18 hm' (by (repeat' (first | exact SubM.nil _ | refine SubM.cons (by rfl) ?_ | refine SubM.app ?_))) hc'
    refine LM.callT (oc_call (enters_fn Try.func26 (by kernel_rfl) rfl) rfl) HoN.mono (fun w hm hc hg => honew_spec 4096 w) ?_
    rintro u19 m19 ⟨b19, rfl, h19⟩ hge19
    refine LM.nil ?_
    refine QM.one au1 (fun _ _ => trivial) ?_
    refine KD.one rfl ?_
    refine LM.makeMap rfl (fun b18 hb18 => ?_)
    refine LM.nil ?_
    refine QM.one au1 (fun _ _ => trivial) ?_
    refine KD.val rfl rfl (ov_build (cs := #[.slice ad11 n11 n11, .int .i64 (newMost mo), .int .i64 (newMost ea), .map (some b18), .pointer (some ⟨b19, 0, none⟩)]) rfl (by kernel_rfl)) ?_
    refine KD.one rfl ?_
    refine LM.box rfl rfl (fun b21 hb21 => ?_)
    refine LM.nil ?_
    refine QM.one au1 (fun _ _ => trivial) ?_
    refine KD.val rfl rfl (ov_assign rfl) ?_
    refine KD.nil ?_
    refine QM.sub (e' := [(6, _)]) ⟨rfl, trivial⟩ (QM.then ?_)
    refine wpM.ret ?_
    refine QM.leave (.inl rfl) [.tmp 6] Try.results6 rfl ?_
    intro w' hm' hc' hg'
    have e11 : n11 = nn := hn11.trans (Int.toNat_natCast nn); exact tb_newleaf (mO := m11) (by omega) (by omega) hs11 h19 hb21 hb18 hm' (by (repeat' (first | exact SubM.nil _ | refine SubM.cons (by rfl) ?_ | refine SubM.app ?_))) hc'
   refine LM.makeMap rfl (fun b18 hb18 => ?_)
   refine LM.nil ?_
   refine QM.one au1 (fun _ _ => trivial) ?_
   refine KD.one rfl ?_
   refine LM.callE (oc_callV rfl (enters_fn Try.func25 (by kernel_rfl) rfl) rfl) (fun w hm hc hg => tbring_spec _ w) ?_
   refine LM.nil ?_
   refine QM.one au1 (fun _ _ => trivial) ?_
   refine KD.one rfl ?_
   refine LM.callT (oc_call (enters_fn Try.func26 (by kernel_rfl) rfl) rfl) HoN.mono (fun w hm hc hg => honew_spec 4096 w) ?_
   rintro u19 m19 ⟨b19, rfl, h19⟩ hge19
   refine LM.nil ?_
   refine QM.one au1 (fun _ _ => trivial) ?_
   refine KD.val rfl rfl (ov_build (cs := #[.slice ad11 n11 n11, .int .i64 (newMost mo), .int .i64 (newMost ea), .map (some b18), .pointer (some ⟨b19, 0, none⟩)]) rfl (by kernel_rfl)) ?_
   refine KD.one rfl ?_
   refine LM.box rfl rfl (fun b21 hb21 => ?_)
   refine LM.nil ?_
   refine QM.one au1 (fun _ _ => trivial) ?_
   refine KD.val rfl rfl (ov_assign rfl) ?_
   refine KD.nil ?_
   refine QM.sub (e' := [(6, _)]) ⟨rfl, trivial⟩ (QM.then ?_)
   refine wpM.ret ?_
   refine QM.leave (.inl rfl) [.tmp 6] Try.results6 rfl ?_
   intro w' hm' hc' hg'
   have e11 : n11 = nn := hn11.trans (Int.toNat_natCast nn); exact tb_newleaf (mO := m11) (by omega) (by omega) hs11 h19 hb21 hb18 hm' (by (repeat' (first | exact SubM.nil _ | refine SubM.cons (by rfl) ?_ | refine SubM.app ?_))) hc'
  ·
   refine LM.callE (oc_callV rfl (enters_fn Try.func25 (by kernel_rfl) rfl) rfl) (fun w hm hc hg => tbring_spec _ w) ?_
   refine LM.nil ?_
   refine QM.one au1 (fun _ _ => trivial) ?_
   refine KD.tri rfl rfl rfl ?_ ?_ ?_
   ·
    try rw [nbk_eq, hnn]
    refine LM.makeS (f := fBh) (a0 := (default : Bh)) Try.underlying57 Try.typeInfo93 rfl rfl rfl rfl (by intro _; rfl) rfl rfl rfl (by omega) (by simp only [Try.t93]; omega) (by omega) (by unfold maxLen; omega) (fun ad11 n11 m11 hn11 hs11 => ?_)
    refine LM.nil ?_
    refine QM.one au1 (fun _ _ => trivial) ?_
    refine KD.fork rfl rfl ?_ ?_
    ·
     refine LM.makeMap rfl (fun b18 hb18 => ?_)
     refine LM.nil ?_
     refine QM.one au1 (fun _ _ => trivial) ?_
     refine KD.one rfl ?_
     refine LM.callT (oc_call (enters_fn Try.func26 (by kernel_rfl) rfl) rfl) HoN.mono (fun w hm hc hg => honew_spec 4096 w) ?_
     rintro u19 m19 ⟨b19, rfl, h19⟩ hge19
     refine LM.nil ?_
     refine QM.one au1 (fun _ _ => trivial) ?_
     refine KD.val rfl rfl (ov_build (cs := #[.slice ad11 n11 n11, .int .i64 (newMost mo), .int .i64 (newMost ea), .map (some b18), .pointer (some ⟨b19, 0, none⟩)]) rfl (by kernel_rfl)) ?_
     refine KD.one rfl ?_
     refine LM.box rfl rfl (fun b21 hb21 => ?_)
     refine LM.nil ?_
     refine QM.one au1 (fun _ _ => trivial) ?_
     refine KD.val rfl rfl (ov_assign rfl) ?_
     refine KD.nil ?_
     refine QM.sub (e' := [(6, _)]) ⟨rfl, trivial⟩ (QM.then ?_)
     refine wpM.ret ?_
     refine QM.leave (.inl rfl) [.tmp 6] Try.results6 rfl ?_
     intro w' hm' hc' hg'
     have e11 : n11 = nn := hn11.trans (Int.toNat_natCast nn); exact tb_newleaf (mO := m11) (by omega) (by omega) hs11 h19 hb21 hb18 hm' (by (repeat' (first | exact SubM.nil _ | refine SubM.cons (by rfl) ?_ | refine SubM.app ?_))) hc'
    refine LM.callT (oc_call (enters_fn Try.func26 (by kernel_rfl) rfl) rfl) HoN.mono (fun w hm hc hg => honew_spec 4096 w) ?_
    rintro u19 m19 ⟨b19, rfl, h19⟩ hge19
    refine LM.nil ?_
    refine QM.one au1 (fun _ _ => trivial) ?_
    refine KD.one rfl ?_
    refine LM.makeMap rfl (fun b18 hb18 => ?_)
    refine LM.nil ?_
    refine QM.one au1 (fun _ _ => trivial) ?_
    refine KD.val rfl rfl (ov_build (cs := #[.slice ad11 n11 n11, .int .i64 (newMost mo), .int .i64 (newMost ea), .map (some b18), .pointer (some ⟨b19, 0, none⟩)]) rfl (by kernel_rfl)) ?_
    refine KD.one rfl ?_
    refine LM.box rfl rfl (fun b21 hb21 => ?_)
    refine LM.nil ?_
    refine QM.one au1 (fun _ _ => trivial) ?_
    refine KD.val rfl rfl (ov_assign rfl) ?_
    refine KD.nil ?_
    refine QM.sub (e' := [(6, _)]) ⟨rfl, trivial⟩ (QM.then ?_)
    refine wpM.ret ?_
    refine QM.leave (.inl rfl) [.tmp 6] Try.results6 rfl ?_
    intro w' hm' hc' hg'
    have e11 : n11 = nn := hn11.trans (Int.toNat_natCast nn); exact tb_newleaf (mO := m11) (by omega) (by omega) hs11 h19 hb21 hb18 hm' (by (repeat' (first | exact SubM.nil _ | refine SubM.cons (by rfl) ?_ | refine SubM.app ?_))) hc'
   ·
    refine LM.makeMap rfl (fun b18 hb18 => ?_)
    refine LM.nil ?_
    refine QM.one au1 (fun _ _ => trivial) ?_
    refine KD.fork rfl rfl ?_ ?_
    ·
     try rw [nbk_eq, hnn]
     refine LM.makeS (f := fBh) (a0 := (default : Bh)) Try.underlying57 Try.typeInfo93 rfl rfl rfl rfl (by intro _; rfl) rfl rfl rfl (by omega) (by simp only [Try.t93]; omega) (by omega) (by unfold maxLen; omega) (fun ad11 n11 m11 hn11 hs11 => ?_)
     refine LM.nil ?_
     refine QM.one au1 (fun _ _ => trivial) ?_
     refine KD.one rfl ?_
     refine LM.callT (oc_call (enters_fn Try.func26 (by kernel_rfl) rfl) rfl) HoN.mono (fun w hm hc hg => honew_spec 4096 w) ?_
     rintro u19 m19 ⟨b19, rfl, h19⟩ hge19
     refine LM.nil ?_
     refine QM.one au1 (fun _ _ => trivial) ?_
     refine KD.val rfl rfl (ov_build (cs := #[.slice ad11 n11 n11, .int .i64 (newMost mo), .int .i64 (newMost ea), .map (some b18), .pointer (some ⟨b19, 0, none⟩)]) rfl (by kernel_rfl)) ?_
     refine KD.one rfl ?_
     refine LM.box rfl rfl (fun b21 hb21 => ?_)
     refine LM.nil ?_
     refine QM.one au1 (fun _ _ => trivial) ?_
     refine KD.val rfl rfl (ov_assign rfl) ?_
     refine KD.nil ?_
     refine QM.sub (e' := [(6, _)]) ⟨rfl, trivial⟩ (QM.then ?_)
     refine wpM.ret ?_
     refine QM.leave (.inl rfl) [.tmp 6] Try.results6 rfl ?_
     intro w' hm' hc' hg'
     have e11 : n11 = nn := hn11.trans (Int.toNat_natCast nn); exact tb_newleaf (mO := m11) (by omega) (by omega) hs11 h19 hb21 hb18 hm' (by (repeat' (first | exact SubM.nil _ | refine SubM.cons (by rfl) ?_ | refine SubM.app ?_))) hc'
    refine LM.callT (oc_call (enters_fn Try.func26 (by kernel_rfl) rfl) rfl) HoN.mono (fun w hm hc hg => honew_spec 4096 w) ?_
    rintro u19 m19 ⟨b19, rfl, h19⟩ hge19
    refine LM.nil ?_
    refine QM.one au1 (fun _ _ => trivial) ?_
    refine KD.one rfl ?_
    try rw [nbk_eq, hnn]
    refine LM.makeS (f := fBh) (a0 := (default : Bh)) Try.underlying57 Try.typeInfo93 rfl rfl rfl rfl (by intro _; rfl) rfl rfl rfl (by omega) (by simp only [Try.t93]; omega) (by omega) (by unfold maxLen; omega) (fun ad11 n11 m11 hn11 hs11 => ?_)
    refine LM.nil ?_
    refine QM.one au1 (fun _ _ => trivial) ?_
    refine KD.val rfl rfl (ov_build (cs := #[.slice ad11 n11 n11, .int .i64 (newMost mo), .int .i64 (newMost ea), .map (some b18), .pointer (some ⟨b19, 0, none⟩)]) rfl (by kernel_rfl)) ?_
    refine KD.one rfl ?_
    refine LM.box rfl rfl (fun b21 hb21 => ?_)
    refine LM.nil ?_
    refine QM.one au1 (fun _ _ => trivial) ?_
    refine KD.val rfl rfl (ov_assign rfl) ?_
    refine KD.nil ?_
    refine QM.sub (e' := [(6, _)]) ⟨rfl, trivial⟩ (QM.then ?_)
    refine wpM.ret ?_
    refine QM.leave (.inl rfl) [.tmp 6] Try.results6 rfl ?_
    intro w' hm' hc' hg'
    have e11 : n11 = nn := hn11.trans (Int.toNat_natCast nn); exact tb_newleaf (mO := m11) (by omega) (by omega) hs11 h19 hb21 hb18 hm' (by (repeat' (first | exact SubM.nil _ | refine SubM.cons (by rfl) ?_ | refine SubM.app ?_))) hc'
   refine LM.callT (oc_call (enters_fn Try.func26 (by kernel_rfl) rfl) rfl) HoN.mono (fun w hm hc hg => honew_spec 4096 w) ?_
   rintro u19 m19 ⟨b19, rfl, h19⟩ hge19
   refine LM.nil ?_
   refine QM.one au1 (fun _ _ => trivial) ?_
   refine KD.fork rfl rfl ?_ ?_
   ·
    try rw [nbk_eq, hnn]
    refine LM.makeS (f := fBh) (a0 := (default : Bh)) Try.underlying57 Try.typeInfo93 rfl rfl rfl rfl (by intro _; rfl) rfl rfl rfl (by omega) (by simp only [Try.t93]; omega) (by omega) (by unfold maxLen; omega) (fun ad11 n11 m11 hn11 hs11 => ?_)
    refine LM.nil ?_
    refine QM.one au1 (fun _ _ => trivial) ?_
    refine KD.one rfl ?_
    refine LM.makeMap rfl (fun b18 hb18 => ?_)
    refine LM.nil ?_
    refine QM.one au1 (fun _ _ => trivial) ?_
    refine KD.val rfl rfl (ov_build (cs := #[.slice ad11 n11 n11, .int .i64 (newMost mo), .int .i64 (newMost ea), .map (some b18), .pointer (some ⟨b19, 0, none⟩)]) rfl (by kernel_rfl)) ?_
    refine KD.one rfl ?_
    refine LM.box rfl rfl (fun b21 hb21 => ?_)
    refine LM.nil ?_
    refine QM.one au1 (fun _ _ => trivial) ?_
    refine KD.val rfl rfl (ov_assign rfl) ?_
    refine KD.nil ?_
    refine QM.sub (e' := [(6, _)]) ⟨rfl, trivial⟩ (QM.then ?_)
    refine wpM.ret ?_
    refine QM.leave (.inl rfl) [.tmp 6] Try.results6 rfl ?_
    intro w' hm' hc' hg'
    have e11 : n11 = nn := hn11.trans (Int.toNat_natCast nn); exact tb_newleaf (mO := m11) (by omega) (by omega) hs11 h19 hb21 hb18 hm' (by (repeat' (first | exact SubM.nil _ | refine SubM.cons (by rfl) ?_ | refine SubM.app ?_))) hc'
   refine LM.makeMap rfl (fun b18 hb18 => ?_)
   refine LM.nil ?_
   refine QM.one au1 (fun _ _ => trivial) ?_
   refine KD.one rfl ?_
   try rw [nbk_eq, hnn]
   refine LM.makeS (f := fBh) (a0 := (default : Bh)) Try.underlying57 Try.typeInfo93 rfl rfl rfl rfl (by intro _; rfl) rfl rfl rfl (by omega) (by simp only [Try.t93]; omega) (by omega) (by unfold maxLen; omega) (fun ad11 n11 m11 hn11 hs11 => ?_)
   refine LM.nil ?_
   refine QM.one au1 (fun _ _ => trivial) ?_
   refine KD.val rfl rfl (ov_build (cs := #[.slice ad11 n11 n11, .int .i64 (newMost mo), .int .i64 (newMost ea), .map (some b18), .pointer (some ⟨b19, 0, none⟩)]) rfl (by kernel_rfl)) ?_
   refine KD.one rfl ?_
   refine LM.box rfl rfl (fun b21 hb21 => ?_)
   refine LM.nil ?_
   refine QM.one au1 (fun _ _ => trivial) ?_
   refine KD.val rfl rfl (ov_assign rfl) ?_
   refine KD.nil ?_
   refine QM.sub (e' := [(6, _)]) ⟨rfl, trivial⟩ (QM.then ?_)
   refine wpM.ret ?_
   refine QM.leave (.inl rfl) [.tmp 6] Try.results6 rfl ?_
   intro w' hm' hc' hg'
   have e11 : n11 = nn := hn11.trans (Int.toNat_natCast nn); exact tb_newleaf (mO := m11) (by omega) (by omega) hs11 h19 hb21 hb18 hm' (by (repeat' (first | exact SubM.nil _ | refine SubM.cons (by rfl) ?_ | refine SubM.app ?_))) hc'
  refine LM.makeMap rfl (fun b18 hb18 => ?_)
  refine LM.nil ?_
  refine QM.one au1 (fun _ _ => trivial) ?_
  refine KD.fork rfl rfl ?_ ?_
  ·
   try rw [nbk_eq, hnn]
   refine LM.makeS (f := fBh) (a0 := (default : Bh)) Try.underlying57 Try.typeInfo93 rfl rfl rfl rfl (by intro _; rfl) rfl rfl rfl (by omega) (by simp only [Try.t93]; omega) (by omega) (by unfold maxLen; omega) (fun ad11 n11 m11 hn11 hs11 => ?_)
   refine LM.nil ?_
   refine QM.one au1 (fun _ _ => trivial) ?_
   refine KD.one rfl ?_
   refine LM.callE (oc_callV rfl (enters_fn Try.func25 (by kernel_rfl) rfl) rfl) (fun w hm hc hg => tbring_spec _ w) ?_
   refine LM.nil ?_
   refine QM.one au1 (fun _ _ => trivial) ?_
   refine KD.one rfl ?_
   refine LM.callT (oc_call (enters_fn Try.func26 (by kernel_rfl) rfl) rfl) HoN.mono (fun w hm hc hg => honew_spec 4096 w) ?_
   rintro u19 m19 ⟨b19, rfl, h19⟩ hge19
   refine LM.nil ?_
   refine QM.one au1 (fun _ _ => trivial) ?_
   refine KD.val rfl rfl (ov_build (cs := #[.slice ad11 n11 n11, .int .i64 (newMost mo), .int .i64 (newMost ea), .map (some b18), .pointer (some ⟨b19, 0, none⟩)]) rfl (by kernel_rfl)) ?_
   refine KD.one rfl ?_
   refine LM.box rfl rfl (fun b21 hb21 => ?_)
   refine LM.nil ?_
   refine QM.one au1 (fun _ _ => trivial) ?_
   refine KD.val rfl rfl (ov_assign rfl) ?_
   refine KD.nil ?_
   refine QM.sub (e' := [(6, _)]) ⟨rfl, trivial⟩ (QM.then ?_)
   refine wpM.ret ?_
   refine QM.leave (.inl rfl) [.tmp 6] Try.results6 rfl ?_
   intro w' hm' hc' hg'
   have e11 : n11 = nn := hn11.trans (Int.toNat_natCast nn); exact tb_newleaf (mO := m11) (by omega) (by omega) hs11 h19 hb21 hb18 hm' (by (repeat' (first | exact SubM.nil _ | refine SubM.cons (by rfl) ?_ | refine SubM.app ?_))) hc'
  refine LM.callE (oc_callV rfl (enters_fn Try.func25 (by kernel_rfl) rfl) rfl) (fun w hm hc hg => tbring_spec _ w) ?_
  refine LM.nil ?_
  refine QM.one au1 (fun _ _ => trivial) ?_
  refine KD.fork rfl rfl ?_ ?_
  ·
   try rw [nbk_eq, hnn]
   refine LM.makeS (f := fBh) (a0 := (default : Bh)) Try.underlying57 Try.typeInfo93 rfl rfl rfl rfl (by intro _; rfl) rfl rfl rfl (by omega) (by simp only [Try.t93]; omega) (by omega) (by unfold maxLen; omega) (fun ad11 n11 m11 hn11 hs11 => ?_)
   refine LM.nil ?_
   refine QM.one au1 (fun _ _ => trivial) ?_
   refine KD.one rfl ?_
   refine LM.callT (oc_call (enters_fn Try.func26 (by kernel_rfl) rfl) rfl) HoN.mono (fun w hm hc hg => honew_spec 4096 w) ?_
   rintro u19 m19 ⟨b19, rfl, h19⟩ hge19
   refine LM.nil ?_
   refine QM.one au1 (fun _ _ => trivial) ?_
   refine KD.val rfl rfl (ov_build (cs := #[.slice ad11 n11 n11, .int .i64 (newMost mo), .int .i64 (newMost ea), .map (some b18), .pointer (some ⟨b19, 0, none⟩)]) rfl (by kernel_rfl)) ?_
   refine KD.one rfl ?_
   refine LM.box rfl rfl (fun b21 hb21 => ?_)
   refine LM.nil ?_
   refine QM.one au1 (fun _ _ => trivial) ?_
   refine KD.val rfl rfl (ov_assign rfl) ?_
   refine KD.nil ?_
   refine QM.sub (e' := [(6, _)]) ⟨rfl, trivial⟩ (QM.then ?_)
   refine wpM.ret ?_
   refine QM.leave (.inl rfl) [.tmp 6] Try.results6 rfl ?_
   intro w' hm' hc' hg'
   have e11 : n11 = nn := hn11.trans (Int.toNat_natCast nn); exact tb_newleaf (mO := m11) (by omega) (by omega) hs11 h19 hb21 hb18 hm' (by (repeat' (first | exact SubM.nil _ | refine SubM.cons (by rfl) ?_ | refine SubM.app ?_))) hc'
  refine LM.callT (oc_call (enters_fn Try.func26 (by kernel_rfl) rfl) rfl) HoN.mono (fun w hm hc hg => honew_spec 4096 w) ?_
  rintro u19 m19 ⟨b19, rfl, h19⟩ hge19
  refine LM.nil ?_
  refine QM.one au1 (fun _ _ => trivial) ?_
  refine KD.one rfl ?_
  try rw [nbk_eq, hnn]
  refine LM.makeS (f := fBh) (a0 := (default : Bh)) Try.underlying57 Try.typeInfo93 rfl rfl rfl rfl (by intro _; rfl) rfl rfl rfl (by omega) (by simp only [Try.t93]; omega) (by omega) (by unfold maxLen; omega) (fun ad11 n11 m11 hn11 hs11 => ?_)
  refine LM.nil ?_
  refine QM.one au1 (fun _ _ => trivial) ?_
  refine KD.val rfl rfl (ov_build (cs := #[.slice ad11 n11 n11, .int .i64 (newMost mo), .int .i64 (newMost ea), .map (some b18), .pointer (some ⟨b19, 0, none⟩)]) rfl (by kernel_rfl)) ?_
  refine KD.one rfl ?_
  refine LM.box rfl rfl (fun b21 hb21 => ?_)
  refine LM.nil ?_
  refine QM.one au1 (fun _ _ => trivial) ?_
  refine KD.val rfl rfl (ov_assign rfl) ?_
  refine KD.nil ?_
  refine QM.sub (e' := [(6, _)]) ⟨rfl, trivial⟩ (QM.then ?_)
  refine wpM.ret ?_
  refine QM.leave (.inl rfl) [.tmp 6] Try.results6 rfl ?_
  intro w' hm' hc' hg'
  have e11 : n11 = nn := hn11.trans (Int.toNat_natCast nn); exact tb_newleaf (mO := m11) (by omega) (by omega) hs11 h19 hb21 hb18 hm' (by (repeat' (first | exact SubM.nil _ | refine SubM.cons (by rfl) ?_ | refine SubM.app ?_))) hc'
 refine LM.makeMap rfl (fun b18 hb18 => ?_)
 refine LM.nil ?_
 refine QM.one au1 (fun _ _ => trivial) ?_
 refine KD.fork rfl rfl ?_ ?_
 ·
  try rw [nbk_eq, hnn]
  refine LM.makeS (f := fBh) (a0 := (default : Bh)) Try.underlying57 Try.typeInfo93 rfl rfl rfl rfl (by intro _; rfl) rfl rfl rfl (by omega) (by simp only [Try.t93]; omega) (by omega) (by unfold maxLen; omega) (fun ad11 n11 m11 hn11 hs11 => ?_)
  refine LM.nil ?_
  refine QM.one au1 (fun _ _ => trivial) ?_
  refine KD.one rfl ?_
  refine LM.callE (oc_callV rfl (enters_fn Try.func25 (by kernel_rfl) rfl) rfl) (fun w hm hc hg => tbring_spec _ w) ?_
  refine LM.nil ?_
  refine QM.one au1 (fun _ _ => trivial) ?_
  refine KD.one rfl ?_
  refine LM.callE (oc_callV rfl (enters_fn Try.func25 (by kernel_rfl) rfl) rfl) (fun w hm hc hg => tbring_spec _ w) ?_
  refine LM.nil ?_
  refine QM.one au1 (fun _ _ => trivial) ?_
  refine KD.one rfl ?_
  refine LM.callT (oc_call (enters_fn Try.func26 (by kernel_rfl) rfl) rfl) HoN.mono (fun w hm hc hg => honew_spec 4096 w) ?_
  rintro u19 m19 ⟨b19, rfl, h19⟩ hge19
  refine LM.nil ?_
  refine QM.one au1 (fun _ _ => trivial) ?_
  refine KD.val rfl rfl (ov_build (cs := #[.slice ad11 n11 n11, .int .i64 (newMost mo), .int .i64 (newMost ea), .map (some b18), .pointer (some ⟨b19, 0, none⟩)]) rfl (by kernel_rfl)) ?_
  refine KD.one rfl ?_
  refine LM.box rfl rfl (fun b21 hb21 => ?_)
  refine LM.nil ?_
  refine QM.one au1 (fun _ _ => trivial) ?_
  refine KD.val rfl rfl (ov_assign rfl) ?_
  refine KD.nil ?_
  refine QM.sub (e' := [(6, _)]) ⟨rfl, trivial⟩ (QM.then ?_)
  refine wpM.ret ?_
  refine QM.leave (.inl rfl) [.tmp 6] Try.results6 rfl ?_
  intro w' hm' hc' hg'
  have e11 : n11 = nn := hn11.trans (Int.toNat_natCast nn); exact tb_newleaf (mO := m11) (by omega) (by omega) hs11 h19 hb21 hb18 hm' (by (repeat' (first | exact SubM.nil _ | refine SubM.cons (by rfl) ?_ | refine SubM.app ?_))) hc'
 refine LM.callE (oc_callV rfl (enters_fn Try.func25 (by kernel_rfl) rfl) rfl) (fun w hm hc hg => tbring_spec _ w) ?_
 refine LM.nil ?_
 refine QM.one au1 (fun _ _ => trivial) ?_
 refine KD.fork rfl rfl ?_ ?_
 ·
  try rw [nbk_eq, hnn]
  refine LM.makeS (f := fBh) (a0 := (default : Bh)) Try.underlying57 Try.typeInfo93 rfl rfl rfl rfl (by intro _; rfl) rfl rfl rfl (by omega) (by simp only [Try.t93]; omega) (by omega) (by unfold maxLen; omega) (fun ad11 n11 m11 hn11 hs11 => ?_)
  refine LM.nil ?_
  refine QM.one au1 (fun _ _ => trivial) ?_
  refine KD.one rfl ?_
  refine LM.callE (oc_callV rfl (enters_fn Try.func25 (by kernel_rfl) rfl) rfl) (fun w hm hc hg => tbring_spec _ w) ?_
  refine LM.nil ?_
  refine QM.one au1 (fun _ _ => trivial) ?_
  refine KD.one rfl ?_
  refine LM.callT (oc_call (enters_fn Try.func26 (by kernel_rfl) rfl) rfl) HoN.mono (fun w hm hc hg => honew_spec 4096 w) ?_
  rintro u19 m19 ⟨b19, rfl, h19⟩ hge19
  refine LM.nil ?_
  refine QM.one au1 (fun _ _ => trivial) ?_
  refine KD.val rfl rfl (ov_build (cs := #[.slice ad11 n11 n11, .int .i64 (newMost mo), .int .i64 (newMost ea), .map (some b18), .pointer (some ⟨b19, 0, none⟩)]) rfl (by kernel_rfl)) ?_
  refine KD.one rfl ?_
  refine LM.box rfl rfl (fun b21 hb21 => ?_)
  refine LM.nil ?_
  refine QM.one au1 (fun _ _ => trivial) ?_
  refine KD.val rfl rfl (ov_assign rfl) ?_
  refine KD.nil ?_
  refine QM.sub (e' := [(6, _)]) ⟨rfl, trivial⟩ (QM.then ?_)
  refine wpM.ret ?_
  refine QM.leave (.inl rfl) [.tmp 6] Try.results6 rfl ?_
  intro w' hm' hc' hg'
  have e11 : n11 = nn := hn11.trans (Int.toNat_natCast nn); exact tb_newleaf (mO := m11) (by omega) (by omega) hs11 h19 hb21 hb18 hm' (by (repeat' (first | exact SubM.nil _ | refine SubM.cons (by rfl) ?_ | refine SubM.app ?_))) hc'
 refine LM.callE (oc_callV rfl (enters_fn Try.func25 (by kernel_rfl) rfl) rfl) (fun w hm hc hg => tbring_spec _ w) ?_
 refine LM.nil ?_
 refine QM.one au1 (fun _ _ => trivial) ?_
 refine KD.fork rfl rfl ?_ ?_
 ·
  try rw [nbk_eq, hnn]
  refine LM.makeS (f := fBh) (a0 := (default : Bh)) Try.underlying57 Try.typeInfo93 rfl rfl rfl rfl (by intro _; rfl) rfl rfl rfl (by omega) (by simp only [Try.t93]; omega) (by omega) (by unfold maxLen; omega) (fun ad11 n11 m11 hn11 hs11 => ?_)
  refine LM.nil ?_
  refine QM.one au1 (fun _ _ => trivial) ?_
  refine KD.one rfl ?_
  refine LM.callT (oc_call (enters_fn Try.func26 (by kernel_rfl) rfl) rfl) HoN.mono (fun w hm hc hg => honew_spec 4096 w) ?_
  rintro u19 m19 ⟨b19, rfl, h19⟩ hge19
  refine LM.nil ?_
  refine QM.one au1 (fun _ _ => trivial) ?_
  refine KD.val rfl rfl (ov_build (cs := #[.slice ad11 n11 n11, .int .i64 (newMost mo), .int .i64 (newMost ea), .map (some b18), .pointer (some ⟨b19, 0, none⟩)]) rfl (by kernel_rfl)) ?_
  refine KD.one rfl ?_
  refine LM.box rfl rfl (fun b21 hb21 => ?_)
  refine LM.nil ?_
  refine QM.one au1 (fun _ _ => trivial) ?_
  refine KD.val rfl rfl (ov_assign rfl) ?_
  refine KD.nil ?_
  refine QM.sub (e' := [(6, _)]) ⟨rfl, trivial⟩ (QM.then ?_)
  refine wpM.ret ?_
  refine QM.leave (.inl rfl) [.tmp 6] Try.results6 rfl ?_
  intro w' hm' hc' hg'
  have e11 : n11 = nn := hn11.trans (Int.toNat_natCast nn); exact tb_newleaf (mO := m11) (by omega) (by omega) hs11 h19 hb21 hb18 hm' (by (repeat' (first | exact SubM.nil _ | refine SubM.cons (by rfl) ?_ | refine SubM.app ?_))) hc'
 refine LM.callT (oc_call (enters_fn Try.func26 (by kernel_rfl) rfl) rfl) HoN.mono (fun w hm hc hg => honew_spec 4096 w) ?_
 rintro u19 m19 ⟨b19, rfl, h19⟩ hge19
 refine LM.nil ?_
 refine QM.one au1 (fun _ _ => trivial) ?_
 refine KD.one rfl ?_
 try rw [nbk_eq, hnn]
 refine LM.makeS (f := fBh) (a0 := (default : Bh)) Try.underlying57 Try.typeInfo93 rfl rfl rfl rfl (by intro _; rfl) rfl rfl rfl (by omega) (by simp only [Try.t93]; omega) (by omega) (by unfold maxLen; omega) (fun ad11 n11 m11 hn11 hs11 => ?_)
 refine LM.nil ?_
 refine QM.one au1 (fun _ _ => trivial) ?_
 refine KD.val rfl rfl (ov_build (cs := #[.slice ad11 n11 n11, .int .i64 (newMost mo), .int .i64 (newMost ea), .map (some b18), .pointer (some ⟨b19, 0, none⟩)]) rfl (by kernel_rfl)) ?_
 refine KD.one rfl ?_
 refine LM.box rfl rfl (fun b21 hb21 => ?_)
 refine LM.nil ?_
 refine QM.one au1 (fun _ _ => trivial) ?_
 refine KD.val rfl rfl (ov_assign rfl) ?_
 refine KD.nil ?_
 refine QM.sub (e' := [(6, _)]) ⟨rfl, trivial⟩ (QM.then ?_)
 refine wpM.ret ?_
 refine QM.leave (.inl rfl) [.tmp 6] Try.results6 rfl ?_
 intro w' hm' hc' hg'
 have e11 : n11 = nn := hn11.trans (Int.toNat_natCast nn); exact tb_newleaf (mO := m11) (by omega) (by omega) hs11 h19 hb21 hb18 hm' (by (repeat' (first | exact SubM.nil _ | refine SubM.cons (by rfl) ?_ | refine SubM.app ?_))) hc'
end Go.Eng
namespace Go.Eng
open Go Go.Proofs Go.RowKit
theorem wg_of {L : List Wt} {x : Wt} (h : x ∈ L) : ∃ i, i < L.length ∧ wg L i = x := by
  obtain ⟨i, hi, rfl⟩ := List.getElem_of_mem h
  exact ⟨i, hi, by unfold wg; rw [List.getD_eq_getElem?_getD, List.getElem?_eq_getElem hi]; rfl⟩
theorem wg_rm {L : List Wt} (h : Wd1 L) {i : Nat} (hi : i < L.length) : L.eraseIdx i = rmW L (wg L i).who := by
  refine (rm_erase h ?_).symm
  unfold wg; rw [List.getD_eq_getElem?_getD, List.getElem?_eq_getElem hi]; rfl
end Go.Eng
namespace Go.Eng
open Go Go.Proofs Go.RowKit
end Go.Eng
namespace Go.Eng
open Go Go.RowKit
theorem exL_len : ∀ (L : List Wt) (l : List Hi), (exL L l).length ≤ L.length
  | L, [] => Nat.le_refl _
  | L, s :: l => Nat.le_trans (exL_len (rmW L s.id) l) (List.length_filter_le ..)
end Go.Eng
namespace Go.Eng
open Go Go.Proofs Go.RowKit
set_option maxRecDepth 100000 in
theorem ints_spec {xs : List Int} {ada adb : Option Addr} {na nb capa capb : Nat} (w : World) (hna : na = xs.length) (hnb : nb = xs.length) (hlx : xs.length ≤ 100000) (ha : Sr fI 1 xs (.slice ada na capa) w) (hb : Sr fI 1 xs (.slice adb nb capb) w) : Ret Try.prog 10 #[.slice ada na capa, .slice adb nb capb] w (fun u w' => u = .bool true ∧ Ext w w') := by
 refine Ret.enterM (l := [.slice ada na capa, .slice adb nb capb]) Try.func10 rfl Try.ntmps10 rfl ([]) (no) (Mem.nil w) ?_
 refine wpM.seq (wpM.region ?_)
 refine LM.as rfl ?_
 refine LM.nil (QM.sub (e' := [(0, _), (1, _)]) au9 (QM.then ?_))
 refine wpM.seq ?_
 refine wpM.seq (wpM.region ?_)
 refine LM.mv rfl ?_
 refine LM.val (ov_len Try.underlying29 rfl) ?_
 refine LM.mv rfl ?_
 refine LM.val (ov_len Try.underlying29 rfl) ?_
 refine LM.val (ov_neq rfl rfl) ?_
 refine LM.nil (QM.sub (e' := [(0, _), (1, _), (10, _)]) au9 (QM.then ?_))
 refine wpM.condD rfl (fun h1 => ?_) (fun h1 => ?_)
 ·
  omega
 refine wpM.skip ?_
 refine QM.then ?_
 refine wpM.seq ?_
 refine wpM.seq (wpM.region ?_)
 refine LM.mv rfl ?_
 refine LM.val (ov_len Try.underlying29 rfl) ?_
 refine LM.mv rfl ?_
 refine LM.nil (QM.sub (e' := [(0, _), (1, _), (12, _), (13, _)]) au9 (QM.then ?_))
 refine wpM.block ?_
 refine wpM.loopK0 (α := Nat) (fun i => [(13, .int .i64 (i : Nat))]) [(0, _), (1, _), (12, _)] (fun i => []) (fun i => i ≤ xs.length) (fun i => xs.length - i) (0) ⟨au2, rfl, rfl, rfl, trivial⟩ au1 (Nat.zero_le _) ?_
 rintro i hi
 change wpM _ _ _ _ _ _ _ ([]) _ _ _
 refine wpM.seq (wpM.region ?_)
 refine LM.val (ov_lss rfl rfl) ?_
 refine LM.nil (QM.sub (e' := [(0, _), (1, _), (12, _), (13, _), (14, _)]) au9 (QM.then ?_))
 refine wpM.seq ?_
 refine wpM.condD rfl (fun h2 => ?_) (fun h2 => ?_)
 ·
  refine wpM.skip ?_
  refine QM.then ?_
  refine wpM.seq ?_
  refine wpM.block ?_
  refine wpM.seq (wpM.region ?_)
  refine LM.mv rfl (LM.as rfl ?_)
  refine LM.nil (QM.sub (e' := [(0, _), (1, _), (5, _), (12, _), (13, _)]) au9 (QM.then ?_))
  refine wpM.seq ?_
  refine wpM.draw [(0, 0), (1, 0), (2, 0), (3, 1), (4, 0), (5, 0), (6, 0), (7, 1), (8, 0)] (by kernel_rfl) (by kernel_rfl) ?_
  refine LD.val rfl rfl (ov_move rfl) ?_
  refine LD.val rfl rfl (ov_move rfl) ?_
  refine LD.val rfl rfl (ov_idxSN au6 Try.underlying29 Try.sizeOf3 rfl rfl (by omega)) ?_
  first | refine LD.rd rfl rfl (om_sl1 (by assumption) (by intro _; rfl) Try.isAgg3 rfl rfl (by exact getq 0 au4) (by rfl)) ?_ | refine LD.rdC rfl rfl (om_sr1 (by assumption) Try.isAgg3 rfl rfl (by exact getq 0 au4) (by rfl) id) ?_ | refine LD.rd rfl rfl (om_ld Try.isAgg3 rfl rfl) ?_
  refine LD.val rfl rfl (ov_move rfl) ?_
  refine LD.val rfl rfl (ov_move rfl) ?_
  refine LD.val rfl rfl (ov_idxSN au6 Try.underlying29 Try.sizeOf3 rfl rfl (by omega)) ?_
  first | refine LD.rd rfl rfl (om_sl1 (by assumption) (by intro _; rfl) Try.isAgg3 rfl rfl (by exact getq 0 au4) (by rfl)) ?_ | refine LD.rdC rfl rfl (om_sr1 (by assumption) Try.isAgg3 rfl rfl (by exact getq 0 au4) (by rfl) id) ?_ | refine LD.rd rfl rfl (om_ld Try.isAgg3 rfl rfl) ?_
  refine LD.val rfl rfl (ov_neq rfl rfl) ?_
  refine LD.nil ?_
  refine QM.sub (e' := [(0, _), (1, _), (12, _), (13, _), (24, _)]) au9 (QM.then ?_)
  refine wpM.condD rfl (fun h3 => ?_) (fun h3 => ?_)
  ·
   exact absurd rfl h3
  refine wpM.skip ?_
  refine QM.block_normal ?_
  refine QM.then (wpM.region ?_)
  refine LM.val (ov_add64 rfl rfl (by omega)) ?_
  refine LM.mv rfl ?_
  refine LM.nil (QM.sub (e' := [(0, _), (1, _), (12, _), (13, _)]) au9 ?_)
  refine QM.againK (i + 1) ⟨au2, rfl, rfl, rfl, trivial⟩ au1 (fun _ h => h) ?_ ?_
  · omega
  · omega
 refine wpM.exit ?_
 refine QM.then_exit ?_
 refine QM.then_exit ?_
 refine QM.block_hit ?_
 refine QM.then (wpM.seq (wpM.region ?_))
 refine LM.as rfl ?_
 refine LM.nil (QM.sub (e' := [(4, _)]) ⟨rfl, trivial⟩ (QM.then ?_))
 refine wpM.ret ?_
 refine QM.leave (.inl rfl) [.tmp 4] Try.results10 rfl ?_
 intro w' hm' hc' hg'
 exact ⟨rfl, hc'⟩
end Go.Eng
namespace Go.Eng
open Go Go.Proofs Go.RowKit
end Go.Eng
namespace Go.Eng
open Go Go.Proofs Go.RowKit
abbrev iF (c : Nat) (i : Int) : Nat × Obj := (c, .cells #[.int .i64 i] 3 (0, 0))
abbrev bF (c : Nat) (x : Bool) : Nat × Obj := (c, .cells #[.bool x] 4 (0, 0))
end Go.Eng
namespace Go.Eng
open Go Go.Proofs Go.RowKit
def awV (i : Nat) : Wt := ⟨((i : Nat) : Int) + 1, 7, BitVec.ofInt 64 (10 * (((i : Nat) : Int) + 1))⟩
def awL (i : Nat) : List Wt := (List.range i).map awV
theorem aw_E : ∀ {i : Nat}, i < 3 → wtE 9 9 (awL i) (awV i) = 0
  | 0, _ => by decide
  | 1, _ => by decide
  | 2, _ => by decide
theorem aw_L : ∀ {i : Nat}, i < 3 → wtL 9 9 (awL i) (awV i) = awL (i + 1)
  | 0, _ => by decide
  | 1, _ => by decide
  | 2, _ => by decide
theorem aw_W : wakeF 7 9 (rmW (awL 3) 2).length [] (rmW (awL 3) 2) = ([1, 3], []) := by decide
theorem newMost9 : newMost 9 = 9 := by decide
theorem newMost100 : newMost 100 = 100 := by decide
theorem twake_k {most each : Int} {n0 T b k : Nat} {L : List Wt} {m : Mem0} (key n : Int) (w : World) (h : TbM most each n0 T L b m) (hk : k ≤ w.heap.size) (hM : Mem w m) :
    Ret Try.prog 11 #[.pointer (some ⟨b, 0, none⟩), .int .i64 key, .int .i64 n] w (Upd m (WkT most each n0 T b k (wakeF key n L.length [] L)) w) :=
  (twake_spec key n w h hM).mono (fun u w' hU => hU.imp (fun u m' ⟨mo, mt, h1, h2, h3⟩ => ⟨mo, mt, h1.mono hk, h2, h3⟩))
set_option maxRecDepth 100000 in
theorem awake08_spec (w : World) : Ret Try.prog 5 #[] w (fun u w' => u = .bool true ∧ Ext w w') := by
 refine Ret.enterM (l := []) Try.func5 rfl Try.ntmps5 rfl ([]) (no) (Mem.nil w) ?_
 refine wpM.seq (wpM.region ?_)
 refine LM.as rfl ?_
 refine LM.nil (QM.sub (e' := []) trivial (QM.then (wpM.seq (wpM.region ?_))))
 refine LM.callT (oc_call (enters_fn Try.func6 (by kernel_rfl) rfl) rfl) TbN.mono (fun w hm hc hg => tnew_spec 2 9 9 w) ?_
 rintro u6 m6 ⟨b6, rfl, h6⟩ hge6; rw [newMost9] at h6
 refine LM.as rfl ?_
 refine LM.nil (QM.sub (e' := [(1, _)]) ⟨rfl, trivial⟩ (QM.then ?_))
 refine wpM.seq ?_
 refine wpM.seq (wpM.region ?_)
 refine LM.as rfl ?_
 refine LM.nil (QM.sub (e' := [(1, _), (2, _)]) au9 (QM.then ?_))
 refine wpM.block ?_
 refine wpM.loopK0 (α := Nat × Mem0) (fun ⟨i, mt⟩ => [(2, .int .i64 ((i : Nat) + 1))]) [(1, _)] (fun ⟨i, mt⟩ => mt ++ []) (fun ⟨i, mt⟩ => i ≤ 3 ∧ TbM 9 9 w.heap.size i (awL i) b6 mt) (fun ⟨i, mt⟩ => 3 - i) ((0, m6)) ⟨au2, rfl, trivial⟩ au1 ⟨Nat.zero_le _, h6⟩ ?_
 rintro ⟨i, mt⟩ ⟨hi, hT⟩
 change wpM _ _ _ _ _ _ _ (mt ++ []) _ _ _
 refine wpM.seq ?_
 refine wpM.seq (wpM.region ?_)
 refine LM.mv rfl ?_
 refine LM.val (ov_lss rfl rfl) ?_
 refine LM.nil (QM.sub (e' := [(1, _), (2, _), (8, _)]) au9 (QM.then ?_))
 refine wpM.condD rfl (fun h1 => ?_) (fun h1 => ?_)
 ·
  refine wpM.skip ?_
  refine QM.then ?_
  refine wpM.seq ?_
  refine wpM.block ?_
  refine wpM.seq (wpM.region ?_)
  refine LM.mv rfl (LM.mv rfl (LM.mv rfl ?_))
  refine LM.val (ov_mul64 rfl rfl (by omega)) ?_
  refine LM.val (ov_toU Try.underlying3 Try.underlying30 rfl) ?_
  refine LM.val (ov_build (cs := #[_, _, _]) rfl (by first | rfl | kernel_rfl)) ?_
  refine LM.cU (oc_call (enters_fn Try.func8 (by kernel_rfl) rfl) rfl) (fun w hm hc hg => twait_spec (awV i) w hT (by omega) hc.size (hm.pick mt)) hT.wlk (fun p hp hlt => absurd hlt (Nat.not_lt_of_le (hT.ge p hp))) ?_
  rintro u17 m17 ⟨rfl, h17⟩ hin17; rw [aw_E (by omega)]
  refine LM.val (ov_neq rfl rfl) ?_
  refine LM.nil (QM.sub (e' := [(1, _), (2, _), (18, _)]) au9 (QM.then ?_))
  refine wpM.condD rfl (fun h2 => ?_) (fun h2 => ?_)
  ·
   exact absurd rfl h2
  refine wpM.skip ?_
  refine QM.block_normal ?_
  refine QM.then (wpM.region ?_)
  refine LM.mv rfl ?_
  refine LM.val (ov_add64 rfl rfl (by omega)) ?_
  refine LM.as rfl ?_
  refine LM.nil (QM.sub (e' := [(1, _), (2, _)]) au9 ?_)
  refine QM.againK (i + 1, m17) ⟨au2, rfl, trivial⟩ au1 (fun _ h => h) ?_ ?_
  · exact ⟨by omega, by rw [← aw_L (by omega)]; exact h17⟩
  · first | omega | (dsimp only; omega)
 have hi3 : i = 3 := (by omega); subst hi3
 refine wpM.exit ?_
 refine QM.then_exit ?_
 refine QM.then_exit ?_
 refine QM.block_hit ?_
 refine QM.then (wpM.seq (wpM.region ?_))
 refine LM.mv rfl ?_
 refine LM.cU (oc_call (enters_fn Try.func13 (by kernel_rfl) rfl) rfl) (fun w hm hc hg => (by have k := tcancel_yes (awV 1) w hT (by decide) (hm.pick mt); rw [show (awV 1).who = 2 by decide] at k; exact k)) hT.wlk (fun p hp hlt => absurd hlt (Nat.not_lt_of_le (hT.ge p hp))) ?_
 rintro u21 m21 ⟨rfl, h21⟩ hin21
 refine LM.mv rfl ?_
 refine LM.val (ov_extract rfl rfl) ?_
 refine LM.val (ov_extract rfl rfl) ?_
 refine LM.alloc Try.zeroValue32 rfl (fun b3 hb3 => ?_)
 refine LM.stW Try.sizeOf32 rfl rfl rfl rfl au7 au8 ?_
 refine LM.as rfl ?_
 refine LM.nil (QM.sub (e' := [(1, _), (3, _), (4, _)]) au9 (QM.then (wpM.seq (wpM.region ?_))))
 refine LM.mv rfl ?_
 refine LM.cU (oc_call (enters_fn Try.func11 (by kernel_rfl) rfl) rfl) (fun w hm hc hg => twake_k 7 9 w h21 hc.size (hm.pick m21)) h21.wlk (fun p hp hlt => absurd hlt (Nat.not_lt_of_le (h21.ge p hp))) ?_
 rintro u25 m25 ⟨mo25, mt25, hs25, rfl, ht25⟩ hin25; rw [aw_W] at hs25 ht25; obtain ⟨ad25, n25, cap25, rfl, hn25⟩ : ∃ ad n cap, u25 = .slice ad n cap ∧ n = 2 := (by obtain ⟨ad, cap, hu⟩ := hs25.form; exact ⟨ad, _, cap, hu, rfl⟩)
 refine LM.as rfl ?_
 refine LM.nil (QM.sub (e' := [(1, _), (3, _), (4, _), (5, _)]) au9 (QM.then (wpM.seq (wpM.region ?_))))
 refine LM.val (ov_field Try.underlying32 rfl Try.sizeOf3 rfl (k := 1) rfl rfl) ?_
 refine LM.rd (om_ld Try.isAgg3 rfl rfl) ?_
 refine LM.val (ov_eql rfl rfl) ?_
 refine LM.mv rfl ?_
 refine LM.splitD (t := 29) rfl (fun h3 => ?_) (fun h3 => ?_)
 ·
  refine LM.sp 29 rfl rfl rfl (LM.mv rfl ?_)
  refine LM.val (ov_pickT rfl rfl) ?_
  refine LM.mv rfl ?_
  first | refine LM.splitD (t := 32) rfl (fun h4 => ?_) (fun h4 => ?_) | refine LM.splitB (t := 32) rfl (fun h4 => ?_) (fun h4 => ?_)
  ·
   refine LM.sp 32 rfl rfl rfl (LM.mv rfl (LM.sp 32 rfl rfl rfl ?_))
   refine LM.val (ov_len Try.underlying29 rfl) ?_
   refine LM.sp 32 rfl rfl rfl ?_
   refine LM.val (ov_eql rfl rfl) ?_
   refine LM.val (ov_pickT rfl rfl) ?_
   refine LM.mv rfl ?_
   refine LM.splitD (t := 37) rfl (fun h5 => ?_) (fun h5 => ?_)
   ·
    refine LM.sp 37 rfl rfl rfl (LM.mv rfl (LM.sp 37 rfl rfl rfl ?_))
    refine LM.val (ov_idxSN (i := 0) au6 Try.underlying29 Try.sizeOf3 rfl rfl (by omega)) ?_
    refine LM.sp 37 rfl rfl rfl ?_
    refine LM.rd (om_sl1 (i := 0) (by assumption) (by intro _; rfl) Try.isAgg3 rfl rfl (by exact getq 0 au4) (by rfl)) ?_
    refine LM.sp 37 rfl rfl rfl ?_
    refine LM.val (ov_eql rfl rfl) ?_
    refine LM.val (ov_pickT rfl rfl) ?_
    refine LM.mv rfl ?_
    refine LM.splitD (t := 43) rfl (fun h6 => ?_) (fun h6 => ?_)
    ·
     refine LM.sp 43 rfl rfl rfl (LM.mv rfl (LM.sp 43 rfl rfl rfl ?_))
     refine LM.val (ov_idxSN (i := 1) au6 Try.underlying29 Try.sizeOf3 rfl rfl (by omega)) ?_
     refine LM.sp 43 rfl rfl rfl ?_
     refine LM.rd (om_sl1 (i := 1) (by assumption) (by intro _; rfl) Try.isAgg3 rfl rfl (by exact getq 0 au4) (by rfl)) ?_
     refine LM.sp 43 rfl rfl rfl ?_
     refine LM.val (ov_eql rfl rfl) ?_
     refine LM.val (ov_pickT rfl rfl) ?_
     refine LM.mv rfl ?_
     refine LM.splitD (t := 49) rfl (fun h7 => ?_) (fun h7 => ?_)
     ·
      refine LM.sp 49 rfl rfl rfl (LM.mv rfl (LM.sp 49 rfl rfl rfl ?_))
      refine LM.callE (oc_call (enters_fn Try.func23 (by kernel_rfl) rfl) rfl) (fun w hm hc hg => tlen_spec w ht25 (hm.pick mt25)) ?_
      refine LM.sp 49 rfl rfl rfl ?_
      refine LM.val (ov_eql rfl rfl) ?_
      refine LM.val (ov_pickT rfl rfl) ?_
      refine LM.as rfl ?_
      refine LM.nil (QM.sub (e' := [(0, _)]) ⟨rfl, trivial⟩ (QM.then ?_))
      refine wpM.ret ?_
      refine QM.leave (.inl rfl) [.tmp 0] Try.results5 rfl ?_
      intro w' hm' hc' hg'
      exact ⟨rfl, hc'⟩
     refine LM.dr 49 rfl rfl rfl (LM.dr 49 rfl rfl rfl (LM.dr 49 rfl rfl rfl ?_))
     refine LM.val (ov_pickF rfl rfl) ?_
     refine LM.as rfl ?_
     refine LM.nil (QM.sub (e' := [(0, _)]) ⟨rfl, trivial⟩ (QM.then ?_))
     refine wpM.ret ?_
     refine QM.leave (.inl rfl) [.tmp 0] Try.results5 rfl ?_
     intro w' hm' hc' hg'
     first | exact ⟨rfl, hc'⟩ | (exfalso; first | omega | (simp at *; done) | (simp_all; done))
    refine LM.dr 43 rfl rfl rfl (LM.dr 43 rfl rfl rfl (LM.dr 43 rfl rfl rfl (LM.dr 43 rfl rfl rfl ?_)))
    refine LM.val (ov_pickF rfl rfl) ?_
    refine LM.mv rfl (LM.dr 49 rfl rfl rfl (LM.dr 49 rfl rfl rfl (LM.dr 49 rfl rfl rfl ?_)))
    refine LM.val (ov_pickF rfl rfl) ?_
    refine LM.as rfl ?_
    refine LM.nil (QM.sub (e' := [(0, _)]) ⟨rfl, trivial⟩ (QM.then ?_))
    refine wpM.ret ?_
    refine QM.leave (.inl rfl) [.tmp 0] Try.results5 rfl ?_
    intro w' hm' hc' hg'
    first | exact ⟨rfl, hc'⟩ | (exfalso; first | omega | (simp at *; done) | (simp_all; done))
   refine LM.dr 37 rfl rfl rfl (LM.dr 37 rfl rfl rfl (LM.dr 37 rfl rfl rfl (LM.dr 37 rfl rfl rfl ?_)))
   refine LM.val (ov_pickF rfl rfl) ?_
   refine LM.mv rfl (LM.dr 43 rfl rfl rfl (LM.dr 43 rfl rfl rfl (LM.dr 43 rfl rfl rfl (LM.dr 43 rfl rfl rfl ?_))))
   refine LM.val (ov_pickF rfl rfl) ?_
   refine LM.mv rfl (LM.dr 49 rfl rfl rfl (LM.dr 49 rfl rfl rfl (LM.dr 49 rfl rfl rfl ?_)))
   refine LM.val (ov_pickF rfl rfl) ?_
   refine LM.as rfl ?_
   refine LM.nil (QM.sub (e' := [(0, _)]) ⟨rfl, trivial⟩ (QM.then ?_))
   refine wpM.ret ?_
   refine QM.leave (.inl rfl) [.tmp 0] Try.results5 rfl ?_
   intro w' hm' hc' hg'
   first | exact ⟨rfl, hc'⟩ | (exfalso; first | omega | (simp at *; done) | (simp_all; done))
  refine LM.dr 32 rfl rfl rfl (LM.dr 32 rfl rfl rfl (LM.dr 32 rfl rfl rfl ?_))
  refine LM.val (ov_pickF rfl rfl) ?_
  refine LM.mv rfl (LM.dr 37 rfl rfl rfl (LM.dr 37 rfl rfl rfl (LM.dr 37 rfl rfl rfl (LM.dr 37 rfl rfl rfl ?_))))
  refine LM.val (ov_pickF rfl rfl) ?_
  refine LM.mv rfl (LM.dr 43 rfl rfl rfl (LM.dr 43 rfl rfl rfl (LM.dr 43 rfl rfl rfl (LM.dr 43 rfl rfl rfl ?_))))
  refine LM.val (ov_pickF rfl rfl) ?_
  refine LM.mv rfl (LM.dr 49 rfl rfl rfl (LM.dr 49 rfl rfl rfl (LM.dr 49 rfl rfl rfl ?_)))
  refine LM.val (ov_pickF rfl rfl) ?_
  refine LM.as rfl ?_
  refine LM.nil (QM.sub (e' := [(0, _)]) ⟨rfl, trivial⟩ (QM.then ?_))
  refine wpM.ret ?_
  refine QM.leave (.inl rfl) [.tmp 0] Try.results5 rfl ?_
  intro w' hm' hc' hg'
  first | exact ⟨rfl, hc'⟩ | (exfalso; first | omega | (simp at *; done) | (simp_all; done))
 exact absurd (show (awV 1).key = 7 from rfl) h3
end Go.Eng
namespace Go.Eng
open Go Go.Proofs Go.RowKit
structure Dw where
  kind : Int
  w : Wt
  n : Int
instance : Inhabited Dw := ⟨⟨0, default, 0⟩⟩
end Go.Eng
