/- The walks of a lock: one waits. No condition. -/
import Derived.Test.YtljpjpnjaeidiaaGreatDoorM2
import Derived.Test.YtljpjpnjaeidiaaGreatDoorM5
set_option linter.unusedVariables false
set_option linter.unusedSimpArgs false
set_option maxRecDepth 100000
namespace Go.Eng
open Go Go.Proofs Go.RowKit
theorem wtE_new {L : List Wt} {t p : Int} (h : ¬ 8 ≤ L.length) (hn : hasW L t = false) : wtE 8 8 L ⟨t, p, 0#64⟩ = 0 ∧ wtL 8 8 L ⟨t, p, 0#64⟩ = L ++ [⟨t, p, 0#64⟩] := by
  have h1 : ¬ ∃ x ∈ L, x.who = t := fun ⟨x, hx, e⟩ => hasW_no hn x hx e
  have h2 := cnt_le L p
  unfold wtE wtL entE entL
  have h3 : ¬ (8 : Int) ≤ (L.length : Int) := by omega
  have h4 : ¬ (8 : Int) ≤ (cntL L p : Int) := by omega
  rw [if_neg h1, if_neg h1, if_neg h3, if_neg h3]
  exact ⟨if_neg h4, if_neg h4⟩
theorem wtE_full {L : List Wt} {t p : Int} (h : 8 ≤ L.length) (hn : hasW L t = false) : wtE 8 8 L ⟨t, p, 0#64⟩ = 3 ∧ wtL 8 8 L ⟨t, p, 0#64⟩ = L := by
  have h1 : ¬ ∃ x ∈ L, x.who = t := fun ⟨x, hx, e⟩ => hasW_no hn x hx e
  unfold wtE wtL
  rw [if_neg h1, if_neg h1, if_pos om, if_pos om]
  exact ⟨rfl, rfl⟩
theorem comes_zero {x : Lkm} {t p : Int} (h : comesE x t p = 0) : isO x.ld p = true ∧ 0 ≤ t ∧ holdsO x t = false ∧ waitsO x t = false := by
  unfold comesE at h
  by_cases c1 : isO x.ld p = false ∨ t < 0
  · rw [if_pos c1] at h; cases h
  · rw [if_neg c1] at h
    by_cases c2 : holdsO x t = true
    · rw [if_pos c2] at h; cases h
    · rw [if_neg c2] at h
      by_cases c3 : waitsO x t = true
      · rw [if_pos c3] at h; cases h
      · exact ⟨by simpa using fun q => c1 (.inl q), by omega, by simpa using c2, by simpa using c3⟩
theorem lkWait_spec {n0 T b : Nat} {x : Lkm} {m : Mem0} (t p : Int) (w : World) (hT : Tab w) (hn1 : 0 < n0) (h : LkM n0 T b x (x.wt.map (·.who)) m) (hn0 : n0 ≤ w.heap.size) (hTT : T ≤ 1000000000) (hM : Mem w m) : Ret Tryz.prog 13 #[.pointer (some ⟨b, 0, none⟩), .int .i64 t, .int .i64 p] w (Upd m (fun u m' => u = .int .i64 (waitE x t p) ∧ LkM n0 (T + 1) b (waitX x t p) ((waitX x t p).wt.map (·.who)) m') w) := by
 have hLk := h; have hS0 : ¬ inM m 0 := (fun ⟨p, hp, e⟩ => by have := h.ge p hp; omega); obtain ⟨adh, nh, caph, ado, nd, capo, bq, bl, mh, mo, mq, ml, rfl, hnh, hnd, hsh, hso, hTb, hLe, hb⟩ := h; have hxl := hTb.lim.2.2.1; have hol : (x.wt.map (·.who)).length = x.wt.length := List.length_map ..
 refine Ret.enterM Tryz.func13 rfl Tryz.ntmps13 rfl (lkC b x.sh x.sl adh nh caph bq ado nd capo x.tr bl x.di :: (mh ++ (mo ++ (mq ++ (ml ++ []))))) ((inM (lkM0 b x adh nh caph bq ado nd capo bl mh mo mq ml))) aM ?_
 refine wR <| LM.as rfl <| nA [(0, _), (1, _), (2, _)] <| wpM.seq <| wR <| LM.mv rfl <| LM.mv rfl <| LM.mv rfl ?_
 refine cE Tryz.func38 rfl (fun w hm hc hg => lkComes_spec t p w hLk (hm.pick (lkC b x.sh x.sl adh nh caph bq ado nd capo x.tr bl x.di :: (mh ++ (mo ++ (mq ++ ml)))))) ?_
 refine LM.as rfl <| nB [(0, _), (1, _), (2, _), (7, _)] <| LM.mv rfl <| LM.val (ov_neq rfl rfl) <| nA [(0, _), (1, _), (2, _), (7, _), (14, _)] ?_
 refine wpM.condD rfl (fun h1 => ?_) (fun h1 => ?_)
 ·
  refine wR <| LM.mv rfl <| LM.as rfl <| nA [(6, _)] <| wpM.ret <| QM.then_ret ?_
  refine qL Tryz.results13 rfl fun w' hm' hc' hg' => ?_
  have e1 : waitE x t p = comesE x t p := if_pos (by simpa using h1); have e2 : waitX x t p = x := if_pos (by rw [e1]; simpa using h1); rw [e1, e2]; have e3 : LkM n0 (T + 1) b x (x.wt.map (·.who)) (lkM0 b x adh nh caph bq ado nd capo bl mh mo mq ml) := ⟨adh, nh, caph, ado, nd, capo, bq, bl, mh, mo, mq, ml, rfl, hnh, hnd, hsh, hso, hTb.tmono (Nat.le_succ _), hLe, hb⟩; exact upd_m ⟨rfl, e3⟩ hm' au1 hc' (inn_refl _ _)
 have k1 : comesE x t p = 0 := (by simpa using h1); have hnw : hasW x.wt t = false := (comes_zero k1).2.2.2
 refine wpM.skip <| QM.then <| wpM.seq <| wR <| LM.mv rfl <| LM.mv rfl ?_
 refine cE Tryz.func39 rfl (fun w hm hc hg => lkFree_spec p w hLk (hm.pick (lkC b x.sh x.sl adh nh caph bq ado nd capo x.tr bl x.di :: (mh ++ (mo ++ (mq ++ ml)))))) ?_
 refine nA [(0, _), (1, _), (2, _), (18, _)] ?_
 first | refine wpM.condD rfl (fun h2 => ?_) (fun h2 => ?_) | refine wpM.condB rfl (fun h2 => ?_) (fun h2 => ?_)
 ·
  refine wR <| LM.as rfl <| nA [(6, _)] <| wpM.ret <| QM.then_ret ?_
  refine qL Tryz.results13 rfl fun w' hm' hc' hg' => ?_
  have e1 : waitE x t p = 4 := (by unfold waitE; rw [if_neg (by rw [k1]; simp), if_pos h2]); have e2 : waitX x t p = x := if_pos (by rw [e1]; decide); rw [e1, e2]; have e3 : LkM n0 (T + 1) b x (x.wt.map (·.who)) (lkM0 b x adh nh caph bq ado nd capo bl mh mo mq ml) := ⟨adh, nh, caph, ado, nd, capo, bq, bl, mh, mo, mq, ml, rfl, hnh, hnd, hsh, hso, hTb.tmono (Nat.le_succ _), hLe, hb⟩; exact upd_m ⟨rfl, e3⟩ hm' au1 hc' (inn_refl _ _)
 refine wpM.skip <| QM.then <| wpM.seq <| wR <| LM.mv rfl <| LM.nc rfl <| LM.val (ovf 66 rfl rfl rfl rfl) ?_
 refine LM.rd (oml rfl rfl rfl) ?_
 refine LM.mv rfl <| LM.mv rfl ?_
 refine LM.val (ov_build (cs := #[.int .i64 t, .int .i64 p, U 0#64]) rfl kr) ?_
 refine cU Tryz.func47 rfl (fun w hm hc hg => twait_spec ⟨t, p, 0#64⟩ w hTb hTT (Nat.le_trans hn0 hc.size) (hm.pick mq)) hTb.wlk (fun q hq _ => ⟨q, by simp [hq], rfl⟩) ?_
 rintro u26 m26 ⟨rfl, h26⟩ hin26
 refine LM.as rfl <| nB [(0, _), (1, _), (8, _)] <| LM.mv rfl <| LM.val (ov_neq rfl rfl) <| nA [(0, _), (1, _), (8, _), (28, _)] ?_
 refine wpM.condD rfl (fun h3 => ?_) (fun h3 => ?_)
 ·
  refine wR <| LM.mv rfl <| LM.as rfl <| nA [(6, _)] <| wpM.ret <| QM.then_ret ?_
  refine qL Tryz.results13 rfl fun w' hm' hc' hg' => ?_
  have h8 : 8 ≤ x.wt.length := (by apply Classical.byContradiction; intro q; exact h3 (wtE_new q hnw).1); have hE := wtE_full (p := p) h8 hnw; rw [hE.2] at h26; have e1 : waitE x t p = 3 := (by unfold waitE; rw [if_neg (by rw [k1]; simp), if_neg (by rw [h2]; simp), if_pos h8]); have e2 : waitX x t p = x := if_pos (by rw [e1]; decide); have e3 : LkM n0 (T + 1) b x (x.wt.map (·.who)) (lkM0 b x adh nh caph bq ado nd capo bl mh mo m26 ml) := ⟨adh, nh, caph, ado, nd, capo, bq, bl, mh, mo, m26, ml, rfl, hnh, hnd, hsh, hso, h26, hLe, hb⟩; rw [e1, e2]; exact upd_m ⟨by show Value.int .i64 (wtE 8 8 x.wt ⟨t, p, 0#64⟩) = _; rw [hE.1], e3⟩ hm' au1 hc' (inn_cons inM_0 (inn_app inS (inn_app inS (inn_app (inn_tr hin26 (fun p hp => by simp [hp])) inS))))
 refine wpM.skip <| tR <| LM.mv rfl <| LM.mv rfl <| LM.nc rfl <| LM.val (ovf 24 rfl rfl rfl rfl) ?_
 refine LM.rd (oml rfl rfl rfl) ?_
 refine LM.mv rfl ?_
 refine LM.single Tryz.underlying24 Tryz.sizeOf3 Tryz.zeroValue3 rfl rfl rfl rfl rfl (fun b36 hb36 => ?_)
 refine LM.app (a := t) Tryz.underlying24 Tryz.typeInfo3 rfl rfl rfl rfl rfl rfl rfl asm (by rfl) ir (by intro _ u hu; simp [fI] at hu; (repeat (first | (rcases hu with rfl | hu) | subst hu | rfl))) (by first | exact Nat.le_refl _ | omega) (fun p hp _ => ⟨p, by simp [hp], rfl⟩) (by first | omega | (unfold maxLen; omega)) (by simp only [Tryz.t3]; omega) (fun ad37 n37 cap37 m37 hn37 hs37 hin37 => ?_)
 refine LM.nc rfl <| LM.val (ovf 24 rfl rfl rfl rfl) ?_
 refine LM.st Tryz.sizeOf24 rfl rfl rfl au5 rfl auH ?_
 refine LM.mem (SubM.mem (M' := lkC b x.sh x.sl adh nh caph bq ad37 n37 cap37 x.tr bl x.di :: (mh ++ (m37 ++ (m26 ++ (ml ++ []))))) au1) ?_
 refine nB [(0, _)] ?_
 have hE := wtE_new (p := p) (show ¬ 8 ≤ x.wt.length from fun q => h3 (by rw [(wtE_full q hnw).1]; decide)) hnw; rw [hE.2] at h26; have h40 : LkM n0 (T + 1) b { x with wt := x.wt ++ [⟨t, p, 0#64⟩] } (x.wt.map (·.who) ++ [t]) (lkC b x.sh x.sl adh nh caph bq ad37 n37 cap37 x.tr bl x.di :: (mh ++ (m37 ++ (m26 ++ ml)))) := ⟨adh, nh, caph, ad37, n37, cap37, bq, bl, mh, m37, m26, ml, rfl, hnh, by rw [List.length_append]; omega, hsh, hs37, h26, hLe, hb⟩; have hin40 : inn (lkM0 b x adh nh caph bq ado nd capo bl mh mo mq ml) w.heap.size (lkC b x.sh x.sl adh nh caph bq ad37 n37 cap37 x.tr bl x.di :: (mh ++ (m37 ++ (m26 ++ ml)))) := inn_cons inM_0 (inn_app inS (inn_app (inn_tr hin37 (fun p hp => by simp [hp])) (inn_app (inn_tr hin26 (fun p hp => by simp [hp])) inS)))
 refine LM.mv rfl ?_
 refine cU Tryz.func42 rfl (fun w hm hc hg => lkSet_spec w (hT.keep hc hS0) hn1 h40 (by rw [List.map_append]; rfl) (hm.pick (lkC b x.sh x.sl adh nh caph bq ad37 n37 cap37 x.tr bl x.di :: (mh ++ (m37 ++ (m26 ++ ml)))))) h40.wlk (inM_inn hin40) ?_
 rintro u41 m41 h41 hin41
 refine LM.nil (QM.sub (e' := []) trivial (QM.then (wpM.seq (wpM.region ?_))))
 refine LM.as rfl <| nA [(6, _)] <| wpM.ret ?_
 refine qL Tryz.results13 rfl fun w' hm' hc' hg' => ?_
 have h8 : ¬ 8 ≤ x.wt.length := (fun q => by rw [(wtE_full q hnw).1] at h3; exact absurd h3 (by decide)); have e1 : waitE x t p = 0 := (by unfold waitE; rw [if_neg (by rw [k1]; simp), if_neg (by rw [h2]; simp), if_neg h8]); have e2 : waitX x t p = settleX { x with wt := x.wt ++ [⟨t, p, 0#64⟩] } := if_neg (by rw [e1]; simp); have e4 : (waitX x t p).wt.map (·.who) = x.wt.map (·.who) ++ [t] := (by rw [e2]; show (x.wt ++ [_]).map _ = _; rw [List.map_append]; rfl); rw [e1, e4, e2]; exact upd_m ⟨rfl, h41⟩ hm' au1 hc' (inn_trans hin40 hin41)
def ixI (l : List Int) (t : Int) : Int := fixI (fun x => decide (x = t)) l
def rmI (l : List Int) (t : Int) : List Int := l.filter (fun x => decide (x ≠ t))
abbrev taB (c : Nat) (task : Int) : Nat × Obj := (c, .cells #[.int .i64 task] 3 (0, 0))
theorem rmI_no {l : List Int} {t : Int} (h : l.any (fun x => decide (x = t)) = false) : rmI l t = l := by
  refine List.filter_eq_self.2 (fun x hx => ?_)
  rw [List.any_eq_false] at h
  have := h x hx
  simpa using this
theorem rmI_snoc {l : List Int} {t : Int} {j : Nat} (h : j < l.length) : rmI (l.take (j + 1)) t = if l.getD j 0 ≠ t then rmI (l.take j) t ++ [l.getD j 0] else rmI (l.take j) t := by
  unfold rmI; rw [take_snoc 0 h, List.filter_append, List.filter_cons, List.filter_nil]
  by_cases e : l.getD j 0 = t
  · rw [if_neg (by simpa using e), if_neg (fun q => q e), List.append_nil]
  · rw [if_pos (by simpa using e), if_pos e]
theorem ixI_cases (l : List Int) (t : Int) : (ixI l t = -1 ∧ l.any (fun x => decide (x = t)) = false) ∨ ∃ i : Nat, ixI l t = (i : Int) ∧ i < l.length ∧ l.getD i 0 = t ∧ (l.take i).any (fun x => decide (x = t)) = false := by
  cases h : l.any (fun x => decide (x = t)) with
  | false => exact .inl ⟨fix_miss h, rfl⟩
  | true =>
    have h1 : l.findIdx (fun x => decide (x = t)) < l.length := List.findIdx_lt_length.2 (by rw [List.any_eq_true] at h; exact h)
    have h2 := List.findIdx_getElem (w := h1)
    refine .inr ⟨l.findIdx (fun x => decide (x = t)), if_pos h, h1, ?_, ?_⟩
    · rw [List.getD_eq_getElem?_getD, List.getElem?_eq_getElem h1]; exact of_decide_eq_true h2
    · rw [List.any_eq_false]
      intro x hx
      obtain ⟨j, hj, rfl⟩ := List.getElem_of_mem hx
      rw [List.length_take] at hj
      rw [List.getElem_take]
      have := List.not_of_lt_findIdx (xs := l) (p := fun x => decide (x = t)) (i := j) om
      simpa using this
structure DelI (xs ys : List Int) (t : Int) (i j : Nat) : Prop where
  il : i < j
  jl : j ≤ xs.length
  yl : ys.length = xs.length
  ie : (rmI (xs.take j) t).length = i
  ye : ys.take i = rmI (xs.take j) t
  yr : ∀ q, j ≤ q → ys.getD q 0 = xs.getD q 0
theorem del_init {xs : List Int} {t : Int} {i : Nat} (hi : i < xs.length) (hx : xs.getD i 0 = t) (ha : (xs.take i).any (fun x => decide (x = t)) = false) : DelI xs xs t i (i + 1) := by
  have e : rmI (xs.take (i + 1)) t = xs.take i := by rw [rmI_snoc hi, if_neg (fun q => q hx)]; exact rmI_no ha
  exact ⟨by omega, by omega, rfl, by rw [e, List.length_take]; omega, e.symm, fun q _ => rfl⟩
theorem del_skip {xs ys : List Int} {t : Int} {i j : Nat} (h : DelI xs ys t i j) (hj : j < xs.length) (hx : ys.getD j 0 = t) : DelI xs ys t i (j + 1) := by
  have hx2 : xs.getD j 0 = t := by rw [← h.yr j (Nat.le_refl _)]; exact hx
  have e : rmI (xs.take (j + 1)) t = rmI (xs.take j) t := by rw [rmI_snoc hj, if_neg (fun q => q hx2)]
  exact ⟨by have := h.il; omega, by omega, h.yl, by rw [e]; exact h.ie, by rw [e]; exact h.ye, fun q hq => h.yr q om⟩
theorem del_put {xs ys : List Int} {t : Int} {i j : Nat} (h : DelI xs ys t i j) (hj : j < xs.length) (hx : ys.getD j 0 ≠ t) : DelI xs (ys.set i (ys.getD j 0)) t (i + 1) (j + 1) := by
  have hy := h.yr j (Nat.le_refl _)
  have hx2 : xs.getD j 0 ≠ t := by rw [← hy]; exact hx
  have e : rmI (xs.take (j + 1)) t = rmI (xs.take j) t ++ [xs.getD j 0] := by rw [rmI_snoc hj, if_pos hx2]
  have hil := h.il
  have hyl := h.yl
  refine ⟨by omega, by omega, by rw [List.length_set]; exact hyl, by rw [e, List.length_append, h.ie]; rfl, ?_, fun q hq => ?_⟩
  · rw [take_snoc 0 (by rw [List.length_set]; omega), e, ← h.ye, List.take_set_of_le om, List.getD_eq_getElem?_getD, List.getElem?_set_self om, hy]; rfl
  · rw [List.getD_eq_getElem?_getD, List.getElem?_set_ne om, ← List.getD_eq_getElem?_getD]; exact h.yr q om
theorem lkg1_spec (x : Int) (c : Nat) (task : Int) (w : World) (hM : Mem w [taB c task]) : Ret Tryz.prog 104 #[.int .i64 x, .pointer (some ⟨c, 0, none⟩)] w (fun u w' => u = .bool (decide (x = task)) ∧ Ext w w') := by
 refine Ret.enterM Tryz.func104 rfl Tryz.ntmps104 rfl ([taB c task]) (no) hM ?_
 refine wR <| LM.as rfl <| nB [(0, _), (1, _)] <| LM.mv rfl ?_
 refine LM.rd (oml rfl rfl rfl) ?_
 refine LM.val (ov_eql rfl rfl) <| LM.as rfl <| nA [(3, _)] <| wpM.ret ?_
 refine qL Tryz.results104 rfl fun w' hm' hc' hg' => ?_
 exact ⟨rfl, hc'⟩
theorem ixf_int {xs : List Int} {ad : Option Addr} {n cap c : Nat} (task : Int) (w : World) (hn : n = xs.length) (hl : Sr fI 1 xs (.slice ad n cap) w) (hx : xs.length ≤ maxLen) (hM : Mem w [taB c task]) : Ret Tryz.prog 136 #[.slice ad n cap, .func (.func 104) #[] #[.pointer (some ⟨c, 0, none⟩)]] w (fun v w' => v = .int .i64 (ixI xs task) ∧ Ext w w') := by
 have hx2 : maxLen = 9223372036854775807 := (by unfold maxLen; rfl)
 refine Ret.enterM Tryz.func136 rfl Tryz.ntmps136 rfl ([taB c task]) (no) hM ?_
 refine wR <| LM.as rfl <| nA [(0, _), (1, _)] <| wpM.seq <| wR <| LM.mv rfl <| LM.val (ov_len Tryz.underlying24 rfl) <| LM.mv rfl <| nA [(0, _), (1, _), (7, _), (8, _)] <| wpM.block ?_
 refine wpM.loopK0 (α := Nat) (fun i => [(8, .int .i64 (i : Nat))]) [(0, _), (1, _), (7, _)] (fun i => [taB c task]) (fun i => i ≤ xs.length ∧ (xs.take i).any (fun x => decide (x = task)) = false) (fun i => xs.length - i) (0) ⟨au2, rfl, rfl, rfl, trivial⟩ au1 ⟨Nat.zero_le _, rfl⟩ ?_
 rintro i ⟨hi, ha⟩
 change wpM _ _ _ _ _ _ _ ([taB c task]) _ _ _
 refine wR <| LM.val (ov_lss rfl rfl) <| nA [(0, _), (1, _), (7, _), (8, _), (9, _)] <| wpM.seq ?_
 refine wpM.condD rfl (fun h1 => ?_) (fun h1 => ?_)
 ·
  refine wpM.skip <| QM.then <| wpM.seq <| wpM.block <| wR <| LM.mv rfl <| LM.as rfl <| nB [(0, _), (1, _), (5, _), (7, _), (8, _)] <| LM.mv rfl <| LM.mv rfl <| LM.mv rfl ?_
  refine LM.val (ov_idxSN au6 Tryz.underlying24 Tryz.sizeOf3 rfl rfl om) ?_
  first | refine LM.rd (om_sl1 asm ir Tryz.isAgg3 rfl rfl (by exact getq 0 au4) (by rfl)) ?_ | refine LM.rdC (om_sr1 asm Tryz.isAgg3 rfl rfl (by exact getq 0 au4) (by rfl) id) ?_ | refine LM.rd (oml rfl rfl rfl) ?_
  refine LM.callE (oc_callV rfl (enters_fn Tryz.func104 kr rfl) rfl) (fun w hm hc hg => lkg1_spec _ c task w (hm.pick _)) ?_
  refine nA [(0, _), (1, _), (5, _), (7, _), (8, _), (16, _)] ?_
  refine wpM.condD rfl (fun h2 => ?_) (fun h2 => ?_)
  ·
   refine wR <| LM.mv rfl <| LM.as rfl <| nA [(4, _)] <| wpM.ret <| QM.block_ret <| QM.then_ret <| QM.then_ret <| QM.block_ret <| QM.then_ret ?_
   refine qL Tryz.results136 rfl fun w' hm' hc' hg' => ?_
   exact ⟨by show Value.int .i64 _ = _; unfold ixI; rw [fix_hit 0 ha om (by simpa using h2)], hc'⟩
  refine wpM.skip <| QM.block_normal ?_
  refine QM.then (wpM.region ?_)
  refine LM.val (ov_add64 rfl rfl om) ?_
  refine LM.mv rfl <| nC [(0, _), (1, _), (7, _), (8, _)] ?_
  refine QM.againK (i + 1) ⟨au2, rfl, rfl, rfl, trivial⟩ au1 (fun _ h => h) ?_ ?_
  · exact ⟨by omega, by rw [any_snoc 0 om, ha, Bool.false_or]; simpa using h2⟩
  · omega
 refine wpM.exit <| QM.then_exit <| QM.then_exit <| QM.block_hit <| tR <| LM.as rfl <| nA [(4, _)] <| wpM.ret ?_
 refine qL Tryz.results136 rfl fun w' hm' hc' hg' => ?_
 have hil : i = xs.length := om; subst hil; rw [List.take_length] at ha; exact ⟨by show Value.int .i64 _ = _; unfold ixI; rw [fix_miss ha], hc'⟩
theorem delf_spec {xs : List Int} {ad : Option Addr} {n cap c n0 : Nat} {mz : Mem0} (task : Int) (w : World) (hs : Sl fI 3 1 n0 xs (.slice ad n cap) mz) (hM : Mem w (taB c task :: mz)) : Ret Tryz.prog 103 #[.slice ad n cap, .func (.func 104) #[] #[.pointer (some ⟨c, 0, none⟩)]] w (Upd mz (fun v m' => v = .slice ad (rmI xs task).length cap ∧ Sl fI 3 1 n0 (rmI xs task) (.slice ad (rmI xs task).length cap) m') w) := by
 have hx2 : maxLen = 9223372036854775807 := (by unfold maxLen; rfl); have hsl := hs.len
 refine Ret.enterM Tryz.func103 rfl Tryz.ntmps103 rfl (taB c task :: (mz ++ [])) ((inM mz)) aM ?_
 refine wR <| LM.as rfl <| nB [(0, _), (1, _)] <| LM.mv rfl <| LM.mv rfl ?_
 refine cE Tryz.func136 rfl (fun w hm hc hg => ixf_int task w hsl.1 (hs.srM ir hm) hsl.2.1 (hm.pick [taB c task])) ?_
 refine LM.as rfl <| nA [(0, _), (1, _), (5, _)] <| wpM.seq <| wR <| LM.mv rfl <| LM.val (ov_eql rfl rfl) <| nA [(0, _), (1, _), (5, _), (12, _)] ?_
 refine wpM.condD rfl (fun h1 => ?_) (fun h1 => ?_)
 ·
  refine wR <| LM.mv rfl <| LM.as rfl <| nA [(4, _)] <| wpM.ret <| QM.then_ret ?_
  refine qL Tryz.results103 rfl fun w' hm' hc' hg' => ?_
  have e : rmI xs task = xs := (by rcases ixI_cases xs task with q | ⟨i, q, _⟩; exact rmI_no q.2; rw [q] at h1; omega); rw [e, ← hsl.1]; exact upd_m ⟨rfl, hs⟩ hm' au1 hc' (inn_refl _ _)
 obtain ⟨i0, hi0, hil0, hx0, ha0⟩ : ∃ i : Nat, ixI xs task = (i : Int) ∧ i < xs.length ∧ xs.getD i 0 = task ∧ (xs.take i).any (fun x => decide (x = task)) = false := (by rcases ixI_cases xs task with q | q; exact absurd q.1 h1; exact q); rw [hi0]
 refine wpM.skip <| QM.then <| wpM.seq <| wR <| LM.mv rfl ?_
 refine LM.val (ov_add64 rfl rfl om) ?_
 refine LM.as rfl <| nA [(0, _), (1, _), (5, _), (6, _)] <| wpM.block ?_
 refine wpM.loopK0 (α := Nat × Nat × List Int × Mem0) (fun ⟨i, j, ys, ms2⟩ => [(5, .int .i64 (i : Nat)), (6, .int .i64 (j : Nat))]) [(0, _), (1, _)] (fun ⟨i, j, ys, ms2⟩ => taB c task :: (ms2 ++ [])) (fun ⟨i, j, ys, ms2⟩ => DelI xs ys task i j ∧ Sl fI 3 1 n0 ys (.slice ad n cap) ms2 ∧ (∀ p ∈ ms2, ∃ q ∈ mz, q.1 = p.1)) (fun ⟨i, j, ys, ms2⟩ => xs.length - j) ((i0, i0 + 1, xs, mz)) ⟨au2, au2, rfl, rfl, trivial⟩ au1 ⟨del_init hil0 hx0 ha0, hs, fun p hp => ⟨p, hp, rfl⟩⟩ ?_
 rintro ⟨i, j, ys, ms2⟩ ⟨hD, hs2, hin2⟩
 change wpM _ _ _ _ _ _ _ (taB c task :: (ms2 ++ [])) _ _ _
 have hil := hD.il; have hjl := hD.jl; have hyl := hD.yl
 refine wpM.seq <| wR <| LM.mv rfl <| LM.mv rfl <| LM.val (ov_len Tryz.underlying24 rfl) <| LM.val (ov_lss rfl rfl) <| nA [(0, _), (1, _), (5, _), (6, _), (19, _)] ?_
 refine wpM.condD rfl (fun h2 => ?_) (fun h2 => ?_)
 ·
  refine wpM.skip <| QM.then <| wpM.seq <| wpM.block <| wR <| LM.mv rfl <| LM.mv rfl ?_
  refine LM.val (ov_idxSN au6 Tryz.underlying24 Tryz.sizeOf3 rfl rfl om) ?_
  refine LM.rd (om_sl1 asm ir Tryz.isAgg3 rfl rfl (by exact getq 0 au4) (by rfl)) ?_
  refine LM.as rfl <| nB [(0, _), (1, _), (5, _), (6, _), (7, _)] <| LM.mv rfl <| LM.mv rfl ?_
  refine LM.callE (oc_callV rfl (enters_fn Tryz.func104 kr rfl) rfl) (fun w hm hc hg => lkg1_spec _ c task w (hm.pick _)) ?_
  refine LM.val (ov_notD rfl) ?_
  refine nA [(0, _), (1, _), (5, _), (6, _), (7, _), (29, _)] ?_
  refine wpM.condD rfl (fun h3 => ?_) (fun h3 => ?_)
  ·
   refine wR <| LM.mv rfl <| LM.mv rfl <| LM.mv rfl ?_
   refine LM.val (ov_idxSN au6 Tryz.underlying24 Tryz.sizeOf3 rfl rfl om) ?_
   refine LM.stS _ (j := 0) asm ir Tryz.sizeOf3 rfl rfl rfl (by exact getq 0 au4) rfl (by decide) (by rfl) rfl (fun p hp hlt => by obtain ⟨q, hq, e⟩ := hin2 p hp; exact ⟨q, hq, e⟩) (fun ms hss hmm => ?_)
   refine LM.nil (QM.sub (e' := [(0, _), (1, _), (5, _), (6, _)]) au9 (QM.then (wpM.region ?_)))
   refine LM.mv rfl ?_
   refine LM.val (ov_add64 rfl rfl om) ?_
   refine LM.as rfl <| nC [(0, _), (1, _), (5, _), (6, _)] <| QM.block_normal ?_
   refine QM.then (wpM.region ?_)
   refine LM.mv rfl ?_
   refine LM.val (ov_add64 rfl rfl om) ?_
   refine LM.as rfl <| nC [(0, _), (1, _), (5, _), (6, _)] ?_
   refine QM.againK (i + 1, j + 1, ys.set i (ys.getD j 0), ms) ⟨au2, au2, rfl, rfl, trivial⟩ au1 (fun _ h => h) ?_ ?_
   · exact ⟨del_put hD om (by simpa using h3), hss, fun p hp => by obtain ⟨q, hq1, e⟩ := hmm p hp; rw [← e]; exact hin2 q hq1⟩
   · first | omega | (dsimp only; omega)
  refine wpM.skip <| QM.block_normal ?_
  refine QM.then (wpM.region ?_)
  refine LM.mv rfl ?_
  refine LM.val (ov_add64 rfl rfl om) ?_
  refine LM.as rfl <| nC [(0, _), (1, _), (5, _), (6, _)] ?_
  refine QM.againK (i, j + 1, ys, ms2) ⟨au2, au2, rfl, rfl, trivial⟩ au1 (fun _ h => h) ?_ ?_
  · exact ⟨del_skip hD om (by simpa using h3), hs2, hin2⟩
  · first | omega | (dsimp only; omega)
 refine wpM.exit <| QM.then_exit <| QM.then_exit <| QM.block_hit <| tR <| LM.mv rfl <| LM.mv rfl ?_
 refine LM.val (ov_subLo i Tryz.underlying24 Tryz.sizeOf3 rfl rfl om om) ?_
 refine LM.clear (k := i) (n2 := n) Tryz.underlying24 Tryz.zeroValue3 rfl rfl rfl rfl om hs2 ir om (fun p hp _ => hin2 p hp) (fun ms9 hs9 hin9 => ?_)
 refine nB [(0, _), (5, _)] <| LM.mv rfl <| LM.mv rfl ?_
 refine LM.val (ov_subHi Tryz.underlying24 Tryz.sizeOf3 rfl rfl om om) ?_
 refine LM.as rfl <| nA [(4, _)] <| wpM.ret ?_
 refine qL Tryz.results103 rfl fun w' hm' hc' hg' => ?_
 have hjx : j = xs.length := om; have hye := hD.ye; have hie := hD.ie; rw [hjx, List.take_length] at hye hie; rw [hye] at hs9; rw [hie]; refine upd_m (m' := ms9) ⟨by simp only [resV, Int.toNat_natCast], hs9⟩ hm' au1 hc' (fun p hp => by obtain ⟨q, hq, e⟩ := hin9 p hp; obtain ⟨z, hz, e2⟩ := hin2 q hq; exact .inr ⟨z, hz, e2.trans e⟩)
theorem twake_n {most each : Int} {n0 T b k : Nat} {L : List Wt} {m : Mem0} (key n : Int) (w : World) (h : TbM most each n0 T L b m) (hk : k ≤ w.heap.size) (hM : Mem w m) :
    Ret Tryz.prog 107 #[.pointer (some ⟨b, 0, none⟩), .int .i64 key, .int .i64 n] w (Upd m (WkT most each n0 T b k (wakeF key n L.length [] L)) w) :=
  (twake_spec key n w h hM).mono (fun u w' hU => hU.imp (fun u m' ⟨mo, mt, h1, h2, h3⟩ => ⟨mo, mt, h1.mono hk, h2, h3⟩))
theorem tcancel_any {most each : Int} {n0 T b : Nat} {L : List Wt} {m : Mem0} (who : Int) (w : World) (h : TbM most each n0 T L b m) (hM : Mem w m) :
    Ret Tryz.prog 102 #[.pointer (some ⟨b, 0, none⟩), .int .i64 who] w (Upd m (fun u m' => u = .tuple #[.agg (fWt (fW L who)).toArray, .bool (hasW L who)] ∧ TbM most each n0 T (rmW L who) b m') w) := by
  cases hw : hasW L who with
  | true =>
    obtain ⟨y, hy, rfl⟩ := hasW_yes hw
    rw [fW_yes h.lim.2.2.2 hy]; exact tcancel_yes y w h hy hM
  | false =>
    rw [fW_no (hasW_no hw), rm_no (hasW_no hw)]
    exact (tcancel_no who w h (hasW_no hw) hM).mono (fun u w' ⟨e, hx⟩ => ⟨hx.chg, m, ⟨e, h⟩, hM.ext hx, fun p hp => .inr ⟨p, hp, rfl⟩⟩)
theorem lkGone_spec {n0 T b : Nat} {x : Lkm} {od : List Int} {m : Mem0} (t : Int) (w : World) (h : LkM n0 T b x od m) (hM : Mem w m) : Ret Tryz.prog 56 #[.pointer (some ⟨b, 0, none⟩), .int .i64 t] w (Upd m (fun u m' => LkM n0 T b (goneX x t) (rmI od t) m') w) := by
 obtain ⟨adh, nh, caph, ado, nd, capo, bq, bl, mh, mo, mq, ml, rfl, hnh, hnd, hsh, hso, hTb, hLe, hb⟩ := h
 refine Ret.enterM Tryz.func56 rfl Tryz.ntmps56 rfl (lkC b x.sh x.sl adh nh caph bq ado nd capo x.tr bl x.di :: (mh ++ (mo ++ (mq ++ (ml ++ []))))) ((inM (lkM0 b x adh nh caph bq ado nd capo bl mh mo mq ml))) aM ?_
 refine wR ?_
 refine LM.box rfl rfl (fun b3 hb3 => ?_)
 refine nA [(0, _), (3, _)] <| wpM.seq ?_
 refine wpM.draw [(0, 0), (1, 0), (2, 0), (3, 1), (4, 1), (5, 3)] kr kr ?_
 refine LD.val rfl rfl (ov_move rfl) <| LD.val rfl rfl (ov_nilCheck rfl) <| LD.val rfl rfl (ovf 66 rfl rfl rfl rfl) ?_
 refine LD.rd rfl rfl (oml rfl rfl rfl) ?_
 refine LD.rd rfl rfl (oml rfl rfl rfl) ?_
 refine LD.tail rfl rfl ?_
 refine cU Tryz.func102 rfl (fun w hm hc hg => tcancel_any t w hTb (hm.pick mq)) hTb.wlk (fun q hq _ => ⟨q, by simp [hq], rfl⟩) ?_
 rintro u9 m9 ⟨rfl, h9⟩ hin9
 refine LM.nil ?_
 refine QM.qn ?_
 refine QM.sub (e' := [(0, _), (3, _)]) au9 (QM.then (wpM.region ?_))
 refine LM.mv rfl <| LM.mv rfl <| LM.nc rfl <| LM.val (ovf 24 rfl rfl rfl rfl) ?_
 refine LM.rd (oml rfl rfl rfl) ?_
 refine LM.val (ov_makeFunc rfl) ?_
 refine cU Tryz.func103 rfl (fun w hm hc hg => delf_spec t w hso (hm.pick ((b3, .cells (Value.int .i64 t).cells 3 (0, 0)) :: mo))) hso.wlk (fun q hq _ => ⟨q, by simp [hq], rfl⟩) ?_
 rintro u16 m16 ⟨rfl, h16⟩ hin16
 refine LM.nc rfl <| LM.val (ovf 24 rfl rfl rfl rfl) ?_
 refine LM.st Tryz.sizeOf24 rfl rfl rfl au5 rfl auH ?_
 refine LM.nil (QM.sub (e' := []) trivial ?_)
 refine QM.leave (.inr rfl) [] Tryz.results56 rfl ?_
 intro w' hm' hc' hg'
 exact Upd.imp (lkm_leaf (u0 := resV []) (x := goneX x t) hnh rfl hsh h16 h9 hLe hb hm' au1 hc' inM_0 inS (inn_tr hin16 (fun p hp => by simp [hp])) (inn_tr hin9 (fun p hp => by simp [hp])) inS) (fun u m' h => h.2)
def inX (p : Int) (x : Lkm) (os : List Int) : Lkm := os.foldl (fun x t => holdX (goneX x t) t p) x
def inO (od os : List Int) : List Int := os.foldl rmI od
theorem inX_snoc (p : Int) (x : Lkm) (os : List Int) (t : Int) : inX p x (os ++ [t]) = holdX (goneX (inX p x os) t) t p := by unfold inX; rw [List.foldl_append]; rfl
theorem inO_snoc (od os : List Int) (t : Int) : inO od (os ++ [t]) = rmI (inO od os) t := by unfold inO; rw [List.foldl_append]; rfl
theorem inX_len (p : Int) (x : Lkm) : ∀ (os : List Int), (inX p x os).ho.length = x.ho.length + os.length := by
  unfold inX
  intro os
  induction os generalizing x with
  | nil => rfl
  | cons t os ih =>
    rw [List.foldl_cons, ih, List.length_cons]
    show (x.ho ++ [_]).length + _ = _
    rw [List.length_append]; simp; omega
theorem lkAdm_spec {n0 T b : Nat} {x : Lkm} {od : List Int} {m : Mem0} (p n : Int) (w : World) (h : LkM n0 T b x od m) (hn0 : n0 ≤ w.heap.size) (hx : x.ho.length ≤ 900) (hn : 0 ≤ n) (hM : Mem w m) : Ret Tryz.prog 59 #[.pointer (some ⟨b, 0, none⟩), .int .i64 p, .int .i64 n] w (Upd m (fun u m' => ∃ mr mx, Sl fI 3 1 w.heap.size (wakeF p n x.wt.length [] x.wt).1 u mr ∧ m' = mr ++ mx ∧ LkM n0 T b (inX p { x with wt := (wakeF p n x.wt.length [] x.wt).2 } (wakeF p n x.wt.length [] x.wt).1) (inO od (wakeF p n x.wt.length [] x.wt).1) mx) w) := by
 obtain ⟨adh, nh, caph, ado, nd, capo, bq, bl, mh, mo, mq, ml, rfl, hnh, hnd, hsh, hso, hTb, hLe, hb⟩ := h; have hos8 : (wakeF p n x.wt.length [] x.wt).1.length ≤ 8 := (by have h1 := cnt_le x.wt p; have h2 := hTb.lim.2.2.1; rw [wakeF_eq hn _ _ _ hTb.lim.2.2.2 h1, List.nil_append, List.length_map, List.length_take]; unfold cntL at h1; omega)
 refine Ret.enterM Tryz.func59 rfl Tryz.ntmps59 rfl (lkC b x.sh x.sl adh nh caph bq ado nd capo x.tr bl x.di :: (mh ++ (mo ++ (mq ++ (ml ++ []))))) ((inM (lkM0 b x adh nh caph bq ado nd capo bl mh mo mq ml))) aM ?_
 refine wR <| LM.as rfl <| nB [(0, _), (1, _), (2, _)] <| LM.mv rfl <| LM.nc rfl <| LM.val (ovf 66 rfl rfl rfl rfl) ?_
 refine LM.rd (oml rfl rfl rfl) ?_
 refine LM.mv rfl <| LM.mv rfl ?_
 refine cU Tryz.func107 rfl (fun w hm hc hg => twake_n p n w hTb hc.size (hm.pick mq)) hTb.wlk (fun q hq _ => ⟨q, by simp [hq], rfl⟩) ?_
 rintro u16 m16 ⟨mr, mt, hsr, rfl, ht⟩ hin16; generalize hos : (wakeF p n x.wt.length [] x.wt).1 = os at hsr hos8 ⊢; generalize hwt2 : (wakeF p n x.wt.length [] x.wt).2 = wt2 at ht ⊢; obtain ⟨adr, nr, capr, rfl, hnr⟩ : ∃ ad n cap, u16 = .slice ad n cap ∧ n = os.length := (by obtain ⟨ad, cap, hu⟩ := hsr.form; exact ⟨ad, _, cap, hu, rfl⟩)
 refine LM.as rfl <| nA [(0, _), (1, _), (7, _)] <| wpM.seq <| wR <| LM.mv rfl <| LM.val (ov_len Tryz.underlying24 rfl) <| LM.mv rfl <| nA [(0, _), (1, _), (7, _), (17, _), (18, _), (19, _)] <| wpM.block ?_
 refine wpM.loopK0 (α := Nat × Mem0) (fun ⟨i, mx⟩ => [(19, .int .i64 (i : Nat))]) [(0, _), (1, _), (7, _), (17, _), (18, _)] (fun ⟨i, mx⟩ => mr ++ (mx ++ [])) (fun ⟨i, mx⟩ => i ≤ os.length ∧ LkM n0 T b (inX p { x with wt := wt2 } (os.take i)) (inO od (os.take i)) mx ∧ inn (lkM0 b x adh nh caph bq ado nd capo bl mh mo mq ml) w.heap.size mx) (fun ⟨i, mx⟩ => os.length - i) ((0, lkM0 b x adh nh caph bq ado nd capo bl mh mo mt ml)) ⟨au2, rfl, rfl, rfl, rfl, rfl, trivial⟩ au1 ⟨Nat.zero_le _, ⟨adh, nh, caph, ado, nd, capo, bq, bl, mh, mo, mt, ml, rfl, hnh, hnd, hsh, hso, ht, hLe, hb⟩, inn_cons inM_0 (inn_app inS (inn_app inS (inn_app (inn_tr (fun p hp => hin16 p (List.mem_append_right _ hp)) (fun p hp => by simp [hp])) inS)))⟩ ?_
 rintro ⟨i, mx⟩ ⟨hi, hL, hinL⟩
 change wpM _ _ _ _ _ _ _ (mr ++ (mx ++ [])) _ _ _
 refine wR <| LM.val (ov_lss rfl rfl) <| nA [(0, _), (1, _), (7, _), (17, _), (18, _), (19, _), (20, _)] <| wpM.seq ?_
 refine wpM.condD rfl (fun h1 => ?_) (fun h1 => ?_)
 ·
  refine wpM.skip <| QM.then <| wpM.seq <| wpM.block <| wR ?_
  refine LM.val (ov_idxSN au6 Tryz.underlying24 Tryz.sizeOf3 rfl rfl om) ?_
  refine LM.rd (om_sl1 asm ir Tryz.isAgg3 rfl rfl (by exact getq 0 au4) (by rfl)) ?_
  refine LM.as rfl <| nB [(0, _), (1, _), (7, _), (9, _), (17, _), (18, _), (19, _)] <| LM.mv rfl <| LM.mv rfl ?_
  refine cU Tryz.func56 rfl (fun w hm hc hg => lkGone_spec _ w hL (hm.pick mx)) hL.wlk (inM_inn hinL) ?_
  rintro u25 m25 h25 hin25
  refine LM.nil (QM.sub (e' := [(0, _), (1, _), (7, _), (9, _), (17, _), (18, _), (19, _)]) au9 (QM.then (wpM.region ?_)))
  refine LM.mv rfl <| LM.mv rfl <| LM.mv rfl ?_
  refine cU Tryz.func41 rfl (fun w hm hc hg => lkHold_spec _ p w h25 (Nat.le_trans hn0 hc.size) (by show (inX p _ _).ho.length ≤ 1000; rw [inX_len, List.length_take]; show x.ho.length + _ ≤ 1000; omega) (hm.pick m25)) h25.wlk (inM_inn (inn_trans hinL hin25)) ?_
  rintro u29 m29 h29 hin29
  refine nC [(0, _), (1, _), (7, _), (17, _), (18, _), (19, _)] <| QM.block_normal ?_
  refine QM.then (wpM.region ?_)
  refine LM.val (ov_add64 rfl rfl om) ?_
  refine LM.mv rfl <| nC [(0, _), (1, _), (7, _), (17, _), (18, _), (19, _)] ?_
  refine QM.againK (i + 1, m29) ⟨au2, rfl, rfl, rfl, rfl, rfl, trivial⟩ au1 (fun _ h => h) ?_ ?_
  · exact ⟨by omega, by rw [take_snoc 0 om, inX_snoc, inO_snoc]; exact h29, inn_trans (inn_trans hinL hin25) hin29⟩
  · first | omega | (dsimp only; omega)
 refine wpM.exit <| QM.then_exit <| QM.then_exit <| QM.block_hit <| tR <| LM.mv rfl <| LM.as rfl <| nA [(6, _)] <| wpM.ret ?_
 refine qL Tryz.results59 rfl fun w' hm' hc' hg' => ?_
 have hio : i = os.length := om; subst hio; rw [List.take_length] at hL; exact upd_m (m' := mr ++ mx) ⟨mr, mx, hsr, rfl, hL⟩ hm' au1 hc' (inn_app (fun p hp => .inl (hsr.ge p hp)) hinL)
theorem rmI_map (L : List Wt) (t : Int) : rmI (L.map (·.who)) t = (rmW L t).map (·.who) := by
  unfold rmI rmW
  rw [List.filter_map]; rfl
theorem inO_map (L : List Wt) : ∀ (os : List Int), inO (L.map (·.who)) os = (rmA L os).map (·.who) := by
  intro os
  unfold inO rmA
  induction os generalizing L with
  | nil => rfl
  | cons t os ih => rw [List.foldl_cons, List.foldl_cons, rmI_map]; exact ih _
theorem rmA_mem {L : List Wt} : ∀ {os : List Int} {w : Wt}, w ∈ rmA L os ↔ w ∈ L ∧ w.who ∉ os := by
  intro os
  unfold rmA
  induction os generalizing L with
  | nil => intro w; simp
  | cons t os ih => intro w; rw [List.foldl_cons, ih, rm_mem]; simp only [List.mem_cons, not_or]; exact ⟨fun ⟨⟨a, b⟩, c⟩ => ⟨a, b, c⟩, fun ⟨a, b, c⟩ => ⟨⟨a, b⟩, c⟩⟩
theorem inX_eq {p : Int} : ∀ (os : List Int) (x : Lkm), (∀ w ∈ x.wt, w.who ∉ os) → inX p x os = os.foldl (fun x t => holdX x t p) x := by
  intro os
  unfold inX
  induction os with
  | nil => intro x _; rfl
  | cons t os ih =>
    intro x h
    rw [List.foldl_cons, List.foldl_cons]
    have e : goneX x t = x := by
      unfold goneX; rw [rm_no (fun w hw e => h w hw (by rw [e]; exact List.mem_cons_self ..))]
    rw [e]
    exact ih _ (fun w hw q => h w hw (List.mem_cons_of_mem _ q))
theorem holds_wt {p : Int} : ∀ (os : List Int) (x : Lkm), (os.foldl (fun x t => holdX x t p) x).wt = x.wt
  | [], x => rfl
  | t :: os, x => by rw [List.foldl_cons, holds_wt os]; rfl
theorem admX_wt (x : Lkm) (p : Int) (n : Nat) : (admX x p n).wt = rmA x.wt (admL x p n) := holds_wt _ _
theorem wake_adm {x : Lkm} (h : Wd1 x.wt) (p : Int) (n : Nat) : wakeF p (n : Nat) x.wt.length [] x.wt = (admL x p n, rmA x.wt (admL x p n)) := by
  rw [wakeF_eq (Int.natCast_nonneg _) _ _ _ h (cnt_le _ _), List.nil_append, Int.toNat_natCast]; rfl
theorem adm_in {x : Lkm} (p : Int) (n : Nat) : inX p { x with wt := rmA x.wt (admL x p n) } (admL x p n) = admX x p n := inX_eq _ _ (fun w hw => (rmA_mem.1 hw).2)
def AdT (n0 T b k : Nat) (l : List Int) (x : Lkm) (u : Value) (m : Mem0) : Prop := ∃ mr mx, Sl fI 3 1 k l u mr ∧ m = mr ++ mx ∧ LkM n0 T b x (x.wt.map (·.who)) mx
theorem lkAdm2 {n0 T b k : Nat} {x : Lkm} {m : Mem0} (p : Int) (n : Nat) (w : World) (h : LkM n0 T b x (x.wt.map (·.who)) m) (hn0 : n0 ≤ w.heap.size) (hx : x.ho.length ≤ 900) (hk : k ≤ w.heap.size) (hM : Mem w m) :
    Ret Tryz.prog 59 #[.pointer (some ⟨b, 0, none⟩), .int .i64 p, .int .i64 (n : Nat)] w (Upd m (AdT n0 T b k (admL x p n) (admX x p n)) w) := by
  have hwd : Wd1 x.wt := by obtain ⟨adh, nh, caph, ado, nd, capo, bq, bl, mh, mo, mq, ml, rfl, hnh, hnd, hsh, hso, hTb, hLe, hb⟩ := h; exact hTb.lim.2.2.2
  have h1 := lkAdm_spec p n w h hn0 hx (Int.natCast_nonneg _) hM
  rw [wake_adm hwd] at h1
  refine h1.mono (fun u w' hU => Upd.imp hU (fun u m' ⟨mr, mx, h2, h3, h4⟩ => ⟨mr, mx, h2.mono hk, h3, ?_⟩))
  rw [adm_in, inO_map, ← admX_wt] at h4
  exact h4
theorem lkPass_spec {n0 T b k : Nat} {x : Lkm} {m : Mem0} (w : World) (hT : Tab w) (hn1 : 0 < n0) (h : LkM n0 T b x (x.wt.map (·.who)) m) (hws : waitS x = 0#64 ↔ x.wt.length = 0) (hn0 : n0 ≤ w.heap.size) (hx : x.ho.length ≤ 900) (hk : k ≤ w.heap.size) (hM : Mem w m) : Ret Tryz.prog 51 #[.pointer (some ⟨b, 0, none⟩)] w (Upd m (AdT n0 T b k (passL x) (passX x)) w) := by
 have hLk := h; have hS0 : ¬ inM m 0 := (fun ⟨p, hp, e⟩ => by have := h.ge p hp; omega); obtain ⟨adh, nh, caph, ado, nd, capo, bq, bl, mh, mo, mq, ml, rfl, hnh, hnd, hsh, hso, hTb, hLe, hb⟩ := h
 refine Ret.enterM Tryz.func51 rfl Tryz.ntmps51 rfl (lkC b x.sh x.sl adh nh caph bq ado nd capo x.tr bl x.di :: (mh ++ (mo ++ (mq ++ (ml ++ []))))) ((inM (lkM0 b x adh nh caph bq ado nd capo bl mh mo mq ml))) aM ?_
 refine wR <| LM.as rfl <| nB [(0, _)] <| LM.mv rfl ?_
 refine cE Tryz.func88 rfl (fun w hm hc hg => lkWtg_spec w hLk rfl (hm.pick (lkC b x.sh x.sl adh nh caph bq ado nd capo x.tr bl x.di :: (mh ++ (mo ++ (mq ++ ml)))))) ?_
 refine LM.as rfl <| nA [(0, _), (3, _)] <| wpM.seq <| wR <| LM.mv rfl ?_
 refine LM.val (ov_ueql (b := 0#64) rfl rfl) ?_
 refine nA [(0, _), (3, _), (7, _)] ?_
 refine wpM.condD rfl (fun h1 => ?_) (fun h1 => ?_)
 ·
  refine wR <| LM.as rfl <| nA [(2, _)] <| wpM.ret <| QM.then_ret ?_
  refine qL Tryz.results51 rfl fun w' hm' hc' hg' => ?_
  have hz : x.wt.length = 0 := hws.1 h1; have e1 : passL x = [] := if_pos hz; have e2 : passX x = x := if_pos hz; rw [e1, e2]; exact upd_m (m' := lkM0 b x adh nh caph bq ado nd capo bl mh mo mq ml) ⟨[], _, Sl.nil _ _ _ _, rfl, hLk⟩ hm' au1 hc' (inn_refl _ _)
 refine wpM.skip <| QM.then <| wpM.seq ?_
 refine wpM.draw [(0, 0), (1, 0), (2, 0), (3, 0), (4, 1), (5, 0), (6, 0), (7, 0), (8, 1), (9, 0), (10, 0), (11, 0), (12, 0), (13, 1), (14, 0), (15, 2), (16, 2), (17, 0), (18, 0), (19, 3)] kr kr ?_
 refine LD.val rfl rfl (ov_move rfl) <| LD.val rfl rfl (ov_move rfl) <| LD.val rfl rfl (ov_nilCheck rfl) <| LD.val rfl rfl (ovf 64 rfl rfl rfl rfl) ?_
 first | refine LD.rd rfl rfl (om_ldW Tryz.isAgg64 Tryz.sizeOf64 rfl rfl) ?_ | refine LD.rd rfl rfl (om_ldA Tryz.isAgg64 Tryz.sizeOf64 rfl (vs := [_, _]) rfl ⟨rfl, rfl, trivial⟩) ?_
 refine LD.val rfl rfl (ov_move rfl) <| LD.val rfl rfl (ov_nilCheck rfl) <| LD.val rfl rfl (ovf 3 rfl rfl rfl rfl) ?_
 refine LD.rd rfl rfl (oml rfl rfl rfl) ?_
 refine LD.val rfl rfl (ov_move rfl) <| LD.val rfl rfl (ov_move rfl) <| LD.val rfl rfl (ov_nilCheck rfl) <| LD.val rfl rfl (ovf 68 rfl rfl rfl rfl) ?_
 refine LD.rd rfl rfl (oml rfl rfl rfl) ?_
 refine LD.val rfl rfl (ov_move rfl) ?_
 refine dE rfl rfl Tryz.func98 rfl (fun w hm hc hg => leLst_spec _ w (hT.keep hc hS0) hLe (hm.pick ml)) ?_
 refine dE rfl rfl Tryz.func97 rfl (fun w hm hc hg => tunext_spec x.tr _ _ _ w) ?_
 refine LD.val rfl rfl (ov_nilCheck rfl) <| LD.val rfl rfl (ovf 64 rfl rfl rfl rfl) ?_
 refine LD.tail rfl rfl ?_
 refine LM.st Tryz.sizeOf64 rfl rfl rfl au5 rfl auH ?_
 refine LM.mem (SubM.mem (M' := lkC b x.sh x.sl adh nh caph bq ado nd capo (turnX x).tr bl x.di :: (mh ++ (mo ++ (mq ++ (ml ++ []))))) au1) ?_
 refine LM.nil ?_
 refine QM.qn ?_
 refine QM.sub (e' := [(0, _)]) ⟨rfl, trivial⟩ (QM.then ?_)
 refine wpM.seq <| wR ?_
 have hF : LkM n0 T b (turnX x) ((turnX x).wt.map (·.who)) (lkC b x.sh x.sl adh nh caph bq ado nd capo (turnX x).tr bl x.di :: (mh ++ (mo ++ (mq ++ ml)))) := ⟨adh, nh, caph, ado, nd, capo, bq, bl, mh, mo, mq, ml, rfl, hnh, hnd, hsh, hso, hTb, hLe, hb⟩
 refine LM.mv rfl <| LM.nc rfl <| LM.val (ovf 4 rfl rfl rfl rfl) ?_
 refine LM.rd (oml rfl rfl rfl) ?_
 refine LM.mv rfl ?_
 first | refine LM.splitD (t := 31) rfl (fun h2 => ?_) (fun h2 => ?_) | refine LM.splitB (t := 31) rfl (fun h2 => ?_) (fun h2 => ?_)
 ·
  refine LM.sp 31 rfl rfl rfl <| LM.mv rfl <| LM.sp 31 rfl rfl rfl <| LM.nc rfl <| LM.sp 31 rfl rfl rfl <| LM.val (ovf 64 rfl rfl rfl rfl) <| LM.sp 31 rfl rfl rfl <| LM.val (ovf 3 rfl rfl rfl rfl) <| LM.sp 31 rfl rfl rfl ?_
  refine LM.rd (oml rfl rfl rfl) ?_
  refine LM.sp 31 rfl rfl rfl <| LM.val (ov_eql rfl rfl) <| LM.val (ov_pickT rfl rfl) <| nA [(0, _), (38, _)] ?_
  refine wpM.condD rfl (fun h3 => ?_) (fun h3 => ?_)
  ·
   refine wR <| LM.mv rfl ?_
   refine cU Tryz.func59 rfl (fun w hm hc hg => lkAdm2 0 8 w hF (Nat.le_trans hn0 hc.size) hx (Nat.le_trans hk hc.size) (hm.pick (lkC b x.sh x.sl adh nh caph bq ado nd capo (turnX x).tr bl x.di :: (mh ++ (mo ++ (mq ++ ml)))))) hF.wlk (fun q hq _ => inM_hd q hq rfl) ?_
   rintro u40 m40 h40 hin40
   refine LM.as rfl <| nA [(2, _)] <| wpM.ret <| QM.then_ret ?_
   refine qL Tryz.results51 rfl fun w' hm' hc' hg' => ?_
   have hne : ¬ x.wt.length = 0 := (fun q => h1 (hws.2 q)); have hN : passN x = 8 := if_pos ⟨h2, h3⟩; have e1 : passL x = admL x (turnX x).tr.p 8 := (by unfold passL; rw [if_neg hne, hN]); have e2 : passX x = admX (turnX x) (turnX x).tr.p 8 := (by unfold passX; rw [if_neg hne, hN]); rw [e1, e2]; rw [show (turnX x).tr.p = 0 from h3]; exact upd_m (m' := m40) h40 hm' au1 hc' (inn_hd hin40 rfl)
  refine wpM.skip <| tR <| LM.mv rfl <| LM.mv rfl <| LM.nc rfl <| LM.val (ovf 64 rfl rfl rfl rfl) <| LM.val (ovf 3 rfl rfl rfl rfl) ?_
  refine LM.rd (oml rfl rfl rfl) ?_
  refine cU Tryz.func59 rfl (fun w hm hc hg => lkAdm2 _ 1 w hF (Nat.le_trans hn0 hc.size) hx (Nat.le_trans hk hc.size) (hm.pick (lkC b x.sh x.sl adh nh caph bq ado nd capo (turnX x).tr bl x.di :: (mh ++ (mo ++ (mq ++ ml)))))) hF.wlk (fun q hq _ => inM_hd q hq rfl) ?_
  rintro u47 m47 h47 hin47
  refine LM.as rfl <| nA [(2, _)] <| wpM.ret ?_
  refine qL Tryz.results51 rfl fun w' hm' hc' hg' => ?_
  have hne : ¬ x.wt.length = 0 := (fun q => h1 (hws.2 q)); have hN : passN x = 1 := if_neg (fun q => h3 q.2); have e1 : passL x = admL x (turnX x).tr.p 1 := (by unfold passL; rw [if_neg hne, hN]); have e2 : passX x = admX (turnX x) (turnX x).tr.p 1 := (by unfold passX; rw [if_neg hne, hN]); rw [e1, e2];  exact upd_m (m' := m47) h47 hm' au1 hc' (inn_hd hin47 rfl)
 refine LM.dr 31 rfl rfl rfl <| LM.dr 31 rfl rfl rfl <| LM.dr 31 rfl rfl rfl <| LM.dr 31 rfl rfl rfl <| LM.dr 31 rfl rfl rfl <| LM.dr 31 rfl rfl rfl <| LM.val (ov_pickF rfl rfl) <| nA [(0, _), (38, _)] ?_
 refine wpM.condF rfl ?_
 refine wpM.skip <| tR <| LM.mv rfl <| LM.mv rfl <| LM.nc rfl <| LM.val (ovf 64 rfl rfl rfl rfl) <| LM.val (ovf 3 rfl rfl rfl rfl) ?_
 refine LM.rd (oml rfl rfl rfl) ?_
 refine cU Tryz.func59 rfl (fun w hm hc hg => lkAdm2 _ 1 w hF (Nat.le_trans hn0 hc.size) hx (Nat.le_trans hk hc.size) (hm.pick (lkC b x.sh x.sl adh nh caph bq ado nd capo (turnX x).tr bl x.di :: (mh ++ (mo ++ (mq ++ ml)))))) hF.wlk (fun q hq _ => inM_hd q hq rfl) ?_
 rintro u47 m47 h47 hin47
 refine LM.as rfl <| nA [(2, _)] <| wpM.ret ?_
 refine qL Tryz.results51 rfl fun w' hm' hc' hg' => ?_
 have hne : ¬ x.wt.length = 0 := (fun q => h1 (hws.2 q)); have hN : passN x = 1 := if_neg (fun q => by rw [h2] at q; cases q.1); have e1 : passL x = admL x (turnX x).tr.p 1 := (by unfold passL; rw [if_neg hne, hN]); have e2 : passX x = admX (turnX x) (turnX x).tr.p 1 := (by unfold passX; rw [if_neg hne, hN]); rw [e1, e2];  exact upd_m (m' := m47) h47 hm' au1 hc' (inn_hd hin47 rfl)
theorem cloneH_spec {xs : List Hd} {ad : Option Addr} {n cap : Nat} (w : World) (hn : n = xs.length) (hl : Sr fHd 3 xs (.slice ad n cap) w) (hx : xs.length ≤ 1000000) : Ret Tryz.prog 50 #[.slice ad n cap] w (New fHd 59 3 xs w) := by
 refine Ret.enterM Tryz.func50 rfl Tryz.ntmps50 rfl ([]) (no) (Mem.nil w) ?_
 refine wR <| LM.as rfl <| nA [(0, _)] <| wpM.seq <| wR <| LM.mv rfl ?_
 refine LM.val (ov_slnil Tryz.underlying56 rfl rfl) ?_
 refine nA [(0, _), (4, _)] ?_
 first | refine wpM.condD rfl (fun h1 => ?_) (fun h1 => ?_) | refine wpM.condB rfl (fun h1 => ?_) (fun h1 => ?_)
 ·
  refine wR <| LM.as rfl <| nA [(2, _)] <| wpM.ret <| QM.then_ret ?_
  refine qL Tryz.results50 rfl fun w' hm' hc' hg' => ?_
  have hx0 : xs = [] := (by rcases Nat.eq_zero_or_pos xs.length with q | q; exact List.eq_nil_of_length_eq_zero q; exfalso; obtain ⟨b, off, cs, E, fz, hq, _⟩ := hl.open.2.2 q; rw [hq] at h1; cases h1); subst hx0; exact ⟨hc', [], .nil _ _ _ _, Mem.nil _⟩
 refine wpM.skip <| tR ?_
 refine LM.row0 Tryz.underlying56 Tryz.sizeOf59 rfl (fun b5 hb5 => ?_); have hs5 : Sl fHd 59 3 w.heap.size ([] : List Hd) (.slice (some ⟨b5, 0, none⟩) 0 0) [(b5, .cells (([] : List Value).toArray) 59 (0, 0))] := .void hb5 (Nat.zero_le _) rfl
 refine LM.mv rfl ?_
 refine LM.appN (ys := xs) (m := [(b5, .cells (([] : List Value).toArray) 59 (0, 0))]) Tryz.underlying56 Tryz.typeInfo59 rfl rfl rfl rfl rfl rfl rfl hs5 (fun w hm hc hg => hl.ext hc) ir (by intro _ u hu; simp [fHd] at hu; (repeat (first | (rcases hu with rfl | hu) | subst hu | rfl))) (Nat.le_refl _) (fun p hp hlt => absurd hlt (Nat.not_lt_of_le (Sl.ge hs5 p hp))) (by unfold maxLen; simp only [List.length_nil]; omega) (by simp only [Tryz.t59, List.length_nil]; omega) (fun ad7 n7 cap7 m7 hn7 hs7 hin7 => ?_)
 refine LM.as rfl <| nA [(2, _)] <| wpM.ret ?_
 refine qL Tryz.results50 rfl fun w' hm' hc' hg' => ?_
 exact ⟨hc', m7, hs7, hm'.pick _⟩
theorem cloneI_spec {xs : List Int} {ad : Option Addr} {n cap : Nat} (w : World) (hn : n = xs.length) (hl : Sr fI 1 xs (.slice ad n cap) w) (hx : xs.length ≤ 1000000) : Ret Tryz.prog 85 #[.slice ad n cap] w (New fI 3 1 xs w) := by
 refine Ret.enterM Tryz.func85 rfl Tryz.ntmps85 rfl ([]) (no) (Mem.nil w) ?_
 refine wR <| LM.as rfl <| nA [(0, _)] <| wpM.seq <| wR <| LM.mv rfl ?_
 refine LM.val (ov_slnil Tryz.underlying24 rfl rfl) ?_
 refine nA [(0, _), (4, _)] ?_
 first | refine wpM.condD rfl (fun h1 => ?_) (fun h1 => ?_) | refine wpM.condB rfl (fun h1 => ?_) (fun h1 => ?_)
 ·
  refine wR <| LM.as rfl <| nA [(2, _)] <| wpM.ret <| QM.then_ret ?_
  refine qL Tryz.results85 rfl fun w' hm' hc' hg' => ?_
  have hx0 : xs = [] := (by rcases Nat.eq_zero_or_pos xs.length with q | q; exact List.eq_nil_of_length_eq_zero q; exfalso; obtain ⟨b, off, cs, E, fz, hq, _⟩ := hl.open.2.2 q; rw [hq] at h1; cases h1); subst hx0; exact ⟨hc', [], .nil _ _ _ _, Mem.nil _⟩
 refine wpM.skip <| tR ?_
 refine LM.row0 Tryz.underlying24 Tryz.sizeOf3 rfl (fun b5 hb5 => ?_); have hs5 : Sl fI 3 1 w.heap.size ([] : List Int) (.slice (some ⟨b5, 0, none⟩) 0 0) [(b5, .cells (([] : List Value).toArray) 3 (0, 0))] := .void hb5 (Nat.zero_le _) rfl
 refine LM.mv rfl ?_
 refine LM.appN (ys := xs) (m := [(b5, .cells (([] : List Value).toArray) 3 (0, 0))]) Tryz.underlying24 Tryz.typeInfo3 rfl rfl rfl rfl rfl rfl rfl hs5 (fun w hm hc hg => hl.ext hc) ir (by intro _ u hu; simp [fI] at hu; (repeat (first | (rcases hu with rfl | hu) | subst hu | rfl))) (Nat.le_refl _) (fun p hp hlt => absurd hlt (Nat.not_lt_of_le (Sl.ge hs5 p hp))) (by unfold maxLen; simp only [List.length_nil]; omega) (by simp only [Tryz.t3, List.length_nil]; omega) (fun ad7 n7 cap7 m7 hn7 hs7 hin7 => ?_)
 refine LM.as rfl <| nA [(2, _)] <| wpM.ret ?_
 refine qL Tryz.results85 rfl fun w' hm' hc' hg' => ?_
 exact ⟨hc', m7, hs7, hm'.pick _⟩
theorem lkHdrs_spec {n0 T b : Nat} {x : Lkm} {od : List Int} {m : Mem0} (w : World) (h : LkM n0 T b x od m) (hx : x.ho.length ≤ 1000) (hM : Mem w m) : Ret Tryz.prog 29 #[.pointer (some ⟨b, 0, none⟩)] w (New fHd 59 3 x.ho w) := by
 obtain ⟨adh, nh, caph, ado, nd, capo, bq, bl, mh, mo, mq, ml, rfl, hnh, hnd, hsh, hso, hTb, hLe, hb⟩ := h
 refine Ret.enterM Tryz.func29 rfl Tryz.ntmps29 rfl (lkC b x.sh x.sl adh nh caph bq ado nd capo x.tr bl x.di :: (mh ++ (mo ++ (mq ++ (ml ++ []))))) (no) aM ?_
 refine wR <| LM.as rfl <| nA [(0, _)] <| wpM.seq <| wR <| LM.mv rfl ?_
 refine LM.val (ov_peql kr rfl rfl) ?_
 refine nA [(0, _), (4, _)] ?_
 refine wpM.condF rfl ?_
 refine wpM.skip <| tR <| LM.mv rfl <| LM.nc rfl <| LM.val (ovf 56 rfl rfl rfl rfl) ?_
 refine LM.rd (oml rfl rfl rfl) ?_
 refine LM.cS (oc_call (enters_fn Tryz.func50 kr rfl) rfl) (fun w hm hc hg => cloneH_spec w hnh (hsh.srM ir hm) om) (fun ad9 n9 cap9 m9 hn9 hs9 => ?_)
 refine LM.as rfl <| nA [(2, _)] <| wpM.ret ?_
 refine qL Tryz.results29 rfl fun w' hm' hc' hg' => ?_
 exact ⟨hc', m9, hs9, hm'.pick _⟩
theorem delH_spec {xs : List Hd} {ad : Option Addr} {n cap n0 : Nat} {mz : Mem0} (i : Nat) (w : World) (hs : Sl fHd 59 3 n0 xs (.slice ad n cap) mz) (hi : i < xs.length) (hx : xs.length ≤ 1000000) (hM : Mem w mz) : Ret Tryz.prog 49 #[.slice ad n cap, .int .i64 (i : Nat), .int .i64 ((i : Nat) + 1)] w (Upd mz (fun v m' => v = .slice ad (xs.length - 1) cap ∧ Sl fHd 59 3 n0 (xs.eraseIdx i) (.slice ad (xs.length - 1) cap) m') w) := by
 have hsl := hs.len
 refine Ret.enterM Tryz.func49 rfl Tryz.ntmps49 rfl (mz ++ []) ((inM mz)) aM ?_
 refine wR <| LM.as rfl <| nB [(0, _), (1, _), (2, _)] <| LM.mv rfl <| LM.mv rfl <| LM.mv rfl <| LM.mv rfl <| LM.val (ov_len Tryz.underlying56 rfl) ?_
 refine LM.val (ov_subLHM i (i + 1) n Tryz.underlying56 Tryz.sizeOf59 rfl rfl rfl rfl om om rfl om om om) ?_
 refine nA [(0, _), (1, _), (2, _)] <| wpM.seq <| wR <| LM.mv rfl <| LM.mv rfl <| LM.val (ov_eql rfl rfl) <| nA [(0, _), (1, _), (2, _), (16, _)] ?_
 refine wpM.condD rfl (fun h1 => ?_) (fun h1 => ?_)
 ·
  exfalso; omega
 refine wpM.skip <| tR <| LM.mv rfl <| LM.val (ov_len Tryz.underlying56 rfl) <| LM.as rfl <| nA [(0, _), (1, _), (2, _), (7, _)] <| wpM.seq ?_
 refine wpM.draw [(0, 0), (1, 0), (2, 0), (3, 0), (4, 0), (5, 0), (6, 3), (7, 3)] kr kr ?_
 refine LD.val rfl rfl (ov_move rfl) <| LD.val rfl rfl (ov_move rfl) ?_
 refine LD.val rfl rfl (ov_subHi Tryz.underlying56 Tryz.sizeOf59 rfl rfl om om) ?_
 refine LD.val rfl rfl (ov_move rfl) <| LD.val rfl rfl (ov_move rfl) ?_
 refine LD.val rfl rfl (ov_subLo (i + 1) Tryz.underlying56 Tryz.sizeOf59 rfl rfl om om) ?_
 refine LD.tail rfl rfl ?_
 refine LM.appDel (f := fHd) (n := n) (cap := cap) i Tryz.underlying56 Tryz.typeInfo59 rfl rfl rfl rfl rfl hs ir (by intro _ u hu; simp [fHd] at hu; (repeat (first | (rcases hu with rfl | hu) | subst hu | rfl))) om (fun p hp _ => ⟨p, hp, rfl⟩) (fun n26 m26 hn26 hs26 hin26 => ?_)
 refine LM.as rfl ?_
 refine LM.nil ?_
 refine QM.qn ?_
 refine QM.sub (e' := [(0, _), (7, _)]) au9 (QM.then (wpM.seq (wpM.region ?_)))
 refine LM.mv rfl <| LM.mv rfl <| LM.val (ov_len Tryz.underlying56 rfl) <| LM.mv rfl ?_
 refine LM.val (ov_subLH n26 n Tryz.underlying56 Tryz.sizeOf59 rfl rfl rfl rfl rfl om om) ?_
 refine LM.clear (k := n26) (n2 := n) Tryz.underlying56 Tryz.zeroValue59 rfl rfl rfl rfl om hs26 ir (by rw [List.length_eraseIdx, if_pos hi]; omega) (fun p hp _ => hin26 p hp) (fun ms9 hs9 hin9 => ?_)
 refine nB [(0, _)] <| LM.mv rfl <| LM.as rfl <| nA [(6, _)] <| wpM.ret ?_
 refine qL Tryz.results49 rfl fun w' hm' hc' hg' => ?_
 rw [List.take_of_length_le (by rw [List.length_eraseIdx, if_pos hi]; omega)] at hs9; subst hn26; exact upd_m ⟨rfl, hs9⟩ hm' au1 hc' (fun p hp => by obtain ⟨q, hq, e⟩ := hin9 p hp; obtain ⟨z, hz, e2⟩ := hin26 q hq; exact .inr ⟨z, hz, e2.trans e⟩)
def UnT (n0 T b k : Nat) (l : List Int) (y : Value) (x : Lkm) (u : Value) (m : Mem0) : Prop := ∃ v mr mx, u = .tuple #[v, y] ∧ Sl fI 3 1 k l v mr ∧ m = mr ++ mx ∧ LkM n0 T b x (x.wt.map (·.who)) mx
theorem unL_yes {x : Lkm} {t : Int} (h : holdsO x t = true) (h0 : (outX x t).ho.length = 0) : unlL x t = passL (outX x t) := if_pos ⟨h, h0⟩
theorem unL_no {x : Lkm} {t : Int} (h0 : ¬ (outX x t).ho.length = 0) : unlL x t = [] := if_neg (fun q => h0 q.2)
theorem outX_len {x : Lkm} {t : Int} (h : holdsO x t = true) : (outX x t).ho.length = x.ho.length - 1 := by
  show (x.ho.eraseIdx _).length = _; rw [List.length_eraseIdx, if_pos (hat_in h).2.1]
theorem lkUnl_spec {n0 T b k : Nat} {x : Lkm} {m : Mem0} (t : Int) (w : World) (hT : Tab w) (hn1 : 0 < n0) (h : LkM n0 T b x (x.wt.map (·.who)) m) (hws : waitS x = 0#64 ↔ x.wt.length = 0) (hn0 : n0 ≤ w.heap.size) (hx : x.ho.length ≤ 900) (hk : k ≤ w.heap.size) (hM : Mem w m) : Ret Tryz.prog 15 #[.pointer (some ⟨b, 0, none⟩), .int .i64 t] w (Upd m (UnT n0 T b k (unlL x t) (.int .i64 (unlE x t)) (unlX x t)) w) := by
 have hLk := h; have hS0 : ¬ inM m 0 := (fun ⟨p, hp, e⟩ => by have := h.ge p hp; omega); obtain ⟨adh, nh, caph, ado, nd, capo, bq, bl, mh, mo, mq, ml, rfl, hnh, hnd, hsh, hso, hTb, hLe, hb⟩ := h
 refine Ret.enterM Tryz.func15 rfl Tryz.ntmps15 rfl (lkC b x.sh x.sl adh nh caph bq ado nd capo x.tr bl x.di :: (mh ++ (mo ++ (mq ++ (ml ++ []))))) ((inM (lkM0 b x adh nh caph bq ado nd capo bl mh mo mq ml))) aM ?_
 refine wR <| LM.as rfl <| LM.as rfl <| nB [(0, _), (1, _)] <| LM.mv rfl <| LM.mv rfl ?_
 refine cE Tryz.func48 rfl (fun w hm hc hg => lkPlace_spec t w hLk (hm.pick (lkC b x.sh x.sl adh nh caph bq ado nd capo x.tr bl x.di :: (mh ++ (mo ++ (mq ++ ml)))))) ?_
 refine LM.as rfl <| nA [(0, _), (6, _)] <| wpM.seq <| wpM.block <| wR <| LM.mv rfl ?_
 refine LM.val (ov_peql kr rfl rfl) ?_
 refine LM.as rfl <| nA [(0, _), (6, _), (11, _)] ?_
 refine wpM.condF rfl ?_
 refine wR <| LM.mv rfl <| LM.val (ov_lss rfl rfl) <| LM.as rfl <| nA [(0, _), (6, _), (14, _)] ?_
 refine wpM.condD rfl (fun h1 => ?_) (fun h1 => ?_)
 ·
  have hho : holdsO x t = false := (by rw [← hat_holds]; exact decide_eq_false om)
  refine wR <| LM.as rfl <| LM.as rfl <| nA [(4, _), (5, _)] <| wpM.ret <| QM.block_ret <| QM.then_ret ?_
  refine QM.leave (.inl rfl) [.tmp 4, .tmp 5] Tryz.results15 rfl ?_
  intro w' hm' hc' hg'
  have e1 : unlL x t = [] := if_neg (fun q => by rw [hho] at q; cases q.1); have e2 : unlX x t = x := if_neg (by rw [hho]; simp); have e3 : unlE x t = 7 := if_neg (by rw [hho]; simp); rw [e1, e2, e3]; exact upd_m (m' := lkM0 b x adh nh caph bq ado nd capo bl mh mo mq ml) ⟨_, [], _, rfl, Sl.nil _ _ _ _, rfl, hLk⟩ hm' au1 hc' (inn_refl _ _)
 have hho : holdsO x t = true := (by rw [← hat_holds]; exact decide_eq_true om); have hix1 := (hat_in hho).1; have hix2 := (hat_in hho).2.1; rw [hix1]; have hol := outX_len hho
 refine wpM.skip <| QM.block_normal <| tR <| LM.mv rfl <| LM.mv rfl <| LM.nc rfl <| LM.val (ovf 56 rfl rfl rfl rfl) ?_
 refine LM.rd (oml rfl rfl rfl) ?_
 refine LM.cS (oc_call (enters_fn Tryz.func50 kr rfl) rfl) (fun w hm hc hg => cloneH_spec w hnh (hsh.srM ir hm) om) (fun ad22 n22 cap22 m22 hn22 hs22 => ?_)
 refine LM.mv rfl <| LM.mv rfl ?_
 refine LM.val (ov_add64 rfl rfl om) ?_
 refine cU Tryz.func49 rfl (fun w hm hc hg => delH_spec (hix x.ho t) w hs22 hix2 om (hm.pick m22)) hs22.wlk (fun q hq hlt => absurd hlt (Nat.not_lt_of_le (hs22.ge q hq))) ?_
 rintro u26 m26 ⟨rfl, h26⟩ hin26
 refine LM.nc rfl <| LM.val (ovf 56 rfl rfl rfl rfl) ?_
 refine LM.st Tryz.sizeOf56 rfl rfl rfl au5 rfl auH ?_
 refine LM.mem (SubM.mem (M' := lkC b x.sh x.sl ad22 (x.ho.length - 1) cap22 bq ado nd capo x.tr bl x.di :: (m26 ++ (mo ++ (mq ++ (ml ++ []))))) au1) ?_
 refine nB [(0, _)] <| LM.as rfl <| nA [(0, _), (7, _)] <| wpM.seq <| wR ?_
 have hge26 : ∀ p ∈ m26, w.heap.size ≤ p.1 := (fun p hp => h26.ge p hp); have hF : LkM n0 T b (outX x t) ((outX x t).wt.map (·.who)) (lkC b x.sh x.sl ad22 (x.ho.length - 1) cap22 bq ado nd capo x.tr bl x.di :: (m26 ++ (mo ++ (mq ++ ml)))) := ⟨ad22, x.ho.length - 1, cap22, ado, nd, capo, bq, bl, m26, mo, mq, ml, rfl, hol.symm, hnd, h26.mono hn0, hso, hTb, hLe, hb⟩; have hinF : inn (lkM0 b x adh nh caph bq ado nd capo bl mh mo mq ml) w.heap.size (lkC b x.sh x.sl ad22 (x.ho.length - 1) cap22 bq ado nd capo x.tr bl x.di :: (m26 ++ (mo ++ (mq ++ ml)))) := inn_cons inM_0 (inn_app (fun p hp => .inl (hge26 p hp)) (inn_app inS (inn_app inS inS)))
 refine LM.mv rfl <| LM.nc rfl <| LM.val (ovf 56 rfl rfl rfl rfl) ?_
 refine LM.rd (oml rfl rfl rfl) ?_
 refine LM.val (ov_len Tryz.underlying56 rfl) <| LM.val (ov_eql rfl rfl) <| nA [(0, _), (7, _), (34, _)] ?_
 refine wpM.joinK (α := Value × Mem0 × Mem0 × Lkm) (fun ⟨v, mr, mx, y⟩ => [(7, v)]) [(0, _)] (fun ⟨v, mr, mx, y⟩ => mr ++ (mx ++ [])) (fun ⟨v, mr, mx, y⟩ => Sl fI 3 1 k (unlL x t) v mr ∧ LkM n0 T b y (y.wt.map (·.who)) mx ∧ inn (lkM0 b x adh nh caph bq ado nd capo bl mh mo mq ml) w.heap.size (mr ++ mx) ∧ y = if (outX x t).ho.length = 0 then passX (outX x t) else outX x t) ⟨rfl, trivial⟩ ?_ ?_
 ·
  refine wpM.condD rfl (fun h2 => ?_) (fun h2 => ?_)
  ·
   refine wpM.region ?_
   refine LM.mv rfl ?_
   refine cU Tryz.func51 rfl (fun w hm hc hg => lkPass_spec (k := k) w (hT.keep hc hS0) hn1 hF hws (Nat.le_trans hn0 hc.size) (by rw [hol]; omega) (Nat.le_trans hk hc.size) (hm.pick (lkC b x.sh x.sl ad22 (x.ho.length - 1) cap22 bq ado nd capo x.tr bl x.di :: (m26 ++ (mo ++ (mq ++ ml)))))) hF.wlk (inM_inn hinF) ?_
   rintro u36 m36 ⟨mr36, mx36, hr36, rfl, h36⟩ hin36
   refine LM.as rfl <| nC [(0, _), (7, _)] ?_
   refine QM.meetK (u36, mr36, mx36, passX (outX x t)) ⟨au2, rfl, trivial⟩ au1 ?_
   · have hz : (outX x t).ho.length = 0 := om; exact ⟨by rw [unL_yes hho hz]; exact hr36, h36, inn_trans hinF hin36, (if_pos hz).symm⟩
  refine wpM.skip ?_
  refine QM.meetK (.slice none 0 0, [], lkC b x.sh x.sl ad22 (x.ho.length - 1) cap22 bq ado nd capo x.tr bl x.di :: (m26 ++ (mo ++ (mq ++ ml))), outX x t) ⟨au2, rfl, trivial⟩ au1 ?_
  · have hz : ¬ (outX x t).ho.length = 0 := om; exact ⟨by rw [unL_no hz]; exact Sl.nil _ _ _ _, hF, hinF, (if_neg hz).symm⟩
 rintro ⟨v, mr, mx, y⟩ ⟨hv, hL, hinL, hy⟩
 change QM _ _ _ _ _ (mr ++ (mx ++ [])) _ _ _
 refine tR <| LM.mv rfl ?_
 refine cU Tryz.func42 rfl (fun w hm hc hg => lkSet_spec w (hT.keep hc hS0) hn1 hL rfl (hm.pick mx)) hL.wlk (inM_inn (fun p hp => hinL p (List.mem_append_right _ hp))) ?_
 rintro u38 m38 h38 hin38
 refine nB [(7, _)] <| LM.mv rfl <| LM.as rfl <| LM.as rfl <| nA [(4, _), (5, _)] <| wpM.ret ?_
 refine QM.leave (.inl rfl) [.tmp 4, .tmp 5] Tryz.results15 rfl ?_
 intro w' hm' hc' hg'
 have e2 : unlX x t = settleX y := (by unfold unlX; rw [if_pos hho, ← hy]); have e3 : unlE x t = 0 := if_pos hho; rw [e2, e3]; exact upd_m (m' := mr ++ m38) ⟨_, mr, m38, rfl, hv, rfl, h38⟩ hm' au1 hc' (inn_app (fun p hp => hinL p (List.mem_append_left _ hp)) (inn_trans (fun p hp => hinL p (List.mem_append_right _ hp)) hin38))
theorem lv_no {x : Lkm} {t : Int} (h : waitsO x t = false) : lvL x t = [] ∧ lvX x t = x := ⟨if_neg (fun q => by rw [h] at q; cases q.1), if_neg (by rw [h]; simp)⟩
theorem lv_in {x : Lkm} {t : Int} (h : waitsO x t = true) (h2 : readO x = true ∧ cntL (goneX x t).wt 1 = 0) : lvL x t = admL (goneX x t) 0 8 ∧ lvX x t = settleX (admX (goneX x t) 0 8) := ⟨if_pos ⟨h, h2⟩, by unfold lvX; rw [if_pos h, if_pos h2]⟩
theorem lv_out {x : Lkm} {t : Int} (h : waitsO x t = true) (h2 : ¬ (readO x = true ∧ cntL (goneX x t).wt 1 = 0)) : lvL x t = [] ∧ lvX x t = settleX (goneX x t) := ⟨if_neg (fun q => h2 q.2), by unfold lvX; rw [if_pos h, if_neg h2]⟩
theorem inn_hd2 {m : Mem0} {a a' : Nat × Obj} {R : Mem0} {k : Nat} (hin : inn m k (a :: R)) (h : a'.1 = a.1) : inn m k (a' :: R) := fun p hp => by
  rcases List.mem_cons.1 hp with rfl | hp
  · rw [h]; exact hin a (List.mem_cons_self ..)
  · exact hin p (List.mem_cons_of_mem _ hp)
theorem lkLv_spec {n0 T b k : Nat} {x : Lkm} {m : Mem0} (t : Int) (w : World) (hT : Tab w) (hn1 : 0 < n0) (h : LkM n0 T b x (x.wt.map (·.who)) m) (hn0 : n0 ≤ w.heap.size) (hx : x.ho.length ≤ 900) (hk : k ≤ w.heap.size) (hM : Mem w m) : Ret Tryz.prog 18 #[.pointer (some ⟨b, 0, none⟩), .int .i64 t] w (Upd m (UnT n0 T b k (lvL x t) (.bool (waitsO x t)) (lvX x t)) w) := by
 have hLk := h; have hS0 : ¬ inM m 0 := (fun ⟨p, hp, e⟩ => by have := h.ge p hp; omega); obtain ⟨adh, nh, caph, ado, nd, capo, bq, bl, mh, mo, mq, ml, rfl, hnh, hnd, hsh, hso, hTb, hLe, hb⟩ := h
 refine Ret.enterM Tryz.func18 rfl Tryz.ntmps18 rfl (lkC b x.sh x.sl adh nh caph bq ado nd capo x.tr bl x.di :: (mh ++ (mo ++ (mq ++ (ml ++ []))))) ((inM (lkM0 b x adh nh caph bq ado nd capo bl mh mo mq ml))) aM ?_
 refine wR <| LM.as rfl <| LM.as rfl <| nA [(0, _), (1, _)] <| wpM.seq <| wR <| LM.mv rfl ?_
 refine LM.val (ov_peql kr rfl rfl) ?_
 refine LM.mv rfl <| LM.sp 9 rfl rfl rfl <| LM.mv rfl <| LM.sp 9 rfl rfl rfl <| LM.mv rfl <| LM.sp 9 rfl rfl rfl ?_
 refine cE Tryz.func55 rfl (fun w hm hc hg => lkWaits_spec t w hLk (hm.pick (lkC b x.sh x.sl adh nh caph bq ado nd capo x.tr bl x.di :: (mh ++ (mo ++ (mq ++ ml)))))) ?_
 refine LM.sp 9 rfl rfl rfl ?_
 first | refine LM.val (ov_notD rfl) ?_ | refine LM.val (ov_not rfl) ?_
 refine LM.val (ov_pickF rfl rfl) <| nA [(0, _), (1, _), (14, _)] ?_
 first | refine wpM.condD rfl (fun h1 => ?_) (fun h1 => ?_) | refine wpM.condB rfl (fun h1 => ?_) (fun h1 => ?_)
 ·
  have hw1 : waitsO x t = false := (by simpa using h1)
  refine wR <| LM.as rfl <| LM.as rfl <| nA [(4, _), (5, _)] <| wpM.ret <| QM.then_ret ?_
  refine QM.leave (.inl rfl) [.tmp 4, .tmp 5] Tryz.results18 rfl ?_
  intro w' hm' hc' hg'
  have e := lv_no hw1; rw [e.1, e.2, hw1]; exact upd_m (m' := lkM0 b x adh nh caph bq ado nd capo bl mh mo mq ml) ⟨_, [], _, rfl, Sl.nil _ _ _ _, rfl, hLk⟩ hm' au1 hc' (inn_refl _ _)
 have hw1 : waitsO x t = true := (by simpa using h1)
 refine wpM.skip <| tR <| LM.mv rfl <| LM.mv rfl ?_
 refine cU Tryz.func56 rfl (fun w hm hc hg => lkGone_spec t w hLk (hm.pick (lkC b x.sh x.sl adh nh caph bq ado nd capo x.tr bl x.di :: (mh ++ (mo ++ (mq ++ ml)))))) hLk.wlk (fun q hq _ => ⟨q, hq, rfl⟩) ?_
 rintro u17 m17 h17 hin17; rw [rmI_map] at h17; have hG := h17; obtain ⟨adh1, nh1, caph1, ado1, nd1, capo1, bq1, bl1, mh1, mo1, mq1, ml1, rfl, hnh1, hnd1, hsh1, hso1, hTb1, hLe1, hb1⟩ := h17; have hr1 : readO (goneX x t) = readO x := rfl; have hG2 : LkM n0 T b (goneX x t) ((goneX x t).wt.map (·.who)) (lkC b x.sh x.sl adh1 nh1 caph1 bq1 ado1 nd1 capo1 x.tr bl1 x.di :: (mh1 ++ (mo1 ++ (mq1 ++ ml1)))) := hG; refine LM.mem (SubM.mem (M' := lkC b x.sh x.sl adh1 nh1 caph1 bq1 ado1 nd1 capo1 x.tr bl1 x.di :: (mh1 ++ (mo1 ++ (mq1 ++ (ml1 ++ []))))) (by rw [List.cons_append, List.append_assoc, List.append_assoc, List.append_assoc]; (repeat' (first | exact SubM.nil _ | refine SubM.cons rfl ?_ | refine SubM.app ?_)))) ?_
 refine nB [(0, _)] <| LM.as rfl <| nA [(0, _), (6, _)] <| wpM.seq <| wR <| LM.mv rfl ?_
 refine cE Tryz.func57 rfl (fun w hm hc hg => lkRead_spec w hG2 (by have hq := hm.pick (lkC b x.sh x.sl adh1 nh1 caph1 bq1 ado1 nd1 capo1 x.tr bl1 x.di :: (mh1 ++ (mo1 ++ (mq1 ++ ml1)))); exact hq)) ?_
 refine LM.mv rfl ?_
 first | refine LM.splitD (t := 20) rfl (fun h2 => ?_) (fun h2 => ?_) | refine LM.splitB (t := 20) rfl (fun h2 => ?_) (fun h2 => ?_)
 ·
  refine LM.sp 20 rfl rfl rfl <| LM.mv rfl <| LM.sp 20 rfl rfl rfl <| LM.nc rfl <| LM.sp 20 rfl rfl rfl <| LM.val (ovf 66 rfl rfl rfl rfl) <| LM.sp 20 rfl rfl rfl ?_
  refine LM.rd (oml rfl rfl rfl) ?_
  refine LM.sp 20 rfl rfl rfl ?_
  refine cE Tryz.func58 rfl (fun w hm hc hg => tcount_spec 1 w hTb1 (hm.pick mq1)) ?_
  refine LM.sp 20 rfl rfl rfl <| LM.val (ov_eql rfl rfl) <| LM.val (ov_pickT rfl rfl) <| nA [(0, _), (6, _), (27, _)] ?_
  refine wpM.joinK (α := Value × Mem0 × Mem0 × Lkm) (fun ⟨v, mr, mx, y⟩ => [(6, v)]) [(0, _)] (fun ⟨v, mr, mx, y⟩ => mr ++ (mx ++ [])) (fun ⟨v, mr, mx, y⟩ => Sl fI 3 1 k (lvL x t) v mr ∧ LkM n0 T b y (y.wt.map (·.who)) mx ∧ inn (lkM0 b x adh nh caph bq ado nd capo bl mh mo mq ml) w.heap.size (mr ++ mx) ∧ lvX x t = settleX y) ⟨rfl, trivial⟩ ?_ ?_
  ·
   refine wpM.condD rfl (fun h3 => ?_) (fun h3 => ?_)
   ·
    refine wpM.region ?_
    refine LM.mv rfl ?_
    refine cU Tryz.func59 rfl (fun w hm hc hg => lkAdm2 (k := k) 0 8 w hG2 (Nat.le_trans hn0 hc.size) hx (Nat.le_trans hk hc.size) (by have hq := hm.pick (lkC b x.sh x.sl adh1 nh1 caph1 bq1 ado1 nd1 capo1 x.tr bl1 x.di :: (mh1 ++ (mo1 ++ (mq1 ++ ml1)))); exact hq)) hG2.wlk (inM_inn hin17) ?_
    rintro u29 m29 ⟨mr29, mx29, hr29, rfl, h29⟩ hin29
    refine LM.as rfl <| nC [(0, _), (6, _)] ?_
    refine QM.meetK (u29, mr29, mx29, admX (goneX x t) 0 8) ⟨au2, rfl, trivial⟩ au1 ?_
    · have hz := lv_in hw1 ⟨by rw [← hr1]; exact h2, by omega⟩; exact ⟨by rw [hz.1]; exact hr29, h29, inn_trans hin17 hin29, hz.2⟩
   refine wpM.skip ?_
   refine QM.meetK (.slice none 0 0, [], lkC b x.sh x.sl adh1 nh1 caph1 bq1 ado1 nd1 capo1 x.tr bl1 x.di :: (mh1 ++ (mo1 ++ (mq1 ++ ml1))), goneX x t) ⟨au2, rfl, trivial⟩ au1 ?_
   · have hz := lv_out hw1 (fun q => by have := q.2; omega); exact ⟨by rw [hz.1]; exact Sl.nil _ _ _ _, hG, hin17, hz.2⟩
  rintro ⟨v, mr, mx, y⟩ ⟨hv, hL, hinL, hy⟩
  change QM _ _ _ _ _ (mr ++ (mx ++ [])) _ _ _
  refine tR <| LM.mv rfl ?_
  refine cU Tryz.func42 rfl (fun w hm hc hg => lkSet_spec w (hT.keep hc hS0) hn1 hL rfl (hm.pick mx)) hL.wlk (inM_inn (fun p hp => hinL p (List.mem_append_right _ hp))) ?_
  rintro u31 m31 h31 hin31
  refine nB [(6, _)] <| LM.mv rfl <| LM.as rfl <| LM.as rfl <| nA [(4, _), (5, _)] <| wpM.ret ?_
  refine QM.leave (.inl rfl) [.tmp 4, .tmp 5] Tryz.results18 rfl ?_
  intro w' hm' hc' hg'
  rw [hy, hw1]; exact upd_m (m' := mr ++ m31) ⟨_, mr, m31, rfl, hv, rfl, h31⟩ hm' au1 hc' (inn_app (fun p hp => hinL p (List.mem_append_left _ hp)) (inn_trans (fun p hp => hinL p (List.mem_append_right _ hp)) hin31))
 refine LM.dr 20 rfl rfl rfl <| LM.dr 20 rfl rfl rfl <| LM.dr 20 rfl rfl rfl <| LM.dr 20 rfl rfl rfl <| LM.dr 20 rfl rfl rfl <| LM.dr 20 rfl rfl rfl <| LM.val (ov_pickF rfl rfl) <| nA [(0, _), (6, _), (27, _)] ?_
 refine wpM.joinK (α := Value × Mem0 × Mem0 × Lkm) (fun ⟨v, mr, mx, y⟩ => [(6, v)]) [(0, _)] (fun ⟨v, mr, mx, y⟩ => mr ++ (mx ++ [])) (fun ⟨v, mr, mx, y⟩ => Sl fI 3 1 k (lvL x t) v mr ∧ LkM n0 T b y (y.wt.map (·.who)) mx ∧ inn (lkM0 b x adh nh caph bq ado nd capo bl mh mo mq ml) w.heap.size (mr ++ mx) ∧ lvX x t = settleX y) ⟨rfl, trivial⟩ ?_ ?_
 ·
  refine wpM.condF rfl ?_
  refine wpM.skip ?_
  refine QM.meetK (.slice none 0 0, [], lkC b x.sh x.sl adh1 nh1 caph1 bq1 ado1 nd1 capo1 x.tr bl1 x.di :: (mh1 ++ (mo1 ++ (mq1 ++ ml1))), goneX x t) ⟨au2, rfl, trivial⟩ au1 ?_
  · have hz := lv_out hw1 (fun q => by rw [← hr1, h2] at q; cases q.1); exact ⟨by rw [hz.1]; exact Sl.nil _ _ _ _, hG, hin17, hz.2⟩
 rintro ⟨v, mr, mx, y⟩ ⟨hv, hL, hinL, hy⟩
 change QM _ _ _ _ _ (mr ++ (mx ++ [])) _ _ _
 refine tR <| LM.mv rfl ?_
 refine cU Tryz.func42 rfl (fun w hm hc hg => lkSet_spec w (hT.keep hc hS0) hn1 hL rfl (hm.pick mx)) hL.wlk (inM_inn (fun p hp => hinL p (List.mem_append_right _ hp))) ?_
 rintro u31 m31 h31 hin31
 refine nB [(6, _)] <| LM.mv rfl <| LM.as rfl <| LM.as rfl <| nA [(4, _), (5, _)] <| wpM.ret ?_
 refine QM.leave (.inl rfl) [.tmp 4, .tmp 5] Tryz.results18 rfl ?_
 intro w' hm' hc' hg'
 rw [hy, hw1]; exact upd_m (m' := mr ++ m31) ⟨_, mr, m31, rfl, hv, rfl, h31⟩ hm' au1 hc' (inn_app (fun p hp => hinL p (List.mem_append_left _ hp)) (inn_trans (fun p hp => hinL p (List.mem_append_right _ hp)) hin31))
theorem lkDie_spec {n0 T b k : Nat} {x : Lkm} {m : Mem0} (t : Int) (w : World) (hT : Tab w) (hn1 : 0 < n0) (h : LkM n0 T b x (x.wt.map (·.who)) m) (hws : waitS x = 0#64 ↔ x.wt.length = 0) (hn0 : n0 ≤ w.heap.size) (hx : x.ho.length ≤ 900) (hk : k ≤ w.heap.size) (hM : Mem w m) : Ret Tryz.prog 20 #[.pointer (some ⟨b, 0, none⟩), .int .i64 t] w (Upd m (UnT n0 T b k (diL x t) (.bool (diB x t)) (diX x t)) w) := by
 have hS0 : ¬ inM m 0 := (fun ⟨p, hp, e⟩ => by have := h.ge p hp; omega)
 refine Ret.enterM Tryz.func20 rfl Tryz.ntmps20 rfl (m ++ []) ((inM m)) aM ?_
 refine wR <| LM.as rfl <| LM.as rfl <| nA [(0, _), (1, _)] <| wpM.seq <| wR <| LM.mv rfl <| LM.mv rfl ?_
 refine cU Tryz.func18 rfl (fun w hm hc hg => lkLv_spec (k := k) t w (hT.keep hc hS0) hn1 h (Nat.le_trans hn0 hc.size) hx (Nat.le_trans hk hc.size) (hm.pick m)) h.wlk (fun q hq _ => ⟨q, hq, rfl⟩) ?_
 rintro u13 m13 ⟨v13, mr13, mx13, rfl, hr13, rfl, h13⟩ hin13; refine LM.assoc ?_
 refine LM.mv rfl <| LM.val (ov_extract rfl rfl) <| LM.val (ov_extract rfl rfl) <| LM.as rfl <| LM.as rfl <| nB [(0, _), (1, _), (6, _), (7, _)] <| LM.mv rfl <| nA [(0, _), (1, _), (6, _), (16, _)] ?_
 first | refine wpM.condD rfl (fun h1 => ?_) (fun h1 => ?_) | refine wpM.condB rfl (fun h1 => ?_) (fun h1 => ?_)
 ·
  have e1 : diL x t = lvL x t := if_pos h1; have e2 : diX x t = lvX x t := if_pos h1; have e3 : diB x t = true := (by unfold diB; rw [h1]; rfl)
  refine wR <| LM.mv rfl <| LM.as rfl <| LM.as rfl <| nA [(4, _), (5, _)] <| wpM.ret <| QM.then_ret ?_
  refine QM.leave (.inl rfl) [.tmp 4, .tmp 5] Tryz.results20 rfl ?_
  intro w' hm' hc' hg'
  rw [e1, e2, e3]; exact upd_m (m' := mr13 ++ mx13) ⟨_, mr13, mx13, rfl, hr13, rfl, h13⟩ hm' au1 hc' hin13
 have hlv := lv_no h1; rw [hlv.2] at h13; have hH := h13; obtain ⟨adh, nh, caph, ado, nd, capo, bq, bl, mh, mo, mq, ml, rfl, hnh, hnd, hsh, hso, hTb, hLe, hb⟩ := h13; refine wpM.mem (SubM.mem (M' := lkC b x.sh x.sl adh nh caph bq ado nd capo x.tr bl x.di :: (mh ++ (mo ++ (mq ++ (ml ++ []))))) (by rw [List.cons_append, List.append_assoc, List.append_assoc, List.append_assoc]; (repeat' (first | exact SubM.nil _ | refine SubM.cons rfl ?_ | refine SubM.app ?_)))) ?_; have hin0 : inn m w.heap.size (lkC b x.sh x.sl adh nh caph bq ado nd capo x.tr bl x.di :: (mh ++ (mo ++ (mq ++ ml)))) := fun p hp => hin13 p (List.mem_append_right _ hp)
 refine wpM.skip <| QM.then <| wpM.seq <| wR <| LM.mv rfl <| LM.mv rfl ?_
 refine cE Tryz.func32 rfl (fun w hm hc hg => lkHolds_spec t w hH (hm.pick (lkC b x.sh x.sl adh nh caph bq ado nd capo x.tr bl x.di :: (mh ++ (mo ++ (mq ++ ml)))))) ?_
 first | refine LM.val (ov_notD rfl) ?_ | refine LM.val (ov_not rfl) ?_
 refine nA [(0, _), (1, _), (21, _)] ?_
 first | refine wpM.condD rfl (fun h2 => ?_) (fun h2 => ?_) | refine wpM.condB rfl (fun h2 => ?_) (fun h2 => ?_)
 ·
  refine wR <| LM.as rfl <| LM.as rfl <| nA [(4, _), (5, _)] <| wpM.ret <| QM.then_ret ?_
  refine QM.leave (.inl rfl) [.tmp 4, .tmp 5] Tryz.results20 rfl ?_
  intro w' hm' hc' hg'
  have e4 : holdsO x t = false := (by simpa using h2); have e1 : diL x t = [] := (by unfold diL; rw [if_neg (by rw [h1]; simp)]; exact if_neg (fun q => by rw [show holdsO { x with di := true } t = holdsO x t from rfl, e4] at q; cases q.1)); have e2 : diX x t = x := (by unfold diX; rw [if_neg (by rw [h1]; simp), if_neg (by rw [e4]; simp)]); have e3 : diB x t = false := (by unfold diB; rw [h1, e4]; rfl); rw [e1, e2, e3]; exact upd_m (m' := lkC b x.sh x.sl adh nh caph bq ado nd capo x.tr bl x.di :: (mh ++ (mo ++ (mq ++ ml)))) ⟨_, [], _, rfl, Sl.nil _ _ _ _, rfl, hH⟩ hm' au1 hc' hin0
 refine wpM.skip <| tR <| LM.mv rfl <| LM.nc rfl <| LM.val (ovf 4 rfl rfl rfl rfl) ?_
 refine LM.st Tryz.sizeOf4 rfl rfl rfl au5 rfl (fun hlt => by first | exact (hin0 _ (List.mem_cons_self ..)).elim (fun q => absurd hlt (Nat.not_lt_of_le q)) id | exact absurd hlt om) ?_
 refine LM.mem (SubM.mem (M' := lkC b x.sh x.sl adh nh caph bq ado nd capo x.tr bl true :: (mh ++ (mo ++ (mq ++ (ml ++ []))))) au1) ?_
 refine nB [(0, _), (1, _)] ?_
 have hF : LkM n0 T b { x with di := true } (x.wt.map (·.who)) (lkC b x.sh x.sl adh nh caph bq ado nd capo x.tr bl true :: (mh ++ (mo ++ (mq ++ ml)))) := ⟨adh, nh, caph, ado, nd, capo, bq, bl, mh, mo, mq, ml, rfl, hnh, hnd, hsh, hso, hTb, hLe, hb⟩; have hinF : inn m w.heap.size (lkC b x.sh x.sl adh nh caph bq ado nd capo x.tr bl true :: (mh ++ (mo ++ (mq ++ ml)))) := inn_hd2 hin0 rfl
 refine LM.mv rfl <| LM.mv rfl ?_
 refine cU Tryz.func15 rfl (fun w hm hc hg => lkUnl_spec (k := k) t w (hT.keep hc hS0) hn1 hF hws (Nat.le_trans hn0 hc.size) hx (Nat.le_trans hk hc.size) (hm.pick (lkC b x.sh x.sl adh nh caph bq ado nd capo x.tr bl true :: (mh ++ (mo ++ (mq ++ ml)))))) hF.wlk (inM_inn hinF) ?_
 rintro u28 m28 ⟨v28, mr28, mx28, rfl, hr28, rfl, h28⟩ hin28; refine LM.assoc ?_
 refine LM.mv rfl <| LM.val (ov_extract rfl rfl) <| LM.val (ov_extract rfl rfl) <| LM.as rfl <| LM.as rfl <| nB [(8, _)] <| LM.mv rfl <| LM.as rfl <| LM.as rfl <| nA [(4, _), (5, _)] <| wpM.ret ?_
 refine QM.leave (.inl rfl) [.tmp 4, .tmp 5] Tryz.results20 rfl ?_
 intro w' hm' hc' hg'
 have e4 : holdsO x t = true := (by simpa using h2); have e1 : diL x t = unlL { x with di := true } t := (by unfold diL; rw [if_neg (by rw [h1]; simp)]); have e2 : diX x t = unlX { x with di := true } t := (by unfold diX; rw [if_neg (by rw [h1]; simp), if_pos e4]); have e3 : diB x t = true := (by unfold diB; rw [h1, e4]; rfl); rw [e1, e2, e3]; exact upd_m (m' := mr28 ++ mx28) ⟨_, mr28, mx28, rfl, hr28, rfl, h28⟩ hm' au1 hc' (inn_trans hinF hin28)
theorem chg_yes {x : Lkm} {t : Int} (h : holdsO x t = true) : chgX x t = settleX { x with ld := ldChg x.ld (x.ho.getD (hix x.ho t) default).p.toNat, tr := spendT x.tr } := if_pos h
theorem chg_no {x : Lkm} {t : Int} (h : holdsO x t = false) : chgX x t = x := if_neg (by rw [h]; simp)
theorem hix_mem {x : Lkm} {t : Int} (h : holdsO x t = true) : x.ho.getD (hix x.ho t) default ∈ x.ho := by
  rw [List.getD_eq_getElem?_getD, List.getElem?_eq_getElem (hat_in h).2.1]; exact List.getElem_mem _
theorem lkChg_spec {n0 T b : Nat} {x : Lkm} {m : Mem0} (t : Int) (w : World) (hT : Tab w) (hn1 : 0 < n0) (h : LkM n0 T b x (x.wt.map (·.who)) m) (hn0 : n0 ≤ w.heap.size) (hhk : ∀ h ∈ x.ho, isO x.ld h.p = true) (hhh : ∀ p, p < x.ld.l.length → 0 ≤ (gP x.ld.l p).h ∧ (gP x.ld.l p).h ≤ 1000000000) (htu : -1000000 ≤ x.tr.u) (hM : Mem w m) : Ret Tryz.prog 22 #[.pointer (some ⟨b, 0, none⟩), .int .i64 t] w (Upd m (fun u m' => u = .bool (holdsO x t) ∧ LkM n0 T b (chgX x t) ((chgX x t).wt.map (·.who)) m') w) := by
 have hLk := h; have hS0 : ¬ inM m 0 := (fun ⟨p, hp, e⟩ => by have := h.ge p hp; omega); obtain ⟨adh, nh, caph, ado, nd, capo, bq, bl, mh, mo, mq, ml, rfl, hnh, hnd, hsh, hso, hTb, hLe, hb⟩ := h; have hSo := And.intro hso trivial; clear hso; have hhl := hsh.len.2.1
 refine Ret.enterM Tryz.func22 rfl Tryz.ntmps22 rfl (lkC b x.sh x.sl adh nh caph bq ado nd capo x.tr bl x.di :: (mh ++ (mo ++ (mq ++ (ml ++ []))))) ((inM (lkM0 b x adh nh caph bq ado nd capo bl mh mo mq ml))) aM ?_
 refine wR <| LM.as rfl <| nB [(0, _), (1, _)] <| LM.mv rfl <| LM.mv rfl ?_
 refine cE Tryz.func48 rfl (fun w hm hc hg => lkPlace_spec t w hLk (hm.pick (lkC b x.sh x.sl adh nh caph bq ado nd capo x.tr bl x.di :: (mh ++ (mo ++ (mq ++ ml)))))) ?_
 refine LM.as rfl <| nA [(0, _), (5, _)] <| wpM.seq <| wR <| LM.mv rfl <| LM.val (ov_lss rfl rfl) <| nA [(0, _), (5, _), (10, _)] ?_
 refine wpM.condD rfl (fun h1 => ?_) (fun h1 => ?_)
 ·
  have hho : holdsO x t = false := (by rw [← hat_holds]; exact decide_eq_false om)
  refine wR <| LM.as rfl <| nA [(4, _)] <| wpM.ret <| QM.then_ret ?_
  refine qL Tryz.results22 rfl fun w' hm' hc' hg' => ?_
  rw [hho, chg_no hho]; exact upd_m (m' := lkM0 b x adh nh caph bq ado nd capo bl mh mo mq ml) ⟨rfl, hLk⟩ hm' au1 hc' (inn_refl _ _)
 have hho : holdsO x t = true := (by rw [← hat_holds]; exact decide_eq_true om); have hix1 := (hat_in hho).1; have hix2 := (hat_in hho).2.1; rw [hix1]; obtain ⟨pp, hpp, hpl⟩ := isO_at (hhk _ (hix_mem hho)); have hpn : (x.ho.getD (hix x.ho t) default).p.toNat = pp := (by rw [hpp]; rfl)
 refine wpM.skip <| QM.then <| wpM.seq ?_
 refine wpM.draw [(0, 0), (1, 0), (2, 0), (3, 1), (4, 0), (5, 0), (6, 0), (7, 1), (8, 0), (9, 0), (10, 0), (11, 1), (12, 3)] kr kr ?_
 refine LD.val rfl rfl (ov_move rfl) <| LD.val rfl rfl (ov_nilCheck rfl) <| LD.val rfl rfl (ovf 68 rfl rfl rfl rfl) ?_
 refine LD.rd rfl rfl (oml rfl rfl rfl) ?_
 refine LD.val rfl rfl (ov_move rfl) <| LD.val rfl rfl (ov_nilCheck rfl) <| LD.val rfl rfl (ovf 56 rfl rfl rfl rfl) ?_
 refine LD.rd rfl rfl (oml rfl rfl rfl) ?_
 refine LD.val rfl rfl (ov_move rfl) ?_
 refine LD.val rfl rfl (ov_idxSN au6 Tryz.underlying56 Tryz.sizeOf59 rfl rfl om) ?_
 refine LD.val rfl rfl (ovf 3 rfl rfl rfl rfl) ?_
 refine LD.rd rfl rfl (om_slE (j := 1) asm ir Tryz.isAgg3 rfl rfl au3 rfl (by rfl)) ?_
 refine LD.tail rfl rfl ?_
 rw [hpp]
 refine cU Tryz.func62 rfl (fun w hm hc hg => leChg_spec pp w hLe hpl (hhh pp hpl) (hm.pick ml)) hLe.wlk (fun q hq _ => ⟨q, by simp [hq], rfl⟩) ?_
 rintro u23 m23 ⟨rfl, h23⟩ hin23
 refine LM.nil ?_
 refine QM.qn ?_
 refine QM.sub (e' := [(0, _)]) ⟨rfl, trivial⟩ (QM.then (wpM.seq (wpM.region ?_)))
 refine LM.mv rfl <| LM.mv rfl <| LM.nc rfl <| LM.val (ovf 64 rfl rfl rfl rfl) ?_
 first | refine LM.rd (om_ldW Tryz.isAgg64 Tryz.sizeOf64 rfl rfl) ?_ | refine LM.rd (om_ldA Tryz.isAgg64 Tryz.sizeOf64 rfl (vs := [_, _]) rfl ⟨rfl, rfl, trivial⟩) ?_
 refine cE Tryz.func63 rfl (fun w hm hc hg => tuspend_spec x.tr w htu) ?_
 refine LM.nc rfl <| LM.val (ovf 64 rfl rfl rfl rfl) ?_
 refine LM.st Tryz.sizeOf64 rfl rfl rfl au5 rfl auH ?_
 refine LM.mem (SubM.mem (M' := lkC b x.sh x.sl adh nh caph bq ado nd capo (spendT x.tr) bl x.di :: (mh ++ (mo ++ (mq ++ (m23 ++ []))))) au1) ?_
 refine nB [(0, _)] ?_
 have hF : LkM n0 T b { x with ld := ldChg x.ld pp, tr := spendT x.tr } (x.wt.map (·.who)) (lkC b x.sh x.sl adh nh caph bq ado nd capo (spendT x.tr) bl x.di :: (mh ++ (mo ++ (mq ++ m23)))) := ⟨adh, nh, caph, ado, nd, capo, bq, bl, mh, mo, mq, m23, rfl, hnh, hnd, hsh, hSo.1, hTb, h23, hb⟩; have hinF : inn (lkM0 b x adh nh caph bq ado nd capo bl mh mo mq ml) w.heap.size (lkC b x.sh x.sl adh nh caph bq ado nd capo (spendT x.tr) bl x.di :: (mh ++ (mo ++ (mq ++ m23)))) := inn_cons inM_0 (inn_app inS (inn_app inS (inn_app inS (inn_tr hin23 (fun p hp => by simp [hp])))))
 refine LM.mv rfl ?_
 refine cU Tryz.func42 rfl (fun w hm hc hg => lkSet_spec w (hT.keep hc hS0) hn1 hF rfl (hm.pick (lkC b x.sh x.sl adh nh caph bq ado nd capo (spendT x.tr) bl x.di :: (mh ++ (mo ++ (mq ++ m23)))))) hF.wlk (inM_inn hinF) ?_
 rintro u33 m33 h33 hin33
 refine LM.nil (QM.sub (e' := []) trivial (QM.then (wpM.seq (wpM.region ?_))))
 refine LM.as rfl <| nA [(4, _)] <| wpM.ret ?_
 refine qL Tryz.results22 rfl fun w' hm' hc' hg' => ?_
 rw [hho, chg_yes hho, hpn]; exact upd_m (m' := m33) ⟨rfl, h33⟩ hm' au1 hc' (inn_trans hinF hin33)
theorem wei_no {x : Lkm} {g wt : Int} (h : weiB x g = false) : weiX x g wt = x := if_neg (by rw [h]; simp)
theorem wei_yes {x : Lkm} {g : Nat} {wt : Int} (h : weiB x g = true) : weiX x g wt = settleX { x with ld := ldWei x.ld g wt, tr := if x.tr.p = (g : Int) ∧ (gP (ldWei x.ld g wt).l g).w ≠ (gP x.ld.l g).w then endT x.tr x.sl else x.tr } := if_pos h
theorem leW_in {x : Ldm} {p : Nat} (h : p < x.l.length) : (if isO x (p : Int) then (gP x.l p).w else 0) = (gP x.l p).w := by rw [isO_in h]; rfl
theorem lkWei_spec {n0 T b : Nat} {x : Lkm} {m : Mem0} (g wt : Int) (w : World) (hT : Tab w) (hn1 : 0 < n0) (h : LkM n0 T b x (x.wt.map (·.who)) m) (hn0 : n0 ≤ w.heap.size) (hM : Mem w m) : Ret Tryz.prog 24 #[.pointer (some ⟨b, 0, none⟩), .int .i64 g, .int .i64 wt] w (Upd m (fun u m' => u = .bool (weiB x g) ∧ LkM n0 T b (weiX x g wt) ((weiX x g wt).wt.map (·.who)) m') w) := by
 have hLk := h; have hS0 : ¬ inM m 0 := (fun ⟨p, hp, e⟩ => by have := h.ge p hp; omega); obtain ⟨adh, nh, caph, ado, nd, capo, bq, bl, mh, mo, mq, ml, rfl, hnh, hnd, hsh, hso, hTb, hLe, hb⟩ := h; have hhl := hsh.len.2.1
 refine Ret.enterM Tryz.func24 rfl Tryz.ntmps24 rfl (lkC b x.sh x.sl adh nh caph bq ado nd capo x.tr bl x.di :: (mh ++ (mo ++ (mq ++ (ml ++ []))))) ((inM (lkM0 b x adh nh caph bq ado nd capo bl mh mo mq ml))) aM ?_
 refine wR <| LM.as rfl <| nA [(0, _), (1, _), (2, _)] <| wpM.seq <| wR <| LM.mv rfl ?_
 refine LM.val (ov_peql kr rfl rfl) ?_
 refine LM.mv rfl <| LM.sp 10 rfl rfl rfl <| LM.mv rfl <| LM.sp 10 rfl rfl rfl <| LM.nc rfl <| LM.sp 10 rfl rfl rfl <| LM.val (ovf 4 rfl rfl rfl rfl) <| LM.sp 10 rfl rfl rfl ?_
 refine LM.rd (oml rfl rfl rfl) ?_
 refine LM.val (ov_pickF rfl rfl) <| LM.mv rfl ?_
 first | refine LM.splitD (t := 16) rfl (fun h1 => ?_) (fun h1 => ?_) | refine LM.splitB (t := 16) rfl (fun h1 => ?_) (fun h1 => ?_)
 ·
  have hw1 : weiB x g = false := (by unfold weiB; rw [h1]; rfl)
  refine LM.dr 16 rfl rfl rfl <| LM.dr 16 rfl rfl rfl <| LM.dr 16 rfl rfl rfl <| LM.dr 16 rfl rfl rfl <| LM.val (ov_pickT rfl rfl) <| nA [(0, _), (1, _), (2, _), (21, _)] ?_
  refine wpM.condT rfl ?_
  refine wR <| LM.as rfl <| nA [(6, _)] <| wpM.ret <| QM.then_ret ?_
  refine qL Tryz.results24 rfl fun w' hm' hc' hg' => ?_
  rw [hw1, wei_no hw1]; exact upd_m (m' := lkM0 b x adh nh caph bq ado nd capo bl mh mo mq ml) ⟨rfl, hLk⟩ hm' au1 hc' (inn_refl _ _)
 skip
 refine LM.sp 16 rfl rfl rfl <| LM.mv rfl <| LM.sp 16 rfl rfl rfl <| LM.mv rfl <| LM.sp 16 rfl rfl rfl ?_
 refine cE Tryz.func66 rfl (fun w hm hc hg => lkIs_spec g w hLk (hm.pick (lkC b x.sh x.sl adh nh caph bq ado nd capo x.tr bl x.di :: (mh ++ (mo ++ (mq ++ ml)))))) ?_
 refine LM.sp 16 rfl rfl rfl ?_
 first | refine LM.val (ov_notD rfl) ?_ | refine LM.val (ov_not rfl) ?_
 refine LM.val (ov_pickF rfl rfl) <| nA [(0, _), (1, _), (2, _), (21, _)] ?_
 first | refine wpM.condD rfl (fun h2 => ?_) (fun h2 => ?_) | refine wpM.condB rfl (fun h2 => ?_) (fun h2 => ?_)
 ·
  have hw1 : weiB x g = false := (by unfold weiB; rw [show isO x.ld g = false by simpa using h2]; simp)
  refine wR <| LM.as rfl <| nA [(6, _)] <| wpM.ret <| QM.then_ret ?_
  refine qL Tryz.results24 rfl fun w' hm' hc' hg' => ?_
  rw [hw1, wei_no hw1]; exact upd_m (m' := lkM0 b x adh nh caph bq ado nd capo bl mh mo mq ml) ⟨rfl, hLk⟩ hm' au1 hc' (inn_refl _ _)
 have hig : isO x.ld g = true := (by simpa using h2); have hw1 : weiB x g = true := (by unfold weiB; rw [h1, hig]; rfl); obtain ⟨p, rfl, hpl⟩ := isO_at hig
 refine wpM.skip <| tR <| LM.mv rfl <| LM.nc rfl <| LM.val (ovf 68 rfl rfl rfl rfl) ?_
 refine LM.rd (oml rfl rfl rfl) ?_
 refine LM.mv rfl ?_
 refine cE Tryz.func67 rfl (fun w hm hc hg => leW_in hpl ▸ leWeight_spec (p : Int) w hLe (hm.pick ml)) ?_
 refine LM.as rfl <| nB [(0, _), (1, _), (2, _), (7, _)] <| LM.mv rfl <| LM.nc rfl <| LM.val (ovf 68 rfl rfl rfl rfl) ?_
 refine LM.rd (oml rfl rfl rfl) ?_
 refine LM.mv rfl <| LM.mv rfl ?_
 refine cU Tryz.func68 rfl (fun w hm hc hg => leWei_spec p wt w hLe hpl (hm.pick ml)) hLe.wlk (fun q hq _ => ⟨q, by simp [hq], rfl⟩) ?_
 rintro u34 m34 ⟨rfl, h34⟩ hin34; have hpl4 : p < (ldWei x.ld p wt).l.length := (by show p < (x.ld.l.set _ _).length; rw [List.length_set]; exact hpl)
 refine nA [(0, _), (1, _), (7, _)] <| wpM.seq <| wR <| LM.mv rfl <| LM.nc rfl <| LM.val (ovf 64 rfl rfl rfl rfl) <| LM.val (ovf 3 rfl rfl rfl rfl) ?_
 refine LM.rd (oml rfl rfl rfl) ?_
 refine LM.mv rfl <| LM.val (ov_eql rfl rfl) <| LM.mv rfl ?_
 refine LM.splitD (t := 42) rfl (fun h3 => ?_) (fun h3 => ?_)
 ·
  refine LM.sp 42 rfl rfl rfl <| LM.mv rfl <| LM.sp 42 rfl rfl rfl <| LM.nc rfl <| LM.sp 42 rfl rfl rfl <| LM.val (ovf 68 rfl rfl rfl rfl) <| LM.sp 42 rfl rfl rfl ?_
  refine LM.rd (oml rfl rfl rfl) ?_
  refine LM.sp 42 rfl rfl rfl <| LM.mv rfl <| LM.sp 42 rfl rfl rfl ?_
  refine cE Tryz.func67 rfl (fun w hm hc hg => leW_in hpl4 ▸ leWeight_spec (p : Int) w h34 (hm.pick m34)) ?_
  refine LM.sp 42 rfl rfl rfl <| LM.mv rfl <| LM.sp 42 rfl rfl rfl <| LM.val (ov_neq rfl rfl) <| LM.val (ov_pickT rfl rfl) <| nA [(0, _), (51, _)] ?_
  refine wpM.joinK (α := Trn) (fun tr => []) [(0, _)] (fun tr => lkC b x.sh x.sl adh nh caph bq ado nd capo tr bl x.di :: (mh ++ (mo ++ (mq ++ (m34 ++ []))))) (fun tr => tr = if x.tr.p = (p : Int) ∧ (gP (ldWei x.ld p wt).l p).w ≠ (gP x.ld.l p).w then endT x.tr x.sl else x.tr) ⟨rfl, trivial⟩ ?_ ?_
  ·
   refine wpM.condD rfl (fun h4 => ?_) (fun h4 => ?_)
   ·
    refine wpM.draw [(0, 0), (1, 0), (2, 0), (3, 0), (4, 1), (5, 0), (6, 0), (7, 0), (8, 1), (9, 2), (10, 0), (11, 0), (12, 3)] kr kr ?_
    refine LD.val rfl rfl (ov_move rfl) <| LD.val rfl rfl (ov_move rfl) <| LD.val rfl rfl (ov_nilCheck rfl) <| LD.val rfl rfl (ovf 64 rfl rfl rfl rfl) ?_
    first | refine LD.rd rfl rfl (om_ldW Tryz.isAgg64 Tryz.sizeOf64 rfl rfl) ?_ | refine LD.rd rfl rfl (om_ldA Tryz.isAgg64 Tryz.sizeOf64 rfl (vs := [_, _]) rfl ⟨rfl, rfl, trivial⟩) ?_
    refine LD.val rfl rfl (ov_move rfl) <| LD.val rfl rfl (ov_nilCheck rfl) <| LD.val rfl rfl (ovf 3 rfl rfl rfl rfl) ?_
    refine LD.rd rfl rfl (oml rfl rfl rfl) ?_
    refine dE rfl rfl Tryz.func69 rfl (fun w hm hc hg => tuend_spec x.tr _ w) ?_
    refine LD.val rfl rfl (ov_nilCheck rfl) <| LD.val rfl rfl (ovf 64 rfl rfl rfl rfl) ?_
    refine LD.tail rfl rfl ?_
    refine LM.st Tryz.sizeOf64 rfl rfl rfl au5 rfl auH ?_
    refine LM.nil ?_
    refine QM.qn ?_
    refine QM.sub (e' := [(0, _)]) ⟨rfl, trivial⟩ ?_
    refine QM.meetK (endT x.tr x.sl) ⟨rfl, trivial⟩ au1 ?_
    · exact (if_pos ⟨h3, by simpa using h4⟩).symm
   refine wpM.skip ?_
   refine QM.meetK (x.tr) ⟨rfl, trivial⟩ au1 ?_
   · exact (if_neg (fun q => by have := q.2; simp at h4; exact this h4)).symm
  rintro tr htr
  change QM _ _ _ _ _ (lkC b x.sh x.sl adh nh caph bq ado nd capo tr bl x.di :: (mh ++ (mo ++ (mq ++ (m34 ++ []))))) _ _ _
  refine tR ?_
  have hF : LkM n0 T b { x with ld := ldWei x.ld p wt, tr := tr } (x.wt.map (·.who)) (lkC b x.sh x.sl adh nh caph bq ado nd capo tr bl x.di :: (mh ++ (mo ++ (mq ++ m34)))) := ⟨adh, nh, caph, ado, nd, capo, bq, bl, mh, mo, mq, m34, rfl, hnh, hnd, hsh, hso, hTb, h34, hb⟩; have hinF : inn (lkM0 b x adh nh caph bq ado nd capo bl mh mo mq ml) w.heap.size (lkC b x.sh x.sl adh nh caph bq ado nd capo tr bl x.di :: (mh ++ (mo ++ (mq ++ m34)))) := inn_cons inM_0 (inn_app inS (inn_app inS (inn_app inS (inn_tr hin34 (fun p hp => by simp [hp])))))
  refine LM.mv rfl ?_
  refine cU Tryz.func42 rfl (fun w hm hc hg => lkSet_spec w (hT.keep hc hS0) hn1 hF rfl (hm.pick (lkC b x.sh x.sl adh nh caph bq ado nd capo tr bl x.di :: (mh ++ (mo ++ (mq ++ m34)))))) hF.wlk (inM_inn hinF) ?_
  rintro u65 m65 h65 hin65
  refine LM.nil (QM.sub (e' := []) trivial (QM.then (wpM.seq (wpM.region ?_))))
  refine LM.as rfl <| nA [(6, _)] <| wpM.ret ?_
  refine qL Tryz.results24 rfl fun w' hm' hc' hg' => ?_
  rw [hw1, wei_yes hw1, ← htr]; exact upd_m (m' := m65) ⟨rfl, h65⟩ hm' au1 hc' (inn_trans hinF hin65)
 refine LM.dr 42 rfl rfl rfl <| LM.dr 42 rfl rfl rfl <| LM.dr 42 rfl rfl rfl <| LM.dr 42 rfl rfl rfl <| LM.dr 42 rfl rfl rfl <| LM.dr 42 rfl rfl rfl <| LM.dr 42 rfl rfl rfl <| LM.dr 42 rfl rfl rfl <| LM.val (ov_pickF rfl rfl) <| nA [(0, _), (51, _)] ?_
 refine wpM.joinK (α := Trn) (fun tr => []) [(0, _)] (fun tr => lkC b x.sh x.sl adh nh caph bq ado nd capo tr bl x.di :: (mh ++ (mo ++ (mq ++ (m34 ++ []))))) (fun tr => tr = if x.tr.p = (p : Int) ∧ (gP (ldWei x.ld p wt).l p).w ≠ (gP x.ld.l p).w then endT x.tr x.sl else x.tr) ⟨rfl, trivial⟩ ?_ ?_
 ·
  refine wpM.condF rfl ?_
  refine wpM.skip ?_
  refine QM.meetK (x.tr) ⟨rfl, trivial⟩ au1 ?_
  · exact (if_neg (fun q => h3 q.1)).symm
 rintro tr htr
 change QM _ _ _ _ _ (lkC b x.sh x.sl adh nh caph bq ado nd capo tr bl x.di :: (mh ++ (mo ++ (mq ++ (m34 ++ []))))) _ _ _
 refine tR ?_
 have hF : LkM n0 T b { x with ld := ldWei x.ld p wt, tr := tr } (x.wt.map (·.who)) (lkC b x.sh x.sl adh nh caph bq ado nd capo tr bl x.di :: (mh ++ (mo ++ (mq ++ m34)))) := ⟨adh, nh, caph, ado, nd, capo, bq, bl, mh, mo, mq, m34, rfl, hnh, hnd, hsh, hso, hTb, h34, hb⟩; have hinF : inn (lkM0 b x adh nh caph bq ado nd capo bl mh mo mq ml) w.heap.size (lkC b x.sh x.sl adh nh caph bq ado nd capo tr bl x.di :: (mh ++ (mo ++ (mq ++ m34)))) := inn_cons inM_0 (inn_app inS (inn_app inS (inn_app inS (inn_tr hin34 (fun p hp => by simp [hp])))))
 refine LM.mv rfl ?_
 refine cU Tryz.func42 rfl (fun w hm hc hg => lkSet_spec w (hT.keep hc hS0) hn1 hF rfl (hm.pick (lkC b x.sh x.sl adh nh caph bq ado nd capo tr bl x.di :: (mh ++ (mo ++ (mq ++ m34)))))) hF.wlk (inM_inn hinF) ?_
 rintro u65 m65 h65 hin65
 refine LM.nil (QM.sub (e' := []) trivial (QM.then (wpM.seq (wpM.region ?_))))
 refine LM.as rfl <| nA [(6, _)] <| wpM.ret ?_
 refine qL Tryz.results24 rfl fun w' hm' hc' hg' => ?_
 rw [hw1, wei_yes hw1, ← htr]; exact upd_m (m' := m65) ⟨rfl, h65⟩ hm' au1 hc' (inn_trans hinF hin65)
end Go.Eng
namespace Go.Eng
open Go Go.RowKit
theorem foldS_get : ∀ (l : List Int) (s : BitVec 64) (q : Nat), (l.foldl withS s).getLsbD q = (s.getLsbD q || (decide (q < 64) && l.any (fun k => decide (k = (q : Int)))))
  | [], s, q => by simp
  | k :: l, s, q => by
    rw [List.foldl_cons, foldS_get l, List.any_cons]
    show ((s ||| bitU k).getLsbD q || _) = _
    rw [BitVec.getLsbD_or, bitU_get]
    by_cases e : k = (q : Int)
    · subst e; by_cases c : q < 64 <;> simp [c]
    · have : ¬ (q : Int) = k := fun z => e z.symm
      by_cases c : q < 64 <;> simp [c, e, this]
theorem keyS_get (l : List Int) (q : Nat) : (keyS l).getLsbD q = (decide (q < 64) && l.any (fun k => decide (k = (q : Int)))) := by
  unfold keyS; rw [foldS_get]; simp
theorem keyS_has (l : List Int) (q : Int) (h : 0 ≤ q ∧ q < 64) : sHas (keyS l) q = l.any (fun k => decide (k = q)) := by
  unfold sHas; rw [keyS_get]
  have e : ((q.toNat : Nat) : Int) = q := by omega
  rw [e]
  simp [h.1, h.2]
theorem keyS_zero {l : List Int} (h : ∀ k ∈ l, 0 ≤ k ∧ k < 64) : keyS l = 0#64 ↔ l.length = 0 := by
  constructor
  · intro e
    cases l with
    | nil => rfl
    | cons k l =>
      have hk := h k (List.mem_cons_self ..)
      have := keyS_has (k :: l) k hk
      rw [e, sHas_zero] at this
      simp at this
  · intro e; rw [List.eq_nil_of_length_eq_zero e]; rfl
theorem isO_rng {x : Ldm} {p : Int} (h : isO x p = true) (hl : x.l.length ≤ 8) : 0 ≤ p ∧ p < 64 := by
  obtain ⟨i, rfl, hi⟩ := isO_at h; omega
def grH (p : Int) (d : Bool) : List Int → List Hd
  | [] => []
  | t :: os => ⟨t, p, d⟩ :: os.map (fun t => ⟨t, p, false⟩)
theorem grH_f (p : Int) : ∀ os, grH p false os = os.map (fun t => (⟨t, p, false⟩ : Hd))
  | [] => rfl
  | t :: os => rfl
theorem holds_form (p : Int) : ∀ (os : List Int) (x : Lkm), os.foldl (fun x t => holdX x t p) x = { x with ho := x.ho ++ grH p x.di os, di := x.di && os.isEmpty }
  | [], x => by simp [grH]
  | t :: os, x => by
    rw [List.foldl_cons, holds_form p os]
    show ({ x with ho := (x.ho ++ [⟨t, p, x.di⟩]) ++ grH p false os, di := false && os.isEmpty } : Lkm) = { x with ho := x.ho ++ (⟨t, p, x.di⟩ :: os.map (fun t => ⟨t, p, false⟩)), di := x.di && false }
    rw [grH_f, List.append_assoc, Bool.false_and, Bool.and_false]; rfl
theorem grH_len (p : Int) (d : Bool) : ∀ os, (grH p d os).length = os.length
  | [] => rfl
  | t :: os => by simp [grH]
theorem grH_t (p : Int) (d : Bool) : ∀ os, (grH p d os).map (·.t) = os
  | [] => rfl
  | t :: os => by simp [grH, Function.comp_def]
theorem grH_p {p : Int} {d : Bool} : ∀ {os : List Int} {h : Hd}, h ∈ grH p d os → h.p = p
  | [], h, q => by cases q
  | t :: os, h, q => by
    rcases List.mem_cons.1 q with rfl | q
    · rfl
    · obtain ⟨t', _, rfl⟩ := List.mem_map.1 q; rfl
theorem admX_form (x : Lkm) (p : Int) (n : Nat) : admX x p n = { x with wt := rmA x.wt (admL x p n), ho := x.ho ++ grH p x.di (admL x p n), di := x.di && (admL x p n).isEmpty } := holds_form p _ _
structure LkV (x : Lkm) : Prop where
  wd : Wd1 x.wt
  w8 : x.wt.length ≤ 8
  hd : (x.ho.map (·.t)).Nodup
  dj : ∀ w ∈ x.wt, ∀ h ∈ x.ho, w.who ≠ h.t
  wk : ∀ w ∈ x.wt, isO x.ld w.key = true
  hk : ∀ h ∈ x.ho, isO x.ld h.p = true
  wz : ∀ w ∈ x.wt, w.til = 0#64
  ex : x.sh = false → x.ho.length ≤ 1
  rd : x.sh = true → (∀ h ∈ x.ho, h.p = 0) ∨ x.ho.length ≤ 1
  l2 : x.sh = true → x.ld.l.length = 2
  l8 : x.ld.l.length ≤ 8
structure LkW (x : Lkm) : Prop extends LkV x where
  em : x.ho.length = 0 → x.wt.length = 0
theorem LkV.core {x y : Lkm} (h : LkV x) (e1 : y.sh = x.sh) (e2 : y.ho = x.ho) (e3 : y.wt = x.wt) (e4 : y.ld.l.length = x.ld.l.length) : LkV y := by
  have hi : ∀ p, isO y.ld p = isO x.ld p := fun p => by unfold isO; rw [e4]
  refine ⟨?_, ?_, ?_, ?_, ?_, ?_, ?_, ?_, ?_, ?_, ?_⟩
  · rw [e3]; exact h.wd
  · rw [e3]; exact h.w8
  · rw [e2]; exact h.hd
  · rw [e2, e3]; exact h.dj
  · rw [e3]; exact fun w hw => by rw [hi]; exact h.wk w hw
  · rw [e2]; exact fun w hw => by rw [hi]; exact h.hk w hw
  · rw [e3]; exact h.wz
  · rw [e1, e2]; exact h.ex
  · rw [e1, e2]; exact h.rd
  · rw [e1, e4]; exact h.l2
  · rw [e4]; exact h.l8
theorem LkW.core {x y : Lkm} (h : LkW x) (e1 : y.sh = x.sh) (e2 : y.ho = x.ho) (e3 : y.wt = x.wt) (e4 : y.ld.l.length = x.ld.l.length) : LkW y :=
  ⟨h.toLkV.core e1 e2 e3 e4, by rw [e2, e3]; exact h.em⟩
theorem ldSet_len (x : Ldm) (s : BitVec 64) : (ldSet x s).l.length = x.l.length := stX_len x s
theorem LkW.settle {x : Lkm} (h : LkW x) : LkW (settleX x) := h.core rfl rfl rfl (ldSet_len _ _)
theorem LkV.hws {x : Lkm} (h : LkV x) : waitS x = 0#64 ↔ x.wt.length = 0 := by
  unfold waitS
  rw [keyS_zero (fun k hk => by obtain ⟨w, hw, rfl⟩ := List.mem_map.1 hk; exact isO_rng (h.wk w hw) h.l8), List.length_map]
theorem admL_mem {x : Lkm} {p : Int} {n : Nat} {t : Int} (h : t ∈ admL x p n) : ∃ w ∈ x.wt, w.who = t ∧ w.key = p := by
  unfold admL at h
  obtain ⟨w, hw, rfl⟩ := List.mem_map.1 h
  have := LF_mem.1 (List.mem_of_mem_take hw)
  exact ⟨w, this.1, rfl, this.2⟩
theorem admL_nodup {x : Lkm} (h : Wd1 x.wt) (p : Int) (n : Nat) : (admL x p n).Nodup := by
  unfold admL
  have h1 : ((LF x.wt p).take n).Pairwise (fun a b => a.who ≠ b.who) := List.Pairwise.sublist (List.take_sublist _ _) (wd_lf h p)
  exact List.pairwise_map.2 h1
theorem rmA_wd {L : List Wt} : ∀ {os : List Int}, Wd1 L → Wd1 (rmA L os) := by
  intro os
  unfold rmA
  induction os generalizing L with
  | nil => exact id
  | cons t os ih => intro h; rw [List.foldl_cons]; exact ih (wd_rm h t)
theorem rmA_le {L : List Wt} : ∀ {os : List Int}, (rmA L os).length ≤ L.length := by
  intro os
  unfold rmA
  induction os generalizing L with
  | nil => exact Nat.le_refl _
  | cons t os ih => rw [List.foldl_cons]; exact Nat.le_trans ih (List.length_filter_le _ _)
theorem LkV.adm {x : Lkm} (h : LkV x) (p : Int) (n : Nat) (hc : (x.ho.length = 0 ∧ (n = 1 ∨ (x.sh = true ∧ p = 0))) ∨ (x.sh = true ∧ p = 0 ∧ ∀ h ∈ x.ho, h.p = 0)) : LkV (admX x p n) := by
  rw [admX_form]
  have hm : ∀ t ∈ admL x p n, ∃ w ∈ x.wt, w.who = t ∧ w.key = p := fun t ht => admL_mem ht
  refine ⟨rmA_wd h.wd, Nat.le_trans rmA_le h.w8, ?_, ?_, fun w hw => h.wk w (rmA_mem.1 hw).1, ?_, fun w hw => h.wz w (rmA_mem.1 hw).1, ?_, ?_, h.l2, h.l8⟩
  · show ((x.ho ++ grH p x.di (admL x p n)).map (·.t)).Nodup
    rw [List.map_append, grH_t, List.nodup_append]
    refine ⟨h.hd, admL_nodup h.wd p n, fun a ha b hb e => ?_⟩
    obtain ⟨g, hg, rfl⟩ := List.mem_map.1 ha
    obtain ⟨w, hw, e2, _⟩ := hm b hb
    exact h.dj w hw g hg (e2.trans e.symm)
  · intro w hw g hg
    have hw2 := rmA_mem.1 hw
    rcases List.mem_append.1 hg with hg | hg
    · exact h.dj w hw2.1 g hg
    · intro e
      refine hw2.2 ?_
      have : g.t ∈ (grH p x.di (admL x p n)).map (·.t) := List.mem_map.2 ⟨g, hg, rfl⟩
      rw [grH_t] at this
      rw [e]; exact this
  · intro g hg
    rcases List.mem_append.1 hg with hg | hg
    · exact h.hk g hg
    · have hp := grH_p hg
      have : g.t ∈ (grH p x.di (admL x p n)).map (·.t) := List.mem_map.2 ⟨g, hg, rfl⟩
      rw [grH_t] at this
      obtain ⟨w, hw, _, e⟩ := hm _ this
      show isO x.ld g.p = true
      rw [hp, ← e]; exact h.wk w hw
  · intro hs
    show (x.ho ++ _).length ≤ 1
    rw [List.length_append, grH_len]
    rcases hc with ⟨h0, hn⟩ | ⟨q, _⟩
    · rcases hn with rfl | ⟨q, _⟩
      · have : (admL x p 1).length ≤ 1 := by unfold admL; rw [List.length_map, List.length_take]; omega
        omega
      · rw [hs] at q; cases q
    · rw [hs] at q; cases q
  · intro hs
    show (∀ g ∈ x.ho ++ grH p x.di (admL x p n), g.p = 0) ∨ (x.ho ++ grH p x.di (admL x p n)).length ≤ 1
    rcases hc with ⟨h0, hn⟩ | ⟨_, hp, hh⟩
    · have e0 := List.eq_nil_of_length_eq_zero h0
      rcases hn with rfl | ⟨_, hp⟩
      · right
        have : (admL x p 1).length ≤ 1 := by unfold admL; rw [List.length_map, List.length_take]; omega
        rw [List.length_append, grH_len]; omega
      · left
        intro g hg
        rw [e0, List.nil_append] at hg
        exact (grH_p hg).trans hp
    · left
      intro g hg
      rcases List.mem_append.1 hg with hg | hg
      · exact hh g hg
      · exact (grH_p hg).trans hp
theorem turn_key {x : Lkm} (h : LkV x) (hw : ¬ x.wt.length = 0) : ∃ w ∈ x.wt, w.key = (turnX x).tr.p := by
  have hs : waitS x ≠ 0#64 := fun q => hw (h.hws.1 q)
  have key : sHas (waitS x) (turnX x).tr.p = true := by
    show sHas (waitS x) (nextT x.tr x.sl (waitS x) (leastN x.ld.l (waitS x) x.ld.l.length)).p = true
    unfold nextT
    split
    · rename_i c
      rcases c with c | c
      · exact absurd c hs
      · exact c.1
    · show sHas (waitS x) (leastN x.ld.l (waitS x) x.ld.l.length) = true
      have hle := least_in x.ld.l (waitS x) x.ld.l.length
      have h0 : 0 ≤ leastN x.ld.l (waitS x) x.ld.l.length := by
        apply Classical.byContradiction; intro q
        have hno := least_none (l := x.ld.l) (s := waitS x) (k := x.ld.l.length) om
        cases hx : x.wt with
        | nil => rw [hx] at hw; exact hw rfl
        | cons w l =>
          have hwk := h.wk w (by rw [hx]; exact List.mem_cons_self ..)
          obtain ⟨i, hi, hil⟩ := isO_at hwk
          have := hno i hil
          rw [show waitS x = keyS (x.wt.map (·.key)) from rfl, keyS_get, hx] at this
          have h8 := h.l8
          rw [decide_eq_true om, List.map_cons, List.any_cons, hi] at this
          simp at this
      have hb := least_mem x.ld.l (waitS x) x.ld.l.length h0
      have h8 := h.l8
      unfold sHas; rw [decide_eq_true h0, decide_eq_true om, hb]; rfl
  have hr := sHas_rng key
  rw [show waitS x = keyS (x.wt.map (·.key)) from rfl, keyS_has _ _ hr, List.any_eq_true] at key
  obtain ⟨k, hk, e⟩ := key
  obtain ⟨w, hw, rfl⟩ := List.mem_map.1 hk
  exact ⟨w, hw, of_decide_eq_true e⟩
theorem adm_some {x : Lkm} {p : Int} {n : Nat} (hn : 0 < n) (h : ∃ w ∈ x.wt, w.key = p) : 0 < (admL x p n).length := by
  obtain ⟨w, hw, e⟩ := h
  have : w ∈ LF x.wt p := LF_mem.2 ⟨hw, e⟩
  have h1 := List.length_pos_of_mem this
  unfold admL; rw [List.length_map, List.length_take]; omega
theorem passN_pos (x : Lkm) : 0 < passN x := by unfold passN; split <;> decide
theorem LkV.pass {x : Lkm} (h : LkV x) (h0 : x.ho.length = 0) : LkW (passX x) := by
  unfold passX
  split
  · rename_i hw; exact ⟨h, fun _ => hw⟩
  · rename_i hw
    have hv : LkV (turnX x) := h.core rfl rfl rfl rfl
    have hk := turn_key h hw
    have hpos : 0 < (admL (turnX x) (turnX x).tr.p (passN x)).length := adm_some (passN_pos x) hk
    refine ⟨hv.adm _ _ (.inl ⟨h0, ?_⟩), fun q => ?_⟩
    · unfold passN; split
      · rename_i c; exact .inr c
      · exact .inl rfl
    · rw [admX_form] at q
      have q2 : (x.ho ++ grH (turnX x).tr.p x.di (admL (turnX x) (turnX x).tr.p (passN x))).length = 0 := q
      rw [List.length_append, grH_len] at q2
      omega
theorem comes_zero2 {x : Lkm} {t p : Int} (h : comesE x t p = 0) : isO x.ld p = true ∧ 0 ≤ t ∧ holdsO x t = false ∧ waitsO x t = false := by
  unfold comesE at h
  by_cases c1 : isO x.ld p = false ∨ t < 0
  · rw [if_pos c1] at h; cases h
  · rw [if_neg c1] at h
    by_cases c2 : holdsO x t = true
    · rw [if_pos c2] at h; cases h
    · rw [if_neg c2] at h
      by_cases c3 : waitsO x t = true
      · rw [if_pos c3] at h; cases h
      · exact ⟨by simpa using fun q => c1 (.inl q), by omega, by simpa using c2, by simpa using c3⟩
theorem holds_no {x : Lkm} {t : Int} (h : holdsO x t = false) : ∀ g ∈ x.ho, g.t ≠ t := fun g hg e => by
  unfold holdsO at h; rw [List.any_eq_false] at h; exact h g hg (decide_eq_true e)
theorem waits_no {x : Lkm} {t : Int} (h : waitsO x t = false) : ∀ w ∈ x.wt, w.who ≠ t := fun g hg e => by
  unfold waitsO at h; rw [List.any_eq_false] at h; exact h g hg (decide_eq_true e)
theorem free_cases {x : Lkm} {p : Int} (h : LkV x) (hf : freeO x p = true) : isO x.ld p = true ∧ (x.ho.length = 0 ∨ (p = 0 ∧ x.sh = true ∧ 0 < x.ho.length ∧ ∀ g ∈ x.ho, g.p = 0)) := by
  unfold freeO readO at hf
  simp only [Bool.and_eq_true, Bool.or_eq_true, decide_eq_true_eq] at hf
  refine ⟨hf.1, ?_⟩
  rcases hf.2 with q | ⟨q1, ⟨q2, q3, q4⟩, _⟩
  · exact .inl q
  · refine .inr ⟨q1, q2, q3, fun g hg => ?_⟩
    rcases h.rd q2 with r | r
    · exact r g hg
    · cases hx : x.ho with
      | nil => rw [hx] at hg; cases hg
      | cons a l =>
        rw [hx] at r q4 hg
        have : l = [] := List.eq_nil_of_length_eq_zero (by simp at r; simp [r])
        subst this
        rcases List.mem_singleton.1 hg with rfl
        exact q4
theorem first_core (x : Lkm) (p : Int) : (firstX x p).sh = x.sh ∧ (firstX x p).ho = x.ho ∧ (firstX x p).wt = x.wt ∧ (firstX x p).ld = x.ld ∧ (firstX x p).sl = x.sl ∧ (firstX x p).di = x.di := by
  unfold firstX; split <;> exact ⟨rfl, rfl, rfl, rfl, rfl, rfl⟩
theorem LkW.take {x : Lkm} (h : LkW x) (t p : Int) : LkW (takeX x t p) := by
  unfold takeX
  split
  · exact h
  · rename_i hE
    have hE0 : takeE x t p = 0 := by simpa using hE
    unfold takeE at hE0
    by_cases c : comesE x t p ≠ 0
    · rw [if_pos c] at hE0; exact absurd hE0 c
    · rw [if_neg c] at hE0
      have hc := comes_zero2 (by simpa using c)
      by_cases hf : freeO x p = true
      · obtain ⟨_, hh⟩ := free_cases h.toLkV hf
        have hv := h.toLkV
        obtain ⟨e1, e2, e3, e4, e5, e6⟩ := first_core x p
        refine LkW.settle ⟨?_, fun q => ?_⟩
        · have hno := holds_no hc.2.2.1
          have hwo := waits_no hc.2.2.2
          have key : LkV { x with ho := x.ho ++ [(⟨t, p, x.di⟩ : Hd)] } := by
            refine ⟨hv.wd, hv.w8, ?_, ?_, hv.wk, ?_, hv.wz, ?_, ?_, hv.l2, hv.l8⟩
            · show ((x.ho ++ [(⟨t, p, x.di⟩ : Hd)]).map (·.t)).Nodup
              rw [List.map_append, List.nodup_append]
              refine ⟨hv.hd, by simp, fun a ha b hb e => ?_⟩
              obtain ⟨g, hg, rfl⟩ := List.mem_map.1 ha
              simp only [List.map_cons, List.map_nil, List.mem_singleton] at hb
              exact hno g hg (e.trans hb)
            · intro w hw g hg
              rcases List.mem_append.1 hg with hg | hg
              · exact hv.dj w hw g hg
              · rw [List.mem_singleton.1 hg]; exact hwo w hw
            · intro g hg
              rcases List.mem_append.1 hg with hg | hg
              · exact hv.hk g hg
              · rw [List.mem_singleton.1 hg]; exact hc.1
            · intro hs
              show (x.ho ++ [_]).length ≤ 1
              rw [List.length_append]
              rcases hh with q | ⟨_, q, _⟩
              · simp [q]
              · rw [hs] at q; cases q
            · intro hs
              show (∀ g ∈ x.ho ++ [(⟨t, p, x.di⟩ : Hd)], g.p = 0) ∨ (x.ho ++ [(⟨t, p, x.di⟩ : Hd)]).length ≤ 1
              rcases hh with q | ⟨q1, _, _, q2⟩
              · right; rw [List.length_append, q]; simp
              · left; intro g hg
                rcases List.mem_append.1 hg with hg | hg
                · exact q2 g hg
                · rw [List.mem_singleton.1 hg]; exact q1
          exact key.core (by show (firstX x p).sh = _; rw [e1]) (by show (firstX x p).ho ++ [⟨t, p, (firstX x p).di⟩] = _; rw [e2, e6]) (by show (firstX x p).wt = _; rw [e3]) (by show (firstX x p).ld.l.length = _; rw [e4])
        · exfalso
          have : ((firstX x p).ho ++ [(⟨t, p, (firstX x p).di⟩ : Hd)]).length = 0 := q
          rw [List.length_append] at this; simp at this
      · rw [if_neg hf] at hE0; cases hE0
theorem LkW.wait {x : Lkm} (h : LkW x) (t p : Int) : LkW (waitX x t p) := by
  unfold waitX
  split
  · exact h
  · rename_i hE
    have hE0 : waitE x t p = 0 := by simpa using hE
    unfold waitE at hE0
    by_cases c : comesE x t p ≠ 0
    · rw [if_pos c] at hE0; exact absurd hE0 c
    · rw [if_neg c] at hE0
      have hc := comes_zero2 (by simpa using c)
      by_cases hf : freeO x p = true
      · rw [if_pos hf] at hE0; cases hE0
      · rw [if_neg hf] at hE0
        by_cases h8 : 8 ≤ x.wt.length
        · rw [if_pos h8] at hE0; cases hE0
        · have hv := h.toLkV
          have hno := holds_no hc.2.2.1
          have hwo := waits_no hc.2.2.2
          refine LkW.settle ⟨⟨wd_snoc hv.wd hwo, by show (x.wt ++ [_]).length ≤ 8; rw [List.length_append]; simp; omega, hv.hd, ?_, ?_, hv.hk, ?_, hv.ex, hv.rd, hv.l2, hv.l8⟩, fun q => ?_⟩
          · intro w hw g hg
            rcases List.mem_append.1 hw with hw | hw
            · exact hv.dj w hw g hg
            · rw [List.mem_singleton.1 hw]; exact fun e => hno g hg e.symm
          · intro w hw
            rcases List.mem_append.1 hw with hw | hw
            · exact hv.wk w hw
            · rw [List.mem_singleton.1 hw]; exact hc.1
          · intro w hw
            rcases List.mem_append.1 hw with hw | hw
            · exact hv.wz w hw
            · rw [List.mem_singleton.1 hw]
          · exfalso; apply hf
            unfold freeO
            rw [hc.1, decide_eq_true (show x.ho.length = 0 from q)]; rfl
theorem LkV.out {x : Lkm} (h : LkV x) (t : Int) : LkV (outX x t) := by
  have hsub : ∀ g ∈ (outX x t).ho, g ∈ x.ho := fun g hg => List.mem_of_mem_eraseIdx hg
  have hlen : (outX x t).ho.length ≤ x.ho.length := List.Sublist.length_le (List.eraseIdx_sublist _ _)
  refine ⟨h.wd, h.w8, ?_, fun w hw g hg => h.dj w hw g (hsub g hg), h.wk, fun g hg => h.hk g (hsub g hg), h.wz, fun hs => Nat.le_trans hlen (h.ex hs), fun hs => ?_, h.l2, h.l8⟩
  · exact List.Nodup.sublist (List.Sublist.map _ (List.eraseIdx_sublist _ _)) h.hd
  · rcases h.rd hs with q | q
    · exact .inl (fun g hg => q g (hsub g hg))
    · exact .inr (Nat.le_trans hlen q)
theorem LkW.unl {x : Lkm} (h : LkV x) (t : Int) (he : x.ho.length = 0 → x.wt.length = 0) : LkW (unlX x t) := by
  unfold unlX
  split
  · refine LkW.settle ?_
    split
    · rename_i h0; exact (h.out t).pass h0
    · rename_i h0; exact ⟨h.out t, fun q => absurd q h0⟩
  · exact ⟨h, he⟩
theorem LkV.gone {x : Lkm} (h : LkV x) (t : Int) : LkV (goneX x t) :=
  ⟨wd_rm h.wd t, Nat.le_trans (List.length_filter_le _ _) h.w8, h.hd, fun w hw => h.dj w (rm_mem.1 hw).1, fun w hw => h.wk w (rm_mem.1 hw).1, h.hk, fun w hw => h.wz w (rm_mem.1 hw).1, h.ex, h.rd, h.l2, h.l8⟩
theorem read_all {x : Lkm} (h : LkV x) (hr : readO x = true) : x.sh = true ∧ 0 < x.ho.length ∧ ∀ g ∈ x.ho, g.p = 0 := by
  unfold readO at hr
  simp only [Bool.and_eq_true, decide_eq_true_eq] at hr
  obtain ⟨q2, q3, q4⟩ := hr
  refine ⟨q2, q3, fun g hg => ?_⟩
  rcases h.rd q2 with r | r
  · exact r g hg
  · cases hx : x.ho with
    | nil => rw [hx] at hg; cases hg
    | cons a l =>
      rw [hx] at r q4 hg
      have : l = [] := List.eq_nil_of_length_eq_zero (by simp at r; simp [r])
      subst this
      rcases List.mem_singleton.1 hg with rfl
      exact q4
theorem LkW.lv {x : Lkm} (h : LkW x) (t : Int) : LkW (lvX x t) := by
  unfold lvX
  split
  · rename_i hw
    refine LkW.settle ?_
    have hg := h.toLkV.gone t
    have hne : x.ho.length ≠ 0 := fun q => by
      have := h.em q
      unfold waitsO at hw
      rw [List.eq_nil_of_length_eq_zero this] at hw; cases hw
    split
    · rename_i c
      have hr := read_all h.toLkV c.1
      refine ⟨hg.adm 0 8 (.inr ⟨hr.1, rfl, hr.2.2⟩), fun q => ?_⟩
      rw [admX_form] at q
      have q2 : (x.ho ++ _).length = 0 := q
      rw [List.length_append] at q2; omega
    · exact ⟨hg, fun q => absurd q hne⟩
  · exact h
theorem LkW.die {x : Lkm} (h : LkW x) (t : Int) : LkW (diX x t) := by
  unfold diX
  split
  · exact h.lv t
  · split
    · exact LkW.unl (x := { x with di := true }) (h.toLkV.core rfl rfl rfl rfl) t h.em
    · exact h
theorem LkW.chg {x : Lkm} (h : LkW x) (t : Int) : LkW (chgX x t) := by
  unfold chgX
  split
  · refine LkW.settle (h.core rfl rfl rfl ?_)
    show (x.ld.l.set _ _).length = _; rw [List.length_set]
  · exact h
theorem LkW.wei {x : Lkm} (h : LkW x) (g wt : Int) : LkW (weiX x g wt) := by
  unfold weiX
  split
  · refine LkW.settle (h.core rfl rfl rfl ?_)
    show (x.ld.l.set _ _).length = _; rw [List.length_set]
  · exact h
end Go.Eng
namespace Go.Eng
open Go Go.Proofs Go.RowKit
structure LDf where
  sh : Bool
  sl : Int
  cr : Int
  rd : Int
  wr : Int
deriving Inhabited
abbrev fLd (d : LDf) : List Value := [.bool d.sh, .int .i64 d.sl, .int .i64 d.cr, .int .i64 d.rd, .int .i64 d.wr]
def lkG (gs : List Int) : List Int := if (gs.take 4).length = 0 then [1] else gs.take 4
def lkWs (d : LDf) (gs : List Int) : List Int := if d.sh = true then [d.rd, d.wr] else lkG gs
def lkNew (d : LDf) (gs : List Int) : Lkm := ⟨d.sh, bringO d.sl 1 16, [], [], ⟨-1, 0⟩, ldNew (lkWs d gs) (bringO d.sl 1 16) d.cr, false⟩
def LkNew (d : LDf) (gs : List Int) (n0 : Nat) (v : Value) (m : Mem0) : Prop := ∃ b, v = .pointer (some ⟨b, 0, none⟩) ∧ LkM n0 0 b (lkNew d gs) [] m
theorem LkM.mono {n0 n1 T b : Nat} {x : Lkm} {od : List Int} {m : Mem0} (h : LkM n0 T b x od m) (hn : n1 ≤ n0) : LkM n1 T b x od m := by
  obtain ⟨adh, nh, caph, ado, nd, capo, bq, bl, mh, mo, mq, ml, rfl, hnh, hnd, hsh, hso, hTb, hLe, hb⟩ := h
  exact ⟨adh, nh, caph, ado, nd, capo, bq, bl, mh, mo, mq, ml, rfl, hnh, hnd, hsh.mono hn, hso.mono hn, hTb.mono hn, hLe.mono hn, Nat.le_trans hn hb⟩
theorem LkNew.mono {d : LDf} {gs : List Int} : ∀ (n n' : Nat) (v : Value) (m : Mem0), n' ≤ n → LkNew d gs n v m → LkNew d gs n' v m := fun n n' v m hn ⟨b, h1, h⟩ => ⟨b, h1, h.mono hn⟩
theorem lkWs_len (d : LDf) (gs : List Int) : 0 < (lkWs d gs).length ∧ (lkWs d gs).length ≤ 4 := by
  unfold lkWs lkG
  split
  · exact ⟨Nat.succ_pos _, by simp⟩
  · split
    · exact ⟨Nat.succ_pos _, by simp⟩
    · rw [List.length_take] at *; omega
theorem lkNew_w (d : LDf) (gs : List Int) : LkW (lkNew d gs) := by
  have hl := lkWs_len d gs
  refine ⟨⟨List.Pairwise.nil, Nat.zero_le _, List.nodup_nil, fun w hw => (by cases hw), fun w hw => (by cases hw), fun w hw => (by cases hw), fun w hw => (by cases hw), fun _ => Nat.zero_le _, fun _ => .inr (Nat.zero_le _), fun hs => ?_, ?_⟩, fun _ => rfl⟩
  · show (ldNew (lkWs d gs) _ _).l.length = 2
    rw [ldNew_len]; unfold lkWs; rw [if_pos (show d.sh = true from hs)]; rfl
  · show (ldNew (lkWs d gs) _ _).l.length ≤ 8
    rw [ldNew_len]; omega
def RdS (ws : List Int) (ad : Option Addr) (n cap : Nat) (m : Mem0) (w : World) : Prop := n = ws.length ∧ ∀ w', Mem w' m → Ext w w' → Sr fI 1 ws (.slice ad n cap) w'
theorem bring_mm (n lo hi : Int) (h : lo ≤ hi) : (if hi < (if n < lo then lo else n) then hi else (if n < lo then lo else n)) = bringO n lo hi := by
  unfold bringO; (repeat' split) <;> omega
theorem lknew_spec {gs : List Int} {ad : Option Addr} {n cap : Nat} (d : LDf) (w : World) (hn : n = gs.length) (hl : Sr fI 1 gs (.slice ad n cap) w) : Ret Tryz.prog 7 #[.agg (fLd d).toArray, .slice ad n cap] w (fun v w' => Ext w w' ∧ ∃ m, LkNew d gs w.heap.size v m ∧ Mem w' m ∧ ∀ p ∈ m, w.heap.size ≤ p.1) := by
 obtain ⟨k, hk, hkn⟩ : ∃ k : Nat, (if (4 : Int) < (n : Int) then (4 : Int) else (n : Int)) = (k : Int) ∧ k = min n 4 := ⟨min n 4, by by_cases q : (4 : Int) < n; rw [if_pos q]; omega; rw [if_neg q]; omega, rfl⟩; have hcl := hl.open.2.1
 refine Ret.enterM Tryz.func7 rfl Tryz.ntmps7 rfl ([]) (no) (Mem.nil w) ?_
 refine wR ?_
 refine LM.box rfl rfl (fun b2 hb2 => ?_)
 refine LM.as rfl <| nB [(1, _), (2, _)] <| LM.mv rfl <| LM.mv rfl <| LM.val (ov_len Tryz.underlying24 rfl) ?_
 refine LM.val (ov_min rfl rfl) ?_
 rw [hk]; have hsk := Sr.take (k := k) hl om; have hkl : (gs.take k).length = k := (by rw [List.length_take]; omega); have hg4 : gs.take 4 = gs.take k := (by rcases Nat.le_total gs.length 4 with q | q; rw [List.take_of_length_le q, List.take_of_length_le om]; rw [show k = 4 by omega])
 refine LM.val (ov_subHi Tryz.underlying24 Tryz.sizeOf3 rfl rfl om om) ?_
 try rw [Int.toNat_natCast]
 refine LM.as rfl <| nA [(2, _), (5, _)] <| wpM.seq <| wR <| LM.mv rfl <| LM.val (ov_len Tryz.underlying24 rfl) <| LM.val (ov_eql rfl rfl) <| nA [(2, _), (5, _), (14, _)] ?_
 refine wpM.joinK (α := Option Addr × Nat × Nat × Mem0) (fun ⟨ad5, n5, cap5, m5⟩ => [(5, .slice ad5 n5 cap5)]) [(2, _)] (fun ⟨ad5, n5, cap5, m5⟩ => (b2, .cells (Value.agg (fLd d).toArray).cells 23 (0, 0)) :: (m5 ++ [])) (fun ⟨ad5, n5, cap5, m5⟩ => RdS (lkG gs) ad5 n5 cap5 m5 w) ⟨rfl, trivial⟩ ?_ ?_
 ·
  refine wpM.condD rfl (fun h1 => ?_) (fun h1 => ?_)
  ·
   refine wpM.region ?_
   refine LM.single Tryz.underlying24 Tryz.sizeOf3 Tryz.zeroValue3 rfl rfl rfl rfl rfl (fun b15 hb15 => ?_)
   try rw [Int.toNat_natCast]
   refine LM.as rfl <| nC [(2, _), (5, _)] ?_
   refine QM.meetK (some ⟨b15, 0, none⟩, 1, 1, (b15, .cells #[.int .i64 1] 3 (0, 0)) :: []) ⟨au2, rfl, trivial⟩ au1 ?_
   · have e : lkG gs = [1] := if_pos (by rw [hg4, hkl]; omega); rw [e]; exact ⟨rfl, fun w' hm _ => Sr.row (hm.at b15) rfl rfl (by decide) ir⟩
  refine wpM.skip ?_
  refine QM.meetK (ad, k, cap, []) ⟨au2, rfl, trivial⟩ au1 ?_
  · have e : lkG gs = gs.take k := (by unfold lkG; rw [hg4, if_neg (by rw [hkl]; omega)]); rw [e]; exact ⟨hkl.symm, fun w' _ hx => hsk.ext hx⟩
 rintro ⟨ad5, n5, cap5, m5⟩ hR
 change QM _ _ _ _ _ ((b2, .cells (Value.agg (fLd d).toArray).cells 23 (0, 0)) :: (m5 ++ [])) _ _ _
 refine QM.then <| wpM.seq <| wR <| LM.val (ovf 4 rfl rfl rfl rfl) ?_
 refine LM.rd (oml rfl rfl rfl) ?_
 refine nA [(2, _), (5, _), (17, _)] ?_
 refine wpM.joinK (α := Option Addr × Nat × Nat × Mem0) (fun ⟨ad6, n6, cap6, m6⟩ => [(5, .slice ad6 n6 cap6)]) [(2, _)] (fun ⟨ad6, n6, cap6, m6⟩ => (b2, .cells (Value.agg (fLd d).toArray).cells 23 (0, 0)) :: (m6 ++ [])) (fun ⟨ad6, n6, cap6, m6⟩ => RdS (lkWs d gs) ad6 n6 cap6 m6 w) ⟨rfl, trivial⟩ ?_ ?_
 ·
  first | refine wpM.condD rfl (fun h2 => ?_) (fun h2 => ?_) | refine wpM.condB rfl (fun h2 => ?_) (fun h2 => ?_)
  ·
   refine wpM.region ?_
   refine LM.val (ovf 3 rfl rfl rfl rfl) ?_
   refine LM.rd (oml rfl rfl rfl) ?_
   refine LM.val (ovf 3 rfl rfl rfl rfl) ?_
   refine LM.rd (oml rfl rfl rfl) ?_
   refine LM.row (vs := [_, _]) Tryz.underlying24 Tryz.sizeOf3 Tryz.zeroValue3 rfl rfl rfl rfl rfl rfl (fun b22 hb22 => ?_)
   try rw [Int.toNat_natCast]
   refine LM.as rfl <| nC [(2, _), (5, _)] ?_
   refine QM.meetK (some ⟨b22, 0, none⟩, 2, 2, (b22, .cells #[.int .i64 d.rd, .int .i64 d.wr] 3 (0, 0)) :: []) ⟨au2, rfl, trivial⟩ au1 ?_
   · have e : lkWs d gs = [d.rd, d.wr] := if_pos h2; rw [e]; exact ⟨rfl, fun w' hm _ => Sr.row (hm.at b22) rfl rfl (by simp) ir⟩
  refine wpM.skip ?_
  refine QM.meetK (ad5, n5, cap5, m5) ⟨au2, rfl, trivial⟩ au1 ?_
  · have e : lkWs d gs = lkG gs := if_neg (by simpa using h2); rw [e]; exact hR
 rintro ⟨ad6, n6, cap6, m6⟩ hR6
 change QM _ _ _ _ _ ((b2, .cells (Value.agg (fLd d).toArray).cells 23 (0, 0)) :: (m6 ++ [])) _ _ _
 refine tR <| LM.val (ovf 3 rfl rfl rfl rfl) ?_
 refine LM.rd (oml rfl rfl rfl) ?_
 refine LM.val (ov_max rfl rfl) ?_
 refine LM.val (ov_min rfl rfl) ?_
 rw [bring_mm _ _ _ (by decide)]
 refine LM.as rfl <| nA [(2, _), (5, _), (6, _)] <| wpM.seq ?_
 refine wpM.draw [(0, 0), (1, 1), (2, 0), (4, 0), (5, 0), (6, 0), (7, 0), (8, 1), (3, 2), (9, 2), (10, 0), (11, 2), (12, 0)] kr kr ?_
 refine LD.val rfl rfl (ovf 4 rfl rfl rfl rfl) ?_
 refine LD.rd rfl rfl (oml rfl rfl rfl) ?_
 refine LD.val rfl rfl (ov_move rfl) ?_
 refine LD.val rfl rfl (ov_build (cs := #[.int .i64 (-1), .int .i64 0]) rfl kr) ?_
 refine LD.val rfl rfl (ov_move rfl) <| LD.val rfl rfl (ov_move rfl) <| LD.val rfl rfl (ovf 3 rfl rfl rfl rfl) ?_
 refine LD.rd rfl rfl (oml rfl rfl rfl) ?_
 refine LD.callT rfl rfl (oc_call (enters_fn Tryz.func34 kr rfl) rfl) TbN.mono (fun w hm hc hg => tnew_spec 4 8 8 w) ?_
 rintro u30 m30 ⟨b30, rfl, h30⟩ hge30
 refine LD.callT rfl rfl (oc_call (enters_fn Tryz.func35 kr rfl) rfl) LeN.mono (fun w hm hc hg => lenew_spec (bringO d.sl 1 16) d.cr w hR6.1 (hR6.2 w (hm.pick m6) hc)) ?_
 rintro u36 m36 ⟨b36, rfl, h36⟩ hge36
 refine LD.val rfl rfl (ov_build (cs := #[.bool d.sh, .int .i64 (bringO d.sl 1 16), .slice none 0 0, .pointer (some ⟨b30, 0, none⟩), .slice none 0 0, .int .i64 (-1), .int .i64 0, .pointer (some ⟨b36, 0, none⟩), .bool false]) rfl kr) ?_
 refine LD.box rfl rfl rfl rfl (fun b38 hb38 => ?_)
 refine LD.val rfl rfl (ov_assign rfl) <| LD.nil ?_
 refine QM.sub (e' := [(4, _)]) ⟨rfl, trivial⟩ (QM.then ?_)
 refine wpM.ret ?_
 refine qL Tryz.results7 rfl fun w' hm' hc' hg' => ?_
 have hL : LkM w.heap.size 0 b38 (lkNew d gs) [] (lkC b38 d.sh (bringO d.sl 1 16) none 0 0 b30 none 0 0 ⟨-1, 0⟩ b36 false :: ([] ++ ([] ++ (m30 ++ m36)))) := ⟨none, 0, 0, none, 0, 0, b30, b36, [], [], m30, m36, rfl, rfl, rfl, Sl.nil _ _ _ _, Sl.nil _ _ _ _, h30, h36, hb38⟩; exact ⟨hc', _, ⟨b38, rfl, hL⟩, (by have h9 := SubM.mem (M' := lkC b38 d.sh (bringO d.sl 1 16) none 0 0 b30 none 0 0 ⟨-1, 0⟩ b36 false :: (m30 ++ (m36 ++ []))) au1 w' hm'; rw [List.append_nil] at h9; exact h9), hL.ge⟩
abbrev lF (c : Nat) (g : Option Addr) : Nat × Obj := (c, .cells #[.pointer g] 27 (0, 0))
def WtrT (g : Option Addr) (n0 : Nat) (v : Value) (m : Mem0) : Prop := ∃ c1, v = .func (.func 84) #[] #[.pointer (some ⟨c1, 0, none⟩)] ∧ m = [lF c1 g] ∧ n0 ≤ c1
theorem WtrT.mono {g : Option Addr} : ∀ (k k' : Nat) u m, k' ≤ k → WtrT g k u m → WtrT g k' u m := fun k k' u m h ⟨b1, h1, h2, h3⟩ => ⟨b1, h1, h2, by omega⟩
def wtA (L : List Wt) : List (Array Value) := L.map (fun w => #[.int .i64 w.who, .int .i64 w.key])
theorem wtA_len (L : List Wt) : (wtA L).length = L.length := by simp [wtA]
theorem who_getD {L : List Wt} {i : Nat} (hi : i < L.length) : (L.map (·.who)).getD i 0 = (L.getD i default).who := by
  rw [List.getD_eq_getElem?_getD, List.getD_eq_getElem?_getD, List.getElem?_map, List.getElem?_eq_getElem hi]; rfl
theorem wtA_get {L : List Wt} {i : Nat} (hi : i < L.length) : (wtA L)[i]? = some #[.int .i64 ((L.map (·.who)).getD i 0), .int .i64 (L.getD i default).key] := by
  rw [who_getD hi]
  unfold wtA
  rw [List.getElem?_map, List.getElem?_eq_getElem hi, List.getD_eq_getElem?_getD, List.getElem?_eq_getElem hi]; rfl
theorem wtA_inv {L : List Wt} {k : Nat} {av : Array Value} (h : (wtA L)[k]? = some av) : k < L.length ∧ av = #[.int .i64 (L.getD k default).who, .int .i64 (L.getD k default).key] := by
  have hk : k < L.length := by have := (List.getElem?_eq_some_iff.1 h).1; rwa [wtA_len] at this
  rw [wtA_get hk, who_getD hk] at h
  exact ⟨hk, (Option.some.inj h).symm⟩
theorem twho_at {most each : Int} {n0 T b i : Nat} {L : List Wt} {m : Mem0} (w : World) (h : TbM most each n0 T L b m) (hi : i < L.length) (hM : Mem w m) :
    Ret Tryz.prog 86 #[.pointer (some ⟨b, 0, none⟩), .int .i64 ((L.map (·.who)).getD i 0)] w (fun u w' => u = .tuple #[.agg (fWt (L.getD i default)).toArray, .bool true] ∧ Ext w w') := by
  have h1 := twho_any ((L.map (·.who)).getD i 0) w h hM
  rw [fW_at h.lim.2.2.2 hi] at h1
  have h2 : hasW L ((L.map (·.who)).getD i 0) = true := by
    unfold hasW; rw [List.any_eq_true, who_getD hi]
    refine ⟨L.getD i default, ?_, by simp⟩
    rw [List.getD_eq_getElem?_getD, List.getElem?_eq_getElem hi]; exact List.getElem_mem hi
  rw [h2] at h1
  exact h1
theorem lkWtr_spec (g : Option Addr) (w : World) : Ret Tryz.prog 36 #[.pointer g] w (fun v w' => Ext w w' ∧ ∃ m, WtrT g w.heap.size v m ∧ Mem w' m ∧ ∀ p ∈ m, w.heap.size ≤ p.1) := by
 refine Ret.enterM Tryz.func36 rfl Tryz.ntmps36 rfl ([]) (no) (Mem.nil w) ?_
 refine wR ?_
 refine LM.box rfl rfl (fun b1 hb1 => ?_)
 refine LM.as rfl <| nB [(1, _)] ?_
 refine LM.val (ov_makeFunc rfl) ?_
 refine LM.as rfl <| nA [(2, _)] <| wpM.ret ?_
 refine qL Tryz.results36 rfl fun w' hm' hc' hg' => ?_
 exact ⟨hc', _, ⟨b1, rfl, rfl, hb1⟩, SubM.mem au1 _ hm', fun p hp => by simp only [List.mem_cons, List.not_mem_nil, or_false] at hp; subst hp; assumption⟩
theorem lkWtr_seq {n0' T b c1 : Nat} {x : Lkm} {m : Mem0} (h : LkM n0' T b x (x.wt.map (·.who)) m) : SeqCP Tryz.prog 84 #[.pointer (some ⟨c1, 0, none⟩)] (wtA x.wt) (fun w => Mem w (lF c1 (some ⟨b, 0, none⟩) :: m)) (True) := by
 obtain ⟨adh, nh, caph, ado, nd, capo, bq, bl, mh, mo, mq, ml, rfl, hnh, hnd, hsh, hso, hTb, hLe, hb⟩ := h; have hxl := hTb.lim.2.2.1; have hol : (x.wt.map (·.who)).length = x.wt.length := List.length_map ..
 refine SeqCP.enter (lb := [.pointer (some ⟨c1, 0, none⟩)]) Tryz.func84 rfl Tryz.ntmps84 rfl ?_
 intro l0 n0 J Jx w0 hn0 hfin hJr hL hy
 refine wpM.openJ (n := n0) (fun wj1 hmj1 hCj1 hjj1 hkj1 => ?_)
 refine wpM.seq <| wR ?_
 refine LM.rdC (fun w hm hc hg => om_ld (M := lF c1 (some ⟨b, 0, none⟩) :: lkM0 b x adh nh caph bq ado nd capo bl mh mo mq ml) Tryz.isAgg27 rfl rfl w ((hL.rd hJr hjj1 hc))) ?_
 refine LM.val (ov_peql kr rfl rfl) ?_
 refine nA [(0, _), (1, _), (8, _)] ?_
 refine wpM.condF rfl ?_
 refine wpM.skip <| tR ?_
 refine LM.rdC (fun w hm hc hg => om_ld (M := lF c1 (some ⟨b, 0, none⟩) :: lkM0 b x adh nh caph bq ado nd capo bl mh mo mq ml) Tryz.isAgg27 rfl rfl w ((hL.rd hJr hjj1 hc))) ?_
 refine LM.nc rfl <| LM.val (ovf 24 rfl rfl rfl rfl) ?_
 refine LM.rdC (fun w hm hc hg => om_ld (M := lF c1 (some ⟨b, 0, none⟩) :: lkM0 b x adh nh caph bq ado nd capo bl mh mo mq ml) Tryz.isAgg24 rfl rfl w ((hL.rd hJr hjj1 hc))) ?_
 refine LM.cS (oc_call (enters_fn Tryz.func85 kr rfl) rfl) (fun w hm hc hg => cloneI_spec w hnd (hso.srM ir (M := lF c1 (some ⟨b, 0, none⟩) :: lkM0 b x adh nh caph bq ado nd capo bl mh mo mq ml) ((hL.rd hJr hjj1 hc))) om) (fun ad13 n13 cap13 m13 hn13 hs13 => ?_)
 refine LM.val (ov_len Tryz.underlying24 rfl) <| LM.mv rfl <| nA [(0, _), (1, _), (13, _), (14, _), (15, _)] <| wpM.block ?_
 refine wpM.closeJ hL hCj1 hjj1 hkj1 (kk_top _) (((fun i => m13 ++ []) : Nat → Mem0) (0)) (SubM.mem (by (try dsimp only); (repeat' (first | exact SubM.nil _ | refine SubM.cons rfl ?_ | refine SubM.app ?_)))) (by (try dsimp only); (repeat' (first | exact pn_nil | exact (fun p hp => ⟨.inl (hs13.ge p hp), hs13.wlk p hp⟩) | exact (fun p hp => ⟨.inr ⟨p, by simp [hp], rfl⟩, hs13.wlk p hp⟩) | refine pn_cons (by first | (left; omega) | (right; simp; done)) rfl ?_ | refine pn_app ?_ ?_))) ?_
 refine wpM.loopK (α := Nat) (fun i => [(15, .int .i64 (i : Nat))]) [(0, _), (1, _), (13, _), (14, _)] (fun i => m13 ++ []) (fun i => (fun w => J (i) (m13 ++ []) w ∧ top w)) (fun i => i ≤ n13) (fun i => n13 - i) (0) ⟨au2, rfl, rfl, rfl, rfl, trivial⟩ au1 (fun _ h => h) (Nat.zero_le _) ?_
 rintro i hi
 change wpM _ _ _ _ _ _ _ (m13 ++ []) _ _ _
 refine wpM.openJ (n := n0) (fun wj2 hmj2 hCj2 hjj2 hkj2 => ?_)
 refine wR <| LM.val (ov_lss rfl rfl) <| nA [(0, _), (1, _), (13, _), (14, _), (15, _), (16, _)] <| wpM.seq ?_
 refine wpM.condD rfl (fun h1 => ?_) (fun h1 => ?_)
 ·
  refine wpM.skip <| QM.then <| wpM.seq <| wpM.block <| wR ?_
  refine LM.val (ov_idxSN au6 Tryz.underlying24 Tryz.sizeOf3 rfl rfl om) ?_
  refine LM.rd (om_sl1 asm ir Tryz.isAgg3 rfl rfl (by exact getq 0 au4) (by rfl)) ?_
  refine LM.as rfl <| nB [(0, _), (1, _), (4, _), (13, _), (14, _), (15, _)] ?_
  refine LM.rdC (fun w hm hc hg => om_ld (M := lF c1 (some ⟨b, 0, none⟩) :: lkM0 b x adh nh caph bq ado nd capo bl mh mo mq ml) Tryz.isAgg27 rfl rfl w ((hL.rd hJr hjj2 hc))) ?_
  refine LM.nc rfl <| LM.val (ovf 66 rfl rfl rfl rfl) ?_
  refine LM.rdC (fun w hm hc hg => om_ld (M := lF c1 (some ⟨b, 0, none⟩) :: lkM0 b x adh nh caph bq ado nd capo bl mh mo mq ml) Tryz.isAgg66 rfl rfl w ((hL.rd hJr hjj2 hc))) ?_
  refine LM.mv rfl ?_
  refine cE Tryz.func86 rfl (fun w hm hc hg => twho_at w hTb om (Mem.pick (M := lF c1 (some ⟨b, 0, none⟩) :: lkM0 b x adh nh caph bq ado nd capo bl mh mo mq ml) ((hL.rd hJr hjj2 hc)) mq)) ?_
  refine LM.mv rfl <| LM.val (ov_extract rfl rfl) <| LM.val (ov_extract rfl rfl) ?_
  refine LM.alloc Tryz.zeroValue85 rfl (fun b5 hb5 => ?_)
  refine LM.stW Tryz.sizeOf85 rfl rfl rfl rfl au7 (fun hlt => by first | exact absurd hlt om | (simp [inM]; done)) ?_
  refine LM.as rfl <| nB [(0, _), (1, _), (4, _), (5, _), (6, _), (13, _), (14, _), (15, _)] <| LM.mv rfl <| LM.mv rfl ?_
  first | refine LM.splitD (t := 29) rfl (fun h2 => ?_) (fun h2 => ?_) | refine LM.splitB (t := 29) rfl (fun h2 => ?_) (fun h2 => ?_)
  ·
   refine LM.sp 29 rfl rfl rfl <| LM.mv rfl <| LM.sp 29 rfl rfl rfl <| LM.mv rfl <| LM.sp 29 rfl rfl rfl <| LM.val (ovf 3 rfl rfl rfl rfl) <| LM.sp 29 rfl rfl rfl ?_
   refine LM.rd (oml rfl rfl rfl) ?_
   refine LM.sp 29 rfl rfl rfl ?_
   refine LM.yieldJ (n := n0) (k := i) hL rfl rfl (fun m w hj => hy (i) _ m w (wtA_get om) hj) hCj2 hjj2 hkj2 (kk_top _) ([]) (m13 ++ []) (m13 ++ []) (by simp only [List.append_assoc, List.cons_append, List.nil_append]) (SubM.mem au1) (by (repeat' (first | exact pn_nil | refine lo_cons om rfl ?_ | refine lo_dm (by intro D hD; first | (have := hds1 D hD; omega) | (have := hds2 D hD; omega)) ?_))) (by (try dsimp only); (repeat' (first | exact pn_nil | exact (fun p hp => ⟨.inl (hs13.ge p hp), hs13.wlk p hp⟩) | exact (fun p hp => ⟨.inr ⟨p, by simp [hp], rfl⟩, hs13.wlk p hp⟩) | refine pn_cons (by first | (left; omega) | (right; simp; done)) rfl ?_ | refine pn_app ?_ ?_))) (fun wj3 hmj3 hCj3 hjj3 hkj3 => ?_) (fun wj3 hmj3 hCj3 hjj3 hkj3 => ?_)
   ·
    change LM _ _ _ _ _ _ _ _ (m13 ++ []) _ _ _
    refine LM.sp 29 rfl rfl rfl ?_
    first | refine LM.val (ov_notD rfl) ?_ | refine LM.val (ov_not rfl) ?_
    refine LM.val (ov_pickT rfl rfl) <| nA [(0, _), (1, _), (13, _), (14, _), (15, _), (36, _)] ?_
    refine wpM.condF rfl ?_
    refine wpM.skip <| QM.block_normal ?_
    refine QM.then (wpM.region ?_)
    refine LM.val (ov_add64 rfl rfl om) ?_
    refine LM.mv rfl <| nC [(0, _), (1, _), (13, _), (14, _), (15, _)] ?_
    refine QM.closeJ hL hCj3 hjj3 hkj3 (kk_top _) (((fun i => m13 ++ []) : Nat → Mem0) (i + 1)) (SubM.mem (by (try dsimp only); (repeat' (first | exact SubM.nil _ | refine SubM.cons rfl ?_ | refine SubM.app ?_)))) (by (try dsimp only); (repeat' (first | exact pn_nil | exact (fun p hp => ⟨.inl (hs13.ge p hp), hs13.wlk p hp⟩) | exact (fun p hp => ⟨.inr ⟨p, by simp [hp], rfl⟩, hs13.wlk p hp⟩) | refine pn_cons (by first | (left; omega) | (right; simp; done)) rfl ?_ | refine pn_app ?_ ?_))) ?_
    refine QM.againK (i + 1) ⟨au2, rfl, rfl, rfl, rfl, trivial⟩ au1 (fun _ h => h) ?_ ?_
    · omega
    · omega
   change LM _ _ _ _ _ _ _ _ ([]) _ _ _
   refine LM.sp 29 rfl rfl rfl ?_
   first | refine LM.val (ov_notD rfl) ?_ | refine LM.val (ov_not rfl) ?_
   refine LM.val (ov_pickT rfl rfl) <| nA [(0, _), (1, _), (13, _), (14, _), (15, _), (36, _)] ?_
   refine wpM.condT rfl ?_
   refine wpM.ret <| QM.block_ret <| QM.then_ret <| QM.then_ret <| QM.block_ret ?_
   refine QM.closeX hL hCj3 hjj3 hkj3 (kk_top _) ?_
   refine QM.leaveDJ (ds := ([])) (.inl rfl) [] Tryz.results84 rfl hn0 hd_nil (gl_x hL (Nat.le_refl _) (gl_top _)) ?_
   intro w' hm' hg'
   exact .inr hg'.1
  cases h2
 refine wpM.exit <| QM.then_exit <| QM.then_exit <| QM.block_hit ?_
 refine QM.closeJ hL hCj2 hjj2 hkj2 (kk_top _) ([]) (SubM.mem (by (try dsimp only); (repeat' (first | exact SubM.nil _ | refine SubM.cons rfl ?_ | refine SubM.app ?_)))) (by (try dsimp only); (repeat' (first | exact pn_nil | exact (fun p hp => ⟨.inl (hs13.ge p hp), hs13.wlk p hp⟩) | exact (fun p hp => ⟨.inr ⟨p, by simp [hp], rfl⟩, hs13.wlk p hp⟩) | refine pn_cons (by first | (left; omega) | (right; simp; done)) rfl ?_ | refine pn_app ?_ ?_))) ?_
 refine QM.leaveDJ (ds := ([])) (.inr rfl) [] Tryz.results84 rfl hn0 hd_nil (gl_j hL (Nat.le_refl _) (gl_top _)) ?_
 intro w' hm' hg'
 have hil : i = x.wt.length := om; subst hil; exact .inl (by rw [wtA_len]; exact hg'.1)
abbrev rkC (b : Nat) (sh : Bool) (sl : Int) (adh : Option Addr) (nh caph : Nat) (adw : Option Addr) (nw capw : Nat) (tr : Trn) (bl : Nat) (di : Bool) : Nat × Obj := (b, .cells #[.bool sh, .int .i64 sl, .slice adh nh caph, .slice adw nw capw, .int .i64 tr.p, .int .i64 tr.u, .pointer (some ⟨bl, 0, none⟩), .bool di] 79 (0, 0))
abbrev rkM0 (b : Nat) (x : Lkm) (adh : Option Addr) (nh caph : Nat) (adw : Option Addr) (nw capw bl : Nat) (mh mw ml : Mem0) : Mem0 := rkC b x.sh x.sl adh nh caph adw nw capw x.tr bl x.di :: (mh ++ (mw ++ ml))
def RkM (n0 b : Nat) (x : Lkm) (wa : List Hd) (m : Mem0) : Prop := ∃ (adh : Option Addr) (nh caph : Nat) (adw : Option Addr) (nw capw bl : Nat) (mh mw ml : Mem0), m = rkM0 b x adh nh caph adw nw capw bl mh mw ml ∧ nh = x.ho.length ∧ nw = wa.length ∧ Sl fHd 59 3 n0 x.ho (.slice adh nh caph) mh ∧ Sl fHd 59 3 n0 wa (.slice adw nw capw) mw ∧ RdM n0 bl x.ld ml ∧ n0 ≤ b
def whd (w : Wt) : Hd := ⟨w.who, w.key, false⟩
theorem RkM.ge {n0 b : Nat} {x : Lkm} {wa : List Hd} {m : Mem0} (h : RkM n0 b x wa m) : ∀ p ∈ m, n0 ≤ p.1 := by
  obtain ⟨adh, nh, caph, adw, nw, capw, bl, mh, mw, ml, rfl, hnh, hnw, hsh, hsw, hLe, hb⟩ := h
  intro p hp
  rcases List.mem_cons.1 hp with rfl | hp
  · exact hb
  · rcases List.mem_append.1 hp with hp | hp
    · exact hsh.ge p hp
    · rcases List.mem_append.1 hp with hp | hp
      · exact hsw.ge p hp
      · exact hLe.ge p hp
theorem RkM.wlk {n0 b : Nat} {x : Lkm} {wa : List Hd} {m : Mem0} (h : RkM n0 b x wa m) : ∀ p ∈ m, wlk p.2 = false := by
  obtain ⟨adh, nh, caph, adw, nw, capw, bl, mh, mw, ml, rfl, hnh, hnw, hsh, hsw, hLe, hb⟩ := h
  exact fun p hp => by
    rcases List.mem_cons.1 hp with rfl | hp
    · rfl
    · rcases List.mem_append.1 hp with hp | hp
      · exact hsh.wlk p hp
      · rcases List.mem_append.1 hp with hp | hp
        · exact hsw.wlk p hp
        · exact hLe.wlk p hp
theorem RkM.mono {n0 n1 b : Nat} {x : Lkm} {wa : List Hd} {m : Mem0} (h : RkM n0 b x wa m) (hn : n1 ≤ n0) : RkM n1 b x wa m := by
  obtain ⟨adh, nh, caph, adw, nw, capw, bl, mh, mw, ml, rfl, hnh, hnw, hsh, hsw, hLe, hb⟩ := h
  exact ⟨adh, nh, caph, adw, nw, capw, bl, mh, mw, ml, rfl, hnh, hnw, hsh.mono hn, hsw.mono hn, hLe.mono hn, Nat.le_trans hn hb⟩
theorem hatO_hit {l : List Hd} {t : Int} {i : Nat} (ha : (l.take i).any (fun h => decide (h.t = t)) = false) (hi : i < l.length) (he : (l.getD i default).t = t) : hatO l t = (i : Nat) := by
  unfold hatO; rw [fix_hit default ha hi (decide_eq_true he)]
theorem rkat_spec {xs : List Hd} {ad : Option Addr} {n cap : Nat} (task : Int) (w : World) (hn : n = xs.length) (hl : Sr fHd 3 xs (.slice ad n cap) w) (hx : xs.length ≤ maxLen) : Ret Tryz.prog 52 #[.slice ad n cap, .int .i64 task] w (fun v w' => v = .int .i64 (hatO xs task) ∧ Ext w w') := by
 have hx2 : maxLen = 9223372036854775807 := (by unfold maxLen; rfl)
 refine Ret.enterM Tryz.func52 rfl Tryz.ntmps52 rfl ([]) (no) (Mem.nil w) ?_
 refine wR <| LM.as rfl <| nA [(0, _), (1, _)] <| wpM.seq <| wR <| LM.as rfl <| nA [(0, _), (1, _), (5, _)] <| wpM.block ?_
 refine wpM.loopK0 (α := Nat) (fun i => [(5, .int .i64 (i : Nat))]) [(0, _), (1, _)] (fun i => []) (fun i => i ≤ xs.length ∧ (xs.take i).any (fun h => decide (h.t = task)) = false) (fun i => xs.length - i) (0) ⟨au2, rfl, rfl, trivial⟩ au1 ⟨Nat.zero_le _, rfl⟩ ?_
 rintro i ⟨hi, ha⟩
 change wpM _ _ _ _ _ _ _ ([]) _ _ _
 refine wpM.seq <| wR <| LM.mv rfl <| LM.mv rfl <| LM.val (ov_len Tryz.underlying56 rfl) <| LM.val (ov_lss rfl rfl) <| nA [(0, _), (1, _), (5, _), (9, _)] ?_
 refine wpM.condD rfl (fun h1 => ?_) (fun h1 => ?_)
 ·
  refine wpM.skip <| QM.then <| wpM.seq <| wpM.block <| wR <| LM.mv rfl <| LM.mv rfl ?_
  refine LM.val (ov_idxSN au6 Tryz.underlying56 Tryz.sizeOf59 rfl rfl om) ?_
  refine LM.val (ovf 3 rfl rfl rfl rfl) ?_
  first | refine LM.rd (om_slE (j := 0) asm ir Tryz.isAgg3 rfl rfl au3 rfl (by rfl)) ?_ | refine LM.rdC (om_srE (j := 0) asm Tryz.isAgg3 rfl rfl au3 (by rfl) (by rfl) id) ?_ | refine LM.rd (oml rfl rfl rfl) ?_
  refine LM.mv rfl <| LM.val (ov_eql rfl rfl) <| nA [(0, _), (1, _), (5, _), (18, _)] ?_
  refine wpM.condD rfl (fun h2 => ?_) (fun h2 => ?_)
  ·
   refine wR <| LM.mv rfl <| LM.as rfl <| nA [(4, _)] <| wpM.ret <| QM.block_ret <| QM.then_ret <| QM.then_ret <| QM.block_ret <| QM.then_ret ?_
   refine qL Tryz.results52 rfl fun w' hm' hc' hg' => ?_
   exact ⟨by show Value.int .i64 _ = _; rw [hatO_hit ha om h2], hc'⟩
  refine wpM.skip <| QM.block_normal ?_
  refine QM.then (wpM.region ?_)
  refine LM.mv rfl ?_
  refine LM.val (ov_add64 rfl rfl om) ?_
  refine LM.as rfl <| nC [(0, _), (1, _), (5, _)] ?_
  refine QM.againK (i + 1) ⟨au2, rfl, rfl, trivial⟩ au1 (fun _ h => h) ?_ ?_
  · exact ⟨by omega, by rw [any_snoc default om, ha, Bool.false_or]; exact decide_eq_false h2⟩
  · omega
 refine wpM.exit <| QM.then_exit <| QM.then_exit <| QM.block_hit <| tR <| LM.as rfl <| nA [(4, _)] <| wpM.ret ?_
 refine qL Tryz.results52 rfl fun w' hm' hc' hg' => ?_
 have hil : i = xs.length := om; subst hil; rw [List.take_length] at ha; exact ⟨by show Value.int .i64 _ = _; unfold hatO; rw [fix_miss ha], hc'⟩
theorem rhasp_spec {xs : List Hd} {ad : Option Addr} {n cap : Nat} (p : Int) (w : World) (hn : n = xs.length) (hl : Sr fHd 3 xs (.slice ad n cap) w) (hx : xs.length ≤ maxLen) : Ret Tryz.prog 73 #[.slice ad n cap, .int .i64 p] w (fun v w' => v = .bool (xs.any (fun h => decide (h.p = p))) ∧ Ext w w') := by
 have hx2 : maxLen = 9223372036854775807 := (by unfold maxLen; rfl)
 refine Ret.enterM Tryz.func73 rfl Tryz.ntmps73 rfl ([]) (no) (Mem.nil w) ?_
 refine wR <| LM.as rfl <| nA [(0, _), (1, _)] <| wpM.seq <| wR <| LM.as rfl <| nA [(0, _), (1, _), (5, _)] <| wpM.block ?_
 refine wpM.loopK0 (α := Nat) (fun i => [(5, .int .i64 (i : Nat))]) [(0, _), (1, _)] (fun i => []) (fun i => i ≤ xs.length ∧ (xs.take i).any (fun h => decide (h.p = p)) = false) (fun i => xs.length - i) (0) ⟨au2, rfl, rfl, trivial⟩ au1 ⟨Nat.zero_le _, rfl⟩ ?_
 rintro i ⟨hi, ha⟩
 change wpM _ _ _ _ _ _ _ ([]) _ _ _
 refine wpM.seq <| wR <| LM.mv rfl <| LM.mv rfl <| LM.val (ov_len Tryz.underlying56 rfl) <| LM.val (ov_lss rfl rfl) <| nA [(0, _), (1, _), (5, _), (9, _)] ?_
 refine wpM.condD rfl (fun h1 => ?_) (fun h1 => ?_)
 ·
  refine wpM.skip <| QM.then <| wpM.seq <| wpM.block <| wR <| LM.mv rfl <| LM.mv rfl ?_
  refine LM.val (ov_idxSN au6 Tryz.underlying56 Tryz.sizeOf59 rfl rfl om) ?_
  refine LM.val (ovf 3 rfl rfl rfl rfl) ?_
  first | refine LM.rd (om_slE (j := 1) asm ir Tryz.isAgg3 rfl rfl au3 rfl (by rfl)) ?_ | refine LM.rdC (om_srE (j := 1) asm Tryz.isAgg3 rfl rfl au3 (by rfl) (by rfl) id) ?_ | refine LM.rd (oml rfl rfl rfl) ?_
  refine LM.mv rfl <| LM.val (ov_eql rfl rfl) <| nA [(0, _), (1, _), (5, _), (18, _)] ?_
  refine wpM.condD rfl (fun h2 => ?_) (fun h2 => ?_)
  ·
   refine wR <| LM.as rfl <| nA [(4, _)] <| wpM.ret <| QM.block_ret <| QM.then_ret <| QM.then_ret <| QM.block_ret <| QM.then_ret ?_
   refine qL Tryz.results73 rfl fun w' hm' hc' hg' => ?_
   refine ⟨?_, hc'⟩; show Value.bool true = _; congr 1; symm; rw [List.any_eq_true]; exact ⟨xs.getD i default, by rw [List.getD_eq_getElem?_getD, List.getElem?_eq_getElem om]; exact List.getElem_mem _, decide_eq_true h2⟩
  refine wpM.skip <| QM.block_normal ?_
  refine QM.then (wpM.region ?_)
  refine LM.mv rfl ?_
  refine LM.val (ov_add64 rfl rfl om) ?_
  refine LM.as rfl <| nC [(0, _), (1, _), (5, _)] ?_
  refine QM.againK (i + 1) ⟨au2, rfl, rfl, trivial⟩ au1 (fun _ h => h) ?_ ?_
  · exact ⟨by omega, by rw [any_snoc default om, ha, Bool.false_or]; exact decide_eq_false h2⟩
  · omega
 refine wpM.exit <| QM.then_exit <| QM.then_exit <| QM.block_hit <| tR <| LM.as rfl <| nA [(4, _)] <| wpM.ret ?_
 refine qL Tryz.results73 rfl fun w' hm' hc' hg' => ?_
 have hil : i = xs.length := om; subst hil; rw [List.take_length] at ha; exact ⟨by rw [ha]; rfl, hc'⟩
theorem rset_spec {xs : List Hd} {ad : Option Addr} {n cap : Nat} (s : BitVec 64) (w : World) (hn : n = xs.length) (hl : Sr fHd 3 xs (.slice ad n cap) w) (hx : xs.length ≤ maxLen) : Ret Tryz.prog 92 #[U s, .slice ad n cap] w (fun v w' => v = U ((xs.map (·.p)).foldl withS s) ∧ Ext w w') := by
 have hx2 : maxLen = 9223372036854775807 := (by unfold maxLen; rfl)
 refine Ret.enterM Tryz.func92 rfl Tryz.ntmps92 rfl ([]) (no) (Mem.nil w) ?_
 refine wR <| LM.as rfl <| nA [(0, _), (1, _)] <| wpM.seq <| wR <| LM.as rfl <| nA [(0, _), (1, _), (5, _)] <| wpM.block ?_
 refine wpM.loopK0 (α := Nat) (fun i => [(0, U (((xs.take i).map (·.p)).foldl withS s)), (5, .int .i64 (i : Nat))]) [(1, _)] (fun i => []) (fun i => i ≤ xs.length) (fun i => xs.length - i) (0) ⟨(by first | exact lk rfl (by rw [List.take_zero]; rfl) | exact lk rfl (by rw [map_take_snoc default om, List.foldl_append]; rfl)), au2, rfl, trivial⟩ au1 (Nat.zero_le _) ?_
 rintro i hi
 change wpM _ _ _ _ _ _ _ ([]) _ _ _
 refine wpM.seq <| wR <| LM.mv rfl <| LM.mv rfl <| LM.val (ov_len Tryz.underlying56 rfl) <| LM.val (ov_lss rfl rfl) <| nA [(0, _), (1, _), (5, _), (9, _)] ?_
 refine wpM.condD rfl (fun h1 => ?_) (fun h1 => ?_)
 ·
  refine wpM.skip <| QM.then <| wpM.seq <| wpM.block ?_
  refine wpM.region ?_
  refine LM.mv rfl <| LM.mv rfl <| LM.mv rfl ?_
  refine LM.val (ov_idxSN au6 Tryz.underlying56 Tryz.sizeOf59 rfl rfl om) ?_
  refine LM.val (ovf 3 rfl rfl rfl rfl) ?_
  first | refine LM.rd (om_slE (j := 1) asm ir Tryz.isAgg3 rfl rfl au3 rfl (by rfl)) ?_ | refine LM.rdC (om_srE (j := 1) asm Tryz.isAgg3 rfl rfl au3 (by rfl) (by rfl) id) ?_ | refine LM.rd (oml rfl rfl rfl) ?_
  refine cE Tryz.func129 rfl (fun w hm hc hg => rwith_spec _ _ w) ?_
  refine LM.as rfl <| nC [(0, _), (1, _), (5, _)] <| QM.block_normal ?_
  refine QM.then (wpM.region ?_)
  refine LM.mv rfl ?_
  refine LM.val (ov_add64 rfl rfl om) ?_
  refine LM.as rfl <| nC [(0, _), (1, _), (5, _)] ?_
  refine QM.againK (i + 1) ⟨(by first | exact lk rfl (by rw [List.take_zero]; rfl) | exact lk rfl (by rw [map_take_snoc default om, List.foldl_append]; rfl)), au2, rfl, trivial⟩ au1 (fun _ h => h) ?_ ?_
  · omega
  · omega
 refine wpM.exit <| QM.then_exit <| QM.then_exit <| QM.block_hit <| tR <| LM.mv rfl <| LM.as rfl <| nA [(4, _)] <| wpM.ret ?_
 refine qL Tryz.results92 rfl fun w' hm' hc' hg' => ?_
 have hil : i = xs.length := om; subst hil; rw [List.take_length]; exact ⟨rfl, hc'⟩
theorem rdrop_spec {xs : List Hd} {ad : Option Addr} {n cap : Nat} (i : Nat) (w : World) (hn : n = xs.length) (hl : Sr fHd 3 xs (.slice ad n cap) w) (hi : i < xs.length) (hx : xs.length ≤ 1000000) : Ret Tryz.prog 53 #[.slice ad n cap, .int .i64 (i : Nat)] w (New fHd 59 3 (xs.eraseIdx i) w) := by
 have hcl := hl.open.2.1
 refine Ret.enterM Tryz.func53 rfl Tryz.ntmps53 rfl ([]) (no) (Mem.nil w) ?_
 refine wR <| LM.as rfl <| nA [(0, _), (1, _)] <| wpM.seq ?_
 refine wpM.draw [(1, 0), (2, 0), (3, 0), (5, 0), (6, 0), (7, 0), (8, 0), (0, 3), (4, 3), (9, 3), (10, 3)] kr kr ?_
 refine LD.val rfl rfl (ov_move rfl) <| LD.val rfl rfl (ov_move rfl) ?_
 refine LD.val rfl rfl (ov_subHi Tryz.underlying56 Tryz.sizeOf59 rfl rfl om om) ?_
 refine LD.val rfl rfl (ov_move rfl) <| LD.val rfl rfl (ov_move rfl) ?_
 refine LD.val rfl rfl (ov_add64 rfl rfl om) ?_
 refine LD.val rfl rfl (ov_subLo (i + 1) Tryz.underlying56 Tryz.sizeOf59 rfl rfl om om) ?_
 refine LD.tail rfl rfl ?_
 refine LM.row0 Tryz.underlying56 Tryz.sizeOf59 rfl (fun b5 hb5 => ?_); have hs5 : Sl fHd 59 3 w.heap.size ([] : List Hd) (.slice (some ⟨b5, 0, none⟩) 0 0) [(b5, .cells (([] : List Value).toArray) 59 (0, 0))] := .void hb5 (Nat.zero_le _) rfl
 refine LM.appN (ys := xs.take i) (m := [(b5, .cells (([] : List Value).toArray) 59 (0, 0))]) Tryz.underlying56 Tryz.typeInfo59 rfl rfl rfl rfl rfl rfl rfl hs5 (fun w hm hc hg => (hl.take (k := i) om).ext hc) ir (by intro _ u hu; simp [fHd] at hu; (repeat (first | (rcases hu with rfl | hu) | subst hu | rfl))) (Nat.le_refl _) (fun p hp hlt => absurd hlt (Nat.not_lt_of_le (Sl.ge hs5 p hp))) (by unfold maxLen; rw [List.length_take]; simp only [List.length_nil]; omega) (by rw [List.length_take]; simp only [Tryz.t59, List.length_nil]; omega) (fun ad9 n9 cap9 m9 hn9 hs9 hin9 => ?_)
 refine LM.appN (ys := xs.drop (i + 1)) (m := m9) Tryz.underlying56 Tryz.typeInfo59 rfl rfl rfl rfl rfl rfl rfl hs9 (fun w hm hc hg => (hl.drop (l := i + 1) om).ext hc) ir (by intro _ u hu; simp [fHd] at hu; (repeat (first | (rcases hu with rfl | hu) | subst hu | rfl))) (Nat.le_refl _) (fun p hp hlt => absurd hlt (Nat.not_lt_of_le (Sl.ge hs9 p hp))) (by unfold maxLen; simp only [List.length_nil, List.length_append, List.length_take, List.length_drop]; omega) (by simp only [Tryz.t59, List.length_nil, List.length_append, List.length_take, List.length_drop]; omega) (fun ad14 n14 cap14 m14 hn14 hs14 hin14 => ?_)
 refine LM.as rfl ?_
 refine LM.nil ?_
 refine QM.qn ?_
 refine QM.sub (e' := [(4, _)]) ⟨rfl, trivial⟩ (QM.then ?_)
 refine wpM.ret ?_
 refine qL Tryz.results53 rfl fun w' hm' hc' hg' => ?_
 refine ⟨hc', m14, ?_, hm'.pick _⟩; rw [List.eraseIdx_eq_take_drop_succ]; exact hs14
theorem rkHolds_spec {n0 b : Nat} {x : Lkm} {wa : List Hd} {m : Mem0} (task : Int) (w : World) (h : RkM n0 b x wa m) (hM : Mem w m) : Ret Tryz.prog 61 #[.pointer (some ⟨b, 0, none⟩), .int .i64 task] w (fun u w' => u = .bool ((x.ho).any (fun h => decide (h.t = task))) ∧ Ext w w') := by
 obtain ⟨adh, nh, caph, adw, nw, capw, bl, mh, mw, ml, rfl, hnh, hnw, hsh, hsw, hLe, hb⟩ := h
 refine Ret.enterM Tryz.func61 rfl Tryz.ntmps61 rfl (rkC b x.sh x.sl adh nh caph adw nw capw x.tr bl x.di :: (mh ++ (mw ++ (ml ++ [])))) (no) aM ?_
 refine wR <| LM.as rfl <| nB [(0, _), (1, _)] <| LM.mv rfl <| LM.nc rfl <| LM.val (ovf 56 rfl rfl rfl rfl) ?_
 refine LM.rd (oml rfl rfl rfl) ?_
 refine LM.mv rfl ?_
 refine cE Tryz.func52 rfl (fun w hm hc hg => rkat_spec task w hnh (hsh.srM ir hm) hsh.len.2.1) ?_
 refine LM.val (ov_geq rfl rfl) <| LM.as rfl <| nA [(4, _)] <| wpM.ret ?_
 refine qL Tryz.results61 rfl fun w' hm' hc' hg' => ?_
 exact ⟨by show Value.bool (decide (0 ≤ hatO (x.ho) task)) = _; congr 1; unfold hatO fixI; cases (x.ho).any (fun h => decide (h.t = task)) <;> simp, hc'⟩
theorem rkWaits_spec {n0 b : Nat} {x : Lkm} {wa : List Hd} {m : Mem0} (task : Int) (w : World) (h : RkM n0 b x wa m) (hM : Mem w m) : Ret Tryz.prog 60 #[.pointer (some ⟨b, 0, none⟩), .int .i64 task] w (fun u w' => u = .bool ((wa).any (fun h => decide (h.t = task))) ∧ Ext w w') := by
 obtain ⟨adh, nh, caph, adw, nw, capw, bl, mh, mw, ml, rfl, hnh, hnw, hsh, hsw, hLe, hb⟩ := h
 refine Ret.enterM Tryz.func60 rfl Tryz.ntmps60 rfl (rkC b x.sh x.sl adh nh caph adw nw capw x.tr bl x.di :: (mh ++ (mw ++ (ml ++ [])))) (no) aM ?_
 refine wR <| LM.as rfl <| nB [(0, _), (1, _)] <| LM.mv rfl <| LM.nc rfl <| LM.val (ovf 56 rfl rfl rfl rfl) ?_
 refine LM.rd (oml rfl rfl rfl) ?_
 refine LM.mv rfl ?_
 refine cE Tryz.func52 rfl (fun w hm hc hg => rkat_spec task w hnw (hsw.srM ir hm) hsw.len.2.1) ?_
 refine LM.val (ov_geq rfl rfl) <| LM.as rfl <| nA [(4, _)] <| wpM.ret ?_
 refine qL Tryz.results60 rfl fun w' hm' hc' hg' => ?_
 exact ⟨by show Value.bool (decide (0 ≤ hatO (wa) task)) = _; congr 1; unfold hatO fixI; cases (wa).any (fun h => decide (h.t = task)) <;> simp, hc'⟩
theorem rkParty_spec {n0 b : Nat} {x : Lkm} {wa : List Hd} {m : Mem0} (g : Int) (r : Bool) (w : World) (h : RkM n0 b x wa m) (hM : Mem w m) : Ret Tryz.prog 79 #[.pointer (some ⟨b, 0, none⟩), .int .i64 g, .bool r] w (fun u w' => u = .int .i64 (parO x g r) ∧ Ext w w') := by
 obtain ⟨adh, nh, caph, adw, nw, capw, bl, mh, mw, ml, rfl, hnh, hnw, hsh, hsw, hLe, hb⟩ := h
 refine Ret.enterM Tryz.func79 rfl Tryz.ntmps79 rfl (rkC b x.sh x.sl adh nh caph adw nw capw x.tr bl x.di :: (mh ++ (mw ++ (ml ++ [])))) (no) aM ?_
 refine wR <| LM.as rfl <| nA [(0, _), (1, _), (2, _)] <| wpM.seq <| wR <| LM.mv rfl <| LM.nc rfl <| LM.val (ovf 4 rfl rfl rfl rfl) ?_
 refine LM.rd (oml rfl rfl rfl) ?_
 refine nA [(0, _), (1, _), (2, _), (10, _)] ?_
 first | refine wpM.condD rfl (fun h1 => ?_) (fun h1 => ?_) | refine wpM.condB rfl (fun h1 => ?_) (fun h1 => ?_)
 ·
  refine wpM.seq <| wR <| LM.mv rfl <| nA [(11, _)] ?_
  first | refine wpM.condD rfl (fun h2 => ?_) (fun h2 => ?_) | refine wpM.condB rfl (fun h2 => ?_) (fun h2 => ?_)
  ·
   refine wR <| LM.as rfl <| nA [(6, _)] <| wpM.ret <| QM.then_ret <| QM.then_ret ?_
   refine qL Tryz.results79 rfl fun w' hm' hc' hg' => ?_
   refine ⟨?_, hc'⟩; unfold parO; simp_all [resV]
  refine wpM.skip <| tR <| LM.as rfl <| nA [(6, _)] <| wpM.ret <| QM.then_ret ?_
  refine qL Tryz.results79 rfl fun w' hm' hc' hg' => ?_
  refine ⟨?_, hc'⟩; unfold parO; simp_all [resV]
 refine wpM.skip <| QM.then <| wpM.seq <| wR <| LM.mv rfl <| LM.mv rfl ?_
 first | refine LM.splitD (t := 13) rfl (fun h3 => ?_) (fun h3 => ?_) | refine LM.splitB (t := 13) rfl (fun h3 => ?_) (fun h3 => ?_)
 ·
  refine LM.dr 13 rfl rfl rfl <| LM.dr 13 rfl rfl rfl <| LM.dr 13 rfl rfl rfl <| LM.dr 13 rfl rfl rfl <| LM.dr 13 rfl rfl rfl <| LM.dr 13 rfl rfl rfl <| LM.dr 13 rfl rfl rfl <| LM.val (ov_pickT rfl rfl) <| nA [(1, _), (21, _)] ?_
  refine wpM.condT rfl ?_
  refine wR <| LM.as rfl <| nA [(6, _)] <| wpM.ret <| QM.then_ret ?_
  refine qL Tryz.results79 rfl fun w' hm' hc' hg' => ?_
  refine ⟨?_, hc'⟩; unfold parO; simp_all [resV]
 refine LM.sp 13 rfl rfl rfl <| LM.mv rfl <| LM.sp 13 rfl rfl rfl <| LM.nc rfl <| LM.sp 13 rfl rfl rfl <| LM.val (ovf 76 rfl rfl rfl rfl) <| LM.sp 13 rfl rfl rfl ?_
 refine LM.rd (oml rfl rfl rfl) ?_
 refine LM.sp 13 rfl rfl rfl <| LM.mv rfl <| LM.sp 13 rfl rfl rfl ?_
 refine cE Tryz.func70 rfl (fun w hm hc hg => rdIs_spec g w hLe (hm.pick ml)) ?_
 refine LM.sp 13 rfl rfl rfl ?_
 first | refine LM.val (ov_notD rfl) ?_ | refine LM.val (ov_not rfl) ?_
 refine LM.val (ov_pickF rfl rfl) <| nA [(1, _), (21, _)] ?_
 first | refine wpM.condD rfl (fun h4 => ?_) (fun h4 => ?_) | refine wpM.condB rfl (fun h4 => ?_) (fun h4 => ?_)
 ·
  refine wR <| LM.as rfl <| nA [(6, _)] <| wpM.ret <| QM.then_ret ?_
  refine qL Tryz.results79 rfl fun w' hm' hc' hg' => ?_
  refine ⟨?_, hc'⟩; unfold parO; simp_all [resV]
 refine wpM.skip <| tR <| LM.mv rfl <| LM.as rfl <| nA [(6, _)] <| wpM.ret ?_
 refine qL Tryz.results79 rfl fun w' hm' hc' hg' => ?_
 refine ⟨?_, hc'⟩; unfold parO; simp_all [resV]
theorem rkFree0_spec {n0 b : Nat} {x : Lkm} {wa : List Hd} {m : Mem0} (p : Int) (w : World) (h : RkM n0 b x wa m) (hM : Mem w m) : Ret Tryz.prog 26 #[.pointer (some ⟨b, 0, none⟩), .int .i64 p] w (fun u w' => u = .bool (isO x.ld p && (decide (x.ho.length = 0) || (x.sh && decide (p = 0) && !(x.ho.any (fun h => decide (h.p = 1))) && (!(wa.any (fun h => decide (h.p = 1))) || mayT x.tr x.sl 0)))) ∧ Ext w w') := by
 obtain ⟨adh, nh, caph, adw, nw, capw, bl, mh, mw, ml, rfl, hnh, hnw, hsh, hsw, hLe, hb⟩ := h
 refine Ret.enterM Tryz.func26 rfl Tryz.ntmps26 rfl (rkC b x.sh x.sl adh nh caph adw nw capw x.tr bl x.di :: (mh ++ (mw ++ (ml ++ [])))) (no) aM ?_
 refine wR <| LM.as rfl <| nA [(0, _), (1, _)] <| wpM.seq <| wR <| LM.mv rfl <| LM.nc rfl <| LM.val (ovf 76 rfl rfl rfl rfl) ?_
 refine LM.rd (oml rfl rfl rfl) ?_
 refine LM.mv rfl ?_
 refine cE Tryz.func70 rfl (fun w hm hc hg => rdIs_spec p w hLe (hm.pick ml)) ?_
 first | refine LM.val (ov_notD rfl) ?_ | refine LM.val (ov_not rfl) ?_
 refine nA [(0, _), (1, _), (11, _)] ?_
 first | refine wpM.condD rfl (fun h1 => ?_) (fun h1 => ?_) | refine wpM.condB rfl (fun h1 => ?_) (fun h1 => ?_)
 ·
  refine wR <| LM.as rfl <| nA [(4, _)] <| wpM.ret <| QM.then_ret ?_
  refine qL Tryz.results26 rfl fun w' hm' hc' hg' => ?_
  refine ⟨?_, hc'⟩; have hz : decide (x.ho.length = 0) = decide ((nh : Int) = 0) := decide_eq_decide.2 om; simp only [resV, hz, h1, decide_true, decide_false, Bool.true_and, Bool.false_and, Bool.and_true, Bool.and_false, Bool.not_true, Bool.not_false, Bool.true_or, Bool.false_or, Bool.or_true, Bool.or_false, ne_eq, not_true_eq_false, not_false_eq_true, Bool.and_self]; first | done | (simp_all; done) | (simp_all; omega)
 refine wpM.skip <| QM.then <| wpM.seq <| wR <| LM.mv rfl <| LM.nc rfl <| LM.val (ovf 56 rfl rfl rfl rfl) ?_
 refine LM.rd (oml rfl rfl rfl) ?_
 refine LM.val (ov_len Tryz.underlying56 rfl) <| LM.val (ov_eql rfl rfl) <| nA [(0, _), (1, _), (17, _)] ?_
 refine wpM.condD rfl (fun h2 => ?_) (fun h2 => ?_)
 ·
  refine wR <| LM.as rfl <| nA [(4, _)] <| wpM.ret <| QM.then_ret ?_
  refine qL Tryz.results26 rfl fun w' hm' hc' hg' => ?_
  refine ⟨?_, hc'⟩; have hz : decide (x.ho.length = 0) = decide ((nh : Int) = 0) := decide_eq_decide.2 om; simp only [resV, hz, h1, h2, decide_true, decide_false, Bool.true_and, Bool.false_and, Bool.and_true, Bool.and_false, Bool.not_true, Bool.not_false, Bool.true_or, Bool.false_or, Bool.or_true, Bool.or_false, ne_eq, not_true_eq_false, not_false_eq_true, Bool.and_self]; first | done | (simp_all; done) | (simp_all; omega)
 refine wpM.skip <| QM.then <| wpM.seq ?_
 refine wpM.draw [(0, 0), (1, 0), (2, 0), (3, 1), (4, 0), (5, 0), (6, 0), (7, 0), (8, 0), (9, 0), (10, 0), (11, 0), (12, 1), (13, 2), (14, 0), (15, 0), (16, 0), (17, 0), (18, 0), (19, 0), (20, 1), (21, 2), (22, 0), (23, 0), (24, 0), (25, 0), (26, 0), (27, 1), (28, 0), (29, 0), (30, 0), (31, 1), (32, 2), (33, 0), (34, 0), (35, 0)] kr kr ?_
 refine LD.val rfl rfl (ov_move rfl) <| LD.val rfl rfl (ov_nilCheck rfl) <| LD.val rfl rfl (ovf 4 rfl rfl rfl rfl) ?_
 refine LD.rd rfl rfl (oml rfl rfl rfl) ?_
 refine LD.val rfl rfl (ov_move rfl) ?_
 first | refine LD.splitD (t := 22) rfl (fun h3 => ?_) (fun h3 => ?_) | refine LD.splitB (t := 22) rfl (fun h3 => ?_) (fun h3 => ?_)
 ·
  refine LD.val rfl ⟨22, _, rfl, rfl, rfl⟩ (ov_move rfl) ?_
  refine LD.val rfl ⟨22, _, rfl, rfl, rfl⟩ (ov_eql rfl rfl) ?_
  refine LD.val rfl rfl (ov_pickT rfl rfl) ?_
  refine LD.val rfl rfl (ov_move rfl) ?_
  refine LD.splitD (t := 26) rfl (fun h4 => ?_) (fun h4 => ?_)
  ·
   refine LD.val rfl ⟨26, _, rfl, rfl, rfl⟩ (ov_move rfl) <| LD.val rfl ⟨26, _, rfl, rfl, rfl⟩ (ov_nilCheck rfl) <| LD.val rfl ⟨26, _, rfl, rfl, rfl⟩ (ovf 56 rfl rfl rfl rfl) ?_
   refine LD.rd rfl ⟨26, _, rfl, rfl, rfl⟩ (oml rfl rfl rfl) ?_
   refine dE rfl ⟨26, _, rfl, rfl, rfl⟩ Tryz.func73 rfl (fun w hm hc hg => rhasp_spec 1 w hnh (hsh.srM ir hm) hsh.len.2.1) ?_
   first | refine LD.val rfl ⟨26, _, rfl, rfl, rfl⟩ (ov_notD rfl) ?_ | refine LD.val rfl ⟨26, _, rfl, rfl, rfl⟩ (ov_not rfl) ?_
   refine LD.val rfl rfl (ov_pickT rfl rfl) ?_
   refine LD.val rfl rfl (ov_move rfl) ?_
   first | refine LD.splitD (t := 34) rfl (fun h5 => ?_) (fun h5 => ?_) | refine LD.splitB (t := 34) rfl (fun h5 => ?_) (fun h5 => ?_)
   ·
    refine LD.val rfl ⟨34, _, rfl, rfl, rfl⟩ (ov_move rfl) <| LD.val rfl ⟨34, _, rfl, rfl, rfl⟩ (ov_nilCheck rfl) <| LD.val rfl ⟨34, _, rfl, rfl, rfl⟩ (ovf 56 rfl rfl rfl rfl) ?_
    refine LD.rd rfl ⟨34, _, rfl, rfl, rfl⟩ (oml rfl rfl rfl) ?_
    refine dE rfl ⟨34, _, rfl, rfl, rfl⟩ Tryz.func73 rfl (fun w hm hc hg => rhasp_spec 1 w hnw (hsw.srM ir hm) hsw.len.2.1) ?_
    first | refine LD.val rfl ⟨34, _, rfl, rfl, rfl⟩ (ov_notD rfl) ?_ | refine LD.val rfl ⟨34, _, rfl, rfl, rfl⟩ (ov_not rfl) ?_
    refine LD.val rfl ⟨34, _, rfl, rfl, rfl⟩ (ov_move rfl) ?_
    first | refine LD.splitD (t := 41) rfl (fun h6 => ?_) (fun h6 => ?_) | refine LD.splitB (t := 41) rfl (fun h6 => ?_) (fun h6 => ?_)
    ·
     refine LD.drop rfl rfl ⟨41, _, rfl, rfl, rfl⟩ <| LD.drop rfl rfl ⟨41, _, rfl, rfl, rfl⟩ <| LD.drop rfl rfl ⟨41, _, rfl, rfl, rfl⟩ <| LD.drop rfl rfl ⟨41, _, rfl, rfl, rfl⟩ <| LD.drop rfl rfl ⟨41, _, rfl, rfl, rfl⟩ <| LD.drop rfl rfl ⟨41, _, rfl, rfl, rfl⟩ <| LD.drop rfl rfl ⟨41, _, rfl, rfl, rfl⟩ <| LD.drop rfl rfl ⟨41, _, rfl, rfl, rfl⟩ <| LD.drop rfl rfl ⟨41, _, rfl, rfl, rfl⟩ ?_
     refine LD.val rfl ⟨34, _, rfl, rfl, rfl⟩ (ov_pickT rfl rfl) ?_
     refine LD.val rfl rfl (ov_pickT rfl rfl) ?_
     refine LD.val rfl rfl (ov_assign rfl) <| LD.nil ?_
     refine QM.sub (e' := [(4, _)]) ⟨rfl, trivial⟩ (QM.then ?_)
     refine wpM.ret ?_
     refine qL Tryz.results26 rfl fun w' hm' hc' hg' => ?_
     refine ⟨?_, hc'⟩; have hz : decide (x.ho.length = 0) = decide ((nh : Int) = 0) := decide_eq_decide.2 om; simp only [resV, hz, h1, h2, h3, h4, h5, h6, decide_true, decide_false, Bool.true_and, Bool.false_and, Bool.and_true, Bool.and_false, Bool.not_true, Bool.not_false, Bool.true_or, Bool.false_or, Bool.or_true, Bool.or_false, ne_eq, not_true_eq_false, not_false_eq_true, Bool.and_self]; first | done | (simp_all; done) | (simp_all; omega)
    refine LD.val rfl ⟨41, _, rfl, rfl, rfl⟩ (ov_move rfl) <| LD.val rfl ⟨41, _, rfl, rfl, rfl⟩ (ov_nilCheck rfl) <| LD.val rfl ⟨41, _, rfl, rfl, rfl⟩ (ovf 64 rfl rfl rfl rfl) ?_
    first | refine LD.rd rfl ⟨41, _, rfl, rfl, rfl⟩ (om_ldW Tryz.isAgg64 Tryz.sizeOf64 rfl rfl) ?_ | refine LD.rd rfl ⟨41, _, rfl, rfl, rfl⟩ (om_ldA Tryz.isAgg64 Tryz.sizeOf64 rfl (vs := [_, _]) rfl ⟨rfl, rfl, trivial⟩) ?_
    refine LD.val rfl ⟨41, _, rfl, rfl, rfl⟩ (ov_move rfl) <| LD.val rfl ⟨41, _, rfl, rfl, rfl⟩ (ov_nilCheck rfl) <| LD.val rfl ⟨41, _, rfl, rfl, rfl⟩ (ovf 3 rfl rfl rfl rfl) ?_
    refine LD.rd rfl ⟨41, _, rfl, rfl, rfl⟩ (oml rfl rfl rfl) ?_
    refine dE rfl ⟨41, _, rfl, rfl, rfl⟩ Tryz.func44 rfl (fun w hm hc hg => rtmay_spec x.tr _ _ w) ?_
    refine LD.val rfl ⟨34, _, rfl, rfl, rfl⟩ (ov_pickF rfl rfl) ?_
    refine LD.val rfl rfl (ov_pickT rfl rfl) ?_
    refine LD.val rfl rfl (ov_assign rfl) <| LD.nil ?_
    refine QM.sub (e' := [(4, _)]) ⟨rfl, trivial⟩ (QM.then ?_)
    refine wpM.ret ?_
    refine qL Tryz.results26 rfl fun w' hm' hc' hg' => ?_
    refine ⟨?_, hc'⟩; have hz : decide (x.ho.length = 0) = decide ((nh : Int) = 0) := decide_eq_decide.2 om; simp only [resV, hz, h1, h2, h3, h4, h5, h6, decide_true, decide_false, Bool.true_and, Bool.false_and, Bool.and_true, Bool.and_false, Bool.not_true, Bool.not_false, Bool.true_or, Bool.false_or, Bool.or_true, Bool.or_false, ne_eq, not_true_eq_false, not_false_eq_true, Bool.and_self]; first | done | (simp_all; done) | (simp_all; omega)
   refine LD.drop rfl rfl ⟨34, _, rfl, rfl, rfl⟩ <| LD.drop rfl rfl ⟨34, _, rfl, rfl, rfl⟩ <| LD.drop rfl rfl ⟨34, _, rfl, rfl, rfl⟩ <| LD.drop rfl rfl ⟨34, _, rfl, rfl, rfl⟩ <| LD.drop rfl rfl ⟨34, _, rfl, rfl, rfl⟩ <| LD.drop rfl rfl ⟨34, _, rfl, rfl, rfl⟩ ?_
   refine LD.dropU rfl rfl ⟨34, _, rfl, rfl, rfl⟩ ?_
   refine LD.dropX rfl rfl rfl rfl <| LD.dropX rfl rfl rfl rfl <| LD.dropX rfl rfl rfl rfl <| LD.dropX rfl rfl rfl rfl <| LD.dropX rfl rfl rfl rfl <| LD.dropX rfl rfl rfl rfl <| LD.dropX rfl rfl rfl rfl <| LD.dropX rfl rfl rfl rfl ?_
   refine LD.dropV rfl rfl rfl ?_
   refine LD.drop rfl rfl ⟨34, _, rfl, rfl, rfl⟩ ?_
   refine LD.val rfl rfl (ov_pickF rfl rfl) ?_
   refine LD.val rfl rfl (ov_assign rfl) <| LD.nil ?_
   refine QM.sub (e' := [(4, _)]) ⟨rfl, trivial⟩ (QM.then ?_)
   refine wpM.ret ?_
   refine qL Tryz.results26 rfl fun w' hm' hc' hg' => ?_
   refine ⟨?_, hc'⟩; have hz : decide (x.ho.length = 0) = decide ((nh : Int) = 0) := decide_eq_decide.2 om; simp only [resV, hz, h1, h2, h3, h4, h5, decide_true, decide_false, Bool.true_and, Bool.false_and, Bool.and_true, Bool.and_false, Bool.not_true, Bool.not_false, Bool.true_or, Bool.false_or, Bool.or_true, Bool.or_false, ne_eq, not_true_eq_false, not_false_eq_true, Bool.and_self]; first | done | (simp_all; done) | (simp_all; omega)
  refine LD.drop rfl rfl ⟨26, _, rfl, rfl, rfl⟩ <| LD.drop rfl rfl ⟨26, _, rfl, rfl, rfl⟩ <| LD.drop rfl rfl ⟨26, _, rfl, rfl, rfl⟩ <| LD.drop rfl rfl ⟨26, _, rfl, rfl, rfl⟩ <| LD.drop rfl rfl ⟨26, _, rfl, rfl, rfl⟩ <| LD.drop rfl rfl ⟨26, _, rfl, rfl, rfl⟩ ?_
  refine LD.val rfl rfl (ov_pickF rfl rfl) ?_
  refine LD.val rfl rfl (ov_move rfl) <| LD.drop rfl rfl ⟨34, _, rfl, rfl, rfl⟩ <| LD.drop rfl rfl ⟨34, _, rfl, rfl, rfl⟩ <| LD.drop rfl rfl ⟨34, _, rfl, rfl, rfl⟩ <| LD.drop rfl rfl ⟨34, _, rfl, rfl, rfl⟩ <| LD.drop rfl rfl ⟨34, _, rfl, rfl, rfl⟩ <| LD.drop rfl rfl ⟨34, _, rfl, rfl, rfl⟩ ?_
  refine LD.dropU rfl rfl ⟨34, _, rfl, rfl, rfl⟩ ?_
  refine LD.dropX rfl rfl rfl rfl <| LD.dropX rfl rfl rfl rfl <| LD.dropX rfl rfl rfl rfl <| LD.dropX rfl rfl rfl rfl <| LD.dropX rfl rfl rfl rfl <| LD.dropX rfl rfl rfl rfl <| LD.dropX rfl rfl rfl rfl <| LD.dropX rfl rfl rfl rfl ?_
  refine LD.dropV rfl rfl rfl ?_
  refine LD.drop rfl rfl ⟨34, _, rfl, rfl, rfl⟩ ?_
  refine LD.val rfl rfl (ov_pickF rfl rfl) ?_
  refine LD.val rfl rfl (ov_assign rfl) <| LD.nil ?_
  refine QM.sub (e' := [(4, _)]) ⟨rfl, trivial⟩ (QM.then ?_)
  refine wpM.ret ?_
  refine qL Tryz.results26 rfl fun w' hm' hc' hg' => ?_
  refine ⟨?_, hc'⟩; have hz : decide (x.ho.length = 0) = decide ((nh : Int) = 0) := decide_eq_decide.2 om; simp only [resV, hz, h1, h2, h3, h4, decide_true, decide_false, Bool.true_and, Bool.false_and, Bool.and_true, Bool.and_false, Bool.not_true, Bool.not_false, Bool.true_or, Bool.false_or, Bool.or_true, Bool.or_false, ne_eq, not_true_eq_false, not_false_eq_true, Bool.and_self]; first | done | (simp_all; done) | (simp_all; omega)
 refine LD.drop rfl rfl ⟨22, _, rfl, rfl, rfl⟩ <| LD.drop rfl rfl ⟨22, _, rfl, rfl, rfl⟩ ?_
 refine LD.val rfl rfl (ov_pickF rfl rfl) ?_
 refine LD.val rfl rfl (ov_move rfl) <| LD.drop rfl rfl ⟨26, _, rfl, rfl, rfl⟩ <| LD.drop rfl rfl ⟨26, _, rfl, rfl, rfl⟩ <| LD.drop rfl rfl ⟨26, _, rfl, rfl, rfl⟩ <| LD.drop rfl rfl ⟨26, _, rfl, rfl, rfl⟩ <| LD.drop rfl rfl ⟨26, _, rfl, rfl, rfl⟩ <| LD.drop rfl rfl ⟨26, _, rfl, rfl, rfl⟩ ?_
 refine LD.val rfl rfl (ov_pickF rfl rfl) ?_
 refine LD.val rfl rfl (ov_move rfl) <| LD.drop rfl rfl ⟨34, _, rfl, rfl, rfl⟩ <| LD.drop rfl rfl ⟨34, _, rfl, rfl, rfl⟩ <| LD.drop rfl rfl ⟨34, _, rfl, rfl, rfl⟩ <| LD.drop rfl rfl ⟨34, _, rfl, rfl, rfl⟩ <| LD.drop rfl rfl ⟨34, _, rfl, rfl, rfl⟩ <| LD.drop rfl rfl ⟨34, _, rfl, rfl, rfl⟩ ?_
 refine LD.dropU rfl rfl ⟨34, _, rfl, rfl, rfl⟩ ?_
 refine LD.dropX rfl rfl rfl rfl <| LD.dropX rfl rfl rfl rfl <| LD.dropX rfl rfl rfl rfl <| LD.dropX rfl rfl rfl rfl <| LD.dropX rfl rfl rfl rfl <| LD.dropX rfl rfl rfl rfl <| LD.dropX rfl rfl rfl rfl <| LD.dropX rfl rfl rfl rfl ?_
 refine LD.dropV rfl rfl rfl ?_
 refine LD.drop rfl rfl ⟨34, _, rfl, rfl, rfl⟩ ?_
 refine LD.val rfl rfl (ov_pickF rfl rfl) ?_
 refine LD.val rfl rfl (ov_assign rfl) <| LD.nil ?_
 refine QM.sub (e' := [(4, _)]) ⟨rfl, trivial⟩ (QM.then ?_)
 refine wpM.ret ?_
 refine qL Tryz.results26 rfl fun w' hm' hc' hg' => ?_
 refine ⟨?_, hc'⟩; have hz : decide (x.ho.length = 0) = decide ((nh : Int) = 0) := decide_eq_decide.2 om; simp only [resV, hz, h1, h2, h3, decide_true, decide_false, Bool.true_and, Bool.false_and, Bool.and_true, Bool.and_false, Bool.not_true, Bool.not_false, Bool.true_or, Bool.false_or, Bool.or_true, Bool.or_false, ne_eq, not_true_eq_false, not_false_eq_true, Bool.and_self]; first | done | (simp_all; done) | (simp_all; omega)
theorem rkm_leaf {n0 b nh caph nw capw bl : Nat} {adh adw : Option Addr} {x : Lkm} {wa : List Hd} {m mh mw ml M : Mem0} {u0 : Value} {w w' : World} (hnh : nh = x.ho.length) (hnw : nw = wa.length) (hsh : Sl fHd 59 3 n0 x.ho (.slice adh nh caph) mh) (hsw : Sl fHd 59 3 n0 wa (.slice adw nw capw) mw) (hLe : RdM n0 bl x.ld ml) (hb : n0 ≤ b) (hm : Mem w' M)
    (hs : SubM M (rkC b x.sh x.sl adh nh caph adw nw capw x.tr bl x.di :: (mh ++ (mw ++ (ml ++ []))))) (hc : Chg (inM m) w w') (hbm : inM m b) (h1 : inn m w.heap.size mh) (h2 : inn m w.heap.size mw) (h3 : inn m w.heap.size ml) :
    Upd m (fun u m' => u = u0 ∧ RkM n0 b x wa m') w u0 w' := by
  rw [List.append_nil] at hs
  exact ⟨hc, _, ⟨rfl, adh, nh, caph, adw, nw, capw, bl, mh, mw, ml, rfl, hnh, hnw, hsh, hsw, hLe, hb⟩, hs.mem w' hm, inn_cons hbm (inn_app h1 (inn_app h2 h3))⟩
theorem act_eq {x : Lkm} {wa : List Hd} (h : wa.map (·.p) = x.wt.map (·.key)) : (wa.map (·.p)).foldl withS ((x.ho.map (·.p)).foldl withS 0#64) = actS x := by
  have e := keyS_comm (x.ho.map (·.p)) (x.wt.map (·.key))
  unfold actS
  rw [← List.foldl_append, h, ← e]
  unfold keyS
  with_reducible rfl
theorem rkHoldsO_spec {n0 b : Nat} {x : Lkm} {wa : List Hd} {m : Mem0} (task : Int) (w : World) (h : RkM n0 b x wa m) (hM : Mem w m) :
    Ret Tryz.prog 61 #[.pointer (some ⟨b, 0, none⟩), .int .i64 task] w (fun u w' => u = .bool (holdsO x task) ∧ Ext w w') := rkHolds_spec task w h hM
theorem rkSet_spec {n0 b : Nat} {x : Lkm} {wa : List Hd} {m : Mem0} (w : World) (h : RkM n0 b x wa m) (hwa : wa.map (·.p) = x.wt.map (·.key)) (hM : Mem w m) : Ret Tryz.prog 46 #[.pointer (some ⟨b, 0, none⟩)] w (Upd m (fun u m' => RkM n0 b (settleX x) wa m') w) := by
 obtain ⟨adh, nh, caph, adw, nw, capw, bl, mh, mw, ml, rfl, hnh, hnw, hsh, hsw, hLe, hb⟩ := h
 refine Ret.enterM Tryz.func46 rfl Tryz.ntmps46 rfl (rkC b x.sh x.sl adh nh caph adw nw capw x.tr bl x.di :: (mh ++ (mw ++ (ml ++ [])))) ((inM (rkM0 b x adh nh caph adw nw capw bl mh mw ml))) aM ?_
 refine wpM.draw [(0, 0), (1, 0), (2, 0), (3, 1), (4, 0), (5, 0), (6, 0), (7, 1), (9, 0), (10, 0), (11, 0), (12, 1), (8, 2), (13, 2), (14, 3)] kr kr ?_
 refine LD.val rfl rfl (ov_move rfl) <| LD.val rfl rfl (ov_nilCheck rfl) <| LD.val rfl rfl (ovf 76 rfl rfl rfl rfl) ?_
 refine LD.rd rfl rfl (oml rfl rfl rfl) ?_
 refine LD.val rfl rfl (ov_move rfl) <| LD.val rfl rfl (ov_nilCheck rfl) <| LD.val rfl rfl (ovf 56 rfl rfl rfl rfl) ?_
 refine LD.rd rfl rfl (oml rfl rfl rfl) ?_
 refine LD.val rfl rfl (ov_move rfl) <| LD.val rfl rfl (ov_nilCheck rfl) <| LD.val rfl rfl (ovf 56 rfl rfl rfl rfl) ?_
 refine LD.rd rfl rfl (oml rfl rfl rfl) ?_
 refine dE rfl rfl Tryz.func92 rfl (fun w hm hc hg => rset_spec 0#64 w hnh (hsh.srM ir hm) hsh.len.2.1) ?_
 generalize hs1 : List.foldl withS 0#64 (List.map (fun h => h.p) x.ho) = s1
 refine dE rfl rfl Tryz.func92 rfl (fun w hm hc hg => rset_spec s1 w hnw (hsw.srM ir hm) hsw.len.2.1) ?_
 generalize hs2 : List.foldl withS s1 (List.map (fun h => h.p) wa) = s2; have hs3 : s2 = actS x := (by rw [← hs2, ← hs1]; exact act_eq hwa); subst hs3
 refine LD.tail rfl rfl ?_
 refine cU Tryz.func91 rfl (fun w hm hc hg => rdSet_spec (actS x) w hLe (hm.pick ml)) hLe.wlk (fun p hp _ => ⟨p, by simp [hp], rfl⟩) ?_
 rintro u16 m16 h16 hin16
 refine LM.nil ?_
 refine QM.qn ?_
 refine QM.sub (e' := []) trivial ?_
 refine QM.leave (.inr rfl) [] Tryz.results46 rfl ?_
 intro w' hm' hc' hg'
 exact Upd.imp (rkm_leaf (u0 := resV []) (x := settleX x) hnh hnw hsh hsw h16 hb hm' au1 hc' inM_0 inS inS (inn_tr hin16 (fun p hp => by simp [hp]))) (fun u m' h => h.2)
theorem rkMay_spec {n0 b : Nat} {x : Lkm} {wa : List Hd} {m : Mem0} (t p : Int) (w : World) (h : RkM n0 b x wa m) (hwt : wa.any (fun h => decide (h.t = t)) = waitsO x t) (hM : Mem w m) : Ret Tryz.prog 43 #[.pointer (some ⟨b, 0, none⟩), .int .i64 t, .int .i64 p] w (fun u w' => u = .int .i64 (comesE x t p) ∧ Ext w w') := by
 have hRk := h; obtain ⟨adh, nh, caph, adw, nw, capw, bl, mh, mw, ml, rfl, hnh, hnw, hsh, hsw, hLe, hb⟩ := h
 refine Ret.enterM Tryz.func43 rfl Tryz.ntmps43 rfl (rkC b x.sh x.sl adh nh caph adw nw capw x.tr bl x.di :: (mh ++ (mw ++ (ml ++ [])))) (no) aM ?_
 refine wR <| LM.as rfl <| nA [(0, _), (1, _), (2, _)] <| wpM.seq <| wR <| LM.mv rfl <| LM.val (ov_lss rfl rfl) <| LM.mv rfl ?_
 refine LM.splitD (t := 9) rfl (fun h1 => ?_) (fun h1 => ?_)
 ·
  refine LM.dr 9 rfl rfl rfl <| LM.dr 9 rfl rfl rfl <| LM.dr 9 rfl rfl rfl <| LM.dr 9 rfl rfl rfl <| LM.dr 9 rfl rfl rfl <| LM.dr 9 rfl rfl rfl <| LM.dr 9 rfl rfl rfl <| LM.val (ov_pickT rfl rfl) <| nA [(0, _), (1, _), (17, _)] ?_
  refine wpM.condT rfl ?_
  refine wR <| LM.as rfl <| nA [(6, _)] <| wpM.ret <| QM.then_ret ?_
  refine qL Tryz.results43 rfl fun w' hm' hc' hg' => ?_
  refine ⟨?_, hc'⟩; unfold comesE; simp_all [resV]; try (intros; omega)
 refine LM.sp 9 rfl rfl rfl <| LM.mv rfl <| LM.sp 9 rfl rfl rfl <| LM.nc rfl <| LM.sp 9 rfl rfl rfl <| LM.val (ovf 76 rfl rfl rfl rfl) <| LM.sp 9 rfl rfl rfl ?_
 refine LM.rd (oml rfl rfl rfl) ?_
 refine LM.sp 9 rfl rfl rfl <| LM.mv rfl <| LM.sp 9 rfl rfl rfl ?_
 refine cE Tryz.func70 rfl (fun w hm hc hg => rdIs_spec p w hLe (hm.pick ml)) ?_
 refine LM.sp 9 rfl rfl rfl ?_
 first | refine LM.val (ov_notD rfl) ?_ | refine LM.val (ov_not rfl) ?_
 refine LM.val (ov_pickF rfl rfl) <| nA [(0, _), (1, _), (17, _)] ?_
 first | refine wpM.condD rfl (fun h2 => ?_) (fun h2 => ?_) | refine wpM.condB rfl (fun h2 => ?_) (fun h2 => ?_)
 ·
  refine wR <| LM.as rfl <| nA [(6, _)] <| wpM.ret <| QM.then_ret ?_
  refine qL Tryz.results43 rfl fun w' hm' hc' hg' => ?_
  refine ⟨?_, hc'⟩; unfold comesE; simp_all [resV]; try (intros; omega)
 refine wpM.skip <| QM.then <| wpM.seq <| wR <| LM.mv rfl <| LM.mv rfl ?_
 refine cE Tryz.func61 rfl (fun w hm hc hg => rkHoldsO_spec t w hRk (hm.pick (rkM0 b x adh nh caph adw nw capw bl mh mw ml))) ?_
 refine nA [(0, _), (1, _), (20, _)] ?_
 first | refine wpM.condD rfl (fun h3 => ?_) (fun h3 => ?_) | refine wpM.condB rfl (fun h3 => ?_) (fun h3 => ?_)
 ·
  refine wR <| LM.as rfl <| nA [(6, _)] <| wpM.ret <| QM.then_ret ?_
  refine qL Tryz.results43 rfl fun w' hm' hc' hg' => ?_
  refine ⟨?_, hc'⟩; unfold comesE; simp_all [resV]; try (intros; omega)
 refine wpM.skip <| QM.then <| wpM.seq <| wR <| LM.mv rfl <| LM.mv rfl ?_
 refine cE Tryz.func60 rfl (fun w hm hc hg => hwt ▸ rkWaits_spec t w hRk (hm.pick (rkM0 b x adh nh caph adw nw capw bl mh mw ml))) ?_
 refine nA [(23, _)] ?_
 first | refine wpM.condD rfl (fun h4 => ?_) (fun h4 => ?_) | refine wpM.condB rfl (fun h4 => ?_) (fun h4 => ?_)
 ·
  refine wR <| LM.as rfl <| nA [(6, _)] <| wpM.ret <| QM.then_ret ?_
  refine qL Tryz.results43 rfl fun w' hm' hc' hg' => ?_
  refine ⟨?_, hc'⟩; unfold comesE; simp_all [resV]; try (intros; omega)
 refine wpM.skip <| tR <| LM.as rfl <| nA [(6, _)] <| wpM.ret ?_
 refine qL Tryz.results43 rfl fun w' hm' hc' hg' => ?_
 refine ⟨?_, hc'⟩; unfold comesE; simp_all [resV]; try (intros; omega)
theorem rkGr_spec {n0 b : Nat} {x : Lkm} {wa : List Hd} {m : Mem0} (i : Nat) (w : World) (h : RkM n0 b x wa m) (hi : i < wa.length) (hn0 : n0 ≤ w.heap.size) (hx : x.ho.length ≤ 1000) (hw9 : wa.length ≤ 1000) (hM : Mem w m) : Ret Tryz.prog 45 #[.pointer (some ⟨b, 0, none⟩), .int .i64 (i : Nat)] w (Upd m (fun u m' => u = .int .i64 (wa.getD i default).t ∧ RkM n0 b (holdX x (wa.getD i default).t (wa.getD i default).p) (wa.eraseIdx i) m') w) := by
 obtain ⟨adh, nh, caph, adw, nw, capw, bl, mh, mw, ml, rfl, hnh, hnw, hsh, hsw, hLe, hb⟩ := h; have hhl := hsh.len.2.1; have hwl := hsw.len
 refine Ret.enterM Tryz.func45 rfl Tryz.ntmps45 rfl (rkC b x.sh x.sl adh nh caph adw nw capw x.tr bl x.di :: (mh ++ (mw ++ (ml ++ [])))) ((inM (rkM0 b x adh nh caph adw nw capw bl mh mw ml))) aM ?_
 refine wR <| LM.as rfl <| nB [(0, _), (1, _)] <| LM.mv rfl <| LM.nc rfl <| LM.val (ovf 56 rfl rfl rfl rfl) ?_
 refine LM.rd (oml rfl rfl rfl) ?_
 refine LM.mv rfl ?_
 refine LM.val (ov_idxSN au6 Tryz.underlying56 Tryz.sizeOf59 rfl rfl om) ?_
 refine LM.rd (om_slA hsw ir Tryz.isAgg59 Tryz.sizeOf59 rfl (by exact getq default hi)) ?_
 refine LM.alloc Tryz.zeroValue59 rfl (fun b5 hb5 => ?_)
 refine LM.stW Tryz.sizeOf59 rfl rfl rfl rfl au7 auH ?_
 refine LM.mem (SubM.mem (M' := (b5, .cells #[.int .i64 (wa.getD i default).t, .int .i64 (wa.getD i default).p, .bool (wa.getD i default).d] 59 (0, 0)) :: rkC b x.sh x.sl adh nh caph adw nw capw x.tr bl x.di :: (mh ++ (mw ++ (ml ++ [])))) au1) ?_
 refine nB [(0, _), (1, _), (5, _)] <| LM.mv rfl <| LM.mv rfl <| LM.nc rfl <| LM.val (ovf 56 rfl rfl rfl rfl) ?_
 refine LM.rd (oml rfl rfl rfl) ?_
 refine LM.mv rfl ?_
 refine LM.cS (oc_call (enters_fn Tryz.func53 kr rfl) rfl) (fun w hm hc hg => rdrop_spec i w hnw (hsw.srM ir hm) hi om) (fun ad19 n19 cap19 m19 hn19 hs19 => ?_)
 refine LM.nc rfl <| LM.val (ovf 56 rfl rfl rfl rfl) ?_
 refine LM.st Tryz.sizeOf56 rfl rfl rfl au5 rfl auH ?_
 refine LM.mem (SubM.mem (M' := (b5, .cells #[.int .i64 (wa.getD i default).t, .int .i64 (wa.getD i default).p, .bool (wa.getD i default).d] 59 (0, 0)) :: rkC b x.sh x.sl adh nh caph ad19 n19 cap19 x.tr bl x.di :: (mh ++ (m19 ++ (ml ++ [])))) au1) ?_
 refine nB [(0, _), (5, _)] <| LM.mv rfl <| LM.nc rfl <| LM.val (ovf 4 rfl rfl rfl rfl) ?_
 refine LM.rd (oml rfl rfl rfl) ?_
 refine LM.val (ovf 4 rfl rfl rfl rfl) ?_
 refine LM.st Tryz.sizeOf4 rfl rfl rfl au5 rfl auH ?_
 refine LM.mem (SubM.mem (M' := (b5, .cells #[.int .i64 (wa.getD i default).t, .int .i64 (wa.getD i default).p, .bool x.di] 59 (0, 0)) :: rkC b x.sh x.sl adh nh caph ad19 n19 cap19 x.tr bl x.di :: (mh ++ (m19 ++ (ml ++ [])))) au1) ?_
 refine nB [(0, _), (5, _)] <| LM.mv rfl <| LM.nc rfl <| LM.val (ovf 4 rfl rfl rfl rfl) ?_
 refine LM.st Tryz.sizeOf4 rfl rfl rfl au5 rfl auH ?_
 refine LM.mem (SubM.mem (M' := (b5, .cells #[.int .i64 (wa.getD i default).t, .int .i64 (wa.getD i default).p, .bool x.di] 59 (0, 0)) :: rkC b x.sh x.sl adh nh caph ad19 n19 cap19 x.tr bl false :: (mh ++ (m19 ++ (ml ++ [])))) au1) ?_
 refine nA [(0, _), (5, _)] <| wpM.seq ?_
 refine wpM.keep ((b5, .cells #[.int .i64 (wa.getD i default).t, .int .i64 (wa.getD i default).p, .bool x.di] 59 (0, 0)) :: rkC b x.sh x.sl adh nh caph ad19 n19 cap19 x.tr bl false :: []) (fun _ => True) (.one 0 0 (.one 1 0 (.one 2 0 (.one 3 0 (.one 4 1 (.one 5 1 (.one 6 2 (.one 7 2 (.one 8 0 (.one 9 0 (.last 10))))))))))) kr kr au1 (fun _ _ => trivial) ?_
 refine KD.val rfl rfl (ov_move rfl) <| KD.val rfl rfl (ov_move rfl) <| KD.val rfl rfl (ov_nilCheck rfl) <| KD.val rfl rfl (ovf 56 rfl rfl rfl rfl) ?_
 refine KD.rd rfl rfl (oml rfl rfl rfl) ?_
 refine KD.rd rfl rfl (om_ldW Tryz.isAgg59 Tryz.sizeOf59 rfl rfl) ?_
 refine KD.one rfl ?_
 refine LM.single Tryz.underlying56 Tryz.sizeOf59 Tryz.zeroValue59 rfl rfl rfl rfl rfl (fun b36 hb36 => ?_)
 refine LM.nil ?_
 refine kq1 ?_
 refine KD.one rfl ?_
 refine LM.app (a := (⟨(wa.getD i default).t, (wa.getD i default).p, x.di⟩ : Hd)) Tryz.underlying56 Tryz.typeInfo59 rfl rfl rfl rfl rfl rfl rfl asm (by rfl) ir (by intro _ u hu; simp [fHd] at hu; (repeat (first | (rcases hu with rfl | hu) | subst hu | rfl))) (by first | exact Nat.le_refl _ | omega) (fun p hp _ => ⟨p, by simp [hp], rfl⟩) (by first | omega | (unfold maxLen; omega)) (by simp only [Tryz.t59]; omega) (fun ad37 n37 cap37 m37 hn37 hs37 hin37 => ?_)
 refine LM.nil ?_
 refine kq1 ?_
 refine KD.val rfl rfl (ov_nilCheck rfl) <| KD.val rfl rfl (ovf 56 rfl rfl rfl rfl) ?_
 refine KD.last rfl ?_
 refine LM.st Tryz.sizeOf56 rfl rfl rfl au5 rfl auH ?_
 refine LM.nil ?_
 refine QM.qn ?_
 refine QM.sub (e' := [(5, _)]) ⟨rfl, trivial⟩ (QM.then (wpM.seq (wpM.region ?_)))
 refine LM.val (ovf 3 rfl rfl rfl rfl) ?_
 refine LM.rd (oml rfl rfl rfl) ?_
 refine LM.as rfl <| nA [(4, _)] <| wpM.ret ?_
 refine qL Tryz.results45 rfl fun w' hm' hc' hg' => ?_
 exact rkm_leaf (x := holdX x (wa.getD i default).t (wa.getD i default).p) (by show n37 = (_ ++ _ : List Hd).length; rw [List.length_append]; omega) hn19 hs37 (hs19.mono hn0) hLe hb hm' au1 hc' inM_0 (inn_tr hin37 (fun p hp => by simp [hp])) (fun p hp => .inl (hs19.ge p hp)) inS
def strk (p : Int) : Nat → List Wt → List Wt
  | _, [] => []
  | n, w :: l => if w.key = p ∧ 0 < n then strk p (n - 1) l else w :: strk p n l
theorem strk_zero (p : Int) : ∀ l, strk p 0 l = l
  | [] => rfl
  | w :: l => by
    show (if w.key = p ∧ 0 < 0 then _ else w :: strk p 0 l) = _
    rw [if_neg (fun q => absurd q.2 (Nat.lt_irrefl 0)), strk_zero p l]
theorem rmA_cons {w : Wt} {L : List Wt} : ∀ {os : List Int}, w.who ∉ os → rmA (w :: L) os = w :: rmA L os := by
  intro os
  unfold rmA
  induction os generalizing L with
  | nil => intro _; rfl
  | cons t os ih =>
    intro h
    rw [List.foldl_cons, List.foldl_cons]
    have e : rmW (w :: L) t = w :: rmW L t := by
      unfold rmW; rw [List.filter_cons_of_pos (by simpa using fun q => h (by rw [q]; exact List.mem_cons_self ..))]
    rw [e]; exact ih (fun q => h (List.mem_cons_of_mem _ q))
theorem LF_cons_pos {w : Wt} {l : List Wt} {p : Int} (h : w.key = p) : LF (w :: l) p = w :: LF l p := by
  unfold LF; rw [List.filter_cons_of_pos (by simpa using h)]
theorem LF_cons_neg {w : Wt} {l : List Wt} {p : Int} (h : w.key ≠ p) : LF (w :: l) p = LF l p := by
  unfold LF; rw [List.filter_cons_of_neg (by simpa using h)]
theorem strk_eq (p : Int) : ∀ (L : List Wt) (n : Nat), Wd1 L → strk p n L = rmA L (((LF L p).take n).map (·.who))
  | [], n, _ => by
    show [] = rmA [] _
    have : LF [] p = [] := rfl
    rw [this, List.take_nil]; rfl
  | w :: l, n, h => by
    show (if w.key = p ∧ 0 < n then strk p (n - 1) l else w :: strk p n l) = _
    have hl := (List.pairwise_cons.1 h).2
    have hw := (List.pairwise_cons.1 h).1
    by_cases c : w.key = p
    · by_cases c2 : 0 < n
      · rw [if_pos ⟨c, c2⟩, LF_cons_pos c, strk_eq p l _ hl]
        obtain ⟨m, rfl⟩ : ∃ m, n = m + 1 := ⟨n - 1, by omega⟩
        rw [Nat.add_sub_cancel, List.take_succ_cons, List.map_cons]
        show _ = rmA (rmW (w :: l) w.who) _
        rw [rm_head h]
      · rw [if_neg (fun q => c2 q.2), show n = 0 by omega, strk_zero, List.take_zero]; rfl
    · rw [if_neg (fun q => c q.1), LF_cons_neg c, strk_eq p l _ hl, rmA_cons]
      intro q
      obtain ⟨z, hz, e⟩ := List.mem_map.1 q
      exact hw z (LF_mem.1 (List.mem_of_mem_take hz)).1 e.symm
theorem strk_skip {p : Int} {w : Wt} {l : List Wt} {n : Nat} (h : w.key ≠ p ∨ n = 0) : strk p n (w :: l) = w :: strk p n l := if_neg (fun q => by rcases h with h | h; exact h q.1; omega)
theorem strk_hit {p : Int} {w : Wt} {l : List Wt} {n : Nat} (h : w.key = p) (hn : 0 < n) : strk p n (w :: l) = strk p (n - 1) l := if_pos ⟨h, hn⟩
def inH (p : Int) (x : Lkm) (os : List Int) : Lkm := os.foldl (fun x t => holdX x t p) x
theorem inH_snoc (p : Int) (x : Lkm) (os : List Int) (t : Int) : inH p x (os ++ [t]) = holdX (inH p x os) t p := by unfold inH; rw [List.foldl_append]; rfl
theorem inH_len (p : Int) (x : Lkm) (os : List Int) : (inH p x os).ho.length = x.ho.length + os.length := by
  unfold inH; rw [holds_form]; show (x.ho ++ _).length = _; rw [List.length_append, grH_len]
theorem whd_getD {l : List Wt} {i : Nat} (hi : i < l.length) : (l.map whd).getD i default = whd (l.getD i default) := by
  rw [List.getD_eq_getElem?_getD, List.getD_eq_getElem?_getD, List.getElem?_map, List.getElem?_eq_getElem hi]; rfl
structure GrI (x : Lkm) (p : Int) (n : Nat) (al : Bool) (dn rs : List Wt) (os : List Int) : Prop where
  a : dn ++ strk p (n - os.length) rs = rmA x.wt (admL x p n)
  b : os ++ ((LF rs p).take (n - os.length)).map (·.who) = admL x p n
  c : al = true → os.length + rs.length ≤ 8
  d : dn.length + rs.length + os.length = x.wt.length
theorem GrI.init {x : Lkm} {p : Int} {n : Nat} {al : Bool} (hw : Wd1 x.wt) (h8 : x.wt.length ≤ 8) : GrI x p n al [] x.wt [] :=
  ⟨by rw [List.nil_append, strk_eq _ _ _ hw]; rfl, by rw [List.nil_append]; rfl, fun _ => by simpa using h8, by simp⟩
theorem GrI.fin {x : Lkm} {p : Int} {n : Nat} {al : Bool} {dn : List Wt} {os : List Int} (h : GrI x p n al dn [] os) : dn = rmA x.wt (admL x p n) ∧ os = admL x p n := by
  have ha := h.a
  have hb := h.b
  rw [show strk p (n - os.length) [] = [] by cases (n - os.length) <;> rfl, List.append_nil] at ha
  rw [show LF [] p = [] from rfl, List.take_nil] at hb
  exact ⟨ha, by simpa using hb⟩
theorem GrI.skip {x : Lkm} {p : Int} {n : Nat} {al : Bool} {dn rs : List Wt} {os : List Int} {w : Wt} (h : GrI x p n al dn (w :: rs) os) (hs : w.key ≠ p ∨ n - os.length = 0) : GrI x p n al (dn ++ [w]) rs os := by
  refine ⟨?_, ?_, fun q => ?_, ?_⟩
  · rw [← h.a, strk_skip hs]; simp
  · rw [← h.b]
    rcases hs with hs | hs
    · rw [LF_cons_neg hs]
    · rw [hs, List.take_zero, List.take_zero]
  · have := h.c q; simp at this; omega
  · have := h.d; simp at this ⊢; omega
theorem GrI.hit {x : Lkm} {p : Int} {n : Nat} {al : Bool} {dn rs : List Wt} {os : List Int} {w : Wt} (h : GrI x p n al dn (w :: rs) os) (hk : w.key = p) (hn : 0 < n - os.length) : GrI x p n al dn rs (os ++ [w.who]) := by
  have e : n - (os ++ [w.who]).length = n - os.length - 1 := by rw [List.length_append]; simp; omega
  refine ⟨?_, ?_, fun q => ?_, ?_⟩
  · rw [← h.a, strk_hit hk hn, e]
  · rw [← h.b, LF_cons_pos hk, e]
    obtain ⟨m, hm⟩ : ∃ m, n - os.length = m + 1 := ⟨n - os.length - 1, by omega⟩
    rw [hm, List.take_succ_cons]; simp
  · have := h.c q; simp at this ⊢; omega
  · have := h.d; simp at this ⊢; omega
def RdT (n0 b k : Nat) (l : List Int) (x : Lkm) (u : Value) (m : Mem0) : Prop := ∃ mr mx, Sl fI 3 1 k l u mr ∧ m = mr ++ mx ∧ RkM n0 b x (x.wt.map whd) mx
theorem rkGrs_spec {n0 b k : Nat} {x : Lkm} {m : Mem0} (p : Int) (al : Bool) (w : World) (h : RkM n0 b x (x.wt.map whd) m) (hwd : Wd1 x.wt) (h8 : x.wt.length ≤ 8) (hn0 : n0 ≤ w.heap.size) (hx : x.ho.length ≤ 900) (hk : k ≤ w.heap.size) (hM : Mem w m) : Ret Tryz.prog 101 #[.pointer (some ⟨b, 0, none⟩), .int .i64 p, .bool al] w (Upd m (RdT n0 b k (admL x p (if al then 8 else 1)) (admX x p (if al then 8 else 1))) w) := by
 refine Ret.enterM Tryz.func101 rfl Tryz.ntmps101 rfl (m ++ []) ((inM m)) aM ?_
 refine wR <| LM.as rfl <| nB [(0, _), (1, _), (2, _)] <| LM.as rfl <| nA [(0, _), (1, _), (2, _), (7, _)] <| wpM.seq <| wR <| LM.as rfl <| nA [(0, _), (1, _), (2, _), (7, _), (8, _)] <| wpM.block ?_
 refine wpM.loopK0 (α := List Wt × List Wt × List Int × Option Addr × Nat × Nat × Mem0 × Mem0) (fun ⟨dn, rs, os, ad, n, cap, mo, mx⟩ => [(7, .slice ad n cap), (8, .int .i64 (dn.length : Nat))]) [(0, _), (1, _), (2, _)] (fun ⟨dn, rs, os, ad, n, cap, mo, mx⟩ => mo ++ (mx ++ [])) (fun ⟨dn, rs, os, ad, n, cap, mo, mx⟩ => GrI x p (if al then 8 else 1) al dn rs os ∧ n = os.length ∧ Sl fI 3 1 w.heap.size os (.slice ad n cap) mo ∧ RkM n0 b (inH p x os) ((dn ++ rs).map whd) mx ∧ inn m w.heap.size mx) (fun ⟨dn, rs, os, ad, n, cap, mo, mx⟩ => rs.length) (([], x.wt, [], none, 0, 0, [], m)) ⟨au2, au2, rfl, rfl, rfl, trivial⟩ au1 ⟨GrI.init hwd h8, rfl, .nil _ _ _ _, h, inn_refl _ _⟩ ?_
 rintro ⟨dn, rs, os, ad, n, cap, mo, mx⟩ ⟨hG, hn, hO, hL, hinL⟩
 change wpM _ _ _ _ _ _ _ (mo ++ (mx ++ [])) _ _ _
 have hL0 := hL; obtain ⟨adh, nh, caph, adw, nw, capw, bl, mh, mw, ml, rfl, hnh, hnw, hsh, hsw, hLe, hb⟩ := hL; refine wpM.mem (SubM.mem (M' := mo ++ (rkC b (inH p x os).sh (inH p x os).sl adh nh caph adw nw capw (inH p x os).tr bl (inH p x os).di :: (mh ++ (mw ++ (ml ++ []))))) (by rw [List.cons_append, List.append_assoc, List.append_assoc]; (repeat' (first | exact SubM.nil _ | refine SubM.cons rfl ?_ | refine SubM.app ?_)))) ?_; have hdl : ((dn ++ rs).map whd).length = dn.length + rs.length := (by rw [List.length_map, List.length_append]); have hGd := hG.d; have hil := inH_len p x os
 refine wpM.seq <| wR <| LM.mv rfl <| LM.mv rfl <| LM.nc rfl <| LM.val (ovf 56 rfl rfl rfl rfl) ?_
 refine LM.rd (oml rfl rfl rfl) ?_
 refine LM.val (ov_len Tryz.underlying56 rfl) <| LM.val (ov_lss rfl rfl) <| nA [(0, _), (1, _), (2, _), (7, _), (8, _), (15, _)] ?_
 refine wpM.condD rfl (fun h1 => ?_) (fun h1 => ?_)
 ·
  obtain ⟨v, rs2, rfl⟩ : ∃ v l, rs = v :: l := (by cases rs with | nil => exfalso; have e0 : ([] : List Wt).length = 0 := rfl; omega | cons v l => exact ⟨v, l, rfl⟩); have hgv : (List.map whd (dn ++ v :: rs2)).getD dn.length default = whd v := (by rw [whd_getD (by simp), List.getD_eq_getElem?_getD, List.getElem?_append_right (Nat.le_refl _), Nat.sub_self]; rfl); have hev : (List.map whd (dn ++ v :: rs2)).eraseIdx dn.length = List.map whd (dn ++ rs2) := (by rw [List.map_append, List.eraseIdx_append_of_length_le (by rw [List.length_map]; exact Nat.le_refl _), List.length_map, Nat.sub_self, List.map_append]; rfl); rw [List.length_cons] at hdl hGd; have hlc : (v :: rs2).length = rs2.length + 1 := List.length_cons ..
  refine wpM.skip <| QM.then <| wpM.block <| wpM.seq <| wR <| LM.mv rfl <| LM.nc rfl <| LM.val (ovf 56 rfl rfl rfl rfl) ?_
  refine LM.rd (oml rfl rfl rfl) ?_
  refine LM.mv rfl ?_
  refine LM.val (ov_idxSN au6 Tryz.underlying56 Tryz.sizeOf59 rfl rfl om) ?_
  refine LM.val (ovf 3 rfl rfl rfl rfl) ?_
  refine LM.rd (om_slE (j := 1) asm ir Tryz.isAgg3 rfl rfl au3 rfl (by rfl)) ?_
  refine LM.mv rfl <| LM.val (ov_neq rfl rfl) <| LM.mv rfl ?_
  refine LM.splitD (t := 26) rfl (fun h2 => ?_) (fun h2 => ?_)
  ·
   rw [hgv] at h2
   refine LM.dr 26 rfl rfl rfl <| LM.dr 26 rfl rfl rfl <| LM.dr 26 rfl rfl rfl ?_
   refine LM.dropU (t := 26) rfl rfl rfl ?_
   refine LM.dropX (t := 30) rfl rfl ?_
   refine LM.dropX (t := 30) rfl rfl ?_
   refine LM.dr 26 rfl rfl rfl <| LM.val (ov_pickT rfl rfl) <| nA [(0, _), (1, _), (2, _), (7, _), (8, _), (34, _)] ?_
   refine wpM.condT rfl ?_
   refine wR <| LM.mv rfl ?_
   refine LM.val (ov_add64 rfl rfl om) ?_
   refine LM.as rfl <| nA [(0, _), (1, _), (2, _), (7, _), (8, _)] <| wpM.exit <| QM.then_exit <| QM.block_hit ?_
   refine QM.againK (dn ++ [v], rs2, os, ad, n, cap, mo, rkM0 b (inH p x os) adh nh caph adw nw capw bl mh mw ml) ⟨au2, au2, rfl, rfl, rfl, trivial⟩ au1 (fun _ h => h) ?_ ?_
   · exact ⟨hG.skip (.inl h2), hn, hO, by rw [List.append_assoc]; exact hL0, hinL⟩
   · first | omega | (dsimp only; omega)
  rw [hgv] at h2; have hk2 : v.key = p := (by simpa [whd] using h2)
  refine LM.sp 26 rfl rfl rfl <| LM.mv rfl <| LM.sp 26 rfl rfl rfl <| LM.val (ov_len Tryz.underlying24 rfl) <| LM.sp 26 rfl rfl rfl <| LM.val (ov_gtr rfl rfl) <| LM.sp 26 rfl rfl rfl <| LM.mv rfl ?_
  refine LM.splitD (t := 30) rfl (fun h3 => ?_) (fun h3 => ?_)
  ·
   refine LM.sp 30 rfl rfl rfl <| LM.mv rfl <| LM.sp 30 rfl rfl rfl ?_
   first | refine LM.val (ov_notD rfl) ?_ | refine LM.val (ov_not rfl) ?_
   refine LM.sp 26 rfl rfl rfl <| LM.val (ov_pickT rfl rfl) <| LM.val (ov_pickF rfl rfl) <| nA [(0, _), (1, _), (2, _), (7, _), (8, _), (34, _)] ?_
   first | refine wpM.condD rfl (fun h4 => ?_) (fun h4 => ?_) | refine wpM.condB rfl (fun h4 => ?_) (fun h4 => ?_)
   ·
    refine wR <| LM.mv rfl ?_
    refine LM.val (ov_add64 rfl rfl om) ?_
    refine LM.as rfl <| nA [(0, _), (1, _), (2, _), (7, _), (8, _)] <| wpM.exit <| QM.then_exit <| QM.block_hit ?_
    refine QM.againK (dn ++ [v], rs2, os, ad, n, cap, mo, rkM0 b (inH p x os) adh nh caph adw nw capw bl mh mw ml) ⟨au2, au2, rfl, rfl, rfl, trivial⟩ au1 (fun _ h => h) ?_ ?_
    · have hal : al = false := (by simpa using h4); exact ⟨hG.skip (.inr (by rw [hal, if_neg (by decide)]; omega)), hn, hO, by rw [List.append_assoc]; exact hL0, hinL⟩
    · first | omega | (dsimp only; omega)
   refine wpM.skip ?_
   refine QM.then (wpM.region ?_)
   refine LM.mv rfl <| LM.mv rfl <| LM.mv rfl ?_
   refine cU Tryz.func45 rfl (fun w hm hc hg => rkGr_spec dn.length w hL0 om (Nat.le_trans hn0 hc.size) om om (hm.pick (rkM0 b (inH p x os) adh nh caph adw nw capw bl mh mw ml))) hL0.wlk (inM_inn hinL) ?_
   rintro u40 m40 ⟨rfl, h40⟩ hin40; rw [hgv, hev] at h40; rw [hgv]; rw [show (whd v).p = p from hk2] at h40
   refine LM.single Tryz.underlying24 Tryz.sizeOf3 Tryz.zeroValue3 rfl rfl rfl rfl rfl (fun b41 hb41 => ?_)
   refine LM.app (a := v.who) Tryz.underlying24 Tryz.typeInfo3 rfl rfl rfl rfl rfl rfl rfl asm (by rfl) ir (by intro _ u hu; simp [fI] at hu; (repeat (first | (rcases hu with rfl | hu) | subst hu | rfl))) (by first | exact Nat.le_refl _ | omega) (fun p hp hlt => absurd hlt (Nat.not_lt_of_le (hO.ge p hp))) (by first | omega | (unfold maxLen; omega)) (by simp only [Tryz.t3]; omega) (fun ad42 n42 cap42 m42 hn42 hs42 hin42 => ?_)
   refine LM.as rfl <| nC [(0, _), (1, _), (2, _), (7, _), (8, _)] <| QM.block_normal ?_
   refine QM.againK (dn, rs2, os ++ [v.who], ad42, n42, cap42, m42, m40) ⟨au2, au2, rfl, rfl, rfl, trivial⟩ au1 (fun _ h => h) ?_ ?_
   · have hal : al = true := (by simpa using h4); have hc8 := hG.c hal; rw [List.length_cons] at hc8; exact ⟨hG.hit hk2 (by rw [hal, if_pos rfl]; omega), by rw [List.length_append, List.length_singleton]; omega, hs42, by rw [inH_snoc]; exact h40, inn_trans hinL hin40⟩
   · first | omega | (dsimp only; omega)
  refine LM.dr 30 rfl rfl rfl <| LM.dr 30 rfl rfl rfl <| LM.sp 26 rfl rfl rfl <| LM.val (ov_pickF rfl rfl) <| LM.val (ov_pickF rfl rfl) <| nA [(0, _), (1, _), (2, _), (7, _), (8, _), (34, _)] ?_
  refine wpM.condF rfl ?_
  refine wpM.skip ?_
  refine QM.then (wpM.region ?_)
  refine LM.mv rfl <| LM.mv rfl <| LM.mv rfl ?_
  refine cU Tryz.func45 rfl (fun w hm hc hg => rkGr_spec dn.length w hL0 om (Nat.le_trans hn0 hc.size) om om (hm.pick (rkM0 b (inH p x os) adh nh caph adw nw capw bl mh mw ml))) hL0.wlk (inM_inn hinL) ?_
  rintro u40 m40 ⟨rfl, h40⟩ hin40; rw [hgv, hev] at h40; rw [hgv]; rw [show (whd v).p = p from hk2] at h40
  refine LM.single Tryz.underlying24 Tryz.sizeOf3 Tryz.zeroValue3 rfl rfl rfl rfl rfl (fun b41 hb41 => ?_)
  refine LM.app (a := v.who) Tryz.underlying24 Tryz.typeInfo3 rfl rfl rfl rfl rfl rfl rfl asm (by rfl) ir (by intro _ u hu; simp [fI] at hu; (repeat (first | (rcases hu with rfl | hu) | subst hu | rfl))) (by first | exact Nat.le_refl _ | omega) (fun p hp hlt => absurd hlt (Nat.not_lt_of_le (hO.ge p hp))) (by first | omega | (unfold maxLen; omega)) (by simp only [Tryz.t3]; omega) (fun ad42 n42 cap42 m42 hn42 hs42 hin42 => ?_)
  refine LM.as rfl <| nC [(0, _), (1, _), (2, _), (7, _), (8, _)] <| QM.block_normal ?_
  refine QM.againK (dn, rs2, os ++ [v.who], ad42, n42, cap42, m42, m40) ⟨au2, au2, rfl, rfl, rfl, trivial⟩ au1 (fun _ h => h) ?_ ?_
  · exact ⟨hG.hit hk2 (by have : os.length = 0 := om; rw [this]; cases al <;> decide), by rw [List.length_append, List.length_singleton]; omega, hs42, by rw [inH_snoc]; exact h40, inn_trans hinL hin40⟩
  · first | omega | (dsimp only; omega)
 refine wpM.exit <| QM.then_exit <| QM.then_exit <| QM.block_hit <| tR <| LM.mv rfl <| LM.as rfl <| nA [(6, _)] <| wpM.ret ?_
 refine qL Tryz.results101 rfl fun w' hm' hc' hg' => ?_
 have hrs : rs = [] := (by apply List.eq_nil_of_length_eq_zero; omega); subst hrs; obtain ⟨hf1, hf2⟩ := hG.fin; subst hf2; refine upd_m (m' := mo ++ rkM0 b (inH p x (admL x p (if al then 8 else 1))) adh nh caph adw nw capw bl mh mw ml) ⟨mo, _, hO.mono hk, rfl, ?_⟩ hm' au1 hc' (inn_app (fun p hp => .inl (hO.ge p hp)) hinL); rw [admX_wt, ← hf1, admX_form]; rw [List.append_nil] at hL0; unfold inH at hL0 ⊢; rw [holds_form] at hL0 ⊢; exact hL0
theorem Sl.one1 {α : Type} {f : α → List Value} {E s n0 b : Nat} (a : α) (hb : n0 ≤ b) (hf : (f a).length = s) : Sl f E s n0 [a] (.slice (some ⟨b, 0, none⟩) 1 1) [(b, .cells (f a).toArray E (0, 0))] :=
  .inr ⟨b, 1, [], hb, rfl, by simp [arr], Nat.le_refl _, by decide, by rw [List.length_singleton, Nat.one_mul]; rfl⟩
theorem wa_key (L : List Wt) : (L.map whd).map (·.p) = L.map (·.key) := by rw [List.map_map]; rfl
theorem wa_who (L : List Wt) (t : Int) : (L.map whd).any (fun h => decide (h.t = t)) = L.any (fun w => decide (w.who = t)) := by rw [List.any_map]; rfl
theorem wa_par (L : List Wt) (p : Int) : (L.map whd).any (fun h => decide (h.p = p)) = L.any (fun w => decide (w.key = p)) := by rw [List.any_map]; rfl
theorem cnt_any (L : List Wt) (p : Int) : decide (cntL L p = 0) = !(L.any (fun w => decide (w.key = p))) := by
  by_cases c : cntL L p = 0
  · rw [decide_eq_true c]
    have : LF L p = [] := List.eq_nil_of_length_eq_zero c
    have h2 : L.any (fun w => decide (w.key = p)) = false := by
      rw [List.any_eq_false]; intro w hw q
      have := LF_mem.2 ⟨hw, of_decide_eq_true q⟩
      rw [‹LF L p = []›] at this; cases this
    rw [h2]; rfl
  · rw [decide_eq_false c]
    have h2 : L.any (fun w => decide (w.key = p)) = true := by
      rw [List.any_eq_true]
      cases hl : LF L p with
      | nil => exfalso; apply c; unfold cntL; rw [hl]; rfl
      | cons w l =>
        have : w ∈ LF L p := by rw [hl]; exact List.mem_cons_self ..
        have := LF_mem.1 this
        exact ⟨w, this.1, decide_eq_true this.2⟩
    rw [h2]; rfl
theorem hold_any {x : Lkm} (h : LkV x) (hs : x.sh = true) (h0 : 0 < x.ho.length) : (!(x.ho.any (fun g => decide (g.p = 1)))) = decide ((x.ho.getD 0 default).p = 0) := by
  have hin : ∀ g ∈ x.ho, g.p = 0 ∨ g.p = 1 := fun g hg => by
    obtain ⟨i, hi, hil⟩ := isO_at (h.hk g hg)
    rw [h.l2 hs] at hil; omega
  cases hx : x.ho with
  | nil => rw [hx] at h0; cases h0
  | cons a l =>
    show _ = decide (a.p = 0)
    have ha : a ∈ x.ho := by rw [hx]; exact List.mem_cons_self ..
    by_cases c : a.p = 0
    · rw [decide_eq_true c]
      have : (a :: l).any (fun g => decide (g.p = 1)) = false := by
        rw [List.any_eq_false]; intro g hg q
        have q2 := of_decide_eq_true q
        rcases h.rd hs with r | r
        · have := r g (by rw [hx]; exact hg); omega
        · rw [hx] at r; have hl : l = [] := List.eq_nil_of_length_eq_zero (by simp at r; simp [r])
          subst hl; rcases List.mem_singleton.1 hg with rfl; omega
      rw [this]; rfl
    · rw [decide_eq_false c]
      have : a.p = 1 := by rcases hin a ha with q | q; exact absurd q c; exact q
      rw [List.any_cons, decide_eq_true this]; rfl
theorem free_eq {x : Lkm} (h : LkV x) (p : Int) : (isO x.ld p && (decide (x.ho.length = 0) || (x.sh && decide (p = 0) && !(x.ho.any (fun h => decide (h.p = 1))) && (!((x.wt.map whd).any (fun h => decide (h.p = 1))) || mayT x.tr x.sl 0)))) = freeO x p := by
  unfold freeO readO
  rw [wa_par, cnt_any]
  by_cases c0 : x.ho.length = 0
  · rw [decide_eq_true c0]; simp
  · rw [decide_eq_false c0, decide_eq_true (show 0 < x.ho.length by omega)]
    cases hs : x.sh with
    | false => simp
    | true =>
      rw [hold_any h hs om]
      cases isO x.ld p <;> cases decide (p = 0) <;> cases decide ((x.ho.getD 0 default).p = 0) <;> simp
theorem rkFree_spec {n0 b : Nat} {x : Lkm} {m : Mem0} (p : Int) (w : World) (hv : LkV x) (h : RkM n0 b x (x.wt.map whd) m) (hM : Mem w m) :
    Ret Tryz.prog 26 #[.pointer (some ⟨b, 0, none⟩), .int .i64 p] w (fun u w' => u = .bool (freeO x p) ∧ Ext w w') := by
  have h1 := rkFree0_spec p w h hM
  rw [free_eq hv] at h1; exact h1
def noW (x : Lkm) : Bool := x.sh && !(x.ho.any (fun g => decide (g.p = 1))) && !(x.wt.any (fun w => decide (w.key = 1)))
def onL (x : Lkm) : List Int := if x.wt.length = 0 then [] else if x.ho.length = 0 then passL x else if noW x = true then admL x 0 8 else []
def onX (x : Lkm) : Lkm := if x.wt.length = 0 then x else if x.ho.length = 0 then passX x else if noW x = true then admX x 0 8 else x
theorem pass_eq {x : Lkm} (h : ¬ x.wt.length = 0) : passL x = admL (turnX x) (turnX x).tr.p (passN x) ∧ passX x = admX (turnX x) (turnX x).tr.p (passN x) := ⟨if_neg h, if_neg h⟩
theorem passN_if (x : Lkm) : passN x = if (x.sh && decide ((turnX x).tr.p = 0)) = true then 8 else 1 := by
  unfold passN; congr 1; simp
theorem rkOn_spec {n0 b k : Nat} {x : Lkm} {m : Mem0} (w : World) (hv : LkV x) (h : RkM n0 b x (x.wt.map whd) m) (hn0 : n0 ≤ w.heap.size) (hx : x.ho.length ≤ 900) (hk : k ≤ w.heap.size) (hM : Mem w m) : Ret Tryz.prog 54 #[.pointer (some ⟨b, 0, none⟩)] w (Upd m (RdT n0 b k (onL x) (onX x)) w) := by
 have hRk := h; obtain ⟨adh, nh, caph, adw, nw, capw, bl, mh, mw, ml, rfl, hnh, hnw, hsh, hsw, hLe, hb⟩ := h; have hwl : (x.wt.map whd).length = x.wt.length := List.length_map ..
 refine Ret.enterM Tryz.func54 rfl Tryz.ntmps54 rfl (rkC b x.sh x.sl adh nh caph adw nw capw x.tr bl x.di :: (mh ++ (mw ++ (ml ++ [])))) ((inM (rkM0 b x adh nh caph adw nw capw bl mh mw ml))) aM ?_
 refine wR <| LM.as rfl <| nA [(0, _)] <| wpM.seq <| wR <| LM.mv rfl <| LM.nc rfl <| LM.val (ovf 56 rfl rfl rfl rfl) ?_
 refine LM.rd (oml rfl rfl rfl) ?_
 refine LM.val (ov_len Tryz.underlying56 rfl) <| LM.val (ov_eql rfl rfl) <| nA [(0, _), (9, _)] ?_
 refine wpM.condD rfl (fun h1 => ?_) (fun h1 => ?_)
 ·
  refine wR <| LM.as rfl <| nA [(2, _)] <| wpM.ret <| QM.then_ret ?_
  refine qL Tryz.results54 rfl fun w' hm' hc' hg' => ?_
  have hz : x.wt.length = 0 := om; rw [show onL x = [] from if_pos hz, show onX x = x from if_pos hz]; exact upd_m (m' := rkM0 b x adh nh caph adw nw capw bl mh mw ml) ⟨[], _, Sl.nil _ _ _ _, rfl, hRk⟩ hm' au1 hc' (inn_refl _ _)
 refine wpM.skip <| QM.then <| wpM.seq <| wR <| LM.mv rfl <| LM.nc rfl <| LM.val (ovf 56 rfl rfl rfl rfl) ?_
 refine LM.rd (oml rfl rfl rfl) ?_
 refine LM.val (ov_len Tryz.underlying56 rfl) <| LM.val (ov_eql rfl rfl) <| nA [(0, _), (15, _)] ?_
 refine wpM.condD rfl (fun h2 => ?_) (fun h2 => ?_)
 ·
  refine wR <| LM.mv rfl <| LM.nc rfl <| LM.val (ovf 56 rfl rfl rfl rfl) ?_
  refine LM.rd (oml rfl rfl rfl) ?_
  refine cE Tryz.func92 rfl (fun w hm hc hg => rset_spec 0#64 w hnw (hsw.srM ir hm) hsw.len.2.1) ?_
  generalize hs1 : List.foldl withS 0#64 (List.map (fun h => h.p) (List.map whd x.wt)) = s1; have hs2 : s1 = waitS x := (by rw [← hs1]; unfold waitS keyS; rw [← wa_key]); subst hs2
  refine LM.as rfl <| nA [(0, _), (3, _)] <| wpM.seq ?_
  refine wpM.draw [(0, 0), (1, 0), (2, 0), (3, 0), (4, 1), (5, 0), (6, 0), (7, 0), (8, 1), (9, 0), (10, 0), (11, 0), (12, 0), (13, 1), (14, 0), (15, 2), (16, 2), (17, 0), (18, 0), (19, 3)] kr kr ?_
  refine LD.val rfl rfl (ov_move rfl) <| LD.val rfl rfl (ov_move rfl) <| LD.val rfl rfl (ov_nilCheck rfl) <| LD.val rfl rfl (ovf 64 rfl rfl rfl rfl) ?_
  first | refine LD.rd rfl rfl (om_ldW Tryz.isAgg64 Tryz.sizeOf64 rfl rfl) ?_ | refine LD.rd rfl rfl (om_ldA Tryz.isAgg64 Tryz.sizeOf64 rfl (vs := [_, _]) rfl ⟨rfl, rfl, trivial⟩) ?_
  refine LD.val rfl rfl (ov_move rfl) <| LD.val rfl rfl (ov_nilCheck rfl) <| LD.val rfl rfl (ovf 3 rfl rfl rfl rfl) ?_
  refine LD.rd rfl rfl (oml rfl rfl rfl) ?_
  refine LD.val rfl rfl (ov_move rfl) <| LD.val rfl rfl (ov_move rfl) <| LD.val rfl rfl (ov_nilCheck rfl) <| LD.val rfl rfl (ovf 76 rfl rfl rfl rfl) ?_
  refine LD.rd rfl rfl (oml rfl rfl rfl) ?_
  refine LD.val rfl rfl (ov_move rfl) ?_
  refine dE rfl rfl Tryz.func100 rfl (fun w hm hc hg => rdLst_spec _ w hLe (hm.pick ml)) ?_
  refine dE rfl rfl Tryz.func99 rfl (fun w hm hc hg => rtnext_spec x.tr _ _ _ w) ?_
  refine LD.val rfl rfl (ov_nilCheck rfl) <| LD.val rfl rfl (ovf 64 rfl rfl rfl rfl) ?_
  refine LD.tail rfl rfl ?_
  refine LM.st Tryz.sizeOf64 rfl rfl rfl au5 rfl auH ?_
  refine LM.mem (SubM.mem (M' := rkC b x.sh x.sl adh nh caph adw nw capw (turnX x).tr bl x.di :: (mh ++ (mw ++ (ml ++ [])))) au1) ?_
  refine LM.nil ?_
  refine QM.qn ?_
  refine QM.sub (e' := [(0, _)]) ⟨rfl, trivial⟩ (QM.then ?_)
  refine wpM.seq ?_
  refine wpM.draw [(0, 0), (1, 0), (2, 0), (3, 0), (4, 0), (5, 1), (6, 0), (7, 0), (8, 0), (9, 1), (10, 0), (11, 0), (12, 0), (13, 0), (14, 0), (15, 1), (16, 0), (17, 0), (18, 3), (19, 3)] kr kr ?_
  refine LD.val rfl rfl (ov_move rfl) <| LD.val rfl rfl (ov_move rfl) <| LD.val rfl rfl (ov_nilCheck rfl) <| LD.val rfl rfl (ovf 64 rfl rfl rfl rfl) <| LD.val rfl rfl (ovf 3 rfl rfl rfl rfl) ?_
  refine LD.rd rfl rfl (oml rfl rfl rfl) ?_
  refine LD.val rfl rfl (ov_move rfl) <| LD.val rfl rfl (ov_nilCheck rfl) <| LD.val rfl rfl (ovf 4 rfl rfl rfl rfl) ?_
  refine LD.rd rfl rfl (oml rfl rfl rfl) ?_
  refine LD.val rfl rfl (ov_move rfl) ?_
  first | refine LD.splitD (t := 50) rfl (fun h3 => ?_) (fun h3 => ?_) | refine LD.splitB (t := 50) rfl (fun h3 => ?_) (fun h3 => ?_)
  ·
   refine LD.val rfl ⟨50, _, rfl, rfl, rfl⟩ (ov_move rfl) <| LD.val rfl ⟨50, _, rfl, rfl, rfl⟩ (ov_nilCheck rfl) <| LD.val rfl ⟨50, _, rfl, rfl, rfl⟩ (ovf 64 rfl rfl rfl rfl) <| LD.val rfl ⟨50, _, rfl, rfl, rfl⟩ (ovf 3 rfl rfl rfl rfl) ?_
   refine LD.rd rfl ⟨50, _, rfl, rfl, rfl⟩ (oml rfl rfl rfl) ?_
   refine LD.val rfl ⟨50, _, rfl, rfl, rfl⟩ (ov_eql rfl rfl) ?_
   refine LD.val rfl rfl (ov_pickT rfl rfl) ?_
   refine LD.tail rfl rfl ?_
   have hF : RkM n0 b (turnX x) ((turnX x).wt.map whd) (rkC b x.sh x.sl adh nh caph adw nw capw (turnX x).tr bl x.di :: (mh ++ (mw ++ ml))) := ⟨adh, nh, caph, adw, nw, capw, bl, mh, mw, ml, rfl, hnh, hnw, hsh, hsw, hLe, hb⟩
   refine cU Tryz.func101 rfl (fun w hm hc hg => rkGrs_spec (k := k) _ _ w hF hv.wd hv.w8 (Nat.le_trans hn0 hc.size) hx (Nat.le_trans hk hc.size) (hm.pick (rkC b x.sh x.sl adh nh caph adw nw capw (turnX x).tr bl x.di :: (mh ++ (mw ++ ml))))) hF.wlk (fun q hq _ => inM_hd q hq rfl) ?_
   rintro u58 m58 ⟨mr58, mx58, hr58, rfl, h58⟩ hin58
   refine LM.as rfl ?_
   refine LM.nil ?_
   refine QM.qn ?_
   refine QM.sub (e' := [(2, _)]) ⟨rfl, trivial⟩ (QM.then ?_)
   refine wpM.ret <| QM.then_ret ?_
   refine qL Tryz.results54 rfl fun w' hm' hc' hg' => ?_
   have hz : ¬ x.wt.length = 0 := om; have h0 : x.ho.length = 0 := om; have e1 : onL x = passL x := (by unfold onL; rw [if_neg hz, if_pos h0]); have e2 : onX x = passX x := (by unfold onX; rw [if_neg hz, if_pos h0]); rw [e1, e2, (pass_eq hz).1, (pass_eq hz).2, passN_if, h3, Bool.true_and]; exact upd_m (m' := mr58 ++ mx58) ⟨mr58, mx58, hr58, rfl, h58⟩ hm' au1 hc' (inn_hd hin58 rfl)
  refine LD.drop rfl rfl ⟨50, _, rfl, rfl, rfl⟩ <| LD.drop rfl rfl ⟨50, _, rfl, rfl, rfl⟩ <| LD.drop rfl rfl ⟨50, _, rfl, rfl, rfl⟩ <| LD.drop rfl rfl ⟨50, _, rfl, rfl, rfl⟩ <| LD.drop rfl rfl ⟨50, _, rfl, rfl, rfl⟩ <| LD.drop rfl rfl ⟨50, _, rfl, rfl, rfl⟩ ?_
  refine LD.val rfl rfl (ov_pickF rfl rfl) ?_
  refine LD.tail rfl rfl ?_
  have hF : RkM n0 b (turnX x) ((turnX x).wt.map whd) (rkC b x.sh x.sl adh nh caph adw nw capw (turnX x).tr bl x.di :: (mh ++ (mw ++ ml))) := ⟨adh, nh, caph, adw, nw, capw, bl, mh, mw, ml, rfl, hnh, hnw, hsh, hsw, hLe, hb⟩
  refine cU Tryz.func101 rfl (fun w hm hc hg => rkGrs_spec (k := k) _ _ w hF hv.wd hv.w8 (Nat.le_trans hn0 hc.size) hx (Nat.le_trans hk hc.size) (hm.pick (rkC b x.sh x.sl adh nh caph adw nw capw (turnX x).tr bl x.di :: (mh ++ (mw ++ ml))))) hF.wlk (fun q hq _ => inM_hd q hq rfl) ?_
  rintro u58 m58 ⟨mr58, mx58, hr58, rfl, h58⟩ hin58
  refine LM.as rfl ?_
  refine LM.nil ?_
  refine QM.qn ?_
  refine QM.sub (e' := [(2, _)]) ⟨rfl, trivial⟩ (QM.then ?_)
  refine wpM.ret <| QM.then_ret ?_
  refine qL Tryz.results54 rfl fun w' hm' hc' hg' => ?_
  have hz : ¬ x.wt.length = 0 := om; have h0 : x.ho.length = 0 := om; have e1 : onL x = passL x := (by unfold onL; rw [if_neg hz, if_pos h0]); have e2 : onX x = passX x := (by unfold onX; rw [if_neg hz, if_pos h0]); rw [e1, e2, (pass_eq hz).1, (pass_eq hz).2, passN_if, h3, Bool.false_and]; exact upd_m (m' := mr58 ++ mx58) ⟨mr58, mx58, hr58, rfl, h58⟩ hm' au1 hc' (inn_hd hin58 rfl)
 refine wpM.skip <| QM.then <| wpM.seq <| wR <| LM.mv rfl <| LM.nc rfl <| LM.val (ovf 4 rfl rfl rfl rfl) ?_
 refine LM.rd (oml rfl rfl rfl) ?_
 refine LM.mv rfl ?_
 first | refine LM.splitD (t := 63) rfl (fun h4 => ?_) (fun h4 => ?_) | refine LM.splitB (t := 63) rfl (fun h4 => ?_) (fun h4 => ?_)
 ·
  refine LM.sp 63 rfl rfl rfl <| LM.mv rfl <| LM.sp 63 rfl rfl rfl <| LM.nc rfl <| LM.sp 63 rfl rfl rfl <| LM.val (ovf 56 rfl rfl rfl rfl) <| LM.sp 63 rfl rfl rfl ?_
  refine LM.rd (oml rfl rfl rfl) ?_
  refine LM.sp 63 rfl rfl rfl ?_
  refine cE Tryz.func73 rfl (fun w hm hc hg => rhasp_spec 1 w hnh (hsh.srM ir hm) hsh.len.2.1) ?_
  refine LM.sp 63 rfl rfl rfl ?_
  first | refine LM.val (ov_notD rfl) ?_ | refine LM.val (ov_not rfl) ?_
  refine LM.val (ov_pickT rfl rfl) <| LM.mv rfl ?_
  first | refine LM.splitD (t := 71) rfl (fun h5 => ?_) (fun h5 => ?_) | refine LM.splitB (t := 71) rfl (fun h5 => ?_) (fun h5 => ?_)
  ·
   refine LM.sp 71 rfl rfl rfl <| LM.mv rfl <| LM.sp 71 rfl rfl rfl <| LM.nc rfl <| LM.sp 71 rfl rfl rfl <| LM.val (ovf 56 rfl rfl rfl rfl) <| LM.sp 71 rfl rfl rfl ?_
   refine LM.rd (oml rfl rfl rfl) ?_
   refine LM.sp 71 rfl rfl rfl ?_
   refine cE Tryz.func73 rfl (fun w hm hc hg => rhasp_spec 1 w hnw (hsw.srM ir hm) hsw.len.2.1) ?_
   refine LM.sp 71 rfl rfl rfl ?_
   first | refine LM.val (ov_notD rfl) ?_ | refine LM.val (ov_not rfl) ?_
   refine LM.val (ov_pickT rfl rfl) <| nA [(0, _), (78, _)] ?_
   first | refine wpM.condD rfl (fun h6 => ?_) (fun h6 => ?_) | refine wpM.condB rfl (fun h6 => ?_) (fun h6 => ?_)
   ·
    refine wR <| LM.mv rfl ?_
    refine cU Tryz.func101 rfl (fun w hm hc hg => rkGrs_spec (k := k) 0 true w hRk hv.wd hv.w8 (Nat.le_trans hn0 hc.size) hx (Nat.le_trans hk hc.size) (hm.pick (rkM0 b x adh nh caph adw nw capw bl mh mw ml))) hRk.wlk (fun q hq _ => ⟨q, hq, rfl⟩) ?_
    rintro u80 m80 ⟨mr80, mx80, hr80, rfl, h80⟩ hin80
    refine LM.as rfl <| nA [(2, _)] <| wpM.ret <| QM.then_ret ?_
    refine qL Tryz.results54 rfl fun w' hm' hc' hg' => ?_
    have hn : noW x = true := (by unfold noW; rw [← wa_par, h4, h5, h6]; rfl); have hz : ¬ x.wt.length = 0 := om; have h0 : ¬ x.ho.length = 0 := om; have e1 : onL x = admL x 0 8 := (by unfold onL; rw [if_neg hz, if_neg h0, if_pos hn]); have e2 : onX x = admX x 0 8 := (by unfold onX; rw [if_neg hz, if_neg h0, if_pos hn]); rw [e1, e2]; exact upd_m (m' := mr80 ++ mx80) ⟨mr80, mx80, hr80, rfl, h80⟩ hm' au1 hc' hin80
   refine wpM.skip <| tR <| LM.as rfl <| nA [(2, _)] <| wpM.ret ?_
   refine qL Tryz.results54 rfl fun w' hm' hc' hg' => ?_
   have hn : noW x = false := (by unfold noW; rw [← wa_par, h6]; simp); have hz : ¬ x.wt.length = 0 := om; have h0 : ¬ x.ho.length = 0 := om; have e1 : onL x = [] := (by unfold onL; rw [if_neg hz, if_neg h0, if_neg (by rw [hn]; simp)]); have e2 : onX x = x := (by unfold onX; rw [if_neg hz, if_neg h0, if_neg (by rw [hn]; simp)]); rw [e1, e2]; exact upd_m (m' := rkM0 b x adh nh caph adw nw capw bl mh mw ml) ⟨[], _, Sl.nil _ _ _ _, rfl, hRk⟩ hm' au1 hc' (inn_refl _ _)
  refine LM.dr 71 rfl rfl rfl <| LM.dr 71 rfl rfl rfl <| LM.dr 71 rfl rfl rfl <| LM.dr 71 rfl rfl rfl <| LM.dr 71 rfl rfl rfl <| LM.dr 71 rfl rfl rfl <| LM.val (ov_pickF rfl rfl) <| nA [(0, _), (78, _)] ?_
  refine wpM.condF rfl ?_
  refine wpM.skip <| tR <| LM.as rfl <| nA [(2, _)] <| wpM.ret ?_
  refine qL Tryz.results54 rfl fun w' hm' hc' hg' => ?_
  have hn : noW x = false := (by unfold noW; rw [h5]; simp); have hz : ¬ x.wt.length = 0 := om; have h0 : ¬ x.ho.length = 0 := om; have e1 : onL x = [] := (by unfold onL; rw [if_neg hz, if_neg h0, if_neg (by rw [hn]; simp)]); have e2 : onX x = x := (by unfold onX; rw [if_neg hz, if_neg h0, if_neg (by rw [hn]; simp)]); rw [e1, e2]; exact upd_m (m' := rkM0 b x adh nh caph adw nw capw bl mh mw ml) ⟨[], _, Sl.nil _ _ _ _, rfl, hRk⟩ hm' au1 hc' (inn_refl _ _)
 refine LM.dr 63 rfl rfl rfl <| LM.dr 63 rfl rfl rfl <| LM.dr 63 rfl rfl rfl <| LM.dr 63 rfl rfl rfl <| LM.dr 63 rfl rfl rfl <| LM.dr 63 rfl rfl rfl <| LM.val (ov_pickF rfl rfl) <| LM.mv rfl <| LM.dr 71 rfl rfl rfl <| LM.dr 71 rfl rfl rfl <| LM.dr 71 rfl rfl rfl <| LM.dr 71 rfl rfl rfl <| LM.dr 71 rfl rfl rfl <| LM.dr 71 rfl rfl rfl <| LM.val (ov_pickF rfl rfl) <| nA [(0, _), (78, _)] ?_
 refine wpM.condF rfl ?_
 refine wpM.skip <| tR <| LM.as rfl <| nA [(2, _)] <| wpM.ret ?_
 refine qL Tryz.results54 rfl fun w' hm' hc' hg' => ?_
 have hn : noW x = false := (by unfold noW; rw [h4]; simp); have hz : ¬ x.wt.length = 0 := om; have h0 : ¬ x.ho.length = 0 := om; have e1 : onL x = [] := (by unfold onL; rw [if_neg hz, if_neg h0, if_neg (by rw [hn]; simp)]); have e2 : onX x = x := (by unfold onX; rw [if_neg hz, if_neg h0, if_neg (by rw [hn]; simp)]); rw [e1, e2]; exact upd_m (m' := rkM0 b x adh nh caph adw nw capw bl mh mw ml) ⟨[], _, Sl.nil _ _ _ _, rfl, hRk⟩ hm' au1 hc' (inn_refl _ _)
theorem take_wt (x : Lkm) (t p : Int) : (takeX x t p).wt = x.wt := by
  unfold takeX; split
  · rfl
  · show (firstX x p).wt = x.wt; exact (first_core x p).2.2.1
theorem rkTake_spec {n0 b : Nat} {x : Lkm} {m : Mem0} (t p : Int) (w : World) (hv : LkV x) (h : RkM n0 b x (x.wt.map whd) m) (hn0 : n0 ≤ w.heap.size) (hx : x.ho.length ≤ 900) (hM : Mem w m) : Ret Tryz.prog 12 #[.pointer (some ⟨b, 0, none⟩), .int .i64 t, .int .i64 p] w (Upd m (fun u m' => u = .int .i64 (takeE x t p) ∧ RkM n0 b (takeX x t p) ((takeX x t p).wt.map whd) m') w) := by
 have hRk := h; obtain ⟨adh, nh, caph, adw, nw, capw, bl, mh, mw, ml, rfl, hnh, hnw, hsh, hsw, hLe, hb⟩ := h; have hwl : (x.wt.map whd).length = x.wt.length := List.length_map ..; have hw8 := hv.w8
 refine Ret.enterM Tryz.func12 rfl Tryz.ntmps12 rfl (rkC b x.sh x.sl adh nh caph adw nw capw x.tr bl x.di :: (mh ++ (mw ++ (ml ++ [])))) ((inM (rkM0 b x adh nh caph adw nw capw bl mh mw ml))) aM ?_
 refine wR <| LM.as rfl <| nB [(0, _), (1, _), (2, _)] <| LM.mv rfl <| LM.mv rfl <| LM.mv rfl ?_
 refine cE Tryz.func43 rfl (fun w hm hc hg => rkMay_spec t p w hRk (wa_who _ _) (hm.pick (rkM0 b x adh nh caph adw nw capw bl mh mw ml))) ?_
 refine LM.as rfl <| nA [(0, _), (1, _), (2, _), (7, _)] <| wpM.seq <| wR <| LM.mv rfl <| LM.val (ov_neq rfl rfl) <| nA [(0, _), (1, _), (2, _), (7, _), (13, _)] ?_
 refine wpM.condD rfl (fun h1 => ?_) (fun h1 => ?_)
 ·
  refine wR <| LM.mv rfl <| LM.as rfl <| nA [(6, _)] <| wpM.ret <| QM.then_ret ?_
  refine qL Tryz.results12 rfl fun w' hm' hc' hg' => ?_
  have e1 : takeE x t p = comesE x t p := if_pos (by simpa using h1); have e2 : takeX x t p = x := if_pos (by rw [e1]; simpa using h1); rw [e1, e2]; exact upd_m (m' := rkM0 b x adh nh caph adw nw capw bl mh mw ml) ⟨rfl, hRk⟩ hm' au1 hc' (inn_refl _ _)
 refine wpM.skip <| QM.then <| wpM.seq <| wR <| LM.mv rfl <| LM.mv rfl ?_
 refine cE Tryz.func26 rfl (fun w hm hc hg => rkFree_spec p w hv hRk (hm.pick (rkM0 b x adh nh caph adw nw capw bl mh mw ml))) ?_
 first | refine LM.val (ov_notD rfl) ?_ | refine LM.val (ov_not rfl) ?_
 refine nA [(0, _), (1, _), (2, _), (18, _)] ?_
 first | refine wpM.condD rfl (fun h2 => ?_) (fun h2 => ?_) | refine wpM.condB rfl (fun h2 => ?_) (fun h2 => ?_)
 ·
  refine wR <| LM.as rfl <| nA [(6, _)] <| wpM.ret <| QM.then_ret ?_
  refine qL Tryz.results12 rfl fun w' hm' hc' hg' => ?_
  have k1 : comesE x t p = 0 := (by simpa using h1); have k2 : ¬ freeO x p = true := (by simpa using h2); have e1 : takeE x t p = 8 := (by unfold takeE; rw [if_neg (by rw [k1]; simp), if_neg k2]); have e2 : takeX x t p = x := if_pos (by rw [e1]; decide); rw [e1, e2]; exact upd_m (m' := rkM0 b x adh nh caph adw nw capw bl mh mw ml) ⟨rfl, hRk⟩ hm' au1 hc' (inn_refl _ _)
 refine wpM.skip <| QM.then <| wpM.seq <| wpM.seq ?_
 refine wpM.draw [(0, 0), (1, 0), (2, 0), (3, 1), (4, 0), (5, 0), (6, 0), (7, 0), (8, 0), (9, 0), (10, 1), (11, 0), (12, 0), (13, 0), (14, 1), (15, 0), (16, 2), (17, 0), (18, 0)] kr kr ?_
 refine LD.val rfl rfl (ov_move rfl) <| LD.val rfl rfl (ov_nilCheck rfl) <| LD.val rfl rfl (ovf 56 rfl rfl rfl rfl) ?_
 refine LD.rd rfl rfl (oml rfl rfl rfl) ?_
 refine LD.val rfl rfl (ov_len Tryz.underlying56 rfl) ?_
 refine LD.val rfl rfl (ov_eql rfl rfl) ?_
 refine LD.val rfl rfl (ov_move rfl) ?_
 refine LD.splitD (t := 25) rfl (fun h3 => ?_) (fun h3 => ?_)
 ·
  refine LD.val rfl ⟨25, _, rfl, rfl, rfl⟩ (ov_move rfl) <| LD.val rfl ⟨25, _, rfl, rfl, rfl⟩ (ov_nilCheck rfl) <| LD.val rfl ⟨25, _, rfl, rfl, rfl⟩ (ovf 64 rfl rfl rfl rfl) ?_
  first | refine LD.rd rfl ⟨25, _, rfl, rfl, rfl⟩ (om_ldW Tryz.isAgg64 Tryz.sizeOf64 rfl rfl) ?_ | refine LD.rd rfl ⟨25, _, rfl, rfl, rfl⟩ (om_ldA Tryz.isAgg64 Tryz.sizeOf64 rfl (vs := [_, _]) rfl ⟨rfl, rfl, trivial⟩) ?_
  refine LD.val rfl ⟨25, _, rfl, rfl, rfl⟩ (ov_move rfl) <| LD.val rfl ⟨25, _, rfl, rfl, rfl⟩ (ov_nilCheck rfl) <| LD.val rfl ⟨25, _, rfl, rfl, rfl⟩ (ovf 3 rfl rfl rfl rfl) ?_
  refine LD.rd rfl ⟨25, _, rfl, rfl, rfl⟩ (oml rfl rfl rfl) ?_
  refine LD.val rfl ⟨25, _, rfl, rfl, rfl⟩ (ov_move rfl) ?_
  refine dE rfl ⟨25, _, rfl, rfl, rfl⟩ Tryz.func44 rfl (fun w hm hc hg => rtmay_spec x.tr _ _ w) ?_
  first | refine LD.val rfl ⟨25, _, rfl, rfl, rfl⟩ (ov_notD rfl) ?_ | refine LD.val rfl ⟨25, _, rfl, rfl, rfl⟩ (ov_not rfl) ?_
  refine LD.val rfl rfl (ov_pickT rfl rfl) ?_
  refine LD.nil ?_
  refine QM.sub (e' := [(0, _), (1, _), (2, _), (37, _)]) au9 (QM.then ?_)
  refine wpM.joinK (α := Trn) (fun tr => []) [(0, _), (1, _), (2, _)] (fun tr => rkC b x.sh x.sl adh nh caph adw nw capw tr bl x.di :: (mh ++ (mw ++ (ml ++ [])))) (fun tr => { x with tr := tr } = firstX x p) ⟨rfl, rfl, rfl, trivial⟩ ?_ ?_
  ·
   first | refine wpM.condD rfl (fun h4 => ?_) (fun h4 => ?_) | refine wpM.condB rfl (fun h4 => ?_) (fun h4 => ?_)
   ·
    refine wpM.region ?_
    refine LM.mv rfl <| LM.mv rfl ?_
    refine LM.val (ov_build (cs := #[.int .i64 p, .int .i64 0]) rfl kr) ?_
    refine LM.nc rfl <| LM.val (ovf 64 rfl rfl rfl rfl) ?_
    refine LM.st Tryz.sizeOf64 rfl rfl rfl au5 rfl auH ?_
    refine nC [(0, _), (1, _), (2, _)] ?_
    refine QM.meetK ((⟨p, 0⟩ : Trn)) ⟨rfl, rfl, rfl, trivial⟩ au1 ?_
    · exact (if_pos ⟨by omega, by simpa using h4⟩).symm
   refine wpM.skip ?_
   refine QM.meetK (x.tr) ⟨rfl, rfl, rfl, trivial⟩ au1 ?_
   · exact (if_neg (fun q => by rw [q.2] at h4; cases h4)).symm
  rintro tr htr
  change QM _ _ _ _ _ (rkC b x.sh x.sl adh nh caph adw nw capw tr bl x.di :: (mh ++ (mw ++ (ml ++ [])))) _ _ _
  refine tR <| LM.mv rfl <| LM.mv rfl <| LM.mv rfl ?_
  refine LM.val (ov_build (cs := #[.int .i64 t, .int .i64 p, .bool false]) rfl kr) ?_
  refine LM.single Tryz.underlying56 Tryz.sizeOf59 Tryz.zeroValue59 rfl rfl rfl rfl rfl (fun b47 hb47 => ?_); refine LM.mem (SubM.mem (M' := (b47, .cells (fHd (⟨t, p, false⟩ : Hd)).toArray 59 (0, 0)) :: rkC b x.sh x.sl adh nh caph adw nw capw tr bl x.di :: (mh ++ (mw ++ (ml ++ [])))) au1) ?_; have hs47 : Sl fHd 59 3 w.heap.size [(⟨t, p, false⟩ : Hd)] (.slice (some ⟨b47, 0, none⟩) 1 1) [(b47, .cells (fHd (⟨t, p, false⟩ : Hd)).toArray 59 (0, 0))] := Sl.one1 _ hb47 rfl
  refine LM.mv rfl <| LM.nc rfl <| LM.val (ovf 56 rfl rfl rfl rfl) ?_
  refine LM.rd (oml rfl rfl rfl) ?_
  refine LM.appN (ys := x.wt.map whd) (m := [(b47, .cells (fHd (⟨t, p, false⟩ : Hd)).toArray 59 (0, 0))]) Tryz.underlying56 Tryz.typeInfo59 rfl rfl rfl rfl rfl rfl rfl hs47 (fun w hm hc hg => hsw.srM ir hm) ir (by intro _ u hu; simp [fHd] at hu; (repeat (first | (rcases hu with rfl | hu) | subst hu | rfl))) (Nat.le_refl _) (fun p hp hlt => absurd hlt (Nat.not_lt_of_le (Sl.ge hs47 p hp))) (by unfold maxLen; simp only [List.length_singleton]; omega) (by simp only [Tryz.t59, List.length_singleton]; omega) (fun ad52 n52 cap52 m52 hn52 hs52 hin52 => ?_)
  refine LM.nc rfl <| LM.val (ovf 56 rfl rfl rfl rfl) ?_
  refine LM.st Tryz.sizeOf56 rfl rfl rfl au5 rfl auH ?_
  refine LM.mem (SubM.mem (M' := rkC b x.sh x.sl adh nh caph ad52 n52 cap52 tr bl x.di :: (mh ++ (m52 ++ (ml ++ [])))) au1) ?_
  refine nB [(0, _)] ?_
  have hF : RkM n0 b (firstX x p) (⟨t, p, false⟩ :: x.wt.map whd) (rkC b x.sh x.sl adh nh caph ad52 n52 cap52 tr bl x.di :: (mh ++ (m52 ++ ml))) := (by rw [← htr]; exact ⟨adh, nh, caph, ad52, n52, cap52, bl, mh, m52, ml, rfl, hnh, by rw [hn52]; simp only [List.length_cons, List.length_nil]; omega, hsh, hs52.mono hn0, hLe, hb⟩); have hinF : inn (rkM0 b x adh nh caph adw nw capw bl mh mw ml) w.heap.size (rkC b x.sh x.sl adh nh caph ad52 n52 cap52 tr bl x.di :: (mh ++ (m52 ++ ml))) := inn_cons inM_0 (inn_app inS (inn_app (fun p hp => .inl (hs52.ge p hp)) inS))
  refine LM.mv rfl ?_
  refine cU Tryz.func45 rfl (fun w hm hc hg => rkGr_spec 0 w hF (by rw [List.length_cons]; omega) (Nat.le_trans hn0 hc.size) (by rw [(first_core x p).2.1]; omega) (by rw [List.length_cons]; omega) (hm.pick (rkC b x.sh x.sl adh nh caph ad52 n52 cap52 tr bl x.di :: (mh ++ (m52 ++ ml))))) hF.wlk (inM_inn hinF) ?_
  rintro u56 m56 ⟨-, h56⟩ hin56; have h56b : RkM n0 b (holdX (firstX x p) t p) (x.wt.map whd) m56 := h56
  refine nB [(0, _)] <| LM.mv rfl ?_
  refine cU Tryz.func46 rfl (fun w hm hc hg => rkSet_spec w h56b (by show _ = (firstX x p).wt.map _; rw [first_wt, wa_key]) (hm.pick m56)) h56.wlk (inM_inn (inn_trans hinF hin56)) ?_
  rintro u58 m58 h58 hin58
  refine LM.nil (QM.sub (e' := []) trivial (QM.then (wpM.seq (wpM.region ?_))))
  refine LM.as rfl <| nA [(6, _)] <| wpM.ret ?_
  refine qL Tryz.results12 rfl fun w' hm' hc' hg' => ?_
  have k1 : comesE x t p = 0 := (by simpa using h1); have k2 : freeO x p = true := (by simpa using h2); have e1 : takeE x t p = 0 := (by unfold takeE; rw [if_neg (by rw [k1]; simp), if_pos k2]); have e2 : takeX x t p = settleX (holdX (firstX x p) t p) := if_neg (by rw [e1]; simp); rw [take_wt, e1, e2]; exact upd_m (m' := m58) ⟨rfl, h58⟩ hm' au1 hc' (inn_trans (inn_trans hinF hin56) hin58)
 refine LD.drop rfl rfl ⟨25, _, rfl, rfl, rfl⟩ <| LD.drop rfl rfl ⟨25, _, rfl, rfl, rfl⟩ <| LD.drop rfl rfl ⟨25, _, rfl, rfl, rfl⟩ <| LD.drop rfl rfl ⟨25, _, rfl, rfl, rfl⟩ <| LD.drop rfl rfl ⟨25, _, rfl, rfl, rfl⟩ <| LD.drop rfl rfl ⟨25, _, rfl, rfl, rfl⟩ <| LD.drop rfl rfl ⟨25, _, rfl, rfl, rfl⟩ <| LD.drop rfl rfl ⟨25, _, rfl, rfl, rfl⟩ <| LD.drop rfl rfl ⟨25, _, rfl, rfl, rfl⟩ <| LD.drop rfl rfl ⟨25, _, rfl, rfl, rfl⟩ <| LD.drop rfl rfl ⟨25, _, rfl, rfl, rfl⟩ ?_
 refine LD.val rfl rfl (ov_pickF rfl rfl) ?_
 refine LD.nil ?_
 refine QM.sub (e' := [(0, _), (1, _), (2, _), (37, _)]) au9 (QM.then ?_)
 refine wpM.joinK (α := Trn) (fun tr => []) [(0, _), (1, _), (2, _)] (fun tr => rkC b x.sh x.sl adh nh caph adw nw capw tr bl x.di :: (mh ++ (mw ++ (ml ++ [])))) (fun tr => { x with tr := tr } = firstX x p) ⟨rfl, rfl, rfl, trivial⟩ ?_ ?_
 ·
  refine wpM.condF rfl ?_
  refine wpM.skip ?_
  refine QM.meetK (x.tr) ⟨rfl, rfl, rfl, trivial⟩ au1 ?_
  · exact (if_neg (fun q => by omega)).symm
 rintro tr htr
 change QM _ _ _ _ _ (rkC b x.sh x.sl adh nh caph adw nw capw tr bl x.di :: (mh ++ (mw ++ (ml ++ [])))) _ _ _
 refine tR <| LM.mv rfl <| LM.mv rfl <| LM.mv rfl ?_
 refine LM.val (ov_build (cs := #[.int .i64 t, .int .i64 p, .bool false]) rfl kr) ?_
 refine LM.single Tryz.underlying56 Tryz.sizeOf59 Tryz.zeroValue59 rfl rfl rfl rfl rfl (fun b47 hb47 => ?_); refine LM.mem (SubM.mem (M' := (b47, .cells (fHd (⟨t, p, false⟩ : Hd)).toArray 59 (0, 0)) :: rkC b x.sh x.sl adh nh caph adw nw capw tr bl x.di :: (mh ++ (mw ++ (ml ++ [])))) au1) ?_; have hs47 : Sl fHd 59 3 w.heap.size [(⟨t, p, false⟩ : Hd)] (.slice (some ⟨b47, 0, none⟩) 1 1) [(b47, .cells (fHd (⟨t, p, false⟩ : Hd)).toArray 59 (0, 0))] := Sl.one1 _ hb47 rfl
 refine LM.mv rfl <| LM.nc rfl <| LM.val (ovf 56 rfl rfl rfl rfl) ?_
 refine LM.rd (oml rfl rfl rfl) ?_
 refine LM.appN (ys := x.wt.map whd) (m := [(b47, .cells (fHd (⟨t, p, false⟩ : Hd)).toArray 59 (0, 0))]) Tryz.underlying56 Tryz.typeInfo59 rfl rfl rfl rfl rfl rfl rfl hs47 (fun w hm hc hg => hsw.srM ir hm) ir (by intro _ u hu; simp [fHd] at hu; (repeat (first | (rcases hu with rfl | hu) | subst hu | rfl))) (Nat.le_refl _) (fun p hp hlt => absurd hlt (Nat.not_lt_of_le (Sl.ge hs47 p hp))) (by unfold maxLen; simp only [List.length_singleton]; omega) (by simp only [Tryz.t59, List.length_singleton]; omega) (fun ad52 n52 cap52 m52 hn52 hs52 hin52 => ?_)
 refine LM.nc rfl <| LM.val (ovf 56 rfl rfl rfl rfl) ?_
 refine LM.st Tryz.sizeOf56 rfl rfl rfl au5 rfl auH ?_
 refine LM.mem (SubM.mem (M' := rkC b x.sh x.sl adh nh caph ad52 n52 cap52 tr bl x.di :: (mh ++ (m52 ++ (ml ++ [])))) au1) ?_
 refine nB [(0, _)] ?_
 have hF : RkM n0 b (firstX x p) (⟨t, p, false⟩ :: x.wt.map whd) (rkC b x.sh x.sl adh nh caph ad52 n52 cap52 tr bl x.di :: (mh ++ (m52 ++ ml))) := (by rw [← htr]; exact ⟨adh, nh, caph, ad52, n52, cap52, bl, mh, m52, ml, rfl, hnh, by rw [hn52]; simp only [List.length_cons, List.length_nil]; omega, hsh, hs52.mono hn0, hLe, hb⟩); have hinF : inn (rkM0 b x adh nh caph adw nw capw bl mh mw ml) w.heap.size (rkC b x.sh x.sl adh nh caph ad52 n52 cap52 tr bl x.di :: (mh ++ (m52 ++ ml))) := inn_cons inM_0 (inn_app inS (inn_app (fun p hp => .inl (hs52.ge p hp)) inS))
 refine LM.mv rfl ?_
 refine cU Tryz.func45 rfl (fun w hm hc hg => rkGr_spec 0 w hF (by rw [List.length_cons]; omega) (Nat.le_trans hn0 hc.size) (by rw [(first_core x p).2.1]; omega) (by rw [List.length_cons]; omega) (hm.pick (rkC b x.sh x.sl adh nh caph ad52 n52 cap52 tr bl x.di :: (mh ++ (m52 ++ ml))))) hF.wlk (inM_inn hinF) ?_
 rintro u56 m56 ⟨-, h56⟩ hin56; have h56b : RkM n0 b (holdX (firstX x p) t p) (x.wt.map whd) m56 := h56
 refine nB [(0, _)] <| LM.mv rfl ?_
 refine cU Tryz.func46 rfl (fun w hm hc hg => rkSet_spec w h56b (by show _ = (firstX x p).wt.map _; rw [first_wt, wa_key]) (hm.pick m56)) h56.wlk (inM_inn (inn_trans hinF hin56)) ?_
 rintro u58 m58 h58 hin58
 refine LM.nil (QM.sub (e' := []) trivial (QM.then (wpM.seq (wpM.region ?_))))
 refine LM.as rfl <| nA [(6, _)] <| wpM.ret ?_
 refine qL Tryz.results12 rfl fun w' hm' hc' hg' => ?_
 have k1 : comesE x t p = 0 := (by simpa using h1); have k2 : freeO x p = true := (by simpa using h2); have e1 : takeE x t p = 0 := (by unfold takeE; rw [if_neg (by rw [k1]; simp), if_pos k2]); have e2 : takeX x t p = settleX (holdX (firstX x p) t p) := if_neg (by rw [e1]; simp); rw [take_wt, e1, e2]; exact upd_m (m' := m58) ⟨rfl, h58⟩ hm' au1 hc' (inn_trans (inn_trans hinF hin56) hin58)
theorem rkWait_spec {n0 b : Nat} {x : Lkm} {m : Mem0} (t p : Int) (w : World) (hv : LkV x) (h : RkM n0 b x (x.wt.map whd) m) (hn0 : n0 ≤ w.heap.size) (hM : Mem w m) : Ret Tryz.prog 14 #[.pointer (some ⟨b, 0, none⟩), .int .i64 t, .int .i64 p] w (Upd m (fun u m' => u = .int .i64 (waitE x t p) ∧ RkM n0 b (waitX x t p) ((waitX x t p).wt.map whd) m') w) := by
 have hRk := h; obtain ⟨adh, nh, caph, adw, nw, capw, bl, mh, mw, ml, rfl, hnh, hnw, hsh, hsw, hLe, hb⟩ := h; have hwl : (x.wt.map whd).length = x.wt.length := List.length_map ..; have hw8 := hv.w8
 refine Ret.enterM Tryz.func14 rfl Tryz.ntmps14 rfl (rkC b x.sh x.sl adh nh caph adw nw capw x.tr bl x.di :: (mh ++ (mw ++ (ml ++ [])))) ((inM (rkM0 b x adh nh caph adw nw capw bl mh mw ml))) aM ?_
 refine wR <| LM.as rfl <| nB [(0, _), (1, _), (2, _)] <| LM.mv rfl <| LM.mv rfl <| LM.mv rfl ?_
 refine cE Tryz.func43 rfl (fun w hm hc hg => rkMay_spec t p w hRk (wa_who _ _) (hm.pick (rkM0 b x adh nh caph adw nw capw bl mh mw ml))) ?_
 refine LM.as rfl <| nA [(0, _), (1, _), (2, _), (7, _)] <| wpM.seq <| wR <| LM.mv rfl <| LM.val (ov_neq rfl rfl) <| nA [(0, _), (1, _), (2, _), (7, _), (13, _)] ?_
 refine wpM.condD rfl (fun h1 => ?_) (fun h1 => ?_)
 ·
  refine wR <| LM.mv rfl <| LM.as rfl <| nA [(6, _)] <| wpM.ret <| QM.then_ret ?_
  refine qL Tryz.results14 rfl fun w' hm' hc' hg' => ?_
  have e1 : waitE x t p = comesE x t p := if_pos (by simpa using h1); have e2 : waitX x t p = x := if_pos (by rw [e1]; simpa using h1); rw [e1, e2]; exact upd_m (m' := rkM0 b x adh nh caph adw nw capw bl mh mw ml) ⟨rfl, hRk⟩ hm' au1 hc' (inn_refl _ _)
 refine wpM.skip <| QM.then <| wpM.seq <| wR <| LM.mv rfl <| LM.mv rfl ?_
 refine cE Tryz.func26 rfl (fun w hm hc hg => rkFree_spec p w hv hRk (hm.pick (rkM0 b x adh nh caph adw nw capw bl mh mw ml))) ?_
 refine nA [(0, _), (1, _), (2, _), (17, _)] ?_
 first | refine wpM.condD rfl (fun h2 => ?_) (fun h2 => ?_) | refine wpM.condB rfl (fun h2 => ?_) (fun h2 => ?_)
 ·
  refine wR <| LM.as rfl <| nA [(6, _)] <| wpM.ret <| QM.then_ret ?_
  refine qL Tryz.results14 rfl fun w' hm' hc' hg' => ?_
  have k1 : comesE x t p = 0 := (by simpa using h1); have e1 : waitE x t p = 4 := (by unfold waitE; rw [if_neg (by rw [k1]; simp), if_pos h2]); have e2 : waitX x t p = x := if_pos (by rw [e1]; decide); rw [e1, e2]; exact upd_m (m' := rkM0 b x adh nh caph adw nw capw bl mh mw ml) ⟨rfl, hRk⟩ hm' au1 hc' (inn_refl _ _)
 refine wpM.skip <| QM.then <| wpM.seq <| wR <| LM.mv rfl <| LM.nc rfl <| LM.val (ovf 56 rfl rfl rfl rfl) ?_
 refine LM.rd (oml rfl rfl rfl) ?_
 refine LM.val (ov_len Tryz.underlying56 rfl) <| LM.val (ov_geq rfl rfl) <| nA [(0, _), (1, _), (2, _), (23, _)] ?_
 refine wpM.condD rfl (fun h3 => ?_) (fun h3 => ?_)
 ·
  refine wR <| LM.as rfl <| nA [(6, _)] <| wpM.ret <| QM.then_ret ?_
  refine qL Tryz.results14 rfl fun w' hm' hc' hg' => ?_
  have k1 : comesE x t p = 0 := (by simpa using h1); have h8 : 8 ≤ x.wt.length := om; have e1 : waitE x t p = 3 := (by unfold waitE; rw [if_neg (by rw [k1]; simp), if_neg (by rw [h2]; simp), if_pos h8]); have e2 : waitX x t p = x := if_pos (by rw [e1]; decide); rw [e1, e2]; exact upd_m (m' := rkM0 b x adh nh caph adw nw capw bl mh mw ml) ⟨rfl, hRk⟩ hm' au1 hc' (inn_refl _ _)
 refine wpM.skip <| tR <| LM.mv rfl <| LM.mv rfl <| LM.nc rfl <| LM.val (ovf 56 rfl rfl rfl rfl) ?_
 refine LM.rd (oml rfl rfl rfl) ?_
 refine LM.mv rfl <| LM.mv rfl ?_
 refine LM.val (ov_build (cs := #[.int .i64 t, .int .i64 p, .bool false]) rfl kr) ?_
 refine LM.single Tryz.underlying56 Tryz.sizeOf59 Tryz.zeroValue59 rfl rfl rfl rfl rfl (fun b32 hb32 => ?_)
 refine LM.app (a := (⟨t, p, false⟩ : Hd)) Tryz.underlying56 Tryz.typeInfo59 rfl rfl rfl rfl rfl rfl rfl asm (by rfl) ir (by intro _ u hu; simp [fHd] at hu; (repeat (first | (rcases hu with rfl | hu) | subst hu | rfl))) (by first | exact Nat.le_refl _ | omega) (fun p hp _ => ⟨p, by simp [hp], rfl⟩) (by first | omega | (unfold maxLen; omega)) (by simp only [Tryz.t59]; omega) (fun ad33 n33 cap33 m33 hn33 hs33 hin33 => ?_)
 refine LM.nc rfl <| LM.val (ovf 56 rfl rfl rfl rfl) ?_
 refine LM.st Tryz.sizeOf56 rfl rfl rfl au5 rfl auH ?_
 refine LM.mem (SubM.mem (M' := rkC b x.sh x.sl adh nh caph ad33 n33 cap33 x.tr bl x.di :: (mh ++ (m33 ++ (ml ++ [])))) au1) ?_
 refine nB [(0, _)] ?_
 have h40 : RkM n0 b { x with wt := x.wt ++ [⟨t, p, 0#64⟩] } ((x.wt ++ [(⟨t, p, 0#64⟩ : Wt)]).map whd) (rkC b x.sh x.sl adh nh caph ad33 n33 cap33 x.tr bl x.di :: (mh ++ (m33 ++ ml))) := ⟨adh, nh, caph, ad33, n33, cap33, bl, mh, m33, ml, rfl, hnh, by rw [List.length_map, List.length_append, List.length_singleton]; omega, hsh, by rw [List.map_append]; exact hs33, hLe, hb⟩; have hin40 : inn (rkM0 b x adh nh caph adw nw capw bl mh mw ml) w.heap.size (rkC b x.sh x.sl adh nh caph ad33 n33 cap33 x.tr bl x.di :: (mh ++ (m33 ++ ml))) := inn_cons inM_0 (inn_app inS (inn_app (inn_tr hin33 (fun p hp => by simp [hp])) inS))
 refine LM.mv rfl ?_
 refine cU Tryz.func46 rfl (fun w hm hc hg => rkSet_spec w h40 (wa_key _) (hm.pick (rkC b x.sh x.sl adh nh caph ad33 n33 cap33 x.tr bl x.di :: (mh ++ (m33 ++ ml))))) h40.wlk (inM_inn hin40) ?_
 rintro u37 m37 h37 hin37
 refine LM.nil (QM.sub (e' := []) trivial (QM.then (wpM.seq (wpM.region ?_))))
 refine LM.as rfl <| nA [(6, _)] <| wpM.ret ?_
 refine qL Tryz.results14 rfl fun w' hm' hc' hg' => ?_
 have k1 : comesE x t p = 0 := (by simpa using h1); have h8 : ¬ 8 ≤ x.wt.length := om; have e1 : waitE x t p = 0 := (by unfold waitE; rw [if_neg (by rw [k1]; simp), if_neg (by rw [h2]; simp), if_neg h8]); have e2 : waitX x t p = settleX { x with wt := x.wt ++ [⟨t, p, 0#64⟩] } := if_neg (by rw [e1]; simp); rw [e1, e2]; exact upd_m (m' := m37) ⟨rfl, h37⟩ hm' au1 hc' (inn_trans hin40 hin37)
end Go.Eng
