/- The walks of the document's lock: it is given back, one leaves, one dies. No condition. -/
import Derived.Test.YtljpjpnjaeidiaaGreatDoorM2
import Derived.Test.YtljpjpnjaeidiaaGreatDoorM6
set_option linter.unusedVariables false
set_option linter.unusedSimpArgs false
set_option maxRecDepth 100000
namespace Go.Eng
open Go Go.Proofs Go.RowKit
def UnD (n0 b k : Nat) (l : List Int) (y : Value) (x : Lkm) (u : Value) (m : Mem0) : Prop := ∃ v mr mx, u = .tuple #[v, y] ∧ Sl fI 3 1 k l v mr ∧ m = mr ++ mx ∧ RkM n0 b x (x.wt.map whd) mx
theorem on_empty {y : Lkm} (h : y.ho.length = 0) : onL y = passL y ∧ onX y = passX y := by
  unfold onL onX
  by_cases c : y.wt.length = 0
  · rw [if_pos c, if_pos c]; exact ⟨(if_pos c).symm, (if_pos c).symm⟩
  · rw [if_neg c, if_neg c, if_pos h, if_pos h]
    exact ⟨rfl, rfl⟩
theorem adm_none {y : Lkm} (h : y.wt.length = 0) (p : Int) (n : Nat) : admL y p n = [] ∧ admX y p n = y := by
  have hw := List.eq_nil_of_length_eq_zero h
  have e : admL y p n = [] := by unfold admL; rw [hw]; show (List.take n []).map _ = []; rw [List.take_nil]; rfl
  refine ⟨e, ?_⟩
  unfold admX; rw [e]; rfl
theorem lv_on {x : Lkm} {t : Int} (h : LkW x) (hw : waitsO x t = true) : lvL x t = onL (goneX x t) ∧ lvX x t = settleX (onX (goneX x t)) := by
  have hne : x.ho.length ≠ 0 := fun q => by
    have := h.em q
    unfold waitsO at hw
    rw [List.eq_nil_of_length_eq_zero this] at hw; cases hw
  have hno : noW (goneX x t) = (readO x && decide (cntL (goneX x t).wt 1 = 0)) := by
    rw [cnt_any]; unfold noW readO
    show (x.sh && _ && _) = _
    cases hs : x.sh with
    | false => rfl
    | true =>
      have := hold_any h.toLkV hs om
      rw [decide_eq_true (show 0 < x.ho.length by omega)]
      show (true && !(x.ho.any _) && _) = _
      rw [this]; rfl
  by_cases c : readO x = true ∧ cntL (goneX x t).wt 1 = 0
  · obtain ⟨e1, e2⟩ := lv_in hw c
    rw [e1, e2]
    by_cases cw : (goneX x t).wt.length = 0
    · obtain ⟨a1, a2⟩ := adm_none cw 0 8
      rw [a1, a2]; unfold onL onX; rw [if_pos cw, if_pos cw]; exact ⟨rfl, rfl⟩
    · have hn : noW (goneX x t) = true := by rw [hno, c.1, decide_eq_true c.2]; rfl
      unfold onL onX
      rw [if_neg cw, if_neg cw, if_neg (show ¬ (goneX x t).ho.length = 0 from hne), if_neg (show ¬ (goneX x t).ho.length = 0 from hne), if_pos hn, if_pos hn]; exact ⟨rfl, rfl⟩
  · obtain ⟨e1, e2⟩ := lv_out hw c
    rw [e1, e2]
    have hn : ¬ noW (goneX x t) = true := by
      rw [hno]; intro q; simp only [Bool.and_eq_true, decide_eq_true_eq] at q; exact c q
    unfold onL onX
    by_cases cw : (goneX x t).wt.length = 0
    · rw [if_pos cw, if_pos cw]; exact ⟨rfl, rfl⟩
    · rw [if_neg cw, if_neg cw, if_neg (show ¬ (goneX x t).ho.length = 0 from hne), if_neg (show ¬ (goneX x t).ho.length = 0 from hne), if_neg hn, if_neg hn]; exact ⟨rfl, rfl⟩
theorem unl_on (x : Lkm) (t : Int) (h : holdsO x t = true) : unlX x t = settleX (if (outX x t).ho.length = 0 then onX (outX x t) else outX x t) := by
  unfold unlX; rw [if_pos h]
  by_cases c : (outX x t).ho.length = 0
  · rw [if_pos c, if_pos c, (on_empty c).2]
  · rw [if_neg c, if_neg c]
theorem wat_no {L : List Wt} {t : Int} (h : hatO (L.map whd) t < 0) : L.any (fun w => decide (w.who = t)) = false := by
  unfold hatO fixI at h
  rw [← wa_who]
  cases c : (L.map whd).any (fun h => decide (h.t = t)) with
  | false => rfl
  | true => rw [c] at h; simp at h; omega
theorem wat_yes {L : List Wt} {t : Int} (hw : Wd1 L) (h : ¬ hatO (L.map whd) t < 0) : L.any (fun w => decide (w.who = t)) = true ∧ ∃ i : Nat, hatO (L.map whd) t = (i : Int) ∧ i < L.length ∧ L.eraseIdx i = rmW L t := by
  have hc : (L.map whd).any (fun h => decide (h.t = t)) = true := by
    cases c : (L.map whd).any (fun h => decide (h.t = t)) with
    | true => rfl
    | false => exfalso; apply h; unfold hatO fixI; rw [c]; simp
  have h1 : (L.map whd).findIdx (fun h => decide (h.t = t)) < (L.map whd).length := List.findIdx_lt_length.2 (by rw [List.any_eq_true] at hc; exact hc)
  have h2 := List.findIdx_getElem (w := h1)
  have h0 : hatO (L.map whd) t = ((L.map whd).findIdx (fun h => decide (h.t = t)) : Nat) := by unfold hatO fixI; exact if_pos hc
  have h3 : (L.map whd).findIdx (fun h => decide (h.t = t)) < L.length := by rw [List.length_map] at h1; exact h1
  refine ⟨by rw [← wa_who]; exact hc, _, h0, h3, ?_⟩
  rw [List.getElem_map] at h2
  have h4 : (L[(L.map whd).findIdx (fun h => decide (h.t = t))]).who = t := of_decide_eq_true h2
  have h5 := rm_erase hw (List.getElem?_eq_getElem h3)
  rw [h4] at h5
  exact h5.symm
theorem erase_map {α β : Type} (f : α → β) : ∀ (l : List α) (i : Nat), (l.map f).eraseIdx i = (l.eraseIdx i).map f
  | [], i => rfl
  | a :: l, 0 => rfl
  | a :: l, i + 1 => by show f a :: (l.map f).eraseIdx i = f a :: (l.eraseIdx i).map f; rw [erase_map f l i]
theorem rkUnl_spec {n0 b k : Nat} {x : Lkm} {m : Mem0} (t : Int) (w : World) (hv : LkV x) (h : RkM n0 b x (x.wt.map whd) m) (hn0 : n0 ≤ w.heap.size) (hx : x.ho.length ≤ 900) (hk : k ≤ w.heap.size) (hM : Mem w m) : Ret Tryz.prog 16 #[.pointer (some ⟨b, 0, none⟩), .int .i64 t] w (Upd m (UnD n0 b k (unlL x t) (.int .i64 (unlE x t)) (unlX x t)) w) := by
 have hRk := h; obtain ⟨adh, nh, caph, adw, nw, capw, bl, mh, mw, ml, rfl, hnh, hnw, hsh, hsw, hLe, hb⟩ := h
 refine Ret.enterM Tryz.func16 rfl Tryz.ntmps16 rfl (rkC b x.sh x.sl adh nh caph adw nw capw x.tr bl x.di :: (mh ++ (mw ++ (ml ++ [])))) ((inM (rkM0 b x adh nh caph adw nw capw bl mh mw ml))) aM ?_
 refine wR <| LM.as rfl <| LM.as rfl <| nB [(0, _), (1, _)] <| LM.mv rfl <| LM.nc rfl <| LM.val (ovf 56 rfl rfl rfl rfl) ?_
 refine LM.rd (oml rfl rfl rfl) ?_
 refine LM.mv rfl ?_
 refine cE Tryz.func52 rfl (fun w hm hc hg => rkat_spec t w hnh (hsh.srM ir hm) hsh.len.2.1) ?_
 refine LM.as rfl <| nA [(0, _), (6, _)] <| wpM.seq <| wR <| LM.mv rfl <| LM.val (ov_lss rfl rfl) <| nA [(0, _), (6, _), (15, _)] ?_
 refine wpM.condD rfl (fun h1 => ?_) (fun h1 => ?_)
 ·
  have hho : holdsO x t = false := (by rw [← hat_holds]; exact decide_eq_false om)
  refine wR <| LM.as rfl <| LM.as rfl <| nA [(4, _), (5, _)] <| wpM.ret <| QM.then_ret ?_
  refine QM.leave (.inl rfl) [.tmp 4, .tmp 5] Tryz.results16 rfl ?_
  intro w' hm' hc' hg'
  have e1 : unlL x t = [] := if_neg (fun q => by rw [hho] at q; cases q.1); have e2 : unlX x t = x := if_neg (by rw [hho]; simp); have e3 : unlE x t = 7 := if_neg (by rw [hho]; simp); rw [e1, e2, e3]; exact upd_m (m' := rkM0 b x adh nh caph adw nw capw bl mh mw ml) ⟨_, [], _, rfl, Sl.nil _ _ _ _, rfl, hRk⟩ hm' au1 hc' (inn_refl _ _)
 have hho : holdsO x t = true := (by rw [← hat_holds]; exact decide_eq_true om); have hix1 := (hat_in hho).1; have hix2 := (hat_in hho).2.1; rw [hix1]; have hol := outX_len hho
 refine wpM.skip <| tR <| LM.mv rfl <| LM.mv rfl <| LM.nc rfl <| LM.val (ovf 56 rfl rfl rfl rfl) ?_
 refine LM.rd (oml rfl rfl rfl) ?_
 refine LM.mv rfl ?_
 refine LM.cS (oc_call (enters_fn Tryz.func53 kr rfl) rfl) (fun w hm hc hg => rdrop_spec (hix x.ho t) w hnh (hsh.srM ir hm) hix2 om) (fun ad22 n22 cap22 m22 hn22 hs22 => ?_)
 refine LM.nc rfl <| LM.val (ovf 56 rfl rfl rfl rfl) ?_
 refine LM.st Tryz.sizeOf56 rfl rfl rfl au5 rfl auH ?_
 refine LM.mem (SubM.mem (M' := rkC b x.sh x.sl ad22 n22 cap22 adw nw capw x.tr bl x.di :: (m22 ++ (mw ++ (ml ++ [])))) au1) ?_
 refine nB [(0, _)] <| LM.as rfl <| nA [(0, _), (7, _)] <| wpM.seq <| wR ?_
 have hF : RkM n0 b (outX x t) ((outX x t).wt.map whd) (rkC b x.sh x.sl ad22 n22 cap22 adw nw capw x.tr bl x.di :: (m22 ++ (mw ++ ml))) := ⟨ad22, n22, cap22, adw, nw, capw, bl, m22, mw, ml, rfl, hn22, hnw, hs22.mono hn0, hsw, hLe, hb⟩; have hinF : inn (rkM0 b x adh nh caph adw nw capw bl mh mw ml) w.heap.size (rkC b x.sh x.sl ad22 n22 cap22 adw nw capw x.tr bl x.di :: (m22 ++ (mw ++ ml))) := inn_cons inM_0 (inn_app (fun p hp => .inl (hs22.ge p hp)) (inn_app inS inS)); have hn22b : n22 = (outX x t).ho.length := hn22
 refine LM.mv rfl <| LM.nc rfl <| LM.val (ovf 56 rfl rfl rfl rfl) ?_
 refine LM.rd (oml rfl rfl rfl) ?_
 refine LM.val (ov_len Tryz.underlying56 rfl) <| LM.val (ov_eql rfl rfl) <| nA [(0, _), (7, _), (30, _)] ?_
 refine wpM.joinK (α := Value × Mem0 × Mem0 × Lkm) (fun ⟨v, mr, mx, y⟩ => [(7, v)]) [(0, _)] (fun ⟨v, mr, mx, y⟩ => mr ++ (mx ++ [])) (fun ⟨v, mr, mx, y⟩ => Sl fI 3 1 k (unlL x t) v mr ∧ RkM n0 b y (y.wt.map whd) mx ∧ inn (rkM0 b x adh nh caph adw nw capw bl mh mw ml) w.heap.size (mr ++ mx) ∧ y = if (outX x t).ho.length = 0 then onX (outX x t) else outX x t) ⟨rfl, trivial⟩ ?_ ?_
 ·
  refine wpM.condD rfl (fun h2 => ?_) (fun h2 => ?_)
  ·
   refine wpM.region ?_
   refine LM.mv rfl ?_
   refine cU Tryz.func54 rfl (fun w hm hc hg => rkOn_spec (k := k) w (hv.out t) hF (Nat.le_trans hn0 hc.size) om (Nat.le_trans hk hc.size) (hm.pick (rkC b x.sh x.sl ad22 n22 cap22 adw nw capw x.tr bl x.di :: (m22 ++ (mw ++ ml))))) hF.wlk (inM_inn hinF) ?_
   rintro u32 m32 ⟨mr32, mx32, hr32, rfl, h32⟩ hin32
   refine LM.as rfl <| nC [(0, _), (7, _)] ?_
   refine QM.meetK (u32, mr32, mx32, onX (outX x t)) ⟨au2, rfl, trivial⟩ au1 ?_
   · have hz : (outX x t).ho.length = 0 := om; exact ⟨by rw [unL_yes hho hz, ← (on_empty hz).1]; exact hr32, h32, inn_trans hinF hin32, (if_pos hz).symm⟩
  refine wpM.skip ?_
  refine QM.meetK (.slice none 0 0, [], rkC b x.sh x.sl ad22 n22 cap22 adw nw capw x.tr bl x.di :: (m22 ++ (mw ++ ml)), outX x t) ⟨au2, rfl, trivial⟩ au1 ?_
  · have hz : ¬ (outX x t).ho.length = 0 := om; exact ⟨by rw [unL_no hz]; exact Sl.nil _ _ _ _, hF, hinF, (if_neg hz).symm⟩
 rintro ⟨v, mr, mx, y⟩ ⟨hv2, hL, hinL, hy⟩
 change QM _ _ _ _ _ (mr ++ (mx ++ [])) _ _ _
 refine tR <| LM.mv rfl ?_
 refine cU Tryz.func46 rfl (fun w hm hc hg => rkSet_spec w hL (wa_key _) (hm.pick mx)) hL.wlk (inM_inn (fun p hp => hinL p (List.mem_append_right _ hp))) ?_
 rintro u34 m34 h34 hin34
 refine nB [(7, _)] <| LM.mv rfl <| LM.as rfl <| LM.as rfl <| nA [(4, _), (5, _)] <| wpM.ret ?_
 refine QM.leave (.inl rfl) [.tmp 4, .tmp 5] Tryz.results16 rfl ?_
 intro w' hm' hc' hg'
 have e2 : unlX x t = settleX y := (by rw [unl_on _ _ hho, ← hy]); have e3 : unlE x t = 0 := if_pos hho; rw [e2, e3]; exact upd_m (m' := mr ++ m34) ⟨_, mr, m34, rfl, hv2, rfl, h34⟩ hm' au1 hc' (inn_app (fun p hp => hinL p (List.mem_append_left _ hp)) (inn_trans (fun p hp => hinL p (List.mem_append_right _ hp)) hin34))
theorem rkLv_spec {n0 b k : Nat} {x : Lkm} {m : Mem0} (t : Int) (w : World) (hw : LkW x) (h : RkM n0 b x (x.wt.map whd) m) (hn0 : n0 ≤ w.heap.size) (hx : x.ho.length ≤ 900) (hk : k ≤ w.heap.size) (hM : Mem w m) : Ret Tryz.prog 19 #[.pointer (some ⟨b, 0, none⟩), .int .i64 t] w (Upd m (UnD n0 b k (lvL x t) (.bool (waitsO x t)) (lvX x t)) w) := by
 have hRk := h; obtain ⟨adh, nh, caph, adw, nw, capw, bl, mh, mw, ml, rfl, hnh, hnw, hsh, hsw, hLe, hb⟩ := h; have hv := hw.toLkV; have hw8 := hv.w8; have hwl : (x.wt.map whd).length = x.wt.length := List.length_map ..
 refine Ret.enterM Tryz.func19 rfl Tryz.ntmps19 rfl (rkC b x.sh x.sl adh nh caph adw nw capw x.tr bl x.di :: (mh ++ (mw ++ (ml ++ [])))) ((inM (rkM0 b x adh nh caph adw nw capw bl mh mw ml))) aM ?_
 refine wR <| LM.as rfl <| LM.as rfl <| nB [(0, _), (1, _)] <| LM.mv rfl <| LM.nc rfl <| LM.val (ovf 56 rfl rfl rfl rfl) ?_
 refine LM.rd (oml rfl rfl rfl) ?_
 refine LM.mv rfl ?_
 refine cE Tryz.func52 rfl (fun w hm hc hg => rkat_spec t w hnw (hsw.srM ir hm) hsw.len.2.1) ?_
 refine LM.as rfl <| nA [(0, _), (6, _)] <| wpM.seq <| wR <| LM.mv rfl <| LM.val (ov_lss rfl rfl) <| nA [(0, _), (6, _), (15, _)] ?_
 refine wpM.condD rfl (fun h1 => ?_) (fun h1 => ?_)
 ·
  have hwo : waitsO x t = false := wat_no h1
  refine wR <| LM.as rfl <| LM.as rfl <| nA [(4, _), (5, _)] <| wpM.ret <| QM.then_ret ?_
  refine QM.leave (.inl rfl) [.tmp 4, .tmp 5] Tryz.results19 rfl ?_
  intro w' hm' hc' hg'
  have e := lv_no hwo; rw [e.1, e.2, hwo]; exact upd_m (m' := rkM0 b x adh nh caph adw nw capw bl mh mw ml) ⟨_, [], _, rfl, Sl.nil _ _ _ _, rfl, hRk⟩ hm' au1 hc' (inn_refl _ _)
 obtain ⟨hwo0, i, hi, hil, hie⟩ := wat_yes hv.wd h1; have hwo : waitsO x t = true := hwo0; rw [hi]
 refine wpM.skip <| tR <| LM.mv rfl <| LM.mv rfl <| LM.nc rfl <| LM.val (ovf 56 rfl rfl rfl rfl) ?_
 refine LM.rd (oml rfl rfl rfl) ?_
 refine LM.mv rfl ?_
 refine LM.cS (oc_call (enters_fn Tryz.func53 kr rfl) rfl) (fun w hm hc hg => rdrop_spec i w hnw (hsw.srM ir hm) om om) (fun ad22 n22 cap22 m22 hn22 hs22 => ?_)
 refine LM.nc rfl <| LM.val (ovf 56 rfl rfl rfl rfl) ?_
 refine LM.st Tryz.sizeOf56 rfl rfl rfl au5 rfl auH ?_
 refine LM.mem (SubM.mem (M' := rkC b x.sh x.sl adh nh caph ad22 n22 cap22 x.tr bl x.di :: (mh ++ (m22 ++ (ml ++ [])))) au1) ?_
 refine nB [(0, _)] ?_
 have he22 : (x.wt.map whd).eraseIdx i = (goneX x t).wt.map whd := (by show _ = (rmW x.wt t).map whd; rw [← hie, erase_map]); rw [he22] at hs22 hn22; have hF : RkM n0 b (goneX x t) ((goneX x t).wt.map whd) (rkC b x.sh x.sl adh nh caph ad22 n22 cap22 x.tr bl x.di :: (mh ++ (m22 ++ ml))) := ⟨adh, nh, caph, ad22, n22, cap22, bl, mh, m22, ml, rfl, hnh, hn22, hsh, hs22.mono hn0, hLe, hb⟩; have hinF : inn (rkM0 b x adh nh caph adw nw capw bl mh mw ml) w.heap.size (rkC b x.sh x.sl adh nh caph ad22 n22 cap22 x.tr bl x.di :: (mh ++ (m22 ++ ml))) := inn_cons inM_0 (inn_app inS (inn_app (fun p hp => .inl (hs22.ge p hp)) inS))
 refine LM.mv rfl ?_
 refine cU Tryz.func54 rfl (fun w hm hc hg => rkOn_spec (k := k) w (hv.gone t) hF (Nat.le_trans hn0 hc.size) hx (Nat.le_trans hk hc.size) (hm.pick (rkC b x.sh x.sl adh nh caph ad22 n22 cap22 x.tr bl x.di :: (mh ++ (m22 ++ ml))))) hF.wlk (inM_inn hinF) ?_
 rintro u26 m26 ⟨mr26, mx26, hr26, rfl, h26⟩ hin26; refine LM.assoc ?_
 refine LM.as rfl <| nB [(0, _), (7, _)] <| LM.mv rfl ?_
 refine cU Tryz.func46 rfl (fun w hm hc hg => rkSet_spec w h26 (wa_key _) (hm.pick mx26)) h26.wlk (inM_inn (inn_trans hinF (fun p hp => hin26 p (List.mem_append_right _ hp)))) ?_
 rintro u28 m28 h28 hin28
 refine nB [(7, _)] <| LM.mv rfl <| LM.as rfl <| LM.as rfl <| nA [(4, _), (5, _)] <| wpM.ret ?_
 refine QM.leave (.inl rfl) [.tmp 4, .tmp 5] Tryz.results19 rfl ?_
 intro w' hm' hc' hg'
 have e := lv_on hw hwo; rw [e.1, e.2, hwo]; exact upd_m (m' := mr26 ++ m28) ⟨_, mr26, m28, rfl, hr26, rfl, h28⟩ hm' au1 hc' (inn_app (fun p hp => inn_trans hinF hin26 p (List.mem_append_left _ hp)) (inn_trans (fun p hp => inn_trans hinF hin26 p (List.mem_append_right _ hp)) hin28))
theorem rkDie_spec {n0 b k : Nat} {x : Lkm} {m : Mem0} (t : Int) (w : World) (hw : LkW x) (h : RkM n0 b x (x.wt.map whd) m) (hn0 : n0 ≤ w.heap.size) (hx : x.ho.length ≤ 900) (hk : k ≤ w.heap.size) (hM : Mem w m) : Ret Tryz.prog 21 #[.pointer (some ⟨b, 0, none⟩), .int .i64 t] w (Upd m (UnD n0 b k (diL x t) (.bool (diB x t)) (diX x t)) w) := by
 have hRk := h; obtain ⟨adh, nh, caph, adw, nw, capw, bl, mh, mw, ml, rfl, hnh, hnw, hsh, hsw, hLe, hb⟩ := h; have hv := hw.toLkV
 refine Ret.enterM Tryz.func21 rfl Tryz.ntmps21 rfl (rkC b x.sh x.sl adh nh caph adw nw capw x.tr bl x.di :: (mh ++ (mw ++ (ml ++ [])))) ((inM (rkM0 b x adh nh caph adw nw capw bl mh mw ml))) aM ?_
 refine wR <| LM.as rfl <| LM.as rfl <| nA [(0, _), (1, _)] <| wpM.seq <| wR <| LM.mv rfl <| LM.mv rfl ?_
 refine cE Tryz.func60 rfl (fun w hm hc hg => wa_who x.wt t ▸ rkWaits_spec t w hRk (hm.pick (rkM0 b x adh nh caph adw nw capw bl mh mw ml))) ?_
 refine nA [(0, _), (1, _), (10, _)] ?_
 first | refine wpM.condD rfl (fun h1 => ?_) (fun h1 => ?_) | refine wpM.condB rfl (fun h1 => ?_) (fun h1 => ?_)
 ·
  refine wR <| LM.mv rfl <| LM.mv rfl ?_
  refine cU Tryz.func19 rfl (fun w hm hc hg => rkLv_spec (k := k) t w hw hRk (Nat.le_trans hn0 hc.size) hx (Nat.le_trans hk hc.size) (hm.pick (rkM0 b x adh nh caph adw nw capw bl mh mw ml))) hRk.wlk (fun q hq _ => ⟨q, hq, rfl⟩) ?_
  rintro u13 m13 ⟨v13, mr13, mx13, rfl, hr13, rfl, h13⟩ hin13
  refine LM.val (ov_extract rfl rfl) <| LM.val (ov_extract rfl rfl) <| LM.as rfl <| LM.as rfl <| nA [(4, _), (5, _)] <| wpM.ret <| QM.then_ret ?_
  refine QM.leave (.inl rfl) [.tmp 4, .tmp 5] Tryz.results21 rfl ?_
  intro w' hm' hc' hg'
  have hwo : waitsO x t = true := h1; have e1 : diL x t = lvL x t := if_pos hwo; have e2 : diX x t = lvX x t := if_pos hwo; have e3 : diB x t = true := (by unfold diB; rw [hwo]; rfl); rw [e1, e2, e3]; exact upd_m (m' := mr13 ++ mx13) ⟨_, mr13, mx13, (by show Value.tuple #[v13, .bool (waitsO x t)] = _; rw [hwo]), hr13, rfl, h13⟩ hm' au1 hc' hin13
 refine wpM.skip <| QM.then <| wpM.seq <| wR <| LM.mv rfl <| LM.mv rfl ?_
 refine cE Tryz.func61 rfl (fun w hm hc hg => rkHoldsO_spec t w hRk (hm.pick (rkM0 b x adh nh caph adw nw capw bl mh mw ml))) ?_
 first | refine LM.val (ov_notD rfl) ?_ | refine LM.val (ov_not rfl) ?_
 refine nA [(0, _), (1, _), (19, _)] ?_
 first | refine wpM.condD rfl (fun h2 => ?_) (fun h2 => ?_) | refine wpM.condB rfl (fun h2 => ?_) (fun h2 => ?_)
 ·
  refine wR <| LM.as rfl <| LM.as rfl <| nA [(4, _), (5, _)] <| wpM.ret <| QM.then_ret ?_
  refine QM.leave (.inl rfl) [.tmp 4, .tmp 5] Tryz.results21 rfl ?_
  intro w' hm' hc' hg'
  have h1 : waitsO x t = false := h1; have e4 : holdsO x t = false := (by simpa using h2); have e1 : diL x t = [] := (by unfold diL; rw [if_neg (by rw [h1]; simp)]; exact if_neg (fun q => by rw [show holdsO { x with di := true } t = holdsO x t from rfl, e4] at q; cases q.1)); have e2 : diX x t = x := (by unfold diX; rw [if_neg (by rw [h1]; simp), if_neg (by rw [e4]; simp)]); have e3 : diB x t = false := (by unfold diB; rw [h1, e4]; rfl); rw [e1, e2, e3]; exact upd_m (m' := rkM0 b x adh nh caph adw nw capw bl mh mw ml) ⟨_, [], _, rfl, Sl.nil _ _ _ _, rfl, hRk⟩ hm' au1 hc' (inn_refl _ _)
 refine wpM.skip <| tR <| LM.mv rfl <| LM.nc rfl <| LM.val (ovf 4 rfl rfl rfl rfl) ?_
 refine LM.st Tryz.sizeOf4 rfl rfl rfl au5 rfl auH ?_
 refine LM.mem (SubM.mem (M' := rkC b x.sh x.sl adh nh caph adw nw capw x.tr bl true :: (mh ++ (mw ++ (ml ++ [])))) au1) ?_
 refine nB [(0, _), (1, _)] ?_
 have hF : RkM n0 b { x with di := true } (x.wt.map whd) (rkC b x.sh x.sl adh nh caph adw nw capw x.tr bl true :: (mh ++ (mw ++ ml))) := ⟨adh, nh, caph, adw, nw, capw, bl, mh, mw, ml, rfl, hnh, hnw, hsh, hsw, hLe, hb⟩; have hinF : inn (rkM0 b x adh nh caph adw nw capw bl mh mw ml) w.heap.size (rkC b x.sh x.sl adh nh caph adw nw capw x.tr bl true :: (mh ++ (mw ++ ml))) := inn_hd2 (inn_refl _ _) rfl
 refine LM.mv rfl <| LM.mv rfl ?_
 refine cU Tryz.func16 rfl (fun w hm hc hg => rkUnl_spec (k := k) (x := { x with di := true }) t w (hv.core rfl rfl rfl rfl) hF (Nat.le_trans hn0 hc.size) hx (Nat.le_trans hk hc.size) (hm.pick (rkC b x.sh x.sl adh nh caph adw nw capw x.tr bl true :: (mh ++ (mw ++ ml))))) hF.wlk (inM_inn hinF) ?_
 rintro u26 m26 ⟨v26, mr26, mx26, rfl, hr26, rfl, h26⟩ hin26
 refine LM.mv rfl <| LM.val (ov_extract rfl rfl) <| LM.val (ov_extract rfl rfl) <| LM.as rfl <| LM.as rfl <| nB [(6, _)] <| LM.mv rfl <| LM.as rfl <| LM.as rfl <| nA [(4, _), (5, _)] <| wpM.ret ?_
 refine QM.leave (.inl rfl) [.tmp 4, .tmp 5] Tryz.results21 rfl ?_
 intro w' hm' hc' hg'
 have h1 : waitsO x t = false := h1; have e4 : holdsO x t = true := (by simpa using h2); have e1 : diL x t = unlL { x with di := true } t := (by unfold diL; rw [if_neg (by rw [h1]; simp)]); have e2 : diX x t = unlX { x with di := true } t := (by unfold diX; rw [if_neg (by rw [h1]; simp), if_pos e4]); have e3 : diB x t = true := (by unfold diB; rw [h1, e4]; rfl); rw [e1, e2, e3]; exact upd_m (m' := mr26 ++ mx26) ⟨_, mr26, mx26, rfl, hr26, rfl, h26⟩ hm' au1 hc' (inn_trans hinF hin26)
def RkNew (d : LDf) (gs : List Int) (n0 : Nat) (v : Value) (m : Mem0) : Prop := ∃ b, v = .pointer (some ⟨b, 0, none⟩) ∧ RkM n0 b (lkNew d gs) [] m
theorem RkNew.mono {d : LDf} {gs : List Int} : ∀ (n n' : Nat) (v : Value) (m : Mem0), n' ≤ n → RkNew d gs n v m → RkNew d gs n' v m := fun n n' v m hn ⟨b, h1, h⟩ => ⟨b, h1, h.mono hn⟩
theorem ldNew_br (ws : List Int) (s c : Int) : ldNew ws s (bringO c 1 32) = ldNew ws s c := by unfold ldNew; rw [bring_same (by decide)]
theorem rkChg_spec {n0 b : Nat} {x : Lkm} {m : Mem0} (t : Int) (w : World) (h : RkM n0 b x (x.wt.map whd) m) (hhk : ∀ h ∈ x.ho, isO x.ld h.p = true) (hhh : ∀ p, p < x.ld.l.length → 0 ≤ (gP x.ld.l p).h ∧ (gP x.ld.l p).h ≤ 1000000000) (htu : -1000000 ≤ x.tr.u) (hM : Mem w m) : Ret Tryz.prog 23 #[.pointer (some ⟨b, 0, none⟩), .int .i64 t] w (Upd m (fun u m' => u = .bool (holdsO x t) ∧ RkM n0 b (chgX x t) ((chgX x t).wt.map whd) m') w) := by
 have hRk := h; obtain ⟨adh, nh, caph, adw, nw, capw, bl, mh, mw, ml, rfl, hnh, hnw, hsh, hsw, hLe, hb⟩ := h; have hSw := And.intro hsw trivial; clear hsw; have hhl := hsh.len.2.1
 refine Ret.enterM Tryz.func23 rfl Tryz.ntmps23 rfl (rkC b x.sh x.sl adh nh caph adw nw capw x.tr bl x.di :: (mh ++ (mw ++ (ml ++ [])))) ((inM (rkM0 b x adh nh caph adw nw capw bl mh mw ml))) aM ?_
 refine wR <| LM.as rfl <| nB [(0, _), (1, _)] <| LM.mv rfl <| LM.nc rfl <| LM.val (ovf 56 rfl rfl rfl rfl) ?_
 refine LM.rd (oml rfl rfl rfl) ?_
 refine LM.mv rfl ?_
 refine cE Tryz.func52 rfl (fun w hm hc hg => rkat_spec t w hnh (hsh.srM ir hm) hsh.len.2.1) ?_
 refine LM.as rfl <| nA [(0, _), (5, _)] <| wpM.seq <| wR <| LM.mv rfl <| LM.val (ov_lss rfl rfl) <| nA [(0, _), (5, _), (13, _)] ?_
 refine wpM.condD rfl (fun h1 => ?_) (fun h1 => ?_)
 ·
  have hho : holdsO x t = false := (by rw [← hat_holds]; exact decide_eq_false om)
  refine wR <| LM.as rfl <| nA [(4, _)] <| wpM.ret <| QM.then_ret ?_
  refine qL Tryz.results23 rfl fun w' hm' hc' hg' => ?_
  rw [hho, chg_no hho]; exact upd_m (m' := rkM0 b x adh nh caph adw nw capw bl mh mw ml) ⟨rfl, hRk⟩ hm' au1 hc' (inn_refl _ _)
 have hho : holdsO x t = true := (by rw [← hat_holds]; exact decide_eq_true om); have hix1 := (hat_in hho).1; have hix2 := (hat_in hho).2.1; rw [hix1]; obtain ⟨pp, hpp, hpl⟩ := isO_at (hhk _ (hix_mem hho)); have hpn : (x.ho.getD (hix x.ho t) default).p.toNat = pp := (by rw [hpp]; rfl)
 refine wpM.skip <| QM.then <| wpM.seq ?_
 refine wpM.draw [(0, 0), (1, 0), (2, 0), (3, 1), (4, 0), (5, 0), (6, 0), (7, 1), (8, 0), (9, 0), (10, 0), (11, 1), (12, 3)] kr kr ?_
 refine LD.val rfl rfl (ov_move rfl) <| LD.val rfl rfl (ov_nilCheck rfl) <| LD.val rfl rfl (ovf 76 rfl rfl rfl rfl) ?_
 refine LD.rd rfl rfl (oml rfl rfl rfl) ?_
 refine LD.val rfl rfl (ov_move rfl) <| LD.val rfl rfl (ov_nilCheck rfl) <| LD.val rfl rfl (ovf 56 rfl rfl rfl rfl) ?_
 refine LD.rd rfl rfl (oml rfl rfl rfl) ?_
 refine LD.val rfl rfl (ov_move rfl) ?_
 refine LD.val rfl rfl (ov_idxSN au6 Tryz.underlying56 Tryz.sizeOf59 rfl rfl om) ?_
 refine LD.val rfl rfl (ovf 3 rfl rfl rfl rfl) ?_
 refine LD.rd rfl rfl (om_slE (j := 1) asm ir Tryz.isAgg3 rfl rfl au3 rfl (by rfl)) ?_
 refine LD.tail rfl rfl ?_
 rw [hpp]
 refine cU Tryz.func64 rfl (fun w hm hc hg => rdChg_spec pp w hLe hpl (hhh pp hpl) (hm.pick ml)) hLe.wlk (fun q hq _ => ⟨q, by simp [hq], rfl⟩) ?_
 rintro u26 m26 ⟨rfl, h26⟩ hin26
 refine LM.nil ?_
 refine QM.qn ?_
 refine QM.sub (e' := [(0, _)]) ⟨rfl, trivial⟩ (QM.then (wpM.seq (wpM.region ?_)))
 refine LM.mv rfl <| LM.mv rfl <| LM.nc rfl <| LM.val (ovf 64 rfl rfl rfl rfl) ?_
 first | refine LM.rd (om_ldW Tryz.isAgg64 Tryz.sizeOf64 rfl rfl) ?_ | refine LM.rd (om_ldA Tryz.isAgg64 Tryz.sizeOf64 rfl (vs := [_, _]) rfl ⟨rfl, rfl, trivial⟩) ?_
 refine cE Tryz.func65 rfl (fun w hm hc hg => rtspend_spec x.tr w htu) ?_
 refine LM.nc rfl <| LM.val (ovf 64 rfl rfl rfl rfl) ?_
 refine LM.st Tryz.sizeOf64 rfl rfl rfl au5 rfl auH ?_
 refine LM.mem (SubM.mem (M' := rkC b x.sh x.sl adh nh caph adw nw capw (spendT x.tr) bl x.di :: (mh ++ (mw ++ (m26 ++ [])))) au1) ?_
 refine nB [(0, _)] ?_
 have hF : RkM n0 b { x with ld := ldChg x.ld pp, tr := spendT x.tr } (x.wt.map whd) (rkC b x.sh x.sl adh nh caph adw nw capw (spendT x.tr) bl x.di :: (mh ++ (mw ++ m26))) := ⟨adh, nh, caph, adw, nw, capw, bl, mh, mw, m26, rfl, hnh, hnw, hsh, hSw.1, h26, hb⟩; have hinF : inn (rkM0 b x adh nh caph adw nw capw bl mh mw ml) w.heap.size (rkC b x.sh x.sl adh nh caph adw nw capw (spendT x.tr) bl x.di :: (mh ++ (mw ++ m26))) := inn_cons inM_0 (inn_app inS (inn_app inS (inn_tr hin26 (fun p hp => by simp [hp]))))
 refine LM.mv rfl ?_
 refine cU Tryz.func46 rfl (fun w hm hc hg => rkSet_spec w hF (wa_key _) (hm.pick (rkC b x.sh x.sl adh nh caph adw nw capw (spendT x.tr) bl x.di :: (mh ++ (mw ++ m26))))) hF.wlk (inM_inn hinF) ?_
 rintro u36 m36 h36 hin36
 refine LM.nil (QM.sub (e' := []) trivial (QM.then (wpM.seq (wpM.region ?_))))
 refine LM.as rfl <| nA [(4, _)] <| wpM.ret ?_
 refine qL Tryz.results23 rfl fun w' hm' hc' hg' => ?_
 rw [hho, chg_yes hho, hpn]; exact upd_m (m' := m36) ⟨rfl, h36⟩ hm' au1 hc' (inn_trans hinF hin36)
theorem rkWei_spec {n0 b : Nat} {x : Lkm} {m : Mem0} (g wt : Int) (w : World) (h : RkM n0 b x (x.wt.map whd) m) (hM : Mem w m) : Ret Tryz.prog 25 #[.pointer (some ⟨b, 0, none⟩), .int .i64 g, .int .i64 wt] w (Upd m (fun u m' => u = .bool (weiB x g) ∧ RkM n0 b (weiX x g wt) ((weiX x g wt).wt.map whd) m') w) := by
 have hRk := h; obtain ⟨adh, nh, caph, adw, nw, capw, bl, mh, mw, ml, rfl, hnh, hnw, hsh, hsw, hLe, hb⟩ := h; have hSh := And.intro hsh hsw; clear hsh hsw; have hLe0 := hLe; obtain ⟨hB9, ad9, n9, cap9, ms9, rfl, hn9, hs9, hb9⟩ := hLe
 refine Ret.enterM Tryz.func25 rfl Tryz.ntmps25 rfl (rkC b x.sh x.sl adh nh caph adw nw capw x.tr bl x.di :: (mh ++ (mw ++ (rlC bl ad9 n9 cap9 x.ld.sl x.ld.cr x.ld.fl :: (ms9 ++ []))))) ((inM (rkM0 b x adh nh caph adw nw capw bl mh mw (rlC bl ad9 n9 cap9 x.ld.sl x.ld.cr x.ld.fl :: ms9)))) aM ?_
 refine wR <| LM.as rfl <| nA [(0, _), (1, _), (2, _)] <| wpM.seq <| wR <| LM.mv rfl <| LM.nc rfl <| LM.val (ovf 4 rfl rfl rfl rfl) ?_
 refine LM.rd (oml rfl rfl rfl) ?_
 refine LM.mv rfl ?_
 first | refine LM.splitD (t := 12) rfl (fun h1 => ?_) (fun h1 => ?_) | refine LM.splitB (t := 12) rfl (fun h1 => ?_) (fun h1 => ?_)
 ·
  have hw1 : weiB x g = false := (by unfold weiB; rw [h1]; rfl)
  refine LM.dr 12 rfl rfl rfl <| LM.dr 12 rfl rfl rfl <| LM.dr 12 rfl rfl rfl <| LM.dr 12 rfl rfl rfl <| LM.dr 12 rfl rfl rfl <| LM.dr 12 rfl rfl rfl <| LM.dr 12 rfl rfl rfl <| LM.val (ov_pickT rfl rfl) <| nA [(0, _), (1, _), (2, _), (20, _)] ?_
  refine wpM.condT rfl ?_
  refine wR <| LM.as rfl <| nA [(6, _)] <| wpM.ret <| QM.then_ret ?_
  refine qL Tryz.results25 rfl fun w' hm' hc' hg' => ?_
  rw [hw1, wei_no hw1]; exact upd_m (m' := rkM0 b x adh nh caph adw nw capw bl mh mw (rlC bl ad9 n9 cap9 x.ld.sl x.ld.cr x.ld.fl :: ms9)) ⟨rfl, hRk⟩ hm' au1 hc' (inn_refl _ _)
 skip
 refine LM.sp 12 rfl rfl rfl <| LM.mv rfl <| LM.sp 12 rfl rfl rfl <| LM.nc rfl <| LM.sp 12 rfl rfl rfl <| LM.val (ovf 76 rfl rfl rfl rfl) <| LM.sp 12 rfl rfl rfl ?_
 refine LM.rd (oml rfl rfl rfl) ?_
 refine LM.sp 12 rfl rfl rfl <| LM.mv rfl <| LM.sp 12 rfl rfl rfl ?_
 refine cE Tryz.func70 rfl (fun w hm hc hg => rdIs_spec g w hLe0 (hm.pick (rlC bl ad9 n9 cap9 x.ld.sl x.ld.cr x.ld.fl :: ms9))) ?_
 refine LM.sp 12 rfl rfl rfl ?_
 first | refine LM.val (ov_notD rfl) ?_ | refine LM.val (ov_not rfl) ?_
 refine LM.val (ov_pickF rfl rfl) <| nA [(0, _), (1, _), (2, _), (20, _)] ?_
 first | refine wpM.condD rfl (fun h2 => ?_) (fun h2 => ?_) | refine wpM.condB rfl (fun h2 => ?_) (fun h2 => ?_)
 ·
  have hw1 : weiB x g = false := (by unfold weiB; rw [show isO x.ld g = false by simpa using h2]; simp)
  refine wR <| LM.as rfl <| nA [(6, _)] <| wpM.ret <| QM.then_ret ?_
  refine qL Tryz.results25 rfl fun w' hm' hc' hg' => ?_
  rw [hw1, wei_no hw1]; exact upd_m (m' := rkM0 b x adh nh caph adw nw capw bl mh mw (rlC bl ad9 n9 cap9 x.ld.sl x.ld.cr x.ld.fl :: ms9)) ⟨rfl, hRk⟩ hm' au1 hc' (inn_refl _ _)
 have hig : isO x.ld g = true := (by simpa using h2); have hw1 : weiB x g = true := (by unfold weiB; rw [h1, hig]; rfl); obtain ⟨p, rfl, hpl⟩ := isO_at hig
 refine wpM.skip <| tR <| LM.mv rfl <| LM.nc rfl <| LM.val (ovf 76 rfl rfl rfl rfl) ?_
 refine LM.rd (oml rfl rfl rfl) ?_
 refine LM.nc rfl <| LM.val (ovf 97 rfl rfl rfl rfl) ?_
 refine LM.rd (oml rfl rfl rfl) ?_
 refine LM.mv rfl ?_
 refine LM.val (ov_idxSN au6 Tryz.underlying97 Tryz.sizeOf96 rfl rfl om) ?_
 refine LM.val (ovf 3 rfl rfl rfl rfl) ?_
 refine LM.rd (om_slE (j := 0) asm ir Tryz.isAgg3 rfl rfl au3 rfl (by rfl)) ?_
 refine LM.as rfl <| nB [(0, _), (1, _), (2, _), (7, _)] <| LM.mv rfl <| LM.nc rfl <| LM.val (ovf 76 rfl rfl rfl rfl) ?_
 refine LM.rd (oml rfl rfl rfl) ?_
 refine LM.mv rfl <| LM.mv rfl ?_
 refine cU Tryz.func71 rfl (fun w hm hc hg => rdWei_spec p wt w hLe0 hpl (hm.pick (rlC bl ad9 n9 cap9 x.ld.sl x.ld.cr x.ld.fl :: ms9))) hLe0.wlk (fun q hq _ => ⟨q, List.mem_cons_of_mem _ (List.mem_append_right _ (List.mem_append_right _ hq)), rfl⟩) ?_
 rintro u38 m38 ⟨rfl, h38⟩ hin38; have hpl4 : p < (ldWei x.ld p wt).l.length := (by show p < (x.ld.l.set _ _).length; rw [List.length_set]; exact hpl); have h38b := h38; obtain ⟨hB8, ad8, n8, cap8, ms8, rfl, hn8, hs8, hb8⟩ := h38; refine LM.mem (SubM.mem (M' := rkC b x.sh x.sl adh nh caph adw nw capw x.tr bl x.di :: (mh ++ (mw ++ (rlC bl ad8 n8 cap8 (ldWei x.ld p wt).sl (ldWei x.ld p wt).cr (ldWei x.ld p wt).fl :: (ms8 ++ []))))) (by rw [List.cons_append]; (repeat' (first | exact SubM.nil _ | refine SubM.cons rfl ?_ | refine SubM.app ?_)))) ?_
 refine nA [(0, _), (1, _), (7, _)] <| wpM.seq <| wR <| LM.mv rfl <| LM.nc rfl <| LM.val (ovf 64 rfl rfl rfl rfl) <| LM.val (ovf 3 rfl rfl rfl rfl) ?_
 refine LM.rd (oml rfl rfl rfl) ?_
 refine LM.mv rfl <| LM.val (ov_eql rfl rfl) <| LM.mv rfl ?_
 refine LM.splitD (t := 46) rfl (fun h3 => ?_) (fun h3 => ?_)
 ·
  refine LM.sp 46 rfl rfl rfl <| LM.mv rfl <| LM.sp 46 rfl rfl rfl <| LM.nc rfl <| LM.sp 46 rfl rfl rfl <| LM.val (ovf 76 rfl rfl rfl rfl) <| LM.sp 46 rfl rfl rfl ?_
  refine LM.rd (oml rfl rfl rfl) ?_
  refine LM.sp 46 rfl rfl rfl <| LM.nc rfl <| LM.sp 46 rfl rfl rfl <| LM.val (ovf 97 rfl rfl rfl rfl) <| LM.sp 46 rfl rfl rfl ?_
  refine LM.rd (oml rfl rfl rfl) ?_
  refine LM.sp 46 rfl rfl rfl <| LM.mv rfl <| LM.sp 46 rfl rfl rfl ?_
  refine LM.val (ov_idxSN au6 Tryz.underlying97 Tryz.sizeOf96 rfl rfl om) ?_
  refine LM.sp 46 rfl rfl rfl <| LM.val (ovf 3 rfl rfl rfl rfl) <| LM.sp 46 rfl rfl rfl ?_
  refine LM.rd (om_slE (j := 0) asm ir Tryz.isAgg3 rfl rfl au3 rfl (by rfl)) ?_
  refine LM.sp 46 rfl rfl rfl <| LM.mv rfl <| LM.sp 46 rfl rfl rfl <| LM.val (ov_neq rfl rfl) <| LM.val (ov_pickT rfl rfl) <| nA [(0, _), (60, _)] ?_
  refine wpM.joinK (α := Trn) (fun tr => []) [(0, _)] (fun tr => rkC b x.sh x.sl adh nh caph adw nw capw tr bl x.di :: (mh ++ (mw ++ (rlC bl ad8 n8 cap8 (ldWei x.ld p wt).sl (ldWei x.ld p wt).cr (ldWei x.ld p wt).fl :: (ms8 ++ []))))) (fun tr => tr = if x.tr.p = (p : Int) ∧ (gP (ldWei x.ld p wt).l p).w ≠ (gP x.ld.l p).w then endT x.tr x.sl else x.tr) ⟨rfl, trivial⟩ ?_ ?_
  ·
   refine wpM.condD rfl (fun h4 => ?_) (fun h4 => ?_)
   ·
    refine wpM.draw [(0, 0), (1, 0), (2, 0), (3, 0), (4, 1), (5, 0), (6, 0), (7, 0), (8, 1), (9, 2), (10, 0), (11, 0), (12, 3)] kr kr ?_
    refine LD.val rfl rfl (ov_move rfl) <| LD.val rfl rfl (ov_move rfl) <| LD.val rfl rfl (ov_nilCheck rfl) <| LD.val rfl rfl (ovf 64 rfl rfl rfl rfl) ?_
    first | refine LD.rd rfl rfl (om_ldW Tryz.isAgg64 Tryz.sizeOf64 rfl rfl) ?_ | refine LD.rd rfl rfl (om_ldA Tryz.isAgg64 Tryz.sizeOf64 rfl (vs := [_, _]) rfl ⟨rfl, rfl, trivial⟩) ?_
    refine LD.val rfl rfl (ov_move rfl) <| LD.val rfl rfl (ov_nilCheck rfl) <| LD.val rfl rfl (ovf 3 rfl rfl rfl rfl) ?_
    refine LD.rd rfl rfl (oml rfl rfl rfl) ?_
    refine dE rfl rfl Tryz.func72 rfl (fun w hm hc hg => rtend_spec x.tr _ w) ?_
    refine LD.val rfl rfl (ov_nilCheck rfl) <| LD.val rfl rfl (ovf 64 rfl rfl rfl rfl) ?_
    refine LD.tail rfl rfl ?_
    refine LM.st Tryz.sizeOf64 rfl rfl rfl au5 rfl auH ?_
    refine LM.nil ?_
    refine QM.qn ?_
    refine QM.sub (e' := [(0, _)]) ⟨rfl, trivial⟩ ?_
    refine QM.meetK (endT x.tr x.sl) ⟨rfl, trivial⟩ au1 ?_
    · exact (if_pos ⟨h3, by simpa using h4⟩).symm
   refine wpM.skip ?_
   refine QM.meetK (x.tr) ⟨rfl, trivial⟩ au1 ?_
   · exact (if_neg (fun q => by have := q.2; simp at h4; exact this h4)).symm
  rintro tr htr
  change QM _ _ _ _ _ (rkC b x.sh x.sl adh nh caph adw nw capw tr bl x.di :: (mh ++ (mw ++ (rlC bl ad8 n8 cap8 (ldWei x.ld p wt).sl (ldWei x.ld p wt).cr (ldWei x.ld p wt).fl :: (ms8 ++ []))))) _ _ _
  refine tR ?_
  have hF : RkM n0 b { x with ld := ldWei x.ld p wt, tr := tr } (x.wt.map whd) (rkC b x.sh x.sl adh nh caph adw nw capw tr bl x.di :: (mh ++ (mw ++ (rlC bl ad8 n8 cap8 (ldWei x.ld p wt).sl (ldWei x.ld p wt).cr (ldWei x.ld p wt).fl :: ms8)))) := ⟨adh, nh, caph, adw, nw, capw, bl, mh, mw, _, rfl, hnh, hnw, hSh.1, hSh.2, h38b, hb⟩; have hinF : inn (rkM0 b x adh nh caph adw nw capw bl mh mw (rlC bl ad9 n9 cap9 x.ld.sl x.ld.cr x.ld.fl :: ms9)) w.heap.size (rkC b x.sh x.sl adh nh caph adw nw capw tr bl x.di :: (mh ++ (mw ++ (rlC bl ad8 n8 cap8 (ldWei x.ld p wt).sl (ldWei x.ld p wt).cr (ldWei x.ld p wt).fl :: ms8)))) := inn_cons inM_0 (inn_app inS (inn_app inS (inn_tr hin38 (fun p hp => List.mem_cons_of_mem _ (List.mem_append_right _ (List.mem_append_right _ hp))))))
  refine LM.mv rfl ?_
  refine cU Tryz.func46 rfl (fun w hm hc hg => rkSet_spec w hF (wa_key _) (hm.pick (rkC b x.sh x.sl adh nh caph adw nw capw tr bl x.di :: (mh ++ (mw ++ (rlC bl ad8 n8 cap8 (ldWei x.ld p wt).sl (ldWei x.ld p wt).cr (ldWei x.ld p wt).fl :: ms8)))))) hF.wlk (inM_inn hinF) ?_
  rintro u74 m74 h74 hin74
  refine LM.nil (QM.sub (e' := []) trivial (QM.then (wpM.seq (wpM.region ?_))))
  refine LM.as rfl <| nA [(6, _)] <| wpM.ret ?_
  refine qL Tryz.results25 rfl fun w' hm' hc' hg' => ?_
  rw [hw1, wei_yes hw1, ← htr]; exact upd_m (m' := m74) ⟨rfl, h74⟩ hm' au1 hc' (inn_trans hinF hin74)
 refine LM.dr 46 rfl rfl rfl <| LM.dr 46 rfl rfl rfl <| LM.dr 46 rfl rfl rfl <| LM.dr 46 rfl rfl rfl <| LM.dr 46 rfl rfl rfl <| LM.dr 46 rfl rfl rfl <| LM.dr 46 rfl rfl rfl <| LM.dr 46 rfl rfl rfl <| LM.dr 46 rfl rfl rfl <| LM.dr 46 rfl rfl rfl <| LM.dr 46 rfl rfl rfl <| LM.dr 46 rfl rfl rfl <| LM.dr 46 rfl rfl rfl <| LM.val (ov_pickF rfl rfl) <| nA [(0, _), (60, _)] ?_
 refine wpM.joinK (α := Trn) (fun tr => []) [(0, _)] (fun tr => rkC b x.sh x.sl adh nh caph adw nw capw tr bl x.di :: (mh ++ (mw ++ (rlC bl ad8 n8 cap8 (ldWei x.ld p wt).sl (ldWei x.ld p wt).cr (ldWei x.ld p wt).fl :: (ms8 ++ []))))) (fun tr => tr = if x.tr.p = (p : Int) ∧ (gP (ldWei x.ld p wt).l p).w ≠ (gP x.ld.l p).w then endT x.tr x.sl else x.tr) ⟨rfl, trivial⟩ ?_ ?_
 ·
  refine wpM.condF rfl ?_
  refine wpM.skip ?_
  refine QM.meetK (x.tr) ⟨rfl, trivial⟩ au1 ?_
  · exact (if_neg (fun q => h3 q.1)).symm
 rintro tr htr
 change QM _ _ _ _ _ (rkC b x.sh x.sl adh nh caph adw nw capw tr bl x.di :: (mh ++ (mw ++ (rlC bl ad8 n8 cap8 (ldWei x.ld p wt).sl (ldWei x.ld p wt).cr (ldWei x.ld p wt).fl :: (ms8 ++ []))))) _ _ _
 refine tR ?_
 have hF : RkM n0 b { x with ld := ldWei x.ld p wt, tr := tr } (x.wt.map whd) (rkC b x.sh x.sl adh nh caph adw nw capw tr bl x.di :: (mh ++ (mw ++ (rlC bl ad8 n8 cap8 (ldWei x.ld p wt).sl (ldWei x.ld p wt).cr (ldWei x.ld p wt).fl :: ms8)))) := ⟨adh, nh, caph, adw, nw, capw, bl, mh, mw, _, rfl, hnh, hnw, hSh.1, hSh.2, h38b, hb⟩; have hinF : inn (rkM0 b x adh nh caph adw nw capw bl mh mw (rlC bl ad9 n9 cap9 x.ld.sl x.ld.cr x.ld.fl :: ms9)) w.heap.size (rkC b x.sh x.sl adh nh caph adw nw capw tr bl x.di :: (mh ++ (mw ++ (rlC bl ad8 n8 cap8 (ldWei x.ld p wt).sl (ldWei x.ld p wt).cr (ldWei x.ld p wt).fl :: ms8)))) := inn_cons inM_0 (inn_app inS (inn_app inS (inn_tr hin38 (fun p hp => List.mem_cons_of_mem _ (List.mem_append_right _ (List.mem_append_right _ hp))))))
 refine LM.mv rfl ?_
 refine cU Tryz.func46 rfl (fun w hm hc hg => rkSet_spec w hF (wa_key _) (hm.pick (rkC b x.sh x.sl adh nh caph adw nw capw tr bl x.di :: (mh ++ (mw ++ (rlC bl ad8 n8 cap8 (ldWei x.ld p wt).sl (ldWei x.ld p wt).cr (ldWei x.ld p wt).fl :: ms8)))))) hF.wlk (inM_inn hinF) ?_
 rintro u74 m74 h74 hin74
 refine LM.nil (QM.sub (e' := []) trivial (QM.then (wpM.seq (wpM.region ?_))))
 refine LM.as rfl <| nA [(6, _)] <| wpM.ret ?_
 refine qL Tryz.results25 rfl fun w' hm' hc' hg' => ?_
 rw [hw1, wei_yes hw1, ← htr]; exact upd_m (m' := m74) ⟨rfl, h74⟩ hm' au1 hc' (inn_trans hinF hin74)
theorem rknew_spec {gs : List Int} {ad : Option Addr} {n cap : Nat} (d : LDf) (w : World) (hn : n = gs.length) (hl : Sr fI 1 gs (.slice ad n cap) w) : Ret Tryz.prog 10 #[.agg (fLd d).toArray, .slice ad n cap] w (fun v w' => Ext w w' ∧ ∃ m, RkNew d gs w.heap.size v m ∧ Mem w' m ∧ ∀ p ∈ m, w.heap.size ≤ p.1) := by
 have hcl := hl.open.2.1
 refine Ret.enterM Tryz.func10 rfl Tryz.ntmps10 rfl ([]) (no) (Mem.nil w) ?_
 refine wR ?_
 refine LM.box rfl rfl (fun b2 hb2 => ?_)
 refine LM.as rfl <| nB [(1, _), (2, _)] <| LM.mv rfl <| LM.as rfl <| nA [(2, _), (5, _)] <| wpM.seq <| wR <| LM.mv rfl <| LM.val (ov_len Tryz.underlying24 rfl) <| LM.val (ov_gtr rfl rfl) <| nA [(2, _), (5, _), (10, _)] ?_
 refine wpM.joinK (α := Nat) (fun k => [(5, .slice ad k cap)]) [(2, _)] (fun k => (b2, .cells (Value.agg (fLd d).toArray).cells 23 (0, 0)) :: []) (fun k => k = min n 4) ⟨rfl, trivial⟩ ?_ ?_
 ·
  refine wpM.condD rfl (fun h1 => ?_) (fun h1 => ?_)
  ·
   refine wpM.region ?_
   refine LM.mv rfl ?_
   refine LM.val (ov_subHi Tryz.underlying24 Tryz.sizeOf3 rfl rfl om om) ?_
   refine LM.as rfl <| nC [(2, _), (5, _)] ?_
   refine QM.meetK (4) ⟨au2, rfl, trivial⟩ au1 ?_
   · omega
  refine wpM.skip ?_
  refine QM.meetK (n) ⟨au2, rfl, trivial⟩ au1 ?_
  · omega
 rintro k hk
 change QM _ _ _ _ _ ((b2, .cells (Value.agg (fLd d).toArray).cells 23 (0, 0)) :: []) _ _ _
 have hsk := Sr.take (k := k) hl om; have hkl : (gs.take k).length = k := (by rw [List.length_take]; omega); have hg4 : gs.take 4 = gs.take k := (by rcases Nat.le_total gs.length 4 with q | q; rw [List.take_of_length_le q, List.take_of_length_le om]; rw [show k = 4 by omega])
 refine QM.then <| wpM.seq <| wR <| LM.mv rfl <| LM.val (ov_len Tryz.underlying24 rfl) <| LM.val (ov_eql rfl rfl) <| nA [(2, _), (5, _), (15, _)] ?_
 refine wpM.joinK (α := Option Addr × Nat × Nat × Mem0) (fun ⟨ad5, n5, cap5, m5⟩ => [(5, .slice ad5 n5 cap5)]) [(2, _)] (fun ⟨ad5, n5, cap5, m5⟩ => (b2, .cells (Value.agg (fLd d).toArray).cells 23 (0, 0)) :: (m5 ++ [])) (fun ⟨ad5, n5, cap5, m5⟩ => RdS (lkG gs) ad5 n5 cap5 m5 w) ⟨rfl, trivial⟩ ?_ ?_
 ·
  refine wpM.condD rfl (fun h2 => ?_) (fun h2 => ?_)
  ·
   refine wpM.region ?_
   refine LM.single Tryz.underlying24 Tryz.sizeOf3 Tryz.zeroValue3 rfl rfl rfl rfl rfl (fun b16 hb16 => ?_)
   refine LM.as rfl <| nC [(2, _), (5, _)] ?_
   refine QM.meetK (some ⟨b16, 0, none⟩, 1, 1, (b16, .cells #[.int .i64 1] 3 (0, 0)) :: []) ⟨au2, rfl, trivial⟩ au1 ?_
   · have e : lkG gs = [1] := if_pos (by rw [hg4, hkl]; omega); rw [e]; exact ⟨rfl, fun w' hm _ => Sr.row (hm.at b16) rfl rfl (by decide) ir⟩
  refine wpM.skip ?_
  refine QM.meetK (ad, k, cap, []) ⟨au2, rfl, trivial⟩ au1 ?_
  · have e : lkG gs = gs.take k := (by unfold lkG; rw [hg4, if_neg (by rw [hkl]; omega)]); rw [e]; exact ⟨hkl.symm, fun w' _ hx => hsk.ext hx⟩
 rintro ⟨ad5, n5, cap5, m5⟩ hR
 change QM _ _ _ _ _ ((b2, .cells (Value.agg (fLd d).toArray).cells 23 (0, 0)) :: (m5 ++ [])) _ _ _
 refine QM.then <| wpM.seq <| wR <| LM.val (ovf 4 rfl rfl rfl rfl) ?_
 refine LM.rd (oml rfl rfl rfl) ?_
 refine nA [(2, _), (5, _), (18, _)] ?_
 refine wpM.joinK (α := Option Addr × Nat × Nat × Mem0) (fun ⟨ad6, n6, cap6, m6⟩ => [(5, .slice ad6 n6 cap6)]) [(2, _)] (fun ⟨ad6, n6, cap6, m6⟩ => (b2, .cells (Value.agg (fLd d).toArray).cells 23 (0, 0)) :: (m6 ++ [])) (fun ⟨ad6, n6, cap6, m6⟩ => RdS (lkWs d gs) ad6 n6 cap6 m6 w) ⟨rfl, trivial⟩ ?_ ?_
 ·
  first | refine wpM.condD rfl (fun h3 => ?_) (fun h3 => ?_) | refine wpM.condB rfl (fun h3 => ?_) (fun h3 => ?_)
  ·
   refine wpM.region ?_
   refine LM.val (ovf 3 rfl rfl rfl rfl) ?_
   refine LM.rd (oml rfl rfl rfl) ?_
   refine LM.val (ovf 3 rfl rfl rfl rfl) ?_
   refine LM.rd (oml rfl rfl rfl) ?_
   refine LM.row (vs := [_, _]) Tryz.underlying24 Tryz.sizeOf3 Tryz.zeroValue3 rfl rfl rfl rfl rfl rfl (fun b23 hb23 => ?_)
   refine LM.as rfl <| nC [(2, _), (5, _)] ?_
   refine QM.meetK (some ⟨b23, 0, none⟩, 2, 2, (b23, .cells #[.int .i64 d.rd, .int .i64 d.wr] 3 (0, 0)) :: []) ⟨au2, rfl, trivial⟩ au1 ?_
   · have e : lkWs d gs = [d.rd, d.wr] := if_pos h3; rw [e]; exact ⟨rfl, fun w' hm _ => Sr.row (hm.at b23) rfl rfl (by simp) ir⟩
  refine wpM.skip ?_
  refine QM.meetK (ad5, n5, cap5, m5) ⟨au2, rfl, trivial⟩ au1 ?_
  · have e : lkWs d gs = lkG gs := if_neg (by simpa using h3); rw [e]; exact hR
 rintro ⟨ad6, n6, cap6, m6⟩ hR6
 change QM _ _ _ _ _ ((b2, .cells (Value.agg (fLd d).toArray).cells 23 (0, 0)) :: (m6 ++ [])) _ _ _
 refine tR <| LM.val (ovf 3 rfl rfl rfl rfl) ?_
 refine LM.rd (oml rfl rfl rfl) ?_
 refine cE Tryz.func31 rfl (fun w hm hc hg => rbring_spec _ 1 16 w) ?_
 refine LM.as rfl <| nA [(2, _), (5, _), (6, _)] <| wpM.seq ?_
 refine wpM.draw [(0, 0), (1, 1), (2, 0), (3, 0), (4, 0), (5, 0), (6, 0), (7, 1), (8, 2), (9, 2), (10, 0), (11, 2), (12, 0)] kr kr ?_
 refine LD.val rfl rfl (ovf 4 rfl rfl rfl rfl) ?_
 refine LD.rd rfl rfl (oml rfl rfl rfl) ?_
 refine LD.val rfl rfl (ov_move rfl) ?_
 refine LD.val rfl rfl (ov_build (cs := #[.int .i64 (-1), .int .i64 0]) rfl kr) ?_
 refine LD.val rfl rfl (ov_move rfl) <| LD.val rfl rfl (ov_move rfl) <| LD.val rfl rfl (ovf 3 rfl rfl rfl rfl) ?_
 refine LD.rd rfl rfl (oml rfl rfl rfl) ?_
 refine dE rfl rfl Tryz.func31 rfl (fun w hm hc hg => rbring_spec _ 1 32 w) ?_
 refine LD.callT rfl rfl (oc_call (enters_fn Tryz.func37 kr rfl) rfl) RdN.mono (fun w hm hc hg => rdnew_spec (bringO d.sl 1 16) (bringO d.cr 1 32) w hR6.1 (hR6.2 w (hm.pick m6) hc)) ?_
 rintro u36 m36 ⟨b36, rfl, h36⟩ hge36
 refine LD.val rfl rfl (ov_build (cs := #[.bool d.sh, .int .i64 (bringO d.sl 1 16), .slice none 0 0, .slice none 0 0, .int .i64 (-1), .int .i64 0, .pointer (some ⟨b36, 0, none⟩), .bool false]) rfl kr) ?_
 refine LD.box rfl rfl rfl rfl (fun b38 hb38 => ?_)
 refine LD.val rfl rfl (ov_assign rfl) <| LD.nil ?_
 refine QM.sub (e' := [(4, _)]) ⟨rfl, trivial⟩ (QM.then ?_)
 refine wpM.ret ?_
 refine qL Tryz.results10 rfl fun w' hm' hc' hg' => ?_
 rw [ldNew_br] at h36; have hL : RkM w.heap.size b38 (lkNew d gs) [] (rkC b38 d.sh (bringO d.sl 1 16) none 0 0 none 0 0 ⟨-1, 0⟩ b36 false :: ([] ++ ([] ++ m36))) := ⟨none, 0, 0, none, 0, 0, b36, [], [], m36, rfl, rfl, rfl, Sl.nil _ _ _ _, Sl.nil _ _ _ _, h36, hb38⟩; exact ⟨hc', _, ⟨b38, rfl, hL⟩, (by have h9 := SubM.mem (M' := rkC b38 d.sh (bringO d.sl 1 16) none 0 0 none 0 0 ⟨-1, 0⟩ b36 false :: (m36 ++ [])) au1 w' hm'; rw [List.append_nil] at h9; exact h9), hL.ge⟩
end Go.Eng
namespace Go.Eng
open Go Go.RowKit
theorem strk_len (p : Int) : ∀ (L : List Wt) (n : Nat), (strk p n L).length + ((LF L p).take n).length = L.length
  | [], n => by
    have : LF [] p = [] := rfl
    rw [this, List.take_nil]; rfl
  | w :: l, n => by
    by_cases c : w.key = p
    · by_cases c2 : 0 < n
      · rw [strk_hit c c2, LF_cons_pos c]
        obtain ⟨m, rfl⟩ : ∃ m, n = m + 1 := ⟨n - 1, by omega⟩
        have := strk_len p l m
        rw [Nat.add_sub_cancel, List.take_succ_cons, List.length_cons, List.length_cons]; omega
      · rw [show n = 0 by omega, strk_zero, List.take_zero]; rfl
    · rw [strk_skip (.inl c), LF_cons_neg c]
      have := strk_len p l n
      rw [List.length_cons, List.length_cons]; omega
theorem adm_sum {x : Lkm} (h : Wd1 x.wt) (p : Int) (n : Nat) : (admX x p n).ho.length + (admX x p n).wt.length = x.ho.length + x.wt.length := by
  rw [admX_form]
  show (x.ho ++ _).length + (rmA x.wt (admL x p n)).length = _
  rw [List.length_append, grH_len]
  have := strk_len p x.wt n
  rw [strk_eq p _ _ h] at this
  have e : (admL x p n).length = ((LF x.wt p).take n).length := by unfold admL; rw [List.length_map]
  have e2 : admL x p n = ((LF x.wt p).take n).map (·.who) := rfl
  rw [← e2, ← e] at this
  omega
structure LkB (k : Nat) (x : Lkm) : Prop where
  hl : x.ho.length + x.wt.length ≤ k
  hh : ∀ p, p < x.ld.l.length → 0 ≤ (gP x.ld.l p).h ∧ (gP x.ld.l p).h ≤ k
  tu : 0 ≤ x.tr.u
theorem LkB.mono {k k' : Nat} {x : Lkm} (h : LkB k x) (hk : k ≤ k') : LkB k' x := ⟨Nat.le_trans h.hl hk, fun p hp => by have := h.hh p hp; omega, h.tu⟩
theorem ldSet_h {x : Ldm} {s : BitVec 64} {p : Nat} (hp : p < x.l.length) : (gP (ldSet x s).l p).h = (gP x.l p).h := by
  show (gP (stL x s x.l.length) p).h = _
  rw [stL_get hp, if_pos hp]; rfl
theorem LkB.settle {k : Nat} {x : Lkm} (h : LkB k x) : LkB k (settleX x) :=
  ⟨h.hl, fun p hp => by have hp2 : p < x.ld.l.length := by rw [← ldSet_len]; exact hp
                        show 0 ≤ (gP (ldSet x.ld _).l p).h ∧ _
                        rw [show (settleX x).ld = ldSet x.ld (actS x) from rfl, ldSet_h hp2]; exact h.hh p hp2, h.tu⟩
theorem LkB.adm {k : Nat} {x : Lkm} (h : LkB k x) (hw : Wd1 x.wt) (p : Int) (n : Nat) : LkB k (admX x p n) := by
  have e := adm_sum hw p n
  have e1 : (admX x p n).ld = x.ld := by rw [admX_form]
  have e2 : (admX x p n).tr = x.tr := by rw [admX_form]
  exact ⟨by rw [e]; exact h.hl, by rw [e1]; exact h.hh, by rw [e2]; exact h.tu⟩
theorem next_u {t : Trn} {sl : Int} {s : BitVec 64} {le : Int} (h : 0 ≤ t.u) : 0 ≤ (nextT t sl s le).u := by unfold nextT; split; exact h; exact Int.le_refl _
theorem spend_u {t : Trn} (h : 0 ≤ t.u) : 0 ≤ (spendT t).u := by unfold spendT; split; show 0 ≤ t.u + 1; omega; exact h
theorem end_u {t : Trn} {sl : Int} (h : 0 ≤ t.u) : 0 ≤ (endT t sl).u := by
  unfold endT; split
  · have := bring_in (n := sl) (show (1 : Int) ≤ 16 by decide); show 0 ≤ bringO sl 1 16; omega
  · exact h
theorem LkB.pass {k : Nat} {x : Lkm} (h : LkB k x) (hw : Wd1 x.wt) : LkB k (passX x) := by
  unfold passX; split
  · exact h
  · exact LkB.adm (x := turnX x) ⟨h.hl, h.hh, next_u h.tu⟩ hw _ _
theorem LkB.take {k : Nat} {x : Lkm} (h : LkB k x) (t p : Int) : LkB (k + 1) (takeX x t p) := by
  unfold takeX; split
  · exact h.mono om
  · obtain ⟨e1, e2, e3, e4, e5, e6⟩ := first_core x p
    refine LkB.settle ⟨?_, ?_, ?_⟩
    · show ((firstX x p).ho ++ [_]).length + (firstX x p).wt.length ≤ _
      rw [e2, e3, List.length_append, List.length_singleton]; have := h.hl; omega
    · show ∀ q, q < (firstX x p).ld.l.length → 0 ≤ (gP (firstX x p).ld.l q).h ∧ (gP (firstX x p).ld.l q).h ≤ ((k + 1 : Nat) : Int)
      rw [e4]; exact (h.mono (Nat.le_succ k)).hh
    · show 0 ≤ (firstX x p).tr.u
      unfold firstX; split; exact Int.le_refl _; exact h.tu
theorem LkB.wait {k : Nat} {x : Lkm} (h : LkB k x) (t p : Int) : LkB (k + 1) (waitX x t p) := by
  unfold waitX; split
  · exact h.mono om
  · refine LkB.settle ⟨?_, (h.mono (Nat.le_succ k)).hh, h.tu⟩
    show x.ho.length + (x.wt ++ [_]).length ≤ _
    rw [List.length_append, List.length_singleton]; have := h.hl; omega
theorem LkB.unl {k : Nat} {x : Lkm} (h : LkB k x) (hw : Wd1 x.wt) (t : Int) : LkB k (unlX x t) := by
  unfold unlX; split
  · have ho : LkB k (outX x t) := ⟨by show (x.ho.eraseIdx _).length + _ ≤ k; have := List.Sublist.length_le (List.eraseIdx_sublist x.ho (hix x.ho t)); have := h.hl; show _ + x.wt.length ≤ k; omega, h.hh, h.tu⟩
    refine LkB.settle ?_
    split
    · exact ho.pass hw
    · exact ho
  · exact h
theorem LkB.lv {k : Nat} {x : Lkm} (h : LkB k x) (hw : Wd1 x.wt) (t : Int) : LkB k (lvX x t) := by
  unfold lvX; split
  · have hg : LkB k (goneX x t) := ⟨by show x.ho.length + (rmW x.wt t).length ≤ k; have : (rmW x.wt t).length ≤ x.wt.length := List.length_filter_le _ _; have := h.hl; omega, h.hh, h.tu⟩
    refine LkB.settle ?_
    split
    · exact hg.adm (wd_rm hw t) _ _
    · exact hg
  · exact h
theorem LkB.die {k : Nat} {x : Lkm} (h : LkB k x) (hw : Wd1 x.wt) (t : Int) : LkB k (diX x t) := by
  unfold diX; split
  · exact h.lv hw t
  · split
    · exact LkB.unl (x := { x with di := true }) ⟨h.hl, h.hh, h.tu⟩ hw t
    · exact h
theorem LkB.chg {k : Nat} {x : Lkm} (h : LkB k x) (t : Int) : LkB (k + 1) (chgX x t) := by
  unfold chgX; split
  · refine LkB.settle ⟨Nat.le_succ_of_le h.hl, fun q hq => ?_, spend_u h.tu⟩
    generalize (x.ho.getD (hix x.ho t) default).p.toNat = pp at hq ⊢
    have hq2 : q < x.ld.l.length := by
      have : q < (x.ld.l.set pp (chgP (gP x.ld.l pp))).length := hq
      rw [List.length_set] at this; exact this
    show 0 ≤ (gP (x.ld.l.set pp (chgP (gP x.ld.l pp))) q).h ∧ (gP (x.ld.l.set pp (chgP (gP x.ld.l pp))) q).h ≤ _
    by_cases hp : pp < x.ld.l.length
    · rw [gP_set hp]
      split
      · rename_i e; subst e
        have := h.hh q hq2
        show 0 ≤ (gP x.ld.l q).h + 1 ∧ (gP x.ld.l q).h + 1 ≤ _
        omega
      · have := h.hh q hq2; omega
    · rw [List.set_eq_of_length_le om]; have := h.hh q hq2; omega
  · exact h.mono om
theorem LkB.wei {k : Nat} {x : Lkm} (h : LkB k x) (g wt : Int) : LkB k (weiX x g wt) := by
  unfold weiX; split
  · refine LkB.settle ⟨h.hl, fun q hq => ?_, by show 0 ≤ (if _ then _ else _ : Trn).u; split; exact end_u h.tu; exact h.tu⟩
    have hq2 : q < x.ld.l.length := by
      have : q < (x.ld.l.set g.toNat (weiP x.ld (gP x.ld.l g.toNat) wt)).length := hq
      rw [List.length_set] at this; exact this
    show 0 ≤ (gP (x.ld.l.set g.toNat (weiP x.ld (gP x.ld.l g.toNat) wt)) q).h ∧ (gP (x.ld.l.set g.toNat (weiP x.ld (gP x.ld.l g.toNat) wt)) q).h ≤ _
    by_cases hp : g.toNat < x.ld.l.length
    · rw [gP_set hp]
      split
      · rename_i e; subst e
        have := h.hh _ hq2
        unfold weiP; split
        · exact this
        · exact this
      · exact h.hh q hq2
    · rw [List.set_eq_of_length_le om]; exact h.hh q hq2
  · exact h
theorem lkNew_b (d : LDf) (gs : List Int) : LkB 0 (lkNew d gs) := by
  refine ⟨Nat.le_refl _, fun p hp => ?_, Int.le_refl _⟩
  have : ∀ q ∈ (ldNew (lkWs d gs) (bringO d.sl 1 16) d.cr).l, q.h = 0 := fun q hq => by
    unfold ldNew at hq
    obtain ⟨w, _, rfl⟩ := List.mem_map.1 hq; rfl
  have h2 := this (gP (lkNew d gs).ld.l p) (by unfold gP; rw [List.getD_eq_getElem?_getD, List.getElem?_eq_getElem hp]; exact List.getElem_mem _)
  rw [h2]; exact ⟨Int.le_refl _, Int.le_refl _⟩
theorem LkM.tmono {n0 T T' b : Nat} {x : Lkm} {od : List Int} {m : Mem0} (h : LkM n0 T b x od m) (hT : T ≤ T') : LkM n0 T' b x od m := by
  obtain ⟨adh, nh, caph, ado, nd, capo, bq, bl, mh, mo, mq, ml, rfl, hnh, hnd, hsh, hso, hTb, hLe, hb⟩ := h
  exact ⟨adh, nh, caph, ado, nd, capo, bq, bl, mh, mo, mq, ml, rfl, hnh, hnd, hsh, hso, hTb.tmono hT, hLe, hb⟩
end Go.Eng
namespace Go.Eng
open Go Go.Proofs Go.RowKit
structure Dsc where
  k : Int
  t : Int
  p : Int
  w : Int
instance : Inhabited Dsc := ⟨⟨0, 0, 0, 0⟩⟩
def fDs (d : Dsc) : List Value := [.int .u8 d.k, .int .i64 d.t, .int .i64 d.p, .int .i64 d.w]
theorem fHd_eq (a : Hd) : veqs (fHd a) (fHd a) = true := by simp [veqs, veq, fHd]
theorem fTr_eq (a : Trn) : veqs (fTr a) (fTr a) = true := by simp [veqs, veq, fTr]
theorem rdb_forelocklaw20_Deed : Rdb Tryz.prog 30 fDs (fun a => (0 ≤ a.k ∧ a.k ≤ 255) ∧ (-9223372036854775808 ≤ a.t ∧ a.t ≤ 9223372036854775807) ∧ (-9223372036854775808 ≤ a.p ∧ a.p ≤ 9223372036854775807) ∧ (-9223372036854775808 ≤ a.w ∧ a.w ≤ 9223372036854775807)) := fun {H enc w base sp held fuel cs x} h => by
  obtain ⟨h1, h2⟩ := trod_fields Tryz.underlying30 h
  rw [show Tryz.prog.cellsOf 30 = 4 by kernel_rfl] at h1
  have c3 : Tryz.prog.cellsOf 3 = 1 := by kernel_rfl
  have c5 : Tryz.prog.cellsOf 5 = 1 := by kernel_rfl
  match cs, h1 with
  | [a0, a1, a2, a3], _ =>
    simp only [List.forall_mem_cons, c3, c5, List.drop_succ_cons, List.drop_zero, List.take_succ_cons, List.take_zero] at h2
    obtain ⟨⟨_, _, f0⟩, ⟨_, _, f1⟩, ⟨_, _, f2⟩, ⟨_, _, f3⟩, _⟩ := h2
    obtain ⟨m0, e0, _, w0⟩ := DataW.trod_int Tryz.underlying5 f0
    obtain ⟨m1, e1, _, w1⟩ := DataW.trod_int Tryz.underlying3 f1
    obtain ⟨m2, e2, _, w2⟩ := DataW.trod_int Tryz.underlying3 f2
    obtain ⟨m3, e3, _, w3⟩ := DataW.trod_int Tryz.underlying3 f3
    simp only [List.cons.injEq, and_true] at e0 e1 e2 e3
    subst e0
    subst e1
    subst e2
    subst e3
    exact ⟨⟨m0, m1, m2, m3⟩, rfl, ⟨bounds_u8 w0, bounds_i64 w1, bounds_i64 w2, bounds_i64 w3⟩⟩
theorem ints20_spec {xs : List Int} {ad ad2 : Option Addr} {n cap n2 cap2 : Nat} (w : World) (hn : n = xs.length) (hl : Sr fI 1 xs (.slice ad n cap) w) (hn2 : n2 = xs.length) (hl2 : Sr fI 1 xs (.slice ad2 n2 cap2) w) (hx : xs.length ≤ 100000) : Ret Tryz.prog 17 #[.slice ad n cap, .slice ad2 n2 cap2] w (fun v w' => v = .bool true ∧ Ext w w') := by
 refine Ret.enterM Tryz.func17 rfl Tryz.ntmps17 rfl ([]) (no) (Mem.nil w) ?_
 refine wR <| LM.as rfl <| nA [(0, _), (1, _)] <| wpM.seq <| wR <| LM.mv rfl <| LM.val (ov_len Tryz.underlying24 rfl) <| LM.mv rfl <| LM.val (ov_len Tryz.underlying24 rfl) <| LM.val (ov_neq rfl rfl) <| nA [(0, _), (1, _), (10, _)] ?_
 refine wpM.condD rfl (fun h1 => ?_) (fun h1 => ?_)
 ·
  omega
 refine wpM.skip <| QM.then <| wpM.seq <| wR <| LM.mv rfl <| LM.val (ov_len Tryz.underlying24 rfl) <| LM.mv rfl <| nA [(0, _), (1, _), (12, _), (13, _)] <| wpM.block ?_
 refine wpM.loopK0 (α := Nat) (fun i => [(13, .int .i64 (i : Nat))]) [(0, _), (1, _), (12, _)] (fun i => []) (fun i => i ≤ n) (fun i => n - i) (0) ⟨au2, rfl, rfl, rfl, trivial⟩ au1 (Nat.zero_le _) ?_
 rintro i hi
 change wpM _ _ _ _ _ _ _ ([]) _ _ _
 refine wR <| LM.val (ov_lss rfl rfl) <| nA [(0, _), (1, _), (12, _), (13, _), (14, _)] <| wpM.seq ?_
 refine wpM.condD rfl (fun h2 => ?_) (fun h2 => ?_)
 ·
  refine wpM.skip <| QM.then <| wpM.seq <| wpM.block <| wR <| LM.mv rfl <| LM.as rfl <| nA [(0, _), (1, _), (5, _), (12, _), (13, _)] <| wpM.seq ?_
  refine wpM.draw [(0, 0), (1, 0), (2, 0), (3, 1), (4, 0), (5, 0), (6, 0), (7, 1), (8, 0)] kr kr ?_
  refine LD.val rfl rfl (ov_move rfl) <| LD.val rfl rfl (ov_move rfl) ?_
  refine LD.val rfl rfl (ov_idxSN au6 Tryz.underlying24 Tryz.sizeOf3 rfl rfl om) ?_
  first | refine LD.rd rfl rfl (om_sl1 asm ir Tryz.isAgg3 rfl rfl (by exact getq 0 au4) (by rfl)) ?_ | refine LD.rdC rfl rfl (om_sr1 asm Tryz.isAgg3 rfl rfl (by exact getq 0 au4) (by rfl) id) ?_ | refine LD.rd rfl rfl (oml rfl rfl rfl) ?_
  refine LD.val rfl rfl (ov_move rfl) <| LD.val rfl rfl (ov_move rfl) ?_
  refine LD.val rfl rfl (ov_idxSN au6 Tryz.underlying24 Tryz.sizeOf3 rfl rfl om) ?_
  first | refine LD.rd rfl rfl (om_sl1 asm ir Tryz.isAgg3 rfl rfl (by exact getq 0 au4) (by rfl)) ?_ | refine LD.rdC rfl rfl (om_sr1 asm Tryz.isAgg3 rfl rfl (by exact getq 0 au4) (by rfl) id) ?_ | refine LD.rd rfl rfl (oml rfl rfl rfl) ?_
  refine LD.val rfl rfl (ov_neq rfl rfl) ?_
  refine LD.nil ?_
  refine QM.sub (e' := [(0, _), (1, _), (12, _), (13, _), (24, _)]) au9 (QM.then ?_)
  refine wpM.condD rfl (fun h3 => ?_) (fun h3 => ?_)
  ·
   exact absurd rfl h3
  refine wpM.skip <| QM.block_normal ?_
  refine QM.then (wpM.region ?_)
  refine LM.val (ov_add64 rfl rfl om) ?_
  refine LM.mv rfl <| nC [(0, _), (1, _), (12, _), (13, _)] ?_
  refine QM.againK (i + 1) ⟨au2, rfl, rfl, rfl, trivial⟩ au1 (fun _ h => h) ?_ ?_
  · omega
  · omega
 refine wpM.exit <| QM.then_exit <| QM.then_exit <| QM.block_hit <| tR <| LM.as rfl <| nA [(4, _)] <| wpM.ret ?_
 refine qL Tryz.results17 rfl fun w' hm' hc' hg' => ?_
 exact ⟨rfl, hc'⟩
theorem holds20_spec {xs : List Hd} {ad ad2 : Option Addr} {n cap n2 cap2 : Nat} (w : World) (hn : n = xs.length) (hl : Sr fHd 3 xs (.slice ad n cap) w) (hn2 : n2 = xs.length) (hl2 : Sr fHd 3 xs (.slice ad2 n2 cap2) w) (hx : xs.length ≤ 100000) : Ret Tryz.prog 75 #[.slice ad n cap, .slice ad2 n2 cap2] w (fun v w' => v = .bool true ∧ Ext w w') := by
 refine Ret.enterM Tryz.func75 rfl Tryz.ntmps75 rfl ([]) (no) (Mem.nil w) ?_
 refine wR <| LM.as rfl <| nA [(0, _), (1, _)] <| wpM.seq <| wR <| LM.mv rfl <| LM.val (ov_len Tryz.underlying56 rfl) <| LM.mv rfl <| LM.val (ov_len Tryz.underlying56 rfl) <| LM.val (ov_neq rfl rfl) <| nA [(0, _), (1, _), (10, _)] ?_
 refine wpM.condD rfl (fun h1 => ?_) (fun h1 => ?_)
 ·
  omega
 refine wpM.skip <| QM.then <| wpM.seq <| wR <| LM.mv rfl <| LM.val (ov_len Tryz.underlying56 rfl) <| LM.mv rfl <| nA [(0, _), (1, _), (12, _), (13, _)] <| wpM.block ?_
 refine wpM.loopK0 (α := Nat) (fun i => [(13, .int .i64 (i : Nat))]) [(0, _), (1, _), (12, _)] (fun i => []) (fun i => i ≤ n) (fun i => n - i) (0) ⟨au2, rfl, rfl, rfl, trivial⟩ au1 (Nat.zero_le _) ?_
 rintro i hi
 change wpM _ _ _ _ _ _ _ ([]) _ _ _
 refine wR <| LM.val (ov_lss rfl rfl) <| nA [(0, _), (1, _), (12, _), (13, _), (14, _)] <| wpM.seq ?_
 refine wpM.condD rfl (fun h2 => ?_) (fun h2 => ?_)
 ·
  refine wpM.skip <| QM.then <| wpM.seq <| wpM.block <| wR <| LM.mv rfl <| LM.as rfl <| nA [(0, _), (1, _), (5, _), (12, _), (13, _)] <| wpM.seq ?_
  refine wpM.draw [(0, 0), (1, 0), (2, 0), (3, 1), (4, 0), (5, 0), (6, 0), (7, 1), (8, 0)] kr kr ?_
  refine LD.val rfl rfl (ov_move rfl) <| LD.val rfl rfl (ov_move rfl) ?_
  refine LD.val rfl rfl (ov_idxSN au6 Tryz.underlying56 Tryz.sizeOf59 rfl rfl om) ?_
  first | refine LD.rd rfl rfl (om_slA asm ir Tryz.isAgg59 Tryz.sizeOf59 rfl au3) ?_ | refine LD.rdC rfl rfl (om_srEA asm ir Tryz.isAgg59 Tryz.sizeOf59 rfl au3 id) ?_ | refine LD.rd rfl rfl (om_ldW Tryz.isAgg59 Tryz.sizeOf59 rfl rfl) ?_ | refine LD.rd rfl rfl (om_ldA Tryz.isAgg59 Tryz.sizeOf59 rfl (vs := [_, _, _]) rfl ⟨rfl, rfl, rfl, trivial⟩) ?_
  refine LD.val rfl rfl (ov_move rfl) <| LD.val rfl rfl (ov_move rfl) ?_
  refine LD.val rfl rfl (ov_idxSN au6 Tryz.underlying56 Tryz.sizeOf59 rfl rfl om) ?_
  first | refine LD.rd rfl rfl (om_slA asm ir Tryz.isAgg59 Tryz.sizeOf59 rfl au3) ?_ | refine LD.rdC rfl rfl (om_srEA asm ir Tryz.isAgg59 Tryz.sizeOf59 rfl au3 id) ?_ | refine LD.rd rfl rfl (om_ldW Tryz.isAgg59 Tryz.sizeOf59 rfl rfl) ?_ | refine LD.rd rfl rfl (om_ldA Tryz.isAgg59 Tryz.sizeOf59 rfl (vs := [_, _, _]) rfl ⟨rfl, rfl, rfl, trivial⟩) ?_
  refine LD.val rfl rfl (ov_aneq Tryz.underlying59 kr kr (by decide) rfl rfl (by rfl) ⟨(by first | rfl | trivial), (by first | rfl | trivial), (by first | rfl | trivial), trivial⟩) ?_
  refine LD.nil ?_
  refine QM.sub (e' := [(0, _), (1, _), (12, _), (13, _), (24, _)]) au9 (QM.then ?_)
  first | refine wpM.condD rfl (fun h3 => ?_) (fun h3 => ?_) | refine wpM.condB rfl (fun h3 => ?_) (fun h3 => ?_)
  ·
   exact absurd h3 (by rw [fHd_eq]; decide)
  refine wpM.skip <| QM.block_normal ?_
  refine QM.then (wpM.region ?_)
  refine LM.val (ov_add64 rfl rfl om) ?_
  refine LM.mv rfl <| nC [(0, _), (1, _), (12, _), (13, _)] ?_
  refine QM.againK (i + 1) ⟨au2, rfl, rfl, rfl, trivial⟩ au1 (fun _ h => h) ?_ ?_
  · omega
  · omega
 refine wpM.exit <| QM.then_exit <| QM.then_exit <| QM.block_hit <| tR <| LM.as rfl <| nA [(4, _)] <| wpM.ret ?_
 refine qL Tryz.results75 rfl fun w' hm' hc' hg' => ?_
 exact ⟨rfl, hc'⟩
abbrev wB (c b : Nat) : Nat × Obj := (c, .cells #[.pointer (some ⟨b, 0, none⟩)] 34 (0, 0))
abbrev dB (c : Nat) (d : Dsc) : Nat × Obj := (c, .cells (fDs d).toArray 30 (0, 0))
abbrev niB (c : Nat) (i : Int) : Nat × Obj := (c, .cells #[.int .i64 i] 3 (0, 0))
abbrev bB (c : Nat) (i : Bool) : Nat × Obj := (c, .cells #[.bool i] 4 (0, 0))
theorem lwSame_spec {n0 n1 T b b2 : Nat} {x : Lkm} {m m2 : Mem0} (d : Dsc) (w : World) (hv : LkV x) (h : LkM n0 T b x (x.wt.map (·.who)) m) (h2 : RkM n1 b2 x (x.wt.map whd) m2) (hx : x.ho.length ≤ 900) (hM : Mem w (m ++ m2)) : Ret Tryz.prog 27 #[.pointer (some ⟨b, 0, none⟩), .pointer (some ⟨b2, 0, none⟩), .agg (fDs d).toArray] w (fun v w' => v = .bool true ∧ Ext w w') := by
 have hRk := h2; obtain ⟨adh, nh, caph, adw, nw, capw, bl, mh, mw, ml, rfl, hnh, hnw, hsh, hsw, hLe, hb2⟩ := h2; have hSh := And.intro hsh True.intro; clear hsh; have hLe0 := hLe; obtain ⟨hB9, ad9, n9, cap9, ms9, rfl, hn9, hs9, hb9⟩ := hLe; have hwl : (x.wt.map whd).length = x.wt.length := List.length_map ..; have hw8 := hv.w8; have hl8 := hv.l8
 refine Ret.enterM Tryz.func27 rfl Tryz.ntmps27 rfl (m ++ (rkC b2 x.sh x.sl adh nh caph adw nw capw x.tr bl x.di :: (mh ++ (mw ++ (rlC bl ad9 n9 cap9 x.ld.sl x.ld.cr x.ld.fl :: (ms9 ++ [])))))) (no) (SubM.mem (by rw [← List.append_nil ms9]; (repeat' (first | exact SubM.nil _ | refine SubM.cons rfl ?_ | refine SubM.app ?_))) w hM) ?_
 refine wR ?_
 refine LM.box rfl rfl (fun b4 hb4 => ?_)
 refine LM.box rfl rfl (fun b5 hb5 => ?_)
 refine LM.as rfl <| nB [(0, _), (4, _), (5, _)] ?_
 refine LM.alloc Tryz.zeroValue3 rfl (fun b7 hb7 => ?_)
 refine LM.st Tryz.sizeOf3 rfl rfl rfl au5 rfl au8 ?_
 refine nB [(0, _), (4, _), (5, _), (7, _)] ?_
 refine LM.alloc Tryz.zeroValue4 rfl (fun b8 hb8 => ?_)
 refine LM.st Tryz.sizeOf4 rfl rfl rfl au5 rfl au8 ?_
 refine nA [(0, _), (4, _), (5, _), (7, _), (8, _)] <| wpM.seq <| wR <| LM.mv rfl ?_
 refine LM.callT (oc_call (enters_fn Tryz.func36 kr rfl) rfl) WtrT.mono (fun w hm hc hg => lkWtr_spec (some ⟨b, 0, none⟩) w) ?_
 rintro u15 m15 ⟨c1, rfl, rfl, hc1⟩ -
 refine nA [(0, _), (4, _), (5, _), (7, _), (8, _), (15, _)] <| wpM.block ?_
 refine wpM.toRange (α := Unit) (fun k ⟨⟩ => lF c1 (some ⟨b, 0, none⟩) :: wB b4 b2 :: dB b5 d :: niB b7 (k : Nat) :: bB b8 true :: (m ++ (rkC b2 x.sh x.sl adh nh caph adw nw capw x.tr bl x.di :: (mh ++ (mw ++ (rlC bl ad9 n9 cap9 x.ld.sl x.ld.cr x.ld.fl :: (ms9 ++ []))))))) (⟨⟩) au1 ?_
 refine wpM.rangeP (α := Unit) (β := Unit) (enters_fn Tryz.func84 kr rfl) rfl (lkWtr_seq (c1 := c1) h) (fun k ⟨⟩ Mp => lF c1 (some ⟨b, 0, none⟩) :: wB b4 b2 :: dB b5 d :: niB b7 (k : Nat) :: bB b8 true :: (m ++ (rkC b2 x.sh x.sl adh nh caph adw nw capw x.tr bl x.di :: (mh ++ (mw ++ (rlC bl ad9 n9 cap9 x.ld.sl x.ld.cr x.ld.fl :: (ms9 ++ (Mp ++ [])))))))) (by rintro k ⟨⟩ Mp; first | rfl | simp) (fun _ _ => top) (fun k ⟨⟩ => True) (fun ⟨⟩ => []) (fun _ => top) (fun c ⟨⟩ => False) ⟨⟩ rfl (fun _ h => h) trivial kr (by intro k av hav; obtain ⟨_, rfl⟩ := wtA_inv hav; rfl) (.inl trivial) (fun k a w hm hc hg _ => hm.pick (lF c1 (some ⟨b, 0, none⟩) :: m)) (fun _ _ _ _ => gl_top _) (fun _ _ _ => gl_top _) (fun k x hx => mm_cons rfl (mm_cons rfl (mm_cons rfl (mm_cons rfl (mm_cons rfl (mm_app h.wlk (mm_cons rfl (mm_app hSh.1.wlk (mm_app hsw.wlk (mm_cons rfl (mm_app hs9.wlk mm_nil))))))))))) (fun c z _ => by ((repeat (refine mm_cons rfl ?_)); exact fun p hp => .inl (by first | exact hp | (simp at hp; done) | (simp [hp]; done) | (simp at hp ⊢; first | exact .inl hp | exact hp | (simp [hp]; done))))) ?_ ?_ ?_ ?_
 ·
  rintro k av ⟨⟩ l D rc n1 W1 Mp hD hll hput hrc hav -
  change wpM _ _ _ _ _ _ _ ((l, Obj.loop rc) :: ([(D, Obj.deferred (some []))] ++ (lF c1 (some ⟨b, 0, none⟩) :: wB b4 b2 :: dB b5 d :: niB b7 (k : Nat) :: bB b8 true :: (m ++ (rkC b2 x.sh x.sl adh nh caph adw nw capw x.tr bl x.di :: (mh ++ (mw ++ (rlC bl ad9 n9 cap9 x.ld.sl x.ld.cr x.ld.fl :: (ms9 ++ (Mp ++ [])))))))))) _ _ _
  obtain ⟨hkl, rfl⟩ := wtA_inv hav
  refine wR <| LM.as rfl ?_
  refine LM.nil (QM.sub (e' := [(4, _), (7, _), (8, _), (9, _), (17, _)]) au9 (QM.then (wpM.region ?_)))
  refine LM.as rfl <| nC [(4, _), (7, _), (8, _), (9, _), (10, _)] ?_
  refine QM.toBodyF (hput k ⟨⟩) hll ?_
  refine wpM.block <| wpM.seq ?_
  refine wpM.draw [(0, 1), (1, 0), (2, 1), (3, 1), (4, 0), (5, 0), (6, 1), (7, 0), (8, 0), (9, 0), (10, 0), (11, 1), (12, 0), (13, 0), (14, 1), (15, 1), (16, 0), (17, 0), (18, 1), (19, 0), (20, 0), (21, 0), (22, 0), (23, 1), (24, 0), (25, 0), (26, 1), (27, 1), (28, 0), (29, 0), (30, 1), (31, 0), (32, 0), (33, 0), (34, 3)] kr kr ?_
  refine LD.rd rfl rfl (oml rfl rfl rfl) ?_
  refine LD.val rfl rfl (ov_move rfl) ?_
  refine LD.splitB (t := 19) rfl (fun h1 => ?_) (fun h1 => ?_)
  ·
   refine LD.rd rfl ⟨19, _, rfl, rfl, rfl⟩ (oml rfl rfl rfl) ?_
   refine LD.rd rfl ⟨19, _, rfl, rfl, rfl⟩ (oml rfl rfl rfl) ?_
   refine LD.val rfl ⟨19, _, rfl, rfl, rfl⟩ (ov_nilCheck rfl) <| LD.val rfl ⟨19, _, rfl, rfl, rfl⟩ (ovf 56 rfl rfl rfl rfl) ?_
   refine LD.rd rfl ⟨19, _, rfl, rfl, rfl⟩ (oml rfl rfl rfl) ?_
   refine LD.val rfl ⟨19, _, rfl, rfl, rfl⟩ (ov_len Tryz.underlying56 rfl) ?_
   refine LD.val rfl ⟨19, _, rfl, rfl, rfl⟩ (ov_lss rfl rfl) ?_
   refine LD.val rfl rfl (ov_pickT rfl rfl) ?_
   refine LD.val rfl rfl (ov_move rfl) ?_
   refine LD.splitD (t := 28) rfl (fun h2 => ?_) (fun h2 => ?_)
   ·
    refine LD.rd rfl ⟨28, _, rfl, rfl, rfl⟩ (oml rfl rfl rfl) ?_
    refine LD.val rfl ⟨28, _, rfl, rfl, rfl⟩ (ov_nilCheck rfl) <| LD.val rfl ⟨28, _, rfl, rfl, rfl⟩ (ovf 56 rfl rfl rfl rfl) ?_
    refine LD.rd rfl ⟨28, _, rfl, rfl, rfl⟩ (oml rfl rfl rfl) ?_
    refine LD.rd rfl ⟨28, _, rfl, rfl, rfl⟩ (oml rfl rfl rfl) ?_
    refine LD.val rfl ⟨28, _, rfl, rfl, rfl⟩ (ov_idxSN au6 Tryz.underlying56 Tryz.sizeOf59 rfl rfl om) ?_
    refine LD.val rfl ⟨28, _, rfl, rfl, rfl⟩ (ovf 3 rfl rfl rfl rfl) ?_
    refine LD.rd rfl ⟨28, _, rfl, rfl, rfl⟩ (om_slE (j := 0) asm ir Tryz.isAgg3 rfl rfl au3 rfl (by rfl)) ?_
    refine LD.val rfl ⟨28, _, rfl, rfl, rfl⟩ (ov_move rfl) ?_
    refine LD.val rfl ⟨28, _, rfl, rfl, rfl⟩ (ov_eql rfl rfl) ?_
    refine LD.val rfl rfl (ov_pickT rfl rfl) ?_
    refine LD.val rfl rfl (ov_move rfl) ?_
    refine LD.splitD (t := 40) rfl (fun h3 => ?_) (fun h3 => ?_)
    ·
     refine LD.rd rfl ⟨40, _, rfl, rfl, rfl⟩ (oml rfl rfl rfl) ?_
     refine LD.val rfl ⟨40, _, rfl, rfl, rfl⟩ (ov_nilCheck rfl) <| LD.val rfl ⟨40, _, rfl, rfl, rfl⟩ (ovf 56 rfl rfl rfl rfl) ?_
     refine LD.rd rfl ⟨40, _, rfl, rfl, rfl⟩ (oml rfl rfl rfl) ?_
     refine LD.rd rfl ⟨40, _, rfl, rfl, rfl⟩ (oml rfl rfl rfl) ?_
     refine LD.val rfl ⟨40, _, rfl, rfl, rfl⟩ (ov_idxSN au6 Tryz.underlying56 Tryz.sizeOf59 rfl rfl om) ?_
     refine LD.val rfl ⟨40, _, rfl, rfl, rfl⟩ (ovf 3 rfl rfl rfl rfl) ?_
     refine LD.rd rfl ⟨40, _, rfl, rfl, rfl⟩ (om_slE (j := 1) asm ir Tryz.isAgg3 rfl rfl au3 rfl (by rfl)) ?_
     refine LD.val rfl ⟨40, _, rfl, rfl, rfl⟩ (ov_move rfl) ?_
     refine LD.val rfl ⟨40, _, rfl, rfl, rfl⟩ (ov_eql rfl rfl) ?_
     rw [decide_eq_true (show ((x.wt.map whd).getD k default).p = (x.wt.getD k default).key by rw [whd_getD hkl]; rfl)]
     refine LD.val rfl rfl (ov_pickT rfl rfl) ?_
     refine LD.tail rfl rfl ?_
     refine LM.st Tryz.sizeOf4 rfl rfl rfl au5 rfl au8 ?_
     refine LM.nil ?_
     refine QM.qn ?_
     refine QM.sub (e' := [(7, _)]) ⟨rfl, trivial⟩ (QM.then (wpM.region ?_))
     refine LM.rd (oml rfl rfl rfl) ?_
     refine LM.val (ov_add64 rfl rfl om) ?_
     refine LM.st Tryz.sizeOf3 rfl rfl rfl au5 rfl au8 ?_
     refine LM.nil (QM.sub (e' := []) trivial ?_)
     refine QM.block_normal ?_
     refine QM.next (⟨⟩) (SubM.mem au1) (fun _ h => h) ?_
     · trivial
    exact absurd (by rw [whd_getD hkl]; rfl) h3
   exfalso; omega
  cases h1
 ·
  rintro ⟨⟩ D0 hD0 -
  rw [wtA_len]
  refine QM.sub (e' := [(0, _), (4, _), (5, _), (7, _), (8, _)]) au9 ?_
  refine QM.block_normal <| QM.then <| wpM.seq <| wR <| LM.as rfl <| nA [(0, _), (4, _), (5, _), (7, _), (8, _), (11, _)] <| wpM.block ?_
  refine wpM.loopK0 (α := Nat) (fun i => [(11, .int .i64 ((i : Int) - 1))]) [(0, _), (4, _), (5, _), (7, _), (8, _)] (fun i => (D0, Obj.deferred (some [])) :: wB b4 b2 :: dB b5 d :: niB b7 (x.wt.length : Nat) :: bB b8 true :: (m ++ (rkC b2 x.sh x.sl adh nh caph adw nw capw x.tr bl x.di :: (mh ++ (mw ++ (rlC bl ad9 n9 cap9 x.ld.sl x.ld.cr x.ld.fl :: (ms9 ++ []))))))) (fun i => i ≤ n9 + 2) (fun i => n9 + 2 - i) (0) ⟨(by first | rfl | exact lk rfl (by congr 1; omega)), rfl, rfl, rfl, rfl, rfl, trivial⟩ au1 om ?_
  rintro i hi
  change wpM _ _ _ _ _ _ _ ((D0, Obj.deferred (some [])) :: wB b4 b2 :: dB b5 d :: niB b7 (x.wt.length : Nat) :: bB b8 true :: (m ++ (rkC b2 x.sh x.sl adh nh caph adw nw capw x.tr bl x.di :: (mh ++ (mw ++ (rlC bl ad9 n9 cap9 x.ld.sl x.ld.cr x.ld.fl :: (ms9 ++ []))))))) _ _ _
  refine wpM.seq <| wR <| LM.mv rfl ?_
  refine LM.rd (oml rfl rfl rfl) ?_
  refine LM.nc rfl <| LM.val (ovf 76 rfl rfl rfl rfl) ?_
  refine LM.rd (oml rfl rfl rfl) ?_
  refine LM.nc rfl <| LM.val (ovf 97 rfl rfl rfl rfl) ?_
  refine LM.rd (oml rfl rfl rfl) ?_
  refine LM.val (ov_len Tryz.underlying97 rfl) <| LM.val (ov_leq rfl rfl) <| nA [(0, _), (4, _), (5, _), (7, _), (8, _), (11, _), (63, _)] ?_
  refine wpM.condD rfl (fun h4 => ?_) (fun h4 => ?_)
  ·
   refine wpM.skip <| QM.then <| wpM.seq <| wpM.block <| wR <| LM.mv rfl <| LM.mv rfl ?_
   refine cE Tryz.func74 rfl (fun w hm hc hg => lkAcc_spec _ w h (hm.pick m)) ?_
   refine LM.mv rfl <| LM.val (ov_extract rfl rfl) <| LM.val (ov_extract rfl rfl) <| LM.as rfl <| LM.as rfl <| nA [(0, _), (4, _), (5, _), (7, _), (8, _), (11, _), (12, _), (13, _)] <| wpM.seq ?_
   refine wpM.drawF [(0, 1), (1, 0), (2, 0), (3, 1), (4, 0), (5, 2), (6, 0), (7, 0), (8, 1), (9, 0), (10, 0), (11, 1), (12, 0), (13, 0), (14, 1), (15, 0), (16, 0), (17, 0), (18, 1), (19, 0), (20, 0), (21, 0), (22, 1), (23, 0), (24, 0), (25, 1), (26, 0), (27, 0), (28, 1), (29, 0), (30, 0), (31, 0), (32, 1), (33, 0), (34, 0), (35, 0), (36, 0), (37, 1), (38, 0), (39, 0), (40, 1), (41, 0), (42, 2), (43, 0), (44, 0), (45, 0), (46, 0), (47, 0), (48, 0), (49, 0), (50, 0), (51, 0), (52, 0), (53, 0), (54, 0), (55, 0), (57, 1), (58, 0), (56, 2), (59, 2), (60, 0), (61, 0)] _ kr rfl kr ?_
   refine LD.rd rfl rfl (oml rfl rfl rfl) ?_
   refine LD.val rfl rfl (ov_nilCheck rfl) <| LD.val rfl rfl (ovf 76 rfl rfl rfl rfl) ?_
   refine LD.rd rfl rfl (oml rfl rfl rfl) ?_
   refine LD.val rfl rfl (ov_move rfl) ?_
   refine dE rfl rfl Tryz.func70 rfl (fun w hm hc hg => rdIs_spec _ w hLe0 (hm.pick (rlC bl ad9 n9 cap9 x.ld.sl x.ld.cr x.ld.fl :: ms9))) ?_
   refine LD.val rfl rfl (ov_move rfl) ?_
   refine LD.splitB (t := 78) rfl (fun h5 => ?_) (fun h5 => ?_)
   ·
    obtain ⟨q, hq, hql⟩ := isO_at h5; have h5q : isO x.ld (q : Int) = true := (by rw [← hq]; exact h5); rw [if_pos h5, if_pos h5, hq]
    refine LD.val rfl ⟨78, _, rfl, rfl, rfl⟩ (ov_move rfl) ?_
    refine LD.rd rfl ⟨78, _, rfl, rfl, rfl⟩ (oml rfl rfl rfl) ?_
    refine LD.val rfl ⟨78, _, rfl, rfl, rfl⟩ (ov_nilCheck rfl) <| LD.val rfl ⟨78, _, rfl, rfl, rfl⟩ (ovf 76 rfl rfl rfl rfl) ?_
    refine LD.rd rfl ⟨78, _, rfl, rfl, rfl⟩ (oml rfl rfl rfl) ?_
    refine LD.val rfl ⟨78, _, rfl, rfl, rfl⟩ (ov_nilCheck rfl) <| LD.val rfl ⟨78, _, rfl, rfl, rfl⟩ (ovf 97 rfl rfl rfl rfl) ?_
    refine LD.rd rfl ⟨78, _, rfl, rfl, rfl⟩ (oml rfl rfl rfl) ?_
    refine LD.val rfl ⟨78, _, rfl, rfl, rfl⟩ (ov_move rfl) ?_
    refine LD.val rfl ⟨78, _, rfl, rfl, rfl⟩ (ov_idxSN au6 Tryz.underlying97 Tryz.sizeOf96 rfl rfl om) ?_
    refine LD.val rfl ⟨78, _, rfl, rfl, rfl⟩ (ovf 51 rfl rfl rfl rfl) ?_
    refine LD.rd rfl ⟨78, _, rfl, rfl, rfl⟩ (om_slE (j := 1) asm ir Tryz.isAgg51 rfl rfl au3 rfl (by rfl)) ?_
    refine LD.val rfl ⟨78, _, rfl, rfl, rfl⟩ (ov_uneq rfl rfl) ?_
    refine LD.val rfl ⟨78, _, rfl, rfl, rfl⟩ (ov_move rfl) ?_
    refine LD.splitD (t := 92) rfl (fun h6 => ?_) (fun h6 => ?_)
    ·
     exact absurd rfl h6
    refine LD.val rfl ⟨92, _, rfl, rfl, rfl⟩ (ov_move rfl) ?_
    refine LD.rd rfl ⟨92, _, rfl, rfl, rfl⟩ (oml rfl rfl rfl) ?_
    refine LD.val rfl ⟨92, _, rfl, rfl, rfl⟩ (ov_nilCheck rfl) <| LD.val rfl ⟨92, _, rfl, rfl, rfl⟩ (ovf 76 rfl rfl rfl rfl) ?_
    refine LD.rd rfl ⟨92, _, rfl, rfl, rfl⟩ (oml rfl rfl rfl) ?_
    refine LD.val rfl ⟨92, _, rfl, rfl, rfl⟩ (ov_nilCheck rfl) <| LD.val rfl ⟨92, _, rfl, rfl, rfl⟩ (ovf 97 rfl rfl rfl rfl) ?_
    refine LD.rd rfl ⟨92, _, rfl, rfl, rfl⟩ (oml rfl rfl rfl) ?_
    refine LD.val rfl ⟨92, _, rfl, rfl, rfl⟩ (ov_move rfl) ?_
    refine LD.val rfl ⟨92, _, rfl, rfl, rfl⟩ (ov_idxSN au6 Tryz.underlying97 Tryz.sizeOf96 rfl rfl om) ?_
    refine LD.val rfl ⟨92, _, rfl, rfl, rfl⟩ (ovf 3 rfl rfl rfl rfl) ?_
    refine LD.rd rfl ⟨92, _, rfl, rfl, rfl⟩ (om_slE (j := 2) asm ir Tryz.isAgg3 rfl rfl au3 rfl (by rfl)) ?_
    refine LD.val rfl ⟨92, _, rfl, rfl, rfl⟩ (ov_neq rfl rfl) ?_
    refine LD.val rfl ⟨78, _, rfl, rfl, rfl⟩ (ov_pickF rfl rfl) ?_
    refine LD.val rfl rfl (ov_pickT rfl rfl) ?_
    refine LD.val rfl rfl (ov_move rfl) ?_
    refine LD.splitD (t := 108) rfl (fun h7 => ?_) (fun h7 => ?_)
    ·
     exact absurd rfl h7
    refine LD.rd rfl ⟨108, _, rfl, rfl, rfl⟩ (oml rfl rfl rfl) ?_
    refine LD.val rfl ⟨108, _, rfl, rfl, rfl⟩ (ov_nilCheck rfl) <| LD.val rfl ⟨108, _, rfl, rfl, rfl⟩ (ovf 76 rfl rfl rfl rfl) ?_
    refine LD.rd rfl ⟨108, _, rfl, rfl, rfl⟩ (oml rfl rfl rfl) ?_
    refine LD.val rfl ⟨108, _, rfl, rfl, rfl⟩ (ov_move rfl) ?_
    refine dE rfl ⟨108, _, rfl, rfl, rfl⟩ Tryz.func70 rfl (fun w hm hc hg => rdIs_spec _ w hLe0 (hm.pick (rlC bl ad9 n9 cap9 x.ld.sl x.ld.cr x.ld.fl :: ms9))) ?_
    refine LD.val rfl ⟨108, _, rfl, rfl, rfl⟩ (ov_notD rfl) ?_
    refine LD.val rfl ⟨108, _, rfl, rfl, rfl⟩ (ov_move rfl) ?_
    refine LD.splitD (t := 116) rfl (fun h8 => ?_) (fun h8 => ?_)
    ·
     exfalso; omega
    refine LD.drop rfl rfl ⟨116, _, rfl, rfl, rfl⟩ <| LD.drop rfl rfl ⟨116, _, rfl, rfl, rfl⟩ ?_
    refine LD.dropU rfl rfl ⟨116, _, rfl, rfl, rfl⟩ ?_
    refine LD.dropX rfl rfl rfl rfl <| LD.dropX rfl rfl rfl rfl <| LD.drop rfl rfl ⟨116, _, rfl, rfl, rfl⟩ ?_
    refine LD.val rfl ⟨108, _, rfl, rfl, rfl⟩ (ov_pickF rfl rfl) ?_
    refine LD.val rfl rfl (ov_pickF rfl rfl) ?_
    refine LD.val rfl rfl (ov_move rfl) <| LD.val rfl ⟨125, _, rfl, rfl, rfl⟩ (ov_move rfl) <| LD.val rfl ⟨125, _, rfl, rfl, rfl⟩ (ov_move rfl) ?_
    refine LD.rd rfl ⟨125, _, rfl, rfl, rfl⟩ (oml rfl rfl rfl) ?_
    refine LD.val rfl ⟨125, _, rfl, rfl, rfl⟩ (ov_move rfl) ?_
    refine dE rfl ⟨125, _, rfl, rfl, rfl⟩ Tryz.func39 rfl (fun w hm hc hg => lkFree_spec _ w h (hm.pick m)) ?_
    refine dE rfl ⟨125, _, rfl, rfl, rfl⟩ Tryz.func26 rfl (fun w hm hc hg => rkFree_spec _ w hv hRk (hm.pick (rkM0 b2 x adh nh caph adw nw capw bl mh mw (rlC bl ad9 n9 cap9 x.ld.sl x.ld.cr x.ld.fl :: ms9)))) ?_
    refine LD.val rfl ⟨125, _, rfl, rfl, rfl⟩ (ov_bneq Tryz.underlying4 rfl rfl) ?_
    refine LD.val rfl rfl (ov_pickF rfl rfl) ?_
    refine LD.nil ?_
    refine QM.sub (e' := [(0, _), (4, _), (5, _), (7, _), (8, _), (11, _), (133, _)]) au9 (QM.then ?_)
    refine wpM.condB rfl (fun h9 => ?_) (fun h9 => ?_)
    ·
     (simp at h9; done)
    refine wpM.skip <| QM.block_normal ?_
    refine QM.then (wpM.region ?_)
    refine LM.mv rfl ?_
    refine LM.val (ov_add64 rfl rfl om) ?_
    refine LM.as rfl <| nC [(0, _), (4, _), (5, _), (7, _), (8, _), (11, _)] ?_
    refine QM.againK (i + 1) ⟨(by first | rfl | exact lk rfl (by congr 1; omega)), rfl, rfl, rfl, rfl, rfl, trivial⟩ au1 (fun _ h => h) ?_ ?_
    · omega
    · omega
   rw [if_neg (show ¬ isO x.ld ((i : Int) - 1) = true by rw [h5]; simp), if_neg (show ¬ isO x.ld ((i : Int) - 1) = true by rw [h5]; simp)]
   refine LD.drop rfl rfl ⟨78, _, rfl, rfl, rfl⟩ <| LD.drop rfl rfl ⟨78, _, rfl, rfl, rfl⟩ <| LD.drop rfl rfl ⟨78, _, rfl, rfl, rfl⟩ <| LD.drop rfl rfl ⟨78, _, rfl, rfl, rfl⟩ <| LD.drop rfl rfl ⟨78, _, rfl, rfl, rfl⟩ <| LD.drop rfl rfl ⟨78, _, rfl, rfl, rfl⟩ <| LD.drop rfl rfl ⟨78, _, rfl, rfl, rfl⟩ <| LD.drop rfl rfl ⟨78, _, rfl, rfl, rfl⟩ <| LD.drop rfl rfl ⟨78, _, rfl, rfl, rfl⟩ <| LD.drop rfl rfl ⟨78, _, rfl, rfl, rfl⟩ <| LD.drop rfl rfl ⟨78, _, rfl, rfl, rfl⟩ <| LD.drop rfl rfl ⟨78, _, rfl, rfl, rfl⟩ <| LD.drop rfl rfl ⟨78, _, rfl, rfl, rfl⟩ ?_
   refine LD.dropU rfl rfl ⟨78, _, rfl, rfl, rfl⟩ ?_
   refine LD.dropX rfl rfl rfl rfl <| LD.dropX rfl rfl rfl rfl <| LD.dropX rfl rfl rfl rfl <| LD.dropX rfl rfl rfl rfl <| LD.dropX rfl rfl rfl rfl <| LD.dropX rfl rfl rfl rfl <| LD.dropX rfl rfl rfl rfl <| LD.dropX rfl rfl rfl rfl <| LD.dropX rfl rfl rfl rfl <| LD.dropX rfl rfl rfl rfl <| LD.dropX rfl rfl rfl rfl <| LD.dropX rfl rfl rfl rfl <| LD.dropX rfl rfl rfl rfl <| LD.drop rfl rfl ⟨78, _, rfl, rfl, rfl⟩ ?_
   refine LD.val rfl rfl (ov_pickF rfl rfl) ?_
   refine LD.val rfl rfl (ov_move rfl) ?_
   refine LD.rd rfl ⟨108, _, rfl, rfl, rfl⟩ (oml rfl rfl rfl) ?_
   refine LD.val rfl ⟨108, _, rfl, rfl, rfl⟩ (ov_nilCheck rfl) <| LD.val rfl ⟨108, _, rfl, rfl, rfl⟩ (ovf 76 rfl rfl rfl rfl) ?_
   refine LD.rd rfl ⟨108, _, rfl, rfl, rfl⟩ (oml rfl rfl rfl) ?_
   refine LD.val rfl ⟨108, _, rfl, rfl, rfl⟩ (ov_move rfl) ?_
   refine dE rfl ⟨108, _, rfl, rfl, rfl⟩ Tryz.func70 rfl (fun w hm hc hg => rdIs_spec _ w hLe0 (hm.pick (rlC bl ad9 n9 cap9 x.ld.sl x.ld.cr x.ld.fl :: ms9))) ?_
   refine LD.val rfl ⟨108, _, rfl, rfl, rfl⟩ (ov_not rfl) ?_
   refine LD.val rfl ⟨108, _, rfl, rfl, rfl⟩ (ov_move rfl) ?_
   refine LD.splitB (t := 116) rfl (fun h10 => ?_) (fun h10 => ?_)
   ·
    refine LD.val rfl ⟨116, _, rfl, rfl, rfl⟩ (ov_move rfl) ?_
    refine LD.val rfl ⟨116, _, rfl, rfl, rfl⟩ (ov_uneq (b := 0#64) rfl rfl) ?_
    refine LD.val rfl ⟨116, _, rfl, rfl, rfl⟩ (ov_move rfl) ?_
    refine LD.splitD (t := 119) rfl (fun h11 => ?_) (fun h11 => ?_)
    ·
     exact absurd rfl h11
    refine LD.val rfl ⟨119, _, rfl, rfl, rfl⟩ (ov_move rfl) ?_
    refine LD.val rfl ⟨119, _, rfl, rfl, rfl⟩ (ov_neq rfl rfl) ?_
    refine LD.val rfl ⟨116, _, rfl, rfl, rfl⟩ (ov_pickF rfl rfl) ?_
    refine LD.val rfl ⟨108, _, rfl, rfl, rfl⟩ (ov_pickT rfl rfl) ?_
    refine LD.val rfl rfl (ov_pickF rfl rfl) ?_
    refine LD.val rfl rfl (ov_move rfl) ?_
    refine LD.splitD (t := 125) rfl (fun h12 => ?_) (fun h12 => ?_)
    ·
     exact absurd rfl h12
    refine LD.val rfl ⟨125, _, rfl, rfl, rfl⟩ (ov_move rfl) <| LD.val rfl ⟨125, _, rfl, rfl, rfl⟩ (ov_move rfl) ?_
    refine LD.rd rfl ⟨125, _, rfl, rfl, rfl⟩ (oml rfl rfl rfl) ?_
    refine LD.val rfl ⟨125, _, rfl, rfl, rfl⟩ (ov_move rfl) ?_
    refine dE rfl ⟨125, _, rfl, rfl, rfl⟩ Tryz.func39 rfl (fun w hm hc hg => lkFree_spec _ w h (hm.pick m)) ?_
    refine dE rfl ⟨125, _, rfl, rfl, rfl⟩ Tryz.func26 rfl (fun w hm hc hg => rkFree_spec _ w hv hRk (hm.pick (rkM0 b2 x adh nh caph adw nw capw bl mh mw (rlC bl ad9 n9 cap9 x.ld.sl x.ld.cr x.ld.fl :: ms9)))) ?_
    refine LD.val rfl ⟨125, _, rfl, rfl, rfl⟩ (ov_bneq Tryz.underlying4 rfl rfl) ?_
    refine LD.val rfl rfl (ov_pickF rfl rfl) ?_
    refine LD.nil ?_
    refine QM.sub (e' := [(0, _), (4, _), (5, _), (7, _), (8, _), (11, _), (133, _)]) au9 (QM.then ?_)
    refine wpM.condB rfl (fun h13 => ?_) (fun h13 => ?_)
    ·
     (simp at h13; done)
    refine wpM.skip <| QM.block_normal ?_
    refine QM.then (wpM.region ?_)
    refine LM.mv rfl ?_
    refine LM.val (ov_add64 rfl rfl om) ?_
    refine LM.as rfl <| nC [(0, _), (4, _), (5, _), (7, _), (8, _), (11, _)] ?_
    refine QM.againK (i + 1) ⟨(by first | rfl | exact lk rfl (by congr 1; omega)), rfl, rfl, rfl, rfl, rfl, trivial⟩ au1 (fun _ h => h) ?_ ?_
    · omega
    · omega
   rw [h5] at h10; cases h10
  refine wpM.exit <| QM.then_exit <| QM.then_exit <| QM.block_hit <| QM.then <| wpM.seq ?_
  refine wpM.drawF [(0, 1), (1, 0), (2, 1), (3, 1), (4, 0), (5, 0), (6, 1), (7, 0), (8, 0), (9, 0), (10, 0), (11, 0), (13, 1), (14, 0), (15, 0), (16, 1), (12, 2), (17, 2), (18, 0), (19, 0), (20, 0), (22, 1), (23, 0), (24, 0), (25, 1), (21, 2), (26, 0), (27, 0), (28, 0), (29, 0), (31, 1), (32, 0), (33, 0), (34, 1), (30, 2), (35, 0), (36, 0), (37, 0), (38, 0), (40, 1), (41, 0), (42, 0), (43, 1), (44, 0), (45, 0), (46, 1), (39, 2), (47, 0), (48, 0), (49, 0), (50, 0), (51, 0), (52, 1), (54, 1), (55, 0), (56, 1), (53, 2), (57, 2), (58, 0), (59, 0), (60, 0), (61, 0), (62, 0), (63, 1), (65, 1), (66, 0), (67, 1), (64, 2), (68, 2), (69, 0), (70, 0), (71, 0), (72, 0), (73, 0), (74, 1), (76, 1), (77, 0), (78, 1), (75, 2), (79, 2), (80, 0), (81, 0), (82, 0)] _ kr rfl kr ?_
  refine LD.rd rfl rfl (oml rfl rfl rfl) ?_
  refine LD.val rfl rfl (ov_move rfl) ?_
  refine LD.splitB (t := 135) rfl (fun h14 => ?_) (fun h14 => ?_)
  ·
   refine LD.rd rfl ⟨135, _, rfl, rfl, rfl⟩ (oml rfl rfl rfl) ?_
   refine LD.rd rfl ⟨135, _, rfl, rfl, rfl⟩ (oml rfl rfl rfl) ?_
   refine LD.val rfl ⟨135, _, rfl, rfl, rfl⟩ (ov_nilCheck rfl) <| LD.val rfl ⟨135, _, rfl, rfl, rfl⟩ (ovf 56 rfl rfl rfl rfl) ?_
   refine LD.rd rfl ⟨135, _, rfl, rfl, rfl⟩ (oml rfl rfl rfl) ?_
   refine LD.val rfl ⟨135, _, rfl, rfl, rfl⟩ (ov_len Tryz.underlying56 rfl) ?_
   refine LD.val rfl ⟨135, _, rfl, rfl, rfl⟩ (ov_eql rfl rfl) ?_
   refine LD.val rfl rfl (ov_pickT rfl rfl) ?_
   refine LD.val rfl rfl (ov_move rfl) ?_
   refine LD.splitD (t := 144) rfl (fun h15 => ?_) (fun h15 => ?_)
   ·
    refine LD.val rfl ⟨144, _, rfl, rfl, rfl⟩ (ov_move rfl) ?_
    refine LD.rd rfl ⟨144, _, rfl, rfl, rfl⟩ (oml rfl rfl rfl) ?_
    refine LD.val rfl ⟨144, _, rfl, rfl, rfl⟩ (ov_nilCheck rfl) <| LD.val rfl ⟨144, _, rfl, rfl, rfl⟩ (ovf 56 rfl rfl rfl rfl) ?_
    refine LD.rd rfl ⟨144, _, rfl, rfl, rfl⟩ (oml rfl rfl rfl) ?_
    refine LD.cS rfl ⟨144, _, rfl, rfl, rfl⟩ (oc_call (enters_fn Tryz.func29 kr rfl) rfl) (fun w hm hc hg => lkHdrs_spec w h om (hm.pick m)) (fun ad146 n146 cap146 m146 hn146 hs146 => ?_)
    refine dE rfl ⟨144, _, rfl, rfl, rfl⟩ Tryz.func75 rfl (fun w hm hc hg => holds20_spec w hn146 (hs146.srM ir hm) hnh (hSh.1.srM ir hm) om) ?_
    refine LD.val rfl rfl (ov_pickT rfl rfl) ?_
    refine LD.val rfl rfl (ov_move rfl) ?_
    refine LD.splitB (t := 153) rfl (fun h16 => ?_) (fun h16 => ?_)
    ·
     refine LD.val rfl ⟨153, _, rfl, rfl, rfl⟩ (ov_move rfl) ?_
     refine LD.rd rfl ⟨153, _, rfl, rfl, rfl⟩ (oml rfl rfl rfl) ?_
     refine LD.val rfl ⟨153, _, rfl, rfl, rfl⟩ (ov_nilCheck rfl) <| LD.val rfl ⟨153, _, rfl, rfl, rfl⟩ (ovf 64 rfl rfl rfl rfl) ?_
     refine LD.rd rfl ⟨153, _, rfl, rfl, rfl⟩ (om_ldA Tryz.isAgg64 Tryz.sizeOf64 rfl (vs := [_, _]) rfl ⟨rfl, rfl, trivial⟩) ?_
     refine dE rfl ⟨153, _, rfl, rfl, rfl⟩ Tryz.func33 rfl (fun w hm hc hg => lkTurn_spec w h (hm.pick m)) ?_
     refine LD.val rfl ⟨153, _, rfl, rfl, rfl⟩ (ov_aeql Tryz.underlying64 kr kr (by decide) rfl rfl (by rfl) ⟨(by first | rfl | trivial), (by first | rfl | trivial), trivial⟩) ?_
     refine LD.val rfl rfl (ov_pickT rfl rfl) ?_
     refine LD.val rfl rfl (ov_move rfl) ?_
     refine LD.splitB (t := 162) rfl (fun h17 => ?_) (fun h17 => ?_)
     ·
      refine LD.val rfl ⟨162, _, rfl, rfl, rfl⟩ (ov_move rfl) ?_
      refine LD.rd rfl ⟨162, _, rfl, rfl, rfl⟩ (oml rfl rfl rfl) ?_
      refine LD.val rfl ⟨162, _, rfl, rfl, rfl⟩ (ov_nilCheck rfl) <| LD.val rfl ⟨162, _, rfl, rfl, rfl⟩ (ovf 4 rfl rfl rfl rfl) ?_
      refine LD.rd rfl ⟨162, _, rfl, rfl, rfl⟩ (oml rfl rfl rfl) ?_
      refine dE rfl ⟨162, _, rfl, rfl, rfl⟩ Tryz.func76 rfl (fun w hm hc hg => lkDied_spec w h (hm.pick m)) ?_
      refine LD.val rfl ⟨162, _, rfl, rfl, rfl⟩ (ov_beql Tryz.underlying4 rfl rfl) ?_
      refine LD.val rfl rfl (ov_pickT rfl rfl) ?_
      refine LD.val rfl rfl (ov_move rfl) ?_
      refine LD.splitD (t := 171) rfl (fun h18 => ?_) (fun h18 => ?_)
      ·
       refine LD.val rfl ⟨171, _, rfl, rfl, rfl⟩ (ov_move rfl) ?_
       refine LD.rd rfl ⟨171, _, rfl, rfl, rfl⟩ (oml rfl rfl rfl) ?_
       refine LD.val rfl ⟨171, _, rfl, rfl, rfl⟩ (ov_nilCheck rfl) <| LD.val rfl ⟨171, _, rfl, rfl, rfl⟩ (ovf 76 rfl rfl rfl rfl) ?_
       refine LD.rd rfl ⟨171, _, rfl, rfl, rfl⟩ (oml rfl rfl rfl) ?_
       refine LD.val rfl ⟨171, _, rfl, rfl, rfl⟩ (ov_nilCheck rfl) <| LD.val rfl ⟨171, _, rfl, rfl, rfl⟩ (ovf 51 rfl rfl rfl rfl) ?_
       refine LD.rd rfl ⟨171, _, rfl, rfl, rfl⟩ (oml rfl rfl rfl) ?_
       refine dE rfl ⟨171, _, rfl, rfl, rfl⟩ Tryz.func77 rfl (fun w hm hc hg => lkFloor_spec w h (hm.pick m)) ?_
       refine LD.val rfl ⟨171, _, rfl, rfl, rfl⟩ (ov_ueql rfl rfl) ?_
       refine LD.val rfl rfl (ov_pickT rfl rfl) ?_
       refine LD.val rfl rfl (ov_move rfl) ?_
       refine LD.splitD (t := 183) rfl (fun h19 => ?_) (fun h19 => ?_)
       ·
        refine LD.val rfl ⟨183, _, rfl, rfl, rfl⟩ (ov_move rfl) <| LD.val rfl ⟨183, _, rfl, rfl, rfl⟩ (ovf 3 rfl rfl rfl rfl) ?_
        refine LD.rd rfl ⟨183, _, rfl, rfl, rfl⟩ (oml rfl rfl rfl) ?_
        refine LD.rd rfl ⟨183, _, rfl, rfl, rfl⟩ (oml rfl rfl rfl) ?_
        refine LD.val rfl ⟨183, _, rfl, rfl, rfl⟩ (ovf 3 rfl rfl rfl rfl) ?_
        refine LD.rd rfl ⟨183, _, rfl, rfl, rfl⟩ (oml rfl rfl rfl) ?_
        refine dE rfl ⟨183, _, rfl, rfl, rfl⟩ Tryz.func32 rfl (fun w hm hc hg => lkHolds_spec _ w h (hm.pick m)) ?_
        refine dE rfl ⟨183, _, rfl, rfl, rfl⟩ Tryz.func61 rfl (fun w hm hc hg => rkHoldsO_spec _ w hRk (hm.pick (rkM0 b2 x adh nh caph adw nw capw bl mh mw (rlC bl ad9 n9 cap9 x.ld.sl x.ld.cr x.ld.fl :: ms9)))) ?_
        refine LD.val rfl ⟨183, _, rfl, rfl, rfl⟩ (ov_beql Tryz.underlying4 rfl rfl) ?_
        refine LD.val rfl rfl (ov_pickT rfl rfl) ?_
        refine LD.val rfl rfl (ov_move rfl) ?_
        refine LD.splitD (t := 194) rfl (fun h20 => ?_) (fun h20 => ?_)
        ·
         refine LD.val rfl ⟨194, _, rfl, rfl, rfl⟩ (ov_move rfl) <| LD.val rfl ⟨194, _, rfl, rfl, rfl⟩ (ovf 3 rfl rfl rfl rfl) ?_
         refine LD.rd rfl ⟨194, _, rfl, rfl, rfl⟩ (oml rfl rfl rfl) ?_
         refine LD.rd rfl ⟨194, _, rfl, rfl, rfl⟩ (oml rfl rfl rfl) ?_
         refine LD.val rfl ⟨194, _, rfl, rfl, rfl⟩ (ovf 3 rfl rfl rfl rfl) ?_
         refine LD.rd rfl ⟨194, _, rfl, rfl, rfl⟩ (oml rfl rfl rfl) ?_
         refine dE rfl ⟨194, _, rfl, rfl, rfl⟩ Tryz.func78 rfl (fun w hm hc hg => lkParty_spec _ _ w h (hm.pick m)) ?_
         refine dE rfl ⟨194, _, rfl, rfl, rfl⟩ Tryz.func79 rfl (fun w hm hc hg => rkParty_spec _ _ w hRk (hm.pick (rkM0 b2 x adh nh caph adw nw capw bl mh mw (rlC bl ad9 n9 cap9 x.ld.sl x.ld.cr x.ld.fl :: ms9)))) ?_
         refine LD.val rfl ⟨194, _, rfl, rfl, rfl⟩ (ov_eql rfl rfl) ?_
         refine LD.val rfl rfl (ov_pickT rfl rfl) ?_
         refine LD.val rfl rfl (ov_move rfl) ?_
         refine LD.splitD (t := 205) rfl (fun h21 => ?_) (fun h21 => ?_)
         ·
          refine LD.val rfl ⟨205, _, rfl, rfl, rfl⟩ (ov_move rfl) <| LD.val rfl ⟨205, _, rfl, rfl, rfl⟩ (ovf 3 rfl rfl rfl rfl) ?_
          refine LD.rd rfl ⟨205, _, rfl, rfl, rfl⟩ (oml rfl rfl rfl) ?_
          refine LD.rd rfl ⟨205, _, rfl, rfl, rfl⟩ (oml rfl rfl rfl) ?_
          refine LD.val rfl ⟨205, _, rfl, rfl, rfl⟩ (ovf 3 rfl rfl rfl rfl) ?_
          refine LD.rd rfl ⟨205, _, rfl, rfl, rfl⟩ (oml rfl rfl rfl) ?_
          refine dE rfl ⟨205, _, rfl, rfl, rfl⟩ Tryz.func78 rfl (fun w hm hc hg => lkParty_spec _ _ w h (hm.pick m)) ?_
          refine dE rfl ⟨205, _, rfl, rfl, rfl⟩ Tryz.func79 rfl (fun w hm hc hg => rkParty_spec _ _ w hRk (hm.pick (rkM0 b2 x adh nh caph adw nw capw bl mh mw (rlC bl ad9 n9 cap9 x.ld.sl x.ld.cr x.ld.fl :: ms9)))) ?_
          refine LD.val rfl ⟨205, _, rfl, rfl, rfl⟩ (ov_eql rfl rfl) ?_
          refine LD.val rfl rfl (ov_pickT rfl rfl) ?_
          refine LD.val rfl rfl (ov_assign rfl) <| LD.nil ?_
          refine QM.sub (e' := [(6, _)]) ⟨rfl, trivial⟩ (QM.then ?_)
          refine wpM.ret ?_
          refine QM.leaveDF (ds := [D0]) (.inl rfl) [.tmp 6] Tryz.results27 rfl (fun D h => by simp only [List.mem_cons, List.not_mem_nil, or_false] at h; omega) ?_
          intro w' hm' hc'
          exact ⟨congrArg Value.bool (decide_eq_true rfl), hc'⟩
         exact absurd rfl h21
        exact absurd rfl h20
       exact absurd rfl h19
      exact absurd rfl h18
     exact absurd ((fTr_eq x.tr).symm.trans h17) (by decide)
    cases h16
   exact absurd om h15
  cases h14
 ·
  rintro ⟨⟩ D0 hD0 hx
  exact hx.elim
 rintro id ⟨⟩ D0 hD0 hx
 exact hx.elim
theorem lkTake2 {n0 T b : Nat} {x : Lkm} {m : Mem0} (t p : Int) (w : World) (hT : Tab w) (hn1 : 0 < n0) (h : LkM n0 T b x (x.wt.map (·.who)) m) (hn0 : n0 ≤ w.heap.size) (hx : x.ho.length ≤ 1000) (hM : Mem w m) :
    Ret Tryz.prog 11 #[.pointer (some ⟨b, 0, none⟩), .int .i64 t, .int .i64 p] w (Upd m (fun u m' => u = .int .i64 (takeE x t p) ∧ LkM n0 T b (takeX x t p) ((takeX x t p).wt.map (·.who)) m') w) := by
  rw [take_wt]; exact lkTake_spec t p w hT hn1 h hn0 hx hM
def aw0 : Lkm := lkNew ⟨false, 1, 2, 0, 0⟩ [1, 1]
def aw1 : Lkm := takeX aw0 5 0
def aw2 : Lkm := waitX aw1 6 0
def aw3 : Lkm := waitX aw2 7 1
def aw4 : Lkm := chgX aw3 5
def aw5 : Lkm := unlX aw4 5
theorem aw_w : LkW aw0 ∧ LkW aw1 ∧ LkW aw2 ∧ LkW aw3 ∧ LkW aw4 := by
  have h0 : LkW aw0 := lkNew_w _ _
  exact ⟨h0, h0.take 5 0, (h0.take 5 0).wait 6 0, ((h0.take 5 0).wait 6 0).wait 7 1, (((h0.take 5 0).wait 6 0).wait 7 1).chg 5⟩
theorem aw_b : LkB 0 aw0 ∧ LkB 1 aw1 ∧ LkB 2 aw2 ∧ LkB 3 aw3 ∧ LkB 4 aw4 := by
  have h0 : LkB 0 aw0 := lkNew_b _ _
  exact ⟨h0, h0.take 5 0, (h0.take 5 0).wait 6 0, ((h0.take 5 0).wait 6 0).wait 7 1, (((h0.take 5 0).wait 6 0).wait 7 1).chg 5⟩
theorem aw_f : takeE aw0 5 0 = 0 ∧ waitE aw1 6 0 = 0 ∧ waitE aw2 7 1 = 0 ∧ holdsO aw3 5 = true ∧ unlE aw4 5 = 0 ∧ unlL aw4 5 = [7] ∧ holdsO aw5 7 = true ∧ aw5.tr.p = 1 ∧ aw5.tr.u = 0 := by
  refine ⟨?_, ?_, ?_, ?_, ?_, ?_, ?_, ?_, ?_⟩ <;> kernel_rfl
theorem admL_le (x : Lkm) (p : Int) (n : Nat) : (admL x p n).length ≤ n := by unfold admL; rw [List.length_map, List.length_take]; omega
theorem passL_le (x : Lkm) : (passL x).length ≤ 8 := by
  unfold passL; split
  · exact Nat.zero_le _
  · refine Nat.le_trans (admL_le _ _ _) ?_; unfold passN; split <;> decide
theorem unlL_le (x : Lkm) (t : Int) : (unlL x t).length ≤ 8 := by unfold unlL; split; exact passL_le _; exact Nat.zero_le _
theorem lvL_le (x : Lkm) (t : Int) : (lvL x t).length ≤ 8 := by unfold lvL; split; exact admL_le _ _ _; exact Nat.zero_le _
theorem diL_le (x : Lkm) (t : Int) : (diL x t).length ≤ 8 := by unfold diL; split; exact lvL_le _ _; exact unlL_le _ _
theorem awake20_spec (w : World) (hT : Tab w) : Ret Tryz.prog 6 #[] w (fun v w' => v = .bool true ∧ Ext w w') := by
 have hn1 := hT.pos; obtain ⟨w0, w1, w2, w3, w4⟩ := aw_w; obtain ⟨q0, q1, q2, q3, q4⟩ := aw_b; obtain ⟨f0, f1, f2, f3, f4, f5, f6, f7, f8⟩ := aw_f; have z0 := q0.hl; have z4 := q4.hl; have z1 := q4.tu; have z2 := q3.tu
 refine Ret.enterM Tryz.func6 rfl Tryz.ntmps6 rfl ([]) (no) (Mem.nil w) ?_
 refine wR <| LM.as rfl ?_
 refine LM.nil (QM.sub (e' := []) trivial (QM.then (wpM.seq (wpM.region ?_))))
 refine LM.val (ov_build (cs := #[.bool false, .int .i64 1, .int .i64 2, .int .i64 0, .int .i64 0]) rfl kr) ?_
 refine LM.row (vs := [_, _]) Tryz.underlying24 Tryz.sizeOf3 Tryz.zeroValue3 rfl rfl rfl rfl rfl rfl (fun b9 hb9 => ?_)
 refine LM.callT (oc_call (enters_fn Tryz.func7 kr rfl) rfl) LkNew.mono (fun w hm hc hg => lknew_spec (gs := [1, 1]) ⟨false, 1, 2, 0, 0⟩ w rfl (Sr.row (hm.at b9) rfl rfl (by simp) ir)) ?_
 rintro u10 m10 ⟨b, rfl, h10⟩ hge10
 refine LM.as rfl <| nB [(1, _)] <| LM.mv rfl ?_
 refine cU Tryz.func11 rfl (fun w hm hc hg => lkTake2 (x := aw0) 5 0 w (hT.ext hc) hn1 h10 hc.size om (hm.pick m10)) h10.wlk (fun p hp hlt => absurd hlt (Nat.not_lt_of_le (h10.ge p hp))) ?_
 rintro u12 m12 ⟨rfl, h12⟩ -; rw [f0]
 refine LM.mv rfl ?_
 refine cU Tryz.func13 rfl (fun w hm hc hg => lkWait_spec (x := aw1) 6 0 w (hT.ext hc) hn1 h12 hc.size om (hm.pick m12)) h12.wlk (fun p hp hlt => absurd hlt (Nat.not_lt_of_le (h12.ge p hp))) ?_
 rintro u14 m14 ⟨rfl, h14⟩ -; rw [f1]
 refine LM.mv rfl ?_
 refine cU Tryz.func13 rfl (fun w hm hc hg => lkWait_spec (x := aw2) 7 1 w (hT.ext hc) hn1 h14 hc.size om (hm.pick m14)) h14.wlk (fun p hp hlt => absurd hlt (Nat.not_lt_of_le (h14.ge p hp))) ?_
 rintro u16 m16 ⟨rfl, h16⟩ -; rw [f2]
 refine LM.as rfl <| LM.as rfl <| LM.as rfl <| nB [(1, _), (2, _), (3, _), (4, _)] <| LM.mv rfl ?_
 refine cU Tryz.func22 rfl (fun w hm hc hg => lkChg_spec (x := aw3) 5 w (hT.ext hc) hn1 h16 hc.size w3.hk (fun p hp => by have := q3.hh p hp; omega) om (hm.pick m16)) h16.wlk (fun p hp hlt => absurd hlt (Nat.not_lt_of_le (h16.ge p hp))) ?_
 rintro u18 m18 ⟨rfl, h18⟩ -; rw [f3]
 refine LM.as rfl <| nB [(1, _), (2, _), (3, _), (4, _), (5, _)] <| LM.mv rfl ?_
 refine cU Tryz.func15 rfl (fun w hm hc hg => lkUnl_spec (x := aw4) 5 w (hT.ext hc) hn1 h18 w4.hws hc.size om hc.size (hm.pick m18)) h18.wlk (fun p hp hlt => absurd hlt (Nat.not_lt_of_le (h18.ge p hp))) ?_
 rintro u21 m21 ⟨v21, mr21, mx21, rfl, hr21, rfl, h21⟩ -; rw [f4]; rw [f5] at hr21; obtain ⟨ad21, cap21, rfl⟩ := hr21.form; have h21b : LkM w.heap.size 2 b aw5 (aw5.wt.map (·.who)) mx21 := h21; refine LM.assoc ?_
 refine LM.mv rfl <| LM.val (ov_extract rfl rfl) <| LM.val (ov_extract rfl rfl) <| LM.as rfl <| LM.as rfl <| nB [(1, _), (2, _), (3, _), (4, _), (5, _), (6, _), (7, _)] <| LM.mv rfl <| LM.val (ov_eql rfl rfl) <| LM.mv rfl ?_
 refine LM.splitD (t := 26) rfl (fun h1 => ?_) (fun h1 => ?_)
 ·
  refine LM.sp 26 rfl rfl rfl <| LM.mv rfl <| LM.sp 26 rfl rfl rfl <| LM.val (ov_eql rfl rfl) <| LM.val (ov_pickT rfl rfl) <| LM.mv rfl ?_
  refine LM.splitD (t := 30) rfl (fun h2 => ?_) (fun h2 => ?_)
  ·
   refine LM.sp 30 rfl rfl rfl <| LM.mv rfl <| LM.sp 30 rfl rfl rfl <| LM.val (ov_eql rfl rfl) <| LM.val (ov_pickT rfl rfl) <| LM.mv rfl ?_
   refine LM.splitD (t := 34) rfl (fun h3 => ?_) (fun h3 => ?_)
   ·
    refine LM.sp 34 rfl rfl rfl <| LM.mv rfl <| LM.val (ov_pickT rfl rfl) <| LM.mv rfl ?_
    first | refine LM.splitD (t := 37) rfl (fun h4 => ?_) (fun h4 => ?_) | refine LM.splitB (t := 37) rfl (fun h4 => ?_) (fun h4 => ?_)
    ·
     refine LM.sp 37 rfl rfl rfl <| LM.mv rfl <| LM.sp 37 rfl rfl rfl <| LM.val (ov_eql rfl rfl) <| LM.val (ov_pickT rfl rfl) <| LM.mv rfl ?_
     refine LM.splitD (t := 41) rfl (fun h5 => ?_) (fun h5 => ?_)
     ·
      refine LM.sp 41 rfl rfl rfl <| LM.mv rfl <| LM.sp 41 rfl rfl rfl <| LM.val (ov_len Tryz.underlying24 rfl) <| LM.sp 41 rfl rfl rfl <| LM.val (ov_eql rfl rfl) <| LM.val (ov_pickT rfl rfl) <| LM.mv rfl ?_
      refine LM.splitD (t := 46) rfl (fun h6 => ?_) (fun h6 => ?_)
      ·
       refine LM.sp 46 rfl rfl rfl <| LM.mv rfl <| LM.sp 46 rfl rfl rfl ?_
       refine LM.val (ov_idxSN (i := 0) au6 Tryz.underlying24 Tryz.sizeOf3 rfl rfl om) ?_
       refine LM.sp 46 rfl rfl rfl ?_
       refine LM.rd (om_sl1 (i := 0) asm ir Tryz.isAgg3 rfl rfl (by exact getq 0 au4) (by rfl)) ?_
       refine LM.sp 46 rfl rfl rfl <| LM.val (ov_eql rfl rfl) <| LM.val (ov_pickT rfl rfl) <| LM.mv rfl ?_
       refine LM.splitD (t := 52) rfl (fun h7 => ?_) (fun h7 => ?_)
       ·
        refine LM.sp 52 rfl rfl rfl <| LM.mv rfl <| LM.sp 52 rfl rfl rfl ?_
        refine cE Tryz.func32 rfl (fun w hm hc hg => f6 ▸ lkHolds_spec (x := aw5) 7 w h21b (hm.pick mx21)) ?_
        refine LM.val (ov_pickT rfl rfl) <| LM.mv rfl ?_
        first | refine LM.splitD (t := 56) rfl (fun h8 => ?_) (fun h8 => ?_) | refine LM.splitB (t := 56) rfl (fun h8 => ?_) (fun h8 => ?_)
        ·
         refine LM.sp 56 rfl rfl rfl <| LM.mv rfl <| LM.sp 56 rfl rfl rfl ?_
         refine cE Tryz.func33 rfl (fun w hm hc hg => (show vTr aw5.tr = Value.agg #[.int .i64 1, .int .i64 0] by unfold vTr; rw [f7, f8]) ▸ lkTurn_spec (x := aw5) w h21b (hm.pick mx21)) ?_
         refine LM.sp 56 rfl rfl rfl ?_
         refine LM.val (ov_build (cs := #[.int .i64 1, .int .i64 0]) rfl kr) ?_
         refine LM.sp 56 rfl rfl rfl ?_
         refine LM.val (ov_aeql Tryz.underlying64 kr kr (by decide) rfl rfl (by rfl) ⟨(by first | rfl | trivial), (by first | rfl | trivial), trivial⟩) ?_
         refine LM.val (ov_pickT rfl rfl) <| LM.as rfl <| nA [(0, _)] <| wpM.ret ?_
         refine qL Tryz.results6 rfl fun w' hm' hc' hg' => ?_
         exact ⟨rfl, hc'⟩
        cases h8
       exact absurd rfl h7
      exact absurd rfl h6
     exact absurd rfl h5
    cases h4
   exact absurd rfl h3
  exact absurd rfl h2
 exact absurd rfl h1
theorem sclockRuns {gs : List Int} {l : List Dsc} {ad ad2 : Option Addr} {n cap n2 cap2 : Nat} (d : LDf) (w : World) (hT : Tab w) (hn : n = gs.length) (hgs : Sr fI 1 gs (.slice ad n cap) w) (hn2 : n2 = l.length) (hl : Sr fDs 4 l (.slice ad2 n2 cap2) w) (hk : ∀ d ∈ l, 0 ≤ d.k ∧ d.k ≤ 255) : Ret Tryz.prog 4 #[.agg (fLd d).toArray, .slice ad n cap, .slice ad2 n2 cap2] w (fun v w' => v = .bool true ∧ Ext w w') := by
 have hn1 := hT.pos
 refine Ret.enterM Tryz.func4 rfl Tryz.ntmps4 rfl ([]) (no) (Mem.nil w) ?_
 refine wR ?_
 refine LM.box rfl rfl (fun b3 hb3 => ?_)
 refine LM.as rfl <| nA [(1, _), (2, _), (3, _)] <| wpM.seq <| wR ?_
 refine cE Tryz.func6 rfl (fun w hm hc hg => awake20_spec w (hT.ext hc)) ?_
 first | refine LM.val (ov_notD rfl) ?_ | refine LM.val (ov_not rfl) ?_
 refine nA [(1, _), (2, _), (3, _), (25, _)] ?_
 first | refine wpM.condD rfl (fun h1 => ?_) (fun h1 => ?_) | refine wpM.condB rfl (fun h1 => ?_) (fun h1 => ?_)
 ·
  cases h1
 refine wpM.skip <| QM.then <| wpM.seq <| wR <| LM.mv rfl <| LM.val (ov_len Tryz.underlying24 rfl) <| LM.val (ov_gtr rfl rfl) <| LM.mv rfl ?_
 refine LM.splitD (t := 29) rfl (fun h2 => ?_) (fun h2 => ?_)
 ·
  refine LM.dr 29 rfl rfl rfl <| LM.dr 29 rfl rfl rfl <| LM.dr 29 rfl rfl rfl <| LM.val (ov_pickT rfl rfl) <| nA [(1, _), (2, _), (3, _), (33, _)] ?_
  refine wpM.condT rfl ?_
  refine wR <| LM.as rfl <| nA [(6, _)] <| wpM.ret <| QM.then_ret ?_
  refine qL Tryz.results4 rfl fun w' hm' hc' hg' => ?_
  exact ⟨rfl, hc'⟩
 refine LM.sp 29 rfl rfl rfl <| LM.mv rfl <| LM.sp 29 rfl rfl rfl <| LM.val (ov_len Tryz.underlying25 rfl) <| LM.sp 29 rfl rfl rfl <| LM.val (ov_gtr rfl rfl) <| LM.val (ov_pickF rfl rfl) <| nA [(1, _), (2, _), (3, _), (33, _)] ?_
 refine wpM.condD rfl (fun h3 => ?_) (fun h3 => ?_)
 ·
  refine wR <| LM.as rfl <| nA [(6, _)] <| wpM.ret <| QM.then_ret ?_
  refine qL Tryz.results4 rfl fun w' hm' hc' hg' => ?_
  exact ⟨rfl, hc'⟩
 refine wpM.skip <| QM.then <| wpM.seq ?_
 refine wpM.draw [(0, 1), (1, 0), (3, 1), (4, 0), (2, 2), (5, 2), (6, 0), (7, 0)] kr kr ?_
 refine LD.rd rfl rfl (om_ldW Tryz.isAgg23 Tryz.sizeOf23 rfl rfl) ?_
 refine LD.val rfl rfl (ov_move rfl) ?_
 refine LD.rd rfl rfl (om_ldW Tryz.isAgg23 Tryz.sizeOf23 rfl rfl) ?_
 refine LD.val rfl rfl (ov_move rfl) ?_
 refine LD.callT rfl rfl (oc_call (enters_fn Tryz.func7 kr rfl) rfl) LkNew.mono (fun w hm hc hg => lknew_spec d w hn (hgs.ext hc)) ?_
 rintro u36 m36 ⟨bq, rfl, h36⟩ hge36
 refine LD.callT rfl rfl (oc_call (enters_fn Tryz.func10 kr rfl) rfl) RkNew.mono (fun w hm hc hg => rknew_spec d w hn (hgs.ext hc)) ?_
 rintro u39 m39 ⟨bw, rfl, h39⟩ hge39
 refine LD.val rfl rfl (ov_assign rfl) <| LD.val rfl rfl (ov_assign rfl) <| LD.nil ?_
 refine QM.sub (e' := [(2, _), (7, _), (8, _)]) au9 (QM.then ?_)
 refine wpM.seq <| wR <| LM.mv rfl <| LM.val (ov_len Tryz.underlying25 rfl) <| LM.mv rfl <| nA [(7, _), (8, _), (40, _), (41, _), (42, _)] <| wpM.block ?_
 refine wpM.loopK0 (α := Nat × Lkm × Mem0 × Mem0) (fun ⟨i, x, mq, mw⟩ => [(42, .int .i64 (i : Nat))]) [(7, _), (8, _), (40, _), (41, _)] (fun ⟨i, x, mq, mw⟩ => mq ++ (mw ++ [])) (fun ⟨i, x, mq, mw⟩ => i ≤ l.length ∧ LkM w.heap.size i bq x (x.wt.map (·.who)) mq ∧ RkM w.heap.size bw x (x.wt.map whd) mw ∧ LkW x ∧ LkB i x) (fun ⟨i, x, mq, mw⟩ => l.length - i) ((0, lkNew d gs, m36, m39)) ⟨au2, rfl, rfl, rfl, rfl, trivial⟩ au1 ⟨Nat.zero_le _, h36, h39, lkNew_w d gs, lkNew_b d gs⟩ ?_
 rintro ⟨i, x, mq, mw⟩ ⟨hi, hq, hf, hw, hb⟩
 change wpM _ _ _ _ _ _ _ (mq ++ (mw ++ [])) _ _ _
 have hbl := hb.hl; have hbu := hb.tu; have hv := hw.toLkV
 refine wR <| LM.val (ov_lss rfl rfl) <| nA [(7, _), (8, _), (40, _), (41, _), (42, _), (43, _)] <| wpM.seq ?_
 refine wpM.condD rfl (fun h4 => ?_) (fun h4 => ?_)
 ·
  have hkd := hk (l.getD i default) (by rw [List.getD_eq_getElem?_getD, List.getElem?_eq_getElem (by omega : i < l.length)]; exact List.getElem_mem _)
  refine wpM.skip <| QM.then <| wpM.seq <| wpM.block <| wR ?_
  refine LM.val (ov_idxSN au6 Tryz.underlying25 Tryz.sizeOf30 rfl rfl om) ?_
  first | refine LM.rd (om_slA asm ir Tryz.isAgg30 Tryz.sizeOf30 rfl au3) ?_ | refine LM.rdC (om_srEA asm ir Tryz.isAgg30 Tryz.sizeOf30 rfl au3 id) ?_ | refine LM.rd (om_ldW Tryz.isAgg30 Tryz.sizeOf30 rfl rfl) ?_ | refine LM.rd (om_ldA Tryz.isAgg30 Tryz.sizeOf30 rfl (vs := [_, _, _, _]) rfl ⟨rfl, rfl, rfl, rfl, trivial⟩) ?_
  refine LM.alloc Tryz.zeroValue30 rfl (fun b10 hb10 => ?_)
  refine LM.stW Tryz.sizeOf30 rfl rfl rfl rfl au7 au8 ?_
  refine nB [(7, _), (8, _), (10, _), (40, _), (41, _), (42, _)] <| LM.as rfl <| nA [(7, _), (8, _), (10, _), (11, _), (40, _), (41, _), (42, _)] <| wpM.seq <| wR <| LM.val (ovf 5 rfl rfl rfl rfl) ?_
  refine LM.rd (oml rfl rfl rfl) ?_
  first | refine LM.val (ov_remK rfl rfl om om) ?_ | refine LM.val (ov_remJ rfl rfl om om) ?_
  refine nA [(7, _), (8, _), (10, _), (11, _), (40, _), (41, _), (42, _), (48, _)] ?_
  refine wpM.joinK (α := Lkm × Mem0 × Mem0) (fun ⟨y, mq2, mw2⟩ => [(11, .bool true)]) [(7, _), (8, _), (10, _), (40, _), (41, _), (42, _)] (fun ⟨y, mq2, mw2⟩ => (b10, .cells (fDs (l.getD i default)).toArray 30 (0, 0)) :: (mq2 ++ (mw2 ++ []))) (fun ⟨y, mq2, mw2⟩ => LkM w.heap.size (i + 1) bq y (y.wt.map (·.who)) mq2 ∧ RkM w.heap.size bw y (y.wt.map whd) mw2 ∧ LkW y ∧ LkB (i + 1) y) ⟨rfl, rfl, rfl, rfl, rfl, rfl, trivial⟩ ?_ ?_
  ·
   refine wpM.block <| wR <| LM.val (ov_eql rfl rfl) <| LM.as rfl <| nA [(7, _), (8, _), (10, _), (11, _), (40, _), (41, _), (42, _), (48, _), (49, _)] ?_
   refine wpM.condD rfl (fun h5 => ?_) (fun h5 => ?_)
   ·
    refine wpM.keep ((b10, _) :: []) (fun _ => True) (.one 0 0 (.one 1 0 (.one 2 1 (.one 3 0 (.one 4 1 (.one 6 0 (.one 7 0 (.one 8 1 (.one 9 0 (.one 10 1 (.one 5 2 (.one 11 2 (.one 12 0 (.one 13 0 .nil)))))))))))))) kr kr au1 (fun _ _ => trivial) ?_
    refine KD.val rfl rfl (ov_move rfl) <| KD.val rfl rfl (ovf 3 rfl rfl rfl rfl) ?_
    refine KD.rd rfl rfl (oml rfl rfl rfl) ?_
    refine KD.val rfl rfl (ovf 3 rfl rfl rfl rfl) ?_
    refine KD.rd rfl rfl (oml rfl rfl rfl) ?_
    refine KD.val rfl rfl (ov_move rfl) <| KD.val rfl rfl (ovf 3 rfl rfl rfl rfl) ?_
    refine KD.rd rfl rfl (oml rfl rfl rfl) ?_
    refine KD.val rfl rfl (ovf 3 rfl rfl rfl rfl) ?_
    refine KD.rd rfl rfl (oml rfl rfl rfl) ?_
    refine KD.one rfl ?_
    refine cU Tryz.func11 rfl (fun w hm hc hg => lkTake2 (l.getD i default).t (l.getD i default).p w (hT.ext hc) hn1 hq hc.size om (hm.pick mq)) hq.wlk (fun p hp hlt => absurd hlt (Nat.not_lt_of_le (hq.ge p hp))) ?_
    rintro u56 m56 ⟨rfl, h56⟩ -
    refine LM.nil ?_
    refine kq1 ?_
    refine KD.one rfl ?_
    refine cU Tryz.func12 rfl (fun w hm hc hg => rkTake_spec (l.getD i default).t (l.getD i default).p w hv hf hc.size om (hm.pick mw)) hf.wlk (fun p hp hlt => absurd hlt (Nat.not_lt_of_le (hf.ge p hp))) ?_
    rintro u62 m62 ⟨rfl, h62⟩ -
    refine LM.nil ?_
    refine kq1 ?_
    refine KD.val rfl rfl (ov_eql rfl rfl) ?_
    refine KD.val rfl rfl (ov_assign rfl) <| KD.nil ?_
    refine QM.sub (e' := [(7, _), (8, _), (10, _), (11, _), (40, _), (41, _), (42, _)]) au9 ?_
    refine QM.block_normal ?_
    refine QM.meetK (takeX x (l.getD i default).t (l.getD i default).p, m56, m62) ⟨(by first | rfl | exact lk rfl (congrArg Value.bool (decide_eq_true rfl)) | exact lk rfl (congrArg Value.bool (beq_self_eq_true _)) | exact lk rfl (congrArg Value.bool (by simp))), rfl, rfl, rfl, rfl, rfl, rfl, trivial⟩ au1 ?_
    · exact ⟨h56.tmono (Nat.le_succ i), h62, hw.take _ _, hb.take _ _⟩
   refine wR <| LM.val (ov_eql rfl rfl) <| LM.as rfl <| nA [(7, _), (8, _), (10, _), (11, _), (40, _), (41, _), (42, _), (48, _), (64, _)] ?_
   refine wpM.condD rfl (fun h6 => ?_) (fun h6 => ?_)
   ·
    refine wpM.keep ((b10, _) :: []) (fun _ => True) (.one 0 0 (.one 1 0 (.one 2 1 (.one 3 0 (.one 4 1 (.one 6 0 (.one 7 0 (.one 8 1 (.one 9 0 (.one 10 1 (.one 5 2 (.one 11 2 (.one 12 0 (.one 13 0 .nil)))))))))))))) kr kr au1 (fun _ _ => trivial) ?_
    refine KD.val rfl rfl (ov_move rfl) <| KD.val rfl rfl (ovf 3 rfl rfl rfl rfl) ?_
    refine KD.rd rfl rfl (oml rfl rfl rfl) ?_
    refine KD.val rfl rfl (ovf 3 rfl rfl rfl rfl) ?_
    refine KD.rd rfl rfl (oml rfl rfl rfl) ?_
    refine KD.val rfl rfl (ov_move rfl) <| KD.val rfl rfl (ovf 3 rfl rfl rfl rfl) ?_
    refine KD.rd rfl rfl (oml rfl rfl rfl) ?_
    refine KD.val rfl rfl (ovf 3 rfl rfl rfl rfl) ?_
    refine KD.rd rfl rfl (oml rfl rfl rfl) ?_
    refine KD.one rfl ?_
    refine cU Tryz.func13 rfl (fun w hm hc hg => lkWait_spec (l.getD i default).t (l.getD i default).p w (hT.ext hc) hn1 hq hc.size om (hm.pick mq)) hq.wlk (fun p hp hlt => absurd hlt (Nat.not_lt_of_le (hq.ge p hp))) ?_
    rintro u71 m71 ⟨rfl, h71⟩ -
    refine LM.nil ?_
    refine kq1 ?_
    refine KD.one rfl ?_
    refine cU Tryz.func14 rfl (fun w hm hc hg => rkWait_spec (l.getD i default).t (l.getD i default).p w hv hf hc.size (hm.pick mw)) hf.wlk (fun p hp hlt => absurd hlt (Nat.not_lt_of_le (hf.ge p hp))) ?_
    rintro u77 m77 ⟨rfl, h77⟩ -
    refine LM.nil ?_
    refine kq1 ?_
    refine KD.val rfl rfl (ov_eql rfl rfl) ?_
    refine KD.val rfl rfl (ov_assign rfl) <| KD.nil ?_
    refine QM.sub (e' := [(7, _), (8, _), (10, _), (11, _), (40, _), (41, _), (42, _)]) au9 ?_
    refine QM.block_normal ?_
    refine QM.meetK (waitX x (l.getD i default).t (l.getD i default).p, m71, m77) ⟨(by first | rfl | exact lk rfl (congrArg Value.bool (decide_eq_true rfl)) | exact lk rfl (congrArg Value.bool (beq_self_eq_true _)) | exact lk rfl (congrArg Value.bool (by simp))), rfl, rfl, rfl, rfl, rfl, rfl, trivial⟩ au1 ?_
    · exact ⟨h71, h77, hw.wait _ _, hb.wait _ _⟩
   refine wR <| LM.val (ov_eql rfl rfl) <| LM.as rfl <| nA [(7, _), (8, _), (10, _), (11, _), (40, _), (41, _), (42, _), (48, _), (79, _)] ?_
   refine wpM.condD rfl (fun h7 => ?_) (fun h7 => ?_)
   ·
    refine wR <| LM.mv rfl <| LM.val (ovf 3 rfl rfl rfl rfl) ?_
    refine LM.rd (oml rfl rfl rfl) ?_
    refine cU Tryz.func15 rfl (fun w hm hc hg => lkUnl_spec (l.getD i default).t w (hT.ext hc) hn1 hq hv.hws hc.size om hc.size (hm.pick mq)) hq.wlk (fun p hp hlt => absurd hlt (Nat.not_lt_of_le (hq.ge p hp))) ?_
    rintro u85 m85 ⟨v85, mr85, mx85, rfl, hr85, rfl, h85⟩ -; obtain ⟨ad85, cap85, rfl⟩ := hr85.form; refine LM.assoc ?_
    refine LM.mv rfl <| LM.val (ov_extract rfl rfl) <| LM.val (ov_extract rfl rfl) <| LM.as rfl <| LM.as rfl <| nB [(7, _), (8, _), (10, _), (12, _), (13, _), (40, _), (41, _), (42, _)] <| LM.mv rfl <| LM.val (ovf 3 rfl rfl rfl rfl) ?_
    refine LM.rd (oml rfl rfl rfl) ?_
    refine cU Tryz.func16 rfl (fun w hm hc hg => rkUnl_spec (l.getD i default).t w hv hf hc.size om hc.size (hm.pick mw)) hf.wlk (fun p hp hlt => absurd hlt (Nat.not_lt_of_le (hf.ge p hp))) ?_
    rintro u92 m92 ⟨v92, mr92, mx92, rfl, hr92, rfl, h92⟩ -; obtain ⟨ad92, cap92, rfl⟩ := hr92.form; refine LM.assoc ?_
    refine LM.mv rfl <| LM.val (ov_extract rfl rfl) <| LM.val (ov_extract rfl rfl) <| LM.as rfl <| LM.as rfl ?_
    refine LM.nil (QM.sub (e' := [(7, _), (8, _), (10, _), (12, _), (13, _), (14, _), (15, _), (40, _), (41, _), (42, _)]) au9 (QM.then (wpM.region ?_)))
    refine LM.mv rfl <| LM.mv rfl ?_
    refine cE Tryz.func17 rfl (fun w hm hc hg => ints20_spec w rfl (hr85.srM ir hm) rfl (hr92.srM ir hm) (Nat.le_trans (unlL_le _ _) (by decide))) ?_
    refine LM.mv rfl ?_
    first | refine LM.splitD (t := 98) rfl (fun h8 => ?_) (fun h8 => ?_) | refine LM.splitB (t := 98) rfl (fun h8 => ?_) (fun h8 => ?_)
    ·
     refine LM.sp 98 rfl rfl rfl <| LM.mv rfl <| LM.sp 98 rfl rfl rfl <| LM.mv rfl <| LM.sp 98 rfl rfl rfl <| LM.val (ov_eql rfl rfl) <| LM.val (ov_pickT rfl rfl) <| LM.as rfl <| nC [(7, _), (8, _), (10, _), (11, _), (40, _), (41, _), (42, _)] <| QM.block_normal ?_
     refine QM.meetK (unlX x (l.getD i default).t, mx85, mx92) ⟨(by first | rfl | exact lk rfl (congrArg Value.bool (decide_eq_true rfl)) | exact lk rfl (congrArg Value.bool (beq_self_eq_true _)) | exact lk rfl (congrArg Value.bool (by simp))), rfl, rfl, rfl, rfl, rfl, rfl, trivial⟩ au1 ?_
     · exact ⟨h85.tmono (Nat.le_succ i), h92, LkW.unl hv _ hw.em, (hb.unl hv.wd _).mono (Nat.le_succ i)⟩
    cases h8
   refine wR <| LM.val (ov_eql rfl rfl) <| LM.as rfl <| nA [(7, _), (8, _), (10, _), (11, _), (40, _), (41, _), (42, _), (48, _), (103, _)] ?_
   refine wpM.condD rfl (fun h9 => ?_) (fun h9 => ?_)
   ·
    refine wR <| LM.mv rfl <| LM.val (ovf 3 rfl rfl rfl rfl) ?_
    refine LM.rd (oml rfl rfl rfl) ?_
    refine cU Tryz.func18 rfl (fun w hm hc hg => lkLv_spec (l.getD i default).t w (hT.ext hc) hn1 hq hc.size om hc.size (hm.pick mq)) hq.wlk (fun p hp hlt => absurd hlt (Nat.not_lt_of_le (hq.ge p hp))) ?_
    rintro u109 m109 ⟨v109, mr109, mx109, rfl, hr109, rfl, h109⟩ -; obtain ⟨ad109, cap109, rfl⟩ := hr109.form; refine LM.assoc ?_
    refine LM.mv rfl <| LM.val (ov_extract rfl rfl) <| LM.val (ov_extract rfl rfl) <| LM.as rfl <| LM.as rfl <| nB [(7, _), (8, _), (10, _), (16, _), (17, _), (40, _), (41, _), (42, _)] <| LM.mv rfl <| LM.val (ovf 3 rfl rfl rfl rfl) ?_
    refine LM.rd (oml rfl rfl rfl) ?_
    refine cU Tryz.func19 rfl (fun w hm hc hg => rkLv_spec (l.getD i default).t w hw hf hc.size om hc.size (hm.pick mw)) hf.wlk (fun p hp hlt => absurd hlt (Nat.not_lt_of_le (hf.ge p hp))) ?_
    rintro u116 m116 ⟨v116, mr116, mx116, rfl, hr116, rfl, h116⟩ -; obtain ⟨ad116, cap116, rfl⟩ := hr116.form; refine LM.assoc ?_
    refine LM.mv rfl <| LM.val (ov_extract rfl rfl) <| LM.val (ov_extract rfl rfl) <| LM.as rfl <| LM.as rfl ?_
    refine LM.nil (QM.sub (e' := [(7, _), (8, _), (10, _), (16, _), (17, _), (18, _), (19, _), (40, _), (41, _), (42, _)]) au9 (QM.then (wpM.region ?_)))
    refine LM.mv rfl <| LM.mv rfl ?_
    refine cE Tryz.func17 rfl (fun w hm hc hg => ints20_spec w rfl (hr109.srM ir hm) rfl (hr116.srM ir hm) (Nat.le_trans (lvL_le _ _) (by decide))) ?_
    refine LM.mv rfl ?_
    first | refine LM.splitD (t := 122) rfl (fun h10 => ?_) (fun h10 => ?_) | refine LM.splitB (t := 122) rfl (fun h10 => ?_) (fun h10 => ?_)
    ·
     refine LM.sp 122 rfl rfl rfl <| LM.mv rfl <| LM.sp 122 rfl rfl rfl <| LM.mv rfl <| LM.sp 122 rfl rfl rfl ?_
     refine LM.val (ov_beql Tryz.underlying4 rfl rfl) ?_
     refine LM.val (ov_pickT rfl rfl) <| LM.as rfl <| nC [(7, _), (8, _), (10, _), (11, _), (40, _), (41, _), (42, _)] <| QM.block_normal ?_
     refine QM.meetK (lvX x (l.getD i default).t, mx109, mx116) ⟨(by first | rfl | exact lk rfl (congrArg Value.bool (decide_eq_true rfl)) | exact lk rfl (congrArg Value.bool (beq_self_eq_true _)) | exact lk rfl (congrArg Value.bool (by simp))), rfl, rfl, rfl, rfl, rfl, rfl, trivial⟩ au1 ?_
     · exact ⟨h109.tmono (Nat.le_succ i), h116, hw.lv _, (hb.lv hv.wd _).mono (Nat.le_succ i)⟩
    cases h10
   refine wR <| LM.val (ov_eql rfl rfl) <| LM.as rfl <| nA [(7, _), (8, _), (10, _), (11, _), (40, _), (41, _), (42, _), (48, _), (127, _)] ?_
   refine wpM.condD rfl (fun h11 => ?_) (fun h11 => ?_)
   ·
    refine wR <| LM.mv rfl <| LM.val (ovf 3 rfl rfl rfl rfl) ?_
    refine LM.rd (oml rfl rfl rfl) ?_
    refine cU Tryz.func20 rfl (fun w hm hc hg => lkDie_spec (l.getD i default).t w (hT.ext hc) hn1 hq hv.hws hc.size om hc.size (hm.pick mq)) hq.wlk (fun p hp hlt => absurd hlt (Nat.not_lt_of_le (hq.ge p hp))) ?_
    rintro u133 m133 ⟨v133, mr133, mx133, rfl, hr133, rfl, h133⟩ -; obtain ⟨ad133, cap133, rfl⟩ := hr133.form; refine LM.assoc ?_
    refine LM.mv rfl <| LM.val (ov_extract rfl rfl) <| LM.val (ov_extract rfl rfl) <| LM.as rfl <| LM.as rfl <| nB [(7, _), (8, _), (10, _), (20, _), (21, _), (40, _), (41, _), (42, _)] <| LM.mv rfl <| LM.val (ovf 3 rfl rfl rfl rfl) ?_
    refine LM.rd (oml rfl rfl rfl) ?_
    refine cU Tryz.func21 rfl (fun w hm hc hg => rkDie_spec (l.getD i default).t w hw hf hc.size om hc.size (hm.pick mw)) hf.wlk (fun p hp hlt => absurd hlt (Nat.not_lt_of_le (hf.ge p hp))) ?_
    rintro u140 m140 ⟨v140, mr140, mx140, rfl, hr140, rfl, h140⟩ -; obtain ⟨ad140, cap140, rfl⟩ := hr140.form; refine LM.assoc ?_
    refine LM.mv rfl <| LM.val (ov_extract rfl rfl) <| LM.val (ov_extract rfl rfl) <| LM.as rfl <| LM.as rfl ?_
    refine LM.nil (QM.sub (e' := [(7, _), (8, _), (10, _), (20, _), (21, _), (22, _), (23, _), (40, _), (41, _), (42, _)]) au9 (QM.then (wpM.region ?_)))
    refine LM.mv rfl <| LM.mv rfl ?_
    refine cE Tryz.func17 rfl (fun w hm hc hg => ints20_spec w rfl (hr133.srM ir hm) rfl (hr140.srM ir hm) (Nat.le_trans (diL_le _ _) (by decide))) ?_
    refine LM.mv rfl ?_
    first | refine LM.splitD (t := 146) rfl (fun h12 => ?_) (fun h12 => ?_) | refine LM.splitB (t := 146) rfl (fun h12 => ?_) (fun h12 => ?_)
    ·
     refine LM.sp 146 rfl rfl rfl <| LM.mv rfl <| LM.sp 146 rfl rfl rfl <| LM.mv rfl <| LM.sp 146 rfl rfl rfl ?_
     refine LM.val (ov_beql Tryz.underlying4 rfl rfl) ?_
     refine LM.val (ov_pickT rfl rfl) <| LM.as rfl <| nC [(7, _), (8, _), (10, _), (11, _), (40, _), (41, _), (42, _)] <| QM.block_normal ?_
     refine QM.meetK (diX x (l.getD i default).t, mx133, mx140) ⟨(by first | rfl | exact lk rfl (congrArg Value.bool (decide_eq_true rfl)) | exact lk rfl (congrArg Value.bool (beq_self_eq_true _)) | exact lk rfl (congrArg Value.bool (by simp))), rfl, rfl, rfl, rfl, rfl, rfl, trivial⟩ au1 ?_
     · exact ⟨h133.tmono (Nat.le_succ i), h140, hw.die _, (hb.die hv.wd _).mono (Nat.le_succ i)⟩
    cases h12
   refine wpM.seq <| wR <| LM.val (ov_eql rfl rfl) <| LM.as rfl <| nA [(7, _), (8, _), (10, _), (11, _), (40, _), (41, _), (42, _), (48, _), (151, _)] ?_
   refine wpM.condD rfl (fun h13 => ?_) (fun h13 => ?_)
   ·
    refine wpM.skip <| QM.then ?_
    refine wpM.condD rfl (fun h14 => ?_) (fun h14 => ?_)
    ·
     refine wpM.keep ((b10, _) :: []) (fun _ => True) (.one 0 0 (.one 1 0 (.one 2 1 (.one 4 0 (.one 5 0 (.one 6 1 (.one 3 2 (.one 7 2 (.one 8 0 (.one 9 0 .nil)))))))))) kr kr au1 (fun _ _ => trivial) ?_
     refine KD.val rfl rfl (ov_move rfl) <| KD.val rfl rfl (ovf 3 rfl rfl rfl rfl) ?_
     refine KD.rd rfl rfl (oml rfl rfl rfl) ?_
     refine KD.val rfl rfl (ov_move rfl) <| KD.val rfl rfl (ovf 3 rfl rfl rfl rfl) ?_
     refine KD.rd rfl rfl (oml rfl rfl rfl) ?_
     refine KD.one rfl ?_
     refine cU Tryz.func22 rfl (fun w hm hc hg => lkChg_spec (l.getD i default).t w (hT.ext hc) hn1 hq hc.size hv.hk (fun p hp => by have := hb.hh p hp; omega) om (hm.pick mq)) hq.wlk (fun p hp hlt => absurd hlt (Nat.not_lt_of_le (hq.ge p hp))) ?_
     rintro u157 m157 ⟨rfl, h157⟩ -
     refine LM.nil ?_
     refine kq1 ?_
     refine KD.one rfl ?_
     refine cU Tryz.func23 rfl (fun w hm hc hg => rkChg_spec (l.getD i default).t w hf hv.hk (fun p hp => by have := hb.hh p hp; omega) om (hm.pick mw)) hf.wlk (fun p hp hlt => absurd hlt (Nat.not_lt_of_le (hf.ge p hp))) ?_
     rintro u161 m161 ⟨rfl, h161⟩ -
     refine LM.nil ?_
     refine kq1 ?_
     refine KD.val rfl rfl (ov_beql Tryz.underlying4 rfl rfl) ?_
     refine KD.val rfl rfl (ov_assign rfl) <| KD.nil ?_
     refine QM.sub (e' := [(7, _), (8, _), (10, _), (11, _), (40, _), (41, _), (42, _)]) au9 ?_
     refine QM.block_normal ?_
     refine QM.meetK (chgX x (l.getD i default).t, m157, m161) ⟨(by first | rfl | exact lk rfl (congrArg Value.bool (decide_eq_true rfl)) | exact lk rfl (congrArg Value.bool (beq_self_eq_true _)) | exact lk rfl (congrArg Value.bool (by simp))), rfl, rfl, rfl, rfl, rfl, rfl, trivial⟩ au1 ?_
     · exact ⟨h157.tmono (Nat.le_succ i), h161, hw.chg _, hb.chg _⟩
    exact absurd h13 h14
   refine wpM.region ?_
   refine LM.val (ov_eql rfl rfl) <| LM.as rfl <| nA [(7, _), (8, _), (10, _), (11, _), (40, _), (41, _), (42, _), (48, _), (151, _)] ?_
   refine wpM.condD rfl (fun h15 => ?_) (fun h15 => ?_)
   ·
    refine wpM.keep ((b10, _) :: []) (fun _ => True) (.one 0 0 (.one 1 0 (.one 2 1 (.one 4 0 (.one 5 0 (.one 6 1 (.one 3 2 (.one 7 2 (.one 8 0 (.one 9 0 .nil)))))))))) kr kr au1 (fun _ _ => trivial) ?_
    refine KD.val rfl rfl (ov_move rfl) <| KD.val rfl rfl (ovf 3 rfl rfl rfl rfl) ?_
    refine KD.rd rfl rfl (oml rfl rfl rfl) ?_
    refine KD.val rfl rfl (ov_move rfl) <| KD.val rfl rfl (ovf 3 rfl rfl rfl rfl) ?_
    refine KD.rd rfl rfl (oml rfl rfl rfl) ?_
    refine KD.one rfl ?_
    refine cU Tryz.func22 rfl (fun w hm hc hg => lkChg_spec (l.getD i default).t w (hT.ext hc) hn1 hq hc.size hv.hk (fun p hp => by have := hb.hh p hp; omega) om (hm.pick mq)) hq.wlk (fun p hp hlt => absurd hlt (Nat.not_lt_of_le (hq.ge p hp))) ?_
    rintro u157 m157 ⟨rfl, h157⟩ -
    refine LM.nil ?_
    refine kq1 ?_
    refine KD.one rfl ?_
    refine cU Tryz.func23 rfl (fun w hm hc hg => rkChg_spec (l.getD i default).t w hf hv.hk (fun p hp => by have := hb.hh p hp; omega) om (hm.pick mw)) hf.wlk (fun p hp hlt => absurd hlt (Nat.not_lt_of_le (hf.ge p hp))) ?_
    rintro u161 m161 ⟨rfl, h161⟩ -
    refine LM.nil ?_
    refine kq1 ?_
    refine KD.val rfl rfl (ov_beql Tryz.underlying4 rfl rfl) ?_
    refine KD.val rfl rfl (ov_assign rfl) <| KD.nil ?_
    refine QM.sub (e' := [(7, _), (8, _), (10, _), (11, _), (40, _), (41, _), (42, _)]) au9 ?_
    refine QM.block_normal ?_
    refine QM.meetK (chgX x (l.getD i default).t, m157, m161) ⟨(by first | rfl | exact lk rfl (congrArg Value.bool (decide_eq_true rfl)) | exact lk rfl (congrArg Value.bool (beq_self_eq_true _)) | exact lk rfl (congrArg Value.bool (by simp))), rfl, rfl, rfl, rfl, rfl, rfl, trivial⟩ au1 ?_
    · exact ⟨h157.tmono (Nat.le_succ i), h161, hw.chg _, hb.chg _⟩
   refine wR <| LM.val (ov_eql rfl rfl) <| LM.as rfl <| nA [(7, _), (8, _), (10, _), (11, _), (40, _), (41, _), (42, _), (48, _), (163, _)] ?_
   refine wpM.condD rfl (fun h16 => ?_) (fun h16 => ?_)
   ·
    refine wpM.keep ((b10, _) :: []) (fun _ => True) (.one 0 0 (.one 1 0 (.one 2 1 (.one 3 0 (.one 4 1 (.one 6 0 (.one 7 0 (.one 8 1 (.one 9 0 (.one 10 1 (.one 5 2 (.one 11 2 (.one 12 0 (.one 13 0 .nil)))))))))))))) kr kr au1 (fun _ _ => trivial) ?_
    refine KD.val rfl rfl (ov_move rfl) <| KD.val rfl rfl (ovf 3 rfl rfl rfl rfl) ?_
    refine KD.rd rfl rfl (oml rfl rfl rfl) ?_
    refine KD.val rfl rfl (ovf 3 rfl rfl rfl rfl) ?_
    refine KD.rd rfl rfl (oml rfl rfl rfl) ?_
    refine KD.val rfl rfl (ov_move rfl) <| KD.val rfl rfl (ovf 3 rfl rfl rfl rfl) ?_
    refine KD.rd rfl rfl (oml rfl rfl rfl) ?_
    refine KD.val rfl rfl (ovf 3 rfl rfl rfl rfl) ?_
    refine KD.rd rfl rfl (oml rfl rfl rfl) ?_
    refine KD.one rfl ?_
    refine cU Tryz.func24 rfl (fun w hm hc hg => lkWei_spec (l.getD i default).p (l.getD i default).w w (hT.ext hc) hn1 hq hc.size (hm.pick mq)) hq.wlk (fun p hp hlt => absurd hlt (Nat.not_lt_of_le (hq.ge p hp))) ?_
    rintro u170 m170 ⟨rfl, h170⟩ -
    refine LM.nil ?_
    refine kq1 ?_
    refine KD.one rfl ?_
    refine cU Tryz.func25 rfl (fun w hm hc hg => rkWei_spec (l.getD i default).p (l.getD i default).w w hf (hm.pick mw)) hf.wlk (fun p hp hlt => absurd hlt (Nat.not_lt_of_le (hf.ge p hp))) ?_
    rintro u176 m176 ⟨rfl, h176⟩ -
    refine LM.nil ?_
    refine kq1 ?_
    refine KD.val rfl rfl (ov_beql Tryz.underlying4 rfl rfl) ?_
    refine KD.val rfl rfl (ov_assign rfl) <| KD.nil ?_
    refine QM.sub (e' := [(7, _), (8, _), (10, _), (11, _), (40, _), (41, _), (42, _)]) au9 ?_
    refine QM.block_normal ?_
    refine QM.meetK (weiX x (l.getD i default).p (l.getD i default).w, m170, m176) ⟨(by first | rfl | exact lk rfl (congrArg Value.bool (decide_eq_true rfl)) | exact lk rfl (congrArg Value.bool (beq_self_eq_true _)) | exact lk rfl (congrArg Value.bool (by simp))), rfl, rfl, rfl, rfl, rfl, rfl, trivial⟩ au1 ?_
    · exact ⟨h170.tmono (Nat.le_succ i), h176, hw.wei _ _, (hb.wei _ _).mono (Nat.le_succ i)⟩
   refine wR <| LM.val (ov_eql rfl rfl) <| LM.as rfl <| nA [(7, _), (8, _), (10, _), (11, _), (40, _), (41, _), (42, _), (178, _)] ?_
   refine wpM.condD rfl (fun h17 => ?_) (fun h17 => ?_)
   ·
    refine wR <| LM.mv rfl <| LM.val (ovf 3 rfl rfl rfl rfl) ?_
    refine LM.rd (oml rfl rfl rfl) ?_
    refine cE Tryz.func26 rfl (fun w hm hc hg => rkFree_spec _ w hv hf (hm.pick mw)) ?_
    refine nA [(7, _), (8, _), (10, _), (40, _), (41, _), (42, _), (183, _)] ?_
    first | refine wpM.condD rfl (fun h18 => ?_) (fun h18 => ?_) | refine wpM.condB rfl (fun h18 => ?_) (fun h18 => ?_)
    ·
     refine wpM.keep ((b10, _) :: []) (fun _ => True) (.one 0 0 (.one 1 0 (.one 2 1 (.one 3 0 (.one 4 1 (.one 6 0 (.one 7 0 (.one 8 1 (.one 9 0 (.one 10 1 (.one 5 2 (.one 11 2 (.one 12 0 (.one 13 0 .nil)))))))))))))) kr kr au1 (fun _ _ => trivial) ?_
     refine KD.val rfl rfl (ov_move rfl) <| KD.val rfl rfl (ovf 3 rfl rfl rfl rfl) ?_
     refine KD.rd rfl rfl (oml rfl rfl rfl) ?_
     refine KD.val rfl rfl (ovf 3 rfl rfl rfl rfl) ?_
     refine KD.rd rfl rfl (oml rfl rfl rfl) ?_
     refine KD.val rfl rfl (ov_move rfl) <| KD.val rfl rfl (ovf 3 rfl rfl rfl rfl) ?_
     refine KD.rd rfl rfl (oml rfl rfl rfl) ?_
     refine KD.val rfl rfl (ovf 3 rfl rfl rfl rfl) ?_
     refine KD.rd rfl rfl (oml rfl rfl rfl) ?_
     refine KD.one rfl ?_
     refine cU Tryz.func11 rfl (fun w hm hc hg => lkTake2 (l.getD i default).t (l.getD i default).p w (hT.ext hc) hn1 hq hc.size om (hm.pick mq)) hq.wlk (fun p hp hlt => absurd hlt (Nat.not_lt_of_le (hq.ge p hp))) ?_
     rintro u189 m189 ⟨rfl, h189⟩ -
     refine LM.nil ?_
     refine kq1 ?_
     refine KD.one rfl ?_
     refine cU Tryz.func12 rfl (fun w hm hc hg => rkTake_spec (l.getD i default).t (l.getD i default).p w hv hf hc.size om (hm.pick mw)) hf.wlk (fun p hp hlt => absurd hlt (Nat.not_lt_of_le (hf.ge p hp))) ?_
     rintro u195 m195 ⟨rfl, h195⟩ -
     refine LM.nil ?_
     refine kq1 ?_
     refine KD.val rfl rfl (ov_eql rfl rfl) ?_
     refine KD.val rfl rfl (ov_assign rfl) <| KD.nil ?_
     refine QM.sub (e' := [(7, _), (8, _), (10, _), (11, _), (40, _), (41, _), (42, _)]) au9 ?_
     refine QM.block_normal ?_
     refine QM.meetK (takeX x (l.getD i default).t (l.getD i default).p, m189, m195) ⟨(by first | rfl | exact lk rfl (congrArg Value.bool (decide_eq_true rfl)) | exact lk rfl (congrArg Value.bool (beq_self_eq_true _)) | exact lk rfl (congrArg Value.bool (by simp))), rfl, rfl, rfl, rfl, rfl, rfl, trivial⟩ au1 ?_
     · exact ⟨h189.tmono (Nat.le_succ i), h195, hw.take _ _, hb.take _ _⟩
    refine wpM.keep ((b10, _) :: []) (fun _ => True) (.one 0 0 (.one 1 0 (.one 2 1 (.one 3 0 (.one 4 1 (.one 6 0 (.one 7 0 (.one 8 1 (.one 9 0 (.one 10 1 (.one 5 2 (.one 11 2 (.one 12 0 (.one 13 0 .nil)))))))))))))) kr kr au1 (fun _ _ => trivial) ?_
    refine KD.val rfl rfl (ov_move rfl) <| KD.val rfl rfl (ovf 3 rfl rfl rfl rfl) ?_
    refine KD.rd rfl rfl (oml rfl rfl rfl) ?_
    refine KD.val rfl rfl (ovf 3 rfl rfl rfl rfl) ?_
    refine KD.rd rfl rfl (oml rfl rfl rfl) ?_
    refine KD.val rfl rfl (ov_move rfl) <| KD.val rfl rfl (ovf 3 rfl rfl rfl rfl) ?_
    refine KD.rd rfl rfl (oml rfl rfl rfl) ?_
    refine KD.val rfl rfl (ovf 3 rfl rfl rfl rfl) ?_
    refine KD.rd rfl rfl (oml rfl rfl rfl) ?_
    refine KD.one rfl ?_
    refine cU Tryz.func13 rfl (fun w hm hc hg => lkWait_spec (l.getD i default).t (l.getD i default).p w (hT.ext hc) hn1 hq hc.size om (hm.pick mq)) hq.wlk (fun p hp hlt => absurd hlt (Nat.not_lt_of_le (hq.ge p hp))) ?_
    rintro u202 m202 ⟨rfl, h202⟩ -
    refine LM.nil ?_
    refine kq1 ?_
    refine KD.one rfl ?_
    refine cU Tryz.func14 rfl (fun w hm hc hg => rkWait_spec (l.getD i default).t (l.getD i default).p w hv hf hc.size (hm.pick mw)) hf.wlk (fun p hp hlt => absurd hlt (Nat.not_lt_of_le (hf.ge p hp))) ?_
    rintro u208 m208 ⟨rfl, h208⟩ -
    refine LM.nil ?_
    refine kq1 ?_
    refine KD.val rfl rfl (ov_eql rfl rfl) ?_
    refine KD.val rfl rfl (ov_assign rfl) <| KD.nil ?_
    refine QM.sub (e' := [(7, _), (8, _), (10, _), (11, _), (40, _), (41, _), (42, _)]) au9 ?_
    refine QM.block_normal ?_
    refine QM.meetK (waitX x (l.getD i default).t (l.getD i default).p, m202, m208) ⟨(by first | rfl | exact lk rfl (congrArg Value.bool (decide_eq_true rfl)) | exact lk rfl (congrArg Value.bool (beq_self_eq_true _)) | exact lk rfl (congrArg Value.bool (by simp))), rfl, rfl, rfl, rfl, rfl, rfl, trivial⟩ au1 ?_
    · exact ⟨h202, h208, hw.wait _ _, hb.wait _ _⟩
   refine wpM.skip <| QM.block_normal ?_
   refine QM.meetK (x, mq, mw) ⟨(by first | rfl | exact lk rfl (congrArg Value.bool (decide_eq_true rfl)) | exact lk rfl (congrArg Value.bool (beq_self_eq_true _)) | exact lk rfl (congrArg Value.bool (by simp))), rfl, rfl, rfl, rfl, rfl, rfl, trivial⟩ au1 ?_
   · exact ⟨hq.tmono (Nat.le_succ i), hf, hw, hb.mono (Nat.le_succ i)⟩
  rintro ⟨y, mq2, mw2⟩ ⟨hq2, hf2, hw2, hb2⟩
  change QM _ _ _ _ _ ((b10, .cells (fDs (l.getD i default)).toArray 30 (0, 0)) :: (mq2 ++ (mw2 ++ []))) _ _ _
  refine tR <| LM.mv rfl ?_
  first | refine LM.val (ov_notD rfl) ?_ | refine LM.val (ov_not rfl) ?_
  refine LM.mv rfl ?_
  first | refine LM.splitD (t := 212) rfl (fun h19 => ?_) (fun h19 => ?_) | refine LM.splitB (t := 212) rfl (fun h19 => ?_) (fun h19 => ?_)
  ·
   cases h19
  refine LM.sp 212 rfl rfl rfl <| LM.mv rfl <| LM.sp 212 rfl rfl rfl <| LM.mv rfl <| LM.sp 212 rfl rfl rfl ?_
  refine LM.rd (om_ldW Tryz.isAgg30 Tryz.sizeOf30 rfl rfl) ?_
  refine LM.sp 212 rfl rfl rfl ?_
  refine cE Tryz.func27 rfl (fun w hm hc hg => lwSame_spec (l.getD i default) w hw2.toLkV hq2 hf2 (by have := hb2.hl; omega) (by have h9 := SubM.mem (M' := mq2 ++ (mw2 ++ [])) au1 w hm; rw [List.append_nil] at h9; exact h9)) ?_
  refine LM.sp 212 rfl rfl rfl ?_
  first | refine LM.val (ov_notD rfl) ?_ | refine LM.val (ov_not rfl) ?_
  refine LM.val (ov_pickF rfl rfl) <| nA [(7, _), (8, _), (40, _), (41, _), (42, _), (218, _)] ?_
  first | refine wpM.condD rfl (fun h20 => ?_) (fun h20 => ?_) | refine wpM.condB rfl (fun h20 => ?_) (fun h20 => ?_)
  ·
   cases h20
  refine wpM.skip <| QM.block_normal ?_
  refine QM.then (wpM.region ?_)
  refine LM.val (ov_add64 rfl rfl om) ?_
  refine LM.mv rfl <| nC [(7, _), (8, _), (40, _), (41, _), (42, _)] ?_
  refine QM.againK (i + 1, y, mq2, mw2) ⟨au2, rfl, rfl, rfl, rfl, trivial⟩ au1 (fun _ h => h) ?_ ?_
  · exact ⟨by omega, hq2, hf2, hw2, hb2⟩
  · first | omega | (dsimp only; omega)
 refine wpM.exit <| QM.then_exit <| QM.then_exit <| QM.block_hit <| tR <| LM.as rfl <| nA [(6, _)] <| wpM.ret ?_
 refine qL Tryz.results4 rfl fun w' hm' hc' hg' => ?_
 exact ⟨rfl, hc'⟩
end Go.Eng
