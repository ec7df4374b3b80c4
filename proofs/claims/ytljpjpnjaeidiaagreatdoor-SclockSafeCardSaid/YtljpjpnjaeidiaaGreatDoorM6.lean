/- The walks of a lock: who waits. No condition. -/
import Derived.Test.YtljpjpnjaeidiaaGreatDoorM2
import Derived.Test.YtljpjpnjaeidiaaGreatDoorM5
set_option linter.unusedVariables false
set_option linter.unusedSimpArgs false
set_option maxRecDepth 100000
namespace Go.Eng
open Go Go.Proofs Go.RowKit
abbrev lF (c : Nat) (g : Option Addr) : Nat × Obj := (c, .cells #[.pointer g] 27 (0, 0))
def WtrT (g : Option Addr) (n0 : Nat) (v : Value) (m : Mem0) : Prop := ∃ c1, v = .func (.func 84) #[] #[.pointer (some ⟨c1, 0, none⟩)] ∧ m = [lF c1 g] ∧ n0 ≤ c1
theorem WtrT.mono {g : Option Addr} : ∀ (k k' : Nat) u m, k' ≤ k → WtrT g k u m → WtrT g k' u m := fun k k' u m h ⟨b1, h1, h2, h3⟩ => ⟨b1, h1, h2, by omega⟩
def wtA (L : List Wt) : List (Array Value) := L.map (fun w => #[.int .i64 w.who, .int .i64 w.key])
theorem wtA_len (L : List Wt) : (wtA L).length = L.length := by simp [wtA]
theorem who_getD {L : List Wt} {i : Nat} (hi : i < L.length) : (L.map (·.who)).getD i 0 = (L.getD i default).who := by
  rw [List.getD_eq_getElem?_getD, List.getD_eq_getElem?_getD, List.getElem?_map, List.getElem?_eq_getElem hi]; rfl
theorem wtA_get {L : List Wt} {i : Nat} (hi : i < L.length) : (wtA L)[i]? = some #[.int .i64 ((L.map (·.who)).getD i 0), .int .i64 (L.getD i default).key] := by
  rw [who_getD hi]
  unfold wtA
  rw [List.getElem?_map, List.getElem?_eq_getElem hi, List.getD_eq_getElem?_getD, List.getElem?_eq_getElem hi]; rfl
theorem wtA_inv {L : List Wt} {k : Nat} {av : Array Value} (h : (wtA L)[k]? = some av) : k < L.length ∧ av = #[.int .i64 (L.getD k default).who, .int .i64 (L.getD k default).key] := by
  have hk : k < L.length := by have := (List.getElem?_eq_some_iff.1 h).1; rwa [wtA_len] at this
  rw [wtA_get hk, who_getD hk] at h
  exact ⟨hk, (Option.some.inj h).symm⟩
theorem twho_at {most each : Int} {n0 T b i : Nat} {L : List Wt} {m : Mem0} (w : World) (h : TbM most each n0 T L b m) (hi : i < L.length) (hM : Mem w m) :
    Ret Tryz.prog 86 #[.pointer (some ⟨b, 0, none⟩), .int .i64 ((L.map (·.who)).getD i 0)] w (fun u w' => u = .tuple #[.agg (fWt (L.getD i default)).toArray, .bool true] ∧ Ext w w') := by
  have h1 := twho_any ((L.map (·.who)).getD i 0) w h hM
  rw [fW_at h.lim.2.2.2 hi] at h1
  have h2 : hasW L ((L.map (·.who)).getD i 0) = true := by
    unfold hasW; rw [List.any_eq_true, who_getD hi]
    refine ⟨L.getD i default, ?_, by simp⟩
    rw [List.getD_eq_getElem?_getD, List.getElem?_eq_getElem hi]; exact List.getElem_mem hi
  rw [h2] at h1
  exact h1
theorem lkWtr_spec (g : Option Addr) (w : World) : Ret Tryz.prog 36 #[.pointer g] w (fun v w' => Ext w w' ∧ ∃ m, WtrT g w.heap.size v m ∧ Mem w' m ∧ ∀ p ∈ m, w.heap.size ≤ p.1) := by
 refine Ret.enterM Tryz.func36 rfl Tryz.ntmps36 rfl ([]) (no) (Mem.nil w) ?_
 refine wR ?_
 refine LM.box rfl rfl (fun b1 hb1 => ?_)
 refine LM.as rfl <| nB [(1, _)] ?_
 refine LM.val (ov_makeFunc rfl) ?_
 refine LM.as rfl <| nA [(2, _)] <| wpM.ret ?_
 refine qL Tryz.results36 rfl fun w' hm' hc' hg' => ?_
 exact ⟨hc', _, ⟨b1, rfl, rfl, hb1⟩, SubM.mem au1 _ hm', fun p hp => by simp only [List.mem_cons, List.not_mem_nil, or_false] at hp; subst hp; assumption⟩
theorem lkWtr_seq {n0' T b c1 : Nat} {x : Lkm} {m : Mem0} (h : LkM n0' T b x (x.wt.map (·.who)) m) : SeqCP Tryz.prog 84 #[.pointer (some ⟨c1, 0, none⟩)] (wtA x.wt) (fun w => Mem w (lF c1 (some ⟨b, 0, none⟩) :: m)) (True) := by
 obtain ⟨adh, nh, caph, ado, nd, capo, bq, bl, mh, mo, mq, ml, rfl, hnh, hnd, hsh, hso, hTb, hLe, hb⟩ := h; have hxl := hTb.lim.2.2.1; have hol : (x.wt.map (·.who)).length = x.wt.length := List.length_map ..
 refine SeqCP.enter (lb := [.pointer (some ⟨c1, 0, none⟩)]) Tryz.func84 rfl Tryz.ntmps84 rfl ?_
 intro l0 n0 J Jx w0 hn0 hfin hJr hL hy
 refine wpM.openJ (n := n0) (fun wj1 hmj1 hCj1 hjj1 hkj1 => ?_)
 refine wpM.seq <| wR ?_
 refine LM.rdC (fun w hm hc hg => om_ld (M := lF c1 (some ⟨b, 0, none⟩) :: lkM0 b x adh nh caph bq ado nd capo bl mh mo mq ml) Tryz.isAgg27 rfl rfl w ((hL.rd hJr hjj1 hc))) ?_
 refine LM.val (ov_peql kr rfl rfl) ?_
 refine nA [(0, _), (1, _), (8, _)] ?_
 refine wpM.condF rfl ?_
 refine wpM.skip <| tR ?_
 refine LM.rdC (fun w hm hc hg => om_ld (M := lF c1 (some ⟨b, 0, none⟩) :: lkM0 b x adh nh caph bq ado nd capo bl mh mo mq ml) Tryz.isAgg27 rfl rfl w ((hL.rd hJr hjj1 hc))) ?_
 refine LM.nc rfl <| LM.val (ovf 24 rfl rfl rfl rfl) ?_
 refine LM.rdC (fun w hm hc hg => om_ld (M := lF c1 (some ⟨b, 0, none⟩) :: lkM0 b x adh nh caph bq ado nd capo bl mh mo mq ml) Tryz.isAgg24 rfl rfl w ((hL.rd hJr hjj1 hc))) ?_
 refine LM.cS (oc_call (enters_fn Tryz.func85 kr rfl) rfl) (fun w hm hc hg => cloneI_spec w hnd (hso.srM ir (M := lF c1 (some ⟨b, 0, none⟩) :: lkM0 b x adh nh caph bq ado nd capo bl mh mo mq ml) ((hL.rd hJr hjj1 hc))) om) (fun ad13 n13 cap13 m13 hn13 hs13 => ?_)
 refine LM.val (ov_len Tryz.underlying24 rfl) <| LM.mv rfl <| nA [(0, _), (1, _), (13, _), (14, _), (15, _)] <| wpM.block ?_
 refine wpM.closeJ hL hCj1 hjj1 hkj1 (kk_top _) (((fun i => m13 ++ []) : Nat → Mem0) (0)) (SubM.mem (by (try dsimp only); (repeat' (first | exact SubM.nil _ | refine SubM.cons rfl ?_ | refine SubM.app ?_)))) (by (try dsimp only); (repeat' (first | exact pn_nil | exact (fun p hp => ⟨.inl (hs13.ge p hp), hs13.wlk p hp⟩) | exact (fun p hp => ⟨.inr ⟨p, by simp [hp], rfl⟩, hs13.wlk p hp⟩) | refine pn_cons (by first | (left; omega) | (right; simp; done)) rfl ?_ | refine pn_app ?_ ?_))) ?_
 refine wpM.loopK (α := Nat) (fun i => [(15, .int .i64 (i : Nat))]) [(0, _), (1, _), (13, _), (14, _)] (fun i => m13 ++ []) (fun i => (fun w => J (i) (m13 ++ []) w ∧ top w)) (fun i => i ≤ n13) (fun i => n13 - i) (0) ⟨au2, rfl, rfl, rfl, rfl, trivial⟩ au1 (fun _ h => h) (Nat.zero_le _) ?_
 rintro i hi
 change wpM _ _ _ _ _ _ _ (m13 ++ []) _ _ _
 refine wpM.openJ (n := n0) (fun wj2 hmj2 hCj2 hjj2 hkj2 => ?_)
 refine wR <| LM.val (ov_lss rfl rfl) <| nA [(0, _), (1, _), (13, _), (14, _), (15, _), (16, _)] <| wpM.seq ?_
 refine wpM.condD rfl (fun h1 => ?_) (fun h1 => ?_)
 ·
  refine wpM.skip <| QM.then <| wpM.seq <| wpM.block <| wR ?_
  refine LM.val (ov_idxSN au6 Tryz.underlying24 Tryz.sizeOf3 rfl rfl om) ?_
  refine LM.rd (om_sl1 asm ir Tryz.isAgg3 rfl rfl (by exact getq 0 au4) (by rfl)) ?_
  refine LM.as rfl <| nB [(0, _), (1, _), (4, _), (13, _), (14, _), (15, _)] ?_
  refine LM.rdC (fun w hm hc hg => om_ld (M := lF c1 (some ⟨b, 0, none⟩) :: lkM0 b x adh nh caph bq ado nd capo bl mh mo mq ml) Tryz.isAgg27 rfl rfl w ((hL.rd hJr hjj2 hc))) ?_
  refine LM.nc rfl <| LM.val (ovf 66 rfl rfl rfl rfl) ?_
  refine LM.rdC (fun w hm hc hg => om_ld (M := lF c1 (some ⟨b, 0, none⟩) :: lkM0 b x adh nh caph bq ado nd capo bl mh mo mq ml) Tryz.isAgg66 rfl rfl w ((hL.rd hJr hjj2 hc))) ?_
  refine LM.mv rfl ?_
  refine cE Tryz.func86 rfl (fun w hm hc hg => twho_at w hTb om (Mem.pick (M := lF c1 (some ⟨b, 0, none⟩) :: lkM0 b x adh nh caph bq ado nd capo bl mh mo mq ml) ((hL.rd hJr hjj2 hc)) mq)) ?_
  refine LM.mv rfl <| LM.val (ov_extract rfl rfl) <| LM.val (ov_extract rfl rfl) ?_
  refine LM.alloc Tryz.zeroValue85 rfl (fun b5 hb5 => ?_)
  refine LM.stW Tryz.sizeOf85 rfl rfl rfl rfl au7 (fun hlt => by first | exact absurd hlt om | (simp [inM]; done)) ?_
  refine LM.as rfl <| nB [(0, _), (1, _), (4, _), (5, _), (6, _), (13, _), (14, _), (15, _)] <| LM.mv rfl <| LM.mv rfl ?_
  first | refine LM.splitD (t := 29) rfl (fun h2 => ?_) (fun h2 => ?_) | refine LM.splitB (t := 29) rfl (fun h2 => ?_) (fun h2 => ?_)
  ·
   refine LM.sp 29 rfl rfl rfl <| LM.mv rfl <| LM.sp 29 rfl rfl rfl <| LM.mv rfl <| LM.sp 29 rfl rfl rfl <| LM.val (ovf 3 rfl rfl rfl rfl) <| LM.sp 29 rfl rfl rfl ?_
   refine LM.rd (oml rfl rfl rfl) ?_
   refine LM.sp 29 rfl rfl rfl ?_
   refine LM.yieldJ (n := n0) (k := i) hL rfl rfl (fun m w hj => hy (i) _ m w (wtA_get om) hj) hCj2 hjj2 hkj2 (kk_top _) ([]) (m13 ++ []) (m13 ++ []) (by simp only [List.append_assoc, List.cons_append, List.nil_append]) (SubM.mem au1) (by (repeat' (first | exact pn_nil | refine lo_cons om rfl ?_ | refine lo_dm (by intro D hD; first | (have := hds1 D hD; omega) | (have := hds2 D hD; omega)) ?_))) (by (try dsimp only); (repeat' (first | exact pn_nil | exact (fun p hp => ⟨.inl (hs13.ge p hp), hs13.wlk p hp⟩) | exact (fun p hp => ⟨.inr ⟨p, by simp [hp], rfl⟩, hs13.wlk p hp⟩) | refine pn_cons (by first | (left; omega) | (right; simp; done)) rfl ?_ | refine pn_app ?_ ?_))) (fun wj3 hmj3 hCj3 hjj3 hkj3 => ?_) (fun wj3 hmj3 hCj3 hjj3 hkj3 => ?_)
   ·
    change LM _ _ _ _ _ _ _ _ (m13 ++ []) _ _ _
    refine LM.sp 29 rfl rfl rfl ?_
    first | refine LM.val (ov_notD rfl) ?_ | refine LM.val (ov_not rfl) ?_
    refine LM.val (ov_pickT rfl rfl) <| nA [(0, _), (1, _), (13, _), (14, _), (15, _), (36, _)] ?_
    refine wpM.condF rfl ?_
    refine wpM.skip <| QM.block_normal ?_
    refine QM.then (wpM.region ?_)
    refine LM.val (ov_add64 rfl rfl om) ?_
    refine LM.mv rfl <| nC [(0, _), (1, _), (13, _), (14, _), (15, _)] ?_
    refine QM.closeJ hL hCj3 hjj3 hkj3 (kk_top _) (((fun i => m13 ++ []) : Nat → Mem0) (i + 1)) (SubM.mem (by (try dsimp only); (repeat' (first | exact SubM.nil _ | refine SubM.cons rfl ?_ | refine SubM.app ?_)))) (by (try dsimp only); (repeat' (first | exact pn_nil | exact (fun p hp => ⟨.inl (hs13.ge p hp), hs13.wlk p hp⟩) | exact (fun p hp => ⟨.inr ⟨p, by simp [hp], rfl⟩, hs13.wlk p hp⟩) | refine pn_cons (by first | (left; omega) | (right; simp; done)) rfl ?_ | refine pn_app ?_ ?_))) ?_
    refine QM.againK (i + 1) ⟨au2, rfl, rfl, rfl, rfl, trivial⟩ au1 (fun _ h => h) ?_ ?_
    · omega
    · omega
   change LM _ _ _ _ _ _ _ _ ([]) _ _ _
   refine LM.sp 29 rfl rfl rfl ?_
   first | refine LM.val (ov_notD rfl) ?_ | refine LM.val (ov_not rfl) ?_
   refine LM.val (ov_pickT rfl rfl) <| nA [(0, _), (1, _), (13, _), (14, _), (15, _), (36, _)] ?_
   refine wpM.condT rfl ?_
   refine wpM.ret <| QM.block_ret <| QM.then_ret <| QM.then_ret <| QM.block_ret ?_
   refine QM.closeX hL hCj3 hjj3 hkj3 (kk_top _) ?_
   refine QM.leaveDJ (ds := ([])) (.inl rfl) [] Tryz.results84 rfl hn0 hd_nil (gl_x hL (Nat.le_refl _) (gl_top _)) ?_
   intro w' hm' hg'
   exact .inr hg'.1
  cases h2
 refine wpM.exit <| QM.then_exit <| QM.then_exit <| QM.block_hit ?_
 refine QM.closeJ hL hCj2 hjj2 hkj2 (kk_top _) ([]) (SubM.mem (by (try dsimp only); (repeat' (first | exact SubM.nil _ | refine SubM.cons rfl ?_ | refine SubM.app ?_)))) (by (try dsimp only); (repeat' (first | exact pn_nil | exact (fun p hp => ⟨.inl (hs13.ge p hp), hs13.wlk p hp⟩) | exact (fun p hp => ⟨.inr ⟨p, by simp [hp], rfl⟩, hs13.wlk p hp⟩) | refine pn_cons (by first | (left; omega) | (right; simp; done)) rfl ?_ | refine pn_app ?_ ?_))) ?_
 refine QM.leaveDJ (ds := ([])) (.inr rfl) [] Tryz.results84 rfl hn0 hd_nil (gl_j hL (Nat.le_refl _) (gl_top _)) ?_
 intro w' hm' hg'
 have hil : i = x.wt.length := om; subst hil; exact .inl (by rw [wtA_len]; exact hg'.1)
abbrev rkC (b : Nat) (sh : Bool) (sl : Int) (adh : Option Addr) (nh caph : Nat) (adw : Option Addr) (nw capw : Nat) (tr : Trn) (bl : Nat) (di : Bool) : Nat × Obj := (b, .cells #[.bool sh, .int .i64 sl, .slice adh nh caph, .slice adw nw capw, .int .i64 tr.p, .int .i64 tr.u, .pointer (some ⟨bl, 0, none⟩), .bool di] 79 (0, 0))
abbrev rkM0 (b : Nat) (x : Lkm) (adh : Option Addr) (nh caph : Nat) (adw : Option Addr) (nw capw bl : Nat) (mh mw ml : Mem0) : Mem0 := rkC b x.sh x.sl adh nh caph adw nw capw x.tr bl x.di :: (mh ++ (mw ++ ml))
def RkM (n0 b : Nat) (x : Lkm) (wa : List Hd) (m : Mem0) : Prop := ∃ (adh : Option Addr) (nh caph : Nat) (adw : Option Addr) (nw capw bl : Nat) (mh mw ml : Mem0), m = rkM0 b x adh nh caph adw nw capw bl mh mw ml ∧ nh = x.ho.length ∧ nw = wa.length ∧ Sl fHd 59 3 n0 x.ho (.slice adh nh caph) mh ∧ Sl fHd 59 3 n0 wa (.slice adw nw capw) mw ∧ RdM n0 bl x.ld ml ∧ n0 ≤ b
theorem RkM.ge {n0 b : Nat} {x : Lkm} {wa : List Hd} {m : Mem0} (h : RkM n0 b x wa m) : ∀ p ∈ m, n0 ≤ p.1 := by
  obtain ⟨adh, nh, caph, adw, nw, capw, bl, mh, mw, ml, rfl, hnh, hnw, hsh, hsw, hLe, hb⟩ := h
  intro p hp
  rcases List.mem_cons.1 hp with rfl | hp
  · exact hb
  · rcases List.mem_append.1 hp with hp | hp
    · exact hsh.ge p hp
    · rcases List.mem_append.1 hp with hp | hp
      · exact hsw.ge p hp
      · exact hLe.ge p hp
theorem RkM.wlk {n0 b : Nat} {x : Lkm} {wa : List Hd} {m : Mem0} (h : RkM n0 b x wa m) : ∀ p ∈ m, wlk p.2 = false := by
  obtain ⟨adh, nh, caph, adw, nw, capw, bl, mh, mw, ml, rfl, hnh, hnw, hsh, hsw, hLe, hb⟩ := h
  exact fun p hp => by
    rcases List.mem_cons.1 hp with rfl | hp
    · rfl
    · rcases List.mem_append.1 hp with hp | hp
      · exact hsh.wlk p hp
      · rcases List.mem_append.1 hp with hp | hp
        · exact hsw.wlk p hp
        · exact hLe.wlk p hp
theorem RkM.mono {n0 n1 b : Nat} {x : Lkm} {wa : List Hd} {m : Mem0} (h : RkM n0 b x wa m) (hn : n1 ≤ n0) : RkM n1 b x wa m := by
  obtain ⟨adh, nh, caph, adw, nw, capw, bl, mh, mw, ml, rfl, hnh, hnw, hsh, hsw, hLe, hb⟩ := h
  exact ⟨adh, nh, caph, adw, nw, capw, bl, mh, mw, ml, rfl, hnh, hnw, hsh.mono hn, hsw.mono hn, hLe.mono hn, Nat.le_trans hn hb⟩
end Go.Eng
namespace Go.Eng
open Go Go.Proofs Go.RowKit
def strk (p : Int) : Nat → List Wt → List Wt
  | _, [] => []
  | n, w :: l => if w.key = p ∧ 0 < n then strk p (n - 1) l else w :: strk p n l
theorem strk_zero (p : Int) : ∀ l, strk p 0 l = l
  | [] => rfl
  | w :: l => by
    show (if w.key = p ∧ 0 < 0 then _ else w :: strk p 0 l) = _
    rw [if_neg (fun q => absurd q.2 (Nat.lt_irrefl 0)), strk_zero p l]
theorem rmA_cons {w : Wt} {L : List Wt} : ∀ {os : List Int}, w.who ∉ os → rmA (w :: L) os = w :: rmA L os := by
  intro os
  unfold rmA
  induction os generalizing L with
  | nil => intro _; rfl
  | cons t os ih =>
    intro h
    rw [List.foldl_cons, List.foldl_cons]
    have e : rmW (w :: L) t = w :: rmW L t := by
      unfold rmW; rw [List.filter_cons_of_pos (by simpa using fun q => h (by rw [q]; exact List.mem_cons_self ..))]
    rw [e]; exact ih (fun q => h (List.mem_cons_of_mem _ q))
theorem LF_cons_pos {w : Wt} {l : List Wt} {p : Int} (h : w.key = p) : LF (w :: l) p = w :: LF l p := by
  unfold LF; rw [List.filter_cons_of_pos (by simpa using h)]
theorem LF_cons_neg {w : Wt} {l : List Wt} {p : Int} (h : w.key ≠ p) : LF (w :: l) p = LF l p := by
  unfold LF; rw [List.filter_cons_of_neg (by simpa using h)]
theorem strk_eq (p : Int) : ∀ (L : List Wt) (n : Nat), Wd1 L → strk p n L = rmA L (((LF L p).take n).map (·.who))
  | [], n, _ => by
    show [] = rmA [] _
    have : LF [] p = [] := rfl
    rw [this, List.take_nil]; rfl
  | w :: l, n, h => by
    show (if w.key = p ∧ 0 < n then strk p (n - 1) l else w :: strk p n l) = _
    have hl := (List.pairwise_cons.1 h).2
    have hw := (List.pairwise_cons.1 h).1
    by_cases c : w.key = p
    · by_cases c2 : 0 < n
      · rw [if_pos ⟨c, c2⟩, LF_cons_pos c, strk_eq p l _ hl]
        obtain ⟨m, rfl⟩ : ∃ m, n = m + 1 := ⟨n - 1, by omega⟩
        rw [Nat.add_sub_cancel, List.take_succ_cons, List.map_cons]
        show _ = rmA (rmW (w :: l) w.who) _
        rw [rm_head h]
      · rw [if_neg (fun q => c2 q.2), show n = 0 by omega, strk_zero, List.take_zero]; rfl
    · rw [if_neg (fun q => c q.1), LF_cons_neg c, strk_eq p l _ hl, rmA_cons]
      intro q
      obtain ⟨z, hz, e⟩ := List.mem_map.1 q
      exact hw z (LF_mem.1 (List.mem_of_mem_take hz)).1 e.symm
theorem strk_skip {p : Int} {w : Wt} {l : List Wt} {n : Nat} (h : w.key ≠ p ∨ n = 0) : strk p n (w :: l) = w :: strk p n l := if_neg (fun q => by rcases h with h | h; exact h q.1; omega)
theorem strk_hit {p : Int} {w : Wt} {l : List Wt} {n : Nat} (h : w.key = p) (hn : 0 < n) : strk p n (w :: l) = strk p (n - 1) l := if_pos ⟨h, hn⟩
structure GrI (x : Lkm) (p : Int) (n : Nat) (al : Bool) (dn rs : List Wt) (os : List Int) : Prop where
  a : dn ++ strk p (n - os.length) rs = rmA x.wt (admL x p n)
  b : os ++ ((LF rs p).take (n - os.length)).map (·.who) = admL x p n
  c : al = true → os.length + rs.length ≤ 8
  d : dn.length + rs.length + os.length = x.wt.length
theorem GrI.skip {x : Lkm} {p : Int} {n : Nat} {al : Bool} {dn rs : List Wt} {os : List Int} {w : Wt} (h : GrI x p n al dn (w :: rs) os) (hs : w.key ≠ p ∨ n - os.length = 0) : GrI x p n al (dn ++ [w]) rs os := by
  refine ⟨?_, ?_, fun q => ?_, ?_⟩
  · rw [← h.a, strk_skip hs]; simp
  · rw [← h.b]
    rcases hs with hs | hs
    · rw [LF_cons_neg hs]
    · rw [hs, List.take_zero, List.take_zero]
  · have := h.c q; simp at this; omega
  · have := h.d; simp at this ⊢; omega
end Go.Eng
namespace Go.Eng
open Go Go.Proofs Go.RowKit
theorem take_wt (x : Lkm) (t p : Int) : (takeX x t p).wt = x.wt := by
  unfold takeX; split
  · rfl
  · show (firstX x p).wt = x.wt; exact (first_core x p).2.2.1
end Go.Eng
namespace Go.Eng
open Go Go.Proofs Go.RowKit
def RkNew (d : LDf) (gs : List Int) (n0 : Nat) (v : Value) (m : Mem0) : Prop := ∃ b, v = .pointer (some ⟨b, 0, none⟩) ∧ RkM n0 b (lkNew d gs) [] m
theorem RkNew.mono {d : LDf} {gs : List Int} : ∀ (n n' : Nat) (v : Value) (m : Mem0), n' ≤ n → RkNew d gs n v m → RkNew d gs n' v m := fun n n' v m hn ⟨b, h1, h⟩ => ⟨b, h1, h.mono hn⟩
end Go.Eng
namespace Go.Eng
open Go Go.RowKit
theorem strk_len (p : Int) : ∀ (L : List Wt) (n : Nat), (strk p n L).length + ((LF L p).take n).length = L.length
  | [], n => by
    have : LF [] p = [] := rfl
    rw [this, List.take_nil]; rfl
  | w :: l, n => by
    by_cases c : w.key = p
    · by_cases c2 : 0 < n
      · rw [strk_hit c c2, LF_cons_pos c]
        obtain ⟨m, rfl⟩ : ∃ m, n = m + 1 := ⟨n - 1, by omega⟩
        have := strk_len p l m
        rw [Nat.add_sub_cancel, List.take_succ_cons, List.length_cons, List.length_cons]; omega
      · rw [show n = 0 by omega, strk_zero, List.take_zero]; rfl
    · rw [strk_skip (.inl c), LF_cons_neg c]
      have := strk_len p l n
      rw [List.length_cons, List.length_cons]; omega
theorem adm_sum {x : Lkm} (h : Wd1 x.wt) (p : Int) (n : Nat) : (admX x p n).ho.length + (admX x p n).wt.length = x.ho.length + x.wt.length := by
  rw [admX_form]
  show (x.ho ++ _).length + (rmA x.wt (admL x p n)).length = _
  rw [List.length_append, grH_len]
  have := strk_len p x.wt n
  rw [strk_eq p _ _ h] at this
  have e : (admL x p n).length = ((LF x.wt p).take n).length := by unfold admL; rw [List.length_map]
  have e2 : admL x p n = ((LF x.wt p).take n).map (·.who) := rfl
  rw [← e2, ← e] at this
  omega
structure LkB (k : Nat) (x : Lkm) : Prop where
  hl : x.ho.length + x.wt.length ≤ k
  hh : ∀ p, p < x.ld.l.length → 0 ≤ (gP x.ld.l p).h ∧ (gP x.ld.l p).h ≤ k
  tu : 0 ≤ x.tr.u
theorem LkB.mono {k k' : Nat} {x : Lkm} (h : LkB k x) (hk : k ≤ k') : LkB k' x := ⟨Nat.le_trans h.hl hk, fun p hp => by have := h.hh p hp; omega, h.tu⟩
theorem ldSet_h {x : Ldm} {s : BitVec 64} {p : Nat} (hp : p < x.l.length) : (gP (ldSet x s).l p).h = (gP x.l p).h := by
  show (gP (stL x s x.l.length) p).h = _
  rw [stL_get hp, if_pos hp]; rfl
theorem LkB.settle {k : Nat} {x : Lkm} (h : LkB k x) : LkB k (settleX x) :=
  ⟨h.hl, fun p hp => by have hp2 : p < x.ld.l.length := by rw [← ldSet_len]; exact hp
                        show 0 ≤ (gP (ldSet x.ld _).l p).h ∧ _
                        rw [show (settleX x).ld = ldSet x.ld (actS x) from rfl, ldSet_h hp2]; exact h.hh p hp2, h.tu⟩
theorem LkB.adm {k : Nat} {x : Lkm} (h : LkB k x) (hw : Wd1 x.wt) (p : Int) (n : Nat) : LkB k (admX x p n) := by
  have e := adm_sum hw p n
  have e1 : (admX x p n).ld = x.ld := by rw [admX_form]
  have e2 : (admX x p n).tr = x.tr := by rw [admX_form]
  exact ⟨by rw [e]; exact h.hl, by rw [e1]; exact h.hh, by rw [e2]; exact h.tu⟩
theorem next_u {t : Trn} {sl : Int} {s : BitVec 64} {le : Int} (h : 0 ≤ t.u) : 0 ≤ (nextT t sl s le).u := by unfold nextT; split; exact h; exact Int.le_refl _
theorem spend_u {t : Trn} (h : 0 ≤ t.u) : 0 ≤ (spendT t).u := by unfold spendT; split; show 0 ≤ t.u + 1; omega; exact h
theorem end_u {t : Trn} {sl : Int} (h : 0 ≤ t.u) : 0 ≤ (endT t sl).u := by
  unfold endT; split
  · have := bring_in (n := sl) (show (1 : Int) ≤ 16 by decide); show 0 ≤ bringO sl 1 16; omega
  · exact h
theorem LkB.pass {k : Nat} {x : Lkm} (h : LkB k x) (hw : Wd1 x.wt) : LkB k (passX x) := by
  unfold passX; split
  · exact h
  · exact LkB.adm (x := turnX x) ⟨h.hl, h.hh, next_u h.tu⟩ hw _ _
theorem LkB.take {k : Nat} {x : Lkm} (h : LkB k x) (t p : Int) : LkB (k + 1) (takeX x t p) := by
  unfold takeX; split
  · exact h.mono om
  · obtain ⟨e1, e2, e3, e4, e5, e6⟩ := first_core x p
    refine LkB.settle ⟨?_, ?_, ?_⟩
    · show ((firstX x p).ho ++ [_]).length + (firstX x p).wt.length ≤ _
      rw [e2, e3, List.length_append, List.length_singleton]; have := h.hl; omega
    · show ∀ q, q < (firstX x p).ld.l.length → 0 ≤ (gP (firstX x p).ld.l q).h ∧ (gP (firstX x p).ld.l q).h ≤ ((k + 1 : Nat) : Int)
      rw [e4]; exact (h.mono (Nat.le_succ k)).hh
    · show 0 ≤ (firstX x p).tr.u
      unfold firstX; split; exact Int.le_refl _; exact h.tu
theorem LkB.wait {k : Nat} {x : Lkm} (h : LkB k x) (t p : Int) : LkB (k + 1) (waitX x t p) := by
  unfold waitX; split
  · exact h.mono om
  · refine LkB.settle ⟨?_, (h.mono (Nat.le_succ k)).hh, h.tu⟩
    show x.ho.length + (x.wt ++ [_]).length ≤ _
    rw [List.length_append, List.length_singleton]; have := h.hl; omega
theorem LkB.unl {k : Nat} {x : Lkm} (h : LkB k x) (hw : Wd1 x.wt) (t : Int) : LkB k (unlX x t) := by
  unfold unlX; split
  · have ho : LkB k (outX x t) := ⟨by show (x.ho.eraseIdx _).length + _ ≤ k; have := List.Sublist.length_le (List.eraseIdx_sublist x.ho (hix x.ho t)); have := h.hl; show _ + x.wt.length ≤ k; omega, h.hh, h.tu⟩
    refine LkB.settle ?_
    split
    · exact ho.pass hw
    · exact ho
  · exact h
theorem LkB.lv {k : Nat} {x : Lkm} (h : LkB k x) (hw : Wd1 x.wt) (t : Int) : LkB k (lvX x t) := by
  unfold lvX; split
  · have hg : LkB k (goneX x t) := ⟨by show x.ho.length + (rmW x.wt t).length ≤ k; have : (rmW x.wt t).length ≤ x.wt.length := List.length_filter_le _ _; have := h.hl; omega, h.hh, h.tu⟩
    refine LkB.settle ?_
    split
    · exact hg.adm (wd_rm hw t) _ _
    · exact hg
  · exact h
theorem LkB.die {k : Nat} {x : Lkm} (h : LkB k x) (hw : Wd1 x.wt) (t : Int) : LkB k (diX x t) := by
  unfold diX; split
  · exact h.lv hw t
  · split
    · exact LkB.unl (x := { x with di := true }) ⟨h.hl, h.hh, h.tu⟩ hw t
    · exact h
theorem LkB.chg {k : Nat} {x : Lkm} (h : LkB k x) (t : Int) : LkB (k + 1) (chgX x t) := by
  unfold chgX; split
  · refine LkB.settle ⟨Nat.le_succ_of_le h.hl, fun q hq => ?_, spend_u h.tu⟩
    generalize (x.ho.getD (hix x.ho t) default).p.toNat = pp at hq ⊢
    have hq2 : q < x.ld.l.length := by
      have : q < (x.ld.l.set pp (chgP (gP x.ld.l pp))).length := hq
      rw [List.length_set] at this; exact this
    show 0 ≤ (gP (x.ld.l.set pp (chgP (gP x.ld.l pp))) q).h ∧ (gP (x.ld.l.set pp (chgP (gP x.ld.l pp))) q).h ≤ _
    by_cases hp : pp < x.ld.l.length
    · rw [gP_set hp]
      split
      · rename_i e; subst e
        have := h.hh q hq2
        show 0 ≤ (gP x.ld.l q).h + 1 ∧ (gP x.ld.l q).h + 1 ≤ _
        omega
      · have := h.hh q hq2; omega
    · rw [List.set_eq_of_length_le om]; have := h.hh q hq2; omega
  · exact h.mono om
theorem LkB.wei {k : Nat} {x : Lkm} (h : LkB k x) (g wt : Int) : LkB k (weiX x g wt) := by
  unfold weiX; split
  · refine LkB.settle ⟨h.hl, fun q hq => ?_, by show 0 ≤ (if _ then _ else _ : Trn).u; split; exact end_u h.tu; exact h.tu⟩
    have hq2 : q < x.ld.l.length := by
      have : q < (x.ld.l.set g.toNat (weiP x.ld (gP x.ld.l g.toNat) wt)).length := hq
      rw [List.length_set] at this; exact this
    show 0 ≤ (gP (x.ld.l.set g.toNat (weiP x.ld (gP x.ld.l g.toNat) wt)) q).h ∧ (gP (x.ld.l.set g.toNat (weiP x.ld (gP x.ld.l g.toNat) wt)) q).h ≤ _
    by_cases hp : g.toNat < x.ld.l.length
    · rw [gP_set hp]
      split
      · rename_i e; subst e
        have := h.hh _ hq2
        unfold weiP; split
        · exact this
        · exact this
      · exact h.hh q hq2
    · rw [List.set_eq_of_length_le om]; exact h.hh q hq2
  · exact h
theorem lkNew_b (d : LDf) (gs : List Int) : LkB 0 (lkNew d gs) := by
  refine ⟨Nat.le_refl _, fun p hp => ?_, Int.le_refl _⟩
  have : ∀ q ∈ (ldNew (lkWs d gs) (bringO d.sl 1 16) d.cr).l, q.h = 0 := fun q hq => by
    unfold ldNew at hq
    obtain ⟨w, _, rfl⟩ := List.mem_map.1 hq; rfl
  have h2 := this (gP (lkNew d gs).ld.l p) (by unfold gP; rw [List.getD_eq_getElem?_getD, List.getElem?_eq_getElem hp]; exact List.getElem_mem _)
  rw [h2]; exact ⟨Int.le_refl _, Int.le_refl _⟩
theorem LkM.tmono {n0 T T' b : Nat} {x : Lkm} {od : List Int} {m : Mem0} (h : LkM n0 T b x od m) (hT : T ≤ T') : LkM n0 T' b x od m := by
  obtain ⟨adh, nh, caph, ado, nd, capo, bq, bl, mh, mo, mq, ml, rfl, hnh, hnd, hsh, hso, hTb, hLe, hb⟩ := h
  exact ⟨adh, nh, caph, ado, nd, capo, bq, bl, mh, mo, mq, ml, rfl, hnh, hnd, hsh, hso, hTb.tmono hT, hLe, hb⟩
end Go.Eng
namespace Go.Eng
open Go Go.Proofs Go.RowKit
structure Dsc where
  k : Int
  t : Int
  p : Int
  w : Int
instance : Inhabited Dsc := ⟨⟨0, 0, 0, 0⟩⟩
def fDs (d : Dsc) : List Value := [.int .u8 d.k, .int .i64 d.t, .int .i64 d.p, .int .i64 d.w]
theorem rdb_forelocklaw20_Deed : Rdb Tryz.prog 30 fDs (fun a => (0 ≤ a.k ∧ a.k ≤ 255) ∧ (-9223372036854775808 ≤ a.t ∧ a.t ≤ 9223372036854775807) ∧ (-9223372036854775808 ≤ a.p ∧ a.p ≤ 9223372036854775807) ∧ (-9223372036854775808 ≤ a.w ∧ a.w ≤ 9223372036854775807)) := fun {H enc w base sp held fuel cs x} h => by
  obtain ⟨h1, h2⟩ := trod_fields Tryz.underlying30 h
  rw [show Tryz.prog.cellsOf 30 = 4 by kernel_rfl] at h1
  have c3 : Tryz.prog.cellsOf 3 = 1 := by kernel_rfl
  have c5 : Tryz.prog.cellsOf 5 = 1 := by kernel_rfl
  match cs, h1 with
  | [a0, a1, a2, a3], _ =>
    simp only [List.forall_mem_cons, c3, c5, List.drop_succ_cons, List.drop_zero, List.take_succ_cons, List.take_zero] at h2
    obtain ⟨⟨_, _, f0⟩, ⟨_, _, f1⟩, ⟨_, _, f2⟩, ⟨_, _, f3⟩, _⟩ := h2
    obtain ⟨m0, e0, _, w0⟩ := DataW.trod_int Tryz.underlying5 f0
    obtain ⟨m1, e1, _, w1⟩ := DataW.trod_int Tryz.underlying3 f1
    obtain ⟨m2, e2, _, w2⟩ := DataW.trod_int Tryz.underlying3 f2
    obtain ⟨m3, e3, _, w3⟩ := DataW.trod_int Tryz.underlying3 f3
    simp only [List.cons.injEq, and_true] at e0 e1 e2 e3
    subst e0
    subst e1
    subst e2
    subst e3
    exact ⟨⟨m0, m1, m2, m3⟩, rfl, ⟨bounds_u8 w0, bounds_i64 w1, bounds_i64 w2, bounds_i64 w3⟩⟩
abbrev niB (c : Nat) (i : Int) : Nat × Obj := (c, .cells #[.int .i64 i] 3 (0, 0))
theorem lkTake2 {n0 T b : Nat} {x : Lkm} {m : Mem0} (t p : Int) (w : World) (hT : Tab w) (hn1 : 0 < n0) (h : LkM n0 T b x (x.wt.map (·.who)) m) (hn0 : n0 ≤ w.heap.size) (hx : x.ho.length ≤ 1000) (hM : Mem w m) :
    Ret Tryz.prog 11 #[.pointer (some ⟨b, 0, none⟩), .int .i64 t, .int .i64 p] w (Upd m (fun u m' => u = .int .i64 (takeE x t p) ∧ LkM n0 T b (takeX x t p) ((takeX x t p).wt.map (·.who)) m') w) := by
  rw [take_wt]; exact lkTake_spec t p w hT hn1 h hn0 hx hM
def aw0 : Lkm := lkNew ⟨false, 1, 2, 0, 0⟩ [1, 1]
def aw1 : Lkm := takeX aw0 5 0
def aw2 : Lkm := waitX aw1 6 0
def aw3 : Lkm := waitX aw2 7 1
def aw4 : Lkm := chgX aw3 5
def aw5 : Lkm := unlX aw4 5
theorem aw_w : LkW aw0 ∧ LkW aw1 ∧ LkW aw2 ∧ LkW aw3 ∧ LkW aw4 := by
  have h0 : LkW aw0 := lkNew_w _ _
  exact ⟨h0, h0.take 5 0, (h0.take 5 0).wait 6 0, ((h0.take 5 0).wait 6 0).wait 7 1, (((h0.take 5 0).wait 6 0).wait 7 1).chg 5⟩
theorem aw_b : LkB 0 aw0 ∧ LkB 1 aw1 ∧ LkB 2 aw2 ∧ LkB 3 aw3 ∧ LkB 4 aw4 := by
  have h0 : LkB 0 aw0 := lkNew_b _ _
  exact ⟨h0, h0.take 5 0, (h0.take 5 0).wait 6 0, ((h0.take 5 0).wait 6 0).wait 7 1, (((h0.take 5 0).wait 6 0).wait 7 1).chg 5⟩
theorem aw_f : takeE aw0 5 0 = 0 ∧ waitE aw1 6 0 = 0 ∧ waitE aw2 7 1 = 0 ∧ holdsO aw3 5 = true ∧ unlE aw4 5 = 0 ∧ unlL aw4 5 = [7] ∧ holdsO aw5 7 = true ∧ aw5.tr.p = 1 ∧ aw5.tr.u = 0 := by
  refine ⟨?_, ?_, ?_, ?_, ?_, ?_, ?_, ?_, ?_⟩ <;> kernel_rfl
theorem awake20_spec (w : World) (hT : Tab w) : Ret Tryz.prog 6 #[] w (fun v w' => v = .bool true ∧ Ext w w') := by
 have hn1 := hT.pos; obtain ⟨w0, w1, w2, w3, w4⟩ := aw_w; obtain ⟨q0, q1, q2, q3, q4⟩ := aw_b; obtain ⟨f0, f1, f2, f3, f4, f5, f6, f7, f8⟩ := aw_f; have z0 := q0.hl; have z4 := q4.hl; have z1 := q4.tu; have z2 := q3.tu
 refine Ret.enterM Tryz.func6 rfl Tryz.ntmps6 rfl ([]) (no) (Mem.nil w) ?_
 refine wR <| LM.as rfl ?_
 refine LM.nil (QM.sub (e' := []) trivial (QM.then (wpM.seq (wpM.region ?_))))
 refine LM.val (ov_build (cs := #[.bool false, .int .i64 1, .int .i64 2, .int .i64 0, .int .i64 0]) rfl kr) ?_
 refine LM.row (vs := [_, _]) Tryz.underlying24 Tryz.sizeOf3 Tryz.zeroValue3 rfl rfl rfl rfl rfl rfl (fun b9 hb9 => ?_)
 refine LM.callT (oc_call (enters_fn Tryz.func7 kr rfl) rfl) LkNew.mono (fun w hm hc hg => lknew_spec (gs := [1, 1]) ⟨false, 1, 2, 0, 0⟩ w rfl (Sr.row (hm.at b9) rfl rfl (by simp) ir)) ?_
 rintro u10 m10 ⟨b, rfl, h10⟩ hge10
 refine LM.as rfl <| nB [(1, _)] <| LM.mv rfl ?_
 refine cU Tryz.func11 rfl (fun w hm hc hg => lkTake2 (x := aw0) 5 0 w (hT.ext hc) hn1 h10 hc.size om (hm.pick m10)) h10.wlk (fun p hp hlt => absurd hlt (Nat.not_lt_of_le (h10.ge p hp))) ?_
 rintro u12 m12 ⟨rfl, h12⟩ -; rw [f0]
 refine LM.mv rfl ?_
 refine cU Tryz.func13 rfl (fun w hm hc hg => lkWait_spec (x := aw1) 6 0 w (hT.ext hc) hn1 h12 hc.size om (hm.pick m12)) h12.wlk (fun p hp hlt => absurd hlt (Nat.not_lt_of_le (h12.ge p hp))) ?_
 rintro u14 m14 ⟨rfl, h14⟩ -; rw [f1]
 refine LM.mv rfl ?_
 refine cU Tryz.func13 rfl (fun w hm hc hg => lkWait_spec (x := aw2) 7 1 w (hT.ext hc) hn1 h14 hc.size om (hm.pick m14)) h14.wlk (fun p hp hlt => absurd hlt (Nat.not_lt_of_le (h14.ge p hp))) ?_
 rintro u16 m16 ⟨rfl, h16⟩ -; rw [f2]
 refine LM.as rfl <| LM.as rfl <| LM.as rfl <| nB [(1, _), (2, _), (3, _), (4, _)] <| LM.mv rfl ?_
 refine cU Tryz.func22 rfl (fun w hm hc hg => lkChg_spec (x := aw3) 5 w (hT.ext hc) hn1 h16 hc.size w3.hk (fun p hp => by have := q3.hh p hp; omega) om (hm.pick m16)) h16.wlk (fun p hp hlt => absurd hlt (Nat.not_lt_of_le (h16.ge p hp))) ?_
 rintro u18 m18 ⟨rfl, h18⟩ -; rw [f3]
 refine LM.as rfl <| nB [(1, _), (2, _), (3, _), (4, _), (5, _)] <| LM.mv rfl ?_
 refine cU Tryz.func15 rfl (fun w hm hc hg => lkUnl_spec (x := aw4) 5 w (hT.ext hc) hn1 h18 w4.hws hc.size om hc.size (hm.pick m18)) h18.wlk (fun p hp hlt => absurd hlt (Nat.not_lt_of_le (h18.ge p hp))) ?_
 rintro u21 m21 ⟨v21, mr21, mx21, rfl, hr21, rfl, h21⟩ -; rw [f4]; rw [f5] at hr21; obtain ⟨ad21, cap21, rfl⟩ := hr21.form; have h21b : LkM w.heap.size 2 b aw5 (aw5.wt.map (·.who)) mx21 := h21; refine LM.assoc ?_
 refine LM.mv rfl <| LM.val (ov_extract rfl rfl) <| LM.val (ov_extract rfl rfl) <| LM.as rfl <| LM.as rfl <| nB [(1, _), (2, _), (3, _), (4, _), (5, _), (6, _), (7, _)] <| LM.mv rfl <| LM.val (ov_eql rfl rfl) <| LM.mv rfl ?_
 refine LM.splitD (t := 26) rfl (fun h1 => ?_) (fun h1 => ?_)
 ·
  refine LM.sp 26 rfl rfl rfl <| LM.mv rfl <| LM.sp 26 rfl rfl rfl <| LM.val (ov_eql rfl rfl) <| LM.val (ov_pickT rfl rfl) <| LM.mv rfl ?_
  refine LM.splitD (t := 30) rfl (fun h2 => ?_) (fun h2 => ?_)
  ·
   refine LM.sp 30 rfl rfl rfl <| LM.mv rfl <| LM.sp 30 rfl rfl rfl <| LM.val (ov_eql rfl rfl) <| LM.val (ov_pickT rfl rfl) <| LM.mv rfl ?_
   refine LM.splitD (t := 34) rfl (fun h3 => ?_) (fun h3 => ?_)
   ·
    refine LM.sp 34 rfl rfl rfl <| LM.mv rfl <| LM.val (ov_pickT rfl rfl) <| LM.mv rfl ?_
    first | refine LM.splitD (t := 37) rfl (fun h4 => ?_) (fun h4 => ?_) | refine LM.splitB (t := 37) rfl (fun h4 => ?_) (fun h4 => ?_)
    ·
     refine LM.sp 37 rfl rfl rfl <| LM.mv rfl <| LM.sp 37 rfl rfl rfl <| LM.val (ov_eql rfl rfl) <| LM.val (ov_pickT rfl rfl) <| LM.mv rfl ?_
     refine LM.splitD (t := 41) rfl (fun h5 => ?_) (fun h5 => ?_)
     ·
      refine LM.sp 41 rfl rfl rfl <| LM.mv rfl <| LM.sp 41 rfl rfl rfl <| LM.val (ov_len Tryz.underlying24 rfl) <| LM.sp 41 rfl rfl rfl <| LM.val (ov_eql rfl rfl) <| LM.val (ov_pickT rfl rfl) <| LM.mv rfl ?_
      refine LM.splitD (t := 46) rfl (fun h6 => ?_) (fun h6 => ?_)
      ·
       refine LM.sp 46 rfl rfl rfl <| LM.mv rfl <| LM.sp 46 rfl rfl rfl ?_
       refine LM.val (ov_idxSN (i := 0) au6 Tryz.underlying24 Tryz.sizeOf3 rfl rfl om) ?_
       refine LM.sp 46 rfl rfl rfl ?_
       refine LM.rd (om_sl1 (i := 0) asm ir Tryz.isAgg3 rfl rfl (by exact getq 0 au4) (by rfl)) ?_
       refine LM.sp 46 rfl rfl rfl <| LM.val (ov_eql rfl rfl) <| LM.val (ov_pickT rfl rfl) <| LM.mv rfl ?_
       refine LM.splitD (t := 52) rfl (fun h7 => ?_) (fun h7 => ?_)
       ·
        refine LM.sp 52 rfl rfl rfl <| LM.mv rfl <| LM.sp 52 rfl rfl rfl ?_
        refine cE Tryz.func32 rfl (fun w hm hc hg => f6 ▸ lkHolds_spec (x := aw5) 7 w h21b (hm.pick mx21)) ?_
        refine LM.val (ov_pickT rfl rfl) <| LM.mv rfl ?_
        first | refine LM.splitD (t := 56) rfl (fun h8 => ?_) (fun h8 => ?_) | refine LM.splitB (t := 56) rfl (fun h8 => ?_) (fun h8 => ?_)
        ·
         refine LM.sp 56 rfl rfl rfl <| LM.mv rfl <| LM.sp 56 rfl rfl rfl ?_
         refine cE Tryz.func33 rfl (fun w hm hc hg => (show vTr aw5.tr = Value.agg #[.int .i64 1, .int .i64 0] by unfold vTr; rw [f7, f8]) ▸ lkTurn_spec (x := aw5) w h21b (hm.pick mx21)) ?_
         refine LM.sp 56 rfl rfl rfl ?_
         refine LM.val (ov_build (cs := #[.int .i64 1, .int .i64 0]) rfl kr) ?_
         refine LM.sp 56 rfl rfl rfl ?_
         refine LM.val (ov_aeql Tryz.underlying64 kr kr (by decide) rfl rfl (by rfl) ⟨(by first | rfl | trivial), (by first | rfl | trivial), trivial⟩) ?_
         refine LM.val (ov_pickT rfl rfl) <| LM.as rfl <| nA [(0, _)] <| wpM.ret ?_
         refine qL Tryz.results6 rfl fun w' hm' hc' hg' => ?_
         exact ⟨rfl, hc'⟩
        cases h8
       exact absurd rfl h7
      exact absurd rfl h6
     exact absurd rfl h5
    cases h4
   exact absurd rfl h3
  exact absurd rfl h2
 exact absurd rfl h1
def doX (x : Lkm) (d : Dsc) : Lkm :=
  if d.k % 9 = 0 then takeX x d.t d.p else if d.k % 9 = 1 then waitX x d.t d.p else if d.k % 9 = 2 then unlX x d.t else if d.k % 9 = 3 then lvX x d.t else if d.k % 9 = 4 then diX x d.t
  else if d.k % 9 = 5 then chgX x d.t else if d.k % 9 = 6 then chgX x d.t else if d.k % 9 = 7 then weiX x d.p d.w else if d.k % 9 = 8 then (if takeE x d.t d.p = 8 then waitX x d.t d.p else takeX x d.t d.p) else x
theorem do_w {x : Lkm} (h : LkW x) (d : Dsc) : LkW (doX x d) := by
  unfold doX
  (repeat' split)
  · exact h.take _ _
  · exact h.wait _ _
  · exact LkW.unl h.toLkV _ h.em
  · exact h.lv _
  · exact h.die _
  · exact h.chg _
  · exact h.chg _
  · exact h.wei _ _
  · exact h.wait _ _
  · exact h.take _ _
  · exact h
theorem do_b {k : Nat} {x : Lkm} (hw : Wd1 x.wt) (h : LkB k x) (d : Dsc) : LkB (k + 1) (doX x d) := by
  unfold doX
  (repeat' split)
  · exact h.take _ _
  · exact h.wait _ _
  · exact (h.unl hw _).mono (Nat.le_succ k)
  · exact (h.lv hw _).mono (Nat.le_succ k)
  · exact (h.die hw _).mono (Nat.le_succ k)
  · exact h.chg _
  · exact h.chg _
  · exact (h.wei _ _).mono (Nat.le_succ k)
  · exact h.wait _ _
  · exact h.take _ _
  · exact h.mono (Nat.le_succ k)
theorem take_sh (x : Lkm) (t p : Int) : (takeX x t p).sh = x.sh := by
  unfold takeX; split
  · rfl
  · show (firstX x p).sh = _; exact (first_core x p).1
theorem wait_sh (x : Lkm) (t p : Int) : (waitX x t p).sh = x.sh := by unfold waitX; split <;> rfl
theorem adm_sh (x : Lkm) (p : Int) (n : Nat) : (admX x p n).sh = x.sh := by rw [admX_form]
theorem pass_sh (x : Lkm) : (passX x).sh = x.sh := by
  unfold passX; split
  · rfl
  · rw [adm_sh]; rfl
theorem unl_sh (x : Lkm) (t : Int) : (unlX x t).sh = x.sh := by
  unfold unlX; split
  · show (if _ then _ else _ : Lkm).sh = _
    split
    · rw [pass_sh]; rfl
    · rfl
  · rfl
theorem lv_sh (x : Lkm) (t : Int) : (lvX x t).sh = x.sh := by
  unfold lvX; split
  · show (if _ then _ else _ : Lkm).sh = _
    split
    · rw [adm_sh]; rfl
    · rfl
  · rfl
theorem die_sh (x : Lkm) (t : Int) : (diX x t).sh = x.sh := by
  unfold diX; split
  · exact lv_sh x t
  · split
    · rw [unl_sh]
    · rfl
theorem chg_sh (x : Lkm) (t : Int) : (chgX x t).sh = x.sh := by unfold chgX; split <;> rfl
theorem wei_sh (x : Lkm) (g w : Int) : (weiX x g w).sh = x.sh := by unfold weiX; split <;> rfl
theorem do_sh (x : Lkm) (d : Dsc) : (doX x d).sh = x.sh := by
  unfold doX
  (repeat' split)
  · exact take_sh _ _ _
  · exact wait_sh _ _ _
  · exact unl_sh _ _
  · exact lv_sh _ _
  · exact die_sh _ _
  · exact chg_sh _ _
  · exact chg_sh _ _
  · exact wei_sh _ _ _
  · exact wait_sh _ _ _
  · exact take_sh _ _ _
  · rfl
def SeenI (ts : List Int) (mm : List (Int × Value)) : Prop := (mm.map (·.1)).Nodup ∧ ∀ p ∈ mm, p.2 = .int .i64 1 ∧ p.1 ∈ ts
theorem aput_mem2 : ∀ {m : List (Int × Value)} {a : Int} {v : Value}, (m.map (·.1)).Nodup → ∀ p ∈ aput m a v, p = (a, v) ∨ (p ∈ m ∧ p.1 ≠ a)
  | [], a, v, _, p, hp => by rw [aput_nil, List.mem_singleton] at hp; exact .inl hp
  | (b, u) :: m, a, v, hn, p, hp => by
    rw [List.map_cons, List.nodup_cons] at hn
    rw [aput_cons] at hp
    by_cases h : a = b
    · rw [if_pos h] at hp
      rcases List.mem_cons.1 hp with q | q
      · exact .inl q
      · exact .inr ⟨List.mem_cons_of_mem _ q, fun e => hn.1 (List.mem_map.2 ⟨p, q, by rw [e, h]⟩)⟩
    · rw [if_neg h] at hp
      rcases List.mem_cons.1 hp with q | q
      · rw [q]; exact .inr ⟨List.mem_cons_self .., fun e => h e.symm⟩
      · rcases aput_mem2 hn.2 p q with z | z
        · exact .inl z
        · exact .inr ⟨List.mem_cons_of_mem _ z.1, z.2⟩
theorem aput_keys2 : ∀ {m : List (Int × Value)} {a : Int} {v : Value}, (m.map (·.1)).Nodup → ((aput m a v).map (·.1)).Nodup
  | [], a, v, _ => by rw [aput_nil]; simp
  | (b, u) :: m, a, v, hn => by
    rw [List.map_cons, List.nodup_cons] at hn
    rw [aput_cons]
    by_cases h : a = b
    · subst h; rw [if_pos rfl, List.map_cons, List.nodup_cons]; exact hn
    · rw [if_neg h, List.map_cons, List.nodup_cons]
      refine ⟨fun q => ?_, aput_keys2 hn.2⟩
      obtain ⟨p, hp, e⟩ := List.mem_map.1 q
      rcases aput_mem2 hn.2 p hp with z | z
      · rw [z] at e; exact h e
      · exact hn.1 (List.mem_map.2 ⟨p, z.1, e⟩)
theorem aget_none : ∀ {m : List (Int × Value)} {a : Int}, (∀ p ∈ m, p.1 ≠ a) → aget m a = none
  | [], a, _ => rfl
  | (b, u) :: m, a, h => by
    have h1 := h (b, u) (List.mem_cons_self ..)
    rw [aget_cons, if_neg (fun q => h1 q.symm)]
    exact aget_none (fun p hp => h p (List.mem_cons_of_mem _ hp))
theorem seen_none {ts : List Int} {mm : List (Int × Value)} {t : Int} (h : SeenI ts mm) (ht : t ∉ ts) : aget mm t = none := aget_none (fun p hp e => ht (by rw [← e]; exact (h.2 p hp).2))
theorem seen_put {ts ts' : List Int} {mm : List (Int × Value)} {t : Int} (h : SeenI ts mm) (e : ts' = ts ++ [t]) : SeenI ts' (aput mm t (.int .i64 1)) := by
  refine ⟨aput_keys2 h.1, fun p hp => ?_⟩
  rw [e]
  rcases aput_mem2 h.1 p hp with q | ⟨q, _⟩
  · rw [q]; exact ⟨rfl, by simp⟩
  · exact ⟨(h.2 p q).1, List.mem_append_left _ (h.2 p q).2⟩
theorem nodup_all {x : Lkm} (h : LkV x) : (x.ho.map (·.t) ++ x.wt.map (·.who)).Nodup := by
  rw [List.nodup_append]
  refine ⟨h.hd, List.pairwise_map.2 h.wd, fun a ha b hb e => ?_⟩
  obtain ⟨g, hg, rfl⟩ := List.mem_map.1 ha
  obtain ⟨w, hw, rfl⟩ := List.mem_map.1 hb
  exact h.dj w hw g hg e.symm
theorem nodup_at : ∀ {l : List Int}, l.Nodup → ∀ {i : Nat} {t : Int}, l[i]? = some t → t ∉ l.take i
  | [], _, i, t, hi => by simp at hi
  | a :: l, h, 0, t, hi => by simp
  | a :: l, h, i + 1, t, hi => by
    rw [List.nodup_cons] at h
    rw [List.take_succ_cons, List.mem_cons]
    rw [List.getElem?_cons_succ] at hi
    intro q
    rcases q with q | q
    · exact h.1 (by rw [← q]; exact List.mem_of_getElem? hi)
    · exact nodup_at h.2 hi q
theorem take_at {l : List Int} {i : Nat} {t : Int} (h : l[i]? = some t) : l.take (i + 1) = l.take i ++ [t] := by rw [List.take_add_one, h]; rfl
def tks (x : Lkm) : List Int := x.ho.map (·.t) ++ x.wt.map (·.who)
theorem tks_ho0 {x : Lkm} {i : Nat} (hi : i < x.ho.length) : (tks x)[i]? = some (x.ho.getD i default).t := by
  unfold tks
  rw [List.getElem?_append_left (by rw [List.length_map]; exact hi), List.getElem?_map, List.getD_eq_getElem?_getD, List.getElem?_eq_getElem hi]; rfl
theorem tks_wt0 {x : Lkm} {k : Nat} (hk : k < x.wt.length) : (tks x)[x.ho.length + k]? = some (x.wt.getD k default).who := by
  unfold tks
  rw [List.getElem?_append_right (by rw [List.length_map]; omega), List.length_map, Nat.add_sub_cancel_left, List.getElem?_map, List.getD_eq_getElem?_getD, List.getElem?_eq_getElem hk]; rfl
theorem do20_spec {n0 T b k : Nat} {x : Lkm} {m : Mem0} (d : Dsc) (w : World) (hT : Tab w) (hn1 : 0 < n0) (h : LkM n0 T b x (x.wt.map (·.who)) m) (hw : LkW x) (hb : LkB k x) (hn0 : n0 ≤ w.heap.size) (hk : k ≤ 900) (hTT : T ≤ 1000) (hd : 0 ≤ d.k ∧ d.k ≤ 255) (hM : Mem w m) : Ret Tryz.prog 8 #[.pointer (some ⟨b, 0, none⟩), .agg (fDs d).toArray] w (Upd m (fun u m' => LkM n0 (T + 1) b (doX x d) ((doX x d).wt.map (·.who)) m') w) := by
 have hS0 : ¬ inM m 0 := (fun ⟨p, hp, e⟩ => by have := h.ge p hp; omega); have hbl := hb.hl; have hbu := hb.tu; have hv := hw.toLkV
 refine Ret.enterM Tryz.func8 rfl Tryz.ntmps8 rfl (m ++ []) ((inM m)) aM ?_
 refine wR ?_
 refine LM.box rfl rfl (fun b3 hb3 => ?_)
 refine nB [(0, _), (3, _)] <| LM.val (ovf 5 rfl rfl rfl rfl) ?_
 refine LM.rd (oml rfl rfl rfl) ?_
 first | refine LM.val (ov_remK rfl rfl om om) ?_ | refine LM.val (ov_remJ rfl rfl om om) ?_
 refine nA [(0, _), (3, _), (6, _)] <| wpM.block <| wR <| LM.val (ov_eql rfl rfl) <| LM.as rfl <| nA [(0, _), (3, _), (6, _), (7, _)] ?_
 refine wpM.condD rfl (fun h1 => ?_) (fun h1 => ?_)
 ·
  refine wpM.region ?_
  refine LM.mv rfl <| LM.val (ovf 3 rfl rfl rfl rfl) ?_
  refine LM.rd (oml rfl rfl rfl) ?_
  refine LM.val (ovf 3 rfl rfl rfl rfl) ?_
  refine LM.rd (oml rfl rfl rfl) ?_
  refine cU Tryz.func11 rfl (fun w hm hc hg => lkTake2 d.t d.p w (hT.keep hc hS0) hn1 h (Nat.le_trans hn0 hc.size) om (hm.pick m)) h.wlk (fun q hq _ => ⟨q, hq, rfl⟩) ?_
  rintro u14 m14 ⟨rfl, h14⟩ hin14
  refine LM.nil (QM.sub (e' := []) trivial ?_)
  refine QM.block_normal ?_
  refine QM.leave (.inr rfl) [] Tryz.results8 rfl ?_
  intro w' hm' hc' hg'
  have e : doX x d = takeX x d.t d.p := (by unfold doX; rw [if_pos om]); rw [e]; exact upd_m (m' := m14) (h14.tmono (Nat.le_succ T)) hm' au1 hc' hin14
 refine wR <| LM.val (ov_eql rfl rfl) <| LM.as rfl <| nA [(0, _), (3, _), (6, _), (15, _)] ?_
 refine wpM.condD rfl (fun h2 => ?_) (fun h2 => ?_)
 ·
  refine wpM.region ?_
  refine LM.mv rfl <| LM.val (ovf 3 rfl rfl rfl rfl) ?_
  refine LM.rd (oml rfl rfl rfl) ?_
  refine LM.val (ovf 3 rfl rfl rfl rfl) ?_
  refine LM.rd (oml rfl rfl rfl) ?_
  refine cU Tryz.func13 rfl (fun w hm hc hg => lkWait_spec d.t d.p w (hT.keep hc hS0) hn1 h (Nat.le_trans hn0 hc.size) om (hm.pick m)) h.wlk (fun q hq _ => ⟨q, hq, rfl⟩) ?_
  rintro u22 m22 ⟨rfl, h22⟩ hin22
  refine LM.nil (QM.sub (e' := []) trivial ?_)
  refine QM.block_normal ?_
  refine QM.leave (.inr rfl) [] Tryz.results8 rfl ?_
  intro w' hm' hc' hg'
  have e : doX x d = waitX x d.t d.p := (by unfold doX; rw [if_neg om, if_pos om]); rw [e]; exact upd_m (m' := m22) h22 hm' au1 hc' hin22
 refine wR <| LM.val (ov_eql rfl rfl) <| LM.as rfl <| nA [(0, _), (3, _), (6, _), (23, _)] ?_
 refine wpM.condD rfl (fun h3 => ?_) (fun h3 => ?_)
 ·
  refine wpM.region ?_
  refine LM.mv rfl <| LM.val (ovf 3 rfl rfl rfl rfl) ?_
  refine LM.rd (oml rfl rfl rfl) ?_
  refine cU Tryz.func15 rfl (fun w hm hc hg => lkUnl_spec d.t w (hT.keep hc hS0) hn1 h hv.hws (Nat.le_trans hn0 hc.size) om hc.size (hm.pick m)) h.wlk (fun q hq _ => ⟨q, hq, rfl⟩) ?_
  rintro u28 m28 ⟨v28, mr28, mx28, rfl, hr28, rfl, h28⟩ hin28; refine LM.assoc ?_
  refine LM.nil (QM.sub (e' := []) trivial ?_)
  refine QM.block_normal ?_
  refine QM.leave (.inr rfl) [] Tryz.results8 rfl ?_
  intro w' hm' hc' hg'
  have e : doX x d = unlX x d.t := (by unfold doX; rw [if_neg om, if_neg om, if_pos om]); rw [e]; exact upd_m (m' := mx28) (h28.tmono (Nat.le_succ T)) hm' au1 hc' (fun p hp => hin28 p (List.mem_append_right _ hp))
 refine wR <| LM.val (ov_eql rfl rfl) <| LM.as rfl <| nA [(0, _), (3, _), (6, _), (29, _)] ?_
 refine wpM.condD rfl (fun h4 => ?_) (fun h4 => ?_)
 ·
  refine wpM.region ?_
  refine LM.mv rfl <| LM.val (ovf 3 rfl rfl rfl rfl) ?_
  refine LM.rd (oml rfl rfl rfl) ?_
  refine cU Tryz.func18 rfl (fun w hm hc hg => lkLv_spec d.t w (hT.keep hc hS0) hn1 h (Nat.le_trans hn0 hc.size) om hc.size (hm.pick m)) h.wlk (fun q hq _ => ⟨q, hq, rfl⟩) ?_
  rintro u34 m34 ⟨v34, mr34, mx34, rfl, hr34, rfl, h34⟩ hin34; refine LM.assoc ?_
  refine LM.nil (QM.sub (e' := []) trivial ?_)
  refine QM.block_normal ?_
  refine QM.leave (.inr rfl) [] Tryz.results8 rfl ?_
  intro w' hm' hc' hg'
  have e : doX x d = lvX x d.t := (by unfold doX; rw [if_neg om, if_neg om, if_neg om, if_pos om]); rw [e]; exact upd_m (m' := mx34) (h34.tmono (Nat.le_succ T)) hm' au1 hc' (fun p hp => hin34 p (List.mem_append_right _ hp))
 refine wR <| LM.val (ov_eql rfl rfl) <| LM.as rfl <| nA [(0, _), (3, _), (6, _), (35, _)] ?_
 refine wpM.condD rfl (fun h5 => ?_) (fun h5 => ?_)
 ·
  refine wpM.region ?_
  refine LM.mv rfl <| LM.val (ovf 3 rfl rfl rfl rfl) ?_
  refine LM.rd (oml rfl rfl rfl) ?_
  refine cU Tryz.func20 rfl (fun w hm hc hg => lkDie_spec d.t w (hT.keep hc hS0) hn1 h hv.hws (Nat.le_trans hn0 hc.size) om hc.size (hm.pick m)) h.wlk (fun q hq _ => ⟨q, hq, rfl⟩) ?_
  rintro u40 m40 ⟨v40, mr40, mx40, rfl, hr40, rfl, h40⟩ hin40; refine LM.assoc ?_
  refine LM.nil (QM.sub (e' := []) trivial ?_)
  refine QM.block_normal ?_
  refine QM.leave (.inr rfl) [] Tryz.results8 rfl ?_
  intro w' hm' hc' hg'
  have e : doX x d = diX x d.t := (by unfold doX; rw [if_neg om, if_neg om, if_neg om, if_neg om, if_pos om]); rw [e]; exact upd_m (m' := mx40) (h40.tmono (Nat.le_succ T)) hm' au1 hc' (fun p hp => hin40 p (List.mem_append_right _ hp))
 refine wpM.seq <| wR <| LM.val (ov_eql rfl rfl) <| LM.as rfl <| nA [(0, _), (3, _), (6, _), (41, _)] ?_
 refine wpM.condD rfl (fun h6 => ?_) (fun h6 => ?_)
 ·
  refine wpM.skip <| QM.then ?_
  refine wpM.condD rfl (fun h7 => ?_) (fun h7 => ?_)
  ·
   refine wpM.region ?_
   refine LM.mv rfl <| LM.val (ovf 3 rfl rfl rfl rfl) ?_
   refine LM.rd (oml rfl rfl rfl) ?_
   refine cU Tryz.func22 rfl (fun w hm hc hg => lkChg_spec d.t w (hT.keep hc hS0) hn1 h (Nat.le_trans hn0 hc.size) hv.hk (fun p hp => by have := hb.hh p hp; omega) om (hm.pick m)) h.wlk (fun q hq _ => ⟨q, hq, rfl⟩) ?_
   rintro u47 m47 ⟨rfl, h47⟩ hin47
   refine LM.nil (QM.sub (e' := []) trivial ?_)
   refine QM.block_normal ?_
   refine QM.leave (.inr rfl) [] Tryz.results8 rfl ?_
   intro w' hm' hc' hg'
   have e : doX x d = chgX x d.t := (by unfold doX; rw [if_neg om, if_neg om, if_neg om, if_neg om, if_neg om, if_pos om]); rw [e]; exact upd_m (m' := m47) (h47.tmono (Nat.le_succ T)) hm' au1 hc' hin47
  exact absurd h6 h7
 refine wpM.region ?_
 refine LM.val (ov_eql rfl rfl) <| LM.as rfl <| nA [(0, _), (3, _), (6, _), (41, _)] ?_
 refine wpM.condD rfl (fun h8 => ?_) (fun h8 => ?_)
 ·
  refine wpM.region ?_
  refine LM.mv rfl <| LM.val (ovf 3 rfl rfl rfl rfl) ?_
  refine LM.rd (oml rfl rfl rfl) ?_
  refine cU Tryz.func22 rfl (fun w hm hc hg => lkChg_spec d.t w (hT.keep hc hS0) hn1 h (Nat.le_trans hn0 hc.size) hv.hk (fun p hp => by have := hb.hh p hp; omega) om (hm.pick m)) h.wlk (fun q hq _ => ⟨q, hq, rfl⟩) ?_
  rintro u47 m47 ⟨rfl, h47⟩ hin47
  refine LM.nil (QM.sub (e' := []) trivial ?_)
  refine QM.block_normal ?_
  refine QM.leave (.inr rfl) [] Tryz.results8 rfl ?_
  intro w' hm' hc' hg'
  have e : doX x d = chgX x d.t := (by unfold doX; rw [if_neg om, if_neg om, if_neg om, if_neg om, if_neg om, if_neg om, if_pos om]); rw [e]; exact upd_m (m' := m47) (h47.tmono (Nat.le_succ T)) hm' au1 hc' hin47
 refine wR <| LM.val (ov_eql rfl rfl) <| LM.as rfl <| nA [(0, _), (3, _), (6, _), (48, _)] ?_
 refine wpM.condD rfl (fun h9 => ?_) (fun h9 => ?_)
 ·
  refine wpM.region ?_
  refine LM.mv rfl <| LM.val (ovf 3 rfl rfl rfl rfl) ?_
  refine LM.rd (oml rfl rfl rfl) ?_
  refine LM.val (ovf 3 rfl rfl rfl rfl) ?_
  refine LM.rd (oml rfl rfl rfl) ?_
  refine cU Tryz.func24 rfl (fun w hm hc hg => lkWei_spec d.p d.w w (hT.keep hc hS0) hn1 h (Nat.le_trans hn0 hc.size) (hm.pick m)) h.wlk (fun q hq _ => ⟨q, hq, rfl⟩) ?_
  rintro u55 m55 ⟨rfl, h55⟩ hin55
  refine LM.nil (QM.sub (e' := []) trivial ?_)
  refine QM.block_normal ?_
  refine QM.leave (.inr rfl) [] Tryz.results8 rfl ?_
  intro w' hm' hc' hg'
  have e : doX x d = weiX x d.p d.w := (by unfold doX; rw [if_neg om, if_neg om, if_neg om, if_neg om, if_neg om, if_neg om, if_neg om, if_pos om]); rw [e]; exact upd_m (m' := m55) (h55.tmono (Nat.le_succ T)) hm' au1 hc' hin55
 refine wR <| LM.val (ov_eql rfl rfl) <| LM.as rfl <| nA [(0, _), (3, _), (56, _)] ?_
 refine wpM.condD rfl (fun h10 => ?_) (fun h10 => ?_)
 ·
  refine wR <| LM.mv rfl <| LM.val (ovf 3 rfl rfl rfl rfl) ?_
  refine LM.rd (oml rfl rfl rfl) ?_
  refine LM.val (ovf 3 rfl rfl rfl rfl) ?_
  refine LM.rd (oml rfl rfl rfl) ?_
  refine cU Tryz.func11 rfl (fun w hm hc hg => lkTake2 d.t d.p w (hT.keep hc hS0) hn1 h (Nat.le_trans hn0 hc.size) om (hm.pick m)) h.wlk (fun q hq _ => ⟨q, hq, rfl⟩) ?_
  rintro u63 m63 ⟨rfl, h63⟩ hin63
  refine LM.val (ov_eql rfl rfl) <| nA [(0, _), (3, _), (64, _)] ?_
  refine wpM.condD rfl (fun h11 => ?_) (fun h11 => ?_)
  ·
   have hE : takeE x d.t d.p = 8 := h11; have h63b : LkM n0 T b x (x.wt.map (·.who)) m63 := (by have e : takeX x d.t d.p = x := if_pos (by rw [hE]; decide); rw [e] at h63; exact h63)
   refine wpM.region ?_
   refine LM.mv rfl <| LM.val (ovf 3 rfl rfl rfl rfl) ?_
   refine LM.rd (oml rfl rfl rfl) ?_
   refine LM.val (ovf 3 rfl rfl rfl rfl) ?_
   refine LM.rd (oml rfl rfl rfl) ?_
   refine cU Tryz.func13 rfl (fun w hm hc hg => lkWait_spec d.t d.p w (hT.keep hc hS0) hn1 h63b (Nat.le_trans hn0 hc.size) om (hm.pick m63)) h63.wlk (inM_inn hin63) ?_
   rintro u70 m70 ⟨rfl, h70⟩ hin70
   refine LM.nil (QM.sub (e' := []) trivial ?_)
   refine QM.block_normal ?_
   refine QM.leave (.inr rfl) [] Tryz.results8 rfl ?_
   intro w' hm' hc' hg'
   have e : doX x d = waitX x d.t d.p := (by unfold doX; rw [if_neg om, if_neg om, if_neg om, if_neg om, if_neg om, if_neg om, if_neg om, if_neg om, if_pos om, if_pos hE]); rw [e]; exact upd_m (m' := m70) h70 hm' au1 hc' (inn_trans hin63 hin70)
  refine wpM.skip <| QM.block_normal ?_
  refine QM.leave (.inr rfl) [] Tryz.results8 rfl ?_
  intro w' hm' hc' hg'
  have e : doX x d = takeX x d.t d.p := (by unfold doX; rw [if_neg om, if_neg om, if_neg om, if_neg om, if_neg om, if_neg om, if_neg om, if_neg om, if_pos om, if_neg h11]); rw [e]; exact upd_m (m' := m63) (h63.tmono (Nat.le_succ T)) hm' au1 hc' hin63
 refine wpM.skip <| QM.block_normal ?_
 refine QM.leave (.inr rfl) [] Tryz.results8 rfl ?_
 intro w' hm' hc' hg'
 have e : doX x d = x := (by unfold doX; rw [if_neg om, if_neg om, if_neg om, if_neg om, if_neg om, if_neg om, if_neg om, if_neg om, if_neg om]); rw [e]; exact upd_m (m' := m) (h.tmono (Nat.le_succ T)) hm' au1 hc' (inn_refl _ _)
theorem safe20_spec {n0 T b : Nat} {x : Lkm} {m : Mem0} (w : World) (h : LkM n0 T b x (x.wt.map (·.who)) m) (hw : LkW x) (hx : x.ho.length ≤ 900) (hM : Mem w m) : Ret Tryz.prog 9 #[.pointer (some ⟨b, 0, none⟩), .bool x.sh] w (fun v w' => v = .bool true ∧ Ext w w') := by
 have hv := hw.toLkV; have hw8 := hv.w8
 refine Ret.enterM Tryz.func9 rfl Tryz.ntmps9 rfl (m ++ []) (no) aM ?_
 refine wR <| LM.as rfl <| nB [(0, _), (1, _)] <| LM.mv rfl ?_
 refine LM.cS (oc_call (enters_fn Tryz.func29 kr rfl) rfl) (fun w hm hc hg => lkHdrs_spec w h om (hm.pick m)) (fun ad14 n14 cap14 m14 hn14 hs14 => ?_)
 refine LM.as rfl <| nB [(0, _), (1, _), (5, _)] ?_
 refine LM.makeMap rfl (fun b15 hb15 => ?_)
 refine LM.alloc Tryz.zeroValue72 rfl (fun b6 hb6 => ?_)
 refine LM.st Tryz.sizeOf72 rfl rfl rfl au5 rfl au8 ?_
 refine nA [(0, _), (1, _), (5, _), (6, _)] <| wpM.seq <| wR <| LM.mv rfl <| LM.val (ov_len Tryz.underlying56 rfl) <| LM.mv rfl <| nA [(0, _), (1, _), (5, _), (6, _), (16, _), (17, _), (18, _)] <| wpM.block ?_
 refine wpM.loopK0 (α := Nat × Array MapEntry × Nat × List (Int × Value)) (fun ⟨i, es, cl, mm⟩ => [(18, .int .i64 (i : Nat))]) [(0, _), (1, _), (5, _), (6, _), (16, _), (17, _)] (fun ⟨i, es, cl, mm⟩ => m14 ++ ((b6, .cells #[.map (some b15)] 72 (0, 0)) :: (b15, .map es cl) :: (m ++ []))) (fun ⟨i, es, cl, mm⟩ => i ≤ x.ho.length ∧ EnsS .i64 es cl mm ∧ SeenI ((tks x).take i) mm) (fun ⟨i, es, cl, mm⟩ => x.ho.length - i) ((0, #[], 0, [])) ⟨au2, rfl, rfl, rfl, rfl, rfl, rfl, trivial⟩ au1 ⟨Nat.zero_le _, ensS_nil _, List.nodup_nil, fun p hp => (by cases hp)⟩ ?_
 rintro ⟨i, es, cl, mm⟩ ⟨hi, hes, hse⟩
 change wpM _ _ _ _ _ _ _ (m14 ++ ((b6, .cells #[.map (some b15)] 72 (0, 0)) :: (b15, .map es cl) :: (m ++ []))) _ _ _
 refine wR <| LM.val (ov_lss rfl rfl) <| nA [(0, _), (1, _), (5, _), (6, _), (16, _), (17, _), (18, _), (19, _)] <| wpM.seq ?_
 refine wpM.condD rfl (fun h1 => ?_) (fun h1 => ?_)
 ·
  have hil : i < x.ho.length := om; have hens := hes.1; have hno : aget mm (x.ho.getD i default).t = none := seen_none hse (nodup_at (nodup_all hv) (tks_ho0 hil))
  refine wpM.skip <| QM.then <| wpM.seq <| wpM.block <| wR ?_
  refine LM.val (ov_idxSN au6 Tryz.underlying56 Tryz.sizeOf59 rfl rfl om) ?_
  refine LM.rd (om_slA asm ir Tryz.isAgg59 Tryz.sizeOf59 rfl au3) ?_
  refine LM.alloc Tryz.zeroValue59 rfl (fun b8 hb8 => ?_)
  refine LM.stW Tryz.sizeOf59 rfl rfl rfl rfl au7 au8 ?_
  refine nA [(0, _), (1, _), (5, _), (6, _), (8, _), (16, _), (17, _), (18, _)] <| wpM.seq <| wR <| LM.mv rfl <| LM.val (ov_len Tryz.underlying56 rfl) <| LM.val (ov_gtr rfl rfl) <| LM.mv rfl ?_
  refine LM.splitD (t := 25) rfl (fun h2 => ?_) (fun h2 => ?_)
  ·
   refine LM.sp 25 rfl rfl rfl <| LM.mv rfl <| LM.sp 25 rfl rfl rfl ?_
   first | refine LM.val (ov_notD rfl) ?_ | refine LM.val (ov_not rfl) ?_
   refine LM.sp 25 rfl rfl rfl <| LM.mv rfl ?_
   first | refine LM.splitD (t := 28) rfl (fun h3 => ?_) (fun h3 => ?_) | refine LM.splitB (t := 28) rfl (fun h3 => ?_) (fun h3 => ?_)
   ·
    exfalso; have hs : x.sh = false := (by simpa using h3); have := hv.ex hs; omega
   refine LM.sp 28 rfl rfl rfl <| LM.val (ovf 3 rfl rfl rfl rfl) <| LM.sp 28 rfl rfl rfl ?_
   refine LM.rd (oml rfl rfl rfl) ?_
   refine LM.sp 28 rfl rfl rfl <| LM.val (ov_neq rfl rfl) <| LM.sp 25 rfl rfl rfl <| LM.val (ov_pickF rfl rfl) <| LM.val (ov_pickT rfl rfl) <| nA [(0, _), (1, _), (5, _), (6, _), (8, _), (16, _), (17, _), (18, _), (33, _)] ?_
   refine wpM.condD rfl (fun h4 => ?_) (fun h4 => ?_)
   ·
    exfalso; have hs : x.sh = true := (by simpa using h3); rcases hv.rd hs with q | q; exact absurd (q _ (by rw [List.getD_eq_getElem?_getD, List.getElem?_eq_getElem hil]; exact List.getElem_mem hil)) h4; omega
   refine wpM.skip ?_
   refine QM.then (wpM.region ?_)
   refine LM.rd (oml rfl rfl rfl) ?_
   refine LM.val (ovf 3 rfl rfl rfl rfl) ?_
   refine LM.rd (oml rfl rfl rfl) ?_
   refine LM.rd (om_lk Tryz.underlying72 Tryz.underlying3 Tryz.zeroValue3 rfl rfl asm rfl) ?_
   rw [hno]
   refine LM.val (ov_add64 rfl rfl om) ?_
   refine LM.mUS Tryz.underlying72 Tryz.underlying3 rfl rfl rfl asm au8 (fun esu1 clu1 hesu1 => ?_)
   refine nC [(0, _), (1, _), (5, _), (6, _), (16, _), (17, _), (18, _)] <| QM.block_normal ?_
   refine QM.then (wpM.region ?_)
   refine LM.val (ov_add64 rfl rfl om) ?_
   refine LM.mv rfl <| nC [(0, _), (1, _), (5, _), (6, _), (16, _), (17, _), (18, _)] ?_
   refine QM.againK (i + 1, esu1, clu1, aput mm (x.ho.getD i default).t (.int .i64 1)) ⟨au2, rfl, rfl, rfl, rfl, rfl, rfl, trivial⟩ au1 (fun _ h => h) ?_ ?_
   · exact ⟨by omega, hesu1, seen_put hse (take_at (tks_ho0 hil))⟩
   · first | omega | (dsimp only; omega)
  refine LM.dr 25 rfl rfl rfl <| LM.dr 25 rfl rfl rfl ?_
  refine LM.dropU (t := 25) rfl rfl rfl ?_
  refine LM.dropX (t := 28) rfl rfl ?_
  refine LM.dropX (t := 28) rfl rfl ?_
  refine LM.dropX (t := 28) rfl rfl ?_
  refine LM.dr 25 rfl rfl rfl <| LM.val (ov_pickF rfl rfl) <| nA [(0, _), (1, _), (5, _), (6, _), (8, _), (16, _), (17, _), (18, _), (33, _)] ?_
  refine wpM.condF rfl ?_
  refine wpM.skip ?_
  refine QM.then (wpM.region ?_)
  refine LM.rd (oml rfl rfl rfl) ?_
  refine LM.val (ovf 3 rfl rfl rfl rfl) ?_
  refine LM.rd (oml rfl rfl rfl) ?_
  refine LM.rd (om_lk Tryz.underlying72 Tryz.underlying3 Tryz.zeroValue3 rfl rfl asm rfl) ?_
  rw [hno]
  refine LM.val (ov_add64 rfl rfl om) ?_
  refine LM.mUS Tryz.underlying72 Tryz.underlying3 rfl rfl rfl asm au8 (fun esu1 clu1 hesu1 => ?_)
  refine nC [(0, _), (1, _), (5, _), (6, _), (16, _), (17, _), (18, _)] <| QM.block_normal ?_
  refine QM.then (wpM.region ?_)
  refine LM.val (ov_add64 rfl rfl om) ?_
  refine LM.mv rfl <| nC [(0, _), (1, _), (5, _), (6, _), (16, _), (17, _), (18, _)] ?_
  refine QM.againK (i + 1, esu1, clu1, aput mm (x.ho.getD i default).t (.int .i64 1)) ⟨au2, rfl, rfl, rfl, rfl, rfl, rfl, trivial⟩ au1 (fun _ h => h) ?_ ?_
  · exact ⟨by omega, hesu1, seen_put hse (take_at (tks_ho0 hil))⟩
  · first | omega | (dsimp only; omega)
 refine wpM.exit <| QM.then_exit <| QM.then_exit <| QM.block_hit <| tR ?_
 refine LM.alloc Tryz.zeroValue3 rfl (fun b9 hb9 => ?_)
 refine LM.st Tryz.sizeOf3 rfl rfl rfl au5 rfl au8 ?_
 refine nA [(0, _), (5, _), (6, _), (9, _)] <| wpM.seq <| wR <| LM.mv rfl ?_
 refine LM.callT (oc_call (enters_fn Tryz.func36 kr rfl) rfl) WtrT.mono (fun w hm hc hg => lkWtr_spec (some ⟨b, 0, none⟩) w) ?_
 rintro u41 m41 ⟨c1, rfl, rfl, hc1⟩ -
 refine nA [(5, _), (6, _), (9, _), (41, _)] <| wpM.block ?_
 refine wpM.toRange (α := Array MapEntry × Nat × List (Int × Value)) (fun k ⟨es, cl, mm⟩ => lF c1 (some ⟨b, 0, none⟩) :: niB b9 (k : Nat) :: (b6, .cells #[.map (some b15)] 72 (0, 0)) :: (b15, .map es cl) :: (m14 ++ (m ++ []))) ((es, cl, mm)) au1 ?_
 refine wpM.rangeP (α := Array MapEntry × Nat × List (Int × Value)) (β := Unit) (enters_fn Tryz.func84 kr rfl) rfl (lkWtr_seq (c1 := c1) h) (fun k ⟨es, cl, mm⟩ Mp => lF c1 (some ⟨b, 0, none⟩) :: niB b9 (k : Nat) :: (b6, .cells #[.map (some b15)] 72 (0, 0)) :: (b15, .map es cl) :: (m14 ++ (m ++ (Mp ++ [])))) (by rintro k ⟨es, cl, mm⟩ Mp; first | rfl | simp) (fun _ _ => top) (fun k ⟨es, cl, mm⟩ => EnsS .i64 es cl mm ∧ SeenI ((tks x).take (x.ho.length + k)) mm) (fun ⟨⟩ => []) (fun _ => top) (fun c ⟨⟩ => False) (es, cl, mm) rfl (fun _ h => h) ⟨hes, by rw [show i = x.ho.length by omega] at hse; exact hse⟩ kr (by intro k av hav; obtain ⟨_, rfl⟩ := wtA_inv hav; rfl) (.inl trivial) (fun k a w hm hc hg _ => hm.pick (lF c1 (some ⟨b, 0, none⟩) :: m)) (fun _ _ _ _ => gl_top _) (fun _ _ _ => gl_top _) (fun k x hx => mm_cons rfl (mm_cons rfl (mm_cons rfl (mm_cons rfl (mm_app hs14.wlk (mm_app h.wlk mm_nil)))))) (fun c z _ => by ((repeat (refine mm_cons rfl ?_)); exact fun p hp => .inl (by first | exact hp | (simp at hp; done) | (simp [hp]; done) | (simp at hp ⊢; first | exact .inl hp | exact hp | (simp [hp]; done))))) ?_ ?_ ?_ ?_
 ·
  rintro k av ⟨es, cl, mm⟩ l D rc n1 W1 Mp hD hll hput hrc hav ⟨hes, hse⟩
  change wpM _ _ _ _ _ _ _ ((l, Obj.loop rc) :: ([(D, Obj.deferred (some []))] ++ (lF c1 (some ⟨b, 0, none⟩) :: niB b9 (k : Nat) :: (b6, .cells #[.map (some b15)] 72 (0, 0)) :: (b15, .map es cl) :: (m14 ++ (m ++ (Mp ++ [])))))) _ _ _
  obtain ⟨hkl, rfl⟩ := wtA_inv hav; have hens := hes.1; have hno : aget mm (x.wt.getD k default).who = none := seen_none hse (nodup_at (nodup_all hv) (tks_wt0 hkl))
  refine wpM.region ?_
  refine LM.as rfl <| nC [(6, _), (9, _), (10, _)] ?_
  refine QM.toBodyF (hput k ⟨es, cl, mm⟩) hll ?_
  refine wpM.block <| wR ?_
  refine LM.rd (oml rfl rfl rfl) ?_
  refine LM.mv rfl ?_
  refine LM.rd (om_lk Tryz.underlying72 Tryz.underlying3 Tryz.zeroValue3 rfl rfl asm rfl) ?_
  rw [hno]
  refine LM.val (ov_add64 rfl rfl om) ?_
  refine LM.mUS Tryz.underlying72 Tryz.underlying3 rfl rfl rfl asm au8 (fun esu1 clu1 hesu1 => ?_)
  refine LM.nil (QM.sub (e' := [(9, _)]) ⟨rfl, trivial⟩ (QM.then (wpM.region ?_)))
  refine LM.rd (oml rfl rfl rfl) ?_
  refine LM.val (ov_add64 rfl rfl om) ?_
  refine LM.st Tryz.sizeOf3 rfl rfl rfl au5 rfl au8 ?_
  refine LM.nil (QM.sub (e' := []) trivial ?_)
  refine QM.block_normal ?_
  refine QM.next (esu1, clu1, aput mm (x.wt.getD k default).who (.int .i64 1)) (SubM.mem au1) (fun _ h => h) ?_
  · exact ⟨hesu1, seen_put hse (take_at (tks_wt0 hkl))⟩
 ·
  rintro ⟨es, cl, mm⟩ D0 hD0 ⟨hes, hse⟩
  dsimp only
  rw [wtA_len]
  refine QM.sub (e' := [(5, _), (6, _), (9, _)]) au9 ?_
  refine QM.block_normal <| QM.then <| wpM.seq <| wR ?_
  refine LM.rd (oml rfl rfl rfl) ?_
  refine LM.mRange Tryz.underlying72 rfl rfl (fun b51 hb51 => ?_)
  refine nA [(5, _), (9, _), (51, _)] <| wpM.block ?_
  refine wpM.loopK0 (α := Array Nat) (fun seen => []) [(5, _), (9, _), (51, _)] (fun seen => (D0, Obj.deferred (some [])) :: (b51, .mapIter (some b15) cl seen cl) :: niB b9 (x.wt.length : Nat) :: (b6, .cells #[.map (some b15)] 72 (0, 0)) :: (b15, .map es cl) :: []) (fun seen => True) (fun seen => (leftOf es seen).size) (#[]) ⟨rfl, rfl, rfl, trivial⟩ au1 trivial ?_
  rintro seen -
  change wpM _ _ _ _ _ _ _ ((D0, Obj.deferred (some [])) :: (b51, .mapIter (some b15) cl seen cl) :: niB b9 (x.wt.length : Nat) :: (b6, .cells #[.map (some b15)] 72 (0, 0)) :: (b15, .map es cl) :: []) _ _ _
  refine wR ?_
  refine LM.mNext rfl (fun p hp => hes.2.1 p hp) (Nat.le_refl _) au8 rfl (fun o ho => ?_)
  refine LM.val (ov_extract rfl (nxA_0 o)) ?_
  refine nA [(5, _), (9, _), (51, _), (53, _)] <| wpM.seq ?_
  first | refine wpM.condD rfl (fun h5 => ?_) (fun h5 => ?_) | refine wpM.condB rfl (fun h5 => ?_) (fun h5 => ?_)
  ·
   obtain ⟨p, rfl⟩ := Option.isSome_iff_exists.1 h5; rw [show nxS seen (some p) = seen.push p.born from rfl]; have hp := (mem_left (ho p rfl)).1; obtain ⟨q, hq1, hq2, hq3⟩ := ens_key hes.1 hp; have hq4 := (hse.2 q hq1).1
   refine wpM.skip <| QM.then <| wpM.block <| wR ?_
   refine LM.rd (om_entry rfl hp hes.2.2.1 hq2 (hq3.trans hq4)) ?_
   refine LM.val (ov_extract rfl rfl) <| LM.as rfl <| nB [(5, _), (9, _), (12, _), (51, _)] <| LM.mv rfl <| LM.val (ov_neq rfl rfl) <| nA [(5, _), (9, _), (51, _), (57, _)] ?_
   refine wpM.condD rfl (fun h6 => ?_) (fun h6 => ?_)
   ·
    exact absurd rfl h6
   refine wpM.skip <| QM.block_normal ?_
   refine QM.againK (seen.push p.born) ⟨rfl, rfl, rfl, trivial⟩ au1 (fun _ h => h) ?_ ?_
   · trivial
   · exact left_shrinks es seen p (ho p rfl)
  refine wpM.exit <| QM.then_exit <| QM.then_exit <| QM.block_hit <| tR ?_
  refine LM.rd (oml rfl rfl rfl) ?_
  refine LM.val (ov_leq rfl rfl) <| LM.mv rfl ?_
  refine LM.splitD (t := 60) rfl (fun h7 => ?_) (fun h7 => ?_)
  ·
   refine LM.sp 60 rfl rfl rfl <| LM.mv rfl <| LM.sp 60 rfl rfl rfl <| LM.val (ov_len Tryz.underlying56 rfl) <| LM.sp 60 rfl rfl rfl <| LM.val (ov_gtr rfl rfl) <| LM.sp 60 rfl rfl rfl <| LM.mv rfl ?_
   refine LM.splitD (t := 64) rfl (fun h8 => ?_) (fun h8 => ?_)
   ·
    refine LM.dr 64 rfl rfl rfl <| LM.dr 64 rfl rfl rfl <| LM.sp 60 rfl rfl rfl <| LM.val (ov_pickT rfl rfl) <| LM.val (ov_pickT rfl rfl) <| LM.as rfl <| nA [(4, _)] <| wpM.ret ?_
    refine QM.leaveDF (ds := [D0]) (.inl rfl) [.tmp 4] Tryz.results9 rfl (fun D h => by simp only [List.mem_cons, List.not_mem_nil, or_false] at h; omega) ?_
    intro w' hm' hc'
    exact ⟨rfl, hc'⟩
   refine LM.sp 64 rfl rfl rfl ?_
   refine LM.rd (oml rfl rfl rfl) ?_
   refine LM.sp 64 rfl rfl rfl <| LM.val (ov_eql rfl rfl) <| LM.sp 60 rfl rfl rfl <| LM.val (ov_pickF rfl rfl) <| LM.val (ov_pickT rfl rfl) <| LM.as rfl <| nA [(4, _)] <| wpM.ret ?_
   refine QM.leaveDF (ds := [D0]) (.inl rfl) [.tmp 4] Tryz.results9 rfl (fun D h => by simp only [List.mem_cons, List.not_mem_nil, or_false] at h; omega) ?_
   intro w' hm' hc'
   have hz := hw.em om; exact ⟨congrArg Value.bool (decide_eq_true om), hc'⟩
  exfalso; omega
 ·
  rintro ⟨⟩ D0 hD0 hx
  exact hx.elim
 rintro id ⟨⟩ D0 hD0 hx
 exact hx.elim
theorem sclockSafe {gs : List Int} {l : List Dsc} {ad ad2 : Option Addr} {n cap n2 cap2 : Nat} (d : LDf) (w : World) (hT : Tab w) (hn : n = gs.length) (hgs : Sr fI 1 gs (.slice ad n cap) w) (hn2 : n2 = l.length) (hl : Sr fDs 4 l (.slice ad2 n2 cap2) w) (hk : ∀ d ∈ l, 0 ≤ d.k ∧ d.k ≤ 255) : Ret Tryz.prog 3 #[.agg (fLd d).toArray, .slice ad n cap, .slice ad2 n2 cap2] w (fun v w' => v = .bool true ∧ Ext w w') := by
 have hn1 := hT.pos
 refine Ret.enterM Tryz.func3 rfl Tryz.ntmps3 rfl ([]) (no) (Mem.nil w) ?_
 refine wR ?_
 refine LM.box rfl rfl (fun b3 hb3 => ?_)
 refine LM.as rfl <| nA [(1, _), (2, _), (3, _)] <| wpM.seq <| wR ?_
 refine cE Tryz.func6 rfl (fun w hm hc hg => awake20_spec w (hT.ext hc)) ?_
 first | refine LM.val (ov_notD rfl) ?_ | refine LM.val (ov_not rfl) ?_
 refine nA [(1, _), (2, _), (3, _), (11, _)] ?_
 first | refine wpM.condD rfl (fun h1 => ?_) (fun h1 => ?_) | refine wpM.condB rfl (fun h1 => ?_) (fun h1 => ?_)
 ·
  cases h1
 refine wpM.skip <| QM.then <| wpM.seq <| wR <| LM.mv rfl <| LM.val (ov_len Tryz.underlying24 rfl) <| LM.val (ov_gtr rfl rfl) <| LM.mv rfl ?_
 refine LM.splitD (t := 15) rfl (fun h2 => ?_) (fun h2 => ?_)
 ·
  refine LM.dr 15 rfl rfl rfl <| LM.dr 15 rfl rfl rfl <| LM.dr 15 rfl rfl rfl <| LM.val (ov_pickT rfl rfl) <| nA [(1, _), (2, _), (3, _), (19, _)] ?_
  refine wpM.condT rfl ?_
  refine wR <| LM.as rfl <| nA [(6, _)] <| wpM.ret <| QM.then_ret ?_
  refine qL Tryz.results3 rfl fun w' hm' hc' hg' => ?_
  exact ⟨rfl, hc'⟩
 refine LM.sp 15 rfl rfl rfl <| LM.mv rfl <| LM.sp 15 rfl rfl rfl <| LM.val (ov_len Tryz.underlying25 rfl) <| LM.sp 15 rfl rfl rfl <| LM.val (ov_gtr rfl rfl) <| LM.val (ov_pickF rfl rfl) <| nA [(1, _), (2, _), (3, _), (19, _)] ?_
 refine wpM.condD rfl (fun h3 => ?_) (fun h3 => ?_)
 ·
  refine wR <| LM.as rfl <| nA [(6, _)] <| wpM.ret <| QM.then_ret ?_
  refine qL Tryz.results3 rfl fun w' hm' hc' hg' => ?_
  exact ⟨rfl, hc'⟩
 refine wpM.skip <| tR ?_
 refine LM.rd (om_ldW Tryz.isAgg23 Tryz.sizeOf23 rfl rfl) ?_
 refine LM.mv rfl ?_
 refine LM.callT (oc_call (enters_fn Tryz.func7 kr rfl) rfl) LkNew.mono (fun w hm hc hg => lknew_spec d w hn (hgs.ext hc)) ?_
 rintro u22 m22 ⟨bq, rfl, h22⟩ hge22
 refine LM.as rfl <| nA [(2, _), (3, _), (7, _)] <| wpM.seq <| wR <| LM.mv rfl <| LM.val (ov_len Tryz.underlying25 rfl) <| LM.mv rfl <| nA [(3, _), (7, _), (23, _), (24, _), (25, _)] <| wpM.block ?_
 refine wpM.loopK0 (α := Nat × Lkm × Mem0) (fun ⟨i, x, mq⟩ => [(25, .int .i64 (i : Nat))]) [(3, _), (7, _), (23, _), (24, _)] (fun ⟨i, x, mq⟩ => (b3, .cells (fLd d).toArray 23 (0, 0)) :: (mq ++ [])) (fun ⟨i, x, mq⟩ => i ≤ l.length ∧ LkM w.heap.size i bq x (x.wt.map (·.who)) mq ∧ LkW x ∧ LkB i x ∧ x.sh = d.sh) (fun ⟨i, x, mq⟩ => l.length - i) ((0, lkNew d gs, m22)) ⟨au2, rfl, rfl, rfl, rfl, trivial⟩ au1 ⟨Nat.zero_le _, h22, lkNew_w d gs, lkNew_b d gs, rfl⟩ ?_
 rintro ⟨i, x, mq⟩ ⟨hi, hq, hw, hb, hsh⟩
 change wpM _ _ _ _ _ _ _ ((b3, .cells (fLd d).toArray 23 (0, 0)) :: (mq ++ [])) _ _ _
 have hbl := hb.hl; have hv := hw.toLkV
 refine wR <| LM.val (ov_lss rfl rfl) <| nA [(3, _), (7, _), (23, _), (24, _), (25, _), (26, _)] <| wpM.seq ?_
 refine wpM.condD rfl (fun h4 => ?_) (fun h4 => ?_)
 ·
  have hkd := hk (l.getD i default) (by rw [List.getD_eq_getElem?_getD, List.getElem?_eq_getElem (by omega : i < l.length)]; exact List.getElem_mem _)
  refine wpM.skip <| QM.then <| wpM.seq <| wpM.block <| wR ?_
  refine LM.val (ov_idxSN au6 Tryz.underlying25 Tryz.sizeOf30 rfl rfl om) ?_
  first | refine LM.rd (om_slA asm ir Tryz.isAgg30 Tryz.sizeOf30 rfl au3) ?_ | refine LM.rdC (om_srEA asm ir Tryz.isAgg30 Tryz.sizeOf30 rfl au3 id) ?_ | refine LM.rd (om_ldW Tryz.isAgg30 Tryz.sizeOf30 rfl rfl) ?_ | refine LM.rd (om_ldA Tryz.isAgg30 Tryz.sizeOf30 rfl (vs := [_, _, _, _]) rfl ⟨rfl, rfl, rfl, rfl, trivial⟩) ?_
  refine LM.alloc Tryz.zeroValue30 rfl (fun b9 hb9 => ?_)
  refine LM.stW Tryz.sizeOf30 rfl rfl rfl rfl au7 au8 ?_
  refine nB [(3, _), (7, _), (9, _), (23, _), (24, _), (25, _)] <| LM.mv rfl ?_
  refine LM.rd (om_ldW Tryz.isAgg30 Tryz.sizeOf30 rfl rfl) ?_
  refine cU Tryz.func8 rfl (fun w hm hc hg => do20_spec (l.getD i default) w (hT.ext hc) hn1 hq hw hb hc.size om om hkd (hm.pick mq)) hq.wlk (fun p hp hlt => absurd hlt (Nat.not_lt_of_le (hq.ge p hp))) ?_
  rintro u31 m31 h31 -
  refine nB [(3, _), (7, _), (23, _), (24, _), (25, _)] ?_
  have hw2 := do_w hw (l.getD i default); have hb2 := do_b hv.wd hb (l.getD i default); have hbl2 := hb2.hl
  refine LM.mv rfl <| LM.val (ovf 4 rfl rfl rfl rfl) ?_
  refine LM.rd (oml rfl rfl rfl) ?_
  refine cE Tryz.func9 rfl (fun w hm hc hg => (show (doX x (l.getD i default)).sh = d.sh from (do_sh _ _).trans hsh) ▸ safe20_spec w h31 hw2 om (hm.pick m31)) ?_
  first | refine LM.val (ov_notD rfl) ?_ | refine LM.val (ov_not rfl) ?_
  refine nA [(3, _), (7, _), (23, _), (24, _), (25, _), (36, _)] ?_
  first | refine wpM.condD rfl (fun h5 => ?_) (fun h5 => ?_) | refine wpM.condB rfl (fun h5 => ?_) (fun h5 => ?_)
  ·
   cases h5
  refine wpM.skip <| QM.block_normal ?_
  refine QM.then (wpM.region ?_)
  refine LM.val (ov_add64 rfl rfl om) ?_
  refine LM.mv rfl <| nC [(3, _), (7, _), (23, _), (24, _), (25, _)] ?_
  refine QM.againK (i + 1, doX x (l.getD i default), m31) ⟨au2, rfl, rfl, rfl, rfl, trivial⟩ au1 (fun _ h => h) ?_ ?_
  · exact ⟨by omega, h31, hw2, hb2, (do_sh _ _).trans hsh⟩
  · first | omega | (dsimp only; omega)
 refine wpM.exit <| QM.then_exit <| QM.then_exit <| QM.block_hit <| tR <| LM.as rfl <| nA [(6, _)] <| wpM.ret ?_
 refine qL Tryz.results3 rfl fun w' hm' hc' hg' => ?_
 exact ⟨rfl, hc'⟩
end Go.Eng
