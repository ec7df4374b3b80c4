/- The walks of the document's numbers and shares by weight. No condition. -/
import Derived.Test.YtljpjpnjaeidiaaGreatDoorM2
import Derived.Test.YtljpjpnjaeidiaaGreatDoorM4
set_option linter.unusedVariables false
set_option linter.unusedSimpArgs false
set_option maxRecDepth 100000
namespace Go.Eng
open Go Go.Proofs Go.RowKit
theorem rbring_spec (n lo hi : Int) (w : World) : Ret Tryz.prog 31 #[.int .i64 n, .int .i64 lo, .int .i64 hi] w (fun v w' => v = .int .i64 (bringO n lo hi) ∧ Ext w w') := by
 refine Ret.enterM Tryz.func31 rfl Tryz.ntmps31 rfl ([]) (no) (Mem.nil w) ?_
 refine wR <| LM.as rfl <| nA [(0, _), (1, _), (2, _)] <| wpM.seq <| wR <| LM.mv rfl <| LM.mv rfl <| LM.val (ov_lss rfl rfl) <| nA [(0, _), (1, _), (2, _), (9, _)] ?_
 refine wpM.condD rfl (fun h1 => ?_) (fun h1 => ?_)
 ·
  refine wR <| LM.mv rfl <| LM.as rfl <| nA [(6, _)] <| wpM.ret <| QM.then_ret ?_
  refine qL Tryz.results31 rfl fun w' hm' hc' hg' => ?_
  exact ⟨by unfold bringO; rw [if_pos h1]; rfl, hc'⟩
 refine wpM.skip <| QM.then <| wpM.seq <| wR <| LM.mv rfl <| LM.mv rfl <| LM.val (ov_gtr rfl rfl) <| nA [(0, _), (2, _), (13, _)] ?_
 refine wpM.condD rfl (fun h2 => ?_) (fun h2 => ?_)
 ·
  refine wR <| LM.mv rfl <| LM.as rfl <| nA [(6, _)] <| wpM.ret <| QM.then_ret ?_
  refine qL Tryz.results31 rfl fun w' hm' hc' hg' => ?_
  exact ⟨by unfold bringO; rw [if_neg h1, if_pos h2]; rfl, hc'⟩
 refine wpM.skip <| tR <| LM.mv rfl <| LM.as rfl <| nA [(6, _)] <| wpM.ret ?_
 refine qL Tryz.results31 rfl fun w' hm' hc' hg' => ?_
 exact ⟨by unfold bringO; rw [if_neg h1, if_neg h2]; rfl, hc'⟩
def LdB (x : Ldm) : Prop := x.l.length ≤ 8 ∧ (1 ≤ x.sl ∧ x.sl ≤ 32) ∧ 1 ≤ x.cr ∧ x.cr ≤ 32
def fPt (q : Pty) : List Value := [.int .i64 q.w, U q.v, .int .i64 q.h]
abbrev leC (b : Nat) (ad : Option Addr) (n cap : Nat) (sl cr : Int) (fl ac : BitVec 64) : Nat × Obj := (b, .cells #[.slice ad n cap, .int .i64 sl, .int .i64 cr, U fl, U ac] 115 (0, 0))
def LeM (n0 b : Nat) (x : Ldm) (m : Mem0) : Prop := LdB x ∧ ∃ (ad : Option Addr) (n cap : Nat) (ac : BitVec 64) (ms : Mem0), m = leC b ad n cap x.sl x.cr x.fl ac :: ms ∧ n = x.l.length ∧ Sl fPt 117 3 n0 x.l (.slice ad n cap) ms ∧ n0 ≤ b ∧ AcW ac x.l
theorem LeM.ge {n0 b : Nat} {x : Ldm} {m : Mem0} (h : LeM n0 b x m) : ∀ p ∈ m, n0 ≤ p.1 := by
  obtain ⟨hB, ad, n, cap, ac, ms, rfl, hn, hs, hb, hac⟩ := h
  intro p hp
  rcases List.mem_cons.1 hp with rfl | hp
  · exact hb
  · exact hs.ge p hp
theorem LeM.wlk {n0 b : Nat} {x : Ldm} {m : Mem0} (h : LeM n0 b x m) : ∀ p ∈ m, wlk p.2 = false := by
  obtain ⟨hB, ad, n, cap, ac, ms, rfl, hn, hs, hb, hac⟩ := h
  intro p hp
  rcases List.mem_cons.1 hp with rfl | hp
  · rfl
  · exact hs.wlk p hp
theorem LeM.mono {n0 n1 b : Nat} {x : Ldm} {m : Mem0} (h : LeM n0 b x m) (hn : n1 ≤ n0) : LeM n1 b x m := by
  obtain ⟨hB, ad, n, cap, ac, ms, rfl, hn', hs, hb, hac⟩ := h
  exact ⟨hB, ad, n, cap, ac, ms, rfl, hn', hs.mono hn, Nat.le_trans hn hb, hac⟩
theorem lem_leaf {n0 b n n' cap cap' : Nat} {ad ad' : Option Addr} {x' : Ldm} {sl cr : Int} {fl ac ac' : BitVec 64} {ms ms' M : Mem0} {u0 : Value} {w w' : World} (hq : LdB x') (hn' : n' = x'.l.length) (hs' : Sl fPt 117 3 n0 x'.l (.slice ad' n' cap') ms') (hb : n0 ≤ b) (hac : AcW ac' x'.l) (hm : Mem w' M)
    (hs : SubM M (leC b ad' n' cap' x'.sl x'.cr x'.fl ac' :: (ms' ++ []))) (hc : Chg (inM (leC b ad n cap sl cr fl ac :: ms)) w w') (hin : inn ms w.heap.size ms') :
    Upd (leC b ad n cap sl cr fl ac :: ms) (fun u m' => u = u0 ∧ LeM n0 b x' m') w u0 w' := by
  rw [List.append_nil] at hs
  refine ⟨hc, _, ⟨rfl, hq, ad', n', cap', ac', ms', rfl, hn', hs', hb, hac⟩, hs.mem w' hm, fun p hp => ?_⟩
  rcases List.mem_cons.1 hp with rfl | hp
  · exact .inr ⟨_, List.mem_cons_self .., rfl⟩
  · rcases hin p hp with q | ⟨q, hq, e⟩
    · exact .inl q
    · exact .inr ⟨q, List.mem_cons_of_mem _ hq, e⟩
theorem acw_set {ac : BitVec 64} {l : List Pty} (h : AcW ac l) {p : Nat} {y : Pty} (hp : p < l.length) (e : y.a = (gP l p).a) : AcW ac (l.set p y) := fun q => by
  rw [h q, List.length_set, gP_set hp]
  by_cases c : q = p
  · subst c; rw [if_pos rfl, e]
  · rw [if_neg c]
theorem gPs {l : List Pty} {p : Nat} {y : Pty} (hp : p < l.length) : (l.set p y).getD p default = y := by rw [List.getD_eq_getElem?_getD, List.getElem?_set_self hp]; rfl
def vP (q : Pty) (v : BitVec 64) : Pty := ⟨q.w, v, q.h, q.a⟩
theorem lbring_spec (n k : Int) (w : World) (h : 1 ≤ k) : Ret Tryz.prog 83 #[.int .i64 n, .int .i64 k] w (fun v w' => v = .int .i64 (bringO n 1 k) ∧ Ext w w') := by
 refine Ret.enterM Tryz.func83 rfl Tryz.ntmps83 rfl ([]) (no) (Mem.nil w) ?_
 refine wR <| LM.as rfl <| nB [(0, _), (1, _)] <| LM.mv rfl ?_
 refine LM.val (ov_max rfl rfl) ?_
 refine LM.mv rfl ?_
 refine LM.val (ov_min rfl rfl) ?_
 refine LM.as rfl <| nA [(4, _)] <| wpM.ret ?_
 refine qL Tryz.results83 rfl fun w' hm' hc' hg' => ?_
 refine ⟨?_, hc'⟩; show Value.int .i64 _ = _; rw [← bring_eq h]
theorem leIs_spec {n0 b : Nat} {x : Ldm} {m : Mem0} (p : Int) (w : World) (h : LeM n0 b x m) (hM : Mem w m) : Ret Tryz.prog 108 #[.pointer (some ⟨b, 0, none⟩), .int .i64 p] w (fun u w' => u = .bool (isO x p) ∧ Ext w w') := by
 obtain ⟨hB, ad, n, cap, ac, ms, rfl, hn, hs, hb, hac⟩ := h
 refine Ret.enterM Tryz.func108 rfl Tryz.ntmps108 rfl (leC b ad n cap x.sl x.cr x.fl ac :: (ms ++ [])) (no) aM ?_
 refine wR <| LM.as rfl <| nB [(0, _), (1, _)] <| LM.mv rfl ?_
 refine LM.val (ov_pneq kr rfl rfl) ?_
 refine LM.mv rfl <| LM.sp 7 rfl rfl rfl <| LM.mv rfl <| LM.sp 7 rfl rfl rfl <| LM.val (ov_geq rfl rfl) <| LM.val (ov_pickT rfl rfl) <| LM.mv rfl ?_
 refine LM.splitD (t := 11) rfl (fun h1 => ?_) (fun h1 => ?_)
 ·
  refine LM.sp 11 rfl rfl rfl <| LM.mv rfl <| LM.sp 11 rfl rfl rfl <| LM.mv rfl <| LM.sp 11 rfl rfl rfl <| LM.nc rfl <| LM.sp 11 rfl rfl rfl <| LM.val (ovf 113 rfl rfl rfl rfl) <| LM.sp 11 rfl rfl rfl ?_
  refine LM.rd (oml rfl rfl rfl) ?_
  refine LM.sp 11 rfl rfl rfl <| LM.val (ov_len Tryz.underlying113 rfl) <| LM.sp 11 rfl rfl rfl <| LM.val (ov_lss rfl rfl) <| LM.val (ov_pickT rfl rfl) <| LM.as rfl <| nA [(4, _)] <| wpM.ret ?_
  refine qL Tryz.results108 rfl fun w' hm' hc' hg' => ?_
  refine ⟨?_, hc'⟩; simp only [resV, isO, hn, h1, decide_true, decide_false, Bool.true_and, Bool.false_and, Bool.and_true, Bool.and_false, Bool.not_true, Bool.not_false, Bool.true_or, Bool.false_or, Bool.or_true, Bool.or_false, ne_eq, not_true_eq_false, not_false_eq_true, Bool.and_self]
 refine LM.dr 11 rfl rfl rfl <| LM.dr 11 rfl rfl rfl <| LM.dr 11 rfl rfl rfl <| LM.dr 11 rfl rfl rfl <| LM.dr 11 rfl rfl rfl <| LM.dr 11 rfl rfl rfl <| LM.dr 11 rfl rfl rfl <| LM.val (ov_pickF rfl rfl) <| LM.as rfl <| nA [(4, _)] <| wpM.ret ?_
 refine qL Tryz.results108 rfl fun w' hm' hc' hg' => ?_
 refine ⟨?_, hc'⟩; simp only [resV, isO, hn, h1, decide_true, decide_false, Bool.true_and, Bool.false_and, Bool.and_true, Bool.and_false, Bool.not_true, Bool.not_false, Bool.true_or, Bool.false_or, Bool.or_true, Bool.or_false, ne_eq, not_true_eq_false, not_false_eq_true, Bool.and_self]
theorem leLen_spec {n0 b : Nat} {x : Ldm} {m : Mem0} (w : World) (h : LeM n0 b x m) (hM : Mem w m) : Ret Tryz.prog 113 #[.pointer (some ⟨b, 0, none⟩)] w (fun u w' => u = .int .i64 (x.l.length : Nat) ∧ Ext w w') := by
 obtain ⟨hB, ad, n, cap, ac, ms, rfl, hn, hs, hb, hac⟩ := h
 refine Ret.enterM Tryz.func113 rfl Tryz.ntmps113 rfl (leC b ad n cap x.sl x.cr x.fl ac :: (ms ++ [])) (no) aM ?_
 refine wR <| LM.as rfl <| nA [(0, _)] <| wpM.seq <| wR <| LM.mv rfl ?_
 refine LM.val (ov_peql kr rfl rfl) ?_
 refine nA [(0, _), (4, _)] ?_
 refine wpM.condF rfl ?_
 refine wpM.skip <| tR <| LM.mv rfl <| LM.nc rfl <| LM.val (ovf 113 rfl rfl rfl rfl) ?_
 refine LM.rd (oml rfl rfl rfl) ?_
 refine LM.val (ov_len Tryz.underlying113 rfl) <| LM.as rfl <| nA [(2, _)] <| wpM.ret ?_
 refine qL Tryz.results113 rfl fun w' hm' hc' hg' => ?_
 refine ⟨?_, hc'⟩; rw [← hn]; rfl
theorem leV_spec {n0 b : Nat} {x : Ldm} {m : Mem0} (p : Int) (w : World) (h : LeM n0 b x m) (hM : Mem w m) : Ret Tryz.prog 116 #[.pointer (some ⟨b, 0, none⟩), .int .i64 p] w (fun u w' => u = U (if isO x p then (gP x.l p.toNat).v else 0#64) ∧ Ext w w') := by
 obtain ⟨hB, ad, n, cap, ac, ms, rfl, hn, hs, hb, hac⟩ := h; have h0 : LeM n0 b x (leC b ad n cap x.sl x.cr x.fl ac :: ms) := ⟨hB, ad, n, cap, ac, ms, rfl, hn, hs, hb, hac⟩
 refine Ret.enterM Tryz.func116 rfl Tryz.ntmps116 rfl (leC b ad n cap x.sl x.cr x.fl ac :: (ms ++ [])) (no) aM ?_
 refine wR <| LM.as rfl <| nA [(0, _), (1, _)] <| wpM.seq <| wR <| LM.mv rfl <| LM.mv rfl ?_
 refine cE Tryz.func108 rfl (fun w hm hc hg => leIs_spec p w h0 (hm.pick (leC b ad n cap x.sl x.cr x.fl ac :: ms))) ?_
 first | refine LM.val (ov_notD rfl) ?_ | refine LM.val (ov_not rfl) ?_
 refine nA [(0, _), (1, _), (8, _)] ?_
 first | refine wpM.condD rfl (fun h1 => ?_) (fun h1 => ?_) | refine wpM.condB rfl (fun h1 => ?_) (fun h1 => ?_)
 ·
  refine wR <| LM.as rfl <| nA [(4, _)] <| wpM.ret <| QM.then_ret ?_
  refine qL Tryz.results116 rfl fun w' hm' hc' hg' => ?_
  have hi1 : ¬ isO x p = true := (by simpa using h1); rw [if_neg hi1]; exact ⟨rfl, hc'⟩
 have hi1 : isO x p = true := (by simpa using h1); obtain ⟨i, rfl, hi⟩ := isO_at hi1
 refine wpM.skip <| tR <| LM.mv rfl <| LM.nc rfl <| LM.val (ovf 113 rfl rfl rfl rfl) ?_
 refine LM.rd (oml rfl rfl rfl) ?_
 refine LM.mv rfl ?_
 refine LM.val (ov_idxSN au6 Tryz.underlying113 Tryz.sizeOf117 rfl rfl om) ?_
 refine LM.val (ovf 51 rfl rfl rfl rfl) ?_
 refine LM.rd (om_slE (j := 1) asm ir Tryz.isAgg51 rfl rfl au3 rfl (by rfl)) ?_
 refine LM.as rfl <| nA [(4, _)] <| wpM.ret ?_
 refine qL Tryz.results116 rfl fun w' hm' hc' hg' => ?_
 rw [if_pos hi1]; exact ⟨rfl, hc'⟩
theorem leHeld_spec {n0 b : Nat} {x : Ldm} {m : Mem0} (p : Int) (w : World) (h : LeM n0 b x m) (hM : Mem w m) : Ret Tryz.prog 117 #[.pointer (some ⟨b, 0, none⟩), .int .i64 p] w (fun u w' => u = .int .i64 (if isO x p then (gP x.l p.toNat).h else 0) ∧ Ext w w') := by
 obtain ⟨hB, ad, n, cap, ac, ms, rfl, hn, hs, hb, hac⟩ := h; have h0 : LeM n0 b x (leC b ad n cap x.sl x.cr x.fl ac :: ms) := ⟨hB, ad, n, cap, ac, ms, rfl, hn, hs, hb, hac⟩
 refine Ret.enterM Tryz.func117 rfl Tryz.ntmps117 rfl (leC b ad n cap x.sl x.cr x.fl ac :: (ms ++ [])) (no) aM ?_
 refine wR <| LM.as rfl <| nA [(0, _), (1, _)] <| wpM.seq <| wR <| LM.mv rfl <| LM.mv rfl ?_
 refine cE Tryz.func108 rfl (fun w hm hc hg => leIs_spec p w h0 (hm.pick (leC b ad n cap x.sl x.cr x.fl ac :: ms))) ?_
 first | refine LM.val (ov_notD rfl) ?_ | refine LM.val (ov_not rfl) ?_
 refine nA [(0, _), (1, _), (8, _)] ?_
 first | refine wpM.condD rfl (fun h1 => ?_) (fun h1 => ?_) | refine wpM.condB rfl (fun h1 => ?_) (fun h1 => ?_)
 ·
  refine wR <| LM.as rfl <| nA [(4, _)] <| wpM.ret <| QM.then_ret ?_
  refine qL Tryz.results117 rfl fun w' hm' hc' hg' => ?_
  have hi1 : ¬ isO x p = true := (by simpa using h1); rw [if_neg hi1]; exact ⟨rfl, hc'⟩
 have hi1 : isO x p = true := (by simpa using h1); obtain ⟨i, rfl, hi⟩ := isO_at hi1
 refine wpM.skip <| tR <| LM.mv rfl <| LM.nc rfl <| LM.val (ovf 113 rfl rfl rfl rfl) ?_
 refine LM.rd (oml rfl rfl rfl) ?_
 refine LM.mv rfl ?_
 refine LM.val (ov_idxSN au6 Tryz.underlying113 Tryz.sizeOf117 rfl rfl om) ?_
 refine LM.val (ovf 3 rfl rfl rfl rfl) ?_
 refine LM.rd (om_slE (j := 2) asm ir Tryz.isAgg3 rfl rfl au3 rfl (by rfl)) ?_
 refine LM.as rfl <| nA [(4, _)] <| wpM.ret ?_
 refine qL Tryz.results117 rfl fun w' hm' hc' hg' => ?_
 rw [if_pos hi1]; exact ⟨rfl, hc'⟩
theorem leWeight_spec {n0 b : Nat} {x : Ldm} {m : Mem0} (p : Int) (w : World) (h : LeM n0 b x m) (hM : Mem w m) : Ret Tryz.prog 67 #[.pointer (some ⟨b, 0, none⟩), .int .i64 p] w (fun u w' => u = .int .i64 (if isO x p then (gP x.l p.toNat).w else 0) ∧ Ext w w') := by
 obtain ⟨hB, ad, n, cap, ac, ms, rfl, hn, hs, hb, hac⟩ := h; have h0 : LeM n0 b x (leC b ad n cap x.sl x.cr x.fl ac :: ms) := ⟨hB, ad, n, cap, ac, ms, rfl, hn, hs, hb, hac⟩
 refine Ret.enterM Tryz.func67 rfl Tryz.ntmps67 rfl (leC b ad n cap x.sl x.cr x.fl ac :: (ms ++ [])) (no) aM ?_
 refine wR <| LM.as rfl <| nA [(0, _), (1, _)] <| wpM.seq <| wR <| LM.mv rfl <| LM.mv rfl ?_
 refine cE Tryz.func108 rfl (fun w hm hc hg => leIs_spec p w h0 (hm.pick (leC b ad n cap x.sl x.cr x.fl ac :: ms))) ?_
 first | refine LM.val (ov_notD rfl) ?_ | refine LM.val (ov_not rfl) ?_
 refine nA [(0, _), (1, _), (8, _)] ?_
 first | refine wpM.condD rfl (fun h1 => ?_) (fun h1 => ?_) | refine wpM.condB rfl (fun h1 => ?_) (fun h1 => ?_)
 ·
  refine wR <| LM.as rfl <| nA [(4, _)] <| wpM.ret <| QM.then_ret ?_
  refine qL Tryz.results67 rfl fun w' hm' hc' hg' => ?_
  have hi1 : ¬ isO x p = true := (by simpa using h1); rw [if_neg hi1]; exact ⟨rfl, hc'⟩
 have hi1 : isO x p = true := (by simpa using h1); obtain ⟨i, rfl, hi⟩ := isO_at hi1
 refine wpM.skip <| tR <| LM.mv rfl <| LM.nc rfl <| LM.val (ovf 113 rfl rfl rfl rfl) ?_
 refine LM.rd (oml rfl rfl rfl) ?_
 refine LM.mv rfl ?_
 refine LM.val (ov_idxSN au6 Tryz.underlying113 Tryz.sizeOf117 rfl rfl om) ?_
 refine LM.val (ovf 3 rfl rfl rfl rfl) ?_
 refine LM.rd (om_slE (j := 0) asm ir Tryz.isAgg3 rfl rfl au3 rfl (by rfl)) ?_
 refine LM.as rfl <| nA [(4, _)] <| wpM.ret ?_
 refine qL Tryz.results67 rfl fun w' hm' hc' hg' => ?_
 rw [if_pos hi1]; exact ⟨rfl, hc'⟩
theorem leChg_spec {n0 b : Nat} {x : Ldm} {m : Mem0} (p : Nat) (w : World) (h : LeM n0 b x m) (hp : p < x.l.length) (hh : 0 ≤ (gP x.l p).h ∧ (gP x.l p).h ≤ 1000000000) (hM : Mem w m) : Ret Tryz.prog 62 #[.pointer (some ⟨b, 0, none⟩), .int .i64 (p : Nat)] w (Upd m (fun u m' => u = .bool true ∧ LeM n0 b (ldChg x p) m') w) := by
 obtain ⟨hB, ad, n, cap, ac, ms, rfl, hn, hs, hb, hac⟩ := h; have h0 : LeM n0 b x (leC b ad n cap x.sl x.cr x.fl ac :: ms) := ⟨hB, ad, n, cap, ac, ms, rfl, hn, hs, hb, hac⟩; have hgx := gPs (y := vP (gP x.l p) (addO (gP x.l p).v (lockO (gP x.l p).w))) hp; have hip := isO_in hp; have hg9 : (vP (gP x.l p) (addO (gP x.l p).v (lockO (gP x.l p).w))).h = (gP x.l p).h := rfl
 refine Ret.enterM Tryz.func62 rfl Tryz.ntmps62 rfl (leC b ad n cap x.sl x.cr x.fl ac :: (ms ++ [])) ((inM (leC b ad n cap x.sl x.cr x.fl ac :: ms))) aM ?_
 refine wR <| LM.as rfl <| nA [(0, _), (1, _)] <| wpM.seq <| wR <| LM.mv rfl <| LM.mv rfl ?_
 refine cE Tryz.func108 rfl (fun w hm hc hg => hip ▸ leIs_spec p w h0 (hm.pick (leC b ad n cap x.sl x.cr x.fl ac :: ms))) ?_
 first | refine LM.val (ov_notD rfl) ?_ | refine LM.val (ov_not rfl) ?_
 refine nA [(0, _), (1, _), (9, _)] ?_
 first | refine wpM.condD rfl (fun h1 => ?_) (fun h1 => ?_) | refine wpM.condB rfl (fun h1 => ?_) (fun h1 => ?_)
 ·
  cases h1
 refine wpM.skip <| tR <| LM.mv rfl <| LM.nc rfl <| LM.val (ovf 113 rfl rfl rfl rfl) ?_
 refine LM.rd (oml rfl rfl rfl) ?_
 refine LM.mv rfl ?_
 refine LM.val (ov_idxSN au6 Tryz.underlying113 Tryz.sizeOf117 rfl rfl om) ?_
 refine LM.as rfl <| nA [(5, _)] <| wpM.seq ?_
 refine wpM.draw [(0, 0), (1, 0), (2, 0), (3, 0), (4, 1), (5, 0), (6, 0), (7, 0), (8, 1), (9, 2), (10, 2), (11, 0), (12, 0), (13, 0), (14, 0), (15, 0), (16, 3)] kr kr ?_
 refine LD.val rfl rfl (ov_move rfl) <| LD.val rfl rfl (ov_move rfl) <| LD.val rfl rfl (ov_nilCheck rfl) <| LD.val rfl rfl (ovf 51 rfl rfl rfl rfl) ?_
 refine LD.rd rfl rfl (om_slE (j := 1) asm ir Tryz.isAgg51 rfl rfl au3 rfl (by rfl)) ?_
 refine LD.val rfl rfl (ov_move rfl) <| LD.val rfl rfl (ov_nilCheck rfl) <| LD.val rfl rfl (ovf 3 rfl rfl rfl rfl) ?_
 refine LD.rd rfl rfl (om_slE (j := 0) asm ir Tryz.isAgg3 rfl rfl au3 rfl (by rfl)) ?_
 refine dE rfl rfl Tryz.func110 rfl (fun w hm hc hg => ulock_spec _ w) ?_
 refine dE rfl rfl Tryz.func109 rfl (fun w hm hc hg => fadd_spec _ _ w) ?_
 refine LD.val rfl rfl (ov_move rfl) ?_
 refine LD.val rfl rfl (ov_extract rfl rfl) ?_
 refine LD.val rfl rfl (ov_extract rfl rfl) ?_
 refine LD.val rfl rfl (ov_nilCheck rfl) <| LD.val rfl rfl (ovf 51 rfl rfl rfl rfl) ?_
 refine LD.tail rfl rfl ?_
 refine LM.stS ((vP (gP x.l p) (addO (gP x.l p).v (lockO (gP x.l p).w)))) (j := 1) (i := p) asm ir Tryz.sizeOf51 rfl rfl rfl au3 rfl (by decide) (by rfl) rfl (fun p hp _ => ⟨p, List.mem_cons_of_mem _ hp, rfl⟩) (fun ms1 hss1 hmm1 => ?_)
 refine LM.nil ?_
 refine QM.qn ?_
 refine QM.sub (e' := [(5, _)]) ⟨rfl, trivial⟩ (QM.then (wpM.seq (wpM.region ?_)))
 refine LM.mv rfl <| LM.nc rfl <| LM.val (ovf 3 rfl rfl rfl rfl) ?_
 refine LM.rd (om_slE (j := 2) asm ir Tryz.isAgg3 rfl rfl au3 rfl (by rfl)) ?_
 rw [hgx]
 refine LM.val (ov_add64 rfl rfl om) ?_
 refine LM.nc rfl <| LM.val (ovf 3 rfl rfl rfl rfl) ?_
 refine LM.stS (a := vP (gP x.l p) (addO (gP x.l p).v (lockO (gP x.l p).w))) (chgP (gP x.l p)) (j := 2) hss1 ir Tryz.sizeOf3 rfl rfl rfl (List.getElem?_set_self hp) rfl (by decide) (by rfl) rfl (fun p hp _ => by obtain ⟨q, hq1, e⟩ := hmm1 p hp; exact ⟨q, List.mem_cons_of_mem _ hq1, e⟩) (fun ms9 hss9 hmm9 => ?_)
 refine LM.nil (QM.sub (e' := []) trivial (QM.then (wpM.seq (wpM.region ?_))))
 refine LM.as rfl <| nA [(4, _)] <| wpM.ret ?_
 refine qL Tryz.results62 rfl fun w' hm' hc' hg' => ?_
 rw [List.set_set] at hss9; exact lem_leaf (x' := ldChg x p) ⟨by show (x.l.set _ _).length ≤ 8; rw [List.length_set]; exact hB.1, hB.2⟩ (by show _ = (x.l.set _ _).length; rw [List.length_set]; exact hn) hss9 hb (acw_set hac hp rfl) hm' au1 hc' (fun p hp => .inr (by obtain ⟨q, hq1, e⟩ := hmm9 p hp; obtain ⟨q2, hq2, e2⟩ := hmm1 q hq1; exact ⟨q2, hq2, e2.trans e⟩))
def wP (q : Pty) (w : Int) : Pty := ⟨w, q.v, q.h, q.a⟩
abbrev pB (c b : Nat) : Nat × Obj := (c, .cells #[.pointer (some ⟨b, 0, none⟩)] 68 (0, 0))
abbrev iB (c : Nat) (v : Int) : Nat × Obj := (c, .cells #[.int .i64 v] 3 (0, 0))
theorem leWei_spec {n0 b : Nat} {x : Ldm} {m : Mem0} (p : Nat) (wt : Int) (w : World) (h : LeM n0 b x m) (hp : p < x.l.length) (hM : Mem w m) : Ret Tryz.prog 68 #[.pointer (some ⟨b, 0, none⟩), .int .i64 (p : Nat), .int .i64 wt] w (Upd m (fun u m' => u = .bool true ∧ LeM n0 b (ldWei x p wt) m') w) := by
 obtain ⟨hB, ad, n, cap, ac, ms, rfl, hn, hs, hb, hac⟩ := h; have h0 : LeM n0 b x (leC b ad n cap x.sl x.cr x.fl ac :: ms) := ⟨hB, ad, n, cap, ac, ms, rfl, hn, hs, hb, hac⟩; have hgx := gPs (y := wP (gP x.l p) (bringO wt 1 16)) hp; have hip := isO_in hp
 refine Ret.enterM Tryz.func68 rfl Tryz.ntmps68 rfl (leC b ad n cap x.sl x.cr x.fl ac :: (ms ++ [])) ((inM (leC b ad n cap x.sl x.cr x.fl ac :: ms))) aM ?_
 refine wR <| LM.as rfl <| nA [(0, _), (1, _), (2, _)] <| wpM.seq <| wR <| LM.mv rfl <| LM.mv rfl ?_
 refine cE Tryz.func108 rfl (fun w hm hc hg => hip ▸ leIs_spec p w h0 (hm.pick (leC b ad n cap x.sl x.cr x.fl ac :: ms))) ?_
 first | refine LM.val (ov_notD rfl) ?_ | refine LM.val (ov_not rfl) ?_
 refine nA [(0, _), (1, _), (2, _), (11, _)] ?_
 first | refine wpM.condD rfl (fun h1 => ?_) (fun h1 => ?_) | refine wpM.condB rfl (fun h1 => ?_) (fun h1 => ?_)
 ·
  cases h1
 refine wpM.skip <| tR <| LM.mv rfl <| LM.nc rfl <| LM.val (ovf 113 rfl rfl rfl rfl) ?_
 refine LM.rd (oml rfl rfl rfl) ?_
 refine LM.mv rfl ?_
 refine LM.val (ov_idxSN au6 Tryz.underlying113 Tryz.sizeOf117 rfl rfl om) ?_
 refine LM.as rfl <| nA [(0, _), (2, _), (7, _)] <| wpM.seq <| wR <| LM.mv rfl ?_
 refine cE Tryz.func83 rfl (fun w hm hc hg => lbring_spec _ 16 w (by decide)) ?_
 refine LM.as rfl <| nB [(0, _), (2, _), (7, _)] <| LM.mv rfl <| LM.mv rfl <| LM.nc rfl <| LM.val (ovf 3 rfl rfl rfl rfl) ?_
 refine LM.rd (om_slE (j := 0) asm ir Tryz.isAgg3 rfl rfl au3 rfl (by rfl)) ?_
 refine LM.val (ov_neq rfl rfl) <| nA [(0, _), (2, _), (7, _), (25, _)] ?_
 refine wpM.condD rfl (fun h2 => ?_) (fun h2 => ?_)
 ·
  refine wR <| LM.mv rfl <| LM.mv rfl <| LM.nc rfl <| LM.val (ovf 3 rfl rfl rfl rfl) ?_
  refine LM.stS ((wP (gP x.l p) (bringO wt 1 16))) (j := 0) (i := p) asm ir Tryz.sizeOf3 rfl rfl rfl au3 rfl (by decide) (by rfl) rfl (fun p hp _ => ⟨p, List.mem_cons_of_mem _ hp, rfl⟩) (fun ms1 hss1 hmm1 => ?_)
  refine nA [(0, _), (2, _), (7, _)] ?_
  refine wpM.draw [(0, 0), (1, 0), (2, 0), (3, 0), (4, 1), (5, 0), (6, 0), (7, 0), (8, 1), (9, 0), (11, 0), (12, 0), (13, 0), (14, 1), (15, 0), (10, 2), (16, 0), (17, 2), (18, 0), (19, 0), (20, 3)] kr kr ?_
  refine LD.val rfl rfl (ov_move rfl) <| LD.val rfl rfl (ov_move rfl) <| LD.val rfl rfl (ov_nilCheck rfl) <| LD.val rfl rfl (ovf 51 rfl rfl rfl rfl) ?_
  refine LD.rd rfl rfl (om_slE (j := 1) asm ir Tryz.isAgg51 rfl rfl au3 rfl (by rfl)) ?_
  rw [hgx]
  refine LD.val rfl rfl (ov_move rfl) <| LD.val rfl rfl (ov_nilCheck rfl) <| LD.val rfl rfl (ovf 51 rfl rfl rfl rfl) ?_
  refine LD.rd rfl rfl (oml rfl rfl rfl) ?_
  refine LD.val rfl rfl (ov_move rfl) <| LD.val rfl rfl (ov_move rfl) <| LD.val rfl rfl (ov_nilCheck rfl) <| LD.val rfl rfl (ovf 3 rfl rfl rfl rfl) ?_
  refine LD.rd rfl rfl (oml rfl rfl rfl) ?_
  refine LD.val rfl rfl (ov_toU Tryz.underlying3 Tryz.underlying51 rfl) ?_
  refine dE rfl rfl Tryz.func110 rfl (fun w hm hc hg => ulock_spec _ w) ?_
  refine LD.val rfl rfl (ov_umul rfl rfl) ?_
  refine dE rfl rfl Tryz.func114 rfl (fun w hm hc hg => uclamp_spec _ _ _ w) ?_
  refine LD.val rfl rfl (ov_nilCheck rfl) <| LD.val rfl rfl (ovf 51 rfl rfl rfl rfl) ?_
  refine LD.tail rfl rfl ?_
  refine LM.stS (a := wP (gP x.l p) (bringO wt 1 16)) ({ gP x.l p with w := bringO wt 1 16, v := clampO (gP x.l p).v x.fl (lockO (bringO wt 1 16) * BitVec.ofInt 64 x.sl) } : Pty) (j := 1) hss1 ir Tryz.sizeOf51 rfl rfl rfl (List.getElem?_set_self hp) rfl (by decide) (by rfl) rfl (fun p hp _ => by obtain ⟨q, hq1, e⟩ := hmm1 p hp; exact ⟨q, List.mem_cons_of_mem _ hq1, e⟩) (fun ms9 hss9 hmm9 => ?_)
  refine LM.nil ?_
  refine QM.qn ?_
  refine QM.sub (e' := []) trivial (QM.then (wpM.seq (wpM.region ?_)))
  refine LM.as rfl <| nA [(6, _)] <| wpM.ret ?_
  refine qL Tryz.results68 rfl fun w' hm' hc' hg' => ?_
  rw [List.set_set] at hss9; have hw : ldWei x p wt = { x with l := x.l.set p { gP x.l p with w := bringO wt 1 16, v := clampO (gP x.l p).v x.fl (lockO (bringO wt 1 16) * BitVec.ofInt 64 x.sl) } } := (by unfold ldWei weiP; rw [if_neg h2]); rw [hw]; exact lem_leaf (x' := { x with l := _ }) ⟨by show (x.l.set _ _).length ≤ 8; rw [List.length_set]; exact hB.1, hB.2⟩ (by show _ = (x.l.set _ _).length; rw [List.length_set]; exact hn) hss9 hb (acw_set hac hp rfl) hm' au1 hc' (fun p hp => .inr (by obtain ⟨q, hq1, e⟩ := hmm9 p hp; obtain ⟨q2, hq2, e2⟩ := hmm1 q hq1; exact ⟨q2, hq2, e2.trans e⟩))
 refine wpM.skip <| tR <| LM.as rfl <| nA [(6, _)] <| wpM.ret ?_
 refine qL Tryz.results68 rfl fun w' hm' hc' hg' => ?_
 have hw : ldWei x p wt = x := (by unfold ldWei weiP; rw [if_pos (by simpa using h2), set_same hp]); rw [hw]; exact lem_leaf hB hn hs hb hac hm' au1 hc' (inn_refl _ _)
theorem leLst_spec {n0 b : Nat} {x : Ldm} {m : Mem0} (s : BitVec 64) (w : World) (hT : Tab w) (h : LeM n0 b x m) (hM : Mem w m) : Ret Tryz.prog 98 #[.pointer (some ⟨b, 0, none⟩), U s] w (fun u w' => u = .int .i64 (leastN x.l s x.l.length) ∧ Ext w w') := by
 obtain ⟨hB, ad, n, cap, ac, ms, rfl, hn, hs, hb, hac⟩ := h; have h0 : LeM n0 b x (leC b ad n cap x.sl x.cr x.fl ac :: ms) := ⟨hB, ad, n, cap, ac, ms, rfl, hn, hs, hb, hac⟩; have hl8 := hB.1
 refine Ret.enterM Tryz.func98 rfl Tryz.ntmps98 rfl (leC b ad n cap x.sl x.cr x.fl ac :: (ms ++ [])) (no) aM ?_
 refine wR ?_
 refine LM.box rfl rfl (fun b2 hb2 => ?_)
 refine LM.as rfl <| nB [(1, _), (2, _)] ?_
 refine LM.alloc Tryz.zeroValue3 rfl (fun b5 hb5 => ?_)
 refine LM.st Tryz.sizeOf3 rfl rfl rfl au5 rfl auH ?_
 refine nA [(1, _), (2, _), (5, _)] <| wpM.seq <| wR <| LM.mv rfl ?_
 refine LM.callT (oc_call (enters_fn Tryz.func125 kr rfl) rfl) AllT.mono (fun w hm hc hg => all_spec _ w) ?_
 rintro u8 m8 ⟨c1, rfl, rfl, hc1⟩ -
 refine nA [(2, _), (5, _), (8, _)] <| wpM.block ?_
 refine wpM.toRange (α := Int) (fun k v => uBx c1 s :: iB b5 v :: pB b2 b :: leC b ad n cap x.sl x.cr x.fl ac :: (ms ++ [])) ((-1)) au1 ?_
 refine wpM.range (α := Int) (β := Unit) (enters_fn Tryz.func150 kr rfl) rfl (all_seq (s := s)) (fun k v => uBx c1 s :: iB b5 v :: pB b2 b :: leC b ad n cap x.sl x.cr x.fl ac :: (ms ++ [])) (fun _ _ => top) (fun k v => k ≤ (allL s).length ∧ v = lsF x.l ((allL s).take k)) (fun ⟨⟩ => []) (fun _ => top) (fun c ⟨⟩ => False) (-1) rfl (fun _ h => h) ⟨Nat.zero_le _, by rw [List.take_zero]; rfl⟩ kr (by intro k av hav; obtain ⟨i, hi, rfl⟩ := allA_inv hav; have hlt := (List.getElem?_eq_some_iff.1 hi).1; have hal := allL_len s; have hin := lsF_in x.l s ((allL s).take k); have hsn : lsF x.l ((allL s).take (k + 1)) = lsS x.l (lsF x.l ((allL s).take k)) i := (by rw [take_snoc 0 hlt, lsF_snoc, List.getD_eq_getElem?_getD, hi]; rfl); rfl) (.inl trivial) (fun k a w hm hc _ _ => ⟨SubM.mem au1 w hm, hT.ext hc⟩) (fun _ _ _ _ => gl_top _) (fun _ _ _ => gl_top _) (fun k x _ => mm_cons rfl (mm_cons rfl (mm_cons rfl (mm_cons rfl (mm_app hs.wlk mm_nil))))) (fun c z _ => by ((repeat (refine mm_cons rfl ?_)); exact fun p hp => .inl (by first | exact hp | (simp at hp; done) | (simp [hp]; done) | (simp at hp ⊢; first | exact .inl hp | exact hp | (simp [hp]; done))))) ?_ ?_ ?_ ?_
 ·
  rintro k av v l D rc n1 W1 hD hll hput hrc hav ⟨hk, hv⟩
  change wpM _ _ _ _ _ _ _ ((l, Obj.loop rc) :: ([(D, Obj.deferred (some []))] ++ (uBx c1 s :: iB b5 v :: pB b2 b :: leC b ad n cap x.sl x.cr x.fl ac :: (ms ++ [])))) _ _ _
  obtain ⟨i, hi, rfl⟩ := allA_inv hav; have hlt := (List.getElem?_eq_some_iff.1 hi).1; have hal := allL_len s; have hin := lsF_in x.l s ((allL s).take k); have hsn : lsF x.l ((allL s).take (k + 1)) = lsS x.l (lsF x.l ((allL s).take k)) i := (by rw [take_snoc 0 hlt, lsF_snoc, List.getD_eq_getElem?_getD, hi]; rfl)
  refine wpM.region ?_
  refine LM.as rfl <| nC [(2, _), (5, _), (6, _)] ?_
  refine QM.toBodyF (hput k v) hll ?_
  refine wpM.block <| wpM.seq ?_
  refine wpM.draw [(0, 1), (1, 0), (2, 2), (3, 0), (4, 1), (5, 0), (6, 0), (7, 1), (8, 0), (9, 0), (10, 1), (11, 0), (12, 0), (13, 0), (14, 1), (15, 1), (16, 0), (17, 0), (18, 1), (19, 1), (20, 0), (21, 0), (22, 1), (23, 0), (24, 0), (25, 0)] kr kr ?_
  refine LD.rd rfl rfl (oml rfl rfl rfl) ?_
  refine LD.val rfl rfl (ov_move rfl) ?_
  refine dE rfl rfl Tryz.func108 rfl (fun w hm hc hg => leIs_spec (i : Nat) w h0 (hm.pick (leC b ad n cap x.sl x.cr x.fl ac :: ms))) ?_
  refine LD.val rfl rfl (ov_move rfl) ?_
  refine LD.splitD (t := 13) rfl (fun h1 => ?_) (fun h1 => ?_)
  ·
   refine LD.rd rfl ⟨13, _, rfl, rfl, rfl⟩ (oml rfl rfl rfl) ?_
   refine LD.val rfl ⟨13, _, rfl, rfl, rfl⟩ (ov_lss rfl rfl) ?_
   refine LD.val rfl ⟨13, _, rfl, rfl, rfl⟩ (ov_move rfl) ?_
   refine LD.splitD (t := 16) rfl (fun h2 => ?_) (fun h2 => ?_)
   ·
    refine LD.drop rfl rfl ⟨16, _, rfl, rfl, rfl⟩ <| LD.drop rfl rfl ⟨16, _, rfl, rfl, rfl⟩ <| LD.drop rfl rfl ⟨16, _, rfl, rfl, rfl⟩ <| LD.drop rfl rfl ⟨16, _, rfl, rfl, rfl⟩ <| LD.drop rfl rfl ⟨16, _, rfl, rfl, rfl⟩ <| LD.drop rfl rfl ⟨16, _, rfl, rfl, rfl⟩ <| LD.drop rfl rfl ⟨16, _, rfl, rfl, rfl⟩ <| LD.drop rfl rfl ⟨16, _, rfl, rfl, rfl⟩ <| LD.drop rfl rfl ⟨16, _, rfl, rfl, rfl⟩ <| LD.drop rfl rfl ⟨16, _, rfl, rfl, rfl⟩ <| LD.drop rfl rfl ⟨16, _, rfl, rfl, rfl⟩ <| LD.drop rfl rfl ⟨16, _, rfl, rfl, rfl⟩ <| LD.drop rfl rfl ⟨16, _, rfl, rfl, rfl⟩ <| LD.drop rfl rfl ⟨16, _, rfl, rfl, rfl⟩ <| LD.drop rfl rfl ⟨16, _, rfl, rfl, rfl⟩ <| LD.drop rfl rfl ⟨16, _, rfl, rfl, rfl⟩ <| LD.drop rfl rfl ⟨16, _, rfl, rfl, rfl⟩ ?_
    refine LD.val rfl ⟨13, _, rfl, rfl, rfl⟩ (ov_pickT rfl rfl) ?_
    refine LD.val rfl rfl (ov_pickT rfl rfl) ?_
    refine LD.nil ?_
    refine QM.sub (e' := [(5, _), (6, _), (35, _)]) au9 (QM.then ?_)
    refine wpM.condT rfl ?_
    refine wpM.region ?_
    refine LM.mv rfl ?_
    refine LM.st Tryz.sizeOf3 rfl rfl rfl au5 rfl auH ?_
    refine LM.nil (QM.sub (e' := []) trivial ?_)
    refine QM.block_normal ?_
    refine QM.next (_) (SubM.mem au1) (fun _ h => h) ?_
    · exact ⟨by omega, by rw [hsn, ← hv]; unfold lsS; (first | exact (if_pos ⟨by omega, by first | exact .inl h2 | exact .inr h3⟩).symm | exact (if_neg (fun q => by first | omega | (rcases q.2 with q2 | q2; exact h2 q2; exact h3 q2))).symm)⟩
   refine LD.rd rfl ⟨16, _, rfl, rfl, rfl⟩ (oml rfl rfl rfl) ?_
   refine LD.val rfl ⟨16, _, rfl, rfl, rfl⟩ (ov_nilCheck rfl) <| LD.val rfl ⟨16, _, rfl, rfl, rfl⟩ (ovf 113 rfl rfl rfl rfl) ?_
   refine LD.rd rfl ⟨16, _, rfl, rfl, rfl⟩ (oml rfl rfl rfl) ?_
   refine LD.val rfl ⟨16, _, rfl, rfl, rfl⟩ (ov_move rfl) ?_
   refine LD.val rfl ⟨16, _, rfl, rfl, rfl⟩ (ov_idxSN au6 Tryz.underlying113 Tryz.sizeOf117 rfl rfl om) ?_
   refine LD.val rfl ⟨16, _, rfl, rfl, rfl⟩ (ovf 51 rfl rfl rfl rfl) ?_
   refine LD.rd rfl ⟨16, _, rfl, rfl, rfl⟩ (om_slE (j := 1) asm ir Tryz.isAgg51 rfl rfl au3 rfl (by rfl)) ?_
   refine LD.rd rfl ⟨16, _, rfl, rfl, rfl⟩ (oml rfl rfl rfl) ?_
   refine LD.val rfl ⟨16, _, rfl, rfl, rfl⟩ (ov_nilCheck rfl) <| LD.val rfl ⟨16, _, rfl, rfl, rfl⟩ (ovf 113 rfl rfl rfl rfl) ?_
   refine LD.rd rfl ⟨16, _, rfl, rfl, rfl⟩ (oml rfl rfl rfl) ?_
   refine LD.rd rfl ⟨16, _, rfl, rfl, rfl⟩ (oml rfl rfl rfl) ?_
   first | refine LD.val rfl ⟨16, _, rfl, rfl, rfl⟩ (ov_idxSN au6 Tryz.underlying113 Tryz.sizeOf117 rfl rfl om) ?_ | refine LD.val rfl ⟨16, _, rfl, rfl, rfl⟩ (ov_idxS au6 Tryz.underlying113 Tryz.sizeOf117 rfl rfl om) ?_ | refine LD.val rfl ⟨16, _, rfl, rfl, rfl⟩ (ov_idx Tryz.underlying113 Tryz.sizeOf117 rfl rfl om) ?_
   refine LD.val rfl ⟨16, _, rfl, rfl, rfl⟩ (ovf 51 rfl rfl rfl rfl) ?_
   refine LD.rd rfl ⟨16, _, rfl, rfl, rfl⟩ (om_slE (j := 1) asm ir Tryz.isAgg51 rfl rfl au3 rfl (by rfl)) ?_
   refine LD.val rfl ⟨16, _, rfl, rfl, rfl⟩ (ov_ulss rfl rfl) ?_
   refine LD.val rfl ⟨13, _, rfl, rfl, rfl⟩ (ov_pickF rfl rfl) ?_
   refine LD.val rfl rfl (ov_pickT rfl rfl) ?_
   refine LD.nil ?_
   refine QM.sub (e' := [(5, _), (6, _), (35, _)]) au9 (QM.then ?_)
   refine wpM.condD rfl (fun h3 => ?_) (fun h3 => ?_)
   ·
    refine wpM.region ?_
    refine LM.mv rfl ?_
    refine LM.st Tryz.sizeOf3 rfl rfl rfl au5 rfl auH ?_
    refine LM.nil (QM.sub (e' := []) trivial ?_)
    refine QM.block_normal ?_
    refine QM.next (_) (SubM.mem au1) (fun _ h => h) ?_
    · exact ⟨by omega, by rw [hsn, ← hv]; unfold lsS; (first | exact (if_pos ⟨by omega, by first | exact .inl h2 | exact .inr h3⟩).symm | exact (if_neg (fun q => by first | omega | (rcases q.2 with q2 | q2; exact h2 q2; exact h3 q2))).symm)⟩
   refine wpM.skip <| QM.block_normal ?_
   refine QM.next (_) (SubM.mem au1) (fun _ h => h) ?_
   · exact ⟨by omega, by rw [hsn, ← hv]; unfold lsS; (first | exact (if_pos ⟨by omega, by first | exact .inl h2 | exact .inr h3⟩).symm | exact (if_neg (fun q => by first | omega | (rcases q.2 with q2 | q2; exact h2 q2; exact h3 q2))).symm)⟩
  refine LD.drop rfl rfl ⟨13, _, rfl, rfl, rfl⟩ <| LD.drop rfl rfl ⟨13, _, rfl, rfl, rfl⟩ ?_
  refine LD.dropU rfl rfl ⟨13, _, rfl, rfl, rfl⟩ ?_
  refine LD.dropX rfl rfl rfl rfl <| LD.dropX rfl rfl rfl rfl <| LD.dropX rfl rfl rfl rfl <| LD.dropX rfl rfl rfl rfl <| LD.dropX rfl rfl rfl rfl <| LD.dropX rfl rfl rfl rfl <| LD.dropX rfl rfl rfl rfl <| LD.dropX rfl rfl rfl rfl <| LD.dropX rfl rfl rfl rfl <| LD.dropX rfl rfl rfl rfl <| LD.dropX rfl rfl rfl rfl <| LD.dropX rfl rfl rfl rfl <| LD.dropX rfl rfl rfl rfl <| LD.dropX rfl rfl rfl rfl <| LD.dropX rfl rfl rfl rfl <| LD.dropX rfl rfl rfl rfl <| LD.dropX rfl rfl rfl rfl <| LD.drop rfl rfl ⟨13, _, rfl, rfl, rfl⟩ ?_
  refine LD.val rfl rfl (ov_pickF rfl rfl) ?_
  refine LD.nil ?_
  refine QM.sub (e' := [(5, _), (6, _), (35, _)]) au9 (QM.then ?_)
  refine wpM.condF rfl ?_
  refine wpM.skip <| QM.block_normal ?_
  refine QM.next (_) (SubM.mem au1) (fun _ h => h) ?_
  · exact ⟨by omega, by rw [hsn, ← hv]; unfold lsS; (first | exact (if_pos ⟨by omega, by first | exact .inl h2 | exact .inr h3⟩).symm | exact (if_neg (fun q => by first | omega | (rcases q.2 with q2 | q2; exact h2 q2; exact h3 q2))).symm)⟩
 ·
  rintro v D0 hD0 ⟨hk, hv⟩
  refine QM.sub (e' := [(5, _)]) ⟨rfl, trivial⟩ ?_
  refine QM.block_normal <| tR ?_
  refine LM.rd (oml rfl rfl rfl) ?_
  refine LM.as rfl <| nA [(4, _)] <| wpM.ret ?_
  refine QM.leaveDF (ds := [D0]) (.inl rfl) [.tmp 4] Tryz.results98 rfl (fun D h => by simp only [List.mem_cons, List.not_mem_nil, or_false] at h; omega) ?_
  intro w' hm' hc'
  refine ⟨?_, hc'⟩; show Value.int .i64 v = _; rw [hv, allA_len, List.take_of_length_le (Nat.le_refl _), lsF_all om]
 ·
  rintro ⟨⟩ D0 hD0 hx
  exact hx.elim
 rintro id ⟨⟩ D0 hD0 hx
 exact hx.elim
theorem sl_same {α : Type} {f : α → List Value} {F s n0 : Nat} {xs ys : List α} {v : Value} {m : Mem0} (h : Sl f F s n0 xs v m) (e : xs.map f = ys.map f) : Sl f F s n0 ys v m := by
  have hl : xs.length = ys.length := by have := congrArg List.length e; simpa using this
  rcases h with ⟨h1, h2, h3⟩ | ⟨b, cap, junk, h1, h2, h3, h4, h5, h6⟩
  · subst h3; exact .inl ⟨h1, h2, by cases ys with | nil => rfl | cons y ys => simp at hl⟩
  · have ea : arr f xs junk = arr f ys junk := by unfold arr; rw [List.flatMap_def, List.flatMap_def, e]
    rw [hl] at h2 h4 h6; rw [ea] at h3
    exact .inr ⟨b, cap, junk, h1, h2, h3, h4, h5, h6⟩
theorem pt_map {xs ys : List Pty} (h : xs.map (fun q => (q.w, q.v, q.h)) = ys.map (fun q => (q.w, q.v, q.h))) : xs.map fPt = ys.map fPt := by
  have := congrArg (List.map (fun (t : Int × BitVec 64 × Int) => [Value.int .i64 t.1, U t.2.1, Value.int .i64 t.2.2])) h
  rw [List.map_map, List.map_map] at this
  exact this
theorem leSet_spec {n0 b : Nat} {x : Ldm} {m : Mem0} (s : BitVec 64) (w : World) (hT : Tab w) (hn0 : 0 < n0) (h : LeM n0 b x m) (hM : Mem w m) : Ret Tryz.prog 90 #[.pointer (some ⟨b, 0, none⟩), U s] w (Upd m (fun u m' => LeM n0 b (ldSet x s) m') w) := by
 have hS0 : ¬ inM m 0 := (fun ⟨p, hp, e⟩ => by have := h.ge p hp; omega); obtain ⟨hB, ad, n, cap, ac, ms, rfl, hn, hs, hb, hac⟩ := h; have hl8 := hB.1
 refine Ret.enterM Tryz.func90 rfl Tryz.ntmps90 rfl (leC b ad n cap x.sl x.cr x.fl ac :: (ms ++ [])) ((inM (leC b ad n cap x.sl x.cr x.fl ac :: ms))) aM ?_
 refine wR ?_
 refine LM.box rfl rfl (fun b2 hb2 => ?_)
 refine nA [(1, _), (2, _)] <| wpM.seq <| wR ?_
 refine LM.rd (oml rfl rfl rfl) ?_
 refine LM.val (ov_peql kr rfl rfl) ?_
 refine nA [(1, _), (2, _), (9, _)] ?_
 refine wpM.condF rfl ?_
 refine wpM.skip <| tR <| LM.mv rfl ?_
 refine LM.rd (oml rfl rfl rfl) ?_
 refine LM.nc rfl <| LM.val (ovf 113 rfl rfl rfl rfl) ?_
 refine LM.rd (oml rfl rfl rfl) ?_
 refine LM.val (ov_len Tryz.underlying113 rfl) ?_
 refine LM.val (ov_ushl (a := 1#64) rfl rfl om) ?_
 refine LM.val (ov_usub (b := 1#64) rfl rfl) ?_
 refine LM.val (ov_uand rfl rfl) ?_
 refine LM.as rfl <| nA [(2, _), (4, _)] <| wpM.seq <| wR <| LM.mv rfl ?_
 refine LM.rd (oml rfl rfl rfl) ?_
 refine LM.nc rfl <| LM.val (ovf 51 rfl rfl rfl rfl) ?_
 refine LM.rd (oml rfl rfl rfl) ?_
 refine LM.val (ov_uandNot rfl rfl) ?_
 refine LM.callT (oc_call (enters_fn Tryz.func125 kr rfl) rfl) AllT.mono (fun w hm hc hg => all_spec _ w) ?_
 rintro u8 m8 ⟨c1, rfl, rfl, hc1⟩ -
 refine nA [(2, _), (4, _), (25, _)] <| wpM.block ?_
 refine wpM.toRange (α := List Pty × Mem0) (fun k ⟨l2, ms2⟩ => uBx c1 (nowO s n &&& ~~~ac) :: pB b2 b :: leC b ad n cap x.sl x.cr x.fl ac :: (ms2 ++ [])) ((x.l, ms)) au1 ?_
 refine wpM.range (α := List Pty × Mem0) (β := Unit) (enters_fn Tryz.func150 kr rfl) rfl (all_seq (s := nowO s n &&& ~~~ac)) (fun k ⟨l2, ms2⟩ => uBx c1 (nowO s n &&& ~~~ac) :: pB b2 b :: leC b ad n cap x.sl x.cr x.fl ac :: (ms2 ++ [])) (fun _ _ => top) (fun k ⟨l2, ms2⟩ => k ≤ (allL (nowO s n &&& ~~~ac)).length ∧ l2 = upF x ((allL (nowO s n &&& ~~~ac)).take k) ∧ Sl fPt 117 3 n0 l2 (.slice ad n cap) ms2 ∧ l2.length = n ∧ inn ms w.heap.size ms2) (fun ⟨⟩ => []) (fun _ => top) (fun c ⟨⟩ => False) (x.l, ms) rfl (fun _ h => h) ⟨Nat.zero_le _, by rw [List.take_zero]; rfl, hs, hn.symm, inn_refl _ _⟩ kr (by intro k av hav; obtain ⟨i, hi, rfl⟩ := allA_inv hav; have hlt := (List.getElem?_eq_some_iff.1 hi).1; have hal := allL_len s; have him := allL_mem.1 (List.mem_of_getElem? hi); have hin : i < n := (by rw [BitVec.getLsbD_and, now_get om] at him; simp at him; omega); have hsn : upF x ((allL (nowO s n &&& ~~~ac)).take (k + 1)) = (upF x ((allL (nowO s n &&& ~~~ac)).take k)).set i (upQ x (gP (upF x ((allL (nowO s n &&& ~~~ac)).take k)) i)) := (by rw [take_snoc 0 hlt, upF_snoc, List.getD_eq_getElem?_getD, hi]; rfl); rfl) (.inl trivial) (fun k a w hm hc _ _ => ⟨SubM.mem au1 w hm, hT.keep hc hS0⟩) (fun _ _ _ _ => gl_top _) (fun _ _ _ => gl_top _) (fun k x hx => mm_cons rfl (mm_cons rfl (mm_cons rfl (mm_app hx.2.2.1.wlk mm_nil)))) (fun c z _ => by ((repeat (refine mm_cons rfl ?_)); exact fun p hp => .inl (by first | exact hp | (simp at hp; done) | (simp [hp]; done) | (simp at hp ⊢; first | exact .inl hp | exact hp | (simp [hp]; done))))) ?_ ?_ ?_ ?_
 ·
  rintro k av ⟨l2, ms2⟩ l D rc n1 W1 hD hll hput hrc hav ⟨hk, hl2, hs2, hn2, hin2⟩
  change wpM _ _ _ _ _ _ _ ((l, Obj.loop rc) :: ([(D, Obj.deferred (some []))] ++ (uBx c1 (nowO s n &&& ~~~ac) :: pB b2 b :: leC b ad n cap x.sl x.cr x.fl ac :: (ms2 ++ [])))) _ _ _
  obtain ⟨i, hi, rfl⟩ := allA_inv hav; have hlt := (List.getElem?_eq_some_iff.1 hi).1; have hal := allL_len s; have him := allL_mem.1 (List.mem_of_getElem? hi); have hin : i < n := (by rw [BitVec.getLsbD_and, now_get om] at him; simp at him; omega); have hsn : upF x ((allL (nowO s n &&& ~~~ac)).take (k + 1)) = (upF x ((allL (nowO s n &&& ~~~ac)).take k)).set i (upQ x (gP (upF x ((allL (nowO s n &&& ~~~ac)).take k)) i)) := (by rw [take_snoc 0 hlt, upF_snoc, List.getD_eq_getElem?_getD, hi]; rfl)
  refine wpM.region ?_
  refine LM.as rfl <| nC [(2, _), (5, _)] ?_
  refine QM.toBodyF (hput k ⟨l2, ms2⟩) hll ?_
  refine wpM.block <| wR ?_
  refine LM.rd (oml rfl rfl rfl) ?_
  refine LM.nc rfl <| LM.val (ovf 113 rfl rfl rfl rfl) ?_
  refine LM.rd (oml rfl rfl rfl) ?_
  refine LM.mv rfl ?_
  refine LM.val (ov_idxSN au6 Tryz.underlying113 Tryz.sizeOf117 rfl rfl om) ?_
  refine LM.as rfl <| nA [(2, _), (6, _)] ?_
  refine wpM.draw [(0, 0), (1, 0), (2, 0), (3, 0), (4, 1), (5, 1), (6, 0), (7, 0), (8, 1), (9, 0), (10, 0), (11, 0), (12, 1), (13, 1), (14, 0), (15, 0), (16, 1), (17, 1), (18, 0), (19, 0), (20, 1), (21, 2), (22, 2), (23, 0), (24, 0), (25, 3)] kr kr ?_
  refine LD.val rfl rfl (ov_move rfl) <| LD.val rfl rfl (ov_move rfl) <| LD.val rfl rfl (ov_nilCheck rfl) <| LD.val rfl rfl (ovf 51 rfl rfl rfl rfl) ?_
  refine LD.rd rfl rfl (om_slE (j := 1) asm ir Tryz.isAgg51 rfl rfl au3 rfl (by rfl)) ?_
  refine LD.rd rfl rfl (oml rfl rfl rfl) ?_
  refine LD.val rfl rfl (ov_nilCheck rfl) <| LD.val rfl rfl (ovf 51 rfl rfl rfl rfl) ?_
  refine LD.rd rfl rfl (oml rfl rfl rfl) ?_
  refine LD.val rfl rfl (ov_move rfl) <| LD.val rfl rfl (ov_nilCheck rfl) <| LD.val rfl rfl (ovf 3 rfl rfl rfl rfl) ?_
  refine LD.rd rfl rfl (om_slE (j := 0) asm ir Tryz.isAgg3 rfl rfl au3 rfl (by rfl)) ?_
  refine LD.rd rfl rfl (oml rfl rfl rfl) ?_
  refine LD.val rfl rfl (ov_nilCheck rfl) <| LD.val rfl rfl (ovf 3 rfl rfl rfl rfl) ?_
  refine LD.rd rfl rfl (oml rfl rfl rfl) ?_
  refine LD.rd rfl rfl (oml rfl rfl rfl) ?_
  refine LD.val rfl rfl (ov_nilCheck rfl) <| LD.val rfl rfl (ovf 3 rfl rfl rfl rfl) ?_
  refine LD.rd rfl rfl (oml rfl rfl rfl) ?_
  refine dE rfl rfl Tryz.func126 rfl (fun w hm hc hg => uslack_spec _ _ _ w) ?_
  refine dE rfl rfl Tryz.func114 rfl (fun w hm hc hg => uclamp_spec _ _ _ w) ?_
  refine LD.val rfl rfl (ov_nilCheck rfl) <| LD.val rfl rfl (ovf 51 rfl rfl rfl rfl) ?_
  refine LD.tail rfl rfl ?_
  refine LM.stS ((upQ x (gP l2 i))) (j := 1) (i := i) asm ir Tryz.sizeOf51 rfl rfl rfl au3 rfl (by decide) (by rfl) rfl (fun p hp hlt => by rcases hin2 p hp with q | ⟨q, hq, e⟩; exact absurd hlt om; exact ⟨q, List.mem_cons_of_mem _ hq, e⟩) (fun ms1 hss1 hmm1 => ?_)
  refine LM.nil ?_
  refine QM.qn ?_
  refine QM.sub (e' := []) trivial ?_
  refine QM.block_normal ?_
  refine QM.next (l2.set i (upQ x (gP l2 i)), ms1) (SubM.mem au1) (fun _ h => h) ?_
  · exact ⟨by omega, by rw [hl2]; exact hsn.symm, hss1, by rw [List.length_set]; exact hn2, fun p hp => by obtain ⟨q, hq, e⟩ := hmm1 p hp; rw [← e]; exact hin2 q hq⟩
 ·
  rintro ⟨l2, ms2⟩ D0 hD0 ⟨hk, hl2, hs2, hn2, hin2⟩
  dsimp only
  refine QM.sub (e' := [(2, _), (4, _)]) au9 ?_
  refine QM.block_normal <| tR ?_
  have hl3 : l2 = upF x (allL (nowO s n &&& ~~~ac)) := (by rw [hl2, allA_len, List.take_of_length_le (Nat.le_refl _)]); have hs3 : Sl fPt 117 3 n0 (stX x s) (.slice ad n cap) ms2 := sl_same hs2 (by rw [hl3]; exact pt_map (up_end hn hl8 hac)); clear hs2; have h1 : LeM n0 b { x with l := stX x s } (leC b ad n cap x.sl x.cr x.fl (nowO s n) :: ms2) := ⟨⟨by show (stX x s).length ≤ 8; rw [stX_len]; exact hl8, hB.2⟩, ad, n, cap, nowO s n, ms2, rfl, by show n = (stX x s).length; rw [stX_len]; exact hn, hs3, hb, now_acw hn hl8⟩; have hsl := stX_len x s
  refine LM.rd (oml rfl rfl rfl) ?_
  refine LM.mv rfl <| LM.nc rfl <| LM.val (ovf 51 rfl rfl rfl rfl) ?_
  refine LM.st Tryz.sizeOf51 rfl rfl rfl au5 rfl auH ?_
  refine LM.mem (SubM.mem (M' := leC b ad n cap x.sl x.cr x.fl (nowO s n) :: ([(D0, Obj.deferred (some []))] ++ pB b2 b :: (ms2 ++ []))) au1) ?_
  refine nB [(2, _), (4, _)] ?_
  refine LM.rd (oml rfl rfl rfl) ?_
  refine LM.mv rfl ?_
  refine cE Tryz.func98 rfl (fun w hm hc hg => leLst_spec (nowO s n) w (hT.keep hc hS0) h1 (hm.pick (leC b ad n cap x.sl x.cr x.fl (nowO s n) :: ms2))) ?_
  refine LM.as rfl <| nB [(2, _), (7, _)] ?_
  have hbr := least_in (stX x s) (nowO s n) (stX x s).length; generalize hbq : leastN (stX x s) (nowO s n) (stX x s).length = bq at hbr
  refine LM.mv rfl <| LM.val (ov_geq rfl rfl) <| nA [(2, _), (7, _), (66, _)] ?_
  refine wpM.condD rfl (fun h1 => ?_) (fun h1 => ?_)
  ·
   obtain ⟨i, rfl⟩ : ∃ i : Nat, bq = i := ⟨bq.toNat, by omega⟩; have hi : i < (stX x s).length := om
   refine wpM.draw [(0, 1), (1, 1), (2, 0), (3, 0), (4, 1), (5, 1), (6, 0), (7, 0), (8, 1), (9, 0), (10, 0), (11, 0), (12, 1), (13, 0), (14, 0), (15, 0), (16, 3)] kr kr ?_
   refine LD.rd rfl rfl (oml rfl rfl rfl) ?_
   refine LD.rd rfl rfl (oml rfl rfl rfl) ?_
   refine LD.val rfl rfl (ov_nilCheck rfl) <| LD.val rfl rfl (ovf 51 rfl rfl rfl rfl) ?_
   refine LD.rd rfl rfl (oml rfl rfl rfl) ?_
   refine LD.rd rfl rfl (oml rfl rfl rfl) ?_
   refine LD.val rfl rfl (ov_nilCheck rfl) <| LD.val rfl rfl (ovf 113 rfl rfl rfl rfl) ?_
   refine LD.rd rfl rfl (oml rfl rfl rfl) ?_
   refine LD.val rfl rfl (ov_move rfl) ?_
   refine LD.val rfl rfl (ov_idxSN au6 Tryz.underlying113 Tryz.sizeOf117 rfl rfl om) ?_
   refine LD.val rfl rfl (ovf 51 rfl rfl rfl rfl) ?_
   refine LD.rd rfl rfl (om_slE (j := 1) asm ir Tryz.isAgg51 rfl rfl au3 rfl (by rfl)) ?_
   refine LD.val rfl rfl (ov_umax rfl rfl) ?_
   refine LD.val rfl rfl (ov_nilCheck rfl) <| LD.val rfl rfl (ovf 51 rfl rfl rfl rfl) ?_
   refine LD.tail rfl rfl ?_
   refine LM.st Tryz.sizeOf51 rfl rfl rfl au5 rfl auH ?_
   refine LM.nil ?_
   refine QM.qn ?_
   refine QM.sub (e' := []) trivial ?_
   refine QM.leaveDF (ds := [D0]) (.inr rfl) [] Tryz.results90 rfl (fun D h => by simp only [List.mem_cons, List.not_mem_nil, or_false] at h; omega) ?_
   intro w' hm' hc'
   rw [hsl, ← hn, now_least om] at hbq; rw [hn] at hbq; have hx : ldSet x s = { x with l := stX x s, fl := maxO x.fl (gP (stX x s) i).v } := (by unfold ldSet; rw [hbq, if_neg om]; rfl); rw [hx]; exact Upd.imp (lem_leaf (u0 := resV []) (x' := { x with l := stX x s, fl := maxO x.fl (gP (stX x s) i).v }) ⟨by show (stX x s).length ≤ 8; omega, hB.2⟩ (by show n = (stX x s).length; omega) hs3 hb (now_acw hn hl8) hm' au1 hc' hin2) (fun u m' h => h.2)
  refine wpM.skip ?_
  refine QM.leaveDF (ds := [D0]) (.inr rfl) [] Tryz.results90 rfl (fun D h => by simp only [List.mem_cons, List.not_mem_nil, or_false] at h; omega) ?_
  intro w' hm' hc'
  rw [hsl, ← hn, now_least om] at hbq; rw [hn] at hbq; have hx : ldSet x s = { x with l := stX x s } := (by unfold ldSet; rw [hbq, if_pos om]); rw [hx]; exact Upd.imp (lem_leaf (u0 := resV []) (x' := { x with l := stX x s }) ⟨by show (stX x s).length ≤ 8; omega, hB.2⟩ (by show n = (stX x s).length; omega) hs3 hb (now_acw hn hl8) hm' au1 hc' hin2) (fun u m' h => h.2)
 ·
  rintro ⟨⟩ D0 hD0 hx
  exact hx.elim
 rintro id ⟨⟩ D0 hD0 hx
 exact hx.elim
def fRy (q : Pty) : List Value := [.int .i64 q.w, U q.v, .int .i64 q.h, .bool q.a]
abbrev rlC (b : Nat) (ad : Option Addr) (n cap : Nat) (sl cr : Int) (fl : BitVec 64) : Nat × Obj := (b, .cells #[.slice ad n cap, .int .i64 sl, .int .i64 cr, U fl] 99 (0, 0))
def RdM (n0 b : Nat) (x : Ldm) (m : Mem0) : Prop := LdB x ∧ ∃ (ad : Option Addr) (n cap : Nat) (ms : Mem0), m = rlC b ad n cap x.sl x.cr x.fl :: ms ∧ n = x.l.length ∧ Sl fRy 96 4 n0 x.l (.slice ad n cap) ms ∧ n0 ≤ b
theorem RdM.ge {n0 b : Nat} {x : Ldm} {m : Mem0} (h : RdM n0 b x m) : ∀ p ∈ m, n0 ≤ p.1 := by
  obtain ⟨hB, ad, n, cap, ms, rfl, hn, hs, hb⟩ := h
  intro p hp
  rcases List.mem_cons.1 hp with rfl | hp
  · exact hb
  · exact hs.ge p hp
theorem RdM.wlk {n0 b : Nat} {x : Ldm} {m : Mem0} (h : RdM n0 b x m) : ∀ p ∈ m, wlk p.2 = false := by
  obtain ⟨hB, ad, n, cap, ms, rfl, hn, hs, hb⟩ := h
  intro p hp
  rcases List.mem_cons.1 hp with rfl | hp
  · rfl
  · exact hs.wlk p hp
theorem RdM.mono {n0 n1 b : Nat} {x : Ldm} {m : Mem0} (h : RdM n0 b x m) (hn : n1 ≤ n0) : RdM n1 b x m := by
  obtain ⟨hB, ad, n, cap, ms, rfl, hn', hs, hb⟩ := h
  exact ⟨hB, ad, n, cap, ms, rfl, hn', hs.mono hn, Nat.le_trans hn hb⟩
theorem tend_eq (t : Trn) (sl : Int) : (⟨t.p, if bringO sl 1 16 > t.u then bringO sl 1 16 else t.u⟩ : Trn) = endT t sl := by
  unfold endT
  by_cases h : t.u < bringO sl 1 16
  · rw [if_pos h, if_pos (show bringO sl 1 16 > t.u from h)]
  · rw [if_neg h, if_neg (show ¬ bringO sl 1 16 > t.u from h)]
theorem tubring_spec (n : Int) (w : World) : Ret Tryz.prog 87 #[.int .i64 n] w (fun v w' => v = .int .i64 (bringO n 1 16) ∧ Ext w w') := by
 refine Ret.enterM Tryz.func87 rfl Tryz.ntmps87 rfl ([]) (no) (Mem.nil w) ?_
 refine wR <| LM.as rfl <| nB [(0, _)] <| LM.mv rfl ?_
 refine LM.val (ov_max rfl rfl) ?_
 refine LM.val (ov_min rfl rfl) ?_
 refine LM.as rfl <| nA [(2, _)] <| wpM.ret ?_
 refine qL Tryz.results87 rfl fun w' hm' hc' hg' => ?_
 refine ⟨?_, hc'⟩; show Value.int .i64 _ = _; rw [← bring_eq (show (1 : Int) ≤ 16 by decide)]
theorem tumay_spec (t : Trn) (sl p : Int) (w : World) : Ret Tryz.prog 40 #[vTr t, .int .i64 sl, .int .i64 p] w (fun v w' => v = .bool (mayT t sl p) ∧ Ext w w') := by
 refine Ret.enterM Tryz.func40 rfl Tryz.ntmps40 rfl ([]) (no) (Mem.nil w) ?_
 refine wR ?_
 refine LM.box rfl rfl (fun b3 hb3 => ?_)
 refine LM.as rfl <| nA [(1, _), (2, _), (3, _)] <| wpM.seq ?_
 refine wpM.draw [(0, 0), (1, 0), (2, 0), (3, 0), (4, 1), (5, 0), (6, 0), (7, 0), (8, 0), (9, 0), (10, 1), (11, 0), (12, 2), (13, 0), (14, 0), (15, 0)] kr kr ?_
 refine LD.val rfl rfl (ov_move rfl) ?_
 refine LD.val rfl rfl (ov_geq rfl rfl) ?_
 refine LD.val rfl rfl (ov_move rfl) ?_
 refine LD.splitD (t := 9) rfl (fun h1 => ?_) (fun h1 => ?_)
 ·
  refine LD.val rfl ⟨9, _, rfl, rfl, rfl⟩ (ovf 3 rfl rfl rfl rfl) ?_
  refine LD.rd rfl ⟨9, _, rfl, rfl, rfl⟩ (oml rfl rfl rfl) ?_
  refine LD.val rfl ⟨9, _, rfl, rfl, rfl⟩ (ov_move rfl) ?_
  refine LD.val rfl ⟨9, _, rfl, rfl, rfl⟩ (ov_eql rfl rfl) ?_
  refine LD.val rfl rfl (ov_pickT rfl rfl) ?_
  refine LD.val rfl rfl (ov_move rfl) ?_
  refine LD.splitD (t := 15) rfl (fun h2 => ?_) (fun h2 => ?_)
  ·
   refine LD.val rfl ⟨15, _, rfl, rfl, rfl⟩ (ovf 3 rfl rfl rfl rfl) ?_
   refine LD.rd rfl ⟨15, _, rfl, rfl, rfl⟩ (oml rfl rfl rfl) ?_
   refine LD.val rfl ⟨15, _, rfl, rfl, rfl⟩ (ov_move rfl) ?_
   refine dE rfl ⟨15, _, rfl, rfl, rfl⟩ Tryz.func87 rfl (fun w hm hc hg => tubring_spec _ w) ?_
   refine LD.val rfl ⟨15, _, rfl, rfl, rfl⟩ (ov_lss rfl rfl) ?_
   refine LD.val rfl rfl (ov_pickT rfl rfl) ?_
   refine LD.val rfl rfl (ov_assign rfl) <| LD.nil ?_
   refine QM.sub (e' := [(6, _)]) ⟨rfl, trivial⟩ (QM.then ?_)
   refine wpM.ret ?_
   refine qL Tryz.results40 rfl fun w' hm' hc' hg' => ?_
   refine ⟨?_, hc'⟩; simp only [resV, mayT, h1, h2, decide_true, decide_false, Bool.true_and, Bool.false_and, Bool.and_true, Bool.and_false, Bool.not_true, Bool.not_false, Bool.true_or, Bool.false_or, Bool.or_true, Bool.or_false, ne_eq, not_true_eq_false, not_false_eq_true, Bool.and_self]
  refine LD.drop rfl rfl ⟨15, _, rfl, rfl, rfl⟩ <| LD.drop rfl rfl ⟨15, _, rfl, rfl, rfl⟩ <| LD.drop rfl rfl ⟨15, _, rfl, rfl, rfl⟩ <| LD.drop rfl rfl ⟨15, _, rfl, rfl, rfl⟩ <| LD.drop rfl rfl ⟨15, _, rfl, rfl, rfl⟩ ?_
  refine LD.val rfl rfl (ov_pickF rfl rfl) ?_
  refine LD.val rfl rfl (ov_assign rfl) <| LD.nil ?_
  refine QM.sub (e' := [(6, _)]) ⟨rfl, trivial⟩ (QM.then ?_)
  refine wpM.ret ?_
  refine qL Tryz.results40 rfl fun w' hm' hc' hg' => ?_
  refine ⟨?_, hc'⟩; simp only [resV, mayT, h1, h2, decide_true, decide_false, Bool.true_and, Bool.false_and, Bool.and_true, Bool.and_false, Bool.not_true, Bool.not_false, Bool.true_or, Bool.false_or, Bool.or_true, Bool.or_false, ne_eq, not_true_eq_false, not_false_eq_true, Bool.and_self]
 refine LD.drop rfl rfl ⟨9, _, rfl, rfl, rfl⟩ <| LD.drop rfl rfl ⟨9, _, rfl, rfl, rfl⟩ <| LD.drop rfl rfl ⟨9, _, rfl, rfl, rfl⟩ <| LD.drop rfl rfl ⟨9, _, rfl, rfl, rfl⟩ ?_
 refine LD.val rfl rfl (ov_pickF rfl rfl) ?_
 refine LD.val rfl rfl (ov_move rfl) <| LD.drop rfl rfl ⟨15, _, rfl, rfl, rfl⟩ <| LD.drop rfl rfl ⟨15, _, rfl, rfl, rfl⟩ <| LD.drop rfl rfl ⟨15, _, rfl, rfl, rfl⟩ <| LD.drop rfl rfl ⟨15, _, rfl, rfl, rfl⟩ <| LD.drop rfl rfl ⟨15, _, rfl, rfl, rfl⟩ ?_
 refine LD.val rfl rfl (ov_pickF rfl rfl) ?_
 refine LD.val rfl rfl (ov_assign rfl) <| LD.nil ?_
 refine QM.sub (e' := [(6, _)]) ⟨rfl, trivial⟩ (QM.then ?_)
 refine wpM.ret ?_
 refine qL Tryz.results40 rfl fun w' hm' hc' hg' => ?_
 refine ⟨?_, hc'⟩; simp only [resV, mayT, h1, decide_true, decide_false, Bool.true_and, Bool.false_and, Bool.and_true, Bool.and_false, Bool.not_true, Bool.not_false, Bool.true_or, Bool.false_or, Bool.or_true, Bool.or_false, ne_eq, not_true_eq_false, not_false_eq_true, Bool.and_self]
theorem tunext_spec (t : Trn) (sl : Int) (s : BitVec 64) (le : Int) (w : World) : Ret Tryz.prog 97 #[vTr t, .int .i64 sl, U s, .int .i64 le] w (fun v w' => v = vTr (nextT t sl s le) ∧ Ext w w') := by
 refine Ret.enterM Tryz.func97 rfl Tryz.ntmps97 rfl ([]) (no) (Mem.nil w) ?_
 refine wR ?_
 refine LM.box rfl rfl (fun b4 hb4 => ?_)
 refine LM.alloc Tryz.zeroValue64 rfl (fun b8 hb8 => ?_)
 refine nA [(1, _), (2, _), (3, _), (4, _), (8, _)] <| wpM.seq <| wR <| LM.mv rfl ?_
 refine LM.val (ov_ueql (b := 0#64) rfl rfl) ?_
 refine LM.mv rfl ?_
 refine LM.splitD (t := 11) rfl (fun h1 => ?_) (fun h1 => ?_)
 ·
  refine LM.dr 11 rfl rfl rfl <| LM.dr 11 rfl rfl rfl <| LM.dr 11 rfl rfl rfl <| LM.dr 11 rfl rfl rfl ?_
  refine LM.dropU (t := 11) rfl rfl rfl ?_
  refine LM.dropX (t := 16) rfl rfl ?_
  refine LM.dropX (t := 16) rfl rfl ?_
  refine LM.dropX (t := 16) rfl rfl ?_
  refine LM.dropX (t := 16) rfl rfl ?_
  refine LM.dropX (t := 16) rfl rfl ?_
  refine LM.dr 11 rfl rfl rfl <| LM.val (ov_pickT rfl rfl) <| nA [(3, _), (4, _), (8, _), (23, _)] ?_
  refine wpM.condT rfl ?_
  refine wR ?_
  refine LM.rd (om_ldW Tryz.isAgg64 Tryz.sizeOf64 rfl rfl) ?_
  refine LM.stW Tryz.sizeOf64 rfl rfl rfl rfl au7 au8 ?_
  refine nA [(8, _)] <| wpM.ret <| QM.then_ret ?_
  refine QM.leaveCs (ds := ([])) (.inl rfl) [.cell 8 64] Tryz.results97 hd_nil (rc_w rfl Tryz.isAgg64 Tryz.sizeOf64 rfl rc_nil) ?_
  intro w' hm' hc'
  refine ⟨?_, hc'⟩; rw [show nextT t sl s le = t from if_pos (.inl h1)]; rfl
 refine LM.sp 11 rfl rfl rfl <| LM.mv rfl <| LM.sp 11 rfl rfl rfl <| LM.val (ovf 3 rfl rfl rfl rfl) <| LM.sp 11 rfl rfl rfl ?_
 refine LM.rd (oml rfl rfl rfl) ?_
 refine LM.sp 11 rfl rfl rfl ?_
 refine cE Tryz.func133 rfl (fun w hm hc hg => ihas_spec _ _ w) ?_
 refine LM.sp 11 rfl rfl rfl <| LM.mv rfl ?_
 first | refine LM.splitD (t := 16) rfl (fun h2 => ?_) (fun h2 => ?_) | refine LM.splitB (t := 16) rfl (fun h2 => ?_) (fun h2 => ?_)
 ·
  refine LM.sp 16 rfl rfl rfl ?_
  refine LM.rd (om_ldW Tryz.isAgg64 Tryz.sizeOf64 rfl rfl) ?_
  refine LM.sp 16 rfl rfl rfl <| LM.mv rfl <| LM.sp 16 rfl rfl rfl <| LM.val (ovf 3 rfl rfl rfl rfl) <| LM.sp 16 rfl rfl rfl ?_
  refine LM.rd (oml rfl rfl rfl) ?_
  refine LM.sp 16 rfl rfl rfl ?_
  refine cE Tryz.func40 rfl (fun w hm hc hg => tumay_spec t _ _ w) ?_
  refine LM.sp 11 rfl rfl rfl <| LM.val (ov_pickT rfl rfl) <| LM.val (ov_pickF rfl rfl) <| nA [(3, _), (4, _), (8, _), (23, _)] ?_
  first | refine wpM.condD rfl (fun h3 => ?_) (fun h3 => ?_) | refine wpM.condB rfl (fun h3 => ?_) (fun h3 => ?_)
  ·
   refine wR ?_
   refine LM.rd (om_ldW Tryz.isAgg64 Tryz.sizeOf64 rfl rfl) ?_
   refine LM.stW Tryz.sizeOf64 rfl rfl rfl rfl au7 au8 ?_
   refine nA [(8, _)] <| wpM.ret <| QM.then_ret ?_
   refine QM.leaveCs (ds := ([])) (.inl rfl) [.cell 8 64] Tryz.results97 hd_nil (rc_w rfl Tryz.isAgg64 Tryz.sizeOf64 rfl rc_nil) ?_
   intro w' hm' hc'
   refine ⟨?_, hc'⟩; rw [show nextT t sl s le = t from if_pos (.inr ⟨h2, h3⟩)]; rfl
  refine wpM.skip <| tR <| LM.mv rfl ?_
  refine LM.val (ov_build (cs := #[_, _]) rfl (by first | rfl | kernel_rfl)) ?_
  refine LM.stW Tryz.sizeOf64 rfl rfl rfl rfl au7 au8 ?_
  refine nA [(8, _)] <| wpM.ret ?_
  refine QM.leaveCs (ds := ([])) (.inl rfl) [.cell 8 64] Tryz.results97 hd_nil (rc_w rfl Tryz.isAgg64 Tryz.sizeOf64 rfl rc_nil) ?_
  intro w' hm' hc'
  refine ⟨?_, hc'⟩; rw [show nextT t sl s le = ⟨le, 0⟩ from if_neg (fun q => by rcases q with q | q; exact h1 q; rw [h3] at q; cases q.2)]; rfl
 refine LM.dr 16 rfl rfl rfl <| LM.dr 16 rfl rfl rfl <| LM.dr 16 rfl rfl rfl <| LM.dr 16 rfl rfl rfl <| LM.dr 16 rfl rfl rfl <| LM.sp 11 rfl rfl rfl <| LM.val (ov_pickF rfl rfl) <| LM.val (ov_pickF rfl rfl) <| nA [(3, _), (4, _), (8, _), (23, _)] ?_
 refine wpM.condF rfl ?_
 refine wpM.skip <| tR <| LM.mv rfl ?_
 refine LM.val (ov_build (cs := #[_, _]) rfl (by first | rfl | kernel_rfl)) ?_
 refine LM.stW Tryz.sizeOf64 rfl rfl rfl rfl au7 au8 ?_
 refine nA [(8, _)] <| wpM.ret ?_
 refine QM.leaveCs (ds := ([])) (.inl rfl) [.cell 8 64] Tryz.results97 hd_nil (rc_w rfl Tryz.isAgg64 Tryz.sizeOf64 rfl rc_nil) ?_
 intro w' hm' hc'
 refine ⟨?_, hc'⟩; rw [show nextT t sl s le = ⟨le, 0⟩ from if_neg (fun q => by rcases q with q | q; exact h1 q; rw [h2] at q; cases q.1)]; rfl
theorem tuspend_spec (t : Trn) (w : World) (hu : -1000000 ≤ t.u) : Ret Tryz.prog 63 #[vTr t] w (fun v w' => v = vTr (spendT t) ∧ Ext w w') := by
 refine Ret.enterM Tryz.func63 rfl Tryz.ntmps63 rfl ([]) (no) (Mem.nil w) ?_
 refine wR ?_
 refine LM.box rfl rfl (fun b1 hb1 => ?_)
 refine LM.alloc Tryz.zeroValue64 rfl (fun b2 hb2 => ?_)
 refine nA [(1, _), (2, _)] <| wpM.seq <| wR <| LM.val (ovf 3 rfl rfl rfl rfl) ?_
 refine LM.rd (oml rfl rfl rfl) ?_
 refine LM.val (ov_lss rfl rfl) <| nA [(1, _), (2, _), (5, _)] ?_
 refine wpM.condD rfl (fun h1 => ?_) (fun h1 => ?_)
 ·
  refine wpM.region ?_
  refine LM.val (ovf 3 rfl rfl rfl rfl) ?_
  refine LM.rd (oml rfl rfl rfl) ?_
  refine LM.val (ov_add64 rfl rfl om) ?_
  refine LM.val (ovf 3 rfl rfl rfl rfl) ?_
  refine LM.st Tryz.sizeOf3 rfl rfl rfl au5 rfl au8 ?_
  refine nB [(1, _), (2, _)] ?_
  refine LM.rd (om_ldW Tryz.isAgg64 Tryz.sizeOf64 rfl rfl) ?_
  refine LM.stW Tryz.sizeOf64 rfl rfl rfl rfl au7 au8 ?_
  refine nA [(2, _)] <| wpM.ret ?_
  refine QM.leaveCs (ds := ([])) (.inl rfl) [.cell 2 64] Tryz.results63 hd_nil (rc_w rfl Tryz.isAgg64 Tryz.sizeOf64 rfl rc_nil) ?_
  intro w' hm' hc'
  refine ⟨?_, hc'⟩; rw [show spendT t = ⟨t.p, t.u + 1⟩ from if_pos h1]; rfl
 refine wpM.skip <| tR ?_
 refine LM.rd (om_ldW Tryz.isAgg64 Tryz.sizeOf64 rfl rfl) ?_
 refine LM.stW Tryz.sizeOf64 rfl rfl rfl rfl au7 au8 ?_
 refine nA [(2, _)] <| wpM.ret ?_
 refine QM.leaveCs (ds := ([])) (.inl rfl) [.cell 2 64] Tryz.results63 hd_nil (rc_w rfl Tryz.isAgg64 Tryz.sizeOf64 rfl rc_nil) ?_
 intro w' hm' hc'
 refine ⟨?_, hc'⟩; rw [show spendT t = t from if_neg h1]; rfl
theorem tuend_spec (t : Trn) (sl : Int) (w : World) : Ret Tryz.prog 69 #[vTr t, .int .i64 sl] w (fun v w' => v = vTr (endT t sl) ∧ Ext w w') := by
 refine Ret.enterM Tryz.func69 rfl Tryz.ntmps69 rfl ([]) (no) (Mem.nil w) ?_
 refine wR ?_
 refine LM.box rfl rfl (fun b2 hb2 => ?_)
 refine LM.alloc Tryz.zeroValue64 rfl (fun b4 hb4 => ?_)
 refine nA [(1, _), (2, _), (4, _)] <| wpM.seq ?_
 refine wpM.draw [(0, 0), (1, 1), (2, 0), (3, 2), (4, 0), (5, 0), (6, 3)] kr kr ?_
 refine LD.val rfl rfl (ovf 3 rfl rfl rfl rfl) ?_
 refine LD.rd rfl rfl (oml rfl rfl rfl) ?_
 refine LD.val rfl rfl (ov_move rfl) ?_
 refine dE rfl rfl Tryz.func87 rfl (fun w hm hc hg => tubring_spec _ w) ?_
 refine LD.val rfl rfl (ov_max rfl rfl) ?_
 refine LD.val rfl rfl (ovf 3 rfl rfl rfl rfl) ?_
 refine LD.tail rfl rfl ?_
 refine LM.st Tryz.sizeOf3 rfl rfl rfl au5 rfl au8 ?_
 refine LM.nil ?_
 refine QM.qn ?_
 refine QM.sub (e' := [(2, _), (4, _)]) au9 (QM.then (wpM.seq (wpM.region ?_)))
 refine LM.rd (om_ldW Tryz.isAgg64 Tryz.sizeOf64 rfl rfl) ?_
 refine LM.stW Tryz.sizeOf64 rfl rfl rfl rfl au7 au8 ?_
 refine nA [(4, _)] <| wpM.ret ?_
 refine QM.leaveCs (ds := ([])) (.inl rfl) [.cell 4 64] Tryz.results69 hd_nil (rc_w rfl Tryz.isAgg64 Tryz.sizeOf64 rfl rc_nil) ?_
 intro w' hm' hc'
 refine ⟨?_, hc'⟩; show vTr ⟨t.p, if bringO sl 1 16 > t.u then bringO sl 1 16 else t.u⟩ = _; rw [tend_eq]
def ptN (w : Int) : Pty := ⟨bringO w 1 16, 0#64, 0, false⟩
def ptL (ws : List Int) (i : Nat) : List Pty := (ws.take i).map ptN
theorem ptL_len {ws : List Int} {i : Nat} (h : i ≤ ws.length) : (ptL ws i).length = i := by unfold ptL; rw [List.length_map, List.length_take]; omega
theorem ptL_succ {ws : List Int} {i : Nat} (h : i < ws.length) : ptL ws (i + 1) = ptL ws i ++ [ptN (ws.getD i 0)] := by
  unfold ptL; rw [take_snoc 0 h, List.map_append]; rfl
theorem ptL_end {ws : List Int} {k : Nat} (s c : Int) (h : k = min ws.length 8) : ptL ws k = (ldNew ws s c).l := by
  show (ws.take k).map ptN = (ws.take 8).map _
  have : ws.take k = ws.take 8 := by
    rcases Nat.le_total ws.length 8 with q | q
    · rw [List.take_of_length_le om, List.take_of_length_le om]
    · rw [show k = 8 by omega]
  rw [this]; rfl
theorem ldNew_len (ws : List Int) (s c : Int) : (ldNew ws s c).l.length = min ws.length 8 := by
  show ((ws.take 8).map _).length = _; rw [List.length_map, List.length_take]; omega
def LeN (ws : List Int) (s c : Int) (n0 : Nat) (v : Value) (m : Mem0) : Prop := ∃ b, v = .pointer (some ⟨b, 0, none⟩) ∧ LeM n0 b (ldNew ws s c) m
theorem LeN.mono {ws : List Int} {s c : Int} : ∀ (n n' : Nat) (v : Value) (m : Mem0), n' ≤ n → LeN ws s c n v m → LeN ws s c n' v m := fun n n' v m hn ⟨b, h1, h⟩ => ⟨b, h1, h.mono hn⟩
def RdN (ws : List Int) (s c : Int) (n0 : Nat) (v : Value) (m : Mem0) : Prop := ∃ b, v = .pointer (some ⟨b, 0, none⟩) ∧ RdM n0 b (ldNew ws s c) m
theorem RdN.mono {ws : List Int} {s c : Int} : ∀ (n n' : Nat) (v : Value) (m : Mem0), n' ≤ n → RdN ws s c n v m → RdN ws s c n' v m := fun n n' v m hn ⟨b, h1, h⟩ => ⟨b, h1, h.mono hn⟩
theorem ldNew_B (ws : List Int) (s c : Int) : LdB (ldNew ws s c) := ⟨by show ((ws.take 8).map _).length ≤ 8; rw [List.length_map, List.length_take]; omega, bring_in (by decide), bring_in (by decide)⟩
theorem ldNew_ac (ws : List Int) (s c : Int) : AcW 0#64 (ldNew ws s c).l := fun p => by
  have : (gP (ldNew ws s c).l p).a = false ∨ ¬ p < (ldNew ws s c).l.length := by
    by_cases h : p < (ldNew ws s c).l.length
    · left; unfold gP; rw [List.getD_eq_getElem?_getD, List.getElem?_eq_getElem h]
      have e : ∀ q ∈ (ldNew ws s c).l, q.a = false := by
        intro q hq
        unfold ldNew at hq
        obtain ⟨w, _, rfl⟩ := List.mem_map.1 hq
        rfl
      exact e _ (List.getElem_mem h)
    · exact .inr h
  rcases this with h | h
  · rw [h]; simp
  · rw [decide_eq_false h]; simp
theorem lenew_spec {ws : List Int} {ad : Option Addr} {n cap : Nat} (s c : Int) (w : World) (hn : n = ws.length) (hl : Sr fI 1 ws (.slice ad n cap) w) : Ret Tryz.prog 35 #[.slice ad n cap, .int .i64 s, .int .i64 c] w (fun v w' => Ext w w' ∧ ∃ m, LeN ws s c w.heap.size v m ∧ Mem w' m ∧ ∀ p ∈ m, w.heap.size ≤ p.1) := by
 obtain ⟨k, hk, hk8, hkn⟩ : ∃ k : Nat, (if (8 : Int) < (n : Int) then (8 : Int) else (n : Int)) = (k : Int) ∧ k ≤ 8 ∧ k = min n 8 := ⟨min n 8, by by_cases q : (8 : Int) < n; rw [if_pos q]; omega; rw [if_neg q]; omega, by omega, rfl⟩
 refine Ret.enterM Tryz.func35 rfl Tryz.ntmps35 rfl ([]) (no) (Mem.nil w) ?_
 refine wR <| LM.as rfl <| nB [(0, _), (1, _), (2, _)] <| LM.mv rfl ?_
 refine cE Tryz.func83 rfl (fun w hm hc hg => lbring_spec _ 32 w (by decide)) ?_
 refine LM.mv rfl ?_
 refine cE Tryz.func83 rfl (fun w hm hc hg => lbring_spec _ 32 w (by decide)) ?_
 refine LM.val (ov_build (cs := #[_, _, _, _, _]) rfl (by first | rfl | kernel_rfl)) ?_
 refine LM.box rfl rfl (fun b15 hb15 => ?_)
 refine LM.as rfl <| nA [(0, _), (7, _)] <| wpM.seq <| wR <| LM.mv rfl <| LM.mv rfl <| LM.val (ov_len Tryz.underlying24 rfl) ?_
 refine LM.val (ov_min rfl rfl) ?_
 rw [hk]; have hcl := hl.open.2.1; have hsk := Sr.take (k := k) hl om; have hkl : (ws.take k).length = k := (by rw [List.length_take]; omega)
 refine LM.val (ov_subHi Tryz.underlying24 Tryz.sizeOf3 rfl rfl om om) ?_
 rw [Int.toNat_natCast]
 refine LM.val (ov_len Tryz.underlying24 rfl) <| LM.mv rfl <| nA [(7, _), (20, _), (21, _), (22, _)] <| wpM.block ?_
 refine wpM.loopK0 (α := Nat × Option Addr × Nat × Nat × Mem0) (fun ⟨i, ad2, n2, cap2, ms⟩ => [(22, .int .i64 (i : Nat))]) [(7, _), (20, _), (21, _)] (fun ⟨i, ad2, n2, cap2, ms⟩ => leC b15 ad2 n2 cap2 (bringO s 1 32) (bringO c 1 32) 0#64 0#64 :: (ms ++ [])) (fun ⟨i, ad2, n2, cap2, ms⟩ => i ≤ k ∧ n2 = i ∧ Sl fPt 117 3 w.heap.size (ptL ws i) (.slice ad2 n2 cap2) ms) (fun ⟨i, ad2, n2, cap2, ms⟩ => k - i) ((0, none, 0, 0, [])) ⟨au2, rfl, rfl, rfl, trivial⟩ au1 ⟨Nat.zero_le _, rfl, .nil _ _ _ _⟩ ?_
 rintro ⟨i, ad2, n2, cap2, ms⟩ ⟨hi, hn2, hs⟩
 change wpM _ _ _ _ _ _ _ (leC b15 ad2 n2 cap2 (bringO s 1 32) (bringO c 1 32) 0#64 0#64 :: (ms ++ [])) _ _ _
 have hpl := ptL_len (ws := ws) (i := i) om
 refine wR <| LM.val (ov_lss rfl rfl) <| nA [(7, _), (20, _), (21, _), (22, _), (23, _)] <| wpM.seq ?_
 refine wpM.condD rfl (fun h1 => ?_) (fun h1 => ?_)
 ·
  have hgd : (ws.take k).getD i 0 = ws.getD i 0 := (by rw [List.getD_eq_getElem?_getD, List.getD_eq_getElem?_getD, List.getElem?_take, if_pos om])
  refine wpM.skip <| QM.then <| wpM.seq <| wpM.block <| wR ?_
  refine LM.val (ov_idxSN au6 Tryz.underlying24 Tryz.sizeOf3 rfl rfl om) ?_
  first | refine LM.rd (om_sl1 asm ir Tryz.isAgg3 rfl rfl (by exact getq 0 au4) (by rfl)) ?_ | refine LM.rdC (om_sr1 asm Tryz.isAgg3 rfl rfl (by exact getq 0 au4) (by rfl) id) ?_ | refine LM.rd (oml rfl rfl rfl) ?_
  rw [hgd]
  refine LM.as rfl <| nA [(7, _), (9, _), (20, _), (21, _), (22, _)] ?_
  refine wpM.keep (leC b15 ad2 n2 cap2 (bringO s 1 32) (bringO c 1 32) 0#64 0#64 :: []) (fun _ => True) (.one 0 0 (.one 1 0 (.one 2 0 (.one 3 0 (.one 4 1 (.one 5 0 (.one 6 2 (.one 7 0 (.one 8 2 (.one 9 2 (.one 10 0 (.one 11 0 (.last 12))))))))))))) kr kr au1 (fun _ _ => trivial) ?_
  refine KD.val rfl rfl (ov_move rfl) <| KD.val rfl rfl (ov_move rfl) <| KD.val rfl rfl (ov_nilCheck rfl) <| KD.val rfl rfl (ovf 113 rfl rfl rfl rfl) ?_
  refine KD.rd rfl rfl (oml rfl rfl rfl) ?_
  refine KD.val rfl rfl (ov_move rfl) <| KD.one rfl ?_
  refine cE Tryz.func83 rfl (fun w hm hc hg => lbring_spec _ 16 w (by decide)) ?_
  refine LM.nil ?_
  refine kq1 ?_
  refine KD.val rfl rfl (ov_build (cs := #[_, _, _]) rfl (by first | rfl | kernel_rfl)) ?_
  refine KD.one rfl ?_
  refine LM.single Tryz.underlying113 Tryz.sizeOf117 Tryz.zeroValue117 rfl rfl rfl rfl rfl (fun b34 hb34 => ?_)
  refine LM.nil ?_
  refine kq1 ?_
  refine KD.one rfl ?_
  refine LM.app (a := ptN (ws.getD i 0)) Tryz.underlying113 Tryz.typeInfo117 rfl rfl rfl rfl rfl rfl rfl asm (by rfl) ir (by intro _ u hu; simp [fPt] at hu; (repeat (first | (rcases hu with rfl | hu) | subst hu | rfl))) (by first | exact Nat.le_refl _ | omega) au10 (by first | omega | (unfold maxLen; omega)) (by simp only [Tryz.t117]; omega) (fun ad35 n35 cap35 m35 hn35 hs35 hin35 => ?_)
  refine LM.nil ?_
  refine kq1 ?_
  refine KD.val rfl rfl (ov_nilCheck rfl) <| KD.val rfl rfl (ovf 113 rfl rfl rfl rfl) ?_
  refine KD.last rfl ?_
  refine LM.st Tryz.sizeOf113 rfl rfl rfl au5 rfl au8 ?_
  refine LM.nil ?_
  refine QM.qn ?_
  refine QM.sub (e' := [(7, _), (20, _), (21, _), (22, _)]) au9 ?_
  refine QM.block_normal ?_
  refine QM.then (wpM.region ?_)
  refine LM.val (ov_add64 rfl rfl om) ?_
  refine LM.mv rfl <| nC [(7, _), (20, _), (21, _), (22, _)] ?_
  refine QM.againK (i + 1, ad35, n35, cap35, m35) ⟨au2, rfl, rfl, rfl, trivial⟩ au1 (fun _ h => h) ?_ ?_
  · exact ⟨by omega, by omega, by rw [ptL_succ om]; exact hs35⟩
  · first | omega | (dsimp only; omega)
 refine wpM.exit <| QM.then_exit <| QM.then_exit <| QM.block_hit <| tR <| LM.mv rfl <| LM.as rfl <| nA [(6, _)] <| wpM.ret ?_
 refine qL Tryz.results35 rfl fun w' hm' hc' hg' => ?_
 have hik : i = k := om; subst hik; rw [ptL_end s c om] at hs; exact ⟨hc', leC b15 ad2 n2 cap2 (bringO s 1 32) (bringO c 1 32) 0#64 0#64 :: ms, ⟨b15, rfl, ldNew_B ws s c, ad2, n2, cap2, 0#64, ms, rfl, by rw [ldNew_len]; omega, hs, hb15, ldNew_ac ws s c⟩, (SubM.mem (by (repeat' (first | exact SubM.all _ | refine SubM.cons rfl ?_ | exact SubM.nil _ | (rw [List.append_nil]; exact SubM.all _))))) w' hm', fun p hp => by rcases List.mem_cons.1 hp with rfl | hp; exact hb15; exact hs.ge p hp⟩
def fHd (h : Hd) : List Value := [.int .i64 h.t, .int .i64 h.p, .bool h.d]
abbrev lkC (b : Nat) (sh : Bool) (sl : Int) (adh : Option Addr) (nh caph bq : Nat) (ado : Option Addr) (nd capo : Nat) (tr : Trn) (bl : Nat) (di : Bool) : Nat × Obj := (b, .cells #[.bool sh, .int .i64 sl, .slice adh nh caph, .pointer (some ⟨bq, 0, none⟩), .slice ado nd capo, .int .i64 tr.p, .int .i64 tr.u, .pointer (some ⟨bl, 0, none⟩), .bool di] 71 (0, 0))
def LkM (n0 T b : Nat) (x : Lkm) (od : List Int) (m : Mem0) : Prop := ∃ (adh : Option Addr) (nh caph : Nat) (ado : Option Addr) (nd capo bq bl : Nat) (mh mo mq ml : Mem0), m = lkC b x.sh x.sl adh nh caph bq ado nd capo x.tr bl x.di :: (mh ++ (mo ++ (mq ++ ml))) ∧ nh = x.ho.length ∧ nd = od.length ∧ Sl fHd 59 3 n0 x.ho (.slice adh nh caph) mh ∧ Sl fI 3 1 n0 od (.slice ado nd capo) mo ∧ TbM 8 8 n0 T x.wt bq mq ∧ LeM n0 bl x.ld ml ∧ n0 ≤ b
theorem LkM.ge {n0 T b : Nat} {x : Lkm} {od : List Int} {m : Mem0} (h : LkM n0 T b x od m) : ∀ p ∈ m, n0 ≤ p.1 := by
  obtain ⟨adh, nh, caph, ado, nd, capo, bq, bl, mh, mo, mq, ml, rfl, hnh, hnd, hsh, hso, hTb, hLe, hb⟩ := h
  intro p hp
  rcases List.mem_cons.1 hp with rfl | hp
  · exact hb
  · rcases List.mem_append.1 hp with hp | hp
    · exact hsh.ge p hp
    · rcases List.mem_append.1 hp with hp | hp
      · exact hso.ge p hp
      · rcases List.mem_append.1 hp with hp | hp
        · exact hTb.ge p hp
        · exact hLe.ge p hp
theorem LkM.wlk {n0 T b : Nat} {x : Lkm} {od : List Int} {m : Mem0} (h : LkM n0 T b x od m) : ∀ p ∈ m, wlk p.2 = false := by
  obtain ⟨adh, nh, caph, ado, nd, capo, bq, bl, mh, mo, mq, ml, rfl, hnh, hnd, hsh, hso, hTb, hLe, hb⟩ := h
  exact fun p hp => by
    rcases List.mem_cons.1 hp with rfl | hp
    · rfl
    · rcases List.mem_append.1 hp with hp | hp
      · exact hsh.wlk p hp
      · rcases List.mem_append.1 hp with hp | hp
        · exact hso.wlk p hp
        · rcases List.mem_append.1 hp with hp | hp
          · exact hTb.wlk p hp
          · exact hLe.wlk p hp
theorem lkIs_spec {n0 T b : Nat} {x : Lkm} {od : List Int} {m : Mem0} (p : Int) (w : World) (h : LkM n0 T b x od m) (hM : Mem w m) : Ret Tryz.prog 66 #[.pointer (some ⟨b, 0, none⟩), .int .i64 p] w (fun u w' => u = .bool (isO x.ld p) ∧ Ext w w') := by
 obtain ⟨adh, nh, caph, ado, nd, capo, bq, bl, mh, mo, mq, ml, rfl, hnh, hnd, hsh, hso, hTb, hLe, hb⟩ := h
 refine Ret.enterM Tryz.func66 rfl Tryz.ntmps66 rfl (lkC b x.sh x.sl adh nh caph bq ado nd capo x.tr bl x.di :: (mh ++ (mo ++ (mq ++ (ml ++ []))))) (no) aM ?_
 refine wR <| LM.as rfl <| nB [(0, _), (1, _)] <| LM.mv rfl ?_
 refine LM.val (ov_pneq kr rfl rfl) ?_
 refine LM.mv rfl <| LM.sp 7 rfl rfl rfl <| LM.mv rfl <| LM.sp 7 rfl rfl rfl <| LM.val (ov_geq rfl rfl) <| LM.val (ov_pickT rfl rfl) <| LM.mv rfl ?_
 refine LM.splitD (t := 11) rfl (fun h1 => ?_) (fun h1 => ?_)
 ·
  refine LM.sp 11 rfl rfl rfl <| LM.mv rfl <| LM.sp 11 rfl rfl rfl <| LM.mv rfl <| LM.sp 11 rfl rfl rfl <| LM.nc rfl <| LM.sp 11 rfl rfl rfl <| LM.val (ovf 68 rfl rfl rfl rfl) <| LM.sp 11 rfl rfl rfl ?_
  refine LM.rd (oml rfl rfl rfl) ?_
  refine LM.sp 11 rfl rfl rfl ?_
  refine cE Tryz.func113 rfl (fun w hm hc hg => leLen_spec w hLe (hm.pick ml)) ?_
  refine LM.sp 11 rfl rfl rfl <| LM.val (ov_lss rfl rfl) <| LM.val (ov_pickT rfl rfl) <| LM.as rfl <| nA [(4, _)] <| wpM.ret ?_
  refine qL Tryz.results66 rfl fun w' hm' hc' hg' => ?_
  refine ⟨?_, hc'⟩; simp only [resV, isO, h1, decide_true, decide_false, Bool.true_and, Bool.false_and, Bool.and_true, Bool.and_false, Bool.not_true, Bool.not_false, Bool.true_or, Bool.false_or, Bool.or_true, Bool.or_false, ne_eq, not_true_eq_false, not_false_eq_true, Bool.and_self]
 refine LM.dr 11 rfl rfl rfl <| LM.dr 11 rfl rfl rfl <| LM.dr 11 rfl rfl rfl <| LM.dr 11 rfl rfl rfl <| LM.dr 11 rfl rfl rfl <| LM.dr 11 rfl rfl rfl <| LM.dr 11 rfl rfl rfl <| LM.val (ov_pickF rfl rfl) <| LM.as rfl <| nA [(4, _)] <| wpM.ret ?_
 refine qL Tryz.results66 rfl fun w' hm' hc' hg' => ?_
 refine ⟨?_, hc'⟩; simp only [resV, isO, h1, decide_true, decide_false, Bool.true_and, Bool.false_and, Bool.and_true, Bool.and_false, Bool.not_true, Bool.not_false, Bool.true_or, Bool.false_or, Bool.or_true, Bool.or_false, ne_eq, not_true_eq_false, not_false_eq_true, Bool.and_self]
theorem lkRead_spec {n0 T b : Nat} {x : Lkm} {od : List Int} {m : Mem0} (w : World) (h : LkM n0 T b x od m) (hM : Mem w m) : Ret Tryz.prog 57 #[.pointer (some ⟨b, 0, none⟩)] w (fun u w' => u = .bool (readO x) ∧ Ext w w') := by
 obtain ⟨adh, nh, caph, ado, nd, capo, bq, bl, mh, mo, mq, ml, rfl, hnh, hnd, hsh, hso, hTb, hLe, hb⟩ := h; clear hso
 refine Ret.enterM Tryz.func57 rfl Tryz.ntmps57 rfl (lkC b x.sh x.sl adh nh caph bq ado nd capo x.tr bl x.di :: (mh ++ (mo ++ (mq ++ (ml ++ []))))) (no) aM ?_
 refine wR <| LM.as rfl <| nB [(0, _)] <| LM.mv rfl <| LM.nc rfl <| LM.val (ovf 4 rfl rfl rfl rfl) ?_
 refine LM.rd (oml rfl rfl rfl) ?_
 refine LM.mv rfl ?_
 first | refine LM.splitD (t := 7) rfl (fun h1 => ?_) (fun h1 => ?_) | refine LM.splitB (t := 7) rfl (fun h1 => ?_) (fun h1 => ?_)
 ·
  refine LM.sp 7 rfl rfl rfl <| LM.mv rfl <| LM.sp 7 rfl rfl rfl <| LM.nc rfl <| LM.sp 7 rfl rfl rfl <| LM.val (ovf 56 rfl rfl rfl rfl) <| LM.sp 7 rfl rfl rfl ?_
  refine LM.rd (oml rfl rfl rfl) ?_
  refine LM.sp 7 rfl rfl rfl <| LM.val (ov_len Tryz.underlying56 rfl) <| LM.sp 7 rfl rfl rfl <| LM.val (ov_gtr rfl rfl) <| LM.val (ov_pickT rfl rfl) <| LM.mv rfl ?_
  refine LM.splitD (t := 15) rfl (fun h2 => ?_) (fun h2 => ?_)
  ·
   refine LM.sp 15 rfl rfl rfl <| LM.mv rfl <| LM.sp 15 rfl rfl rfl <| LM.nc rfl <| LM.sp 15 rfl rfl rfl <| LM.val (ovf 56 rfl rfl rfl rfl) <| LM.sp 15 rfl rfl rfl ?_
   refine LM.rd (oml rfl rfl rfl) ?_
   refine LM.sp 15 rfl rfl rfl ?_
   refine LM.val (ov_idxSN (i := 0) au6 Tryz.underlying56 Tryz.sizeOf59 rfl rfl om) ?_
   refine LM.sp 15 rfl rfl rfl <| LM.val (ovf 3 rfl rfl rfl rfl) <| LM.sp 15 rfl rfl rfl ?_
   refine LM.rd (om_slE (i := 0) (j := 1) asm ir Tryz.isAgg3 rfl rfl au3 rfl (by rfl)) ?_
   refine LM.sp 15 rfl rfl rfl <| LM.val (ov_eql rfl rfl) <| LM.val (ov_pickT rfl rfl) <| LM.as rfl <| nA [(2, _)] <| wpM.ret ?_
   refine qL Tryz.results57 rfl fun w' hm' hc' hg' => ?_
   refine ⟨?_, hc'⟩; simp only [resV, readO, h1, h2, decide_true, decide_false, Bool.true_and, Bool.false_and, Bool.and_true, Bool.and_false, Bool.not_true, Bool.not_false, Bool.true_or, Bool.false_or, Bool.or_true, Bool.or_false, ne_eq, not_true_eq_false, not_false_eq_true, Bool.and_self]; first | done | (rw [decide_eq_true (show 0 < x.ho.length by omega)]; simp; done) | (rw [decide_eq_false (show ¬ 0 < x.ho.length by omega)]; simp; done)
  refine LM.dr 15 rfl rfl rfl <| LM.dr 15 rfl rfl rfl <| LM.dr 15 rfl rfl rfl <| LM.dr 15 rfl rfl rfl <| LM.dr 15 rfl rfl rfl <| LM.dr 15 rfl rfl rfl <| LM.dr 15 rfl rfl rfl <| LM.dr 15 rfl rfl rfl <| LM.val (ov_pickF rfl rfl) <| LM.as rfl <| nA [(2, _)] <| wpM.ret ?_
  refine qL Tryz.results57 rfl fun w' hm' hc' hg' => ?_
  refine ⟨?_, hc'⟩; simp only [resV, readO, h1, h2, decide_true, decide_false, Bool.true_and, Bool.false_and, Bool.and_true, Bool.and_false, Bool.not_true, Bool.not_false, Bool.true_or, Bool.false_or, Bool.or_true, Bool.or_false, ne_eq, not_true_eq_false, not_false_eq_true, Bool.and_self]; first | done | (rw [decide_eq_true (show 0 < x.ho.length by omega)]; simp; done) | (rw [decide_eq_false (show ¬ 0 < x.ho.length by omega)]; simp; done)
 refine LM.dr 7 rfl rfl rfl <| LM.dr 7 rfl rfl rfl <| LM.dr 7 rfl rfl rfl <| LM.dr 7 rfl rfl rfl <| LM.dr 7 rfl rfl rfl <| LM.dr 7 rfl rfl rfl <| LM.val (ov_pickF rfl rfl) <| LM.mv rfl <| LM.dr 15 rfl rfl rfl <| LM.dr 15 rfl rfl rfl <| LM.dr 15 rfl rfl rfl <| LM.dr 15 rfl rfl rfl <| LM.dr 15 rfl rfl rfl <| LM.dr 15 rfl rfl rfl <| LM.dr 15 rfl rfl rfl <| LM.dr 15 rfl rfl rfl <| LM.val (ov_pickF rfl rfl) <| LM.as rfl <| nA [(2, _)] <| wpM.ret ?_
 refine qL Tryz.results57 rfl fun w' hm' hc' hg' => ?_
 refine ⟨?_, hc'⟩; simp only [resV, readO, h1, decide_true, decide_false, Bool.true_and, Bool.false_and, Bool.and_true, Bool.and_false, Bool.not_true, Bool.not_false, Bool.true_or, Bool.false_or, Bool.or_true, Bool.or_false, ne_eq, not_true_eq_false, not_false_eq_true, Bool.and_self]; first | done | (rw [decide_eq_true (show 0 < x.ho.length by omega)]; simp; done) | (rw [decide_eq_false (show ¬ 0 < x.ho.length by omega)]; simp; done)
theorem lkp1_spec (h : Hd) (c : Nat) (task : Int) (w : World) (hM : Mem w [(c, .cells #[.int .i64 task] 3 (0, 0))]) : Ret Tryz.prog 96 #[.agg (fHd h).toArray, .pointer (some ⟨c, 0, none⟩)] w (fun u w' => u = .bool (decide (h.t = task)) ∧ Ext w w') := by
 refine Ret.enterM Tryz.func96 rfl Tryz.ntmps96 rfl ([(c, .cells #[.int .i64 task] 3 (0, 0))]) (no) hM ?_
 refine wR ?_
 refine LM.box rfl rfl (fun b2 hb2 => ?_)
 refine LM.as rfl <| nB [(1, _), (2, _)] <| LM.val (ovf 3 rfl rfl rfl rfl) ?_
 refine LM.rd (oml rfl rfl rfl) ?_
 refine LM.rd (oml rfl rfl rfl) ?_
 refine LM.val (ov_eql rfl rfl) <| LM.as rfl <| nA [(3, _)] <| wpM.ret ?_
 refine qL Tryz.results96 rfl fun w' hm' hc' hg' => ?_
 exact ⟨rfl, hc'⟩
theorem ixf_hold {xs : List Hd} {ad : Option Addr} {n cap c : Nat} (task : Int) (w : World) (hn : n = xs.length) (hl : Sr fHd 3 xs (.slice ad n cap) w) (hx : xs.length ≤ maxLen) (hM : Mem w [(c, .cells #[.int .i64 task] 3 (0, 0))]) : Ret Tryz.prog 95 #[.slice ad n cap, .func (.func 96) #[] #[.pointer (some ⟨c, 0, none⟩)]] w (fun v w' => v = .int .i64 (hatO xs task) ∧ Ext w w') := by
 have hx2 : maxLen = 9223372036854775807 := (by unfold maxLen; rfl)
 refine Ret.enterM Tryz.func95 rfl Tryz.ntmps95 rfl ([(c, .cells #[.int .i64 task] 3 (0, 0))]) (no) hM ?_
 refine wR <| LM.as rfl <| nA [(0, _), (1, _)] <| wpM.seq <| wR <| LM.mv rfl <| LM.val (ov_len Tryz.underlying56 rfl) <| LM.mv rfl <| nA [(0, _), (1, _), (7, _), (8, _)] <| wpM.block ?_
 refine wpM.loopK0 (α := Nat) (fun i => [(8, .int .i64 (i : Nat))]) [(0, _), (1, _), (7, _)] (fun i => [(c, .cells #[.int .i64 task] 3 (0, 0))]) (fun i => i ≤ xs.length ∧ (xs.take i).any (fun h => decide (h.t = task)) = false) (fun i => xs.length - i) (0) ⟨au2, rfl, rfl, rfl, trivial⟩ au1 ⟨Nat.zero_le _, rfl⟩ ?_
 rintro i ⟨hi, ha⟩
 change wpM _ _ _ _ _ _ _ ([(c, .cells #[.int .i64 task] 3 (0, 0))]) _ _ _
 refine wR <| LM.val (ov_lss rfl rfl) <| nA [(0, _), (1, _), (7, _), (8, _), (9, _)] <| wpM.seq ?_
 refine wpM.condD rfl (fun h1 => ?_) (fun h1 => ?_)
 ·
  refine wpM.skip <| QM.then <| wpM.seq <| wpM.block <| wR <| LM.mv rfl <| LM.as rfl <| nB [(0, _), (1, _), (5, _), (7, _), (8, _)] <| LM.mv rfl <| LM.mv rfl <| LM.mv rfl ?_
  refine LM.val (ov_idxSN au6 Tryz.underlying56 Tryz.sizeOf59 rfl rfl om) ?_
  first | refine LM.rd (om_slA asm ir Tryz.isAgg59 Tryz.sizeOf59 rfl au3) ?_ | refine LM.rdC (om_srEA asm ir Tryz.isAgg59 Tryz.sizeOf59 rfl au3 id) ?_ | refine LM.rd (om_ldW Tryz.isAgg59 Tryz.sizeOf59 rfl rfl) ?_ | refine LM.rd (om_ldA Tryz.isAgg59 Tryz.sizeOf59 rfl (vs := [_, _, _]) rfl ⟨rfl, rfl, rfl, trivial⟩) ?_
  refine LM.callE (oc_callV rfl (enters_fn Tryz.func96 kr rfl) rfl) (fun w hm hc hg => lkp1_spec _ c task w (hm.pick _)) ?_
  refine nA [(0, _), (1, _), (5, _), (7, _), (8, _), (16, _)] ?_
  refine wpM.condD rfl (fun h2 => ?_) (fun h2 => ?_)
  ·
   refine wR <| LM.mv rfl <| LM.as rfl <| nA [(4, _)] <| wpM.ret <| QM.block_ret <| QM.then_ret <| QM.then_ret <| QM.block_ret <| QM.then_ret ?_
   refine qL Tryz.results95 rfl fun w' hm' hc' hg' => ?_
   exact ⟨by show Value.int .i64 _ = _; unfold hatO; rw [fix_hit default ha om (by simpa using h2)], hc'⟩
  refine wpM.skip <| QM.block_normal ?_
  refine QM.then (wpM.region ?_)
  refine LM.val (ov_add64 rfl rfl om) ?_
  refine LM.mv rfl <| nC [(0, _), (1, _), (7, _), (8, _)] ?_
  refine QM.againK (i + 1) ⟨au2, rfl, rfl, rfl, trivial⟩ au1 (fun _ h => h) ?_ ?_
  · exact ⟨by omega, by rw [any_snoc default om, ha, Bool.false_or]; simpa using h2⟩
  · omega
 refine wpM.exit <| QM.then_exit <| QM.then_exit <| QM.block_hit <| tR <| LM.as rfl <| nA [(4, _)] <| wpM.ret ?_
 refine qL Tryz.results95 rfl fun w' hm' hc' hg' => ?_
 have hil : i = xs.length := om; subst hil; rw [List.take_length] at ha; exact ⟨by show Value.int .i64 _ = _; unfold hatO; rw [fix_miss ha], hc'⟩
theorem lkPlace_spec {n0 T b : Nat} {x : Lkm} {od : List Int} {m : Mem0} (task : Int) (w : World) (h : LkM n0 T b x od m) (hM : Mem w m) : Ret Tryz.prog 48 #[.pointer (some ⟨b, 0, none⟩), .int .i64 task] w (fun u w' => u = .int .i64 (hatO x.ho task) ∧ Ext w w') := by
 obtain ⟨adh, nh, caph, ado, nd, capo, bq, bl, mh, mo, mq, ml, rfl, hnh, hnd, hsh, hso, hTb, hLe, hb⟩ := h
 refine Ret.enterM Tryz.func48 rfl Tryz.ntmps48 rfl (lkC b x.sh x.sl adh nh caph bq ado nd capo x.tr bl x.di :: (mh ++ (mo ++ (mq ++ (ml ++ []))))) (no) aM ?_
 refine wR ?_
 refine LM.box rfl rfl (fun b3 hb3 => ?_)
 refine LM.as rfl <| nA [(0, _), (3, _)] <| wpM.seq <| wR <| LM.mv rfl ?_
 refine LM.val (ov_peql kr rfl rfl) ?_
 refine nA [(0, _), (3, _), (6, _)] ?_
 refine wpM.condF rfl ?_
 refine wpM.skip <| tR <| LM.mv rfl <| LM.nc rfl <| LM.val (ovf 56 rfl rfl rfl rfl) ?_
 refine LM.rd (oml rfl rfl rfl) ?_
 refine LM.val (ov_makeFunc rfl) ?_
 refine cE Tryz.func95 rfl (fun w hm hc hg => ixf_hold task w hnh (hsh.srM ir hm) hsh.len.2.1 (hm.pick [(b3, .cells (Value.int .i64 task).cells 3 (0, 0))])) ?_
 refine LM.as rfl <| nA [(4, _)] <| wpM.ret ?_
 refine qL Tryz.results48 rfl fun w' hm' hc' hg' => ?_
 exact ⟨rfl, hc'⟩
theorem lkHolds_spec {n0 T b : Nat} {x : Lkm} {od : List Int} {m : Mem0} (task : Int) (w : World) (h : LkM n0 T b x od m) (hM : Mem w m) : Ret Tryz.prog 32 #[.pointer (some ⟨b, 0, none⟩), .int .i64 task] w (fun u w' => u = .bool (holdsO x task) ∧ Ext w w') := by
 refine Ret.enterM Tryz.func32 rfl Tryz.ntmps32 rfl (m ++ []) (no) aM ?_
 refine wR <| LM.as rfl <| nB [(0, _), (1, _)] <| LM.mv rfl <| LM.mv rfl ?_
 refine cE Tryz.func48 rfl (fun w hm hc hg => lkPlace_spec task w h (hm.pick m)) ?_
 refine LM.val (ov_geq rfl rfl) <| LM.as rfl <| nA [(4, _)] <| wpM.ret ?_
 refine qL Tryz.results32 rfl fun w' hm' hc' hg' => ?_
 exact ⟨by show Value.bool (decide (0 ≤ hatO x.ho task)) = _; rw [hat_holds], hc'⟩
theorem twho_any {most each : Int} {n0 T b : Nat} {L : List Wt} {m : Mem0} (who : Int) (w : World) (h : TbM most each n0 T L b m) (hM : Mem w m) :
    Ret Tryz.prog 86 #[.pointer (some ⟨b, 0, none⟩), .int .i64 who] w (fun u w' => u = .tuple #[.agg (fWt (fW L who)).toArray, .bool (hasW L who)] ∧ Ext w w') := by
  cases hw : hasW L who with
  | true =>
    obtain ⟨y, hy, rfl⟩ := hasW_yes hw
    rw [fW_yes h.lim.2.2.2 hy]; exact twho_yes y w h hy hM
  | false => rw [fW_no (hasW_no hw)]; exact twho_no who w h (hasW_no hw) hM
theorem lkWaits_spec {n0 T b : Nat} {x : Lkm} {od : List Int} {m : Mem0} (task : Int) (w : World) (h : LkM n0 T b x od m) (hM : Mem w m) : Ret Tryz.prog 55 #[.pointer (some ⟨b, 0, none⟩), .int .i64 task] w (fun u w' => u = .bool (waitsO x task) ∧ Ext w w') := by
 obtain ⟨adh, nh, caph, ado, nd, capo, bq, bl, mh, mo, mq, ml, rfl, hnh, hnd, hsh, hso, hTb, hLe, hb⟩ := h
 refine Ret.enterM Tryz.func55 rfl Tryz.ntmps55 rfl (lkC b x.sh x.sl adh nh caph bq ado nd capo x.tr bl x.di :: (mh ++ (mo ++ (mq ++ (ml ++ []))))) (no) aM ?_
 refine wR <| LM.as rfl <| nB [(0, _), (1, _)] <| LM.mv rfl <| LM.nc rfl <| LM.val (ovf 66 rfl rfl rfl rfl) ?_
 refine LM.rd (oml rfl rfl rfl) ?_
 refine LM.mv rfl ?_
 refine cE Tryz.func86 rfl (fun w hm hc hg => twho_any task w hTb (hm.pick mq)) ?_
 refine LM.mv rfl <| LM.val (ov_extract rfl rfl) <| LM.val (ov_extract rfl rfl) ?_
 refine LM.alloc Tryz.zeroValue85 rfl (fun b5 hb5 => ?_)
 refine LM.stW Tryz.sizeOf85 rfl rfl rfl rfl au7 au8 ?_
 refine LM.as rfl <| nB [(6, _)] <| LM.mv rfl <| LM.as rfl <| nA [(4, _)] <| wpM.ret ?_
 refine qL Tryz.results55 rfl fun w' hm' hc' hg' => ?_
 exact ⟨rfl, hc'⟩
theorem lkFree_spec {n0 T b : Nat} {x : Lkm} {od : List Int} {m : Mem0} (p : Int) (w : World) (h : LkM n0 T b x od m) (hM : Mem w m) : Ret Tryz.prog 39 #[.pointer (some ⟨b, 0, none⟩), .int .i64 p] w (fun u w' => u = .bool (freeO x p) ∧ Ext w w') := by
 have hLk := h; obtain ⟨adh, nh, caph, ado, nd, capo, bq, bl, mh, mo, mq, ml, rfl, hnh, hnd, hsh, hso, hTb, hLe, hb⟩ := h
 refine Ret.enterM Tryz.func39 rfl Tryz.ntmps39 rfl (lkC b x.sh x.sl adh nh caph bq ado nd capo x.tr bl x.di :: (mh ++ (mo ++ (mq ++ (ml ++ []))))) (no) aM ?_
 refine wR <| LM.as rfl <| nA [(0, _), (1, _)] <| wpM.seq <| wpM.block <| wR <| LM.mv rfl <| LM.mv rfl ?_
 refine cE Tryz.func66 rfl (fun w hm hc hg => lkIs_spec p w hLk (hm.pick (lkC b x.sh x.sl adh nh caph bq ado nd capo x.tr bl x.di :: (mh ++ (mo ++ (mq ++ ml)))))) ?_
 first | refine LM.val (ov_notD rfl) ?_ | refine LM.val (ov_not rfl) ?_
 refine LM.as rfl <| nA [(0, _), (1, _), (5, _)] ?_
 first | refine wpM.condD rfl (fun h1 => ?_) (fun h1 => ?_) | refine wpM.condB rfl (fun h1 => ?_) (fun h1 => ?_)
 ·
  have k1 : isO x.ld p = false := (by simpa using h1)
  refine wR <| LM.as rfl <| nA [(4, _)] <| wpM.ret <| QM.block_ret <| QM.then_ret ?_
  refine qL Tryz.results39 rfl fun w' hm' hc' hg' => ?_
  refine ⟨?_, hc'⟩; have hz : decide (x.ho.length = 0) = decide ((nh : Int) = 0) := decide_eq_decide.2 om; simp only [resV, freeO, hz, h1, decide_true, decide_false, Bool.true_and, Bool.false_and, Bool.and_true, Bool.and_false, Bool.not_true, Bool.not_false, Bool.true_or, Bool.false_or, Bool.or_true, Bool.or_false, ne_eq, not_true_eq_false, not_false_eq_true, Bool.and_self]; first | done | (simp_all; done) | (simp_all; omega)
 have k1 : isO x.ld p = true := (by simpa using h1)
 refine wR <| LM.mv rfl <| LM.nc rfl <| LM.val (ovf 56 rfl rfl rfl rfl) ?_
 refine LM.rd (oml rfl rfl rfl) ?_
 refine LM.val (ov_len Tryz.underlying56 rfl) <| LM.val (ov_eql rfl rfl) <| LM.as rfl <| nA [(0, _), (1, _), (10, _)] ?_
 refine wpM.condD rfl (fun h2 => ?_) (fun h2 => ?_)
 ·
  refine wR <| LM.as rfl <| nA [(4, _)] <| wpM.ret <| QM.block_ret <| QM.then_ret ?_
  refine qL Tryz.results39 rfl fun w' hm' hc' hg' => ?_
  refine ⟨?_, hc'⟩; have hz : decide (x.ho.length = 0) = decide ((nh : Int) = 0) := decide_eq_decide.2 om; simp only [resV, freeO, hz, h1, h2, decide_true, decide_false, Bool.true_and, Bool.false_and, Bool.and_true, Bool.and_false, Bool.not_true, Bool.not_false, Bool.true_or, Bool.false_or, Bool.or_true, Bool.or_false, ne_eq, not_true_eq_false, not_false_eq_true, Bool.and_self]; first | done | (simp_all; done) | (simp_all; omega)
 refine wpM.skip <| QM.block_normal <| QM.then <| wpM.seq ?_
 refine wpM.draw [(0, 0), (1, 0), (2, 0), (3, 0), (4, 2), (5, 0), (6, 0), (7, 0), (8, 0), (9, 0), (10, 1), (11, 2), (12, 0), (13, 0), (14, 0), (15, 0), (16, 0), (17, 1), (18, 0), (19, 0), (20, 0), (21, 1), (22, 2), (23, 0), (24, 0), (25, 0)] kr kr ?_
 refine LD.val rfl rfl (ov_move rfl) ?_
 refine LD.val rfl rfl (ov_eql rfl rfl) ?_
 refine LD.val rfl rfl (ov_move rfl) ?_
 refine LD.splitD (t := 19) rfl (fun h3 => ?_) (fun h3 => ?_)
 ·
  have k2 : isO x.ld 0 = true := (by rw [h3] at k1; exact k1)
  refine LD.val rfl ⟨19, _, rfl, rfl, rfl⟩ (ov_move rfl) ?_
  refine dE rfl ⟨19, _, rfl, rfl, rfl⟩ Tryz.func57 rfl (fun w hm hc hg => lkRead_spec w hLk (hm.pick (lkC b x.sh x.sl adh nh caph bq ado nd capo x.tr bl x.di :: (mh ++ (mo ++ (mq ++ ml)))))) ?_
  refine LD.val rfl rfl (ov_pickT rfl rfl) ?_
  refine LD.val rfl rfl (ov_move rfl) ?_
  first | refine LD.splitD (t := 23) rfl (fun h4 => ?_) (fun h4 => ?_) | refine LD.splitB (t := 23) rfl (fun h4 => ?_) (fun h4 => ?_)
  ·
   refine LD.val rfl ⟨23, _, rfl, rfl, rfl⟩ (ov_move rfl) <| LD.val rfl ⟨23, _, rfl, rfl, rfl⟩ (ov_nilCheck rfl) <| LD.val rfl ⟨23, _, rfl, rfl, rfl⟩ (ovf 66 rfl rfl rfl rfl) ?_
   refine LD.rd rfl ⟨23, _, rfl, rfl, rfl⟩ (oml rfl rfl rfl) ?_
   refine dE rfl ⟨23, _, rfl, rfl, rfl⟩ Tryz.func58 rfl (fun w hm hc hg => tcount_spec 1 w hTb (hm.pick mq)) ?_
   refine LD.val rfl ⟨23, _, rfl, rfl, rfl⟩ (ov_eql rfl rfl) ?_
   refine LD.val rfl ⟨23, _, rfl, rfl, rfl⟩ (ov_move rfl) ?_
   refine LD.splitD (t := 30) rfl (fun h5 => ?_) (fun h5 => ?_)
   ·
    refine LD.drop rfl rfl ⟨30, _, rfl, rfl, rfl⟩ <| LD.drop rfl rfl ⟨30, _, rfl, rfl, rfl⟩ <| LD.drop rfl rfl ⟨30, _, rfl, rfl, rfl⟩ <| LD.drop rfl rfl ⟨30, _, rfl, rfl, rfl⟩ <| LD.drop rfl rfl ⟨30, _, rfl, rfl, rfl⟩ <| LD.drop rfl rfl ⟨30, _, rfl, rfl, rfl⟩ <| LD.drop rfl rfl ⟨30, _, rfl, rfl, rfl⟩ <| LD.drop rfl rfl ⟨30, _, rfl, rfl, rfl⟩ <| LD.drop rfl rfl ⟨30, _, rfl, rfl, rfl⟩ ?_
    refine LD.val rfl ⟨23, _, rfl, rfl, rfl⟩ (ov_pickT rfl rfl) ?_
    refine LD.val rfl rfl (ov_pickT rfl rfl) ?_
    refine LD.val rfl rfl (ov_assign rfl) <| LD.nil ?_
    refine QM.sub (e' := [(4, _)]) ⟨rfl, trivial⟩ (QM.then ?_)
    refine wpM.ret ?_
    refine qL Tryz.results39 rfl fun w' hm' hc' hg' => ?_
    refine ⟨?_, hc'⟩; have hz : decide (x.ho.length = 0) = decide ((nh : Int) = 0) := decide_eq_decide.2 om; simp only [resV, freeO, hz, h1, h2, h3, h4, h5, decide_true, decide_false, Bool.true_and, Bool.false_and, Bool.and_true, Bool.and_false, Bool.not_true, Bool.not_false, Bool.true_or, Bool.false_or, Bool.or_true, Bool.or_false, ne_eq, not_true_eq_false, not_false_eq_true, Bool.and_self]; first | done | (simp_all; done) | (simp_all; omega)
   refine LD.val rfl ⟨30, _, rfl, rfl, rfl⟩ (ov_move rfl) <| LD.val rfl ⟨30, _, rfl, rfl, rfl⟩ (ov_nilCheck rfl) <| LD.val rfl ⟨30, _, rfl, rfl, rfl⟩ (ovf 64 rfl rfl rfl rfl) ?_
   first | refine LD.rd rfl ⟨30, _, rfl, rfl, rfl⟩ (om_ldW Tryz.isAgg64 Tryz.sizeOf64 rfl rfl) ?_ | refine LD.rd rfl ⟨30, _, rfl, rfl, rfl⟩ (om_ldA Tryz.isAgg64 Tryz.sizeOf64 rfl (vs := [_, _]) rfl ⟨rfl, rfl, trivial⟩) ?_
   refine LD.val rfl ⟨30, _, rfl, rfl, rfl⟩ (ov_move rfl) <| LD.val rfl ⟨30, _, rfl, rfl, rfl⟩ (ov_nilCheck rfl) <| LD.val rfl ⟨30, _, rfl, rfl, rfl⟩ (ovf 3 rfl rfl rfl rfl) ?_
   refine LD.rd rfl ⟨30, _, rfl, rfl, rfl⟩ (oml rfl rfl rfl) ?_
   refine dE rfl ⟨30, _, rfl, rfl, rfl⟩ Tryz.func40 rfl (fun w hm hc hg => tumay_spec x.tr _ _ w) ?_
   refine LD.val rfl ⟨23, _, rfl, rfl, rfl⟩ (ov_pickF rfl rfl) ?_
   refine LD.val rfl rfl (ov_pickT rfl rfl) ?_
   refine LD.val rfl rfl (ov_assign rfl) <| LD.nil ?_
   refine QM.sub (e' := [(4, _)]) ⟨rfl, trivial⟩ (QM.then ?_)
   refine wpM.ret ?_
   refine qL Tryz.results39 rfl fun w' hm' hc' hg' => ?_
   refine ⟨?_, hc'⟩; have hz : decide (x.ho.length = 0) = decide ((nh : Int) = 0) := decide_eq_decide.2 om; simp only [resV, freeO, hz, h1, h2, h3, h4, h5, decide_true, decide_false, Bool.true_and, Bool.false_and, Bool.and_true, Bool.and_false, Bool.not_true, Bool.not_false, Bool.true_or, Bool.false_or, Bool.or_true, Bool.or_false, ne_eq, not_true_eq_false, not_false_eq_true, Bool.and_self]; first | done | (simp_all; done) | (simp_all; omega)
  refine LD.drop rfl rfl ⟨23, _, rfl, rfl, rfl⟩ <| LD.drop rfl rfl ⟨23, _, rfl, rfl, rfl⟩ <| LD.drop rfl rfl ⟨23, _, rfl, rfl, rfl⟩ <| LD.drop rfl rfl ⟨23, _, rfl, rfl, rfl⟩ <| LD.drop rfl rfl ⟨23, _, rfl, rfl, rfl⟩ <| LD.drop rfl rfl ⟨23, _, rfl, rfl, rfl⟩ ?_
  refine LD.dropU rfl rfl ⟨23, _, rfl, rfl, rfl⟩ ?_
  refine LD.dropX rfl rfl rfl rfl <| LD.dropX rfl rfl rfl rfl <| LD.dropX rfl rfl rfl rfl <| LD.dropX rfl rfl rfl rfl <| LD.dropX rfl rfl rfl rfl <| LD.dropX rfl rfl rfl rfl <| LD.dropX rfl rfl rfl rfl <| LD.dropX rfl rfl rfl rfl ?_
  refine LD.dropV rfl rfl rfl ?_
  refine LD.drop rfl rfl ⟨23, _, rfl, rfl, rfl⟩ ?_
  refine LD.val rfl rfl (ov_pickF rfl rfl) ?_
  refine LD.val rfl rfl (ov_assign rfl) <| LD.nil ?_
  refine QM.sub (e' := [(4, _)]) ⟨rfl, trivial⟩ (QM.then ?_)
  refine wpM.ret ?_
  refine qL Tryz.results39 rfl fun w' hm' hc' hg' => ?_
  refine ⟨?_, hc'⟩; have hz : decide (x.ho.length = 0) = decide ((nh : Int) = 0) := decide_eq_decide.2 om; simp only [resV, freeO, hz, h1, h2, h3, h4, decide_true, decide_false, Bool.true_and, Bool.false_and, Bool.and_true, Bool.and_false, Bool.not_true, Bool.not_false, Bool.true_or, Bool.false_or, Bool.or_true, Bool.or_false, ne_eq, not_true_eq_false, not_false_eq_true, Bool.and_self]; first | done | (simp_all; done) | (simp_all; omega)
 refine LD.drop rfl rfl ⟨19, _, rfl, rfl, rfl⟩ <| LD.drop rfl rfl ⟨19, _, rfl, rfl, rfl⟩ ?_
 refine LD.val rfl rfl (ov_pickF rfl rfl) ?_
 refine LD.val rfl rfl (ov_move rfl) <| LD.drop rfl rfl ⟨23, _, rfl, rfl, rfl⟩ <| LD.drop rfl rfl ⟨23, _, rfl, rfl, rfl⟩ <| LD.drop rfl rfl ⟨23, _, rfl, rfl, rfl⟩ <| LD.drop rfl rfl ⟨23, _, rfl, rfl, rfl⟩ <| LD.drop rfl rfl ⟨23, _, rfl, rfl, rfl⟩ <| LD.drop rfl rfl ⟨23, _, rfl, rfl, rfl⟩ ?_
 refine LD.dropU rfl rfl ⟨23, _, rfl, rfl, rfl⟩ ?_
 refine LD.dropX rfl rfl rfl rfl <| LD.dropX rfl rfl rfl rfl <| LD.dropX rfl rfl rfl rfl <| LD.dropX rfl rfl rfl rfl <| LD.dropX rfl rfl rfl rfl <| LD.dropX rfl rfl rfl rfl <| LD.dropX rfl rfl rfl rfl <| LD.dropX rfl rfl rfl rfl ?_
 refine LD.dropV rfl rfl rfl ?_
 refine LD.drop rfl rfl ⟨23, _, rfl, rfl, rfl⟩ ?_
 refine LD.val rfl rfl (ov_pickF rfl rfl) ?_
 refine LD.val rfl rfl (ov_assign rfl) <| LD.nil ?_
 refine QM.sub (e' := [(4, _)]) ⟨rfl, trivial⟩ (QM.then ?_)
 refine wpM.ret ?_
 refine qL Tryz.results39 rfl fun w' hm' hc' hg' => ?_
 refine ⟨?_, hc'⟩; have hz : decide (x.ho.length = 0) = decide ((nh : Int) = 0) := decide_eq_decide.2 om; simp only [resV, freeO, hz, h1, h2, h3, decide_true, decide_false, Bool.true_and, Bool.false_and, Bool.and_true, Bool.and_false, Bool.not_true, Bool.not_false, Bool.true_or, Bool.false_or, Bool.or_true, Bool.or_false, ne_eq, not_true_eq_false, not_false_eq_true, Bool.and_self]; first | done | (simp_all; done) | (simp_all; omega)
theorem lkTurn_spec {n0 T b : Nat} {x : Lkm} {od : List Int} {m : Mem0} (w : World) (h : LkM n0 T b x od m) (hM : Mem w m) : Ret Tryz.prog 33 #[.pointer (some ⟨b, 0, none⟩)] w (fun u w' => u = vTr x.tr ∧ Ext w w') := by
 obtain ⟨adh, nh, caph, ado, nd, capo, bq, bl, mh, mo, mq, ml, rfl, hnh, hnd, hsh, hso, hTb, hLe, hb⟩ := h
 refine Ret.enterM Tryz.func33 rfl Tryz.ntmps33 rfl (lkC b x.sh x.sl adh nh caph bq ado nd capo x.tr bl x.di :: (mh ++ (mo ++ (mq ++ (ml ++ []))))) (no) aM ?_
 refine wR ?_
 refine LM.alloc Tryz.zeroValue64 rfl (fun b2 hb2 => ?_)
 refine nA [(0, _), (2, _)] <| wpM.seq <| wR <| LM.mv rfl ?_
 refine LM.val (ov_peql kr rfl rfl) ?_
 refine nA [(0, _), (2, _), (4, _)] ?_
 refine wpM.condF rfl ?_
 refine wpM.skip <| tR <| LM.mv rfl <| LM.nc rfl <| LM.val (ovf 64 rfl rfl rfl rfl) ?_
 first | refine LM.rd (om_ldW Tryz.isAgg64 Tryz.sizeOf64 rfl rfl) ?_ | refine LM.rd (om_ldA Tryz.isAgg64 Tryz.sizeOf64 rfl (vs := [_, _]) rfl ⟨rfl, rfl, trivial⟩) ?_
 refine LM.stW Tryz.sizeOf64 rfl rfl rfl rfl au7 au8 ?_
 refine nA [(2, _)] <| wpM.ret ?_
 refine QM.leaveCs (ds := ([])) (.inl rfl) [.cell 2 64] Tryz.results33 hd_nil (rc_w rfl Tryz.isAgg64 Tryz.sizeOf64 rfl rc_nil) ?_
 intro w' hm' hc'
 exact ⟨rfl, hc'⟩
theorem lkAcc_spec {n0 T b : Nat} {x : Lkm} {od : List Int} {m : Mem0} (p : Int) (w : World) (h : LkM n0 T b x od m) (hM : Mem w m) : Ret Tryz.prog 74 #[.pointer (some ⟨b, 0, none⟩), .int .i64 p] w (fun u w' => u = .tuple #[U (if isO x.ld p then (gP x.ld.l p.toNat).v else 0#64), .int .i64 (if isO x.ld p then (gP x.ld.l p.toNat).h else 0)] ∧ Ext w w') := by
 obtain ⟨adh, nh, caph, ado, nd, capo, bq, bl, mh, mo, mq, ml, rfl, hnh, hnd, hsh, hso, hTb, hLe, hb⟩ := h
 refine Ret.enterM Tryz.func74 rfl Tryz.ntmps74 rfl (lkC b x.sh x.sl adh nh caph bq ado nd capo x.tr bl x.di :: (mh ++ (mo ++ (mq ++ (ml ++ []))))) (no) aM ?_
 refine wR <| LM.as rfl <| LM.as rfl <| nA [(0, _), (1, _)] <| wpM.seq <| wR <| LM.mv rfl ?_
 refine LM.val (ov_peql kr rfl rfl) ?_
 refine nA [(0, _), (1, _), (7, _)] ?_
 refine wpM.condF rfl ?_
 refine wpM.skip <| QM.then <| wpM.seq ?_
 refine wpM.draw [(0, 0), (1, 0), (2, 0), (3, 1), (4, 0), (6, 0), (7, 0), (8, 0), (9, 1), (10, 0), (5, 2), (11, 2), (12, 0), (13, 0)] kr kr ?_
 refine LD.val rfl rfl (ov_move rfl) <| LD.val rfl rfl (ov_nilCheck rfl) <| LD.val rfl rfl (ovf 68 rfl rfl rfl rfl) ?_
 refine LD.rd rfl rfl (oml rfl rfl rfl) ?_
 refine LD.val rfl rfl (ov_move rfl) <| LD.val rfl rfl (ov_move rfl) <| LD.val rfl rfl (ov_nilCheck rfl) <| LD.val rfl rfl (ovf 68 rfl rfl rfl rfl) ?_
 refine LD.rd rfl rfl (oml rfl rfl rfl) ?_
 refine LD.val rfl rfl (ov_move rfl) ?_
 refine dE rfl rfl Tryz.func116 rfl (fun w hm hc hg => leV_spec p w hLe (hm.pick ml)) ?_
 refine dE rfl rfl Tryz.func117 rfl (fun w hm hc hg => leHeld_spec p w hLe (hm.pick ml)) ?_
 refine LD.val rfl rfl (ov_assign rfl) <| LD.val rfl rfl (ov_assign rfl) <| LD.nil ?_
 refine QM.sub (e' := [(4, _), (5, _)]) au9 (QM.then ?_)
 refine wpM.ret ?_
 refine QM.leave (.inl rfl) [.tmp 4, .tmp 5] Tryz.results74 rfl ?_
 intro w' hm' hc' hg'
 exact ⟨rfl, hc'⟩
theorem keyS_snoc (l : List Int) (i : Int) : keyS (l ++ [i]) = withS (keyS l) i := by unfold keyS; rw [List.foldl_append]; rfl
theorem map_take_snoc {α : Type} {f : α → Int} {l : List α} {i : Nat} (d : α) (h : i < l.length) : (l.take (i + 1)).map f = (l.take i).map f ++ [f (l.getD i d)] := by rw [take_snoc d h, List.map_append]; rfl
theorem fW_at {L : List Wt} (h : Wd1 L) {i : Nat} (hi : i < L.length) : fW L ((L.map (·.who)).getD i 0) = L.getD i default := by
  have e : (L.map (·.who)).getD i 0 = (L.getD i default).who := by
    rw [List.getD_eq_getElem?_getD, List.getD_eq_getElem?_getD, List.getElem?_map, List.getElem?_eq_getElem hi]; rfl
  rw [e]
  refine fW_yes h ?_
  rw [List.getD_eq_getElem?_getD, List.getElem?_eq_getElem hi]; exact List.getElem_mem hi
theorem inn_cons {m : Mem0} {k b : Nat} {o : Obj} {x : Mem0} (h : inM m b) (h2 : inn m k x) : inn m k ((b, o) :: x) := fun p hp => by
  rcases List.mem_cons.1 hp with rfl | hp
  · exact .inr h
  · exact h2 p hp
theorem inn_app {m x y : Mem0} {k : Nat} (h : inn m k x) (h2 : inn m k y) : inn m k (x ++ y) := fun p hp => by
  rcases List.mem_append.1 hp with hp | hp
  · exact h p hp
  · exact h2 p hp
theorem inn_of_mem {m x : Mem0} {k : Nat} (h : ∀ p ∈ x, p ∈ m) : inn m k x := fun p hp => .inr ⟨p, h p hp, rfl⟩
theorem inn_tr {m x y : Mem0} {k : Nat} (h : inn x k y) (h2 : ∀ p ∈ x, p ∈ m) : inn m k y := fun p hp => by
  rcases h p hp with q | ⟨q, hq, e⟩
  · exact .inl q
  · exact .inr ⟨q, h2 q hq, e⟩
theorem lkm_leaf {n0 T b nh caph nd capo bq bl : Nat} {adh ado : Option Addr} {x : Lkm} {od : List Int} {m mh mo mq ml M : Mem0} {u0 : Value} {w w' : World} (hnh : nh = x.ho.length) (hnd : nd = od.length) (hsh : Sl fHd 59 3 n0 x.ho (.slice adh nh caph) mh) (hso : Sl fI 3 1 n0 od (.slice ado nd capo) mo) (hTb : TbM 8 8 n0 T x.wt bq mq) (hLe : LeM n0 bl x.ld ml) (hb : n0 ≤ b) (hm : Mem w' M)
    (hs : SubM M (lkC b x.sh x.sl adh nh caph bq ado nd capo x.tr bl x.di :: (mh ++ (mo ++ (mq ++ (ml ++ [])))))) (hc : Chg (inM m) w w') (hbm : inM m b) (h1 : inn m w.heap.size mh) (h2 : inn m w.heap.size mo) (h3 : inn m w.heap.size mq) (h4 : inn m w.heap.size ml) :
    Upd m (fun u m' => u = u0 ∧ LkM n0 T b x od m') w u0 w' := by
  rw [List.append_nil] at hs
  exact ⟨hc, _, ⟨rfl, adh, nh, caph, ado, nd, capo, bq, bl, mh, mo, mq, ml, rfl, hnh, hnd, hsh, hso, hTb, hLe, hb⟩, hs.mem w' hm, inn_cons hbm (inn_app h1 (inn_app h2 (inn_app h3 h4)))⟩
abbrev lkM0 (b : Nat) (x : Lkm) (adh : Option Addr) (nh caph bq : Nat) (ado : Option Addr) (nd capo bl : Nat) (mh mo mq ml : Mem0) : Mem0 := lkC b x.sh x.sl adh nh caph bq ado nd capo x.tr bl x.di :: (mh ++ (mo ++ (mq ++ ml)))
theorem lkWtg_spec {n0 T b : Nat} {x : Lkm} {od : List Int} {m : Mem0} (w : World) (h : LkM n0 T b x od m) (hod : od = x.wt.map (·.who)) (hM : Mem w m) : Ret Tryz.prog 88 #[.pointer (some ⟨b, 0, none⟩)] w (fun u w' => u = U (waitS x) ∧ Ext w w') := by
 obtain ⟨adh, nh, caph, ado, nd, capo, bq, bl, mh, mo, mq, ml, rfl, hnh, hnd, hsh, hso, hTb, hLe, hb⟩ := h; have hwd := hTb.lim.2.2.2; have hol := congrArg List.length hod; rw [List.length_map] at hol; have hx8 := hTb.lim.2.2.1
 refine Ret.enterM Tryz.func88 rfl Tryz.ntmps88 rfl (lkC b x.sh x.sl adh nh caph bq ado nd capo x.tr bl x.di :: (mh ++ (mo ++ (mq ++ (ml ++ []))))) (no) aM ?_
 refine wR <| LM.as rfl <| nB [(0, _)] <| LM.as rfl <| nA [(0, _), (3, _)] <| wpM.seq <| wR <| LM.mv rfl <| LM.nc rfl <| LM.val (ovf 24 rfl rfl rfl rfl) ?_
 refine LM.rd (oml rfl rfl rfl) ?_
 refine LM.val (ov_len Tryz.underlying24 rfl) <| LM.mv rfl <| nA [(0, _), (3, _), (11, _), (12, _), (13, _)] <| wpM.block ?_
 refine wpM.loopK0 (α := Nat) (fun i => [(3, U (keyS ((x.wt.take i).map (·.key)))), (13, .int .i64 (i : Nat))]) [(0, _), (11, _), (12, _)] (fun i => lkC b x.sh x.sl adh nh caph bq ado nd capo x.tr bl x.di :: (mh ++ (mo ++ (mq ++ (ml ++ []))))) (fun i => i ≤ nd) (fun i => nd - i) (0) ⟨(by first | rfl | exact lk rfl (by rw [map_take_snoc default om, keyS_snoc, hod, fW_at hwd om])), au2, rfl, rfl, rfl, trivial⟩ au1 (Nat.zero_le _) ?_
 rintro i hi
 change wpM _ _ _ _ _ _ _ (lkC b x.sh x.sl adh nh caph bq ado nd capo x.tr bl x.di :: (mh ++ (mo ++ (mq ++ (ml ++ []))))) _ _ _
 refine wR <| LM.val (ov_lss rfl rfl) <| nA [(0, _), (3, _), (11, _), (12, _), (13, _), (14, _)] <| wpM.seq ?_
 refine wpM.condD rfl (fun h1 => ?_) (fun h1 => ?_)
 ·
  refine wpM.skip <| QM.then <| wpM.seq <| wpM.block <| wR ?_
  refine LM.val (ov_idxSN au6 Tryz.underlying24 Tryz.sizeOf3 rfl rfl om) ?_
  refine LM.rd (om_sl1 asm ir Tryz.isAgg3 rfl rfl (by exact getq 0 au4) (by rfl)) ?_
  refine LM.as rfl <| nB [(0, _), (3, _), (5, _), (11, _), (12, _), (13, _)] <| LM.mv rfl <| LM.nc rfl <| LM.val (ovf 66 rfl rfl rfl rfl) ?_
  refine LM.rd (oml rfl rfl rfl) ?_
  refine LM.mv rfl ?_
  refine cE Tryz.func86 rfl (fun w hm hc hg => twho_any _ w hTb (hm.pick mq)) ?_
  refine LM.mv rfl <| LM.val (ov_extract rfl rfl) <| LM.val (ov_extract rfl rfl) ?_
  refine LM.alloc Tryz.zeroValue85 rfl (fun b6 hb6 => ?_)
  refine LM.stW Tryz.sizeOf85 rfl rfl rfl rfl au7 au8 ?_
  refine LM.as rfl ?_
  refine LM.nil (QM.sub (e' := [(0, _), (3, _), (6, _), (11, _), (12, _), (13, _)]) au9 (QM.then (wpM.region ?_)))
  refine LM.mv rfl <| LM.val (ovf 3 rfl rfl rfl rfl) ?_
  refine LM.rd (oml rfl rfl rfl) ?_
  refine cE Tryz.func89 rfl (fun w hm hc hg => with_spec _ _ w) ?_
  refine LM.as rfl <| nC [(0, _), (3, _), (11, _), (12, _), (13, _)] <| QM.block_normal ?_
  refine QM.then (wpM.region ?_)
  refine LM.val (ov_add64 rfl rfl om) ?_
  refine LM.mv rfl <| nC [(0, _), (3, _), (11, _), (12, _), (13, _)] ?_
  refine QM.againK (i + 1) ⟨(by first | rfl | exact lk rfl (by rw [map_take_snoc default om, keyS_snoc, hod, fW_at hwd om])), au2, rfl, rfl, rfl, trivial⟩ au1 (fun _ h => h) ?_ ?_
  · omega
  · omega
 refine wpM.exit <| QM.then_exit <| QM.then_exit <| QM.block_hit <| tR <| LM.mv rfl <| LM.as rfl <| nA [(2, _)] <| wpM.ret ?_
 refine qL Tryz.results88 rfl fun w' hm' hc' hg' => ?_
 have hil : i = x.wt.length := om; subst hil; refine ⟨?_, hc'⟩; simp only [resV]; rw [List.take_length]; rfl
theorem lkSet_spec {n0 T b : Nat} {x : Lkm} {od : List Int} {m : Mem0} (w : World) (hT : Tab w) (hn0 : 0 < n0) (h : LkM n0 T b x od m) (hod : od = x.wt.map (·.who)) (hM : Mem w m) : Ret Tryz.prog 42 #[.pointer (some ⟨b, 0, none⟩)] w (Upd m (fun u m' => LkM n0 T b (settleX x) od m') w) := by
 have hLk := h; have hS0 : ¬ inM m 0 := (fun ⟨p, hp, e⟩ => by have := h.ge p hp; omega); obtain ⟨adh, nh, caph, ado, nd, capo, bq, bl, mh, mo, mq, ml, rfl, hnh, hnd, hsh, hso, hTb, hLe, hb⟩ := h; have hSo := And.intro hso trivial; clear hso; have hx2 : maxLen = 9223372036854775807 := (by unfold maxLen; rfl); have hhl := hsh.len.2.1
 refine Ret.enterM Tryz.func42 rfl Tryz.ntmps42 rfl (lkC b x.sh x.sl adh nh caph bq ado nd capo x.tr bl x.di :: (mh ++ (mo ++ (mq ++ (ml ++ []))))) ((inM (lkM0 b x adh nh caph bq ado nd capo bl mh mo mq ml))) aM ?_
 refine wR <| LM.mv rfl ?_
 refine cE Tryz.func88 rfl (fun w hm hc hg => lkWtg_spec w hLk hod (hm.pick (lkC b x.sh x.sl adh nh caph bq ado nd capo x.tr bl x.di :: (mh ++ (mo ++ (mq ++ ml)))))) ?_
 refine LM.as rfl <| nA [(0, _), (2, _)] <| wpM.seq <| wR <| LM.mv rfl <| LM.nc rfl <| LM.val (ovf 56 rfl rfl rfl rfl) ?_
 refine LM.rd (oml rfl rfl rfl) ?_
 refine LM.val (ov_len Tryz.underlying56 rfl) <| LM.mv rfl <| nA [(0, _), (2, _), (10, _), (11, _), (12, _)] <| wpM.block ?_
 refine wpM.loopK0 (α := Nat) (fun i => [(2, U (keyS (x.wt.map (·.key) ++ (x.ho.take i).map (·.p)))), (12, .int .i64 (i : Nat))]) [(0, _), (10, _), (11, _)] (fun i => lkC b x.sh x.sl adh nh caph bq ado nd capo x.tr bl x.di :: (mh ++ (mo ++ (mq ++ (ml ++ []))))) (fun i => i ≤ nh) (fun i => nh - i) (0) ⟨(by first | exact lk rfl (by rw [List.take_zero, List.map_nil, List.append_nil]; rfl) | exact lk rfl (by rw [map_take_snoc default om, ← List.append_assoc, keyS_snoc])), au2, rfl, rfl, rfl, trivial⟩ au1 (Nat.zero_le _) ?_
 rintro i hi
 change wpM _ _ _ _ _ _ _ (lkC b x.sh x.sl adh nh caph bq ado nd capo x.tr bl x.di :: (mh ++ (mo ++ (mq ++ (ml ++ []))))) _ _ _
 refine wR <| LM.val (ov_lss rfl rfl) <| nA [(0, _), (2, _), (10, _), (11, _), (12, _), (13, _)] <| wpM.seq ?_
 refine wpM.condD rfl (fun h1 => ?_) (fun h1 => ?_)
 ·
  refine wpM.skip <| QM.then <| wpM.seq <| wpM.block <| wR ?_
  refine LM.val (ov_idxSN au6 Tryz.underlying56 Tryz.sizeOf59 rfl rfl om) ?_
  refine LM.rd (om_slA asm ir Tryz.isAgg59 Tryz.sizeOf59 rfl au3) ?_
  refine LM.alloc Tryz.zeroValue59 rfl (fun b4 hb4 => ?_)
  refine LM.stW Tryz.sizeOf59 rfl rfl rfl rfl au7 auH ?_
  refine LM.nil (QM.sub (e' := [(0, _), (2, _), (4, _), (10, _), (11, _), (12, _)]) au9 (QM.then (wpM.region ?_)))
  refine LM.mv rfl <| LM.val (ovf 3 rfl rfl rfl rfl) ?_
  refine LM.rd (oml rfl rfl rfl) ?_
  refine cE Tryz.func89 rfl (fun w hm hc hg => with_spec _ _ w) ?_
  refine LM.as rfl <| nC [(0, _), (2, _), (10, _), (11, _), (12, _)] <| QM.block_normal ?_
  refine QM.then (wpM.region ?_)
  refine LM.val (ov_add64 rfl rfl om) ?_
  refine LM.mv rfl <| nC [(0, _), (2, _), (10, _), (11, _), (12, _)] ?_
  refine QM.againK (i + 1) ⟨(by first | exact lk rfl (by rw [List.take_zero, List.map_nil, List.append_nil]; rfl) | exact lk rfl (by rw [map_take_snoc default om, ← List.append_assoc, keyS_snoc])), au2, rfl, rfl, rfl, trivial⟩ au1 (fun _ h => h) ?_ ?_
  · omega
  · omega
 refine wpM.exit <| QM.then_exit <| QM.then_exit <| QM.block_hit ?_
 refine QM.then (wpM.region ?_)
 refine LM.mv rfl <| LM.nc rfl <| LM.val (ovf 68 rfl rfl rfl rfl) ?_
 refine LM.rd (oml rfl rfl rfl) ?_
 refine LM.mv rfl ?_
 refine cU Tryz.func90 rfl (fun w hm hc hg => leSet_spec _ w (hT.keep hc hS0) hn0 hLe (hm.pick ml)) hLe.wlk (fun p hp _ => ⟨p, by simp [hp], rfl⟩) ?_
 rintro u26 m26 h26 hin26
 refine LM.nil (QM.sub (e' := []) trivial ?_)
 refine QM.leave (.inr rfl) [] Tryz.results42 rfl ?_
 intro w' hm' hc' hg'
 have hil : i = x.ho.length := om; subst hil; rw [List.take_length] at h26; exact Upd.imp (lkm_leaf (u0 := resV []) (x := settleX x) hnh hnd hsh hSo.1 hTb h26 hb hm' au1 hc' inM_0 inS inS inS (inn_tr hin26 (fun p hp => by simp [hp]))) (fun u m' h => h.2)
theorem inM_hd {a a' : Nat × Obj} {R : Mem0} : ∀ q ∈ a :: R, a'.1 = a.1 → inM (a' :: R) q.1 := fun q hq h => by
  rcases List.mem_cons.1 hq with rfl | hq
  · exact ⟨a', List.mem_cons_self .., h⟩
  · exact ⟨q, List.mem_cons_of_mem _ hq, rfl⟩
theorem inn_hd {a a' : Nat × Obj} {R y : Mem0} {k : Nat} (hin : inn (a :: R) k y) (h : a'.1 = a.1) : inn (a' :: R) k y := fun q hq => by
  rcases hin q hq with e | ⟨z, hz, e⟩
  · exact .inl e
  · rw [← e]; exact .inr (inM_hd z hz h)
theorem inM_inn {m y : Mem0} {k : Nat} (hin : inn m k y) : ∀ q ∈ y, q.1 < k → inM m q.1 := fun q hq hlt => by
  rcases hin q hq with e | e
  · omega
  · exact e
theorem first_wt (x : Lkm) (p : Int) : (firstX x p).wt = x.wt := by unfold firstX; split <;> rfl
theorem lkHold_spec {n0 T b : Nat} {x : Lkm} {od : List Int} {m : Mem0} (t p : Int) (w : World) (h : LkM n0 T b x od m) (hn0 : n0 ≤ w.heap.size) (hx : x.ho.length ≤ 1000) (hM : Mem w m) : Ret Tryz.prog 41 #[.pointer (some ⟨b, 0, none⟩), .int .i64 t, .int .i64 p] w (Upd m (fun u m' => LkM n0 T b (holdX x t p) od m') w) := by
 obtain ⟨adh, nh, caph, ado, nd, capo, bq, bl, mh, mo, mq, ml, rfl, hnh, hnd, hsh, hso, hTb, hLe, hb⟩ := h; have hSo := And.intro hso trivial; clear hso; have hhl := hsh.len.2.1
 refine Ret.enterM Tryz.func41 rfl Tryz.ntmps41 rfl (lkC b x.sh x.sl adh nh caph bq ado nd capo x.tr bl x.di :: (mh ++ (mo ++ (mq ++ (ml ++ []))))) ((inM (lkM0 b x adh nh caph bq ado nd capo bl mh mo mq ml))) aM ?_
 refine wpM.seq ?_
 refine wpM.keep (lkC b x.sh x.sl adh nh caph bq ado nd capo x.tr bl x.di :: []) (fun _ => True) (.one 0 0 (.one 1 0 (.one 2 0 (.one 3 0 (.one 4 1 (.one 5 0 (.one 6 0 (.one 7 0 (.one 8 0 (.one 9 0 (.one 10 1 (.one 11 0 (.one 12 2 (.one 13 2 (.one 14 0 (.one 15 0 (.last 16))))))))))))))))) kr kr au1 (fun _ _ => trivial) ?_
 refine KD.val rfl rfl (ov_move rfl) <| KD.val rfl rfl (ov_move rfl) <| KD.val rfl rfl (ov_nilCheck rfl) <| KD.val rfl rfl (ovf 56 rfl rfl rfl rfl) ?_
 refine KD.rd rfl rfl (oml rfl rfl rfl) ?_
 refine KD.val rfl rfl (ov_move rfl) <| KD.val rfl rfl (ov_move rfl) <| KD.val rfl rfl (ov_move rfl) <| KD.val rfl rfl (ov_nilCheck rfl) <| KD.val rfl rfl (ovf 4 rfl rfl rfl rfl) ?_
 refine KD.rd rfl rfl (oml rfl rfl rfl) ?_
 refine KD.val rfl rfl (ov_build (cs := #[_, _, _]) rfl (by first | rfl | kernel_rfl)) ?_
 refine KD.one rfl ?_
 refine LM.single Tryz.underlying56 Tryz.sizeOf59 Tryz.zeroValue59 rfl rfl rfl rfl rfl (fun b18 hb18 => ?_)
 refine LM.nil ?_
 refine kq1 ?_
 refine KD.one rfl ?_
 refine LM.app (a := (⟨t, p, x.di⟩ : Hd)) Tryz.underlying56 Tryz.typeInfo59 rfl rfl rfl rfl rfl rfl rfl asm (by rfl) ir (by intro _ u hu; simp [fHd] at hu; (repeat (first | (rcases hu with rfl | hu) | subst hu | rfl))) (by first | exact Nat.le_refl _ | omega) (fun p hp _ => ⟨p, by simp [hp], rfl⟩) (by first | omega | (unfold maxLen; omega)) (by simp only [Tryz.t59]; omega) (fun ad19 n19 cap19 m19 hn19 hs19 hin19 => ?_)
 refine LM.nil ?_
 refine kq1 ?_
 refine KD.val rfl rfl (ov_nilCheck rfl) <| KD.val rfl rfl (ovf 56 rfl rfl rfl rfl) ?_
 refine KD.last rfl ?_
 refine LM.st Tryz.sizeOf56 rfl rfl rfl au5 rfl auH ?_
 refine LM.nil ?_
 refine QM.qn ?_
 refine QM.sub (e' := [(0, _)]) ⟨rfl, trivial⟩ (QM.then (wpM.region ?_))
 refine LM.mv rfl <| LM.nc rfl <| LM.val (ovf 4 rfl rfl rfl rfl) ?_
 refine LM.st Tryz.sizeOf4 rfl rfl rfl au5 rfl auH ?_
 refine LM.nil (QM.sub (e' := []) trivial ?_)
 refine QM.leave (.inr rfl) [] Tryz.results41 rfl ?_
 intro w' hm' hc' hg'
 exact Upd.imp (lkm_leaf (u0 := resV []) (x := holdX x t p) (by show n19 = (_ ++ _ : List Hd).length; rw [List.length_append]; omega) hnd hs19 hSo.1 hTb hLe hb hm' au1 hc' inM_0 (inn_tr hin19 (fun p hp => by simp [hp])) inS inS inS) (fun u m' h => h.2)
theorem lkComes_spec {n0 T b : Nat} {x : Lkm} {od : List Int} {m : Mem0} (t p : Int) (w : World) (h : LkM n0 T b x od m) (hM : Mem w m) : Ret Tryz.prog 38 #[.pointer (some ⟨b, 0, none⟩), .int .i64 t, .int .i64 p] w (fun u w' => u = .int .i64 (comesE x t p) ∧ Ext w w') := by
 refine Ret.enterM Tryz.func38 rfl Tryz.ntmps38 rfl (m ++ []) (no) aM ?_
 refine wR <| LM.as rfl <| nA [(0, _), (1, _), (2, _)] <| wpM.seq <| wpM.block <| wR <| LM.mv rfl <| LM.mv rfl ?_
 refine cE Tryz.func66 rfl (fun w hm hc hg => lkIs_spec p w h (hm.pick m)) ?_
 first | refine LM.val (ov_notD rfl) ?_ | refine LM.val (ov_not rfl) ?_
 refine LM.mv rfl ?_
 first | refine LM.splitD (t := 12) rfl (fun h1 => ?_) (fun h1 => ?_) | refine LM.splitB (t := 12) rfl (fun h1 => ?_) (fun h1 => ?_)
 ·
  refine LM.dr 12 rfl rfl rfl <| LM.dr 12 rfl rfl rfl <| LM.val (ov_pickT rfl rfl) <| LM.as rfl <| nA [(0, _), (1, _), (7, _)] ?_
  refine wpM.condT rfl ?_
  refine wR <| LM.as rfl <| nA [(6, _)] <| wpM.ret <| QM.block_ret <| QM.then_ret ?_
  refine qL Tryz.results38 rfl fun w' hm' hc' hg' => ?_
  refine ⟨?_, hc'⟩; unfold comesE; simp_all [resV]
 refine LM.sp 12 rfl rfl rfl <| LM.mv rfl <| LM.sp 12 rfl rfl rfl <| LM.val (ov_lss rfl rfl) <| LM.val (ov_pickF rfl rfl) <| LM.as rfl <| nA [(0, _), (1, _), (7, _)] ?_
 refine wpM.condD rfl (fun h2 => ?_) (fun h2 => ?_)
 ·
  refine wR <| LM.as rfl <| nA [(6, _)] <| wpM.ret <| QM.block_ret <| QM.then_ret ?_
  refine qL Tryz.results38 rfl fun w' hm' hc' hg' => ?_
  refine ⟨?_, hc'⟩; unfold comesE; simp_all [resV]
 refine wR <| LM.mv rfl <| LM.mv rfl ?_
 refine cE Tryz.func32 rfl (fun w hm hc hg => lkHolds_spec t w h (hm.pick m)) ?_
 refine LM.as rfl <| nA [(0, _), (1, _), (16, _)] ?_
 first | refine wpM.condD rfl (fun h3 => ?_) (fun h3 => ?_) | refine wpM.condB rfl (fun h3 => ?_) (fun h3 => ?_)
 ·
  refine wR <| LM.as rfl <| nA [(6, _)] <| wpM.ret <| QM.block_ret <| QM.then_ret ?_
  refine qL Tryz.results38 rfl fun w' hm' hc' hg' => ?_
  refine ⟨?_, hc'⟩; unfold comesE; simp_all [resV]
 refine wR <| LM.mv rfl <| LM.mv rfl ?_
 refine cE Tryz.func55 rfl (fun w hm hc hg => lkWaits_spec t w h (hm.pick m)) ?_
 refine LM.as rfl <| nA [(20, _)] ?_
 first | refine wpM.condD rfl (fun h4 => ?_) (fun h4 => ?_) | refine wpM.condB rfl (fun h4 => ?_) (fun h4 => ?_)
 ·
  refine wR <| LM.as rfl <| nA [(6, _)] <| wpM.ret <| QM.block_ret <| QM.then_ret ?_
  refine qL Tryz.results38 rfl fun w' hm' hc' hg' => ?_
  refine ⟨?_, hc'⟩; unfold comesE; simp_all [resV]
 refine wpM.skip <| QM.block_normal <| tR <| LM.as rfl <| nA [(6, _)] <| wpM.ret ?_
 refine qL Tryz.results38 rfl fun w' hm' hc' hg' => ?_
 refine ⟨?_, hc'⟩; unfold comesE; simp_all [resV]
theorem lkTake_spec {n0 T b : Nat} {x : Lkm} {m : Mem0} (t p : Int) (w : World) (hT : Tab w) (hn1 : 0 < n0) (h : LkM n0 T b x (x.wt.map (·.who)) m) (hn0 : n0 ≤ w.heap.size) (hx : x.ho.length ≤ 1000) (hM : Mem w m) : Ret Tryz.prog 11 #[.pointer (some ⟨b, 0, none⟩), .int .i64 t, .int .i64 p] w (Upd m (fun u m' => u = .int .i64 (takeE x t p) ∧ LkM n0 T b (takeX x t p) (x.wt.map (·.who)) m') w) := by
 have hLk := h; have hS0 : ¬ inM m 0 := (fun ⟨p, hp, e⟩ => by have := h.ge p hp; omega); obtain ⟨adh, nh, caph, ado, nd, capo, bq, bl, mh, mo, mq, ml, rfl, hnh, hnd, hsh, hso, hTb, hLe, hb⟩ := h
 refine Ret.enterM Tryz.func11 rfl Tryz.ntmps11 rfl (lkC b x.sh x.sl adh nh caph bq ado nd capo x.tr bl x.di :: (mh ++ (mo ++ (mq ++ (ml ++ []))))) ((inM (lkM0 b x adh nh caph bq ado nd capo bl mh mo mq ml))) aM ?_
 refine wR <| LM.as rfl <| nA [(0, _), (1, _), (2, _)] <| wpM.seq <| wR <| LM.mv rfl <| LM.mv rfl <| LM.mv rfl ?_
 refine cE Tryz.func38 rfl (fun w hm hc hg => lkComes_spec t p w hLk (hm.pick (lkC b x.sh x.sl adh nh caph bq ado nd capo x.tr bl x.di :: (mh ++ (mo ++ (mq ++ ml)))))) ?_
 refine LM.as rfl <| nB [(0, _), (1, _), (2, _), (7, _)] <| LM.mv rfl <| LM.val (ov_neq rfl rfl) <| nA [(0, _), (1, _), (2, _), (7, _), (13, _)] ?_
 refine wpM.condD rfl (fun h1 => ?_) (fun h1 => ?_)
 ·
  refine wR <| LM.mv rfl <| LM.as rfl <| nA [(6, _)] <| wpM.ret <| QM.then_ret ?_
  refine qL Tryz.results11 rfl fun w' hm' hc' hg' => ?_
  have e1 : takeE x t p = comesE x t p := if_pos (by simpa using h1); have e2 : takeX x t p = x := if_pos (by rw [e1]; simpa using h1); rw [e1, e2]; exact lkm_leaf hnh hnd hsh hso hTb hLe hb hm' au1 hc' inM_0 inS inS inS inS
 refine wpM.skip <| QM.then <| wpM.seq <| wR <| LM.mv rfl <| LM.mv rfl ?_
 refine cE Tryz.func39 rfl (fun w hm hc hg => lkFree_spec p w hLk (hm.pick (lkC b x.sh x.sl adh nh caph bq ado nd capo x.tr bl x.di :: (mh ++ (mo ++ (mq ++ ml)))))) ?_
 first | refine LM.val (ov_notD rfl) ?_ | refine LM.val (ov_not rfl) ?_
 refine nA [(0, _), (1, _), (2, _), (18, _)] ?_
 first | refine wpM.condD rfl (fun h2 => ?_) (fun h2 => ?_) | refine wpM.condB rfl (fun h2 => ?_) (fun h2 => ?_)
 ·
  refine wR <| LM.as rfl <| nA [(6, _)] <| wpM.ret <| QM.then_ret ?_
  refine qL Tryz.results11 rfl fun w' hm' hc' hg' => ?_
  have k1 : comesE x t p = 0 := (by simpa using h1); have k2 : ¬ freeO x p = true := (by simpa using h2); have e1 : takeE x t p = 8 := (by unfold takeE; rw [if_neg (by rw [k1]; simp), if_neg k2]); have e2 : takeX x t p = x := if_pos (by rw [e1]; decide); rw [e1, e2]; exact lkm_leaf hnh hnd hsh hso hTb hLe hb hm' au1 hc' inM_0 inS inS inS inS
 refine wpM.skip <| QM.then <| wpM.seq <| wpM.seq ?_
 refine wpM.draw [(0, 0), (1, 0), (2, 0), (3, 1), (4, 0), (5, 0), (6, 0), (7, 0), (8, 0), (9, 0), (10, 1), (11, 0), (12, 0), (13, 0), (14, 1), (15, 0), (16, 2), (17, 0), (18, 0)] kr kr ?_
 refine LD.val rfl rfl (ov_move rfl) <| LD.val rfl rfl (ov_nilCheck rfl) <| LD.val rfl rfl (ovf 56 rfl rfl rfl rfl) ?_
 refine LD.rd rfl rfl (oml rfl rfl rfl) ?_
 refine LD.val rfl rfl (ov_len Tryz.underlying56 rfl) ?_
 refine LD.val rfl rfl (ov_eql rfl rfl) ?_
 refine LD.val rfl rfl (ov_move rfl) ?_
 refine LD.splitD (t := 25) rfl (fun h3 => ?_) (fun h3 => ?_)
 ·
  refine LD.val rfl ⟨25, _, rfl, rfl, rfl⟩ (ov_move rfl) <| LD.val rfl ⟨25, _, rfl, rfl, rfl⟩ (ov_nilCheck rfl) <| LD.val rfl ⟨25, _, rfl, rfl, rfl⟩ (ovf 64 rfl rfl rfl rfl) ?_
  first | refine LD.rd rfl ⟨25, _, rfl, rfl, rfl⟩ (om_ldW Tryz.isAgg64 Tryz.sizeOf64 rfl rfl) ?_ | refine LD.rd rfl ⟨25, _, rfl, rfl, rfl⟩ (om_ldA Tryz.isAgg64 Tryz.sizeOf64 rfl (vs := [_, _]) rfl ⟨rfl, rfl, trivial⟩) ?_
  refine LD.val rfl ⟨25, _, rfl, rfl, rfl⟩ (ov_move rfl) <| LD.val rfl ⟨25, _, rfl, rfl, rfl⟩ (ov_nilCheck rfl) <| LD.val rfl ⟨25, _, rfl, rfl, rfl⟩ (ovf 3 rfl rfl rfl rfl) ?_
  refine LD.rd rfl ⟨25, _, rfl, rfl, rfl⟩ (oml rfl rfl rfl) ?_
  refine LD.val rfl ⟨25, _, rfl, rfl, rfl⟩ (ov_move rfl) ?_
  refine dE rfl ⟨25, _, rfl, rfl, rfl⟩ Tryz.func40 rfl (fun w hm hc hg => tumay_spec x.tr _ _ w) ?_
  first | refine LD.val rfl ⟨25, _, rfl, rfl, rfl⟩ (ov_notD rfl) ?_ | refine LD.val rfl ⟨25, _, rfl, rfl, rfl⟩ (ov_not rfl) ?_
  refine LD.val rfl rfl (ov_pickT rfl rfl) ?_
  refine LD.nil ?_
  refine QM.sub (e' := [(0, _), (1, _), (2, _), (37, _)]) au9 (QM.then ?_)
  refine wpM.joinK (α := Trn) (fun tr => []) [(0, _), (1, _), (2, _)] (fun tr => lkC b x.sh x.sl adh nh caph bq ado nd capo tr bl x.di :: (mh ++ (mo ++ (mq ++ (ml ++ []))))) (fun tr => { x with tr := tr } = firstX x p) ⟨rfl, rfl, rfl, trivial⟩ ?_ ?_
  ·
   first | refine wpM.condD rfl (fun h4 => ?_) (fun h4 => ?_) | refine wpM.condB rfl (fun h4 => ?_) (fun h4 => ?_)
   ·
    refine wpM.region ?_
    refine LM.mv rfl <| LM.mv rfl ?_
    refine LM.val (ov_build (cs := #[.int .i64 p, .int .i64 0]) rfl kr) ?_
    refine LM.nc rfl <| LM.val (ovf 64 rfl rfl rfl rfl) ?_
    refine LM.st Tryz.sizeOf64 rfl rfl rfl au5 rfl auH ?_
    refine nC [(0, _), (1, _), (2, _)] ?_
    refine QM.meetK ((⟨p, 0⟩ : Trn)) ⟨rfl, rfl, rfl, trivial⟩ au1 ?_
    · exact (if_pos ⟨by omega, by simpa using h4⟩).symm
   refine wpM.skip ?_
   refine QM.meetK (x.tr) ⟨rfl, rfl, rfl, trivial⟩ au1 ?_
   · exact (if_neg (fun q => by rw [q.2] at h4; cases h4)).symm
  rintro tr htr
  change QM _ _ _ _ _ (lkC b x.sh x.sl adh nh caph bq ado nd capo tr bl x.di :: (mh ++ (mo ++ (mq ++ (ml ++ []))))) _ _ _
  refine tR ?_
  have hF : LkM n0 T b (firstX x p) (x.wt.map (·.who)) (lkC b x.sh x.sl adh nh caph bq ado nd capo tr bl x.di :: (mh ++ (mo ++ (mq ++ ml)))) := (by rw [← htr]; exact ⟨adh, nh, caph, ado, nd, capo, bq, bl, mh, mo, mq, ml, rfl, hnh, hnd, hsh, hso, hTb, hLe, hb⟩)
  refine LM.mv rfl <| LM.mv rfl <| LM.mv rfl ?_
  refine cU Tryz.func41 rfl (fun w hm hc hg => lkHold_spec t p w hF (Nat.le_trans hn0 hc.size) (by rw [← htr]; exact hx) (hm.pick (lkC b x.sh x.sl adh nh caph bq ado nd capo tr bl x.di :: (mh ++ (mo ++ (mq ++ ml)))))) hF.wlk (fun q hq _ => inM_hd q hq rfl) ?_
  rintro u46 m46 h46 hin46
  refine nB [(0, _)] <| LM.mv rfl ?_
  refine cU Tryz.func42 rfl (fun w hm hc hg => lkSet_spec w (hT.keep hc hS0) hn1 h46 (by show _ = (firstX x p).wt.map _; rw [first_wt]) (hm.pick m46)) h46.wlk (inM_inn (inn_hd hin46 rfl)) ?_
  rintro u48 m48 h48 hin48
  refine LM.nil (QM.sub (e' := []) trivial (QM.then (wpM.seq (wpM.region ?_))))
  refine LM.as rfl <| nA [(6, _)] <| wpM.ret ?_
  refine qL Tryz.results11 rfl fun w' hm' hc' hg' => ?_
  have k1 : comesE x t p = 0 := (by simpa using h1); have k2 : freeO x p = true := (by simpa using h2); have e1 : takeE x t p = 0 := (by unfold takeE; rw [if_neg (by rw [k1]; simp), if_pos k2]); have e2 : takeX x t p = settleX (holdX (firstX x p) t p) := if_neg (by rw [e1]; simp); rw [e1, e2]; exact upd_m ⟨rfl, h48⟩ hm' au1 hc' (inn_trans (inn_hd hin46 rfl) hin48)
 refine LD.drop rfl rfl ⟨25, _, rfl, rfl, rfl⟩ <| LD.drop rfl rfl ⟨25, _, rfl, rfl, rfl⟩ <| LD.drop rfl rfl ⟨25, _, rfl, rfl, rfl⟩ <| LD.drop rfl rfl ⟨25, _, rfl, rfl, rfl⟩ <| LD.drop rfl rfl ⟨25, _, rfl, rfl, rfl⟩ <| LD.drop rfl rfl ⟨25, _, rfl, rfl, rfl⟩ <| LD.drop rfl rfl ⟨25, _, rfl, rfl, rfl⟩ <| LD.drop rfl rfl ⟨25, _, rfl, rfl, rfl⟩ <| LD.drop rfl rfl ⟨25, _, rfl, rfl, rfl⟩ <| LD.drop rfl rfl ⟨25, _, rfl, rfl, rfl⟩ <| LD.drop rfl rfl ⟨25, _, rfl, rfl, rfl⟩ ?_
 refine LD.val rfl rfl (ov_pickF rfl rfl) ?_
 refine LD.nil ?_
 refine QM.sub (e' := [(0, _), (1, _), (2, _), (37, _)]) au9 (QM.then ?_)
 refine wpM.joinK (α := Trn) (fun tr => []) [(0, _), (1, _), (2, _)] (fun tr => lkC b x.sh x.sl adh nh caph bq ado nd capo tr bl x.di :: (mh ++ (mo ++ (mq ++ (ml ++ []))))) (fun tr => { x with tr := tr } = firstX x p) ⟨rfl, rfl, rfl, trivial⟩ ?_ ?_
 ·
  refine wpM.condF rfl ?_
  refine wpM.skip ?_
  refine QM.meetK (x.tr) ⟨rfl, rfl, rfl, trivial⟩ au1 ?_
  · exact (if_neg (fun q => by omega)).symm
 rintro tr htr
 change QM _ _ _ _ _ (lkC b x.sh x.sl adh nh caph bq ado nd capo tr bl x.di :: (mh ++ (mo ++ (mq ++ (ml ++ []))))) _ _ _
 refine tR ?_
 have hF : LkM n0 T b (firstX x p) (x.wt.map (·.who)) (lkC b x.sh x.sl adh nh caph bq ado nd capo tr bl x.di :: (mh ++ (mo ++ (mq ++ ml)))) := (by rw [← htr]; exact ⟨adh, nh, caph, ado, nd, capo, bq, bl, mh, mo, mq, ml, rfl, hnh, hnd, hsh, hso, hTb, hLe, hb⟩)
 refine LM.mv rfl <| LM.mv rfl <| LM.mv rfl ?_
 refine cU Tryz.func41 rfl (fun w hm hc hg => lkHold_spec t p w hF (Nat.le_trans hn0 hc.size) (by rw [← htr]; exact hx) (hm.pick (lkC b x.sh x.sl adh nh caph bq ado nd capo tr bl x.di :: (mh ++ (mo ++ (mq ++ ml)))))) hF.wlk (fun q hq _ => inM_hd q hq rfl) ?_
 rintro u46 m46 h46 hin46
 refine nB [(0, _)] <| LM.mv rfl ?_
 refine cU Tryz.func42 rfl (fun w hm hc hg => lkSet_spec w (hT.keep hc hS0) hn1 h46 (by show _ = (firstX x p).wt.map _; rw [first_wt]) (hm.pick m46)) h46.wlk (inM_inn (inn_hd hin46 rfl)) ?_
 rintro u48 m48 h48 hin48
 refine LM.nil (QM.sub (e' := []) trivial (QM.then (wpM.seq (wpM.region ?_))))
 refine LM.as rfl <| nA [(6, _)] <| wpM.ret ?_
 refine qL Tryz.results11 rfl fun w' hm' hc' hg' => ?_
 have k1 : comesE x t p = 0 := (by simpa using h1); have k2 : freeO x p = true := (by simpa using h2); have e1 : takeE x t p = 0 := (by unfold takeE; rw [if_neg (by rw [k1]; simp), if_pos k2]); have e2 : takeX x t p = settleX (holdX (firstX x p) t p) := if_neg (by rw [e1]; simp); rw [e1, e2]; exact upd_m ⟨rfl, h48⟩ hm' au1 hc' (inn_trans (inn_hd hin46 rfl) hin48)
theorem wtE_new {L : List Wt} {t p : Int} (h : ¬ 8 ≤ L.length) (hn : hasW L t = false) : wtE 8 8 L ⟨t, p, 0#64⟩ = 0 ∧ wtL 8 8 L ⟨t, p, 0#64⟩ = L ++ [⟨t, p, 0#64⟩] := by
  have h1 : ¬ ∃ x ∈ L, x.who = t := fun ⟨x, hx, e⟩ => hasW_no hn x hx e
  have h2 := cnt_le L p
  unfold wtE wtL entE entL
  have h3 : ¬ (8 : Int) ≤ (L.length : Int) := by omega
  have h4 : ¬ (8 : Int) ≤ (cntL L p : Int) := by omega
  rw [if_neg h1, if_neg h1, if_neg h3, if_neg h3]
  exact ⟨if_neg h4, if_neg h4⟩
theorem wtE_full {L : List Wt} {t p : Int} (h : 8 ≤ L.length) (hn : hasW L t = false) : wtE 8 8 L ⟨t, p, 0#64⟩ = 3 ∧ wtL 8 8 L ⟨t, p, 0#64⟩ = L := by
  have h1 : ¬ ∃ x ∈ L, x.who = t := fun ⟨x, hx, e⟩ => hasW_no hn x hx e
  unfold wtE wtL
  rw [if_neg h1, if_neg h1, if_pos om, if_pos om]
  exact ⟨rfl, rfl⟩
theorem comes_zero {x : Lkm} {t p : Int} (h : comesE x t p = 0) : isO x.ld p = true ∧ 0 ≤ t ∧ holdsO x t = false ∧ waitsO x t = false := by
  unfold comesE at h
  by_cases c1 : isO x.ld p = false ∨ t < 0
  · rw [if_pos c1] at h; cases h
  · rw [if_neg c1] at h
    by_cases c2 : holdsO x t = true
    · rw [if_pos c2] at h; cases h
    · rw [if_neg c2] at h
      by_cases c3 : waitsO x t = true
      · rw [if_pos c3] at h; cases h
      · exact ⟨by simpa using fun q => c1 (.inl q), by omega, by simpa using c2, by simpa using c3⟩
theorem lkWait_spec {n0 T b : Nat} {x : Lkm} {m : Mem0} (t p : Int) (w : World) (hT : Tab w) (hn1 : 0 < n0) (h : LkM n0 T b x (x.wt.map (·.who)) m) (hn0 : n0 ≤ w.heap.size) (hTT : T ≤ 1000000000) (hM : Mem w m) : Ret Tryz.prog 13 #[.pointer (some ⟨b, 0, none⟩), .int .i64 t, .int .i64 p] w (Upd m (fun u m' => u = .int .i64 (waitE x t p) ∧ LkM n0 (T + 1) b (waitX x t p) ((waitX x t p).wt.map (·.who)) m') w) := by
 have hLk := h; have hS0 : ¬ inM m 0 := (fun ⟨p, hp, e⟩ => by have := h.ge p hp; omega); obtain ⟨adh, nh, caph, ado, nd, capo, bq, bl, mh, mo, mq, ml, rfl, hnh, hnd, hsh, hso, hTb, hLe, hb⟩ := h; have hxl := hTb.lim.2.2.1; have hol : (x.wt.map (·.who)).length = x.wt.length := List.length_map ..
 refine Ret.enterM Tryz.func13 rfl Tryz.ntmps13 rfl (lkC b x.sh x.sl adh nh caph bq ado nd capo x.tr bl x.di :: (mh ++ (mo ++ (mq ++ (ml ++ []))))) ((inM (lkM0 b x adh nh caph bq ado nd capo bl mh mo mq ml))) aM ?_
 refine wR <| LM.as rfl <| nA [(0, _), (1, _), (2, _)] <| wpM.seq <| wR <| LM.mv rfl <| LM.mv rfl <| LM.mv rfl ?_
 refine cE Tryz.func38 rfl (fun w hm hc hg => lkComes_spec t p w hLk (hm.pick (lkC b x.sh x.sl adh nh caph bq ado nd capo x.tr bl x.di :: (mh ++ (mo ++ (mq ++ ml)))))) ?_
 refine LM.as rfl <| nB [(0, _), (1, _), (2, _), (7, _)] <| LM.mv rfl <| LM.val (ov_neq rfl rfl) <| nA [(0, _), (1, _), (2, _), (7, _), (14, _)] ?_
 refine wpM.condD rfl (fun h1 => ?_) (fun h1 => ?_)
 ·
  refine wR <| LM.mv rfl <| LM.as rfl <| nA [(6, _)] <| wpM.ret <| QM.then_ret ?_
  refine qL Tryz.results13 rfl fun w' hm' hc' hg' => ?_
  have e1 : waitE x t p = comesE x t p := if_pos (by simpa using h1); have e2 : waitX x t p = x := if_pos (by rw [e1]; simpa using h1); rw [e1, e2]; have e3 : LkM n0 (T + 1) b x (x.wt.map (·.who)) (lkM0 b x adh nh caph bq ado nd capo bl mh mo mq ml) := ⟨adh, nh, caph, ado, nd, capo, bq, bl, mh, mo, mq, ml, rfl, hnh, hnd, hsh, hso, hTb.tmono (Nat.le_succ _), hLe, hb⟩; exact upd_m ⟨rfl, e3⟩ hm' au1 hc' (inn_refl _ _)
 have k1 : comesE x t p = 0 := (by simpa using h1); have hnw : hasW x.wt t = false := (comes_zero k1).2.2.2
 refine wpM.skip <| QM.then <| wpM.seq <| wR <| LM.mv rfl <| LM.mv rfl ?_
 refine cE Tryz.func39 rfl (fun w hm hc hg => lkFree_spec p w hLk (hm.pick (lkC b x.sh x.sl adh nh caph bq ado nd capo x.tr bl x.di :: (mh ++ (mo ++ (mq ++ ml)))))) ?_
 refine nA [(0, _), (1, _), (2, _), (18, _)] ?_
 first | refine wpM.condD rfl (fun h2 => ?_) (fun h2 => ?_) | refine wpM.condB rfl (fun h2 => ?_) (fun h2 => ?_)
 ·
  refine wR <| LM.as rfl <| nA [(6, _)] <| wpM.ret <| QM.then_ret ?_
  refine qL Tryz.results13 rfl fun w' hm' hc' hg' => ?_
  have e1 : waitE x t p = 4 := (by unfold waitE; rw [if_neg (by rw [k1]; simp), if_pos h2]); have e2 : waitX x t p = x := if_pos (by rw [e1]; decide); rw [e1, e2]; have e3 : LkM n0 (T + 1) b x (x.wt.map (·.who)) (lkM0 b x adh nh caph bq ado nd capo bl mh mo mq ml) := ⟨adh, nh, caph, ado, nd, capo, bq, bl, mh, mo, mq, ml, rfl, hnh, hnd, hsh, hso, hTb.tmono (Nat.le_succ _), hLe, hb⟩; exact upd_m ⟨rfl, e3⟩ hm' au1 hc' (inn_refl _ _)
 refine wpM.skip <| QM.then <| wpM.seq <| wR <| LM.mv rfl <| LM.nc rfl <| LM.val (ovf 66 rfl rfl rfl rfl) ?_
 refine LM.rd (oml rfl rfl rfl) ?_
 refine LM.mv rfl <| LM.mv rfl ?_
 refine LM.val (ov_build (cs := #[.int .i64 t, .int .i64 p, U 0#64]) rfl kr) ?_
 refine cU Tryz.func47 rfl (fun w hm hc hg => twait_spec ⟨t, p, 0#64⟩ w hTb hTT (Nat.le_trans hn0 hc.size) (hm.pick mq)) hTb.wlk (fun q hq _ => ⟨q, by simp [hq], rfl⟩) ?_
 rintro u26 m26 ⟨rfl, h26⟩ hin26
 refine LM.as rfl <| nB [(0, _), (1, _), (8, _)] <| LM.mv rfl <| LM.val (ov_neq rfl rfl) <| nA [(0, _), (1, _), (8, _), (28, _)] ?_
 refine wpM.condD rfl (fun h3 => ?_) (fun h3 => ?_)
 ·
  refine wR <| LM.mv rfl <| LM.as rfl <| nA [(6, _)] <| wpM.ret <| QM.then_ret ?_
  refine qL Tryz.results13 rfl fun w' hm' hc' hg' => ?_
  have h8 : 8 ≤ x.wt.length := (by apply Classical.byContradiction; intro q; exact h3 (wtE_new q hnw).1); have hE := wtE_full (p := p) h8 hnw; rw [hE.2] at h26; have e1 : waitE x t p = 3 := (by unfold waitE; rw [if_neg (by rw [k1]; simp), if_neg (by rw [h2]; simp), if_pos h8]); have e2 : waitX x t p = x := if_pos (by rw [e1]; decide); have e3 : LkM n0 (T + 1) b x (x.wt.map (·.who)) (lkM0 b x adh nh caph bq ado nd capo bl mh mo m26 ml) := ⟨adh, nh, caph, ado, nd, capo, bq, bl, mh, mo, m26, ml, rfl, hnh, hnd, hsh, hso, h26, hLe, hb⟩; rw [e1, e2]; exact upd_m ⟨by show Value.int .i64 (wtE 8 8 x.wt ⟨t, p, 0#64⟩) = _; rw [hE.1], e3⟩ hm' au1 hc' (inn_cons inM_0 (inn_app inS (inn_app inS (inn_app (inn_tr hin26 (fun p hp => by simp [hp])) inS))))
 refine wpM.skip <| tR <| LM.mv rfl <| LM.mv rfl <| LM.nc rfl <| LM.val (ovf 24 rfl rfl rfl rfl) ?_
 refine LM.rd (oml rfl rfl rfl) ?_
 refine LM.mv rfl ?_
 refine LM.single Tryz.underlying24 Tryz.sizeOf3 Tryz.zeroValue3 rfl rfl rfl rfl rfl (fun b36 hb36 => ?_)
 refine LM.app (a := t) Tryz.underlying24 Tryz.typeInfo3 rfl rfl rfl rfl rfl rfl rfl asm (by rfl) ir (by intro _ u hu; simp [fI] at hu; (repeat (first | (rcases hu with rfl | hu) | subst hu | rfl))) (by first | exact Nat.le_refl _ | omega) (fun p hp _ => ⟨p, by simp [hp], rfl⟩) (by first | omega | (unfold maxLen; omega)) (by simp only [Tryz.t3]; omega) (fun ad37 n37 cap37 m37 hn37 hs37 hin37 => ?_)
 refine LM.nc rfl <| LM.val (ovf 24 rfl rfl rfl rfl) ?_
 refine LM.st Tryz.sizeOf24 rfl rfl rfl au5 rfl auH ?_
 refine LM.mem (SubM.mem (M' := lkC b x.sh x.sl adh nh caph bq ad37 n37 cap37 x.tr bl x.di :: (mh ++ (m37 ++ (m26 ++ (ml ++ []))))) au1) ?_
 refine nB [(0, _)] ?_
 have hE := wtE_new (p := p) (show ¬ 8 ≤ x.wt.length from fun q => h3 (by rw [(wtE_full q hnw).1]; decide)) hnw; rw [hE.2] at h26; have h40 : LkM n0 (T + 1) b { x with wt := x.wt ++ [⟨t, p, 0#64⟩] } (x.wt.map (·.who) ++ [t]) (lkC b x.sh x.sl adh nh caph bq ad37 n37 cap37 x.tr bl x.di :: (mh ++ (m37 ++ (m26 ++ ml)))) := ⟨adh, nh, caph, ad37, n37, cap37, bq, bl, mh, m37, m26, ml, rfl, hnh, by rw [List.length_append]; omega, hsh, hs37, h26, hLe, hb⟩; have hin40 : inn (lkM0 b x adh nh caph bq ado nd capo bl mh mo mq ml) w.heap.size (lkC b x.sh x.sl adh nh caph bq ad37 n37 cap37 x.tr bl x.di :: (mh ++ (m37 ++ (m26 ++ ml)))) := inn_cons inM_0 (inn_app inS (inn_app (inn_tr hin37 (fun p hp => by simp [hp])) (inn_app (inn_tr hin26 (fun p hp => by simp [hp])) inS)))
 refine LM.mv rfl ?_
 refine cU Tryz.func42 rfl (fun w hm hc hg => lkSet_spec w (hT.keep hc hS0) hn1 h40 (by rw [List.map_append]; rfl) (hm.pick (lkC b x.sh x.sl adh nh caph bq ad37 n37 cap37 x.tr bl x.di :: (mh ++ (m37 ++ (m26 ++ ml)))))) h40.wlk (inM_inn hin40) ?_
 rintro u41 m41 h41 hin41
 refine LM.nil (QM.sub (e' := []) trivial (QM.then (wpM.seq (wpM.region ?_))))
 refine LM.as rfl <| nA [(6, _)] <| wpM.ret ?_
 refine qL Tryz.results13 rfl fun w' hm' hc' hg' => ?_
 have h8 : ¬ 8 ≤ x.wt.length := (fun q => by rw [(wtE_full q hnw).1] at h3; exact absurd h3 (by decide)); have e1 : waitE x t p = 0 := (by unfold waitE; rw [if_neg (by rw [k1]; simp), if_neg (by rw [h2]; simp), if_neg h8]); have e2 : waitX x t p = settleX { x with wt := x.wt ++ [⟨t, p, 0#64⟩] } := if_neg (by rw [e1]; simp); have e4 : (waitX x t p).wt.map (·.who) = x.wt.map (·.who) ++ [t] := (by rw [e2]; show (x.wt ++ [_]).map _ = _; rw [List.map_append]; rfl); rw [e1, e4, e2]; exact upd_m ⟨rfl, h41⟩ hm' au1 hc' (inn_trans hin40 hin41)
def ixI (l : List Int) (t : Int) : Int := fixI (fun x => decide (x = t)) l
def rmI (l : List Int) (t : Int) : List Int := l.filter (fun x => decide (x ≠ t))
abbrev taB (c : Nat) (task : Int) : Nat × Obj := (c, .cells #[.int .i64 task] 3 (0, 0))
theorem rmI_no {l : List Int} {t : Int} (h : l.any (fun x => decide (x = t)) = false) : rmI l t = l := by
  refine List.filter_eq_self.2 (fun x hx => ?_)
  rw [List.any_eq_false] at h
  have := h x hx
  simpa using this
theorem rmI_snoc {l : List Int} {t : Int} {j : Nat} (h : j < l.length) : rmI (l.take (j + 1)) t = if l.getD j 0 ≠ t then rmI (l.take j) t ++ [l.getD j 0] else rmI (l.take j) t := by
  unfold rmI; rw [take_snoc 0 h, List.filter_append, List.filter_cons, List.filter_nil]
  by_cases e : l.getD j 0 = t
  · rw [if_neg (by simpa using e), if_neg (fun q => q e), List.append_nil]
  · rw [if_pos (by simpa using e), if_pos e]
theorem ixI_cases (l : List Int) (t : Int) : (ixI l t = -1 ∧ l.any (fun x => decide (x = t)) = false) ∨ ∃ i : Nat, ixI l t = (i : Int) ∧ i < l.length ∧ l.getD i 0 = t ∧ (l.take i).any (fun x => decide (x = t)) = false := by
  cases h : l.any (fun x => decide (x = t)) with
  | false => exact .inl ⟨fix_miss h, rfl⟩
  | true =>
    have h1 : l.findIdx (fun x => decide (x = t)) < l.length := List.findIdx_lt_length.2 (by rw [List.any_eq_true] at h; exact h)
    have h2 := List.findIdx_getElem (w := h1)
    refine .inr ⟨l.findIdx (fun x => decide (x = t)), if_pos h, h1, ?_, ?_⟩
    · rw [List.getD_eq_getElem?_getD, List.getElem?_eq_getElem h1]; exact of_decide_eq_true h2
    · rw [List.any_eq_false]
      intro x hx
      obtain ⟨j, hj, rfl⟩ := List.getElem_of_mem hx
      rw [List.length_take] at hj
      rw [List.getElem_take]
      have := List.not_of_lt_findIdx (xs := l) (p := fun x => decide (x = t)) (i := j) om
      simpa using this
structure DelI (xs ys : List Int) (t : Int) (i j : Nat) : Prop where
  il : i < j
  jl : j ≤ xs.length
  yl : ys.length = xs.length
  ie : (rmI (xs.take j) t).length = i
  ye : ys.take i = rmI (xs.take j) t
  yr : ∀ q, j ≤ q → ys.getD q 0 = xs.getD q 0
theorem del_init {xs : List Int} {t : Int} {i : Nat} (hi : i < xs.length) (hx : xs.getD i 0 = t) (ha : (xs.take i).any (fun x => decide (x = t)) = false) : DelI xs xs t i (i + 1) := by
  have e : rmI (xs.take (i + 1)) t = xs.take i := by rw [rmI_snoc hi, if_neg (fun q => q hx)]; exact rmI_no ha
  exact ⟨by omega, by omega, rfl, by rw [e, List.length_take]; omega, e.symm, fun q _ => rfl⟩
theorem del_skip {xs ys : List Int} {t : Int} {i j : Nat} (h : DelI xs ys t i j) (hj : j < xs.length) (hx : ys.getD j 0 = t) : DelI xs ys t i (j + 1) := by
  have hx2 : xs.getD j 0 = t := by rw [← h.yr j (Nat.le_refl _)]; exact hx
  have e : rmI (xs.take (j + 1)) t = rmI (xs.take j) t := by rw [rmI_snoc hj, if_neg (fun q => q hx2)]
  exact ⟨by have := h.il; omega, by omega, h.yl, by rw [e]; exact h.ie, by rw [e]; exact h.ye, fun q hq => h.yr q om⟩
theorem del_put {xs ys : List Int} {t : Int} {i j : Nat} (h : DelI xs ys t i j) (hj : j < xs.length) (hx : ys.getD j 0 ≠ t) : DelI xs (ys.set i (ys.getD j 0)) t (i + 1) (j + 1) := by
  have hy := h.yr j (Nat.le_refl _)
  have hx2 : xs.getD j 0 ≠ t := by rw [← hy]; exact hx
  have e : rmI (xs.take (j + 1)) t = rmI (xs.take j) t ++ [xs.getD j 0] := by rw [rmI_snoc hj, if_pos hx2]
  have hil := h.il
  have hyl := h.yl
  refine ⟨by omega, by omega, by rw [List.length_set]; exact hyl, by rw [e, List.length_append, h.ie]; rfl, ?_, fun q hq => ?_⟩
  · rw [take_snoc 0 (by rw [List.length_set]; omega), e, ← h.ye, List.take_set_of_le om, List.getD_eq_getElem?_getD, List.getElem?_set_self om, hy]; rfl
  · rw [List.getD_eq_getElem?_getD, List.getElem?_set_ne om, ← List.getD_eq_getElem?_getD]; exact h.yr q om
theorem lkg1_spec (x : Int) (c : Nat) (task : Int) (w : World) (hM : Mem w [taB c task]) : Ret Tryz.prog 104 #[.int .i64 x, .pointer (some ⟨c, 0, none⟩)] w (fun u w' => u = .bool (decide (x = task)) ∧ Ext w w') := by
 refine Ret.enterM Tryz.func104 rfl Tryz.ntmps104 rfl ([taB c task]) (no) hM ?_
 refine wR <| LM.as rfl <| nB [(0, _), (1, _)] <| LM.mv rfl ?_
 refine LM.rd (oml rfl rfl rfl) ?_
 refine LM.val (ov_eql rfl rfl) <| LM.as rfl <| nA [(3, _)] <| wpM.ret ?_
 refine qL Tryz.results104 rfl fun w' hm' hc' hg' => ?_
 exact ⟨rfl, hc'⟩
theorem ixf_int {xs : List Int} {ad : Option Addr} {n cap c : Nat} (task : Int) (w : World) (hn : n = xs.length) (hl : Sr fI 1 xs (.slice ad n cap) w) (hx : xs.length ≤ maxLen) (hM : Mem w [taB c task]) : Ret Tryz.prog 136 #[.slice ad n cap, .func (.func 104) #[] #[.pointer (some ⟨c, 0, none⟩)]] w (fun v w' => v = .int .i64 (ixI xs task) ∧ Ext w w') := by
 have hx2 : maxLen = 9223372036854775807 := (by unfold maxLen; rfl)
 refine Ret.enterM Tryz.func136 rfl Tryz.ntmps136 rfl ([taB c task]) (no) hM ?_
 refine wR <| LM.as rfl <| nA [(0, _), (1, _)] <| wpM.seq <| wR <| LM.mv rfl <| LM.val (ov_len Tryz.underlying24 rfl) <| LM.mv rfl <| nA [(0, _), (1, _), (7, _), (8, _)] <| wpM.block ?_
 refine wpM.loopK0 (α := Nat) (fun i => [(8, .int .i64 (i : Nat))]) [(0, _), (1, _), (7, _)] (fun i => [taB c task]) (fun i => i ≤ xs.length ∧ (xs.take i).any (fun x => decide (x = task)) = false) (fun i => xs.length - i) (0) ⟨au2, rfl, rfl, rfl, trivial⟩ au1 ⟨Nat.zero_le _, rfl⟩ ?_
 rintro i ⟨hi, ha⟩
 change wpM _ _ _ _ _ _ _ ([taB c task]) _ _ _
 refine wR <| LM.val (ov_lss rfl rfl) <| nA [(0, _), (1, _), (7, _), (8, _), (9, _)] <| wpM.seq ?_
 refine wpM.condD rfl (fun h1 => ?_) (fun h1 => ?_)
 ·
  refine wpM.skip <| QM.then <| wpM.seq <| wpM.block <| wR <| LM.mv rfl <| LM.as rfl <| nB [(0, _), (1, _), (5, _), (7, _), (8, _)] <| LM.mv rfl <| LM.mv rfl <| LM.mv rfl ?_
  refine LM.val (ov_idxSN au6 Tryz.underlying24 Tryz.sizeOf3 rfl rfl om) ?_
  first | refine LM.rd (om_sl1 asm ir Tryz.isAgg3 rfl rfl (by exact getq 0 au4) (by rfl)) ?_ | refine LM.rdC (om_sr1 asm Tryz.isAgg3 rfl rfl (by exact getq 0 au4) (by rfl) id) ?_ | refine LM.rd (oml rfl rfl rfl) ?_
  refine LM.callE (oc_callV rfl (enters_fn Tryz.func104 kr rfl) rfl) (fun w hm hc hg => lkg1_spec _ c task w (hm.pick _)) ?_
  refine nA [(0, _), (1, _), (5, _), (7, _), (8, _), (16, _)] ?_
  refine wpM.condD rfl (fun h2 => ?_) (fun h2 => ?_)
  ·
   refine wR <| LM.mv rfl <| LM.as rfl <| nA [(4, _)] <| wpM.ret <| QM.block_ret <| QM.then_ret <| QM.then_ret <| QM.block_ret <| QM.then_ret ?_
   refine qL Tryz.results136 rfl fun w' hm' hc' hg' => ?_
   exact ⟨by show Value.int .i64 _ = _; unfold ixI; rw [fix_hit 0 ha om (by simpa using h2)], hc'⟩
  refine wpM.skip <| QM.block_normal ?_
  refine QM.then (wpM.region ?_)
  refine LM.val (ov_add64 rfl rfl om) ?_
  refine LM.mv rfl <| nC [(0, _), (1, _), (7, _), (8, _)] ?_
  refine QM.againK (i + 1) ⟨au2, rfl, rfl, rfl, trivial⟩ au1 (fun _ h => h) ?_ ?_
  · exact ⟨by omega, by rw [any_snoc 0 om, ha, Bool.false_or]; simpa using h2⟩
  · omega
 refine wpM.exit <| QM.then_exit <| QM.then_exit <| QM.block_hit <| tR <| LM.as rfl <| nA [(4, _)] <| wpM.ret ?_
 refine qL Tryz.results136 rfl fun w' hm' hc' hg' => ?_
 have hil : i = xs.length := om; subst hil; rw [List.take_length] at ha; exact ⟨by show Value.int .i64 _ = _; unfold ixI; rw [fix_miss ha], hc'⟩
theorem delf_spec {xs : List Int} {ad : Option Addr} {n cap c n0 : Nat} {mz : Mem0} (task : Int) (w : World) (hs : Sl fI 3 1 n0 xs (.slice ad n cap) mz) (hM : Mem w (taB c task :: mz)) : Ret Tryz.prog 103 #[.slice ad n cap, .func (.func 104) #[] #[.pointer (some ⟨c, 0, none⟩)]] w (Upd mz (fun v m' => v = .slice ad (rmI xs task).length cap ∧ Sl fI 3 1 n0 (rmI xs task) (.slice ad (rmI xs task).length cap) m') w) := by
 have hx2 : maxLen = 9223372036854775807 := (by unfold maxLen; rfl); have hsl := hs.len
 refine Ret.enterM Tryz.func103 rfl Tryz.ntmps103 rfl (taB c task :: (mz ++ [])) ((inM mz)) aM ?_
 refine wR <| LM.as rfl <| nB [(0, _), (1, _)] <| LM.mv rfl <| LM.mv rfl ?_
 refine cE Tryz.func136 rfl (fun w hm hc hg => ixf_int task w hsl.1 (hs.srM ir hm) hsl.2.1 (hm.pick [taB c task])) ?_
 refine LM.as rfl <| nA [(0, _), (1, _), (5, _)] <| wpM.seq <| wR <| LM.mv rfl <| LM.val (ov_eql rfl rfl) <| nA [(0, _), (1, _), (5, _), (12, _)] ?_
 refine wpM.condD rfl (fun h1 => ?_) (fun h1 => ?_)
 ·
  refine wR <| LM.mv rfl <| LM.as rfl <| nA [(4, _)] <| wpM.ret <| QM.then_ret ?_
  refine qL Tryz.results103 rfl fun w' hm' hc' hg' => ?_
  have e : rmI xs task = xs := (by rcases ixI_cases xs task with q | ⟨i, q, _⟩; exact rmI_no q.2; rw [q] at h1; omega); rw [e, ← hsl.1]; exact upd_m ⟨rfl, hs⟩ hm' au1 hc' (inn_refl _ _)
 obtain ⟨i0, hi0, hil0, hx0, ha0⟩ : ∃ i : Nat, ixI xs task = (i : Int) ∧ i < xs.length ∧ xs.getD i 0 = task ∧ (xs.take i).any (fun x => decide (x = task)) = false := (by rcases ixI_cases xs task with q | q; exact absurd q.1 h1; exact q); rw [hi0]
 refine wpM.skip <| QM.then <| wpM.seq <| wR <| LM.mv rfl ?_
 refine LM.val (ov_add64 rfl rfl om) ?_
 refine LM.as rfl <| nA [(0, _), (1, _), (5, _), (6, _)] <| wpM.block ?_
 refine wpM.loopK0 (α := Nat × Nat × List Int × Mem0) (fun ⟨i, j, ys, ms2⟩ => [(5, .int .i64 (i : Nat)), (6, .int .i64 (j : Nat))]) [(0, _), (1, _)] (fun ⟨i, j, ys, ms2⟩ => taB c task :: (ms2 ++ [])) (fun ⟨i, j, ys, ms2⟩ => DelI xs ys task i j ∧ Sl fI 3 1 n0 ys (.slice ad n cap) ms2 ∧ (∀ p ∈ ms2, ∃ q ∈ mz, q.1 = p.1)) (fun ⟨i, j, ys, ms2⟩ => xs.length - j) ((i0, i0 + 1, xs, mz)) ⟨au2, au2, rfl, rfl, trivial⟩ au1 ⟨del_init hil0 hx0 ha0, hs, fun p hp => ⟨p, hp, rfl⟩⟩ ?_
 rintro ⟨i, j, ys, ms2⟩ ⟨hD, hs2, hin2⟩
 change wpM _ _ _ _ _ _ _ (taB c task :: (ms2 ++ [])) _ _ _
 have hil := hD.il; have hjl := hD.jl; have hyl := hD.yl
 refine wpM.seq <| wR <| LM.mv rfl <| LM.mv rfl <| LM.val (ov_len Tryz.underlying24 rfl) <| LM.val (ov_lss rfl rfl) <| nA [(0, _), (1, _), (5, _), (6, _), (19, _)] ?_
 refine wpM.condD rfl (fun h2 => ?_) (fun h2 => ?_)
 ·
  refine wpM.skip <| QM.then <| wpM.seq <| wpM.block <| wR <| LM.mv rfl <| LM.mv rfl ?_
  refine LM.val (ov_idxSN au6 Tryz.underlying24 Tryz.sizeOf3 rfl rfl om) ?_
  refine LM.rd (om_sl1 asm ir Tryz.isAgg3 rfl rfl (by exact getq 0 au4) (by rfl)) ?_
  refine LM.as rfl <| nB [(0, _), (1, _), (5, _), (6, _), (7, _)] <| LM.mv rfl <| LM.mv rfl ?_
  refine LM.callE (oc_callV rfl (enters_fn Tryz.func104 kr rfl) rfl) (fun w hm hc hg => lkg1_spec _ c task w (hm.pick _)) ?_
  refine LM.val (ov_notD rfl) ?_
  refine nA [(0, _), (1, _), (5, _), (6, _), (7, _), (29, _)] ?_
  refine wpM.condD rfl (fun h3 => ?_) (fun h3 => ?_)
  ·
   refine wR <| LM.mv rfl <| LM.mv rfl <| LM.mv rfl ?_
   refine LM.val (ov_idxSN au6 Tryz.underlying24 Tryz.sizeOf3 rfl rfl om) ?_
   refine LM.stS _ (j := 0) asm ir Tryz.sizeOf3 rfl rfl rfl (by exact getq 0 au4) rfl (by decide) (by rfl) rfl (fun p hp hlt => by obtain ⟨q, hq, e⟩ := hin2 p hp; exact ⟨q, hq, e⟩) (fun ms hss hmm => ?_)
   refine LM.nil (QM.sub (e' := [(0, _), (1, _), (5, _), (6, _)]) au9 (QM.then (wpM.region ?_)))
   refine LM.mv rfl ?_
   refine LM.val (ov_add64 rfl rfl om) ?_
   refine LM.as rfl <| nC [(0, _), (1, _), (5, _), (6, _)] <| QM.block_normal ?_
   refine QM.then (wpM.region ?_)
   refine LM.mv rfl ?_
   refine LM.val (ov_add64 rfl rfl om) ?_
   refine LM.as rfl <| nC [(0, _), (1, _), (5, _), (6, _)] ?_
   refine QM.againK (i + 1, j + 1, ys.set i (ys.getD j 0), ms) ⟨au2, au2, rfl, rfl, trivial⟩ au1 (fun _ h => h) ?_ ?_
   · exact ⟨del_put hD om (by simpa using h3), hss, fun p hp => by obtain ⟨q, hq1, e⟩ := hmm p hp; rw [← e]; exact hin2 q hq1⟩
   · first | omega | (dsimp only; omega)
  refine wpM.skip <| QM.block_normal ?_
  refine QM.then (wpM.region ?_)
  refine LM.mv rfl ?_
  refine LM.val (ov_add64 rfl rfl om) ?_
  refine LM.as rfl <| nC [(0, _), (1, _), (5, _), (6, _)] ?_
  refine QM.againK (i, j + 1, ys, ms2) ⟨au2, au2, rfl, rfl, trivial⟩ au1 (fun _ h => h) ?_ ?_
  · exact ⟨del_skip hD om (by simpa using h3), hs2, hin2⟩
  · first | omega | (dsimp only; omega)
 refine wpM.exit <| QM.then_exit <| QM.then_exit <| QM.block_hit <| tR <| LM.mv rfl <| LM.mv rfl ?_
 refine LM.val (ov_subLo i Tryz.underlying24 Tryz.sizeOf3 rfl rfl om om) ?_
 refine LM.clear (k := i) (n2 := n) Tryz.underlying24 Tryz.zeroValue3 rfl rfl rfl rfl om hs2 ir om (fun p hp _ => hin2 p hp) (fun ms9 hs9 hin9 => ?_)
 refine nB [(0, _), (5, _)] <| LM.mv rfl <| LM.mv rfl ?_
 refine LM.val (ov_subHi Tryz.underlying24 Tryz.sizeOf3 rfl rfl om om) ?_
 refine LM.as rfl <| nA [(4, _)] <| wpM.ret ?_
 refine qL Tryz.results103 rfl fun w' hm' hc' hg' => ?_
 have hjx : j = xs.length := om; have hye := hD.ye; have hie := hD.ie; rw [hjx, List.take_length] at hye hie; rw [hye] at hs9; rw [hie]; refine upd_m (m' := ms9) ⟨by simp only [resV, Int.toNat_natCast], hs9⟩ hm' au1 hc' (fun p hp => by obtain ⟨q, hq, e⟩ := hin9 p hp; obtain ⟨z, hz, e2⟩ := hin2 q hq; exact .inr ⟨z, hz, e2.trans e⟩)
theorem twake_n {most each : Int} {n0 T b k : Nat} {L : List Wt} {m : Mem0} (key n : Int) (w : World) (h : TbM most each n0 T L b m) (hk : k ≤ w.heap.size) (hM : Mem w m) :
    Ret Tryz.prog 107 #[.pointer (some ⟨b, 0, none⟩), .int .i64 key, .int .i64 n] w (Upd m (WkT most each n0 T b k (wakeF key n L.length [] L)) w) :=
  (twake_spec key n w h hM).mono (fun u w' hU => hU.imp (fun u m' ⟨mo, mt, h1, h2, h3⟩ => ⟨mo, mt, h1.mono hk, h2, h3⟩))
theorem tcancel_any {most each : Int} {n0 T b : Nat} {L : List Wt} {m : Mem0} (who : Int) (w : World) (h : TbM most each n0 T L b m) (hM : Mem w m) :
    Ret Tryz.prog 102 #[.pointer (some ⟨b, 0, none⟩), .int .i64 who] w (Upd m (fun u m' => u = .tuple #[.agg (fWt (fW L who)).toArray, .bool (hasW L who)] ∧ TbM most each n0 T (rmW L who) b m') w) := by
  cases hw : hasW L who with
  | true =>
    obtain ⟨y, hy, rfl⟩ := hasW_yes hw
    rw [fW_yes h.lim.2.2.2 hy]; exact tcancel_yes y w h hy hM
  | false =>
    rw [fW_no (hasW_no hw), rm_no (hasW_no hw)]
    exact (tcancel_no who w h (hasW_no hw) hM).mono (fun u w' ⟨e, hx⟩ => ⟨hx.chg, m, ⟨e, h⟩, hM.ext hx, fun p hp => .inr ⟨p, hp, rfl⟩⟩)
theorem lkGone_spec {n0 T b : Nat} {x : Lkm} {od : List Int} {m : Mem0} (t : Int) (w : World) (h : LkM n0 T b x od m) (hM : Mem w m) : Ret Tryz.prog 56 #[.pointer (some ⟨b, 0, none⟩), .int .i64 t] w (Upd m (fun u m' => LkM n0 T b (goneX x t) (rmI od t) m') w) := by
 obtain ⟨adh, nh, caph, ado, nd, capo, bq, bl, mh, mo, mq, ml, rfl, hnh, hnd, hsh, hso, hTb, hLe, hb⟩ := h
 refine Ret.enterM Tryz.func56 rfl Tryz.ntmps56 rfl (lkC b x.sh x.sl adh nh caph bq ado nd capo x.tr bl x.di :: (mh ++ (mo ++ (mq ++ (ml ++ []))))) ((inM (lkM0 b x adh nh caph bq ado nd capo bl mh mo mq ml))) aM ?_
 refine wR ?_
 refine LM.box rfl rfl (fun b3 hb3 => ?_)
 refine nA [(0, _), (3, _)] <| wpM.seq ?_
 refine wpM.draw [(0, 0), (1, 0), (2, 0), (3, 1), (4, 1), (5, 3)] kr kr ?_
 refine LD.val rfl rfl (ov_move rfl) <| LD.val rfl rfl (ov_nilCheck rfl) <| LD.val rfl rfl (ovf 66 rfl rfl rfl rfl) ?_
 refine LD.rd rfl rfl (oml rfl rfl rfl) ?_
 refine LD.rd rfl rfl (oml rfl rfl rfl) ?_
 refine LD.tail rfl rfl ?_
 refine cU Tryz.func102 rfl (fun w hm hc hg => tcancel_any t w hTb (hm.pick mq)) hTb.wlk (fun q hq _ => ⟨q, by simp [hq], rfl⟩) ?_
 rintro u9 m9 ⟨rfl, h9⟩ hin9
 refine LM.nil ?_
 refine QM.qn ?_
 refine QM.sub (e' := [(0, _), (3, _)]) au9 (QM.then (wpM.region ?_))
 refine LM.mv rfl <| LM.mv rfl <| LM.nc rfl <| LM.val (ovf 24 rfl rfl rfl rfl) ?_
 refine LM.rd (oml rfl rfl rfl) ?_
 refine LM.val (ov_makeFunc rfl) ?_
 refine cU Tryz.func103 rfl (fun w hm hc hg => delf_spec t w hso (hm.pick ((b3, .cells (Value.int .i64 t).cells 3 (0, 0)) :: mo))) hso.wlk (fun q hq _ => ⟨q, by simp [hq], rfl⟩) ?_
 rintro u16 m16 ⟨rfl, h16⟩ hin16
 refine LM.nc rfl <| LM.val (ovf 24 rfl rfl rfl rfl) ?_
 refine LM.st Tryz.sizeOf24 rfl rfl rfl au5 rfl auH ?_
 refine LM.nil (QM.sub (e' := []) trivial ?_)
 refine QM.leave (.inr rfl) [] Tryz.results56 rfl ?_
 intro w' hm' hc' hg'
 exact Upd.imp (lkm_leaf (u0 := resV []) (x := goneX x t) hnh rfl hsh h16 h9 hLe hb hm' au1 hc' inM_0 inS (inn_tr hin16 (fun p hp => by simp [hp])) (inn_tr hin9 (fun p hp => by simp [hp])) inS) (fun u m' h => h.2)
def inX (p : Int) (x : Lkm) (os : List Int) : Lkm := os.foldl (fun x t => holdX (goneX x t) t p) x
def inO (od os : List Int) : List Int := os.foldl rmI od
theorem inX_snoc (p : Int) (x : Lkm) (os : List Int) (t : Int) : inX p x (os ++ [t]) = holdX (goneX (inX p x os) t) t p := by unfold inX; rw [List.foldl_append]; rfl
theorem inO_snoc (od os : List Int) (t : Int) : inO od (os ++ [t]) = rmI (inO od os) t := by unfold inO; rw [List.foldl_append]; rfl
theorem inX_len (p : Int) (x : Lkm) : ∀ (os : List Int), (inX p x os).ho.length = x.ho.length + os.length := by
  unfold inX
  intro os
  induction os generalizing x with
  | nil => rfl
  | cons t os ih =>
    rw [List.foldl_cons, ih, List.length_cons]
    show (x.ho ++ [_]).length + _ = _
    rw [List.length_append]; simp; omega
theorem lkAdm_spec {n0 T b : Nat} {x : Lkm} {od : List Int} {m : Mem0} (p n : Int) (w : World) (h : LkM n0 T b x od m) (hn0 : n0 ≤ w.heap.size) (hx : x.ho.length ≤ 900) (hn : 0 ≤ n) (hM : Mem w m) : Ret Tryz.prog 59 #[.pointer (some ⟨b, 0, none⟩), .int .i64 p, .int .i64 n] w (Upd m (fun u m' => ∃ mr mx, Sl fI 3 1 w.heap.size (wakeF p n x.wt.length [] x.wt).1 u mr ∧ m' = mr ++ mx ∧ LkM n0 T b (inX p { x with wt := (wakeF p n x.wt.length [] x.wt).2 } (wakeF p n x.wt.length [] x.wt).1) (inO od (wakeF p n x.wt.length [] x.wt).1) mx) w) := by
 obtain ⟨adh, nh, caph, ado, nd, capo, bq, bl, mh, mo, mq, ml, rfl, hnh, hnd, hsh, hso, hTb, hLe, hb⟩ := h; have hos8 : (wakeF p n x.wt.length [] x.wt).1.length ≤ 8 := (by have h1 := cnt_le x.wt p; have h2 := hTb.lim.2.2.1; rw [wakeF_eq hn _ _ _ hTb.lim.2.2.2 h1, List.nil_append, List.length_map, List.length_take]; unfold cntL at h1; omega)
 refine Ret.enterM Tryz.func59 rfl Tryz.ntmps59 rfl (lkC b x.sh x.sl adh nh caph bq ado nd capo x.tr bl x.di :: (mh ++ (mo ++ (mq ++ (ml ++ []))))) ((inM (lkM0 b x adh nh caph bq ado nd capo bl mh mo mq ml))) aM ?_
 refine wR <| LM.as rfl <| nB [(0, _), (1, _), (2, _)] <| LM.mv rfl <| LM.nc rfl <| LM.val (ovf 66 rfl rfl rfl rfl) ?_
 refine LM.rd (oml rfl rfl rfl) ?_
 refine LM.mv rfl <| LM.mv rfl ?_
 refine cU Tryz.func107 rfl (fun w hm hc hg => twake_n p n w hTb hc.size (hm.pick mq)) hTb.wlk (fun q hq _ => ⟨q, by simp [hq], rfl⟩) ?_
 rintro u16 m16 ⟨mr, mt, hsr, rfl, ht⟩ hin16; generalize hos : (wakeF p n x.wt.length [] x.wt).1 = os at hsr hos8 ⊢; generalize hwt2 : (wakeF p n x.wt.length [] x.wt).2 = wt2 at ht ⊢; obtain ⟨adr, nr, capr, rfl, hnr⟩ : ∃ ad n cap, u16 = .slice ad n cap ∧ n = os.length := (by obtain ⟨ad, cap, hu⟩ := hsr.form; exact ⟨ad, _, cap, hu, rfl⟩)
 refine LM.as rfl <| nA [(0, _), (1, _), (7, _)] <| wpM.seq <| wR <| LM.mv rfl <| LM.val (ov_len Tryz.underlying24 rfl) <| LM.mv rfl <| nA [(0, _), (1, _), (7, _), (17, _), (18, _), (19, _)] <| wpM.block ?_
 refine wpM.loopK0 (α := Nat × Mem0) (fun ⟨i, mx⟩ => [(19, .int .i64 (i : Nat))]) [(0, _), (1, _), (7, _), (17, _), (18, _)] (fun ⟨i, mx⟩ => mr ++ (mx ++ [])) (fun ⟨i, mx⟩ => i ≤ os.length ∧ LkM n0 T b (inX p { x with wt := wt2 } (os.take i)) (inO od (os.take i)) mx ∧ inn (lkM0 b x adh nh caph bq ado nd capo bl mh mo mq ml) w.heap.size mx) (fun ⟨i, mx⟩ => os.length - i) ((0, lkM0 b x adh nh caph bq ado nd capo bl mh mo mt ml)) ⟨au2, rfl, rfl, rfl, rfl, rfl, trivial⟩ au1 ⟨Nat.zero_le _, ⟨adh, nh, caph, ado, nd, capo, bq, bl, mh, mo, mt, ml, rfl, hnh, hnd, hsh, hso, ht, hLe, hb⟩, inn_cons inM_0 (inn_app inS (inn_app inS (inn_app (inn_tr (fun p hp => hin16 p (List.mem_append_right _ hp)) (fun p hp => by simp [hp])) inS)))⟩ ?_
 rintro ⟨i, mx⟩ ⟨hi, hL, hinL⟩
 change wpM _ _ _ _ _ _ _ (mr ++ (mx ++ [])) _ _ _
 refine wR <| LM.val (ov_lss rfl rfl) <| nA [(0, _), (1, _), (7, _), (17, _), (18, _), (19, _), (20, _)] <| wpM.seq ?_
 refine wpM.condD rfl (fun h1 => ?_) (fun h1 => ?_)
 ·
  refine wpM.skip <| QM.then <| wpM.seq <| wpM.block <| wR ?_
  refine LM.val (ov_idxSN au6 Tryz.underlying24 Tryz.sizeOf3 rfl rfl om) ?_
  refine LM.rd (om_sl1 asm ir Tryz.isAgg3 rfl rfl (by exact getq 0 au4) (by rfl)) ?_
  refine LM.as rfl <| nB [(0, _), (1, _), (7, _), (9, _), (17, _), (18, _), (19, _)] <| LM.mv rfl <| LM.mv rfl ?_
  refine cU Tryz.func56 rfl (fun w hm hc hg => lkGone_spec _ w hL (hm.pick mx)) hL.wlk (inM_inn hinL) ?_
  rintro u25 m25 h25 hin25
  refine LM.nil (QM.sub (e' := [(0, _), (1, _), (7, _), (9, _), (17, _), (18, _), (19, _)]) au9 (QM.then (wpM.region ?_)))
  refine LM.mv rfl <| LM.mv rfl <| LM.mv rfl ?_
  refine cU Tryz.func41 rfl (fun w hm hc hg => lkHold_spec _ p w h25 (Nat.le_trans hn0 hc.size) (by show (inX p _ _).ho.length ≤ 1000; rw [inX_len, List.length_take]; show x.ho.length + _ ≤ 1000; omega) (hm.pick m25)) h25.wlk (inM_inn (inn_trans hinL hin25)) ?_
  rintro u29 m29 h29 hin29
  refine nC [(0, _), (1, _), (7, _), (17, _), (18, _), (19, _)] <| QM.block_normal ?_
  refine QM.then (wpM.region ?_)
  refine LM.val (ov_add64 rfl rfl om) ?_
  refine LM.mv rfl <| nC [(0, _), (1, _), (7, _), (17, _), (18, _), (19, _)] ?_
  refine QM.againK (i + 1, m29) ⟨au2, rfl, rfl, rfl, rfl, rfl, trivial⟩ au1 (fun _ h => h) ?_ ?_
  · exact ⟨by omega, by rw [take_snoc 0 om, inX_snoc, inO_snoc]; exact h29, inn_trans (inn_trans hinL hin25) hin29⟩
  · first | omega | (dsimp only; omega)
 refine wpM.exit <| QM.then_exit <| QM.then_exit <| QM.block_hit <| tR <| LM.mv rfl <| LM.as rfl <| nA [(6, _)] <| wpM.ret ?_
 refine qL Tryz.results59 rfl fun w' hm' hc' hg' => ?_
 have hio : i = os.length := om; subst hio; rw [List.take_length] at hL; exact upd_m (m' := mr ++ mx) ⟨mr, mx, hsr, rfl, hL⟩ hm' au1 hc' (inn_app (fun p hp => .inl (hsr.ge p hp)) hinL)
theorem rmI_map (L : List Wt) (t : Int) : rmI (L.map (·.who)) t = (rmW L t).map (·.who) := by
  unfold rmI rmW
  rw [List.filter_map]; rfl
theorem inO_map (L : List Wt) : ∀ (os : List Int), inO (L.map (·.who)) os = (rmA L os).map (·.who) := by
  intro os
  unfold inO rmA
  induction os generalizing L with
  | nil => rfl
  | cons t os ih => rw [List.foldl_cons, List.foldl_cons, rmI_map]; exact ih _
theorem rmA_mem {L : List Wt} : ∀ {os : List Int} {w : Wt}, w ∈ rmA L os ↔ w ∈ L ∧ w.who ∉ os := by
  intro os
  unfold rmA
  induction os generalizing L with
  | nil => intro w; simp
  | cons t os ih => intro w; rw [List.foldl_cons, ih, rm_mem]; simp only [List.mem_cons, not_or]; exact ⟨fun ⟨⟨a, b⟩, c⟩ => ⟨a, b, c⟩, fun ⟨a, b, c⟩ => ⟨⟨a, b⟩, c⟩⟩
theorem inX_eq {p : Int} : ∀ (os : List Int) (x : Lkm), (∀ w ∈ x.wt, w.who ∉ os) → inX p x os = os.foldl (fun x t => holdX x t p) x := by
  intro os
  unfold inX
  induction os with
  | nil => intro x _; rfl
  | cons t os ih =>
    intro x h
    rw [List.foldl_cons, List.foldl_cons]
    have e : goneX x t = x := by
      unfold goneX; rw [rm_no (fun w hw e => h w hw (by rw [e]; exact List.mem_cons_self ..))]
    rw [e]
    exact ih _ (fun w hw q => h w hw (List.mem_cons_of_mem _ q))
theorem holds_wt {p : Int} : ∀ (os : List Int) (x : Lkm), (os.foldl (fun x t => holdX x t p) x).wt = x.wt
  | [], x => rfl
  | t :: os, x => by rw [List.foldl_cons, holds_wt os]; rfl
theorem admX_wt (x : Lkm) (p : Int) (n : Nat) : (admX x p n).wt = rmA x.wt (admL x p n) := holds_wt _ _
theorem wake_adm {x : Lkm} (h : Wd1 x.wt) (p : Int) (n : Nat) : wakeF p (n : Nat) x.wt.length [] x.wt = (admL x p n, rmA x.wt (admL x p n)) := by
  rw [wakeF_eq (Int.natCast_nonneg _) _ _ _ h (cnt_le _ _), List.nil_append, Int.toNat_natCast]; rfl
theorem adm_in {x : Lkm} (p : Int) (n : Nat) : inX p { x with wt := rmA x.wt (admL x p n) } (admL x p n) = admX x p n := inX_eq _ _ (fun w hw => (rmA_mem.1 hw).2)
def AdT (n0 T b k : Nat) (l : List Int) (x : Lkm) (u : Value) (m : Mem0) : Prop := ∃ mr mx, Sl fI 3 1 k l u mr ∧ m = mr ++ mx ∧ LkM n0 T b x (x.wt.map (·.who)) mx
theorem lkAdm2 {n0 T b k : Nat} {x : Lkm} {m : Mem0} (p : Int) (n : Nat) (w : World) (h : LkM n0 T b x (x.wt.map (·.who)) m) (hn0 : n0 ≤ w.heap.size) (hx : x.ho.length ≤ 900) (hk : k ≤ w.heap.size) (hM : Mem w m) :
    Ret Tryz.prog 59 #[.pointer (some ⟨b, 0, none⟩), .int .i64 p, .int .i64 (n : Nat)] w (Upd m (AdT n0 T b k (admL x p n) (admX x p n)) w) := by
  have hwd : Wd1 x.wt := by obtain ⟨adh, nh, caph, ado, nd, capo, bq, bl, mh, mo, mq, ml, rfl, hnh, hnd, hsh, hso, hTb, hLe, hb⟩ := h; exact hTb.lim.2.2.2
  have h1 := lkAdm_spec p n w h hn0 hx (Int.natCast_nonneg _) hM
  rw [wake_adm hwd] at h1
  refine h1.mono (fun u w' hU => Upd.imp hU (fun u m' ⟨mr, mx, h2, h3, h4⟩ => ⟨mr, mx, h2.mono hk, h3, ?_⟩))
  rw [adm_in, inO_map, ← admX_wt] at h4
  exact h4
theorem lkPass_spec {n0 T b k : Nat} {x : Lkm} {m : Mem0} (w : World) (hT : Tab w) (hn1 : 0 < n0) (h : LkM n0 T b x (x.wt.map (·.who)) m) (hws : waitS x = 0#64 ↔ x.wt.length = 0) (hn0 : n0 ≤ w.heap.size) (hx : x.ho.length ≤ 900) (hk : k ≤ w.heap.size) (hM : Mem w m) : Ret Tryz.prog 51 #[.pointer (some ⟨b, 0, none⟩)] w (Upd m (AdT n0 T b k (passL x) (passX x)) w) := by
 have hLk := h; have hS0 : ¬ inM m 0 := (fun ⟨p, hp, e⟩ => by have := h.ge p hp; omega); obtain ⟨adh, nh, caph, ado, nd, capo, bq, bl, mh, mo, mq, ml, rfl, hnh, hnd, hsh, hso, hTb, hLe, hb⟩ := h
 refine Ret.enterM Tryz.func51 rfl Tryz.ntmps51 rfl (lkC b x.sh x.sl adh nh caph bq ado nd capo x.tr bl x.di :: (mh ++ (mo ++ (mq ++ (ml ++ []))))) ((inM (lkM0 b x adh nh caph bq ado nd capo bl mh mo mq ml))) aM ?_
 refine wR <| LM.as rfl <| nB [(0, _)] <| LM.mv rfl ?_
 refine cE Tryz.func88 rfl (fun w hm hc hg => lkWtg_spec w hLk rfl (hm.pick (lkC b x.sh x.sl adh nh caph bq ado nd capo x.tr bl x.di :: (mh ++ (mo ++ (mq ++ ml)))))) ?_
 refine LM.as rfl <| nA [(0, _), (3, _)] <| wpM.seq <| wR <| LM.mv rfl ?_
 refine LM.val (ov_ueql (b := 0#64) rfl rfl) ?_
 refine nA [(0, _), (3, _), (7, _)] ?_
 refine wpM.condD rfl (fun h1 => ?_) (fun h1 => ?_)
 ·
  refine wR <| LM.as rfl <| nA [(2, _)] <| wpM.ret <| QM.then_ret ?_
  refine qL Tryz.results51 rfl fun w' hm' hc' hg' => ?_
  have hz : x.wt.length = 0 := hws.1 h1; have e1 : passL x = [] := if_pos hz; have e2 : passX x = x := if_pos hz; rw [e1, e2]; exact upd_m (m' := lkM0 b x adh nh caph bq ado nd capo bl mh mo mq ml) ⟨[], _, Sl.nil _ _ _ _, rfl, hLk⟩ hm' au1 hc' (inn_refl _ _)
 refine wpM.skip <| QM.then <| wpM.seq ?_
 refine wpM.draw [(0, 0), (1, 0), (2, 0), (3, 0), (4, 1), (5, 0), (6, 0), (7, 0), (8, 1), (9, 0), (10, 0), (11, 0), (12, 0), (13, 1), (14, 0), (15, 2), (16, 2), (17, 0), (18, 0), (19, 3)] kr kr ?_
 refine LD.val rfl rfl (ov_move rfl) <| LD.val rfl rfl (ov_move rfl) <| LD.val rfl rfl (ov_nilCheck rfl) <| LD.val rfl rfl (ovf 64 rfl rfl rfl rfl) ?_
 first | refine LD.rd rfl rfl (om_ldW Tryz.isAgg64 Tryz.sizeOf64 rfl rfl) ?_ | refine LD.rd rfl rfl (om_ldA Tryz.isAgg64 Tryz.sizeOf64 rfl (vs := [_, _]) rfl ⟨rfl, rfl, trivial⟩) ?_
 refine LD.val rfl rfl (ov_move rfl) <| LD.val rfl rfl (ov_nilCheck rfl) <| LD.val rfl rfl (ovf 3 rfl rfl rfl rfl) ?_
 refine LD.rd rfl rfl (oml rfl rfl rfl) ?_
 refine LD.val rfl rfl (ov_move rfl) <| LD.val rfl rfl (ov_move rfl) <| LD.val rfl rfl (ov_nilCheck rfl) <| LD.val rfl rfl (ovf 68 rfl rfl rfl rfl) ?_
 refine LD.rd rfl rfl (oml rfl rfl rfl) ?_
 refine LD.val rfl rfl (ov_move rfl) ?_
 refine dE rfl rfl Tryz.func98 rfl (fun w hm hc hg => leLst_spec _ w (hT.keep hc hS0) hLe (hm.pick ml)) ?_
 refine dE rfl rfl Tryz.func97 rfl (fun w hm hc hg => tunext_spec x.tr _ _ _ w) ?_
 refine LD.val rfl rfl (ov_nilCheck rfl) <| LD.val rfl rfl (ovf 64 rfl rfl rfl rfl) ?_
 refine LD.tail rfl rfl ?_
 refine LM.st Tryz.sizeOf64 rfl rfl rfl au5 rfl auH ?_
 refine LM.mem (SubM.mem (M' := lkC b x.sh x.sl adh nh caph bq ado nd capo (turnX x).tr bl x.di :: (mh ++ (mo ++ (mq ++ (ml ++ []))))) au1) ?_
 refine LM.nil ?_
 refine QM.qn ?_
 refine QM.sub (e' := [(0, _)]) ⟨rfl, trivial⟩ (QM.then ?_)
 refine wpM.seq <| wR ?_
 have hF : LkM n0 T b (turnX x) ((turnX x).wt.map (·.who)) (lkC b x.sh x.sl adh nh caph bq ado nd capo (turnX x).tr bl x.di :: (mh ++ (mo ++ (mq ++ ml)))) := ⟨adh, nh, caph, ado, nd, capo, bq, bl, mh, mo, mq, ml, rfl, hnh, hnd, hsh, hso, hTb, hLe, hb⟩
 refine LM.mv rfl <| LM.nc rfl <| LM.val (ovf 4 rfl rfl rfl rfl) ?_
 refine LM.rd (oml rfl rfl rfl) ?_
 refine LM.mv rfl ?_
 first | refine LM.splitD (t := 31) rfl (fun h2 => ?_) (fun h2 => ?_) | refine LM.splitB (t := 31) rfl (fun h2 => ?_) (fun h2 => ?_)
 ·
  refine LM.sp 31 rfl rfl rfl <| LM.mv rfl <| LM.sp 31 rfl rfl rfl <| LM.nc rfl <| LM.sp 31 rfl rfl rfl <| LM.val (ovf 64 rfl rfl rfl rfl) <| LM.sp 31 rfl rfl rfl <| LM.val (ovf 3 rfl rfl rfl rfl) <| LM.sp 31 rfl rfl rfl ?_
  refine LM.rd (oml rfl rfl rfl) ?_
  refine LM.sp 31 rfl rfl rfl <| LM.val (ov_eql rfl rfl) <| LM.val (ov_pickT rfl rfl) <| nA [(0, _), (38, _)] ?_
  refine wpM.condD rfl (fun h3 => ?_) (fun h3 => ?_)
  ·
   refine wR <| LM.mv rfl ?_
   refine cU Tryz.func59 rfl (fun w hm hc hg => lkAdm2 0 8 w hF (Nat.le_trans hn0 hc.size) hx (Nat.le_trans hk hc.size) (hm.pick (lkC b x.sh x.sl adh nh caph bq ado nd capo (turnX x).tr bl x.di :: (mh ++ (mo ++ (mq ++ ml)))))) hF.wlk (fun q hq _ => inM_hd q hq rfl) ?_
   rintro u40 m40 h40 hin40
   refine LM.as rfl <| nA [(2, _)] <| wpM.ret <| QM.then_ret ?_
   refine qL Tryz.results51 rfl fun w' hm' hc' hg' => ?_
   have hne : ¬ x.wt.length = 0 := (fun q => h1 (hws.2 q)); have hN : passN x = 8 := if_pos ⟨h2, h3⟩; have e1 : passL x = admL x (turnX x).tr.p 8 := (by unfold passL; rw [if_neg hne, hN]); have e2 : passX x = admX (turnX x) (turnX x).tr.p 8 := (by unfold passX; rw [if_neg hne, hN]); rw [e1, e2]; rw [show (turnX x).tr.p = 0 from h3]; exact upd_m (m' := m40) h40 hm' au1 hc' (inn_hd hin40 rfl)
  refine wpM.skip <| tR <| LM.mv rfl <| LM.mv rfl <| LM.nc rfl <| LM.val (ovf 64 rfl rfl rfl rfl) <| LM.val (ovf 3 rfl rfl rfl rfl) ?_
  refine LM.rd (oml rfl rfl rfl) ?_
  refine cU Tryz.func59 rfl (fun w hm hc hg => lkAdm2 _ 1 w hF (Nat.le_trans hn0 hc.size) hx (Nat.le_trans hk hc.size) (hm.pick (lkC b x.sh x.sl adh nh caph bq ado nd capo (turnX x).tr bl x.di :: (mh ++ (mo ++ (mq ++ ml)))))) hF.wlk (fun q hq _ => inM_hd q hq rfl) ?_
  rintro u47 m47 h47 hin47
  refine LM.as rfl <| nA [(2, _)] <| wpM.ret ?_
  refine qL Tryz.results51 rfl fun w' hm' hc' hg' => ?_
  have hne : ¬ x.wt.length = 0 := (fun q => h1 (hws.2 q)); have hN : passN x = 1 := if_neg (fun q => h3 q.2); have e1 : passL x = admL x (turnX x).tr.p 1 := (by unfold passL; rw [if_neg hne, hN]); have e2 : passX x = admX (turnX x) (turnX x).tr.p 1 := (by unfold passX; rw [if_neg hne, hN]); rw [e1, e2];  exact upd_m (m' := m47) h47 hm' au1 hc' (inn_hd hin47 rfl)
 refine LM.dr 31 rfl rfl rfl <| LM.dr 31 rfl rfl rfl <| LM.dr 31 rfl rfl rfl <| LM.dr 31 rfl rfl rfl <| LM.dr 31 rfl rfl rfl <| LM.dr 31 rfl rfl rfl <| LM.val (ov_pickF rfl rfl) <| nA [(0, _), (38, _)] ?_
 refine wpM.condF rfl ?_
 refine wpM.skip <| tR <| LM.mv rfl <| LM.mv rfl <| LM.nc rfl <| LM.val (ovf 64 rfl rfl rfl rfl) <| LM.val (ovf 3 rfl rfl rfl rfl) ?_
 refine LM.rd (oml rfl rfl rfl) ?_
 refine cU Tryz.func59 rfl (fun w hm hc hg => lkAdm2 _ 1 w hF (Nat.le_trans hn0 hc.size) hx (Nat.le_trans hk hc.size) (hm.pick (lkC b x.sh x.sl adh nh caph bq ado nd capo (turnX x).tr bl x.di :: (mh ++ (mo ++ (mq ++ ml)))))) hF.wlk (fun q hq _ => inM_hd q hq rfl) ?_
 rintro u47 m47 h47 hin47
 refine LM.as rfl <| nA [(2, _)] <| wpM.ret ?_
 refine qL Tryz.results51 rfl fun w' hm' hc' hg' => ?_
 have hne : ¬ x.wt.length = 0 := (fun q => h1 (hws.2 q)); have hN : passN x = 1 := if_neg (fun q => by rw [h2] at q; cases q.1); have e1 : passL x = admL x (turnX x).tr.p 1 := (by unfold passL; rw [if_neg hne, hN]); have e2 : passX x = admX (turnX x) (turnX x).tr.p 1 := (by unfold passX; rw [if_neg hne, hN]); rw [e1, e2];  exact upd_m (m' := m47) h47 hm' au1 hc' (inn_hd hin47 rfl)
theorem cloneH_spec {xs : List Hd} {ad : Option Addr} {n cap : Nat} (w : World) (hn : n = xs.length) (hl : Sr fHd 3 xs (.slice ad n cap) w) (hx : xs.length ≤ 1000000) : Ret Tryz.prog 50 #[.slice ad n cap] w (New fHd 59 3 xs w) := by
 refine Ret.enterM Tryz.func50 rfl Tryz.ntmps50 rfl ([]) (no) (Mem.nil w) ?_
 refine wR <| LM.as rfl <| nA [(0, _)] <| wpM.seq <| wR <| LM.mv rfl ?_
 refine LM.val (ov_slnil Tryz.underlying56 rfl rfl) ?_
 refine nA [(0, _), (4, _)] ?_
 first | refine wpM.condD rfl (fun h1 => ?_) (fun h1 => ?_) | refine wpM.condB rfl (fun h1 => ?_) (fun h1 => ?_)
 ·
  refine wR <| LM.as rfl <| nA [(2, _)] <| wpM.ret <| QM.then_ret ?_
  refine qL Tryz.results50 rfl fun w' hm' hc' hg' => ?_
  have hx0 : xs = [] := (by rcases Nat.eq_zero_or_pos xs.length with q | q; exact List.eq_nil_of_length_eq_zero q; exfalso; obtain ⟨b, off, cs, E, fz, hq, _⟩ := hl.open.2.2 q; rw [hq] at h1; cases h1); subst hx0; exact ⟨hc', [], .nil _ _ _ _, Mem.nil _⟩
 refine wpM.skip <| tR ?_
 refine LM.row0 Tryz.underlying56 Tryz.sizeOf59 rfl (fun b5 hb5 => ?_); have hs5 : Sl fHd 59 3 w.heap.size ([] : List Hd) (.slice (some ⟨b5, 0, none⟩) 0 0) [(b5, .cells (([] : List Value).toArray) 59 (0, 0))] := .void hb5 (Nat.zero_le _) rfl
 refine LM.mv rfl ?_
 refine LM.appN (ys := xs) (m := [(b5, .cells (([] : List Value).toArray) 59 (0, 0))]) Tryz.underlying56 Tryz.typeInfo59 rfl rfl rfl rfl rfl rfl rfl hs5 (fun w hm hc hg => hl.ext hc) ir (by intro _ u hu; simp [fHd] at hu; (repeat (first | (rcases hu with rfl | hu) | subst hu | rfl))) (Nat.le_refl _) (fun p hp hlt => absurd hlt (Nat.not_lt_of_le (Sl.ge hs5 p hp))) (by unfold maxLen; simp only [List.length_nil]; omega) (by simp only [Tryz.t59, List.length_nil]; omega) (fun ad7 n7 cap7 m7 hn7 hs7 hin7 => ?_)
 refine LM.as rfl <| nA [(2, _)] <| wpM.ret ?_
 refine qL Tryz.results50 rfl fun w' hm' hc' hg' => ?_
 exact ⟨hc', m7, hs7, hm'.pick _⟩
theorem cloneI_spec {xs : List Int} {ad : Option Addr} {n cap : Nat} (w : World) (hn : n = xs.length) (hl : Sr fI 1 xs (.slice ad n cap) w) (hx : xs.length ≤ 1000000) : Ret Tryz.prog 85 #[.slice ad n cap] w (New fI 3 1 xs w) := by
 refine Ret.enterM Tryz.func85 rfl Tryz.ntmps85 rfl ([]) (no) (Mem.nil w) ?_
 refine wR <| LM.as rfl <| nA [(0, _)] <| wpM.seq <| wR <| LM.mv rfl ?_
 refine LM.val (ov_slnil Tryz.underlying24 rfl rfl) ?_
 refine nA [(0, _), (4, _)] ?_
 first | refine wpM.condD rfl (fun h1 => ?_) (fun h1 => ?_) | refine wpM.condB rfl (fun h1 => ?_) (fun h1 => ?_)
 ·
  refine wR <| LM.as rfl <| nA [(2, _)] <| wpM.ret <| QM.then_ret ?_
  refine qL Tryz.results85 rfl fun w' hm' hc' hg' => ?_
  have hx0 : xs = [] := (by rcases Nat.eq_zero_or_pos xs.length with q | q; exact List.eq_nil_of_length_eq_zero q; exfalso; obtain ⟨b, off, cs, E, fz, hq, _⟩ := hl.open.2.2 q; rw [hq] at h1; cases h1); subst hx0; exact ⟨hc', [], .nil _ _ _ _, Mem.nil _⟩
 refine wpM.skip <| tR ?_
 refine LM.row0 Tryz.underlying24 Tryz.sizeOf3 rfl (fun b5 hb5 => ?_); have hs5 : Sl fI 3 1 w.heap.size ([] : List Int) (.slice (some ⟨b5, 0, none⟩) 0 0) [(b5, .cells (([] : List Value).toArray) 3 (0, 0))] := .void hb5 (Nat.zero_le _) rfl
 refine LM.mv rfl ?_
 refine LM.appN (ys := xs) (m := [(b5, .cells (([] : List Value).toArray) 3 (0, 0))]) Tryz.underlying24 Tryz.typeInfo3 rfl rfl rfl rfl rfl rfl rfl hs5 (fun w hm hc hg => hl.ext hc) ir (by intro _ u hu; simp [fI] at hu; (repeat (first | (rcases hu with rfl | hu) | subst hu | rfl))) (Nat.le_refl _) (fun p hp hlt => absurd hlt (Nat.not_lt_of_le (Sl.ge hs5 p hp))) (by unfold maxLen; simp only [List.length_nil]; omega) (by simp only [Tryz.t3, List.length_nil]; omega) (fun ad7 n7 cap7 m7 hn7 hs7 hin7 => ?_)
 refine LM.as rfl <| nA [(2, _)] <| wpM.ret ?_
 refine qL Tryz.results85 rfl fun w' hm' hc' hg' => ?_
 exact ⟨hc', m7, hs7, hm'.pick _⟩
theorem lkHdrs_spec {n0 T b : Nat} {x : Lkm} {od : List Int} {m : Mem0} (w : World) (h : LkM n0 T b x od m) (hx : x.ho.length ≤ 1000) (hM : Mem w m) : Ret Tryz.prog 29 #[.pointer (some ⟨b, 0, none⟩)] w (New fHd 59 3 x.ho w) := by
 obtain ⟨adh, nh, caph, ado, nd, capo, bq, bl, mh, mo, mq, ml, rfl, hnh, hnd, hsh, hso, hTb, hLe, hb⟩ := h
 refine Ret.enterM Tryz.func29 rfl Tryz.ntmps29 rfl (lkC b x.sh x.sl adh nh caph bq ado nd capo x.tr bl x.di :: (mh ++ (mo ++ (mq ++ (ml ++ []))))) (no) aM ?_
 refine wR <| LM.as rfl <| nA [(0, _)] <| wpM.seq <| wR <| LM.mv rfl ?_
 refine LM.val (ov_peql kr rfl rfl) ?_
 refine nA [(0, _), (4, _)] ?_
 refine wpM.condF rfl ?_
 refine wpM.skip <| tR <| LM.mv rfl <| LM.nc rfl <| LM.val (ovf 56 rfl rfl rfl rfl) ?_
 refine LM.rd (oml rfl rfl rfl) ?_
 refine LM.cS (oc_call (enters_fn Tryz.func50 kr rfl) rfl) (fun w hm hc hg => cloneH_spec w hnh (hsh.srM ir hm) om) (fun ad9 n9 cap9 m9 hn9 hs9 => ?_)
 refine LM.as rfl <| nA [(2, _)] <| wpM.ret ?_
 refine qL Tryz.results29 rfl fun w' hm' hc' hg' => ?_
 exact ⟨hc', m9, hs9, hm'.pick _⟩
theorem delH_spec {xs : List Hd} {ad : Option Addr} {n cap n0 : Nat} {mz : Mem0} (i : Nat) (w : World) (hs : Sl fHd 59 3 n0 xs (.slice ad n cap) mz) (hi : i < xs.length) (hx : xs.length ≤ 1000000) (hM : Mem w mz) : Ret Tryz.prog 49 #[.slice ad n cap, .int .i64 (i : Nat), .int .i64 ((i : Nat) + 1)] w (Upd mz (fun v m' => v = .slice ad (xs.length - 1) cap ∧ Sl fHd 59 3 n0 (xs.eraseIdx i) (.slice ad (xs.length - 1) cap) m') w) := by
 have hsl := hs.len
 refine Ret.enterM Tryz.func49 rfl Tryz.ntmps49 rfl (mz ++ []) ((inM mz)) aM ?_
 refine wR <| LM.as rfl <| nB [(0, _), (1, _), (2, _)] <| LM.mv rfl <| LM.mv rfl <| LM.mv rfl <| LM.mv rfl <| LM.val (ov_len Tryz.underlying56 rfl) ?_
 refine LM.val (ov_subLHM i (i + 1) n Tryz.underlying56 Tryz.sizeOf59 rfl rfl rfl rfl om om rfl om om om) ?_
 refine nA [(0, _), (1, _), (2, _)] <| wpM.seq <| wR <| LM.mv rfl <| LM.mv rfl <| LM.val (ov_eql rfl rfl) <| nA [(0, _), (1, _), (2, _), (16, _)] ?_
 refine wpM.condD rfl (fun h1 => ?_) (fun h1 => ?_)
 ·
  exfalso; omega
 refine wpM.skip <| tR <| LM.mv rfl <| LM.val (ov_len Tryz.underlying56 rfl) <| LM.as rfl <| nA [(0, _), (1, _), (2, _), (7, _)] <| wpM.seq ?_
 refine wpM.draw [(0, 0), (1, 0), (2, 0), (3, 0), (4, 0), (5, 0), (6, 3), (7, 3)] kr kr ?_
 refine LD.val rfl rfl (ov_move rfl) <| LD.val rfl rfl (ov_move rfl) ?_
 refine LD.val rfl rfl (ov_subHi Tryz.underlying56 Tryz.sizeOf59 rfl rfl om om) ?_
 refine LD.val rfl rfl (ov_move rfl) <| LD.val rfl rfl (ov_move rfl) ?_
 refine LD.val rfl rfl (ov_subLo (i + 1) Tryz.underlying56 Tryz.sizeOf59 rfl rfl om om) ?_
 refine LD.tail rfl rfl ?_
 refine LM.appDel (f := fHd) (n := n) (cap := cap) i Tryz.underlying56 Tryz.typeInfo59 rfl rfl rfl rfl rfl hs ir (by intro _ u hu; simp [fHd] at hu; (repeat (first | (rcases hu with rfl | hu) | subst hu | rfl))) om (fun p hp _ => ⟨p, hp, rfl⟩) (fun n26 m26 hn26 hs26 hin26 => ?_)
 refine LM.as rfl ?_
 refine LM.nil ?_
 refine QM.qn ?_
 refine QM.sub (e' := [(0, _), (7, _)]) au9 (QM.then (wpM.seq (wpM.region ?_)))
 refine LM.mv rfl <| LM.mv rfl <| LM.val (ov_len Tryz.underlying56 rfl) <| LM.mv rfl ?_
 refine LM.val (ov_subLH n26 n Tryz.underlying56 Tryz.sizeOf59 rfl rfl rfl rfl rfl om om) ?_
 refine LM.clear (k := n26) (n2 := n) Tryz.underlying56 Tryz.zeroValue59 rfl rfl rfl rfl om hs26 ir (by rw [List.length_eraseIdx, if_pos hi]; omega) (fun p hp _ => hin26 p hp) (fun ms9 hs9 hin9 => ?_)
 refine nB [(0, _)] <| LM.mv rfl <| LM.as rfl <| nA [(6, _)] <| wpM.ret ?_
 refine qL Tryz.results49 rfl fun w' hm' hc' hg' => ?_
 rw [List.take_of_length_le (by rw [List.length_eraseIdx, if_pos hi]; omega)] at hs9; subst hn26; exact upd_m ⟨rfl, hs9⟩ hm' au1 hc' (fun p hp => by obtain ⟨q, hq, e⟩ := hin9 p hp; obtain ⟨z, hz, e2⟩ := hin26 q hq; exact .inr ⟨z, hz, e2.trans e⟩)
def UnT (n0 T b k : Nat) (l : List Int) (y : Value) (x : Lkm) (u : Value) (m : Mem0) : Prop := ∃ v mr mx, u = .tuple #[v, y] ∧ Sl fI 3 1 k l v mr ∧ m = mr ++ mx ∧ LkM n0 T b x (x.wt.map (·.who)) mx
theorem unL_yes {x : Lkm} {t : Int} (h : holdsO x t = true) (h0 : (outX x t).ho.length = 0) : unlL x t = passL (outX x t) := if_pos ⟨h, h0⟩
theorem unL_no {x : Lkm} {t : Int} (h0 : ¬ (outX x t).ho.length = 0) : unlL x t = [] := if_neg (fun q => h0 q.2)
theorem outX_len {x : Lkm} {t : Int} (h : holdsO x t = true) : (outX x t).ho.length = x.ho.length - 1 := by
  show (x.ho.eraseIdx _).length = _; rw [List.length_eraseIdx, if_pos (hat_in h).2.1]
theorem lkUnl_spec {n0 T b k : Nat} {x : Lkm} {m : Mem0} (t : Int) (w : World) (hT : Tab w) (hn1 : 0 < n0) (h : LkM n0 T b x (x.wt.map (·.who)) m) (hws : waitS x = 0#64 ↔ x.wt.length = 0) (hn0 : n0 ≤ w.heap.size) (hx : x.ho.length ≤ 900) (hk : k ≤ w.heap.size) (hM : Mem w m) : Ret Tryz.prog 15 #[.pointer (some ⟨b, 0, none⟩), .int .i64 t] w (Upd m (UnT n0 T b k (unlL x t) (.int .i64 (unlE x t)) (unlX x t)) w) := by
 have hLk := h; have hS0 : ¬ inM m 0 := (fun ⟨p, hp, e⟩ => by have := h.ge p hp; omega); obtain ⟨adh, nh, caph, ado, nd, capo, bq, bl, mh, mo, mq, ml, rfl, hnh, hnd, hsh, hso, hTb, hLe, hb⟩ := h
 refine Ret.enterM Tryz.func15 rfl Tryz.ntmps15 rfl (lkC b x.sh x.sl adh nh caph bq ado nd capo x.tr bl x.di :: (mh ++ (mo ++ (mq ++ (ml ++ []))))) ((inM (lkM0 b x adh nh caph bq ado nd capo bl mh mo mq ml))) aM ?_
 refine wR <| LM.as rfl <| LM.as rfl <| nB [(0, _), (1, _)] <| LM.mv rfl <| LM.mv rfl ?_
 refine cE Tryz.func48 rfl (fun w hm hc hg => lkPlace_spec t w hLk (hm.pick (lkC b x.sh x.sl adh nh caph bq ado nd capo x.tr bl x.di :: (mh ++ (mo ++ (mq ++ ml)))))) ?_
 refine LM.as rfl <| nA [(0, _), (6, _)] <| wpM.seq <| wpM.block <| wR <| LM.mv rfl ?_
 refine LM.val (ov_peql kr rfl rfl) ?_
 refine LM.as rfl <| nA [(0, _), (6, _), (11, _)] ?_
 refine wpM.condF rfl ?_
 refine wR <| LM.mv rfl <| LM.val (ov_lss rfl rfl) <| LM.as rfl <| nA [(0, _), (6, _), (14, _)] ?_
 refine wpM.condD rfl (fun h1 => ?_) (fun h1 => ?_)
 ·
  have hho : holdsO x t = false := (by rw [← hat_holds]; exact decide_eq_false om)
  refine wR <| LM.as rfl <| LM.as rfl <| nA [(4, _), (5, _)] <| wpM.ret <| QM.block_ret <| QM.then_ret ?_
  refine QM.leave (.inl rfl) [.tmp 4, .tmp 5] Tryz.results15 rfl ?_
  intro w' hm' hc' hg'
  have e1 : unlL x t = [] := if_neg (fun q => by rw [hho] at q; cases q.1); have e2 : unlX x t = x := if_neg (by rw [hho]; simp); have e3 : unlE x t = 7 := if_neg (by rw [hho]; simp); rw [e1, e2, e3]; exact upd_m (m' := lkM0 b x adh nh caph bq ado nd capo bl mh mo mq ml) ⟨_, [], _, rfl, Sl.nil _ _ _ _, rfl, hLk⟩ hm' au1 hc' (inn_refl _ _)
 have hho : holdsO x t = true := (by rw [← hat_holds]; exact decide_eq_true om); have hix1 := (hat_in hho).1; have hix2 := (hat_in hho).2.1; rw [hix1]; have hol := outX_len hho
 refine wpM.skip <| QM.block_normal <| tR <| LM.mv rfl <| LM.mv rfl <| LM.nc rfl <| LM.val (ovf 56 rfl rfl rfl rfl) ?_
 refine LM.rd (oml rfl rfl rfl) ?_
 refine LM.cS (oc_call (enters_fn Tryz.func50 kr rfl) rfl) (fun w hm hc hg => cloneH_spec w hnh (hsh.srM ir hm) om) (fun ad22 n22 cap22 m22 hn22 hs22 => ?_)
 refine LM.mv rfl <| LM.mv rfl ?_
 refine LM.val (ov_add64 rfl rfl om) ?_
 refine cU Tryz.func49 rfl (fun w hm hc hg => delH_spec (hix x.ho t) w hs22 hix2 om (hm.pick m22)) hs22.wlk (fun q hq hlt => absurd hlt (Nat.not_lt_of_le (hs22.ge q hq))) ?_
 rintro u26 m26 ⟨rfl, h26⟩ hin26
 refine LM.nc rfl <| LM.val (ovf 56 rfl rfl rfl rfl) ?_
 refine LM.st Tryz.sizeOf56 rfl rfl rfl au5 rfl auH ?_
 refine LM.mem (SubM.mem (M' := lkC b x.sh x.sl ad22 (x.ho.length - 1) cap22 bq ado nd capo x.tr bl x.di :: (m26 ++ (mo ++ (mq ++ (ml ++ []))))) au1) ?_
 refine nB [(0, _)] <| LM.as rfl <| nA [(0, _), (7, _)] <| wpM.seq <| wR ?_
 have hge26 : ∀ p ∈ m26, w.heap.size ≤ p.1 := (fun p hp => h26.ge p hp); have hF : LkM n0 T b (outX x t) ((outX x t).wt.map (·.who)) (lkC b x.sh x.sl ad22 (x.ho.length - 1) cap22 bq ado nd capo x.tr bl x.di :: (m26 ++ (mo ++ (mq ++ ml)))) := ⟨ad22, x.ho.length - 1, cap22, ado, nd, capo, bq, bl, m26, mo, mq, ml, rfl, hol.symm, hnd, h26.mono hn0, hso, hTb, hLe, hb⟩; have hinF : inn (lkM0 b x adh nh caph bq ado nd capo bl mh mo mq ml) w.heap.size (lkC b x.sh x.sl ad22 (x.ho.length - 1) cap22 bq ado nd capo x.tr bl x.di :: (m26 ++ (mo ++ (mq ++ ml)))) := inn_cons inM_0 (inn_app (fun p hp => .inl (hge26 p hp)) (inn_app inS (inn_app inS inS)))
 refine LM.mv rfl <| LM.nc rfl <| LM.val (ovf 56 rfl rfl rfl rfl) ?_
 refine LM.rd (oml rfl rfl rfl) ?_
 refine LM.val (ov_len Tryz.underlying56 rfl) <| LM.val (ov_eql rfl rfl) <| nA [(0, _), (7, _), (34, _)] ?_
 refine wpM.joinK (α := Value × Mem0 × Mem0 × Lkm) (fun ⟨v, mr, mx, y⟩ => [(7, v)]) [(0, _)] (fun ⟨v, mr, mx, y⟩ => mr ++ (mx ++ [])) (fun ⟨v, mr, mx, y⟩ => Sl fI 3 1 k (unlL x t) v mr ∧ LkM n0 T b y (y.wt.map (·.who)) mx ∧ inn (lkM0 b x adh nh caph bq ado nd capo bl mh mo mq ml) w.heap.size (mr ++ mx) ∧ y = if (outX x t).ho.length = 0 then passX (outX x t) else outX x t) ⟨rfl, trivial⟩ ?_ ?_
 ·
  refine wpM.condD rfl (fun h2 => ?_) (fun h2 => ?_)
  ·
   refine wpM.region ?_
   refine LM.mv rfl ?_
   refine cU Tryz.func51 rfl (fun w hm hc hg => lkPass_spec (k := k) w (hT.keep hc hS0) hn1 hF hws (Nat.le_trans hn0 hc.size) (by rw [hol]; omega) (Nat.le_trans hk hc.size) (hm.pick (lkC b x.sh x.sl ad22 (x.ho.length - 1) cap22 bq ado nd capo x.tr bl x.di :: (m26 ++ (mo ++ (mq ++ ml)))))) hF.wlk (inM_inn hinF) ?_
   rintro u36 m36 ⟨mr36, mx36, hr36, rfl, h36⟩ hin36
   refine LM.as rfl <| nC [(0, _), (7, _)] ?_
   refine QM.meetK (u36, mr36, mx36, passX (outX x t)) ⟨au2, rfl, trivial⟩ au1 ?_
   · have hz : (outX x t).ho.length = 0 := om; exact ⟨by rw [unL_yes hho hz]; exact hr36, h36, inn_trans hinF hin36, (if_pos hz).symm⟩
  refine wpM.skip ?_
  refine QM.meetK (.slice none 0 0, [], lkC b x.sh x.sl ad22 (x.ho.length - 1) cap22 bq ado nd capo x.tr bl x.di :: (m26 ++ (mo ++ (mq ++ ml))), outX x t) ⟨au2, rfl, trivial⟩ au1 ?_
  · have hz : ¬ (outX x t).ho.length = 0 := om; exact ⟨by rw [unL_no hz]; exact Sl.nil _ _ _ _, hF, hinF, (if_neg hz).symm⟩
 rintro ⟨v, mr, mx, y⟩ ⟨hv, hL, hinL, hy⟩
 change QM _ _ _ _ _ (mr ++ (mx ++ [])) _ _ _
 refine tR <| LM.mv rfl ?_
 refine cU Tryz.func42 rfl (fun w hm hc hg => lkSet_spec w (hT.keep hc hS0) hn1 hL rfl (hm.pick mx)) hL.wlk (inM_inn (fun p hp => hinL p (List.mem_append_right _ hp))) ?_
 rintro u38 m38 h38 hin38
 refine nB [(7, _)] <| LM.mv rfl <| LM.as rfl <| LM.as rfl <| nA [(4, _), (5, _)] <| wpM.ret ?_
 refine QM.leave (.inl rfl) [.tmp 4, .tmp 5] Tryz.results15 rfl ?_
 intro w' hm' hc' hg'
 have e2 : unlX x t = settleX y := (by unfold unlX; rw [if_pos hho, ← hy]); have e3 : unlE x t = 0 := if_pos hho; rw [e2, e3]; exact upd_m (m' := mr ++ m38) ⟨_, mr, m38, rfl, hv, rfl, h38⟩ hm' au1 hc' (inn_app (fun p hp => hinL p (List.mem_append_left _ hp)) (inn_trans (fun p hp => hinL p (List.mem_append_right _ hp)) hin38))
theorem lv_no {x : Lkm} {t : Int} (h : waitsO x t = false) : lvL x t = [] ∧ lvX x t = x := ⟨if_neg (fun q => by rw [h] at q; cases q.1), if_neg (by rw [h]; simp)⟩
theorem lv_in {x : Lkm} {t : Int} (h : waitsO x t = true) (h2 : readO x = true ∧ cntL (goneX x t).wt 1 = 0) : lvL x t = admL (goneX x t) 0 8 ∧ lvX x t = settleX (admX (goneX x t) 0 8) := ⟨if_pos ⟨h, h2⟩, by unfold lvX; rw [if_pos h, if_pos h2]⟩
theorem lv_out {x : Lkm} {t : Int} (h : waitsO x t = true) (h2 : ¬ (readO x = true ∧ cntL (goneX x t).wt 1 = 0)) : lvL x t = [] ∧ lvX x t = settleX (goneX x t) := ⟨if_neg (fun q => h2 q.2), by unfold lvX; rw [if_pos h, if_neg h2]⟩
theorem inn_hd2 {m : Mem0} {a a' : Nat × Obj} {R : Mem0} {k : Nat} (hin : inn m k (a :: R)) (h : a'.1 = a.1) : inn m k (a' :: R) := fun p hp => by
  rcases List.mem_cons.1 hp with rfl | hp
  · rw [h]; exact hin a (List.mem_cons_self ..)
  · exact hin p (List.mem_cons_of_mem _ hp)
theorem lkLv_spec {n0 T b k : Nat} {x : Lkm} {m : Mem0} (t : Int) (w : World) (hT : Tab w) (hn1 : 0 < n0) (h : LkM n0 T b x (x.wt.map (·.who)) m) (hn0 : n0 ≤ w.heap.size) (hx : x.ho.length ≤ 900) (hk : k ≤ w.heap.size) (hM : Mem w m) : Ret Tryz.prog 18 #[.pointer (some ⟨b, 0, none⟩), .int .i64 t] w (Upd m (UnT n0 T b k (lvL x t) (.bool (waitsO x t)) (lvX x t)) w) := by
 have hLk := h; have hS0 : ¬ inM m 0 := (fun ⟨p, hp, e⟩ => by have := h.ge p hp; omega); obtain ⟨adh, nh, caph, ado, nd, capo, bq, bl, mh, mo, mq, ml, rfl, hnh, hnd, hsh, hso, hTb, hLe, hb⟩ := h
 refine Ret.enterM Tryz.func18 rfl Tryz.ntmps18 rfl (lkC b x.sh x.sl adh nh caph bq ado nd capo x.tr bl x.di :: (mh ++ (mo ++ (mq ++ (ml ++ []))))) ((inM (lkM0 b x adh nh caph bq ado nd capo bl mh mo mq ml))) aM ?_
 refine wR <| LM.as rfl <| LM.as rfl <| nA [(0, _), (1, _)] <| wpM.seq <| wR <| LM.mv rfl ?_
 refine LM.val (ov_peql kr rfl rfl) ?_
 refine LM.mv rfl <| LM.sp 9 rfl rfl rfl <| LM.mv rfl <| LM.sp 9 rfl rfl rfl <| LM.mv rfl <| LM.sp 9 rfl rfl rfl ?_
 refine cE Tryz.func55 rfl (fun w hm hc hg => lkWaits_spec t w hLk (hm.pick (lkC b x.sh x.sl adh nh caph bq ado nd capo x.tr bl x.di :: (mh ++ (mo ++ (mq ++ ml)))))) ?_
 refine LM.sp 9 rfl rfl rfl ?_
 first | refine LM.val (ov_notD rfl) ?_ | refine LM.val (ov_not rfl) ?_
 refine LM.val (ov_pickF rfl rfl) <| nA [(0, _), (1, _), (14, _)] ?_
 first | refine wpM.condD rfl (fun h1 => ?_) (fun h1 => ?_) | refine wpM.condB rfl (fun h1 => ?_) (fun h1 => ?_)
 ·
  have hw1 : waitsO x t = false := (by simpa using h1)
  refine wR <| LM.as rfl <| LM.as rfl <| nA [(4, _), (5, _)] <| wpM.ret <| QM.then_ret ?_
  refine QM.leave (.inl rfl) [.tmp 4, .tmp 5] Tryz.results18 rfl ?_
  intro w' hm' hc' hg'
  have e := lv_no hw1; rw [e.1, e.2, hw1]; exact upd_m (m' := lkM0 b x adh nh caph bq ado nd capo bl mh mo mq ml) ⟨_, [], _, rfl, Sl.nil _ _ _ _, rfl, hLk⟩ hm' au1 hc' (inn_refl _ _)
 have hw1 : waitsO x t = true := (by simpa using h1)
 refine wpM.skip <| tR <| LM.mv rfl <| LM.mv rfl ?_
 refine cU Tryz.func56 rfl (fun w hm hc hg => lkGone_spec t w hLk (hm.pick (lkC b x.sh x.sl adh nh caph bq ado nd capo x.tr bl x.di :: (mh ++ (mo ++ (mq ++ ml)))))) hLk.wlk (fun q hq _ => ⟨q, hq, rfl⟩) ?_
 rintro u17 m17 h17 hin17; rw [rmI_map] at h17; have hG := h17; obtain ⟨adh1, nh1, caph1, ado1, nd1, capo1, bq1, bl1, mh1, mo1, mq1, ml1, rfl, hnh1, hnd1, hsh1, hso1, hTb1, hLe1, hb1⟩ := h17; have hr1 : readO (goneX x t) = readO x := rfl; have hG2 : LkM n0 T b (goneX x t) ((goneX x t).wt.map (·.who)) (lkC b x.sh x.sl adh1 nh1 caph1 bq1 ado1 nd1 capo1 x.tr bl1 x.di :: (mh1 ++ (mo1 ++ (mq1 ++ ml1)))) := hG; refine LM.mem (SubM.mem (M' := lkC b x.sh x.sl adh1 nh1 caph1 bq1 ado1 nd1 capo1 x.tr bl1 x.di :: (mh1 ++ (mo1 ++ (mq1 ++ (ml1 ++ []))))) (by rw [List.cons_append, List.append_assoc, List.append_assoc, List.append_assoc]; (repeat' (first | exact SubM.nil _ | refine SubM.cons rfl ?_ | refine SubM.app ?_)))) ?_
 refine nB [(0, _)] <| LM.as rfl <| nA [(0, _), (6, _)] <| wpM.seq <| wR <| LM.mv rfl ?_
 refine cE Tryz.func57 rfl (fun w hm hc hg => lkRead_spec w hG2 (by have hq := hm.pick (lkC b x.sh x.sl adh1 nh1 caph1 bq1 ado1 nd1 capo1 x.tr bl1 x.di :: (mh1 ++ (mo1 ++ (mq1 ++ ml1)))); exact hq)) ?_
 refine LM.mv rfl ?_
 first | refine LM.splitD (t := 20) rfl (fun h2 => ?_) (fun h2 => ?_) | refine LM.splitB (t := 20) rfl (fun h2 => ?_) (fun h2 => ?_)
 ·
  refine LM.sp 20 rfl rfl rfl <| LM.mv rfl <| LM.sp 20 rfl rfl rfl <| LM.nc rfl <| LM.sp 20 rfl rfl rfl <| LM.val (ovf 66 rfl rfl rfl rfl) <| LM.sp 20 rfl rfl rfl ?_
  refine LM.rd (oml rfl rfl rfl) ?_
  refine LM.sp 20 rfl rfl rfl ?_
  refine cE Tryz.func58 rfl (fun w hm hc hg => tcount_spec 1 w hTb1 (hm.pick mq1)) ?_
  refine LM.sp 20 rfl rfl rfl <| LM.val (ov_eql rfl rfl) <| LM.val (ov_pickT rfl rfl) <| nA [(0, _), (6, _), (27, _)] ?_
  refine wpM.joinK (α := Value × Mem0 × Mem0 × Lkm) (fun ⟨v, mr, mx, y⟩ => [(6, v)]) [(0, _)] (fun ⟨v, mr, mx, y⟩ => mr ++ (mx ++ [])) (fun ⟨v, mr, mx, y⟩ => Sl fI 3 1 k (lvL x t) v mr ∧ LkM n0 T b y (y.wt.map (·.who)) mx ∧ inn (lkM0 b x adh nh caph bq ado nd capo bl mh mo mq ml) w.heap.size (mr ++ mx) ∧ lvX x t = settleX y) ⟨rfl, trivial⟩ ?_ ?_
  ·
   refine wpM.condD rfl (fun h3 => ?_) (fun h3 => ?_)
   ·
    refine wpM.region ?_
    refine LM.mv rfl ?_
    refine cU Tryz.func59 rfl (fun w hm hc hg => lkAdm2 (k := k) 0 8 w hG2 (Nat.le_trans hn0 hc.size) hx (Nat.le_trans hk hc.size) (by have hq := hm.pick (lkC b x.sh x.sl adh1 nh1 caph1 bq1 ado1 nd1 capo1 x.tr bl1 x.di :: (mh1 ++ (mo1 ++ (mq1 ++ ml1)))); exact hq)) hG2.wlk (inM_inn hin17) ?_
    rintro u29 m29 ⟨mr29, mx29, hr29, rfl, h29⟩ hin29
    refine LM.as rfl <| nC [(0, _), (6, _)] ?_
    refine QM.meetK (u29, mr29, mx29, admX (goneX x t) 0 8) ⟨au2, rfl, trivial⟩ au1 ?_
    · have hz := lv_in hw1 ⟨by rw [← hr1]; exact h2, by omega⟩; exact ⟨by rw [hz.1]; exact hr29, h29, inn_trans hin17 hin29, hz.2⟩
   refine wpM.skip ?_
   refine QM.meetK (.slice none 0 0, [], lkC b x.sh x.sl adh1 nh1 caph1 bq1 ado1 nd1 capo1 x.tr bl1 x.di :: (mh1 ++ (mo1 ++ (mq1 ++ ml1))), goneX x t) ⟨au2, rfl, trivial⟩ au1 ?_
   · have hz := lv_out hw1 (fun q => by have := q.2; omega); exact ⟨by rw [hz.1]; exact Sl.nil _ _ _ _, hG, hin17, hz.2⟩
  rintro ⟨v, mr, mx, y⟩ ⟨hv, hL, hinL, hy⟩
  change QM _ _ _ _ _ (mr ++ (mx ++ [])) _ _ _
  refine tR <| LM.mv rfl ?_
  refine cU Tryz.func42 rfl (fun w hm hc hg => lkSet_spec w (hT.keep hc hS0) hn1 hL rfl (hm.pick mx)) hL.wlk (inM_inn (fun p hp => hinL p (List.mem_append_right _ hp))) ?_
  rintro u31 m31 h31 hin31
  refine nB [(6, _)] <| LM.mv rfl <| LM.as rfl <| LM.as rfl <| nA [(4, _), (5, _)] <| wpM.ret ?_
  refine QM.leave (.inl rfl) [.tmp 4, .tmp 5] Tryz.results18 rfl ?_
  intro w' hm' hc' hg'
  rw [hy, hw1]; exact upd_m (m' := mr ++ m31) ⟨_, mr, m31, rfl, hv, rfl, h31⟩ hm' au1 hc' (inn_app (fun p hp => hinL p (List.mem_append_left _ hp)) (inn_trans (fun p hp => hinL p (List.mem_append_right _ hp)) hin31))
 refine LM.dr 20 rfl rfl rfl <| LM.dr 20 rfl rfl rfl <| LM.dr 20 rfl rfl rfl <| LM.dr 20 rfl rfl rfl <| LM.dr 20 rfl rfl rfl <| LM.dr 20 rfl rfl rfl <| LM.val (ov_pickF rfl rfl) <| nA [(0, _), (6, _), (27, _)] ?_
 refine wpM.joinK (α := Value × Mem0 × Mem0 × Lkm) (fun ⟨v, mr, mx, y⟩ => [(6, v)]) [(0, _)] (fun ⟨v, mr, mx, y⟩ => mr ++ (mx ++ [])) (fun ⟨v, mr, mx, y⟩ => Sl fI 3 1 k (lvL x t) v mr ∧ LkM n0 T b y (y.wt.map (·.who)) mx ∧ inn (lkM0 b x adh nh caph bq ado nd capo bl mh mo mq ml) w.heap.size (mr ++ mx) ∧ lvX x t = settleX y) ⟨rfl, trivial⟩ ?_ ?_
 ·
  refine wpM.condF rfl ?_
  refine wpM.skip ?_
  refine QM.meetK (.slice none 0 0, [], lkC b x.sh x.sl adh1 nh1 caph1 bq1 ado1 nd1 capo1 x.tr bl1 x.di :: (mh1 ++ (mo1 ++ (mq1 ++ ml1))), goneX x t) ⟨au2, rfl, trivial⟩ au1 ?_
  · have hz := lv_out hw1 (fun q => by rw [← hr1, h2] at q; cases q.1); exact ⟨by rw [hz.1]; exact Sl.nil _ _ _ _, hG, hin17, hz.2⟩
 rintro ⟨v, mr, mx, y⟩ ⟨hv, hL, hinL, hy⟩
 change QM _ _ _ _ _ (mr ++ (mx ++ [])) _ _ _
 refine tR <| LM.mv rfl ?_
 refine cU Tryz.func42 rfl (fun w hm hc hg => lkSet_spec w (hT.keep hc hS0) hn1 hL rfl (hm.pick mx)) hL.wlk (inM_inn (fun p hp => hinL p (List.mem_append_right _ hp))) ?_
 rintro u31 m31 h31 hin31
 refine nB [(6, _)] <| LM.mv rfl <| LM.as rfl <| LM.as rfl <| nA [(4, _), (5, _)] <| wpM.ret ?_
 refine QM.leave (.inl rfl) [.tmp 4, .tmp 5] Tryz.results18 rfl ?_
 intro w' hm' hc' hg'
 rw [hy, hw1]; exact upd_m (m' := mr ++ m31) ⟨_, mr, m31, rfl, hv, rfl, h31⟩ hm' au1 hc' (inn_app (fun p hp => hinL p (List.mem_append_left _ hp)) (inn_trans (fun p hp => hinL p (List.mem_append_right _ hp)) hin31))
theorem lkDie_spec {n0 T b k : Nat} {x : Lkm} {m : Mem0} (t : Int) (w : World) (hT : Tab w) (hn1 : 0 < n0) (h : LkM n0 T b x (x.wt.map (·.who)) m) (hws : waitS x = 0#64 ↔ x.wt.length = 0) (hn0 : n0 ≤ w.heap.size) (hx : x.ho.length ≤ 900) (hk : k ≤ w.heap.size) (hM : Mem w m) : Ret Tryz.prog 20 #[.pointer (some ⟨b, 0, none⟩), .int .i64 t] w (Upd m (UnT n0 T b k (diL x t) (.bool (diB x t)) (diX x t)) w) := by
 have hS0 : ¬ inM m 0 := (fun ⟨p, hp, e⟩ => by have := h.ge p hp; omega)
 refine Ret.enterM Tryz.func20 rfl Tryz.ntmps20 rfl (m ++ []) ((inM m)) aM ?_
 refine wR <| LM.as rfl <| LM.as rfl <| nA [(0, _), (1, _)] <| wpM.seq <| wR <| LM.mv rfl <| LM.mv rfl ?_
 refine cU Tryz.func18 rfl (fun w hm hc hg => lkLv_spec (k := k) t w (hT.keep hc hS0) hn1 h (Nat.le_trans hn0 hc.size) hx (Nat.le_trans hk hc.size) (hm.pick m)) h.wlk (fun q hq _ => ⟨q, hq, rfl⟩) ?_
 rintro u13 m13 ⟨v13, mr13, mx13, rfl, hr13, rfl, h13⟩ hin13; refine LM.assoc ?_
 refine LM.mv rfl <| LM.val (ov_extract rfl rfl) <| LM.val (ov_extract rfl rfl) <| LM.as rfl <| LM.as rfl <| nB [(0, _), (1, _), (6, _), (7, _)] <| LM.mv rfl <| nA [(0, _), (1, _), (6, _), (16, _)] ?_
 first | refine wpM.condD rfl (fun h1 => ?_) (fun h1 => ?_) | refine wpM.condB rfl (fun h1 => ?_) (fun h1 => ?_)
 ·
  have e1 : diL x t = lvL x t := if_pos h1; have e2 : diX x t = lvX x t := if_pos h1; have e3 : diB x t = true := (by unfold diB; rw [h1]; rfl)
  refine wR <| LM.mv rfl <| LM.as rfl <| LM.as rfl <| nA [(4, _), (5, _)] <| wpM.ret <| QM.then_ret ?_
  refine QM.leave (.inl rfl) [.tmp 4, .tmp 5] Tryz.results20 rfl ?_
  intro w' hm' hc' hg'
  rw [e1, e2, e3]; exact upd_m (m' := mr13 ++ mx13) ⟨_, mr13, mx13, rfl, hr13, rfl, h13⟩ hm' au1 hc' hin13
 have hlv := lv_no h1; rw [hlv.2] at h13; have hH := h13; obtain ⟨adh, nh, caph, ado, nd, capo, bq, bl, mh, mo, mq, ml, rfl, hnh, hnd, hsh, hso, hTb, hLe, hb⟩ := h13; refine wpM.mem (SubM.mem (M' := lkC b x.sh x.sl adh nh caph bq ado nd capo x.tr bl x.di :: (mh ++ (mo ++ (mq ++ (ml ++ []))))) (by rw [List.cons_append, List.append_assoc, List.append_assoc, List.append_assoc]; (repeat' (first | exact SubM.nil _ | refine SubM.cons rfl ?_ | refine SubM.app ?_)))) ?_; have hin0 : inn m w.heap.size (lkC b x.sh x.sl adh nh caph bq ado nd capo x.tr bl x.di :: (mh ++ (mo ++ (mq ++ ml)))) := fun p hp => hin13 p (List.mem_append_right _ hp)
 refine wpM.skip <| QM.then <| wpM.seq <| wR <| LM.mv rfl <| LM.mv rfl ?_
 refine cE Tryz.func32 rfl (fun w hm hc hg => lkHolds_spec t w hH (hm.pick (lkC b x.sh x.sl adh nh caph bq ado nd capo x.tr bl x.di :: (mh ++ (mo ++ (mq ++ ml)))))) ?_
 first | refine LM.val (ov_notD rfl) ?_ | refine LM.val (ov_not rfl) ?_
 refine nA [(0, _), (1, _), (21, _)] ?_
 first | refine wpM.condD rfl (fun h2 => ?_) (fun h2 => ?_) | refine wpM.condB rfl (fun h2 => ?_) (fun h2 => ?_)
 ·
  refine wR <| LM.as rfl <| LM.as rfl <| nA [(4, _), (5, _)] <| wpM.ret <| QM.then_ret ?_
  refine QM.leave (.inl rfl) [.tmp 4, .tmp 5] Tryz.results20 rfl ?_
  intro w' hm' hc' hg'
  have e4 : holdsO x t = false := (by simpa using h2); have e1 : diL x t = [] := (by unfold diL; rw [if_neg (by rw [h1]; simp)]; exact if_neg (fun q => by rw [show holdsO { x with di := true } t = holdsO x t from rfl, e4] at q; cases q.1)); have e2 : diX x t = x := (by unfold diX; rw [if_neg (by rw [h1]; simp), if_neg (by rw [e4]; simp)]); have e3 : diB x t = false := (by unfold diB; rw [h1, e4]; rfl); rw [e1, e2, e3]; exact upd_m (m' := lkC b x.sh x.sl adh nh caph bq ado nd capo x.tr bl x.di :: (mh ++ (mo ++ (mq ++ ml)))) ⟨_, [], _, rfl, Sl.nil _ _ _ _, rfl, hH⟩ hm' au1 hc' hin0
 refine wpM.skip <| tR <| LM.mv rfl <| LM.nc rfl <| LM.val (ovf 4 rfl rfl rfl rfl) ?_
 refine LM.st Tryz.sizeOf4 rfl rfl rfl au5 rfl (fun hlt => by first | exact (hin0 _ (List.mem_cons_self ..)).elim (fun q => absurd hlt (Nat.not_lt_of_le q)) id | exact absurd hlt om) ?_
 refine LM.mem (SubM.mem (M' := lkC b x.sh x.sl adh nh caph bq ado nd capo x.tr bl true :: (mh ++ (mo ++ (mq ++ (ml ++ []))))) au1) ?_
 refine nB [(0, _), (1, _)] ?_
 have hF : LkM n0 T b { x with di := true } (x.wt.map (·.who)) (lkC b x.sh x.sl adh nh caph bq ado nd capo x.tr bl true :: (mh ++ (mo ++ (mq ++ ml)))) := ⟨adh, nh, caph, ado, nd, capo, bq, bl, mh, mo, mq, ml, rfl, hnh, hnd, hsh, hso, hTb, hLe, hb⟩; have hinF : inn m w.heap.size (lkC b x.sh x.sl adh nh caph bq ado nd capo x.tr bl true :: (mh ++ (mo ++ (mq ++ ml)))) := inn_hd2 hin0 rfl
 refine LM.mv rfl <| LM.mv rfl ?_
 refine cU Tryz.func15 rfl (fun w hm hc hg => lkUnl_spec (k := k) t w (hT.keep hc hS0) hn1 hF hws (Nat.le_trans hn0 hc.size) hx (Nat.le_trans hk hc.size) (hm.pick (lkC b x.sh x.sl adh nh caph bq ado nd capo x.tr bl true :: (mh ++ (mo ++ (mq ++ ml)))))) hF.wlk (inM_inn hinF) ?_
 rintro u28 m28 ⟨v28, mr28, mx28, rfl, hr28, rfl, h28⟩ hin28; refine LM.assoc ?_
 refine LM.mv rfl <| LM.val (ov_extract rfl rfl) <| LM.val (ov_extract rfl rfl) <| LM.as rfl <| LM.as rfl <| nB [(8, _)] <| LM.mv rfl <| LM.as rfl <| LM.as rfl <| nA [(4, _), (5, _)] <| wpM.ret ?_
 refine QM.leave (.inl rfl) [.tmp 4, .tmp 5] Tryz.results20 rfl ?_
 intro w' hm' hc' hg'
 have e4 : holdsO x t = true := (by simpa using h2); have e1 : diL x t = unlL { x with di := true } t := (by unfold diL; rw [if_neg (by rw [h1]; simp)]); have e2 : diX x t = unlX { x with di := true } t := (by unfold diX; rw [if_neg (by rw [h1]; simp), if_pos e4]); have e3 : diB x t = true := (by unfold diB; rw [h1, e4]; rfl); rw [e1, e2, e3]; exact upd_m (m' := mr28 ++ mx28) ⟨_, mr28, mx28, rfl, hr28, rfl, h28⟩ hm' au1 hc' (inn_trans hinF hin28)
theorem chg_yes {x : Lkm} {t : Int} (h : holdsO x t = true) : chgX x t = settleX { x with ld := ldChg x.ld (x.ho.getD (hix x.ho t) default).p.toNat, tr := spendT x.tr } := if_pos h
theorem chg_no {x : Lkm} {t : Int} (h : holdsO x t = false) : chgX x t = x := if_neg (by rw [h]; simp)
theorem hix_mem {x : Lkm} {t : Int} (h : holdsO x t = true) : x.ho.getD (hix x.ho t) default ∈ x.ho := by
  rw [List.getD_eq_getElem?_getD, List.getElem?_eq_getElem (hat_in h).2.1]; exact List.getElem_mem _
theorem lkChg_spec {n0 T b : Nat} {x : Lkm} {m : Mem0} (t : Int) (w : World) (hT : Tab w) (hn1 : 0 < n0) (h : LkM n0 T b x (x.wt.map (·.who)) m) (hn0 : n0 ≤ w.heap.size) (hhk : ∀ h ∈ x.ho, isO x.ld h.p = true) (hhh : ∀ p, p < x.ld.l.length → 0 ≤ (gP x.ld.l p).h ∧ (gP x.ld.l p).h ≤ 1000000000) (htu : -1000000 ≤ x.tr.u) (hM : Mem w m) : Ret Tryz.prog 22 #[.pointer (some ⟨b, 0, none⟩), .int .i64 t] w (Upd m (fun u m' => u = .bool (holdsO x t) ∧ LkM n0 T b (chgX x t) ((chgX x t).wt.map (·.who)) m') w) := by
 have hLk := h; have hS0 : ¬ inM m 0 := (fun ⟨p, hp, e⟩ => by have := h.ge p hp; omega); obtain ⟨adh, nh, caph, ado, nd, capo, bq, bl, mh, mo, mq, ml, rfl, hnh, hnd, hsh, hso, hTb, hLe, hb⟩ := h; have hSo := And.intro hso trivial; clear hso; have hhl := hsh.len.2.1
 refine Ret.enterM Tryz.func22 rfl Tryz.ntmps22 rfl (lkC b x.sh x.sl adh nh caph bq ado nd capo x.tr bl x.di :: (mh ++ (mo ++ (mq ++ (ml ++ []))))) ((inM (lkM0 b x adh nh caph bq ado nd capo bl mh mo mq ml))) aM ?_
 refine wR <| LM.as rfl <| nB [(0, _), (1, _)] <| LM.mv rfl <| LM.mv rfl ?_
 refine cE Tryz.func48 rfl (fun w hm hc hg => lkPlace_spec t w hLk (hm.pick (lkC b x.sh x.sl adh nh caph bq ado nd capo x.tr bl x.di :: (mh ++ (mo ++ (mq ++ ml)))))) ?_
 refine LM.as rfl <| nA [(0, _), (5, _)] <| wpM.seq <| wR <| LM.mv rfl <| LM.val (ov_lss rfl rfl) <| nA [(0, _), (5, _), (10, _)] ?_
 refine wpM.condD rfl (fun h1 => ?_) (fun h1 => ?_)
 ·
  have hho : holdsO x t = false := (by rw [← hat_holds]; exact decide_eq_false om)
  refine wR <| LM.as rfl <| nA [(4, _)] <| wpM.ret <| QM.then_ret ?_
  refine qL Tryz.results22 rfl fun w' hm' hc' hg' => ?_
  rw [hho, chg_no hho]; exact upd_m (m' := lkM0 b x adh nh caph bq ado nd capo bl mh mo mq ml) ⟨rfl, hLk⟩ hm' au1 hc' (inn_refl _ _)
 have hho : holdsO x t = true := (by rw [← hat_holds]; exact decide_eq_true om); have hix1 := (hat_in hho).1; have hix2 := (hat_in hho).2.1; rw [hix1]; obtain ⟨pp, hpp, hpl⟩ := isO_at (hhk _ (hix_mem hho)); have hpn : (x.ho.getD (hix x.ho t) default).p.toNat = pp := (by rw [hpp]; rfl)
 refine wpM.skip <| QM.then <| wpM.seq ?_
 refine wpM.draw [(0, 0), (1, 0), (2, 0), (3, 1), (4, 0), (5, 0), (6, 0), (7, 1), (8, 0), (9, 0), (10, 0), (11, 1), (12, 3)] kr kr ?_
 refine LD.val rfl rfl (ov_move rfl) <| LD.val rfl rfl (ov_nilCheck rfl) <| LD.val rfl rfl (ovf 68 rfl rfl rfl rfl) ?_
 refine LD.rd rfl rfl (oml rfl rfl rfl) ?_
 refine LD.val rfl rfl (ov_move rfl) <| LD.val rfl rfl (ov_nilCheck rfl) <| LD.val rfl rfl (ovf 56 rfl rfl rfl rfl) ?_
 refine LD.rd rfl rfl (oml rfl rfl rfl) ?_
 refine LD.val rfl rfl (ov_move rfl) ?_
 refine LD.val rfl rfl (ov_idxSN au6 Tryz.underlying56 Tryz.sizeOf59 rfl rfl om) ?_
 refine LD.val rfl rfl (ovf 3 rfl rfl rfl rfl) ?_
 refine LD.rd rfl rfl (om_slE (j := 1) asm ir Tryz.isAgg3 rfl rfl au3 rfl (by rfl)) ?_
 refine LD.tail rfl rfl ?_
 rw [hpp]
 refine cU Tryz.func62 rfl (fun w hm hc hg => leChg_spec pp w hLe hpl (hhh pp hpl) (hm.pick ml)) hLe.wlk (fun q hq _ => ⟨q, by simp [hq], rfl⟩) ?_
 rintro u23 m23 ⟨rfl, h23⟩ hin23
 refine LM.nil ?_
 refine QM.qn ?_
 refine QM.sub (e' := [(0, _)]) ⟨rfl, trivial⟩ (QM.then (wpM.seq (wpM.region ?_)))
 refine LM.mv rfl <| LM.mv rfl <| LM.nc rfl <| LM.val (ovf 64 rfl rfl rfl rfl) ?_
 first | refine LM.rd (om_ldW Tryz.isAgg64 Tryz.sizeOf64 rfl rfl) ?_ | refine LM.rd (om_ldA Tryz.isAgg64 Tryz.sizeOf64 rfl (vs := [_, _]) rfl ⟨rfl, rfl, trivial⟩) ?_
 refine cE Tryz.func63 rfl (fun w hm hc hg => tuspend_spec x.tr w htu) ?_
 refine LM.nc rfl <| LM.val (ovf 64 rfl rfl rfl rfl) ?_
 refine LM.st Tryz.sizeOf64 rfl rfl rfl au5 rfl auH ?_
 refine LM.mem (SubM.mem (M' := lkC b x.sh x.sl adh nh caph bq ado nd capo (spendT x.tr) bl x.di :: (mh ++ (mo ++ (mq ++ (m23 ++ []))))) au1) ?_
 refine nB [(0, _)] ?_
 have hF : LkM n0 T b { x with ld := ldChg x.ld pp, tr := spendT x.tr } (x.wt.map (·.who)) (lkC b x.sh x.sl adh nh caph bq ado nd capo (spendT x.tr) bl x.di :: (mh ++ (mo ++ (mq ++ m23)))) := ⟨adh, nh, caph, ado, nd, capo, bq, bl, mh, mo, mq, m23, rfl, hnh, hnd, hsh, hSo.1, hTb, h23, hb⟩; have hinF : inn (lkM0 b x adh nh caph bq ado nd capo bl mh mo mq ml) w.heap.size (lkC b x.sh x.sl adh nh caph bq ado nd capo (spendT x.tr) bl x.di :: (mh ++ (mo ++ (mq ++ m23)))) := inn_cons inM_0 (inn_app inS (inn_app inS (inn_app inS (inn_tr hin23 (fun p hp => by simp [hp])))))
 refine LM.mv rfl ?_
 refine cU Tryz.func42 rfl (fun w hm hc hg => lkSet_spec w (hT.keep hc hS0) hn1 hF rfl (hm.pick (lkC b x.sh x.sl adh nh caph bq ado nd capo (spendT x.tr) bl x.di :: (mh ++ (mo ++ (mq ++ m23)))))) hF.wlk (inM_inn hinF) ?_
 rintro u33 m33 h33 hin33
 refine LM.nil (QM.sub (e' := []) trivial (QM.then (wpM.seq (wpM.region ?_))))
 refine LM.as rfl <| nA [(4, _)] <| wpM.ret ?_
 refine qL Tryz.results22 rfl fun w' hm' hc' hg' => ?_
 rw [hho, chg_yes hho, hpn]; exact upd_m (m' := m33) ⟨rfl, h33⟩ hm' au1 hc' (inn_trans hinF hin33)
theorem wei_no {x : Lkm} {g wt : Int} (h : weiB x g = false) : weiX x g wt = x := if_neg (by rw [h]; simp)
theorem wei_yes {x : Lkm} {g : Nat} {wt : Int} (h : weiB x g = true) : weiX x g wt = settleX { x with ld := ldWei x.ld g wt, tr := if x.tr.p = (g : Int) ∧ (gP (ldWei x.ld g wt).l g).w ≠ (gP x.ld.l g).w then endT x.tr x.sl else x.tr } := if_pos h
theorem leW_in {x : Ldm} {p : Nat} (h : p < x.l.length) : (if isO x (p : Int) then (gP x.l p).w else 0) = (gP x.l p).w := by rw [isO_in h]; rfl
theorem lkWei_spec {n0 T b : Nat} {x : Lkm} {m : Mem0} (g wt : Int) (w : World) (hT : Tab w) (hn1 : 0 < n0) (h : LkM n0 T b x (x.wt.map (·.who)) m) (hn0 : n0 ≤ w.heap.size) (hM : Mem w m) : Ret Tryz.prog 24 #[.pointer (some ⟨b, 0, none⟩), .int .i64 g, .int .i64 wt] w (Upd m (fun u m' => u = .bool (weiB x g) ∧ LkM n0 T b (weiX x g wt) ((weiX x g wt).wt.map (·.who)) m') w) := by
 have hLk := h; have hS0 : ¬ inM m 0 := (fun ⟨p, hp, e⟩ => by have := h.ge p hp; omega); obtain ⟨adh, nh, caph, ado, nd, capo, bq, bl, mh, mo, mq, ml, rfl, hnh, hnd, hsh, hso, hTb, hLe, hb⟩ := h; have hhl := hsh.len.2.1
 refine Ret.enterM Tryz.func24 rfl Tryz.ntmps24 rfl (lkC b x.sh x.sl adh nh caph bq ado nd capo x.tr bl x.di :: (mh ++ (mo ++ (mq ++ (ml ++ []))))) ((inM (lkM0 b x adh nh caph bq ado nd capo bl mh mo mq ml))) aM ?_
 refine wR <| LM.as rfl <| nA [(0, _), (1, _), (2, _)] <| wpM.seq <| wR <| LM.mv rfl ?_
 refine LM.val (ov_peql kr rfl rfl) ?_
 refine LM.mv rfl <| LM.sp 10 rfl rfl rfl <| LM.mv rfl <| LM.sp 10 rfl rfl rfl <| LM.nc rfl <| LM.sp 10 rfl rfl rfl <| LM.val (ovf 4 rfl rfl rfl rfl) <| LM.sp 10 rfl rfl rfl ?_
 refine LM.rd (oml rfl rfl rfl) ?_
 refine LM.val (ov_pickF rfl rfl) <| LM.mv rfl ?_
 first | refine LM.splitD (t := 16) rfl (fun h1 => ?_) (fun h1 => ?_) | refine LM.splitB (t := 16) rfl (fun h1 => ?_) (fun h1 => ?_)
 ·
  have hw1 : weiB x g = false := (by unfold weiB; rw [h1]; rfl)
  refine LM.dr 16 rfl rfl rfl <| LM.dr 16 rfl rfl rfl <| LM.dr 16 rfl rfl rfl <| LM.dr 16 rfl rfl rfl <| LM.val (ov_pickT rfl rfl) <| nA [(0, _), (1, _), (2, _), (21, _)] ?_
  refine wpM.condT rfl ?_
  refine wR <| LM.as rfl <| nA [(6, _)] <| wpM.ret <| QM.then_ret ?_
  refine qL Tryz.results24 rfl fun w' hm' hc' hg' => ?_
  rw [hw1, wei_no hw1]; exact upd_m (m' := lkM0 b x adh nh caph bq ado nd capo bl mh mo mq ml) ⟨rfl, hLk⟩ hm' au1 hc' (inn_refl _ _)
 skip
 refine LM.sp 16 rfl rfl rfl <| LM.mv rfl <| LM.sp 16 rfl rfl rfl <| LM.mv rfl <| LM.sp 16 rfl rfl rfl ?_
 refine cE Tryz.func66 rfl (fun w hm hc hg => lkIs_spec g w hLk (hm.pick (lkC b x.sh x.sl adh nh caph bq ado nd capo x.tr bl x.di :: (mh ++ (mo ++ (mq ++ ml)))))) ?_
 refine LM.sp 16 rfl rfl rfl ?_
 first | refine LM.val (ov_notD rfl) ?_ | refine LM.val (ov_not rfl) ?_
 refine LM.val (ov_pickF rfl rfl) <| nA [(0, _), (1, _), (2, _), (21, _)] ?_
 first | refine wpM.condD rfl (fun h2 => ?_) (fun h2 => ?_) | refine wpM.condB rfl (fun h2 => ?_) (fun h2 => ?_)
 ·
  have hw1 : weiB x g = false := (by unfold weiB; rw [show isO x.ld g = false by simpa using h2]; simp)
  refine wR <| LM.as rfl <| nA [(6, _)] <| wpM.ret <| QM.then_ret ?_
  refine qL Tryz.results24 rfl fun w' hm' hc' hg' => ?_
  rw [hw1, wei_no hw1]; exact upd_m (m' := lkM0 b x adh nh caph bq ado nd capo bl mh mo mq ml) ⟨rfl, hLk⟩ hm' au1 hc' (inn_refl _ _)
 have hig : isO x.ld g = true := (by simpa using h2); have hw1 : weiB x g = true := (by unfold weiB; rw [h1, hig]; rfl); obtain ⟨p, rfl, hpl⟩ := isO_at hig
 refine wpM.skip <| tR <| LM.mv rfl <| LM.nc rfl <| LM.val (ovf 68 rfl rfl rfl rfl) ?_
 refine LM.rd (oml rfl rfl rfl) ?_
 refine LM.mv rfl ?_
 refine cE Tryz.func67 rfl (fun w hm hc hg => leW_in hpl ▸ leWeight_spec (p : Int) w hLe (hm.pick ml)) ?_
 refine LM.as rfl <| nB [(0, _), (1, _), (2, _), (7, _)] <| LM.mv rfl <| LM.nc rfl <| LM.val (ovf 68 rfl rfl rfl rfl) ?_
 refine LM.rd (oml rfl rfl rfl) ?_
 refine LM.mv rfl <| LM.mv rfl ?_
 refine cU Tryz.func68 rfl (fun w hm hc hg => leWei_spec p wt w hLe hpl (hm.pick ml)) hLe.wlk (fun q hq _ => ⟨q, by simp [hq], rfl⟩) ?_
 rintro u34 m34 ⟨rfl, h34⟩ hin34; have hpl4 : p < (ldWei x.ld p wt).l.length := (by show p < (x.ld.l.set _ _).length; rw [List.length_set]; exact hpl)
 refine nA [(0, _), (1, _), (7, _)] <| wpM.seq <| wR <| LM.mv rfl <| LM.nc rfl <| LM.val (ovf 64 rfl rfl rfl rfl) <| LM.val (ovf 3 rfl rfl rfl rfl) ?_
 refine LM.rd (oml rfl rfl rfl) ?_
 refine LM.mv rfl <| LM.val (ov_eql rfl rfl) <| LM.mv rfl ?_
 refine LM.splitD (t := 42) rfl (fun h3 => ?_) (fun h3 => ?_)
 ·
  refine LM.sp 42 rfl rfl rfl <| LM.mv rfl <| LM.sp 42 rfl rfl rfl <| LM.nc rfl <| LM.sp 42 rfl rfl rfl <| LM.val (ovf 68 rfl rfl rfl rfl) <| LM.sp 42 rfl rfl rfl ?_
  refine LM.rd (oml rfl rfl rfl) ?_
  refine LM.sp 42 rfl rfl rfl <| LM.mv rfl <| LM.sp 42 rfl rfl rfl ?_
  refine cE Tryz.func67 rfl (fun w hm hc hg => leW_in hpl4 ▸ leWeight_spec (p : Int) w h34 (hm.pick m34)) ?_
  refine LM.sp 42 rfl rfl rfl <| LM.mv rfl <| LM.sp 42 rfl rfl rfl <| LM.val (ov_neq rfl rfl) <| LM.val (ov_pickT rfl rfl) <| nA [(0, _), (51, _)] ?_
  refine wpM.joinK (α := Trn) (fun tr => []) [(0, _)] (fun tr => lkC b x.sh x.sl adh nh caph bq ado nd capo tr bl x.di :: (mh ++ (mo ++ (mq ++ (m34 ++ []))))) (fun tr => tr = if x.tr.p = (p : Int) ∧ (gP (ldWei x.ld p wt).l p).w ≠ (gP x.ld.l p).w then endT x.tr x.sl else x.tr) ⟨rfl, trivial⟩ ?_ ?_
  ·
   refine wpM.condD rfl (fun h4 => ?_) (fun h4 => ?_)
   ·
    refine wpM.draw [(0, 0), (1, 0), (2, 0), (3, 0), (4, 1), (5, 0), (6, 0), (7, 0), (8, 1), (9, 2), (10, 0), (11, 0), (12, 3)] kr kr ?_
    refine LD.val rfl rfl (ov_move rfl) <| LD.val rfl rfl (ov_move rfl) <| LD.val rfl rfl (ov_nilCheck rfl) <| LD.val rfl rfl (ovf 64 rfl rfl rfl rfl) ?_
    first | refine LD.rd rfl rfl (om_ldW Tryz.isAgg64 Tryz.sizeOf64 rfl rfl) ?_ | refine LD.rd rfl rfl (om_ldA Tryz.isAgg64 Tryz.sizeOf64 rfl (vs := [_, _]) rfl ⟨rfl, rfl, trivial⟩) ?_
    refine LD.val rfl rfl (ov_move rfl) <| LD.val rfl rfl (ov_nilCheck rfl) <| LD.val rfl rfl (ovf 3 rfl rfl rfl rfl) ?_
    refine LD.rd rfl rfl (oml rfl rfl rfl) ?_
    refine dE rfl rfl Tryz.func69 rfl (fun w hm hc hg => tuend_spec x.tr _ w) ?_
    refine LD.val rfl rfl (ov_nilCheck rfl) <| LD.val rfl rfl (ovf 64 rfl rfl rfl rfl) ?_
    refine LD.tail rfl rfl ?_
    refine LM.st Tryz.sizeOf64 rfl rfl rfl au5 rfl auH ?_
    refine LM.nil ?_
    refine QM.qn ?_
    refine QM.sub (e' := [(0, _)]) ⟨rfl, trivial⟩ ?_
    refine QM.meetK (endT x.tr x.sl) ⟨rfl, trivial⟩ au1 ?_
    · exact (if_pos ⟨h3, by simpa using h4⟩).symm
   refine wpM.skip ?_
   refine QM.meetK (x.tr) ⟨rfl, trivial⟩ au1 ?_
   · exact (if_neg (fun q => by have := q.2; simp at h4; exact this h4)).symm
  rintro tr htr
  change QM _ _ _ _ _ (lkC b x.sh x.sl adh nh caph bq ado nd capo tr bl x.di :: (mh ++ (mo ++ (mq ++ (m34 ++ []))))) _ _ _
  refine tR ?_
  have hF : LkM n0 T b { x with ld := ldWei x.ld p wt, tr := tr } (x.wt.map (·.who)) (lkC b x.sh x.sl adh nh caph bq ado nd capo tr bl x.di :: (mh ++ (mo ++ (mq ++ m34)))) := ⟨adh, nh, caph, ado, nd, capo, bq, bl, mh, mo, mq, m34, rfl, hnh, hnd, hsh, hso, hTb, h34, hb⟩; have hinF : inn (lkM0 b x adh nh caph bq ado nd capo bl mh mo mq ml) w.heap.size (lkC b x.sh x.sl adh nh caph bq ado nd capo tr bl x.di :: (mh ++ (mo ++ (mq ++ m34)))) := inn_cons inM_0 (inn_app inS (inn_app inS (inn_app inS (inn_tr hin34 (fun p hp => by simp [hp])))))
  refine LM.mv rfl ?_
  refine cU Tryz.func42 rfl (fun w hm hc hg => lkSet_spec w (hT.keep hc hS0) hn1 hF rfl (hm.pick (lkC b x.sh x.sl adh nh caph bq ado nd capo tr bl x.di :: (mh ++ (mo ++ (mq ++ m34)))))) hF.wlk (inM_inn hinF) ?_
  rintro u65 m65 h65 hin65
  refine LM.nil (QM.sub (e' := []) trivial (QM.then (wpM.seq (wpM.region ?_))))
  refine LM.as rfl <| nA [(6, _)] <| wpM.ret ?_
  refine qL Tryz.results24 rfl fun w' hm' hc' hg' => ?_
  rw [hw1, wei_yes hw1, ← htr]; exact upd_m (m' := m65) ⟨rfl, h65⟩ hm' au1 hc' (inn_trans hinF hin65)
 refine LM.dr 42 rfl rfl rfl <| LM.dr 42 rfl rfl rfl <| LM.dr 42 rfl rfl rfl <| LM.dr 42 rfl rfl rfl <| LM.dr 42 rfl rfl rfl <| LM.dr 42 rfl rfl rfl <| LM.dr 42 rfl rfl rfl <| LM.dr 42 rfl rfl rfl <| LM.val (ov_pickF rfl rfl) <| nA [(0, _), (51, _)] ?_
 refine wpM.joinK (α := Trn) (fun tr => []) [(0, _)] (fun tr => lkC b x.sh x.sl adh nh caph bq ado nd capo tr bl x.di :: (mh ++ (mo ++ (mq ++ (m34 ++ []))))) (fun tr => tr = if x.tr.p = (p : Int) ∧ (gP (ldWei x.ld p wt).l p).w ≠ (gP x.ld.l p).w then endT x.tr x.sl else x.tr) ⟨rfl, trivial⟩ ?_ ?_
 ·
  refine wpM.condF rfl ?_
  refine wpM.skip ?_
  refine QM.meetK (x.tr) ⟨rfl, trivial⟩ au1 ?_
  · exact (if_neg (fun q => h3 q.1)).symm
 rintro tr htr
 change QM _ _ _ _ _ (lkC b x.sh x.sl adh nh caph bq ado nd capo tr bl x.di :: (mh ++ (mo ++ (mq ++ (m34 ++ []))))) _ _ _
 refine tR ?_
 have hF : LkM n0 T b { x with ld := ldWei x.ld p wt, tr := tr } (x.wt.map (·.who)) (lkC b x.sh x.sl adh nh caph bq ado nd capo tr bl x.di :: (mh ++ (mo ++ (mq ++ m34)))) := ⟨adh, nh, caph, ado, nd, capo, bq, bl, mh, mo, mq, m34, rfl, hnh, hnd, hsh, hso, hTb, h34, hb⟩; have hinF : inn (lkM0 b x adh nh caph bq ado nd capo bl mh mo mq ml) w.heap.size (lkC b x.sh x.sl adh nh caph bq ado nd capo tr bl x.di :: (mh ++ (mo ++ (mq ++ m34)))) := inn_cons inM_0 (inn_app inS (inn_app inS (inn_app inS (inn_tr hin34 (fun p hp => by simp [hp])))))
 refine LM.mv rfl ?_
 refine cU Tryz.func42 rfl (fun w hm hc hg => lkSet_spec w (hT.keep hc hS0) hn1 hF rfl (hm.pick (lkC b x.sh x.sl adh nh caph bq ado nd capo tr bl x.di :: (mh ++ (mo ++ (mq ++ m34)))))) hF.wlk (inM_inn hinF) ?_
 rintro u65 m65 h65 hin65
 refine LM.nil (QM.sub (e' := []) trivial (QM.then (wpM.seq (wpM.region ?_))))
 refine LM.as rfl <| nA [(6, _)] <| wpM.ret ?_
 refine qL Tryz.results24 rfl fun w' hm' hc' hg' => ?_
 rw [hw1, wei_yes hw1, ← htr]; exact upd_m (m' := m65) ⟨rfl, h65⟩ hm' au1 hc' (inn_trans hinF hin65)
end Go.Eng
namespace Go.Eng
open Go Go.RowKit
theorem foldS_get : ∀ (l : List Int) (s : BitVec 64) (q : Nat), (l.foldl withS s).getLsbD q = (s.getLsbD q || (decide (q < 64) && l.any (fun k => decide (k = (q : Int)))))
  | [], s, q => by simp
  | k :: l, s, q => by
    rw [List.foldl_cons, foldS_get l, List.any_cons]
    show ((s ||| bitU k).getLsbD q || _) = _
    rw [BitVec.getLsbD_or, bitU_get]
    by_cases e : k = (q : Int)
    · subst e; by_cases c : q < 64 <;> simp [c]
    · have : ¬ (q : Int) = k := fun z => e z.symm
      by_cases c : q < 64 <;> simp [c, e, this]
theorem keyS_get (l : List Int) (q : Nat) : (keyS l).getLsbD q = (decide (q < 64) && l.any (fun k => decide (k = (q : Int)))) := by
  unfold keyS; rw [foldS_get]; simp
theorem keyS_has (l : List Int) (q : Int) (h : 0 ≤ q ∧ q < 64) : sHas (keyS l) q = l.any (fun k => decide (k = q)) := by
  unfold sHas; rw [keyS_get]
  have e : ((q.toNat : Nat) : Int) = q := by omega
  rw [e]
  simp [h.1, h.2]
theorem keyS_zero {l : List Int} (h : ∀ k ∈ l, 0 ≤ k ∧ k < 64) : keyS l = 0#64 ↔ l.length = 0 := by
  constructor
  · intro e
    cases l with
    | nil => rfl
    | cons k l =>
      have hk := h k (List.mem_cons_self ..)
      have := keyS_has (k :: l) k hk
      rw [e, sHas_zero] at this
      simp at this
  · intro e; rw [List.eq_nil_of_length_eq_zero e]; rfl
theorem isO_rng {x : Ldm} {p : Int} (h : isO x p = true) (hl : x.l.length ≤ 8) : 0 ≤ p ∧ p < 64 := by
  obtain ⟨i, rfl, hi⟩ := isO_at h; omega
def grH (p : Int) (d : Bool) : List Int → List Hd
  | [] => []
  | t :: os => ⟨t, p, d⟩ :: os.map (fun t => ⟨t, p, false⟩)
theorem grH_f (p : Int) : ∀ os, grH p false os = os.map (fun t => (⟨t, p, false⟩ : Hd))
  | [] => rfl
  | t :: os => rfl
theorem holds_form (p : Int) : ∀ (os : List Int) (x : Lkm), os.foldl (fun x t => holdX x t p) x = { x with ho := x.ho ++ grH p x.di os, di := x.di && os.isEmpty }
  | [], x => by simp [grH]
  | t :: os, x => by
    rw [List.foldl_cons, holds_form p os]
    show ({ x with ho := (x.ho ++ [⟨t, p, x.di⟩]) ++ grH p false os, di := false && os.isEmpty } : Lkm) = { x with ho := x.ho ++ (⟨t, p, x.di⟩ :: os.map (fun t => ⟨t, p, false⟩)), di := x.di && false }
    rw [grH_f, List.append_assoc, Bool.false_and, Bool.and_false]; rfl
theorem grH_len (p : Int) (d : Bool) : ∀ os, (grH p d os).length = os.length
  | [] => rfl
  | t :: os => by simp [grH]
theorem grH_t (p : Int) (d : Bool) : ∀ os, (grH p d os).map (·.t) = os
  | [] => rfl
  | t :: os => by simp [grH, Function.comp_def]
theorem grH_p {p : Int} {d : Bool} : ∀ {os : List Int} {h : Hd}, h ∈ grH p d os → h.p = p
  | [], h, q => by cases q
  | t :: os, h, q => by
    rcases List.mem_cons.1 q with rfl | q
    · rfl
    · obtain ⟨t', _, rfl⟩ := List.mem_map.1 q; rfl
theorem admX_form (x : Lkm) (p : Int) (n : Nat) : admX x p n = { x with wt := rmA x.wt (admL x p n), ho := x.ho ++ grH p x.di (admL x p n), di := x.di && (admL x p n).isEmpty } := holds_form p _ _
structure LkV (x : Lkm) : Prop where
  wd : Wd1 x.wt
  w8 : x.wt.length ≤ 8
  hd : (x.ho.map (·.t)).Nodup
  dj : ∀ w ∈ x.wt, ∀ h ∈ x.ho, w.who ≠ h.t
  wk : ∀ w ∈ x.wt, isO x.ld w.key = true
  hk : ∀ h ∈ x.ho, isO x.ld h.p = true
  wz : ∀ w ∈ x.wt, w.til = 0#64
  ex : x.sh = false → x.ho.length ≤ 1
  rd : x.sh = true → (∀ h ∈ x.ho, h.p = 0) ∨ x.ho.length ≤ 1
  l2 : x.sh = true → x.ld.l.length = 2
  l8 : x.ld.l.length ≤ 8
structure LkW (x : Lkm) : Prop extends LkV x where
  em : x.ho.length = 0 → x.wt.length = 0
theorem LkV.core {x y : Lkm} (h : LkV x) (e1 : y.sh = x.sh) (e2 : y.ho = x.ho) (e3 : y.wt = x.wt) (e4 : y.ld.l.length = x.ld.l.length) : LkV y := by
  have hi : ∀ p, isO y.ld p = isO x.ld p := fun p => by unfold isO; rw [e4]
  refine ⟨?_, ?_, ?_, ?_, ?_, ?_, ?_, ?_, ?_, ?_, ?_⟩
  · rw [e3]; exact h.wd
  · rw [e3]; exact h.w8
  · rw [e2]; exact h.hd
  · rw [e2, e3]; exact h.dj
  · rw [e3]; exact fun w hw => by rw [hi]; exact h.wk w hw
  · rw [e2]; exact fun w hw => by rw [hi]; exact h.hk w hw
  · rw [e3]; exact h.wz
  · rw [e1, e2]; exact h.ex
  · rw [e1, e2]; exact h.rd
  · rw [e1, e4]; exact h.l2
  · rw [e4]; exact h.l8
theorem LkW.core {x y : Lkm} (h : LkW x) (e1 : y.sh = x.sh) (e2 : y.ho = x.ho) (e3 : y.wt = x.wt) (e4 : y.ld.l.length = x.ld.l.length) : LkW y :=
  ⟨h.toLkV.core e1 e2 e3 e4, by rw [e2, e3]; exact h.em⟩
theorem ldSet_len (x : Ldm) (s : BitVec 64) : (ldSet x s).l.length = x.l.length := stX_len x s
theorem LkW.settle {x : Lkm} (h : LkW x) : LkW (settleX x) := h.core rfl rfl rfl (ldSet_len _ _)
theorem LkV.hws {x : Lkm} (h : LkV x) : waitS x = 0#64 ↔ x.wt.length = 0 := by
  unfold waitS
  rw [keyS_zero (fun k hk => by obtain ⟨w, hw, rfl⟩ := List.mem_map.1 hk; exact isO_rng (h.wk w hw) h.l8), List.length_map]
theorem admL_mem {x : Lkm} {p : Int} {n : Nat} {t : Int} (h : t ∈ admL x p n) : ∃ w ∈ x.wt, w.who = t ∧ w.key = p := by
  unfold admL at h
  obtain ⟨w, hw, rfl⟩ := List.mem_map.1 h
  have := LF_mem.1 (List.mem_of_mem_take hw)
  exact ⟨w, this.1, rfl, this.2⟩
theorem admL_nodup {x : Lkm} (h : Wd1 x.wt) (p : Int) (n : Nat) : (admL x p n).Nodup := by
  unfold admL
  have h1 : ((LF x.wt p).take n).Pairwise (fun a b => a.who ≠ b.who) := List.Pairwise.sublist (List.take_sublist _ _) (wd_lf h p)
  exact List.pairwise_map.2 h1
theorem rmA_wd {L : List Wt} : ∀ {os : List Int}, Wd1 L → Wd1 (rmA L os) := by
  intro os
  unfold rmA
  induction os generalizing L with
  | nil => exact id
  | cons t os ih => intro h; rw [List.foldl_cons]; exact ih (wd_rm h t)
theorem rmA_le {L : List Wt} : ∀ {os : List Int}, (rmA L os).length ≤ L.length := by
  intro os
  unfold rmA
  induction os generalizing L with
  | nil => exact Nat.le_refl _
  | cons t os ih => rw [List.foldl_cons]; exact Nat.le_trans ih (List.length_filter_le _ _)
theorem LkV.adm {x : Lkm} (h : LkV x) (p : Int) (n : Nat) (hc : (x.ho.length = 0 ∧ (n = 1 ∨ (x.sh = true ∧ p = 0))) ∨ (x.sh = true ∧ p = 0 ∧ ∀ h ∈ x.ho, h.p = 0)) : LkV (admX x p n) := by
  rw [admX_form]
  have hm : ∀ t ∈ admL x p n, ∃ w ∈ x.wt, w.who = t ∧ w.key = p := fun t ht => admL_mem ht
  refine ⟨rmA_wd h.wd, Nat.le_trans rmA_le h.w8, ?_, ?_, fun w hw => h.wk w (rmA_mem.1 hw).1, ?_, fun w hw => h.wz w (rmA_mem.1 hw).1, ?_, ?_, h.l2, h.l8⟩
  · show ((x.ho ++ grH p x.di (admL x p n)).map (·.t)).Nodup
    rw [List.map_append, grH_t, List.nodup_append]
    refine ⟨h.hd, admL_nodup h.wd p n, fun a ha b hb e => ?_⟩
    obtain ⟨g, hg, rfl⟩ := List.mem_map.1 ha
    obtain ⟨w, hw, e2, _⟩ := hm b hb
    exact h.dj w hw g hg (e2.trans e.symm)
  · intro w hw g hg
    have hw2 := rmA_mem.1 hw
    rcases List.mem_append.1 hg with hg | hg
    · exact h.dj w hw2.1 g hg
    · intro e
      refine hw2.2 ?_
      have : g.t ∈ (grH p x.di (admL x p n)).map (·.t) := List.mem_map.2 ⟨g, hg, rfl⟩
      rw [grH_t] at this
      rw [e]; exact this
  · intro g hg
    rcases List.mem_append.1 hg with hg | hg
    · exact h.hk g hg
    · have hp := grH_p hg
      have : g.t ∈ (grH p x.di (admL x p n)).map (·.t) := List.mem_map.2 ⟨g, hg, rfl⟩
      rw [grH_t] at this
      obtain ⟨w, hw, _, e⟩ := hm _ this
      show isO x.ld g.p = true
      rw [hp, ← e]; exact h.wk w hw
  · intro hs
    show (x.ho ++ _).length ≤ 1
    rw [List.length_append, grH_len]
    rcases hc with ⟨h0, hn⟩ | ⟨q, _⟩
    · rcases hn with rfl | ⟨q, _⟩
      · have : (admL x p 1).length ≤ 1 := by unfold admL; rw [List.length_map, List.length_take]; omega
        omega
      · rw [hs] at q; cases q
    · rw [hs] at q; cases q
  · intro hs
    show (∀ g ∈ x.ho ++ grH p x.di (admL x p n), g.p = 0) ∨ (x.ho ++ grH p x.di (admL x p n)).length ≤ 1
    rcases hc with ⟨h0, hn⟩ | ⟨_, hp, hh⟩
    · have e0 := List.eq_nil_of_length_eq_zero h0
      rcases hn with rfl | ⟨_, hp⟩
      · right
        have : (admL x p 1).length ≤ 1 := by unfold admL; rw [List.length_map, List.length_take]; omega
        rw [List.length_append, grH_len]; omega
      · left
        intro g hg
        rw [e0, List.nil_append] at hg
        exact (grH_p hg).trans hp
    · left
      intro g hg
      rcases List.mem_append.1 hg with hg | hg
      · exact hh g hg
      · exact (grH_p hg).trans hp
theorem turn_key {x : Lkm} (h : LkV x) (hw : ¬ x.wt.length = 0) : ∃ w ∈ x.wt, w.key = (turnX x).tr.p := by
  have hs : waitS x ≠ 0#64 := fun q => hw (h.hws.1 q)
  have key : sHas (waitS x) (turnX x).tr.p = true := by
    show sHas (waitS x) (nextT x.tr x.sl (waitS x) (leastN x.ld.l (waitS x) x.ld.l.length)).p = true
    unfold nextT
    split
    · rename_i c
      rcases c with c | c
      · exact absurd c hs
      · exact c.1
    · show sHas (waitS x) (leastN x.ld.l (waitS x) x.ld.l.length) = true
      have hle := least_in x.ld.l (waitS x) x.ld.l.length
      have h0 : 0 ≤ leastN x.ld.l (waitS x) x.ld.l.length := by
        apply Classical.byContradiction; intro q
        have hno := least_none (l := x.ld.l) (s := waitS x) (k := x.ld.l.length) om
        cases hx : x.wt with
        | nil => rw [hx] at hw; exact hw rfl
        | cons w l =>
          have hwk := h.wk w (by rw [hx]; exact List.mem_cons_self ..)
          obtain ⟨i, hi, hil⟩ := isO_at hwk
          have := hno i hil
          rw [show waitS x = keyS (x.wt.map (·.key)) from rfl, keyS_get, hx] at this
          have h8 := h.l8
          rw [decide_eq_true om, List.map_cons, List.any_cons, hi] at this
          simp at this
      have hb := least_mem x.ld.l (waitS x) x.ld.l.length h0
      have h8 := h.l8
      unfold sHas; rw [decide_eq_true h0, decide_eq_true om, hb]; rfl
  have hr := sHas_rng key
  rw [show waitS x = keyS (x.wt.map (·.key)) from rfl, keyS_has _ _ hr, List.any_eq_true] at key
  obtain ⟨k, hk, e⟩ := key
  obtain ⟨w, hw, rfl⟩ := List.mem_map.1 hk
  exact ⟨w, hw, of_decide_eq_true e⟩
theorem adm_some {x : Lkm} {p : Int} {n : Nat} (hn : 0 < n) (h : ∃ w ∈ x.wt, w.key = p) : 0 < (admL x p n).length := by
  obtain ⟨w, hw, e⟩ := h
  have : w ∈ LF x.wt p := LF_mem.2 ⟨hw, e⟩
  have h1 := List.length_pos_of_mem this
  unfold admL; rw [List.length_map, List.length_take]; omega
theorem passN_pos (x : Lkm) : 0 < passN x := by unfold passN; split <;> decide
theorem LkV.pass {x : Lkm} (h : LkV x) (h0 : x.ho.length = 0) : LkW (passX x) := by
  unfold passX
  split
  · rename_i hw; exact ⟨h, fun _ => hw⟩
  · rename_i hw
    have hv : LkV (turnX x) := h.core rfl rfl rfl rfl
    have hk := turn_key h hw
    have hpos : 0 < (admL (turnX x) (turnX x).tr.p (passN x)).length := adm_some (passN_pos x) hk
    refine ⟨hv.adm _ _ (.inl ⟨h0, ?_⟩), fun q => ?_⟩
    · unfold passN; split
      · rename_i c; exact .inr c
      · exact .inl rfl
    · rw [admX_form] at q
      have q2 : (x.ho ++ grH (turnX x).tr.p x.di (admL (turnX x) (turnX x).tr.p (passN x))).length = 0 := q
      rw [List.length_append, grH_len] at q2
      omega
theorem comes_zero2 {x : Lkm} {t p : Int} (h : comesE x t p = 0) : isO x.ld p = true ∧ 0 ≤ t ∧ holdsO x t = false ∧ waitsO x t = false := by
  unfold comesE at h
  by_cases c1 : isO x.ld p = false ∨ t < 0
  · rw [if_pos c1] at h; cases h
  · rw [if_neg c1] at h
    by_cases c2 : holdsO x t = true
    · rw [if_pos c2] at h; cases h
    · rw [if_neg c2] at h
      by_cases c3 : waitsO x t = true
      · rw [if_pos c3] at h; cases h
      · exact ⟨by simpa using fun q => c1 (.inl q), by omega, by simpa using c2, by simpa using c3⟩
theorem holds_no {x : Lkm} {t : Int} (h : holdsO x t = false) : ∀ g ∈ x.ho, g.t ≠ t := fun g hg e => by
  unfold holdsO at h; rw [List.any_eq_false] at h; exact h g hg (decide_eq_true e)
theorem waits_no {x : Lkm} {t : Int} (h : waitsO x t = false) : ∀ w ∈ x.wt, w.who ≠ t := fun g hg e => by
  unfold waitsO at h; rw [List.any_eq_false] at h; exact h g hg (decide_eq_true e)
theorem free_cases {x : Lkm} {p : Int} (h : LkV x) (hf : freeO x p = true) : isO x.ld p = true ∧ (x.ho.length = 0 ∨ (p = 0 ∧ x.sh = true ∧ 0 < x.ho.length ∧ ∀ g ∈ x.ho, g.p = 0)) := by
  unfold freeO readO at hf
  simp only [Bool.and_eq_true, Bool.or_eq_true, decide_eq_true_eq] at hf
  refine ⟨hf.1, ?_⟩
  rcases hf.2 with q | ⟨q1, ⟨q2, q3, q4⟩, _⟩
  · exact .inl q
  · refine .inr ⟨q1, q2, q3, fun g hg => ?_⟩
    rcases h.rd q2 with r | r
    · exact r g hg
    · cases hx : x.ho with
      | nil => rw [hx] at hg; cases hg
      | cons a l =>
        rw [hx] at r q4 hg
        have : l = [] := List.eq_nil_of_length_eq_zero (by simp at r; simp [r])
        subst this
        rcases List.mem_singleton.1 hg with rfl
        exact q4
theorem first_core (x : Lkm) (p : Int) : (firstX x p).sh = x.sh ∧ (firstX x p).ho = x.ho ∧ (firstX x p).wt = x.wt ∧ (firstX x p).ld = x.ld ∧ (firstX x p).sl = x.sl ∧ (firstX x p).di = x.di := by
  unfold firstX; split <;> exact ⟨rfl, rfl, rfl, rfl, rfl, rfl⟩
theorem LkW.take {x : Lkm} (h : LkW x) (t p : Int) : LkW (takeX x t p) := by
  unfold takeX
  split
  · exact h
  · rename_i hE
    have hE0 : takeE x t p = 0 := by simpa using hE
    unfold takeE at hE0
    by_cases c : comesE x t p ≠ 0
    · rw [if_pos c] at hE0; exact absurd hE0 c
    · rw [if_neg c] at hE0
      have hc := comes_zero2 (by simpa using c)
      by_cases hf : freeO x p = true
      · obtain ⟨_, hh⟩ := free_cases h.toLkV hf
        have hv := h.toLkV
        obtain ⟨e1, e2, e3, e4, e5, e6⟩ := first_core x p
        refine LkW.settle ⟨?_, fun q => ?_⟩
        · have hno := holds_no hc.2.2.1
          have hwo := waits_no hc.2.2.2
          have key : LkV { x with ho := x.ho ++ [(⟨t, p, x.di⟩ : Hd)] } := by
            refine ⟨hv.wd, hv.w8, ?_, ?_, hv.wk, ?_, hv.wz, ?_, ?_, hv.l2, hv.l8⟩
            · show ((x.ho ++ [(⟨t, p, x.di⟩ : Hd)]).map (·.t)).Nodup
              rw [List.map_append, List.nodup_append]
              refine ⟨hv.hd, by simp, fun a ha b hb e => ?_⟩
              obtain ⟨g, hg, rfl⟩ := List.mem_map.1 ha
              simp only [List.map_cons, List.map_nil, List.mem_singleton] at hb
              exact hno g hg (e.trans hb)
            · intro w hw g hg
              rcases List.mem_append.1 hg with hg | hg
              · exact hv.dj w hw g hg
              · rw [List.mem_singleton.1 hg]; exact hwo w hw
            · intro g hg
              rcases List.mem_append.1 hg with hg | hg
              · exact hv.hk g hg
              · rw [List.mem_singleton.1 hg]; exact hc.1
            · intro hs
              show (x.ho ++ [_]).length ≤ 1
              rw [List.length_append]
              rcases hh with q | ⟨_, q, _⟩
              · simp [q]
              · rw [hs] at q; cases q
            · intro hs
              show (∀ g ∈ x.ho ++ [(⟨t, p, x.di⟩ : Hd)], g.p = 0) ∨ (x.ho ++ [(⟨t, p, x.di⟩ : Hd)]).length ≤ 1
              rcases hh with q | ⟨q1, _, _, q2⟩
              · right; rw [List.length_append, q]; simp
              · left; intro g hg
                rcases List.mem_append.1 hg with hg | hg
                · exact q2 g hg
                · rw [List.mem_singleton.1 hg]; exact q1
          exact key.core (by show (firstX x p).sh = _; rw [e1]) (by show (firstX x p).ho ++ [⟨t, p, (firstX x p).di⟩] = _; rw [e2, e6]) (by show (firstX x p).wt = _; rw [e3]) (by show (firstX x p).ld.l.length = _; rw [e4])
        · exfalso
          have : ((firstX x p).ho ++ [(⟨t, p, (firstX x p).di⟩ : Hd)]).length = 0 := q
          rw [List.length_append] at this; simp at this
      · rw [if_neg hf] at hE0; cases hE0
theorem LkW.wait {x : Lkm} (h : LkW x) (t p : Int) : LkW (waitX x t p) := by
  unfold waitX
  split
  · exact h
  · rename_i hE
    have hE0 : waitE x t p = 0 := by simpa using hE
    unfold waitE at hE0
    by_cases c : comesE x t p ≠ 0
    · rw [if_pos c] at hE0; exact absurd hE0 c
    · rw [if_neg c] at hE0
      have hc := comes_zero2 (by simpa using c)
      by_cases hf : freeO x p = true
      · rw [if_pos hf] at hE0; cases hE0
      · rw [if_neg hf] at hE0
        by_cases h8 : 8 ≤ x.wt.length
        · rw [if_pos h8] at hE0; cases hE0
        · have hv := h.toLkV
          have hno := holds_no hc.2.2.1
          have hwo := waits_no hc.2.2.2
          refine LkW.settle ⟨⟨wd_snoc hv.wd hwo, by show (x.wt ++ [_]).length ≤ 8; rw [List.length_append]; simp; omega, hv.hd, ?_, ?_, hv.hk, ?_, hv.ex, hv.rd, hv.l2, hv.l8⟩, fun q => ?_⟩
          · intro w hw g hg
            rcases List.mem_append.1 hw with hw | hw
            · exact hv.dj w hw g hg
            · rw [List.mem_singleton.1 hw]; exact fun e => hno g hg e.symm
          · intro w hw
            rcases List.mem_append.1 hw with hw | hw
            · exact hv.wk w hw
            · rw [List.mem_singleton.1 hw]; exact hc.1
          · intro w hw
            rcases List.mem_append.1 hw with hw | hw
            · exact hv.wz w hw
            · rw [List.mem_singleton.1 hw]
          · exfalso; apply hf
            unfold freeO
            rw [hc.1, decide_eq_true (show x.ho.length = 0 from q)]; rfl
theorem LkV.out {x : Lkm} (h : LkV x) (t : Int) : LkV (outX x t) := by
  have hsub : ∀ g ∈ (outX x t).ho, g ∈ x.ho := fun g hg => List.mem_of_mem_eraseIdx hg
  have hlen : (outX x t).ho.length ≤ x.ho.length := List.Sublist.length_le (List.eraseIdx_sublist _ _)
  refine ⟨h.wd, h.w8, ?_, fun w hw g hg => h.dj w hw g (hsub g hg), h.wk, fun g hg => h.hk g (hsub g hg), h.wz, fun hs => Nat.le_trans hlen (h.ex hs), fun hs => ?_, h.l2, h.l8⟩
  · exact List.Nodup.sublist (List.Sublist.map _ (List.eraseIdx_sublist _ _)) h.hd
  · rcases h.rd hs with q | q
    · exact .inl (fun g hg => q g (hsub g hg))
    · exact .inr (Nat.le_trans hlen q)
theorem LkW.unl {x : Lkm} (h : LkV x) (t : Int) (he : x.ho.length = 0 → x.wt.length = 0) : LkW (unlX x t) := by
  unfold unlX
  split
  · refine LkW.settle ?_
    split
    · rename_i h0; exact (h.out t).pass h0
    · rename_i h0; exact ⟨h.out t, fun q => absurd q h0⟩
  · exact ⟨h, he⟩
theorem LkV.gone {x : Lkm} (h : LkV x) (t : Int) : LkV (goneX x t) :=
  ⟨wd_rm h.wd t, Nat.le_trans (List.length_filter_le _ _) h.w8, h.hd, fun w hw => h.dj w (rm_mem.1 hw).1, fun w hw => h.wk w (rm_mem.1 hw).1, h.hk, fun w hw => h.wz w (rm_mem.1 hw).1, h.ex, h.rd, h.l2, h.l8⟩
theorem read_all {x : Lkm} (h : LkV x) (hr : readO x = true) : x.sh = true ∧ 0 < x.ho.length ∧ ∀ g ∈ x.ho, g.p = 0 := by
  unfold readO at hr
  simp only [Bool.and_eq_true, decide_eq_true_eq] at hr
  obtain ⟨q2, q3, q4⟩ := hr
  refine ⟨q2, q3, fun g hg => ?_⟩
  rcases h.rd q2 with r | r
  · exact r g hg
  · cases hx : x.ho with
    | nil => rw [hx] at hg; cases hg
    | cons a l =>
      rw [hx] at r q4 hg
      have : l = [] := List.eq_nil_of_length_eq_zero (by simp at r; simp [r])
      subst this
      rcases List.mem_singleton.1 hg with rfl
      exact q4
theorem LkW.lv {x : Lkm} (h : LkW x) (t : Int) : LkW (lvX x t) := by
  unfold lvX
  split
  · rename_i hw
    refine LkW.settle ?_
    have hg := h.toLkV.gone t
    have hne : x.ho.length ≠ 0 := fun q => by
      have := h.em q
      unfold waitsO at hw
      rw [List.eq_nil_of_length_eq_zero this] at hw; cases hw
    split
    · rename_i c
      have hr := read_all h.toLkV c.1
      refine ⟨hg.adm 0 8 (.inr ⟨hr.1, rfl, hr.2.2⟩), fun q => ?_⟩
      rw [admX_form] at q
      have q2 : (x.ho ++ _).length = 0 := q
      rw [List.length_append] at q2; omega
    · exact ⟨hg, fun q => absurd q hne⟩
  · exact h
theorem LkW.die {x : Lkm} (h : LkW x) (t : Int) : LkW (diX x t) := by
  unfold diX
  split
  · exact h.lv t
  · split
    · exact LkW.unl (x := { x with di := true }) (h.toLkV.core rfl rfl rfl rfl) t h.em
    · exact h
theorem LkW.chg {x : Lkm} (h : LkW x) (t : Int) : LkW (chgX x t) := by
  unfold chgX
  split
  · refine LkW.settle (h.core rfl rfl rfl ?_)
    show (x.ld.l.set _ _).length = _; rw [List.length_set]
  · exact h
theorem LkW.wei {x : Lkm} (h : LkW x) (g wt : Int) : LkW (weiX x g wt) := by
  unfold weiX
  split
  · refine LkW.settle (h.core rfl rfl rfl ?_)
    show (x.ld.l.set _ _).length = _; rw [List.length_set]
  · exact h
end Go.Eng
