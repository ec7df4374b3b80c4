/- The walks of a model: the next event; events from the beginning on; who holds, who runs. No condition. -/
import Derived.Test.YtpllacnmiaommaaM2
import Derived.Test.YtpllacnmiaommaaM4
import Derived.Test.YtpllacnmiaommaaM3
set_option linter.unusedVariables false
set_option linter.unusedSimpArgs false
set_option maxRecDepth 100000
namespace Go.Eng
open Go Go.Proofs Go.RowKit
theorem fit_lk {x : Wom} {e : Mev} (h : fitB x e = true) (hk : e.k = 4 ∨ e.k = 5 ∨ e.k = 12 ∨ e.k = 6) : 0 ≤ e.l ∧ e.l < x.sh.length := by
  have hl : lckB e.k = true := by unfold lckB; rcases hk with h | h | h | h <;> rw [h] <;> rfl
  unfold fitB at h
  rw [hl] at h
  simp only [if_true, Bool.and_eq_true, Bool.or_eq_true, decide_eq_true_eq] at h
  rcases h.1.2 with q | q
  · exact q
  · omega
abbrev nowX (x : Wom) (e : Mev) : Wom := { x with now := e.tm }
theorem nxt_no {x : Wom} {e : Mev} (h : fitB x e = false) : nxtB x e = false ∧ nxtM x e = x := ⟨by unfold nxtB; rw [h]; rfl, if_pos h⟩
theorem nxt_spw {x : Wom} {e : Mev} (h : fitB x e = true) (h1 : e.k = 1) : nxtB x e = spwB (nowX x e) e ∧ nxtM x e = spwM (nowX x e) e := by
  refine ⟨by unfold nxtB; rw [h, if_pos h1]; rfl, ?_⟩
  unfold nxtM; rw [if_neg (by rw [h]; simp), if_pos h1]
theorem nxt_out {x : Wom} {e : Mev} (h : fitB x e = true) (h1 : e.k ≠ 1) (h2 : e.t < 0 ∨ (x.ts.length : Int) ≤ e.t) : nxtB x e = false ∧ nxtM x e = x := by
  refine ⟨?_, by unfold nxtM; rw [if_neg (by rw [h]; simp), if_neg h1, if_pos h2]⟩
  unfold nxtB; rw [h, if_neg h1]
  rcases h2 with q | q
  · rw [decide_eq_false om]; rfl
  · rw [decide_eq_false (show ¬ e.t < x.ts.length by omega)]; simp
theorem nxt_of {x : Wom} {e : Mev} (h : fitB x e = true) (h1 : e.k ≠ 1) (h2 : 0 ≤ e.t) (h3 : e.t < (x.ts.length : Int)) : nxtB x e = ofB (nowX x e) e.t.toNat e ∧ nxtM x e = ofM (nowX x e) e.t.toNat e := by
  refine ⟨?_, by unfold nxtM; rw [if_neg (by rw [h]; simp), if_neg h1, if_neg om]⟩
  unfold nxtB; rw [h, if_neg h1, decide_eq_true h2, decide_eq_true h3]; rfl
def wo0 (s : StC) : Wom := ⟨0#64, [], List.replicate s.ls.length 0#64, List.replicate s.ls.length 0#64, s.ls.map (·.sh), s.cr⟩
def chkS (s : StC) (l : List Mev) : Nat := if mayS s = true then chkN (wo0 s) l else 0
def chkB (s : StC) (l : List Mev) : Bool := mayS s && decide (chkS s l = l.length)
def endS (s : StC) (l : List Mev) : Wom := staM (wo0 s) l l.length
def PlyT (s : StV) (l : List Mev) (n0 : Nat) (v : Value) (m : Mem0) : Prop :=
  (mayS s.C = false ∧ v = .tuple #[.pointer none, .int .i64 (chkS s.C l : Nat), .bool (chkB s.C l)] ∧ m = []) ∨
  (mayS s.C = true ∧ ∃ b x, v = .tuple #[.pointer (some ⟨b, 0, none⟩), .int .i64 (chkS s.C l : Nat), .bool (chkB s.C l)] ∧ WoM n0 b s x m ∧ (chkB s.C l = true → x = endS s.C l))
theorem chk_all {w : Wom} {l : List Mev} (h : ∀ j, j < l.length → okM w l j = true) : chkN w l = l.length := chkN_eq h (.inl rfl)
def thoK (p : Tkm → Bool) (ts : List Tkm) (k : Nat) : BitVec 64 := (List.range k).foldl (fun a i => if p (ts.getD i default) = true then withS a (i : Nat) else a) 0#64
theorem thoK_succ (p : Tkm → Bool) (ts : List Tkm) (k : Nat) : thoK p ts (k + 1) = if p (ts.getD k default) = true then withS (thoK p ts k) (k : Nat) else thoK p ts k := by unfold thoK; rw [List.range_succ, List.foldl_append]; rfl
theorem wo0_k {s : StV} (h8 : s.ls.length ≤ 8) (hln : s.ln = s.ls.length) : WoK s (wo0 s.C) :=
  ⟨by show (List.replicate s.ls.length _).length = _; rw [List.length_replicate, hln], by show (List.replicate s.ls.length _).length = _; rw [List.length_replicate, hln], Nat.zero_le _, by omega, rfl, rfl, hln⟩
theorem mNext_spec {n0 b : Nat} {s : StV} {x : Wom} {m : Mem0} (e : Mev) (w : World) (h : WoM n0 b s x m) (hn0 : n0 ≤ w.heap.size) (hl5 : Sr fL 5 s.ls (.slice s.la s.ln s.lc) w) (hks : 0 < s.ls.length → adB s.la < n0) (hM : Mem w m) : Ret Try.prog 18 #[.pointer (some ⟨b, 0, none⟩), .agg (fMe e).toArray] w (Upd m (fun u m' => u = .bool (nxtB x e) ∧ WoM n0 b s (nxtM x e) m') w) := by
 have hWm := h; obtain ⟨adt, nt, capt, adr, adw, mt, mr, mw, rfl, hnt, hst, hsr, hsw, hk, hb⟩ := h; have hk2 : WoK s (nowX x e) := hk.of rfl rfl hk.t rfl rfl; have hW2 : WoA n0 b s (nowX x e) adt nt capt (woM0 b s (nowX x e) adt nt capt adr adw mt mr mw) := ⟨adr, adw, mt, mr, mw, rfl, hnt, hst, hsr, hsw, hk2, hb⟩; have hnn : inn (woM0 b s x adt nt capt adr adw mt mr mw) w.heap.size (woM0 b s (nowX x e) adt nt capt adr adw mt mr mw) := inn_hd2 (inn_refl _ _) rfl
 refine Ret.enterM Try.func18 rfl Try.ntmps18 rfl (woC b s x.now adt nt capt adr adw :: (mt ++ (mr ++ (mw ++ [])))) ((inM (woM0 b s x adt nt capt adr adw mt mr mw))) aM ?_
 refine wR ?_
 refine LM.box rfl rfl (fun b3 hb3 => ?_)
 refine LM.as rfl <| nA [(0, _), (3, _)] <| wpM.seq <| wpM.block <| wR <| LM.mv rfl ?_
 refine LM.rd (om_ldW Try.isAgg40 Try.sizeOf40 rfl rfl) ?_
 refine cE Try.func38 rfl (fun w hm hc hg => mFits_spec e w hWm (hm.pick (woM0 b s x adt nt capt adr adw mt mr mw))) ?_
 refine LM.val (ov_not rfl) ?_
 refine LM.as rfl <| nA [(0, _), (3, _), (5, _)] ?_
 refine wpM.condB rfl (fun h1 => ?_) (fun h1 => ?_)
 ·
  refine wR <| LM.as rfl <| nA [(4, _)] <| wpM.ret <| QM.block_ret <| QM.then_ret ?_
  refine qL Try.results18 rfl fun w' hm' hc' hg' => ?_
  obtain ⟨e1, e2⟩ := nxt_no (x := x) (e := e) (by simpa using h1); rw [e1, e2]; exact wom_leaf hnt hst hsr hsw hk hb hm' au1 hc' inM_0 inS inS inS
 have hfit : fitB x e = true := (by simpa using h1)
 refine wR <| LM.val (ovf 3 rfl rfl rfl rfl) ?_
 refine LM.rd (oml rfl rfl rfl) ?_
 refine LM.val (ov_eql rfl rfl) <| LM.as rfl <| nA [(0, _), (3, _), (10, _)] ?_
 refine wpM.condD rfl (fun h2 => ?_) (fun h2 => ?_)
 ·
  refine wR <| LM.mv rfl <| LM.val (ovf 38 rfl rfl rfl rfl) ?_
  refine LM.rd (oml rfl rfl rfl) ?_
  refine LM.nc rfl <| LM.val (ovf 38 rfl rfl rfl rfl) ?_
  refine LM.st Try.sizeOf38 rfl rfl rfl au5 rfl auH ?_
  refine LM.mem (SubM.mem (M' := meB b3 e :: woC b s e.tm adt nt capt adr adw :: (mt ++ (mr ++ (mw ++ [])))) au1) ?_
  refine nB [(0, _), (3, _)] <| LM.mv rfl ?_
  refine LM.rd (om_ldW Try.isAgg40 Try.sizeOf40 rfl rfl) ?_
  refine cU Try.func39 rfl (fun w hm hc hg => mSpawn_spec e w hW2.m (Nat.le_trans hn0 hc.size) (hm.pick (woM0 b s (nowX x e) adt nt capt adr adw mt mr mw))) hW2.m.wlk (inM_inn hnn) ?_
  rintro u21 m21 ⟨rfl, h21⟩ hin21
  refine LM.as rfl <| nA [(4, _)] <| wpM.ret <| QM.block_ret <| QM.then_ret ?_
  refine qL Try.results18 rfl fun w' hm' hc' hg' => ?_
  obtain ⟨e1, e2⟩ := nxt_spw (x := x) hfit h2; rw [e1, e2]; exact upd_m (m' := m21) ⟨rfl, h21⟩ hm' au1 hc' (inn_trans hnn hin21)
 refine wpM.seq ?_
 refine wpM.draw [(0, 0), (1, 1), (2, 0), (3, 0), (4, 0), (5, 1), (6, 0), (7, 0), (8, 0), (9, 1), (10, 0), (11, 0), (12, 0), (13, 0)] kr kr ?_
 refine LD.val rfl rfl (ovf 3 rfl rfl rfl rfl) ?_
 refine LD.rd rfl rfl (oml rfl rfl rfl) ?_
 refine LD.val rfl rfl (ov_lss rfl rfl) ?_
 refine LD.val rfl rfl (ov_move rfl) ?_
 refine LD.splitD (t := 26) rfl (fun h3 => ?_) (fun h3 => ?_)
 ·
  refine LD.drop rfl rfl ⟨26, _, rfl, rfl, rfl⟩ <| LD.drop rfl rfl ⟨26, _, rfl, rfl, rfl⟩ <| LD.drop rfl rfl ⟨26, _, rfl, rfl, rfl⟩ <| LD.drop rfl rfl ⟨26, _, rfl, rfl, rfl⟩ <| LD.drop rfl rfl ⟨26, _, rfl, rfl, rfl⟩ <| LD.drop rfl rfl ⟨26, _, rfl, rfl, rfl⟩ <| LD.drop rfl rfl ⟨26, _, rfl, rfl, rfl⟩ <| LD.drop rfl rfl ⟨26, _, rfl, rfl, rfl⟩ ?_
  refine LD.val rfl rfl (ov_pickT rfl rfl) ?_
  refine LD.val rfl rfl (ov_assign rfl) <| LD.nil ?_
  refine QM.sub (e' := [(0, _), (3, _), (22, _)]) au9 (QM.then ?_)
  refine wpM.condT rfl ?_
  refine wR <| LM.as rfl <| nA [(4, _)] <| wpM.ret <| QM.block_ret <| QM.then_ret ?_
  refine qL Try.results18 rfl fun w' hm' hc' hg' => ?_
  obtain ⟨e1, e2⟩ := nxt_out (x := x) hfit h2 (.inl h3); rw [e1, e2]; exact wom_leaf hnt hst hsr hsw hk hb hm' au1 hc' inM_0 inS inS inS
 refine LD.val rfl ⟨26, _, rfl, rfl, rfl⟩ (ovf 3 rfl rfl rfl rfl) ?_
 refine LD.rd rfl ⟨26, _, rfl, rfl, rfl⟩ (oml rfl rfl rfl) ?_
 refine LD.val rfl ⟨26, _, rfl, rfl, rfl⟩ (ov_move rfl) <| LD.val rfl ⟨26, _, rfl, rfl, rfl⟩ (ov_nilCheck rfl) <| LD.val rfl ⟨26, _, rfl, rfl, rfl⟩ (ovf 57 rfl rfl rfl rfl) ?_
 refine LD.rd rfl ⟨26, _, rfl, rfl, rfl⟩ (oml rfl rfl rfl) ?_
 refine LD.val rfl ⟨26, _, rfl, rfl, rfl⟩ (ov_len Try.underlying57 rfl) ?_
 refine LD.val rfl ⟨26, _, rfl, rfl, rfl⟩ (ov_geq rfl rfl) ?_
 refine LD.val rfl rfl (ov_pickF rfl rfl) ?_
 refine LD.val rfl rfl (ov_assign rfl) <| LD.nil ?_
 refine QM.sub (e' := [(0, _), (3, _), (22, _)]) au9 (QM.then ?_)
 refine wpM.condD rfl (fun h4 => ?_) (fun h4 => ?_)
 ·
  refine wR <| LM.as rfl <| nA [(4, _)] <| wpM.ret <| QM.block_ret <| QM.then_ret ?_
  refine qL Try.results18 rfl fun w' hm' hc' hg' => ?_
  obtain ⟨e1, e2⟩ := nxt_out (x := x) hfit h2 (.inr om); rw [e1, e2]; exact wom_leaf hnt hst hsr hsw hk hb hm' au1 hc' inM_0 inS inS inS
 refine wpM.skip <| QM.block_normal <| tR <| LM.mv rfl <| LM.val (ovf 38 rfl rfl rfl rfl) ?_
 refine LM.rd (oml rfl rfl rfl) ?_
 refine LM.nc rfl <| LM.val (ovf 38 rfl rfl rfl rfl) ?_
 refine LM.st Try.sizeOf38 rfl rfl rfl au5 rfl auH ?_
 refine LM.mem (SubM.mem (M' := meB b3 e :: woC b s e.tm adt nt capt adr adw :: (mt ++ (mr ++ (mw ++ [])))) au1) ?_
 refine nA [(0, _), (3, _)] <| wpM.seq ?_
 refine wpM.draw [(0, 0), (1, 0), (2, 0), (3, 0), (4, 1), (5, 0), (6, 1), (7, 0), (8, 1), (9, 3), (10, 3)] kr kr ?_
 refine LD.val rfl rfl (ov_move rfl) <| LD.val rfl rfl (ov_move rfl) <| LD.val rfl rfl (ov_nilCheck rfl) <| LD.val rfl rfl (ovf 57 rfl rfl rfl rfl) ?_
 refine LD.rd rfl rfl (oml rfl rfl rfl) ?_
 refine LD.val rfl rfl (ovf 3 rfl rfl rfl rfl) ?_
 refine LD.rd rfl rfl (oml rfl rfl rfl) ?_
 refine LD.val rfl rfl (ov_idxS au6 Try.underlying57 Try.sizeOf63 rfl rfl om) ?_
 refine LD.rd rfl rfl (om_ldW Try.isAgg40 Try.sizeOf40 rfl rfl) ?_
 refine LD.tail rfl rfl ?_
 refine cU Try.func40 rfl (fun w hm hc hg => mOf_spec e w hW2 (show e.t.toNat < (nowX x e).ts.length by show e.t.toNat < x.ts.length; omega) (fun q => by have := fit_lk hfit q; rw [hk.hl] at this; exact this) (hl5.keep0 hc (lk_off hks hWm)) hks (hm.pick (woM0 b s (nowX x e) adt nt capt adr adw mt mr mw))) hW2.m.wlk (inM_inn hnn) ?_
 rintro u50 m50 ⟨rfl, h50⟩ hin50
 refine LM.as rfl ?_
 refine LM.nil ?_
 refine QM.qn ?_
 refine QM.sub (e' := [(4, _)]) ⟨rfl, trivial⟩ (QM.then ?_)
 refine wpM.ret ?_
 refine qL Try.results18 rfl fun w' hm' hc' hg' => ?_
 obtain ⟨e1, e2⟩ := nxt_of (x := x) hfit h2 om om; rw [e1, e2]; exact upd_m (m' := m50) ⟨rfl, h50⟩ hm' au1 hc' (inn_trans hnn hin50)
theorem mPlay_spec {s : StV} {l : List Mev} {ad : Option Addr} {n cap : Nat} (w : World) (hI : s.In w) (hn : n = l.length) (hl : Sr fMe 5 l (.slice ad n cap) w) (hx : l.length ≤ 1000000) : Ret Try.prog 10 #[s.val, .slice ad n cap] w (fun v w' => Ext w w' ∧ ∃ m, PlyT s l w.heap.size v m ∧ Mem w' m ∧ ∀ p ∈ m, w.heap.size ≤ p.1) := by
 have hln := hI.hln; have hlg := hI.hl.open; have hlk : 0 < s.ls.length → adB s.la < w.heap.size := (fun q => by obtain ⟨b, off, cs, E, fz, h1, h2, -⟩ := hlg.2.2 q; rw [h1]; exact (Array.getElem?_eq_some_iff.1 h2).1)
 refine Ret.enterM Try.func10 rfl Try.ntmps10 rfl ([]) (no) (Mem.nil w) ?_
 refine wR ?_
 refine LM.box rfl rfl (fun b2 hb2 => ?_)
 refine LM.as rfl <| LM.as rfl <| LM.as rfl <| nA [(1, _), (2, _)] <| wpM.seq <| wR ?_
 refine LM.rd (om_ldW Try.isAgg26 Try.sizeOf26 rfl rfl) ?_
 refine cE Try.func17 rfl (fun w hm hc hg => mayS_spec (s := s) w (hI.ext hc)) ?_
 refine LM.val (ov_not rfl) ?_
 refine nA [(1, _), (2, _), (12, _)] ?_
 refine wpM.condB rfl (fun h1 => ?_) (fun h1 => ?_)
 ·
  refine wR <| LM.as rfl <| LM.as rfl <| LM.as rfl <| nA [(4, _), (5, _), (6, _)] <| wpM.ret <| QM.then_ret ?_
  refine QM.leave (.inl rfl) [.tmp 4, .tmp 5, .tmp 6] Try.results10 rfl ?_
  intro w' hm' hc' hg'
  have hmay : mayS s.C = false := (by simpa using h1); exact ⟨hc', [], .inl ⟨hmay, by unfold chkB chkS; rw [hmay]; rfl, rfl⟩, Mem.nil _, fun p hp => by cases hp⟩
 have hmay : mayS s.C = true := (by simpa using h1); have h8 : s.ls.length ≤ 8 := (mayS_ps' hmay).1
 refine wpM.skip <| QM.then <| wpM.seq ?_
 refine wpM.joinK (α := Nat × Mem0) (fun ⟨bw, m0⟩ => [(7, .pointer (some ⟨bw, 0, none⟩))]) [(1, _)] (fun ⟨bw, m0⟩ => m0 ++ (stB b2 s :: [])) (fun ⟨bw, m0⟩ => WoM w.heap.size bw s (wo0 s.C) m0) ⟨rfl, trivial⟩ ?_ ?_
 ·
  refine wpM.keep (stB b2 s :: []) (fun _ => True) (.one 0 1 (.one 1 0 (.one 2 1 (.one 3 0 (.one 5 0 (.one 6 1 (.one 7 0 (.fork 4 (.one 8 2 (.one 9 0 (.one 10 2 (.one 11 0 .nil)))) 8 (.one 4 2 (.one 9 0 (.one 10 2 (.one 11 0 .nil)))))))))))) kr kr au1 (fun _ _ => trivial) ?_
  refine KD.rd rfl rfl (om_ldW Try.isAgg26 Try.sizeOf26 rfl rfl) ?_
  refine KD.val rfl rfl (ovf 23 rfl rfl rfl rfl) ?_
  refine KD.rd rfl rfl (oml rfl rfl rfl) ?_
  refine KD.val rfl rfl (ov_len Try.underlying23 rfl) ?_
  refine KD.val rfl rfl (ovf 23 rfl rfl rfl rfl) ?_
  refine KD.rd rfl rfl (oml rfl rfl rfl) ?_
  refine KD.val rfl rfl (ov_len Try.underlying23 rfl) ?_
  refine KD.fork rfl rfl ?_ ?_
  ·
   refine LM.makeS (f := fU) (a0 := 0#64) Try.underlying58 Try.typeInfo38 rfl rfl rfl rfl ir rfl rfl rfl om (by simp only [Try.t38]; omega) om (by unfold maxLen; omega) (fun ad17 n17 m17 hn17 hs17 => ?_)
   refine LM.nil ?_
   refine kq1 ?_
   refine KD.one rfl ?_
   refine LM.makeS (f := fU) (a0 := 0#64) Try.underlying58 Try.typeInfo38 rfl rfl rfl rfl ir rfl rfl rfl om (by simp only [Try.t38]; omega) om (by unfold maxLen; omega) (fun ad21 n21 m21 hn21 hs21 => ?_)
   refine LM.nil ?_
   refine kq1 ?_
   refine KD.val rfl rfl (ov_build (cs := #[.int .i64 s.cr, .int .i64 s.gr, .slice s.ga s.gn s.gc, .slice s.la s.ln s.lc, .slice s.pa s.pn s.pc, U 0#64, .slice none 0 0, .slice ad17 n17 n17, .slice ad21 n21 n21]) rfl kr) ?_
   refine KD.one rfl ?_
   refine LM.box rfl rfl (fun b23 hb23 => ?_)
   refine LM.nil ?_
   refine kq1 ?_
   refine KD.val rfl rfl (ov_assign rfl) <| KD.nil ?_
   refine QM.sub (e' := [(1, _), (7, _)]) au9 ?_
   simp only [Int.toNat_natCast] at hn17 hn21; subst hn17; subst hn21
   refine QM.meetK ((b23, woM0 b23 s (wo0 s.C) none 0 0 ad17 ad21 [] m17 m21)) ⟨au2, rfl, trivial⟩ au1 ?_
   · exact ⟨none, 0, 0, ad17, ad21, [], m17, m21, rfl, rfl, .nil _ _ _ _, by show Sl fU 38 1 _ (List.replicate s.ls.length 0#64) _ _; rw [← hln]; exact hs17, by show Sl fU 38 1 _ (List.replicate s.ls.length 0#64) _ _; rw [← hln]; exact hs21, wo0_k (by show s.ls.length ≤ 8; exact h8) hln, hb23⟩
  refine LM.makeS (f := fU) (a0 := 0#64) Try.underlying58 Try.typeInfo38 rfl rfl rfl rfl ir rfl rfl rfl om (by simp only [Try.t38]; omega) om (by unfold maxLen; omega) (fun ad21 n21 m21 hn21 hs21 => ?_)
  refine LM.nil ?_
  refine kq1 ?_
  refine KD.one rfl ?_
  refine LM.makeS (f := fU) (a0 := 0#64) Try.underlying58 Try.typeInfo38 rfl rfl rfl rfl ir rfl rfl rfl om (by simp only [Try.t38]; omega) om (by unfold maxLen; omega) (fun ad17 n17 m17 hn17 hs17 => ?_)
  refine LM.nil ?_
  refine kq1 ?_
  refine KD.val rfl rfl (ov_build (cs := #[.int .i64 s.cr, .int .i64 s.gr, .slice s.ga s.gn s.gc, .slice s.la s.ln s.lc, .slice s.pa s.pn s.pc, U 0#64, .slice none 0 0, .slice ad17 n17 n17, .slice ad21 n21 n21]) rfl kr) ?_
  refine KD.one rfl ?_
  refine LM.box rfl rfl (fun b23 hb23 => ?_)
  refine LM.nil ?_
  refine kq1 ?_
  refine KD.val rfl rfl (ov_assign rfl) <| KD.nil ?_
  refine QM.sub (e' := [(1, _), (7, _)]) au9 ?_
  simp only [Int.toNat_natCast] at hn17 hn21; subst hn17; subst hn21
  refine QM.meetK ((b23, woM0 b23 s (wo0 s.C) none 0 0 ad17 ad21 [] m17 m21)) ⟨au2, rfl, trivial⟩ au1 ?_
  · exact ⟨none, 0, 0, ad17, ad21, [], m17, m21, rfl, rfl, .nil _ _ _ _, by show Sl fU 38 1 _ (List.replicate s.ls.length 0#64) _ _; rw [← hln]; exact hs17, by show Sl fU 38 1 _ (List.replicate s.ls.length 0#64) _ _; rw [← hln]; exact hs21, wo0_k (by show s.ls.length ≤ 8; exact h8) hln, hb23⟩
 rintro ⟨bw, m0⟩ hW0
 change QM _ _ _ _ _ (m0 ++ (stB b2 s :: [])) _ _ _
 refine QM.then <| wpM.seq <| wR <| LM.mv rfl <| LM.val (ov_len Try.underlying27 rfl) <| LM.mv rfl <| nA [(1, _), (7, _), (24, _), (25, _), (26, _)] <| wpM.block ?_
 refine wpM.loopK0 (α := Nat × Mem0) (fun ⟨i, m⟩ => [(26, .int .i64 (i : Nat))]) [(1, _), (7, _), (24, _), (25, _)] (fun ⟨i, m⟩ => m ++ (stB b2 s :: [])) (fun ⟨i, m⟩ => i ≤ n ∧ WoM w.heap.size bw s (staM (wo0 s.C) l i) m ∧ ∀ j, j < i → okM (wo0 s.C) l j = true) (fun ⟨i, m⟩ => n - i) ((0, m0)) ⟨au2, rfl, rfl, rfl, rfl, trivial⟩ au1 ⟨Nat.zero_le _, hW0, fun j hj => absurd hj (Nat.not_lt_zero _)⟩ ?_
 rintro ⟨i, m⟩ ⟨hi, hW, hok⟩
 change wpM _ _ _ _ _ _ _ (m ++ (stB b2 s :: [])) _ _ _
 refine wR <| LM.val (ov_lss rfl rfl) <| nA [(1, _), (7, _), (24, _), (25, _), (26, _), (27, _)] <| wpM.seq ?_
 refine wpM.condD rfl (fun h2 => ?_) (fun h2 => ?_)
 ·
  refine wpM.skip <| QM.then <| wpM.seq <| wpM.block <| wR <| LM.mv rfl ?_
  refine LM.val (ov_idxSN au6 Try.underlying27 Try.sizeOf40 rfl rfl om) ?_
  refine LM.rdC (om_srEA asm ir Try.isAgg40 Try.sizeOf40 rfl au3 id) ?_
  refine LM.alloc Try.zeroValue40 rfl (fun b9 hb9 => ?_)
  refine LM.as rfl ?_
  refine LM.stW Try.sizeOf40 rfl rfl rfl rfl au7 au8 ?_
  refine nB [(1, _), (7, _), (8, _), (9, _), (24, _), (25, _), (26, _)] <| LM.mv rfl ?_
  refine LM.rd (om_ldW Try.isAgg40 Try.sizeOf40 rfl rfl) ?_
  refine cU Try.func18 rfl (fun w hm hc hg => mNext_spec (l.getD i default) w hW hc.size (hI.hl.ext hc) hlk (hm.pick m)) hW.wlk (fun p hp hlt => absurd hlt (Nat.not_lt_of_le (hW.ge p hp))) ?_
  rintro u33 m33 ⟨rfl, h33⟩ hin33
  refine LM.val (ov_not rfl) ?_
  refine nA [(1, _), (7, _), (8, _), (24, _), (25, _), (26, _), (34, _)] ?_
  refine wpM.condB rfl (fun h3 => ?_) (fun h3 => ?_)
  ·
   refine wR <| LM.mv rfl <| LM.mv rfl <| LM.as rfl <| LM.as rfl <| LM.as rfl <| nA [(4, _), (5, _), (6, _)] <| wpM.ret <| QM.block_ret <| QM.then_ret <| QM.then_ret <| QM.block_ret <| QM.then_ret ?_
   refine QM.leave (.inl rfl) [.tmp 4, .tmp 5, .tmp 6] Try.results10 rfl ?_
   intro w' hm' hc' hg'
   have hck : chkS s.C l = i := (by unfold chkS; rw [if_pos hmay]; exact chkN_eq hok (.inr ⟨by omega, by have h := h3; rw [Bool.not_eq_true'] at h; exact h⟩)); have hcb : chkB s.C l = false := (by unfold chkB; rw [hck, decide_eq_false om, Bool.and_false]); exact ⟨hc', m33, .inr ⟨hmay, bw, _, by rw [hck, hcb]; rfl, h33, fun q => by rw [hcb] at q; cases q⟩, hm'.pick m33, h33.ge⟩
  refine wpM.skip <| QM.block_normal ?_
  refine QM.then (wpM.region ?_)
  refine LM.val (ov_add64 rfl rfl om) ?_
  refine LM.mv rfl <| nC [(1, _), (7, _), (24, _), (25, _), (26, _)] ?_
  refine QM.againK ((i + 1, m33)) ⟨au2, rfl, rfl, rfl, rfl, trivial⟩ au1 (fun _ h => h) ?_ ?_
  · exact ⟨by omega, h33, fun j hj => by rcases Nat.lt_or_ge j i with q | q; exact hok j q; rw [show j = i by omega]; have h := h3; rw [Bool.not_eq_false'] at h; exact h⟩
  · (dsimp only; omega)
 refine wpM.exit <| QM.then_exit <| QM.then_exit <| QM.block_hit <| tR <| LM.mv rfl <| LM.mv rfl <| LM.val (ov_len Try.underlying27 rfl) <| LM.as rfl <| LM.as rfl <| LM.as rfl <| nA [(4, _), (5, _), (6, _)] <| wpM.ret ?_
 refine QM.leave (.inl rfl) [.tmp 4, .tmp 5, .tmp 6] Try.results10 rfl ?_
 intro w' hm' hc' hg'
 have hil : i = l.length := om; have hck : chkS s.C l = l.length := (by unfold chkS; rw [if_pos hmay]; exact chk_all (fun j hj => hok j om)); have hcb : chkB s.C l = true := (by unfold chkB; rw [hck, hmay, decide_eq_true rfl]; rfl); exact ⟨hc', m, .inr ⟨hmay, bw, _, by rw [hck, hcb, hn]; rfl, hW, fun _ => by rw [hil]; rfl⟩, hm'.pick m, hW.ge⟩
end Go.Eng
namespace Go.Eng
open Go Go.RowKit
structure Act where
  k : Int
  a : Int
  b : Int
  c : Int
  d : Int
deriving DecidableEq
instance : Inhabited Act := ⟨⟨0, 0, 0, 0, 0⟩⟩
def fA (o : Act) : List Value := [.int .i64 o.k, .int .i64 o.a, .int .i64 o.b, .int .i64 o.c, .int .i64 o.d]
def acW : List (List UInt8) := [[], [116, 105, 99, 107], [102, 105, 114, 101], [98, 97, 108, 97, 110, 99, 101], [115, 112, 97, 119, 110], [107, 105, 108, 108], [103, 114, 111, 117, 112], [109, 111, 118, 101], [114, 111, 117, 110, 100]]
def acT (k : Int) : List UInt8 := if 0 ≤ k ∧ k < 9 then acW.getD k.toNat [] else []
def manyA (k : Int) : Nat := if k = 1 ∨ k = 5 ∨ k = 8 then 1 else if k = 6 ∨ k = 7 then 2 else if k = 4 then 4 else 0
theorem manyA_le (k : Int) : manyA k ≤ 4 := by unfold manyA; (repeat' split) <;> omega
def manyL : List Int := [0, 1, 0, 0, 4, 1, 2, 2, 1]
theorem manyL_get {k : Int} (h : 0 ≤ k ∧ k < 9) : manyL.getD k.toNat 0 = (manyA k : Int) := by
  have : k = 0 ∨ k = 1 ∨ k = 2 ∨ k = 3 ∨ k = 4 ∨ k = 5 ∨ k = 6 ∨ k = 7 ∨ k = 8 := by omega
  rcases this with rfl | rfl | rfl | rfl | rfl | rfl | rfl | rfl | rfl <;> rfl
def kindAT (t : List UInt8) : Int := mx0 (fixI (fun y => decide (t = y)) acW)
def kindA (ws : List Wrd) (i : Nat) : Int := if (decide (i < ws.length) && decide ((ws.getD i default).k = 1)) then kindAT (ws.getD i default).t else 0
def refA (t : List UInt8) : Nat → Int
  | 0 => 0
  | k + 1 => if t = acW.getD (k + 1) [] then ((k + 1 : Nat) : Int) else refA t k
theorem refA_eq (t : List UInt8) : refA t 8 = kindAT t := by
  by_cases h : t ∈ acW
  · simp only [acW, List.mem_cons, List.not_mem_nil, or_false] at h
    rcases h with rfl | rfl | rfl | rfl | rfl | rfl | rfl | rfl | rfl <;> decide +kernel
  · have h2 : fixI (fun y => decide (t = y)) acW = -1 := fix_miss (by
      rw [List.any_eq_false]; intro y hy; simp only [decide_eq_true_eq]; rintro rfl; exact h hy)
    unfold kindAT; rw [h2]
    simp only [acW, List.mem_cons, List.not_mem_nil, or_false, not_or] at h
    obtain ⟨-, a1, a2, a3, a4, a5, a6, a7, a8⟩ := h
    simp only [refA, acW, List.getD_cons_succ, List.getD_cons_zero, if_neg a1, if_neg a2, if_neg a3, if_neg a4, if_neg a5, if_neg a6, if_neg a7, if_neg a8]
    rfl
theorem kindAT_rng (t : List UInt8) : 0 ≤ kindAT t ∧ kindAT t ≤ 8 := by
  rw [← refA_eq]
  have : ∀ k : Nat, 0 ≤ refA t k ∧ refA t k ≤ (k : Int) := by
    intro k
    induction k with
    | zero => exact ⟨Int.le_refl _, Int.le_refl _⟩
    | succ k ih => unfold refA; split <;> omega
  exact this 8
theorem kindA_rng (ws : List Wrd) (i : Nat) : 0 ≤ kindA ws i ∧ kindA ws i ≤ 8 := by
  unfold kindA; split
  · exact kindAT_rng _
  · omega
def numG (ws : List Wrd) : Nat → Nat → Nat → List Int → Nat × Int × List Int
  | 0, j, _, xs => (j, 0, xs)
  | f + 1, j, i, xs => if (decide (ws.length ≤ j) || decide ((ws.getD j default).k ≠ 2)) then (j, 5, xs) else numG ws f (j + 1) (i + 1) (xs.set i (ws.getD j default).n)
def toA (k : Int) (xs : List Int) : Act := ⟨k, xs.getD 0 0, xs.getD 1 0, xs.getD 2 0, xs.getD 3 0⟩
def zer4 : List Int := [0, 0, 0, 0]
def numK (ws : List Wrd) (i : Nat) : Nat × Int × List Int := numG ws (manyA (kindA ws i)) (i + 1) 0 zer4
theorem numG_le (ws : List Wrd) : ∀ (f j i : Nat) (xs : List Int), j ≤ ws.length → j ≤ (numG ws f j i xs).1 ∧ (numG ws f j i xs).1 ≤ ws.length
  | 0, j, i, xs, h => ⟨Nat.le_refl _, h⟩
  | f + 1, j, i, xs, h => by
    unfold numG; split
    · exact ⟨Nat.le_refl _, h⟩
    · rename_i q
      simp only [Bool.or_eq_true, decide_eq_true_eq, not_or] at q
      have := numG_le ws f (j + 1) (i + 1) (xs.set i (ws.getD j default).n) om
      omega
def oneA (ws : List Wrd) (i : Nat) : Act × Nat × Int :=
  if kindA ws i = 0 then (default, i, 5)
  else if (numK ws i).2.1 ≠ 0 then (default, (numK ws i).1, (numK ws i).2.1)
  else if isR ws (numK ws i).1 3 [59] then (toA (kindA ws i) (numK ws i).2.2, (numK ws i).1 + 1, 0)
  else (default, (numK ws i).1, 5)
theorem kindA_lt {ws : List Wrd} {i : Nat} (h : kindA ws i ≠ 0) : i < ws.length := by
  unfold kindA at h; split at h
  · rename_i q; simp only [Bool.and_eq_true, decide_eq_true_eq] at q; exact q.1
  · exact absurd rfl h
theorem oneA_lt {ws : List Wrd} {i : Nat} (h : (oneA ws i).2.2 = 0) : i < (oneA ws i).2.1 ∧ (oneA ws i).2.1 ≤ ws.length := by
  unfold oneA at h ⊢
  split at h
  · cases h
  rename_i h1
  rw [if_neg h1]
  split at h
  · rename_i h2; exact absurd h h2
  rename_i h2
  rw [if_neg h2]
  split at h
  · rename_i h3
    rw [if_pos h3]
    have h4 := numG_le ws (manyA (kindA ws i)) (i + 1) 0 zer4 (kindA_lt h1)
    have h5 := isR_lt h3
    unfold numK at h5 ⊢
    simp only; omega
  · cases h
def loopAF : Nat → List Wrd → Nat → List Act → List Act × Int × Int
  | 0, _, i, out => (out, (i : Nat), 0)
  | f + 1, ws, i, out =>
    if ws.length ≤ i then (out, (i : Nat), 0)
    else if kindA ws i = 0 then ([], (i : Nat), 5)
    else if out.length = 4000 then ([], (i : Nat), 6)
    else if (oneA ws i).2.2 ≠ 0 then ([], ((oneA ws i).2.1 : Nat), (oneA ws i).2.2)
    else loopAF f ws (oneA ws i).2.1 (out ++ [(oneA ws i).1])
theorem loopAF_fuel (ws : List Wrd) : ∀ (f g i : Nat) (out : List Act), ws.length - i ≤ f → ws.length - i ≤ g → loopAF f ws i out = loopAF g ws i out
  | 0, 0, i, out, _, _ => rfl
  | 0, g + 1, i, out, h1, h2 => by rw [loopAF, loopAF, if_pos om]
  | f + 1, 0, i, out, h1, h2 => by rw [loopAF, loopAF, if_pos om]
  | f + 1, g + 1, i, out, h1, h2 => by
    simp only [loopAF]
    split
    · rfl
    split
    · rfl
    split
    · rfl
    split
    · rfl
    · rename_i h4
      have := oneA_lt (Classical.not_not.1 h4)
      exact loopAF_fuel ws f g _ _ om om
def loopA (ws : List Wrd) (i : Nat) (out : List Act) : List Act × Int × Int := loopAF (ws.length - i) ws i out
theorem loopA_end {ws : List Wrd} {i : Nat} {out : List Act} (h : ws.length ≤ i) : loopA ws i out = (out, (i : Int), 0) := by
  unfold loopA; rw [show ws.length - i = 0 by omega]; rfl
theorem loopA_step {ws : List Wrd} {i : Nat} {out : List Act} (h : i < ws.length) : loopA ws i out =
    if kindA ws i = 0 then ([], (i : Int), 5)
    else if out.length = 4000 then ([], (i : Int), 6)
    else if (oneA ws i).2.2 ≠ 0 then ([], ((oneA ws i).2.1 : Int), (oneA ws i).2.2)
    else loopA ws (oneA ws i).2.1 (out ++ [(oneA ws i).1]) := by
  unfold loopA
  obtain ⟨f, hf⟩ : ∃ f, ws.length - i = f + 1 := ⟨ws.length - i - 1, by omega⟩
  rw [hf, loopAF, if_neg om]
  split
  · rfl
  split
  · rfl
  split
  · rfl
  · rename_i h4
    have := oneA_lt (Classical.not_not.1 h4)
    exact loopAF_fuel ws _ _ _ _ om om
def actsO (ws : List Wrd) (p : Int) : List Act × Int × Int := if p < 0 ∨ (ws.length : Int) < p then ([], 0, 5) else loopA ws p.toNat []
theorem acts_nat {ws : List Wrd} {i : Nat} (hi : i ≤ ws.length) : actsO ws (i : Int) = loopA ws i [] := by
  unfold actsO; rw [if_neg om, Int.toNat_natCast]
/-! what is parsed may be -/
end Go.Eng
namespace Go.Eng
open Go Go.Proofs Go.RowKit
theorem raname_spec (k : Int) (w : World) : Ret Try.prog 27 #[.int .i64 k] w (fun v w' => v = vS (acT k) ∧ Ext w w') := by
 refine Ret.enterM Try.func27 rfl Try.ntmps27 rfl ([]) (no) (Mem.nil w) ?_
 refine wR <| LM.as rfl <| nB [(0, _)] ?_
 refine LM.row (vs := [_, _, _, _, _, _, _, _, _]) Try.underlying109 Try.sizeOf9 Try.zeroValue9 rfl rfl rfl rfl rfl rfl (fun b4 hb4 => ?_)
 refine LM.as rfl <| nA [(0, _), (3, _)] <| wpM.seq <| wR <| LM.mv rfl <| LM.val (ov_lss rfl rfl) <| LM.mv rfl ?_
 refine LM.splitD (t := 7) rfl (fun h1 => ?_) (fun h1 => ?_)
 ·
  refine LM.dr 7 rfl rfl rfl <| LM.dr 7 rfl rfl rfl <| LM.val (ov_pickT rfl rfl) <| nA [(0, _), (3, _), (10, _)] ?_
  refine wpM.condT rfl ?_
  refine wR <| LM.as rfl <| nA [(2, _)] <| wpM.ret <| QM.then_ret ?_
  refine qL Try.results27 rfl fun w' hm' hc' hg' => ?_
  refine ⟨?_, hc'⟩; show vS _ = _; congr 1; first | (rw [acT, if_neg om]; done) | (rw [acT, if_pos om]; rfl)
 refine LM.sp 7 rfl rfl rfl <| LM.mv rfl <| LM.sp 7 rfl rfl rfl <| LM.val (ov_gtr rfl rfl) <| LM.val (ov_pickF rfl rfl) <| nA [(0, _), (3, _), (10, _)] ?_
 refine wpM.condD rfl (fun h2 => ?_) (fun h2 => ?_)
 ·
  refine wR <| LM.as rfl <| nA [(2, _)] <| wpM.ret <| QM.then_ret ?_
  refine qL Try.results27 rfl fun w' hm' hc' hg' => ?_
  refine ⟨?_, hc'⟩; show vS _ = _; congr 1; first | (rw [acT, if_neg om]; done) | (rw [acT, if_pos om]; rfl)
 refine wpM.skip <| tR <| LM.mv rfl <| LM.mv rfl ?_
 change LM _ _ _ _ _ _ _ _ ((b4, Obj.cells (arr fB acW []) 9 (0, 0)) :: _) _ _ _; have hs4 : Sl fB 9 1 w.heap.size acW (.slice (some ⟨b4, 0, none⟩) 9 9) [(b4, .cells (arr fB acW []) 9 (0, 0))] := .inr ⟨b4, 9, [], hb4, rfl, rfl, by decide, by unfold maxLen; decide, rfl⟩; have hl12 : acW.length = 9 := rfl
 refine LM.val (ov_idxS au6 Try.underlying109 Try.sizeOf9 rfl rfl om) ?_
 refine LM.rd (om_sl1 asm ir Try.isAgg9 rfl rfl au3 (by rfl)) ?_
 refine LM.as rfl <| nA [(2, _)] <| wpM.ret ?_
 refine qL Try.results27 rfl fun w' hm' hc' hg' => ?_
 refine ⟨?_, hc'⟩; show vS _ = _; congr 1; first | (rw [acT, if_neg om]; done) | (rw [acT, if_pos om]; rfl)
theorem rmany_spec (k : Int) (w : World) (hk : 0 ≤ k ∧ k < 9) : Ret Try.prog 28 #[.int .i64 k] w (fun v w' => v = .int .i64 (manyA k : Nat) ∧ Ext w w') := by
 refine Ret.enterM Try.func28 rfl Try.ntmps28 rfl ([]) (no) (Mem.nil w) ?_
 refine wR <| LM.as rfl <| nB [(0, _)] ?_
 refine LM.row (vs := [_, _, _, _, _, _, _, _, _]) Try.underlying22 Try.sizeOf3 Try.zeroValue3 rfl rfl rfl rfl rfl rfl (fun b4 hb4 => ?_)
 refine LM.as rfl <| nB [(0, _), (3, _)] <| LM.mv rfl <| LM.mv rfl ?_
 change LM _ _ _ _ _ _ _ _ ((b4, Obj.cells (arr fI manyL []) 3 (0, 0)) :: _) _ _ _; have hs4 : Sl fI 3 1 w.heap.size manyL (.slice (some ⟨b4, 0, none⟩) 9 9) [(b4, .cells (arr fI manyL []) 3 (0, 0))] := .inr ⟨b4, 9, [], hb4, rfl, rfl, by decide, by unfold maxLen; decide, rfl⟩; have hl12 : manyL.length = 9 := rfl
 refine LM.val (ov_idxS au6 Try.underlying22 Try.sizeOf3 rfl rfl om) ?_
 refine LM.rd (om_sl1 asm ir Try.isAgg3 rfl rfl (by exact getq 0 au4) (by rfl)) ?_
 refine LM.as rfl <| nA [(2, _)] <| wpM.ret ?_
 refine qL Try.results28 rfl fun w' hm' hc' hg' => ?_
 refine ⟨?_, hc'⟩; show Value.int .i64 (manyL.getD k.toNat 0) = _; rw [manyL_get hk]
theorem put_spec {k : Int} {xs : List Int} (i : Nat) (n : Int) (w : World) (hi : i < 4) (hx : xs.length = 4) : Ret Try.prog 29 #[.agg (fA (toA k xs)).toArray, .int .i64 (i : Nat), .int .i64 n] w (fun v w' => v = .agg (fA (toA k (xs.set i n))).toArray ∧ Ext w w') := by
 refine Ret.enterM Try.func29 rfl Try.ntmps29 rfl ([]) (no) (Mem.nil w) ?_
 refine wR ?_
 refine LM.box rfl rfl (fun b3 hb3 => ?_)
 refine LM.alloc Try.zeroValue86 rfl (fun b6 hb6 => ?_)
 refine nA [(1, _), (2, _), (3, _), (6, _)] <| wpM.seq <| wR <| LM.mv rfl <| LM.val (ov_eql rfl rfl) <| nA [(1, _), (2, _), (3, _), (6, _), (8, _)] ?_
 refine wpM.condD rfl (fun h1 => ?_) (fun h1 => ?_)
 ·
  refine wpM.region ?_
  refine LM.mv rfl <| LM.val (ovf 3 rfl rfl rfl rfl) ?_
  refine LM.st Try.sizeOf3 rfl rfl rfl au5 rfl au8 ?_
  refine nB [(3, _), (6, _)] ?_
  refine LM.rd (om_ldW Try.isAgg86 Try.sizeOf86 rfl rfl) ?_
  refine LM.stW Try.sizeOf86 rfl rfl rfl rfl au7 au8 ?_
  refine nA [(6, _)] <| wpM.ret ?_
  refine QM.leaveCs (ds := ([])) (.inl rfl) [.cell 6 86] Try.results29 hd_nil (rc_w rfl Try.isAgg86 Try.sizeOf86 rfl rc_nil) ?_
  intro w' hm' hc'
  refine ⟨?_, hc'⟩; have hi4 : i = 0 ∨ i = 1 ∨ i = 2 ∨ i = 3 := om; match xs, hx with | [a0, a1, a2, a3], _ => (rcases hi4 with rfl | rfl | rfl | rfl <;> first | rfl | (exfalso; omega))
 refine wR <| LM.mv rfl <| LM.val (ov_eql rfl rfl) <| nA [(1, _), (2, _), (3, _), (6, _), (12, _)] ?_
 refine wpM.condD rfl (fun h2 => ?_) (fun h2 => ?_)
 ·
  refine wpM.region ?_
  refine LM.mv rfl <| LM.val (ovf 3 rfl rfl rfl rfl) ?_
  refine LM.st Try.sizeOf3 rfl rfl rfl au5 rfl au8 ?_
  refine nB [(3, _), (6, _)] ?_
  refine LM.rd (om_ldW Try.isAgg86 Try.sizeOf86 rfl rfl) ?_
  refine LM.stW Try.sizeOf86 rfl rfl rfl rfl au7 au8 ?_
  refine nA [(6, _)] <| wpM.ret ?_
  refine QM.leaveCs (ds := ([])) (.inl rfl) [.cell 6 86] Try.results29 hd_nil (rc_w rfl Try.isAgg86 Try.sizeOf86 rfl rc_nil) ?_
  intro w' hm' hc'
  refine ⟨?_, hc'⟩; have hi4 : i = 0 ∨ i = 1 ∨ i = 2 ∨ i = 3 := om; match xs, hx with | [a0, a1, a2, a3], _ => (rcases hi4 with rfl | rfl | rfl | rfl <;> first | rfl | (exfalso; omega))
 refine wR <| LM.mv rfl <| LM.val (ov_eql rfl rfl) <| nA [(2, _), (3, _), (6, _), (16, _)] ?_
 refine wpM.condD rfl (fun h3 => ?_) (fun h3 => ?_)
 ·
  refine wpM.region ?_
  refine LM.mv rfl <| LM.val (ovf 3 rfl rfl rfl rfl) ?_
  refine LM.st Try.sizeOf3 rfl rfl rfl au5 rfl au8 ?_
  refine nB [(3, _), (6, _)] ?_
  refine LM.rd (om_ldW Try.isAgg86 Try.sizeOf86 rfl rfl) ?_
  refine LM.stW Try.sizeOf86 rfl rfl rfl rfl au7 au8 ?_
  refine nA [(6, _)] <| wpM.ret ?_
  refine QM.leaveCs (ds := ([])) (.inl rfl) [.cell 6 86] Try.results29 hd_nil (rc_w rfl Try.isAgg86 Try.sizeOf86 rfl rc_nil) ?_
  intro w' hm' hc'
  refine ⟨?_, hc'⟩; have hi4 : i = 0 ∨ i = 1 ∨ i = 2 ∨ i = 3 := om; match xs, hx with | [a0, a1, a2, a3], _ => (rcases hi4 with rfl | rfl | rfl | rfl <;> first | rfl | (exfalso; omega))
 refine wpM.region ?_
 refine LM.mv rfl <| LM.val (ovf 3 rfl rfl rfl rfl) ?_
 refine LM.st Try.sizeOf3 rfl rfl rfl au5 rfl au8 ?_
 refine nB [(3, _), (6, _)] ?_
 refine LM.rd (om_ldW Try.isAgg86 Try.sizeOf86 rfl rfl) ?_
 refine LM.stW Try.sizeOf86 rfl rfl rfl rfl au7 au8 ?_
 refine nA [(6, _)] <| wpM.ret ?_
 refine QM.leaveCs (ds := ([])) (.inl rfl) [.cell 6 86] Try.results29 hd_nil (rc_w rfl Try.isAgg86 Try.sizeOf86 rfl rc_nil) ?_
 intro w' hm' hc'
 refine ⟨?_, hc'⟩; have hi4 : i = 0 ∨ i = 1 ∨ i = 2 ∨ i = 3 := om; match xs, hx with | [a0, a1, a2, a3], _ => (rcases hi4 with rfl | rfl | rfl | rfl <;> first | rfl | (exfalso; omega))
theorem oneA_n {ws : List Wrd} {i j : Nat} {xs : List Int} (h : kindA ws i ≠ 0) (h2 : numK ws i = (j, 5, xs)) : oneA ws i = (default, j, 5) := by unfold oneA; rw [if_neg h, h2, if_pos (show (5 : Int) ≠ 0 by decide)]
theorem oneA_s {ws : List Wrd} {i j : Nat} {xs : List Int} (h : kindA ws i ≠ 0) (h2 : numK ws i = (j, 0, xs)) (h3 : isR ws j 3 [59] = false) : oneA ws i = (default, j, 5) := by unfold oneA; rw [if_neg h, h2, if_neg (fun q => q rfl), if_neg (by rw [h3]; simp)]
theorem oneA_ok {ws : List Wrd} {i j : Nat} {xs : List Int} (h : kindA ws i ≠ 0) (h2 : numK ws i = (j, 0, xs)) (h3 : isR ws j 3 [59] = true) : oneA ws i = (toA (kindA ws i) xs, j + 1, 0) := by unfold oneA; rw [if_neg h, h2, if_neg (fun q => q rfl), if_pos h3]
theorem numG_stop {ws : List Wrd} {f j i : Nat} {xs : List Int} (hf : 0 < f) (h : (decide (ws.length ≤ j) || decide ((ws.getD j default).k ≠ 2)) = true) : numG ws f j i xs = (j, 5, xs) := by
  obtain ⟨g, rfl⟩ : ∃ g, f = g + 1 := ⟨f - 1, by omega⟩
  unfold numG; rw [if_pos h]
theorem numG_next {ws : List Wrd} {f j i : Nat} {xs : List Int} (hf : 0 < f) (h : (decide (ws.length ≤ j) || decide ((ws.getD j default).k ≠ 2)) = false) : numG ws f j i xs = numG ws (f - 1) (j + 1) (i + 1) (xs.set i (ws.getD j default).n) := by
  obtain ⟨g, rfl⟩ : ∃ g, f = g + 1 := ⟨f - 1, by omega⟩
  conv => lhs; unfold numG
  rw [if_neg (by rw [h]; simp), Nat.add_sub_cancel]
def AcT (r : List Act × Int × Int) (n0 : Nat) (v : Value) (m : Mem0) : Prop := ∃ ad n cap, v = .tuple #[.slice ad n cap, .int .i64 r.2.1, .int .i64 r.2.2] ∧ n = r.1.length ∧ Sl fA 86 5 n0 r.1 (.slice ad n cap) m
theorem AcT.mono {r : List Act × Int × Int} : ∀ (k k' : Nat) u m, k' ≤ k → AcT r k u m → AcT r k' u m := fun k k' u m h ⟨ad, n, cap, h1, h2, h3⟩ => ⟨ad, n, cap, h1, h2, h3.mono h⟩
def kaccA (ws : List Wrd) (i : Nat) : Nat → Int
  | 0 => 0
  | m + 1 => if isR ws i 1 (acT ((m + 1 : Nat) : Int)) then ((m + 1 : Nat) : Int) else kaccA ws i m
theorem acT_nat {k : Nat} (h : k < 9) : acT (k : Int) = acW.getD k [] := by unfold acT; rw [if_pos om, Int.toNat_natCast]
theorem kaccA_eq (ws : List Wrd) (i : Nat) : kaccA ws i 8 = kindA ws i := by
  unfold kindA
  cases hc : (decide (i < ws.length) && decide ((ws.getD i default).k = 1)) with
  | false =>
    rw [if_neg (by simp)]
    have : ∀ m, kaccA ws i m = 0 := by
      intro m
      induction m with
      | zero => rfl
      | succ m ih => unfold kaccA isR; rw [hc, Bool.false_and, if_neg (by simp), ih]
    exact this 8
  | true =>
    rw [if_pos rfl, ← refA_eq]
    have : ∀ m, m ≤ 8 → kaccA ws i m = refA (ws.getD i default).t m := by
      intro m
      induction m with
      | zero => intro _; rfl
      | succ m ih =>
        intro hm
        unfold kaccA refA isR; rw [hc, Bool.true_and, ih om, acT_nat om]
        by_cases q : (ws.getD i default).t = acW.getD (m + 1) []
        · rw [if_pos q, if_pos (decide_eq_true q)]
        · rw [if_neg q, if_neg (by rw [decide_eq_false q]; simp)]
    exact this 8 (Nat.le_refl _)
theorem kaccA_t {ws : List Wrd} {i k : Nat} (h1 : 1 ≤ k) (h : isR ws i 1 (acT (k : Int)) = true) : kaccA ws i k = (k : Int) := by
  obtain ⟨m, rfl⟩ : ∃ m, k = m + 1 := ⟨k - 1, by omega⟩
  unfold kaccA; rw [if_pos h]
theorem kaccA_f {ws : List Wrd} {i k : Nat} (h1 : 1 ≤ k) (h : isR ws i 1 (acT (k : Int)) = false) : kaccA ws i k = kaccA ws i (k - 1) := by
  obtain ⟨m, rfl⟩ : ∃ m, k = m + 1 := ⟨k - 1, by omega⟩
  rw [show m + 1 - 1 = m by omega]
  conv => lhs; unfold kaccA
  rw [if_neg (by rw [h]; simp)]
theorem loopA_0 {ws : List Wrd} {i : Nat} {out : List Act} (h : i < ws.length) (h0 : kindA ws i = 0) : loopA ws i out = ([], (i : Int), 5) := by rw [loopA_step h, if_pos h0]
theorem loopA_6 {ws : List Wrd} {i : Nat} {out : List Act} (h : i < ws.length) (h0 : kindA ws i ≠ 0) (h1 : out.length = 4000) : loopA ws i out = ([], (i : Int), 6) := by rw [loopA_step h, if_neg h0, if_pos h1]
theorem loopA_e {ws : List Wrd} {i j : Nat} {out : List Act} (h : i < ws.length) (h0 : kindA ws i ≠ 0) (h1 : out.length ≠ 4000) (he : oneA ws i = (default, j, 5)) : loopA ws i out = ([], (j : Int), 5) := by rw [loopA_step h, if_neg h0, if_neg h1, if_pos (by rw [he]; exact (show (5 : Int) ≠ 0 by decide)), he]
theorem loopA_g {ws : List Wrd} {i j : Nat} {a : Act} {out : List Act} (h : i < ws.length) (h0 : kindA ws i ≠ 0) (h1 : out.length ≠ 4000) (he : oneA ws i = (a, j, 0)) : loopA ws i out = loopA ws j (out ++ [a]) := by rw [loopA_step h, if_neg h0, if_neg h1, if_neg (by rw [he]; exact fun q => q rfl), he]
set_option maxHeartbeats 1000000 in
theorem raparse_spec {ws : List Wrd} {ad : Option Addr} {n cap : Nat} (p : Int) (w : World) (hn : n = ws.length) (hx : ws.length ≤ 1000000000) (hl : Sr fW 4 ws (.slice ad n cap) w) : Ret Try.prog 14 #[.slice ad n cap, .int .i64 p] w (fun v w' => Ext w w' ∧ ∃ m, AcT (actsO ws p) w.heap.size v m ∧ Mem w' m ∧ ∀ p ∈ m, w.heap.size ≤ p.1) := by
 refine Ret.enterM Try.func14 rfl Try.ntmps14 rfl ([]) (no) (Mem.nil w) ?_
 refine wR <| LM.as rfl <| LM.as rfl <| LM.as rfl <| nA [(0, _), (1, _)] <| wpM.seq <| wR <| LM.mv rfl <| LM.val (ov_lss rfl rfl) <| LM.mv rfl ?_
 refine LM.splitD (t := 14) rfl (fun h1 => ?_) (fun h1 => ?_)
 ·
  refine LM.dr 14 rfl rfl rfl <| LM.dr 14 rfl rfl rfl <| LM.dr 14 rfl rfl rfl <| LM.dr 14 rfl rfl rfl <| LM.val (ov_pickT rfl rfl) <| nA [(0, _), (1, _), (19, _)] ?_
  refine wpM.condT rfl ?_
  refine wR <| LM.as rfl <| LM.as rfl <| LM.as rfl <| nA [(4, _), (5, _), (6, _)] <| wpM.ret <| QM.then_ret ?_
  refine QM.leave (.inl rfl) [.tmp 4, .tmp 5, .tmp 6] Try.results14 rfl ?_
  intro w' hm' hc' hg'
  have hpar : actsO ws p = ([], 0, 5) := (by unfold actsO; rw [if_pos om]); rw [hpar]; exact ⟨hc', [], ⟨none, 0, 0, rfl, rfl, .nil _ _ _ _⟩, Mem.nil _, fun p hp => by cases hp⟩
 refine LM.sp 14 rfl rfl rfl <| LM.mv rfl <| LM.sp 14 rfl rfl rfl <| LM.mv rfl <| LM.sp 14 rfl rfl rfl <| LM.val (ov_len Try.underlying49 rfl) <| LM.sp 14 rfl rfl rfl <| LM.val (ov_gtr rfl rfl) <| LM.val (ov_pickF rfl rfl) <| nA [(0, _), (1, _), (19, _)] ?_
 refine wpM.condD rfl (fun h2 => ?_) (fun h2 => ?_)
 ·
  refine wR <| LM.as rfl <| LM.as rfl <| LM.as rfl <| nA [(4, _), (5, _), (6, _)] <| wpM.ret <| QM.then_ret ?_
  refine QM.leave (.inl rfl) [.tmp 4, .tmp 5, .tmp 6] Try.results14 rfl ?_
  intro w' hm' hc' hg'
  have hpar : actsO ws p = ([], 0, 5) := (by unfold actsO; rw [if_pos om]); rw [hpar]; exact ⟨hc', [], ⟨none, 0, 0, rfl, rfl, .nil _ _ _ _⟩, Mem.nil _, fun p hp => by cases hp⟩
 obtain ⟨i0, rfl⟩ : ∃ i0 : Nat, p = (i0 : Nat) := ⟨p.toNat, by omega⟩; have hi0 : i0 ≤ ws.length := om
 refine wpM.skip <| tR <| LM.as rfl <| nA [(0, _), (1, _), (7, _)] <| wpM.seq <| wpM.block ?_
 refine wpM.loopK0 (α := Nat × List Act × Option Addr × Nat × Nat × Mem0) (fun ⟨i, out, ado, no, capo, mo⟩ => [(1, .int .i64 (i : Nat)), (7, .slice ado no capo)]) [(0, _)] (fun ⟨i, out, ado, no, capo, mo⟩ => mo ++ []) (fun ⟨i, out, ado, no, capo, mo⟩ => i ≤ ws.length ∧ loopA ws i out = loopA ws i0 [] ∧ no = out.length ∧ Sl fA 86 5 w.heap.size out (.slice ado no capo) mo ∧ out.length ≤ 4000) (fun ⟨i, out, ado, no, capo, mo⟩ => ws.length - i) ((i0, [], none, 0, 0, [])) ⟨au2, au2, rfl, trivial⟩ au1 ⟨by omega, rfl, rfl, .nil _ _ _ _, by decide⟩ ?_
 rintro ⟨i, out, ado, no, capo, mo⟩ ⟨hi, hL, hno, hso, hol⟩
 change wpM _ _ _ _ _ _ _ (mo ++ []) _ _ _
 refine wpM.seq <| wR <| LM.mv rfl <| LM.mv rfl <| LM.val (ov_len Try.underlying49 rfl) <| LM.val (ov_lss rfl rfl) <| nA [(0, _), (1, _), (7, _), (23, _)] ?_
 refine wpM.condD rfl (fun h3 => ?_) (fun h3 => ?_)
 ·
  have hilt : i < ws.length := om
  refine wpM.skip <| QM.then <| wpM.block <| wR <| LM.as rfl <| nA [(0, _), (1, _), (7, _), (8, _)] <| wpM.seq <| wR <| LM.as rfl <| nA [(0, _), (1, _), (7, _), (8, _), (9, _)] <| wpM.block ?_
  refine wpM.loopK0 (α := Nat × Int) (fun ⟨k, kd⟩ => [(8, .int .i64 kd), (9, .int .i64 (k : Nat))]) [(0, _), (1, _), (7, _)] (fun ⟨k, kd⟩ => mo ++ []) (fun ⟨k, kd⟩ => 1 ≤ k ∧ k ≤ 9 ∧ kd = kaccA ws i (k - 1)) (fun ⟨k, kd⟩ => 9 - k) ((1, 0)) ⟨au2, au2, rfl, rfl, rfl, trivial⟩ au1 ⟨by omega, by omega, rfl⟩ ?_
  rintro ⟨k, kd⟩ ⟨hk1, hk2, hkd⟩
  change wpM _ _ _ _ _ _ _ (mo ++ []) _ _ _
  refine wpM.seq <| wR <| LM.mv rfl <| LM.val (ov_leq rfl rfl) <| nA [(0, _), (1, _), (7, _), (8, _), (9, _), (25, _)] ?_
  refine wpM.condD rfl (fun h4 => ?_) (fun h4 => ?_)
  ·
   refine wpM.skip <| QM.then <| wpM.seq <| wpM.block <| wpM.seq ?_
   refine wpM.joinK (α := Bool) (fun q => [(43, .bool q)]) [(0, _), (1, _), (7, _), (8, _), (9, _)] (fun q => mo ++ []) (fun q => q = isR ws i 1 (acT (k : Int))) ⟨rfl, rfl, rfl, rfl, rfl, trivial⟩ ?_ ?_
   ·
    refine wpM.draw [(0, 0), (1, 0), (2, 0), (3, 0), (4, 1), (5, 0), (6, 0), (7, 0), (8, 0), (9, 0), (10, 0), (11, 1), (12, 0), (13, 2), (14, 0), (15, 0)] kr kr ?_
    refine LD.val rfl rfl (ov_move rfl) <| LD.val rfl rfl (ov_move rfl) ?_
    refine LD.val rfl rfl (ov_idxSN au6 Try.underlying49 Try.sizeOf67 rfl rfl om) ?_
    refine LD.val rfl rfl (ovf 3 rfl rfl rfl rfl) ?_
    refine LD.rdC rfl rfl (om_srE (j := 0) asm Try.isAgg3 rfl rfl au3 (by rfl) (by rfl) id) ?_
    refine LD.val rfl rfl (ov_eql rfl rfl) ?_
    refine LD.val rfl rfl (ov_move rfl) ?_
    refine LD.splitD (t := 34) rfl (fun h5 => ?_) (fun h5 => ?_)
    ·
     refine LD.val rfl ⟨34, _, rfl, rfl, rfl⟩ (ov_move rfl) <| LD.val rfl ⟨34, _, rfl, rfl, rfl⟩ (ov_move rfl) ?_
     refine LD.val rfl ⟨34, _, rfl, rfl, rfl⟩ (ov_idxSN au6 Try.underlying49 Try.sizeOf67 rfl rfl om) ?_
     refine LD.val rfl ⟨34, _, rfl, rfl, rfl⟩ (ovf 9 rfl rfl rfl rfl) ?_
     refine LD.rdC rfl ⟨34, _, rfl, rfl, rfl⟩ (om_srE (j := 1) asm Try.isAgg9 rfl rfl au3 (by rfl) (by rfl) id) ?_
     refine LD.val rfl ⟨34, _, rfl, rfl, rfl⟩ (ov_move rfl) ?_
     refine dE rfl ⟨34, _, rfl, rfl, rfl⟩ Try.func27 rfl (fun w hm hc hg => raname_spec _ w) ?_
     refine LD.val rfl ⟨34, _, rfl, rfl, rfl⟩ (ov_seqlL rfl rfl) ?_
     refine LD.val rfl rfl (ov_pickT rfl rfl) ?_
     refine LD.nil ?_
     refine QM.sub (e' := [(0, _), (1, _), (7, _), (8, _), (9, _), (43, _)]) au9 ?_
     refine QM.meetK (_) ⟨au2, rfl, rfl, rfl, rfl, rfl, trivial⟩ au1 ?_
     · unfold isR; rw [decide_eq_true hilt, decide_eq_true (show (ws.getD i default).k = 1 by omega)]; rfl
    refine LD.drop rfl rfl ⟨34, _, rfl, rfl, rfl⟩ <| LD.drop rfl rfl ⟨34, _, rfl, rfl, rfl⟩ <| LD.drop rfl rfl ⟨34, _, rfl, rfl, rfl⟩ <| LD.drop rfl rfl ⟨34, _, rfl, rfl, rfl⟩ <| LD.drop rfl rfl ⟨34, _, rfl, rfl, rfl⟩ <| LD.drop rfl rfl ⟨34, _, rfl, rfl, rfl⟩ <| LD.drop rfl rfl ⟨34, _, rfl, rfl, rfl⟩ <| LD.drop rfl rfl ⟨34, _, rfl, rfl, rfl⟩ ?_
    refine LD.val rfl rfl (ov_pickF rfl rfl) ?_
    refine LD.nil ?_
    refine QM.sub (e' := [(0, _), (1, _), (7, _), (8, _), (9, _), (43, _)]) au9 ?_
    refine QM.meetK (_) ⟨au2, rfl, rfl, rfl, rfl, rfl, trivial⟩ au1 ?_
    · unfold isR; rw [decide_eq_false (show ¬ (ws.getD i default).k = 1 by omega)]; simp
   rintro q hq
   change QM _ _ _ _ _ (mo ++ []) _ _ _
   refine QM.then ?_
   refine wpM.condB rfl (fun h6 => ?_) (fun h6 => ?_)
   ·
    refine wpM.region ?_
    refine LM.mv rfl <| LM.as rfl <| nC [(0, _), (1, _), (7, _), (8, _), (9, _)] <| QM.block_normal ?_
    refine QM.then (wpM.region ?_)
    refine LM.mv rfl ?_
    refine LM.val (ov_add64 rfl rfl om) ?_
    refine LM.as rfl <| nC [(0, _), (1, _), (7, _), (8, _), (9, _)] ?_
    refine QM.againK ((k + 1, (k : Int))) ⟨au2, au2, rfl, rfl, rfl, trivial⟩ au1 (fun _ h => h) ?_ ?_
    · exact ⟨by omega, by omega, (kaccA_t hk1 (hq.symm.trans h6)).symm⟩
    · (dsimp only; omega)
   refine wpM.skip <| QM.block_normal ?_
   refine QM.then (wpM.region ?_)
   refine LM.mv rfl ?_
   refine LM.val (ov_add64 rfl rfl om) ?_
   refine LM.as rfl <| nC [(0, _), (1, _), (7, _), (8, _), (9, _)] ?_
   refine QM.againK ((k + 1, kd)) ⟨au2, au2, rfl, rfl, rfl, trivial⟩ au1 (fun _ h => h) ?_ ?_
   · exact ⟨by omega, by omega, by rw [hkd]; exact (kaccA_f hk1 (hq.symm.trans h6)).symm⟩
   · (dsimp only; omega)
  obtain rfl : k = 9 := om; obtain rfl : kd = kindA ws i := hkd.trans (kaccA_eq ws i); have hkr := kindA_rng ws i
  refine wpM.exit <| QM.then_exit <| QM.then_exit <| QM.block_hit <| QM.then <| wpM.seq <| wR <| LM.mv rfl <| LM.val (ov_eql rfl rfl) <| nA [(0, _), (1, _), (7, _), (8, _), (46, _)] ?_
  refine wpM.condD rfl (fun h7 => ?_) (fun h7 => ?_)
  ·
   refine wR <| LM.mv rfl <| LM.as rfl <| LM.as rfl <| LM.as rfl <| nA [(4, _), (5, _), (6, _)] <| wpM.ret <| QM.then_ret <| QM.block_ret <| QM.then_ret <| QM.block_ret <| QM.then_ret ?_
   refine QM.leave (.inl rfl) [.tmp 4, .tmp 5, .tmp 6] Try.results14 rfl ?_
   intro w' hm' hc' hg'
   rw [acts_nat hi0, ← hL, loopA_0 hilt om]; exact ⟨hc', [], ⟨none, 0, 0, rfl, rfl, .nil _ _ _ _⟩, Mem.nil _, fun p hp => by cases hp⟩
  refine wpM.skip <| QM.then <| wpM.seq <| wR <| LM.mv rfl <| LM.val (ov_len Try.underlying33 rfl) <| LM.val (ov_eql rfl rfl) <| nA [(0, _), (1, _), (7, _), (8, _), (50, _)] ?_
  refine wpM.condD rfl (fun h8 => ?_) (fun h8 => ?_)
  ·
   refine wR <| LM.mv rfl <| LM.as rfl <| LM.as rfl <| LM.as rfl <| nA [(4, _), (5, _), (6, _)] <| wpM.ret <| QM.then_ret <| QM.block_ret <| QM.then_ret <| QM.block_ret <| QM.then_ret ?_
   refine QM.leave (.inl rfl) [.tmp 4, .tmp 5, .tmp 6] Try.results14 rfl ?_
   intro w' hm' hc' hg'
   rw [acts_nat hi0, ← hL, loopA_6 hilt h7 om]; exact ⟨hc', [], ⟨none, 0, 0, rfl, rfl, .nil _ _ _ _⟩, Mem.nil _, fun p hp => by cases hp⟩
  refine wpM.skip <| tR <| LM.mv rfl ?_
  refine LM.val (ov_add64 rfl rfl om) ?_
  refine LM.as rfl <| nB [(0, _), (1, _), (7, _), (8, _)] <| LM.mv rfl ?_
  refine LM.val (ov_build (cs := #[_, _, _, _, _]) rfl (by first | rfl | kernel_rfl)) ?_
  refine LM.alloc Try.zeroValue86 rfl (fun b10 hb10 => ?_)
  refine LM.stW Try.sizeOf86 rfl rfl rfl rfl au7 au8 ?_
  refine nA [(0, _), (1, _), (7, _), (8, _), (10, _)] <| wpM.seq <| wR <| LM.as rfl <| nA [(0, _), (1, _), (7, _), (8, _), (10, _), (11, _)] <| wpM.block ?_
  refine wpM.loopK0 (α := Nat × Nat × List Int) (fun ⟨k, j, xs⟩ => [(1, .int .i64 (j : Nat)), (11, .int .i64 (k : Nat))]) [(0, _), (7, _), (8, _), (10, _)] (fun ⟨k, j, xs⟩ => (b10, .cells (fA (toA (kindA ws i) xs)).toArray 86 (0, 0)) :: (mo ++ [])) (fun ⟨k, j, xs⟩ => k ≤ manyA (kindA ws i) ∧ j ≤ ws.length ∧ xs.length = 4 ∧ numG ws (manyA (kindA ws i) - k) j k xs = numK ws i) (fun ⟨k, j, xs⟩ => manyA (kindA ws i) - k) ((0, i + 1, zer4)) ⟨au2, au2, rfl, rfl, rfl, rfl, trivial⟩ au1 ⟨Nat.zero_le _, by omega, rfl, rfl⟩ ?_
  rintro ⟨k, j, xs⟩ ⟨hkm, hj, hx4, hN⟩
  change wpM _ _ _ _ _ _ _ ((b10, .cells (fA (toA (kindA ws i) xs)).toArray 86 (0, 0)) :: (mo ++ [])) _ _ _
  have hm4 := manyA_le (kindA ws i)
  refine wpM.seq <| wR <| LM.mv rfl <| LM.mv rfl ?_
  refine cE Try.func28 rfl (fun w hm hc hg => rmany_spec _ w om) ?_
  refine LM.val (ov_lss rfl rfl) <| nA [(0, _), (1, _), (7, _), (8, _), (10, _), (11, _), (59, _)] ?_
  refine wpM.condD rfl (fun h9 => ?_) (fun h9 => ?_)
  ·
   refine wpM.skip <| QM.then <| wpM.seq <| wpM.block <| wpM.seq <| wpM.seq ?_
   refine wpM.joinK (α := Bool) (fun q => [(73, .bool q)]) [(0, _), (1, _), (7, _), (8, _), (10, _), (11, _)] (fun q => (b10, .cells (fA (toA (kindA ws i) xs)).toArray 86 (0, 0)) :: (mo ++ [])) (fun q => q = (decide (ws.length ≤ j) || decide ((ws.getD j default).k ≠ 2))) ⟨rfl, rfl, rfl, rfl, rfl, rfl, trivial⟩ ?_ ?_
   ·
    refine wpM.region ?_
    refine LM.mv rfl <| LM.mv rfl <| LM.val (ov_len Try.underlying49 rfl) <| LM.val (ov_geq rfl rfl) <| LM.mv rfl ?_
    refine LM.splitD (t := 66) rfl (fun h10 => ?_) (fun h10 => ?_)
    ·
     refine LM.dr 66 rfl rfl rfl <| LM.dr 66 rfl rfl rfl <| LM.dr 66 rfl rfl rfl <| LM.dr 66 rfl rfl rfl <| LM.dr 66 rfl rfl rfl <| LM.dr 66 rfl rfl rfl <| LM.val (ov_pickT rfl rfl) <| nC [(0, _), (1, _), (7, _), (8, _), (10, _), (11, _), (73, _)] ?_
     refine QM.meetK (_) ⟨au2, rfl, rfl, rfl, rfl, rfl, rfl, trivial⟩ au1 ?_
     · rw [decide_eq_true (show ws.length ≤ j by omega), Bool.true_or]
    refine LM.sp 66 rfl rfl rfl <| LM.mv rfl <| LM.sp 66 rfl rfl rfl <| LM.mv rfl <| LM.sp 66 rfl rfl rfl ?_
    refine LM.val (ov_idxSN au6 Try.underlying49 Try.sizeOf67 rfl rfl om) ?_
    refine LM.sp 66 rfl rfl rfl <| LM.val (ovf 3 rfl rfl rfl rfl) <| LM.sp 66 rfl rfl rfl ?_
    refine LM.rdC (om_srE (j := 0) asm Try.isAgg3 rfl rfl au3 (by rfl) (by rfl) id) ?_
    refine LM.sp 66 rfl rfl rfl <| LM.val (ov_neq rfl rfl) <| LM.val (ov_pickF rfl rfl) <| nC [(0, _), (1, _), (7, _), (8, _), (10, _), (11, _), (73, _)] ?_
    refine QM.meetK (_) ⟨au2, rfl, rfl, rfl, rfl, rfl, rfl, trivial⟩ au1 ?_
    · rw [decide_eq_false (show ¬ ws.length ≤ j by omega), Bool.false_or]
   rintro q hq
   change QM _ _ _ _ _ ((b10, .cells (fA (toA (kindA ws i) xs)).toArray 86 (0, 0)) :: (mo ++ [])) _ _ _
   refine QM.then ?_
   refine wpM.condB rfl (fun h11 => ?_) (fun h11 => ?_)
   ·
    refine wR <| LM.mv rfl <| LM.as rfl <| LM.as rfl <| LM.as rfl <| nA [(4, _), (5, _), (6, _)] <| wpM.ret <| QM.then_ret <| QM.block_ret <| QM.then_ret <| QM.then_ret <| QM.block_ret <| QM.then_ret <| QM.block_ret <| QM.then_ret <| QM.block_ret <| QM.then_ret ?_
    refine QM.leave (.inl rfl) [.tmp 4, .tmp 5, .tmp 6] Try.results14 rfl ?_
    intro w' hm' hc' hg'
    have hNK : numK ws i = (j, 5, xs) := (by rw [← hN, numG_stop om (hq.symm.trans h11)]); rw [acts_nat hi0, ← hL, loopA_e hilt h7 om (oneA_n h7 hNK)]; exact ⟨hc', [], ⟨none, 0, 0, rfl, rfl, .nil _ _ _ _⟩, Mem.nil _, fun p hp => by cases hp⟩
   have hjn : j < ws.length := (by have h := hq.symm.trans h11; simp only [Bool.or_eq_false_iff, decide_eq_false_iff_not] at h; omega)
   refine wpM.skip <| QM.then <| wpM.seq ?_
   refine wpM.draw [(0, 1), (1, 0), (2, 0), (3, 0), (4, 0), (5, 0), (6, 1), (7, 2), (8, 3)] kr kr ?_
   refine LD.rd rfl rfl (om_ldW Try.isAgg86 Try.sizeOf86 rfl rfl) ?_
   refine LD.val rfl rfl (ov_move rfl) <| LD.val rfl rfl (ov_move rfl) <| LD.val rfl rfl (ov_move rfl) ?_
   refine LD.val rfl rfl (ov_idxSN au6 Try.underlying49 Try.sizeOf67 rfl rfl om) ?_
   refine LD.val rfl rfl (ovf 3 rfl rfl rfl rfl) ?_
   refine LD.rdC rfl rfl (om_srE (j := 2) asm Try.isAgg3 rfl rfl au3 (by rfl) (by rfl) id) ?_
   refine dE rfl rfl Try.func29 rfl (fun w hm hc hg => put_spec k _ w om hx4) ?_
   refine LD.tail rfl rfl ?_
   refine LM.stW Try.sizeOf86 rfl rfl rfl rfl au7 au8 ?_
   refine LM.nil ?_
   refine QM.qn ?_
   refine QM.sub (e' := [(0, _), (1, _), (7, _), (8, _), (10, _), (11, _)]) au9 (QM.then (wpM.region ?_))
   refine LM.mv rfl ?_
   refine LM.val (ov_add64 rfl rfl om) ?_
   refine LM.as rfl <| nC [(0, _), (1, _), (7, _), (8, _), (10, _), (11, _)] <| QM.block_normal ?_
   refine QM.then (wpM.region ?_)
   refine LM.mv rfl ?_
   refine LM.val (ov_add64 rfl rfl om) ?_
   refine LM.as rfl <| nC [(0, _), (1, _), (7, _), (8, _), (10, _), (11, _)] ?_
   refine QM.againK ((k + 1, j + 1, xs.set k (ws.getD j default).n)) ⟨au2, au2, rfl, rfl, rfl, rfl, trivial⟩ au1 (fun _ h => h) ?_ ?_
   · exact ⟨by omega, by omega, by simpa using hx4, by rw [show manyA (kindA ws i) - (k + 1) = manyA (kindA ws i) - k - 1 by omega, ← numG_next om (hq.symm.trans h11)]; exact hN⟩
   · (dsimp only; omega)
  refine wpM.exit <| QM.then_exit <| QM.then_exit <| QM.block_hit <| QM.then <| wpM.seq <| wpM.seq ?_
  refine wpM.joinK (α := Bool) (fun q => [(104, .bool q)]) [(0, _), (1, _), (7, _), (10, _)] (fun q => (b10, .cells (fA (toA (kindA ws i) xs)).toArray 86 (0, 0)) :: (mo ++ [])) (fun q => q = !isR ws j 3 [59]) ⟨rfl, rfl, rfl, rfl, trivial⟩ ?_ ?_
  ·
   refine wpM.region ?_
   refine LM.mv rfl <| LM.mv rfl <| LM.val (ov_len Try.underlying49 rfl) <| LM.val (ov_geq rfl rfl) <| LM.mv rfl ?_
   refine LM.splitD (t := 89) rfl (fun h12 => ?_) (fun h12 => ?_)
   ·
    refine LM.dr 89 rfl rfl rfl <| LM.dr 89 rfl rfl rfl <| LM.dr 89 rfl rfl rfl <| LM.dr 89 rfl rfl rfl <| LM.dr 89 rfl rfl rfl <| LM.dr 89 rfl rfl rfl <| LM.val (ov_pickT rfl rfl) <| LM.mv rfl <| LM.dr 97 rfl rfl rfl <| LM.dr 97 rfl rfl rfl <| LM.dr 97 rfl rfl rfl <| LM.dr 97 rfl rfl rfl <| LM.dr 97 rfl rfl rfl <| LM.dr 97 rfl rfl rfl <| LM.val (ov_pickT rfl rfl) <| nC [(0, _), (1, _), (7, _), (10, _), (104, _)] ?_
    refine QM.meetK (_) ⟨au2, rfl, rfl, rfl, rfl, trivial⟩ au1 ?_
    · unfold isR; rw [decide_eq_false (show ¬ j < ws.length by omega)]; rfl
   refine LM.sp 89 rfl rfl rfl <| LM.mv rfl <| LM.sp 89 rfl rfl rfl <| LM.mv rfl <| LM.sp 89 rfl rfl rfl ?_
   refine LM.val (ov_idxSN au6 Try.underlying49 Try.sizeOf67 rfl rfl om) ?_
   refine LM.sp 89 rfl rfl rfl <| LM.val (ovf 3 rfl rfl rfl rfl) <| LM.sp 89 rfl rfl rfl ?_
   refine LM.rdC (om_srE (j := 0) asm Try.isAgg3 rfl rfl au3 (by rfl) (by rfl) id) ?_
   refine LM.sp 89 rfl rfl rfl <| LM.val (ov_neq rfl rfl) <| LM.val (ov_pickF rfl rfl) <| LM.mv rfl ?_
   refine LM.splitD (t := 97) rfl (fun h13 => ?_) (fun h13 => ?_)
   ·
    refine LM.dr 97 rfl rfl rfl <| LM.dr 97 rfl rfl rfl <| LM.dr 97 rfl rfl rfl <| LM.dr 97 rfl rfl rfl <| LM.dr 97 rfl rfl rfl <| LM.dr 97 rfl rfl rfl <| LM.val (ov_pickT rfl rfl) <| nC [(0, _), (1, _), (7, _), (10, _), (104, _)] ?_
    refine QM.meetK (_) ⟨au2, rfl, rfl, rfl, rfl, trivial⟩ au1 ?_
    · unfold isR; rw [decide_eq_true (show j < ws.length by omega), decide_eq_false (show ¬ (ws.getD j default).k = 3 by omega)]; rfl
   refine LM.sp 97 rfl rfl rfl <| LM.mv rfl <| LM.sp 97 rfl rfl rfl <| LM.mv rfl <| LM.sp 97 rfl rfl rfl ?_
   refine LM.val (ov_idxSN au6 Try.underlying49 Try.sizeOf67 rfl rfl om) ?_
   refine LM.sp 97 rfl rfl rfl <| LM.val (ovf 9 rfl rfl rfl rfl) <| LM.sp 97 rfl rfl rfl ?_
   refine LM.rdC (om_srE (j := 1) asm Try.isAgg9 rfl rfl au3 (by rfl) (by rfl) id) ?_
   refine LM.sp 97 rfl rfl rfl ?_
   refine LM.val (ov_sneqL rfl rfl) ?_
   refine LM.val (ov_pickF rfl rfl) <| nC [(0, _), (1, _), (7, _), (10, _), (104, _)] ?_
   refine QM.meetK (_) ⟨au2, rfl, rfl, rfl, rfl, trivial⟩ au1 ?_
   · unfold isR; rw [decide_eq_true (show j < ws.length by omega), decide_eq_true (show (ws.getD j default).k = 3 by omega)]; simp only [Bool.true_and, decide_not]
  rintro q hq
  change QM _ _ _ _ _ ((b10, .cells (fA (toA (kindA ws i) xs)).toArray 86 (0, 0)) :: (mo ++ [])) _ _ _
  refine QM.then ?_
  refine wpM.condB rfl (fun h14 => ?_) (fun h14 => ?_)
  ·
   refine wR <| LM.mv rfl <| LM.as rfl <| LM.as rfl <| LM.as rfl <| nA [(4, _), (5, _), (6, _)] <| wpM.ret <| QM.then_ret <| QM.block_ret <| QM.then_ret <| QM.block_ret <| QM.then_ret ?_
   refine QM.leave (.inl rfl) [.tmp 4, .tmp 5, .tmp 6] Try.results14 rfl ?_
   intro w' hm' hc' hg'
   have hNK : numK ws i = (j, 0, xs) := (by rw [← hN, show manyA (kindA ws i) - k = 0 by omega]; rfl); rw [acts_nat hi0, ← hL, loopA_e hilt h7 om (oneA_s h7 hNK (by simpa using hq.symm.trans h14))]; exact ⟨hc', [], ⟨none, 0, 0, rfl, rfl, .nil _ _ _ _⟩, Mem.nil _, fun p hp => by cases hp⟩
  refine wpM.skip <| tR <| LM.mv rfl ?_
  refine LM.val (ov_add64 rfl rfl om) ?_
  refine LM.as rfl ?_
  refine LM.nil (QM.sub (e' := [(0, _), (1, _), (7, _), (10, _)]) au9 (QM.then (wpM.region ?_)))
  refine LM.mv rfl ?_
  refine LM.rd (om_ldW Try.isAgg86 Try.sizeOf86 rfl rfl) ?_
  refine LM.single Try.underlying33 Try.sizeOf86 Try.zeroValue86 rfl rfl rfl rfl rfl (fun b110 hb110 => ?_)
  refine LM.app (a := toA (kindA ws i) xs) Try.underlying33 Try.typeInfo86 rfl rfl rfl rfl rfl rfl rfl asm (by rfl) ir (by intro _ u hu; simp [fA] at hu; (repeat (first | (rcases hu with rfl | hu) | subst hu | rfl))) (by first | exact Nat.le_refl _ | omega) au10 (by first | omega | (unfold maxLen; omega)) (by simp only [Try.t86]; omega) (fun ad111 n111 cap111 m111 hn111 hs111 hin111 => ?_)
  refine LM.as rfl <| nC [(0, _), (1, _), (7, _)] <| QM.block_normal ?_
  have hNK : numK ws i = (j, 0, xs) := (by rw [← hN, show manyA (kindA ws i) - k = 0 by omega]; rfl); have hjs : isR ws j 3 [59] = true := (by simpa using hq.symm.trans h14); have hone := oneA_ok h7 hNK hjs; have hlt := oneA_lt (ws := ws) (i := i) (by rw [hone]); rw [hone] at hlt; have hlt : i < j + 1 ∧ j + 1 ≤ ws.length := hlt
  refine QM.againK ((j + 1, out ++ [toA (kindA ws i) xs], ad111, n111, cap111, m111)) ⟨au2, au2, rfl, trivial⟩ au1 (fun _ h => h) ?_ ?_
  · exact ⟨hlt.2, (loopA_g hilt h7 om hone).symm.trans hL, by rw [hn111]; simp, hs111, by simp; omega⟩
  · (dsimp only; omega)
 refine wpM.exit <| QM.then_exit <| QM.then_exit <| QM.block_hit <| tR <| LM.mv rfl <| LM.mv rfl <| LM.as rfl <| LM.as rfl <| LM.as rfl <| nA [(4, _), (5, _), (6, _)] <| wpM.ret ?_
 refine QM.leave (.inl rfl) [.tmp 4, .tmp 5, .tmp 6] Try.results14 rfl ?_
 intro w' hm' hc' hg'
 rw [acts_nat hi0, ← hL, loopA_end om]; exact ⟨hc', mo, ⟨ado, no, capo, rfl, hno, hso⟩, hm'.pick _, fun p hp => Sl.ge hso p hp⟩
end Go.Eng
namespace Go.Eng
open Go Go.RowKit
theorem scanF_len (s : List UInt8) : ∀ (f i : Nat) (last : Int) (out : List Wrd), (scanF f s i last out).1.length ≤ out.length + f
  | 0, i, last, out => Nat.le_refl _
  | f + 1, i, last, out => by
    rw [scanF]
    split
    · show out.length ≤ _; omega
    split
    · have := scanF_len s f (i + 1) last out; omega
    split
    · have := scanF_len s f (i + runL notNl s i) last out; omega
    split
    · exact Nat.zero_le _
    · have := scanF_len s f (oneO s i).2.1 ((oneO s i).2.1 : Nat) (out ++ [(oneO s i).1]); rw [List.length_append, List.length_singleton] at this; omega
theorem scan_len (s : List UInt8) : (scanO s).1.length ≤ s.length := by
  unfold scanO; split
  · exact Nat.zero_le _
  · have := scanF_len s (s.length - 0) 0 (-1) []; unfold scanR; simp only [List.length_nil] at this; omega
end Go.Eng
namespace Go.Eng
open Go Go.Proofs Go.RowKit
def placeO (s : List UInt8) (ws : List Wrd) (p : Int) : Int := if p < ws.length then (ws.getD p.toNat default).p else s.length
def scriptO (s : List UInt8) : StC × List Act × Int × Int :=
  if (scanO s).2.2 ≠ 0 then (default, [], (scanO s).2.1, (scanO s).2.2)
  else if (setO (scanO s).1 0).2.2 ≠ 0 then (default, [], placeO s (scanO s).1 (setO (scanO s).1 0).2.1, (setO (scanO s).1 0).2.2)
  else if (actsO (scanO s).1 (setO (scanO s).1 0).2.1).2.2 ≠ 0 then (default, [], placeO s (scanO s).1 (actsO (scanO s).1 (setO (scanO s).1 0).2.1).2.1, (actsO (scanO s).1 (setO (scanO s).1 0).2.1).2.2)
  else ((setO (scanO s).1 0).1, (actsO (scanO s).1 (setO (scanO s).1 0).2.1).1, 0, 0)
theorem pgF_pl {ws : List Wrd} : ∀ (f i : Nat) (e : Int) (ps : List PgC) (pl : List Int), (∀ x ∈ pl, 0 ≤ x) → ∀ x ∈ (pgF ws f i e ps pl).2.1, 0 ≤ x
  | 0, i, e, ps, pl, h => by unfold pgF; split <;> exact h
  | f + 1, i, e, ps, pl, h => by
    unfold pgF; split
    · refine pgF_pl f _ _ _ _ (fun x hx => ?_)
      rcases List.mem_append.1 hx with hx | hx
      · exact h x hx
      · rw [List.mem_singleton] at hx; omega
    · exact h
theorem set_pos (ws : List Wrd) (p : Int) : 0 ≤ (setO ws p).2.1 := by
  unfold setO stpR
  split
  · exact Int.le_refl _
  split
  · show (0 : Int) ≤ ((sP ws p.toNat).2.2.1 : Int); omega
  split
  · show (0 : Int) ≤ (sP ws p.toNat).2.1.getD _ 0
    rw [List.getD_eq_getElem?_getD]
    cases h : (sP ws p.toNat).2.1[(misI (sL ws p.toNat).1 (sP ws p.toNat).1).toNat]? with
    | none => exact Int.le_refl _
    | some x => exact pgF_pl _ _ _ _ _ (fun x hx => by cases hx) x (List.mem_of_getElem? h)
  · show (0 : Int) ≤ ((sP ws p.toNat).2.2.1 : Int); omega
theorem acts_pos (ws : List Wrd) (p : Int) : 0 ≤ (actsO ws p).2.1 := by
  have key : ∀ (f i : Nat) (out : List Act), 0 ≤ (loopAF f ws i out).2.1 := by
    intro f
    induction f with
    | zero => intro i out; show (0 : Int) ≤ (i : Int); omega
    | succ f ih =>
      intro i out
      unfold loopAF
      split
      · show (0 : Int) ≤ (i : Int); omega
      split
      · show (0 : Int) ≤ (i : Int); omega
      split
      · show (0 : Int) ≤ (i : Int); omega
      split
      · show (0 : Int) ≤ ((oneA ws i).2.1 : Int); omega
      · exact ih _ _
  unfold actsO; split
  · exact Int.le_refl _
  · exact key _ _ _
structure ScV where
  sv : StV
  xs : List Act
  ad : Option Addr
  n : Nat
  cap : Nat
abbrev ScV.val (x : ScV) : Value := .agg #[.int .i64 x.sv.cr, .int .i64 x.sv.gr, .slice x.sv.ga x.sv.gn x.sv.gc, .slice x.sv.la x.sv.ln x.sv.lc, .slice x.sv.pa x.sv.pn x.sv.pc, .slice x.ad x.n x.cap]
structure ScV.In (x : ScV) (w : World) : Prop where
  st : x.sv.In w
  hn : x.n = x.xs.length
  hx : Sr fA 5 x.xs (.slice x.ad x.n x.cap) w
theorem ScV.In.ext {x : ScV} {w w' : World} (h : x.In w) (k : Ext w w') : x.In w' := ⟨h.st.ext k, h.hn, h.hx.ext k⟩
def SpT (r : StC × List Act × Int × Int) (n0 : Nat) (v : Value) (m : Mem0) : Prop := ∃ x : ScV, v = .tuple #[x.val, .int .i64 r.2.2.1, .int .i64 r.2.2.2] ∧ x.sv.C = r.1 ∧ x.xs = r.2.1 ∧ ∀ w, Mem w m → x.In w
theorem SpT.mono {r : StC × List Act × Int × Int} : ∀ (k k' : Nat) u m, k' ≤ k → SpT r k u m → SpT r k' u m := fun k k' u m h q => q
theorem SpT.nil0 {p e : Int} {n0 : Nat} : SpT (default, [], p, e) n0 (.tuple #[.agg #[.int .i64 0, .int .i64 0, .slice none 0 0, .slice none 0 0, .slice none 0 0, .slice none 0 0], .int .i64 p, .int .i64 e]) [] :=
  ⟨⟨default, [], Option.none, 0, 0⟩, rfl, rfl, rfl, fun w _ => ⟨⟨rfl, .nil _ _ _, rfl, .nil _ _ _, rfl, .nil _ _ _, fun p hp => by cases hp⟩, rfl, .nil _ _ _⟩⟩
theorem rplaceN_spec {ws : List Wrd} {ad : Option Addr} {n cap : Nat} (s : List UInt8) (j : Nat) (w : World) (hn : n = ws.length) (hl : Sr fW 4 ws (.slice ad n cap) w) : Ret Try.prog 13 #[vS s, .slice ad n cap, .int .i64 (j : Nat)] w (fun v w' => v = .int .i64 (placeO s ws (j : Nat)) ∧ Ext w w') := by
 refine Ret.enterM Try.func13 rfl Try.ntmps13 rfl ([]) (no) (Mem.nil w) ?_
 refine wR <| LM.as rfl <| nA [(0, _), (1, _), (2, _)] <| wpM.seq <| wR <| LM.mv rfl <| LM.mv rfl <| LM.val (ov_len Try.underlying49 rfl) <| LM.val (ov_lss rfl rfl) <| nA [(0, _), (1, _), (2, _), (10, _)] ?_
 refine wpM.condD rfl (fun h1 => ?_) (fun h1 => ?_)
 ·
  refine wR <| LM.mv rfl <| LM.mv rfl ?_
  refine LM.val (ov_idxSN au6 Try.underlying49 Try.sizeOf67 rfl rfl om) ?_
  refine LM.val (ovf 3 rfl rfl rfl rfl) ?_
  refine LM.rdC (om_srE (j := 3) asm Try.isAgg3 rfl rfl au3 (by rfl) (by rfl) id) ?_
  refine LM.as rfl <| nA [(6, _)] <| wpM.ret <| QM.then_ret ?_
  refine qL Try.results13 rfl fun w' hm' hc' hg' => ?_
  refine ⟨?_, hc'⟩; unfold placeO; rw [if_pos om, Int.toNat_natCast]; rfl
 refine wpM.skip <| tR <| LM.mv rfl ?_
 refine LM.val (ov_slenL Try.underlying9 rfl) ?_
 refine LM.as rfl <| nA [(6, _)] <| wpM.ret ?_
 refine qL Try.results13 rfl fun w' hm' hc' hg' => ?_
 refine ⟨?_, hc'⟩; unfold placeO; rw [if_neg om]; rfl
theorem rplace_spec {ws : List Wrd} {ad : Option Addr} {n cap : Nat} (s : List UInt8) (p : Int) (w : World) (hn : n = ws.length) (hl : Sr fW 4 ws (.slice ad n cap) w) (hp0 : 0 ≤ p) :
    Ret Try.prog 13 #[vS s, .slice ad n cap, .int .i64 p] w (fun v w' => v = .int .i64 (placeO s ws p) ∧ Ext w w') := by
  obtain ⟨j, rfl⟩ : ∃ j : Nat, p = (j : Int) := ⟨p.toNat, by omega⟩
  exact rplaceN_spec s j w hn hl
theorem rscript_spec (s : List UInt8) (w : World) (hs : s.length ≤ 1000000000) : Ret Try.prog 7 #[vS s] w (fun v w' => Ext w w' ∧ ∃ m, SpT (scriptO s) w.heap.size v m ∧ Mem w' m ∧ ∀ p ∈ m, w.heap.size ≤ p.1) := by
 refine Ret.enterM Try.func7 rfl Try.ntmps7 rfl ([]) (no) (Mem.nil w) ?_
 refine wR ?_
 refine LM.alloc Try.zeroValue35 rfl (fun b2 hb2 => ?_)
 refine LM.as rfl <| LM.as rfl <| nB [(0, _), (2, _)] <| LM.mv rfl ?_
 refine LM.callT (oc_call (enters_fn Try.func11 kr rfl) rfl) ScT.mono (fun w hm hc hg => scan_spec w om) ?_
 rintro u13 m13 ⟨ad13, n13, cap13, rfl, hn13, hs13⟩ -; have hl13 := scan_len s
 refine LM.mv rfl <| LM.val (ov_extract rfl rfl) <| LM.val (ov_extract rfl rfl) <| LM.val (ov_extract rfl rfl) <| LM.as rfl <| LM.as rfl <| LM.as rfl <| nA [(0, _), (2, _), (5, _), (6, _), (7, _)] <| wpM.seq <| wR <| LM.mv rfl <| LM.val (ov_neq rfl rfl) <| nA [(0, _), (2, _), (5, _), (6, _), (7, _), (18, _)] ?_
 refine wpM.condD rfl (fun h1 => ?_) (fun h1 => ?_)
 ·
  refine wR ?_
  refine LM.val (ov_build (cs := #[_, _, _, _, _, _]) rfl (by first | rfl | kernel_rfl)) ?_
  refine LM.mv rfl <| LM.mv rfl ?_
  refine LM.stW Try.sizeOf35 rfl rfl rfl rfl au7 au8 ?_
  refine LM.as rfl <| LM.as rfl <| nA [(2, _), (3, _), (4, _)] <| wpM.ret <| QM.then_ret ?_
  refine QM.leaveCs (ds := ([])) (.inl rfl) [.cell 2 35, .tmp 3, .tmp 4] Try.results7 hd_nil (rc_w rfl Try.isAgg35 Try.sizeOf35 rfl (rc_tmp rfl (rc_tmp rfl rc_nil))) ?_
  intro w' hm' hc'
  unfold scriptO; rw [if_pos h1]; exact ⟨hc', [], SpT.nil0, Mem.nil _, fun p hp => by cases hp⟩
 refine wpM.skip <| tR <| LM.mv rfl ?_
 refine LM.callT (oc_call (enters_fn Try.func12 kr rfl) rfl) StT.mono (fun w hm hc hg => rsetup_spec 0 w hn13 om (hs13.srM ir hm)) ?_
 rintro u24 m24 ⟨sv, rfl, hsv, hin⟩ hge24
 refine LM.mv rfl <| LM.val (ov_extract rfl rfl) <| LM.val (ov_extract rfl rfl) <| LM.val (ov_extract rfl rfl) ?_
 refine LM.alloc Try.zeroValue26 rfl (fun b8 hb8 => ?_)
 refine LM.stW Try.sizeOf26 rfl rfl rfl rfl au7 au8 ?_
 refine LM.as rfl <| LM.as rfl <| nA [(0, _), (2, _), (5, _), (7, _), (8, _), (9, _)] <| wpM.seq <| wR <| LM.mv rfl <| LM.val (ov_neq rfl rfl) <| nA [(0, _), (2, _), (5, _), (7, _), (8, _), (9, _), (29, _)] ?_
 refine wpM.condD rfl (fun h2 => ?_) (fun h2 => ?_)
 ·
  refine wR ?_
  refine LM.val (ov_build (cs := #[_, _, _, _, _, _]) rfl (by first | rfl | kernel_rfl)) ?_
  refine LM.mv rfl <| LM.mv rfl <| LM.mv rfl ?_
  refine cE Try.func13 rfl (fun w hm hc hg => rplace_spec s _ w hn13 (hs13.srM ir hm) (set_pos _ _)) ?_
  refine LM.mv rfl ?_
  refine LM.stW Try.sizeOf35 rfl rfl rfl rfl au7 au8 ?_
  refine LM.as rfl <| LM.as rfl <| nA [(2, _), (3, _), (4, _)] <| wpM.ret <| QM.then_ret ?_
  refine QM.leaveCs (ds := ([])) (.inl rfl) [.cell 2 35, .tmp 3, .tmp 4] Try.results7 hd_nil (rc_w rfl Try.isAgg35 Try.sizeOf35 rfl (rc_tmp rfl (rc_tmp rfl rc_nil))) ?_
  intro w' hm' hc'
  unfold scriptO; rw [if_neg h1, if_pos h2]; exact ⟨hc', [], SpT.nil0, Mem.nil _, fun p hp => by cases hp⟩
 refine wpM.skip <| tR <| LM.mv rfl <| LM.mv rfl ?_
 refine LM.callT (oc_call (enters_fn Try.func14 kr rfl) rfl) AcT.mono (fun w hm hc hg => raparse_spec _ w hn13 om (hs13.srM ir hm)) ?_
 rintro u39 m39 ⟨ad39, n39, cap39, rfl, hn39, hs39⟩ hge39
 refine LM.mv rfl <| LM.val (ov_extract rfl rfl) <| LM.val (ov_extract rfl rfl) <| LM.val (ov_extract rfl rfl) <| LM.as rfl <| LM.as rfl <| LM.as rfl <| nA [(0, _), (2, _), (5, _), (7, _), (8, _), (9, _), (10, _)] <| wpM.seq <| wR <| LM.mv rfl <| LM.val (ov_neq rfl rfl) <| nA [(0, _), (2, _), (5, _), (7, _), (8, _), (9, _), (10, _), (44, _)] ?_
 refine wpM.condD rfl (fun h3 => ?_) (fun h3 => ?_)
 ·
  refine wR ?_
  refine LM.val (ov_build (cs := #[_, _, _, _, _, _]) rfl (by first | rfl | kernel_rfl)) ?_
  refine LM.mv rfl <| LM.mv rfl <| LM.mv rfl ?_
  refine cE Try.func13 rfl (fun w hm hc hg => rplace_spec s _ w hn13 (hs13.srM ir hm) (acts_pos _ _)) ?_
  refine LM.mv rfl ?_
  refine LM.stW Try.sizeOf35 rfl rfl rfl rfl au7 au8 ?_
  refine LM.as rfl <| LM.as rfl <| nA [(2, _), (3, _), (4, _)] <| wpM.ret <| QM.then_ret ?_
  refine QM.leaveCs (ds := ([])) (.inl rfl) [.cell 2 35, .tmp 3, .tmp 4] Try.results7 hd_nil (rc_w rfl Try.isAgg35 Try.sizeOf35 rfl (rc_tmp rfl (rc_tmp rfl rc_nil))) ?_
  intro w' hm' hc'
  unfold scriptO; rw [if_neg h1, if_neg h2, if_pos h3]; exact ⟨hc', [], SpT.nil0, Mem.nil _, fun p hp => by cases hp⟩
 refine wpM.skip <| tR ?_
 refine LM.rd (om_ldW Try.isAgg26 Try.sizeOf26 rfl rfl) ?_
 refine LM.mv rfl ?_
 refine LM.val (ov_build (cs := #[_, _, _, _, _, _]) rfl (by first | rfl | kernel_rfl)) ?_
 refine LM.stW Try.sizeOf35 rfl rfl rfl rfl au7 au8 ?_
 refine LM.as rfl <| LM.as rfl <| nA [(2, _), (3, _), (4, _)] <| wpM.ret ?_
 refine QM.leaveCs (ds := ([])) (.inl rfl) [.cell 2 35, .tmp 3, .tmp 4] Try.results7 hd_nil (rc_w rfl Try.isAgg35 Try.sizeOf35 rfl (rc_tmp rfl (rc_tmp rfl rc_nil))) ?_
 intro w' hm' hc'
 unfold scriptO; rw [if_neg h1, if_neg h2, if_neg h3]; refine ⟨hc', m39 ++ (m24 ++ []), ⟨⟨sv, _, ad39, n39, cap39⟩, rfl, hsv, rfl, fun w hm => ⟨hin w (hm.pick m24), hn39, hs39.srM ir hm⟩⟩, SubM.mem (by (repeat' (first | exact SubM.nil _ | refine SubM.app ?_))) w' hm', ?_⟩; intro p hp; simp only [List.mem_append, List.not_mem_nil, or_false] at hp; rcases hp with hp | hp; exact hge39 p hp; exact hge24 p hp
def aw27L : List UInt8 := [99, 111, 114, 101, 115, 32, 49, 59, 32, 103, 114, 97, 105, 110, 32, 49, 59, 32, 103, 114, 111, 117, 112, 32, 49, 59, 32, 108, 111, 99, 107, 32, 115, 108, 105, 99, 101, 32, 49, 32, 99, 114, 105, 116, 32, 50, 59, 32, 112, 114, 111, 103, 32, 123, 32, 101, 120, 105, 116, 59, 32, 125]
def aw27S : StC := ⟨1, 1, [1], [⟨false, 1, 2, 0, 0⟩], [⟨false, [⟨11, 0, 0⟩]⟩]⟩
def aw27E : List Mev := [⟨0#64, 1, 0, -1, 0⟩, ⟨1#64, 2, 0, -1, 0⟩, ⟨1#64, 4, 0, 0, 0⟩, ⟨2#64, 2, 0, -1, 0⟩]
def hldS (s : StC) (l : List Mev) (lock : Int) : BitVec 64 := if chkB s l = true ∧ 0 ≤ lock ∧ lock < s.ls.length then gRd (endS s l) lock.toNat ||| gWr (endS s l) lock.toNat else 0#64
def runS (s : StC) (l : List Mev) : BitVec 64 := if chkB s l = true then thoK (fun t => decide (t.how = 2)) (endS s l).ts (endS s l).ts.length else 0#64
theorem aw27_1 : scriptO aw27L = (aw27S, [], 0, 0) := by decide +kernel
theorem aw27_c : chkS aw27S aw27E = 3 ∧ chkB aw27S aw27E = false := by decide +kernel
theorem aw27_h : hldS aw27S (aw27E.take 3) 0 = 1#64 := by decide +kernel
theorem aw27_r : runS aw27S (aw27E.take 3) = 1#64 := by decide +kernel
theorem PlyT.get {s : StV} {l : List Mev} {n0 : Nat} {v : Value} {m : Mem0} (h : PlyT s l n0 v m) : ∃ pv, v = .tuple #[pv, .int .i64 (chkS s.C l : Nat), .bool (chkB s.C l)] ∧ (chkB s.C l = true → ∃ b, pv = .pointer (some ⟨b, 0, none⟩) ∧ WoM n0 b s (endS s.C l) m) := by
  rcases h with ⟨h1, h2, h3⟩ | ⟨h1, b, x, h2, h3, h4⟩
  · exact ⟨_, h2, fun q => by unfold chkB at q; rw [h1] at q; cases q⟩
  · exact ⟨_, h2, fun q => ⟨b, rfl, by rw [← h4 q]; exact h3⟩⟩
theorem PlyT.mono {s : StV} {l : List Mev} : ∀ (k k' : Nat) u m, k' ≤ k → PlyT s l k u m → PlyT s l k' u m := fun k k' u m h q => by
  rcases q with q | ⟨h1, b, x, h2, h3, h4⟩
  · exact .inl q
  · refine .inr ⟨h1, b, x, h2, ?_, h4⟩
    obtain ⟨adt, nt, capt, adr, adw, mt, mr, mw, e, g1, g2, g3, g4, g5, g6⟩ := h3
    exact ⟨adt, nt, capt, adr, adw, mt, mr, mw, e, g1, g2.mono h, g3.mono h, g4.mono h, g5, Nat.le_trans h g6⟩
theorem chkS_le (s : StC) (l : List Mev) : chkS s l ≤ l.length := by unfold chkS; split; exact chkN_le _ _; exact Nat.zero_le _
theorem chkB_eq {s : StC} {l : List Mev} (h : chkB s l = true) : chkS s l = l.length := by
  unfold chkB at h; rw [Bool.and_eq_true, decide_eq_true_eq] at h; exact h.2
theorem chk_head {s : StC} {l : List Mev} {m : Nat} (hm : m ≤ chkS s l) (h : m ≠ 0 ∨ chkB s l = true) : chkS s (l.take m) = m ∧ chkB s (l.take m) = true := by
  have hmay : mayS s = true := by
    cases q : mayS s
    · rcases h with h | h
      · unfold chkS at hm; rw [q] at hm; simp at hm; exact absurd hm h
      · unfold chkB at h; rw [q] at h; cases h
    · rfl
  have hl := chkS_le s l
  have h1 : chkS s (l.take m) = m := by
    unfold chkS at hm ⊢; rw [if_pos hmay] at hm ⊢; exact chk_heads hm
  exact ⟨h1, by unfold chkB; rw [h1, hmay, List.length_take, decide_eq_true (show m = min m l.length by omega)]; rfl⟩
theorem chk_take0 (s : StC) (l : List Mev) : chkS s (l.take 0) = 0 := by have := chkS_le s (l.take 0); rw [List.take_zero] at this ⊢; simpa using this
theorem mCheck_spec {s : StV} {l : List Mev} {ad : Option Addr} {n cap : Nat} (w : World) (hI : s.In w) (hn : n = l.length) (hl : Sr fMe 5 l (.slice ad n cap) w) (hx : l.length ≤ 1000000) : Ret Try.prog 6 #[s.val, .slice ad n cap] w (fun v w' => v = .tuple #[.int .i64 (chkS s.C l : Nat), .bool (chkB s.C l)] ∧ Ext w w') := by
 refine Ret.enterM Try.func6 rfl Try.ntmps6 rfl ([]) (no) (Mem.nil w) ?_
 refine wR ?_
 refine LM.box rfl rfl (fun b2 hb2 => ?_)
 refine LM.as rfl <| LM.as rfl <| nB [(1, _), (2, _)] ?_
 refine LM.rd (om_ldW Try.isAgg26 Try.sizeOf26 rfl rfl) ?_
 refine LM.mv rfl ?_
 refine LM.callT (oc_call (enters_fn Try.func10 kr rfl) rfl) PlyT.mono (fun w hm hc hg => mPlay_spec w (hI.ext hc) hn (hl.ext hc) hx) ?_
 intro uP mP hP hgeP; obtain ⟨pv, rfl, hP2⟩ := hP.get
 refine LM.mv rfl <| LM.val (ov_extract rfl rfl) <| LM.val (ov_extract rfl rfl) <| LM.val (ov_extract rfl rfl) <| LM.as rfl <| LM.as rfl <| LM.as rfl <| nB [(7, _), (8, _)] <| LM.mv rfl <| LM.mv rfl <| LM.as rfl <| LM.as rfl <| nA [(4, _), (5, _)] <| wpM.ret ?_
 refine QM.leave (.inl rfl) [.tmp 4, .tmp 5] Try.results6 rfl ?_
 intro w' hm' hc' hg'
 exact ⟨rfl, hc'⟩
theorem mRun1_spec (t : Tkm) (w : World) : Ret Try.prog 16 #[.agg (fTk t).toArray] w (fun u w' => u = .bool (decide (t.how = 2)) ∧ Ext w w') := by
 refine Ret.enterM Try.func16 rfl Try.ntmps16 rfl ([]) (no) (Mem.nil w) ?_
 refine wR ?_
 refine LM.box rfl rfl (fun b1 hb1 => ?_)
 refine LM.as rfl <| nB [(1, _)] <| LM.val (ovf 3 rfl rfl rfl rfl) ?_
 refine LM.rd (oml rfl rfl rfl) ?_
 refine LM.val (ov_eql rfl rfl) <| LM.as rfl <| nA [(2, _)] <| wpM.ret ?_
 refine qL Try.results16 rfl fun w' hm' hc' hg' => ?_
 exact ⟨rfl, hc'⟩
theorem mThoseR_spec {n0 b : Nat} {s : StV} {x : Wom} {m : Mem0} (w : World) (h : WoM n0 b s x m) (hM : Mem w m) : Ret Try.prog 15 #[.pointer (some ⟨b, 0, none⟩), .func (.func 16) #[] #[]] w (fun u w' => u = U (thoK (fun t => decide (t.how = 2)) x.ts x.ts.length) ∧ Ext w w') := by
 obtain ⟨adt, nt, capt, adr, adw, mt, mr, mw, rfl, hnt, hst, hsr, hsw, hk, hb⟩ := h; have hkt := hk.t
 refine Ret.enterM Try.func15 rfl Try.ntmps15 rfl (woC b s x.now adt nt capt adr adw :: (mt ++ (mr ++ (mw ++ [])))) (no) aM ?_
 refine wR <| LM.as rfl <| nB [(0, _), (1, _)] <| LM.as rfl <| nA [(0, _), (1, _), (5, _)] <| wpM.seq <| wR <| LM.mv rfl <| LM.nc rfl <| LM.val (ovf 57 rfl rfl rfl rfl) ?_
 refine LM.rd (oml rfl rfl rfl) ?_
 refine LM.val (ov_len Try.underlying57 rfl) <| LM.mv rfl <| nA [(1, _), (5, _), (11, _), (12, _), (13, _)] <| wpM.block ?_
 refine wpM.loopK0 (α := Nat × BitVec 64) (fun ⟨i, a⟩ => [(5, U a), (13, .int .i64 (i : Nat))]) [(1, _), (11, _), (12, _)] (fun ⟨i, a⟩ => woC b s x.now adt nt capt adr adw :: (mt ++ (mr ++ (mw ++ [])))) (fun ⟨i, a⟩ => i ≤ nt ∧ a = thoK (fun t => decide (t.how = 2)) x.ts i) (fun ⟨i, a⟩ => nt - i) ((0, 0#64)) ⟨au2, au2, rfl, rfl, rfl, trivial⟩ au1 ⟨Nat.zero_le _, rfl⟩ ?_
 rintro ⟨i, a⟩ ⟨hi, ha⟩
 change wpM _ _ _ _ _ _ _ (woC b s x.now adt nt capt adr adw :: (mt ++ (mr ++ (mw ++ [])))) _ _ _
 refine wR <| LM.val (ov_lss rfl rfl) <| nA [(1, _), (5, _), (11, _), (12, _), (13, _), (14, _)] <| wpM.seq ?_
 refine wpM.condD rfl (fun h1 => ?_) (fun h1 => ?_)
 ·
  refine wpM.skip <| QM.then <| wpM.seq <| wpM.block <| wR <| LM.mv rfl ?_
  refine LM.val (ov_idxSN au6 Try.underlying57 Try.sizeOf63 rfl rfl om) ?_
  refine LM.rd (om_slA asm ir Try.isAgg63 Try.sizeOf63 rfl au3) ?_
  refine LM.alloc Try.zeroValue63 rfl (fun b7 hb7 => ?_)
  refine LM.as rfl ?_
  refine LM.stW Try.sizeOf63 rfl rfl rfl rfl au7 au8 ?_
  refine nB [(1, _), (5, _), (6, _), (7, _), (11, _), (12, _), (13, _)] <| LM.mv rfl ?_
  refine LM.rd (om_ldW Try.isAgg63 Try.sizeOf63 rfl rfl) ?_
  refine LM.callE (oc_callV rfl (enters_fn Try.func16 kr rfl) rfl) (fun w hm hc hg => mRun1_spec _ w) ?_
  refine nA [(1, _), (5, _), (6, _), (11, _), (12, _), (13, _), (20, _)] ?_
  refine wpM.condD rfl (fun h2 => ?_) (fun h2 => ?_)
  ·
   refine wpM.region ?_
   refine LM.mv rfl <| LM.mv rfl ?_
   refine cE Try.func30 rfl (fun w hm hc hg => with_spec _ _ w) ?_
   refine LM.as rfl <| nC [(1, _), (5, _), (11, _), (12, _), (13, _)] <| QM.block_normal ?_
   refine QM.then (wpM.region ?_)
   refine LM.val (ov_add64 rfl rfl om) ?_
   refine LM.mv rfl <| nC [(1, _), (5, _), (11, _), (12, _), (13, _)] ?_
   refine QM.againK ((i + 1, withS a (i : Nat))) ⟨au2, au2, rfl, rfl, rfl, trivial⟩ au1 (fun _ h => h) ?_ ?_
   · exact ⟨by omega, by rw [thoK_succ, ← ha, if_pos (decide_eq_true h2)]⟩
   · (dsimp only; omega)
  refine wpM.skip <| QM.block_normal ?_
  refine QM.then (wpM.region ?_)
  refine LM.val (ov_add64 rfl rfl om) ?_
  refine LM.mv rfl <| nC [(1, _), (5, _), (11, _), (12, _), (13, _)] ?_
  refine QM.againK ((i + 1, a)) ⟨au2, au2, rfl, rfl, rfl, trivial⟩ au1 (fun _ h => h) ?_ ?_
  · exact ⟨by omega, by rw [thoK_succ, ← ha, if_neg (fun q => h2 (of_decide_eq_true q))]⟩
  · (dsimp only; omega)
 refine wpM.exit <| QM.then_exit <| QM.then_exit <| QM.block_hit <| tR <| LM.mv rfl <| LM.as rfl <| nA [(4, _)] <| wpM.ret ?_
 refine qL Try.results15 rfl fun w' hm' hc' hg' => ?_
 refine ⟨?_, hc'⟩; rw [ha, show i = x.ts.length by omega]; rfl
theorem mRunning_spec {s : StV} {l : List Mev} {ad : Option Addr} {n cap : Nat} (w : World) (hI : s.In w) (hn : n = l.length) (hl : Sr fMe 5 l (.slice ad n cap) w) (hx : l.length ≤ 1000000) : Ret Try.prog 9 #[s.val, .slice ad n cap] w (fun v w' => v = U (runS s.C l) ∧ Ext w w') := by
 refine Ret.enterM Try.func9 rfl Try.ntmps9 rfl ([]) (no) (Mem.nil w) ?_
 refine wR ?_
 refine LM.box rfl rfl (fun b2 hb2 => ?_)
 refine LM.as rfl <| nB [(1, _), (2, _)] ?_
 refine LM.rd (om_ldW Try.isAgg26 Try.sizeOf26 rfl rfl) ?_
 refine LM.mv rfl ?_
 refine LM.callT (oc_call (enters_fn Try.func10 kr rfl) rfl) PlyT.mono (fun w hm hc hg => mPlay_spec w (hI.ext hc) hn (hl.ext hc) hx) ?_
 intro uP mP hP hgeP; obtain ⟨pv, rfl, hP2⟩ := hP.get
 refine LM.mv rfl <| LM.val (ov_extract rfl rfl) <| LM.val (ov_extract rfl rfl) <| LM.val (ov_extract rfl rfl) <| LM.as rfl <| LM.as rfl <| LM.as rfl <| nA [(5, _), (7, _)] <| wpM.seq <| wR <| LM.mv rfl ?_
 refine LM.val (ov_not rfl) ?_
 refine nA [(5, _), (16, _)] ?_
 refine wpM.condB rfl (fun h1 => ?_) (fun h1 => ?_)
 ·
  refine wR <| LM.as rfl <| nA [(4, _)] <| wpM.ret <| QM.then_ret ?_
  refine qL Try.results9 rfl fun w' hm' hc' hg' => ?_
  refine ⟨?_, hc'⟩; unfold runS; rw [if_neg (by have : chkB s.C l = false := (by simpa using h1); rw [this]; simp)]; rfl
 have hcb : chkB s.C l = true := (by simpa using h1); obtain ⟨bw, rfl, hW⟩ := hP2 hcb
 refine wpM.skip <| tR <| LM.mv rfl ?_
 refine cE Try.func15 rfl (fun w hm hc hg => mThoseR_spec w hW (hm.pick mP)) ?_
 refine LM.as rfl <| nA [(4, _)] <| wpM.ret ?_
 refine qL Try.results9 rfl fun w' hm' hc' hg' => ?_
 refine ⟨?_, hc'⟩; unfold runS; rw [if_pos hcb]; rfl
theorem mHolders_spec {s : StV} {l : List Mev} {ad : Option Addr} {n cap : Nat} (lock : Int) (w : World) (hI : s.In w) (hn : n = l.length) (hl : Sr fMe 5 l (.slice ad n cap) w) (hx : l.length ≤ 1000000) : Ret Try.prog 8 #[s.val, .slice ad n cap, .int .i64 lock] w (fun v w' => v = U (hldS s.C l lock) ∧ Ext w w') := by
 have hln := hI.hln
 refine Ret.enterM Try.func8 rfl Try.ntmps8 rfl ([]) (no) (Mem.nil w) ?_
 refine wR ?_
 refine LM.box rfl rfl (fun b3 hb3 => ?_)
 refine LM.as rfl <| nB [(1, _), (2, _), (3, _)] ?_
 refine LM.rd (om_ldW Try.isAgg26 Try.sizeOf26 rfl rfl) ?_
 refine LM.mv rfl ?_
 refine LM.callT (oc_call (enters_fn Try.func10 kr rfl) rfl) PlyT.mono (fun w hm hc hg => mPlay_spec w (hI.ext hc) hn (hl.ext hc) hx) ?_
 intro uP mP hP hgeP; obtain ⟨pv, rfl, hP2⟩ := hP.get
 refine LM.mv rfl <| LM.val (ov_extract rfl rfl) <| LM.val (ov_extract rfl rfl) <| LM.val (ov_extract rfl rfl) <| LM.as rfl <| LM.as rfl <| LM.as rfl <| nA [(2, _), (3, _), (7, _), (9, _)] <| wpM.seq <| wR <| LM.mv rfl ?_
 refine LM.val (ov_not rfl) ?_
 refine LM.mv rfl ?_
 refine LM.splitB (t := 19) rfl (fun h1 => ?_) (fun h1 => ?_)
 ·
  refine LM.dr 19 rfl rfl rfl <| LM.dr 19 rfl rfl rfl <| LM.val (ov_pickT rfl rfl) <| LM.mv rfl <| LM.dr 23 rfl rfl rfl <| LM.dr 23 rfl rfl rfl <| LM.dr 23 rfl rfl rfl <| LM.dr 23 rfl rfl rfl <| LM.dr 23 rfl rfl rfl <| LM.val (ov_pickT rfl rfl) <| nA [(2, _), (7, _), (29, _)] ?_
  refine wpM.condT rfl ?_
  refine wR <| LM.as rfl <| nA [(6, _)] <| wpM.ret <| QM.then_ret ?_
  refine qL Try.results8 rfl fun w' hm' hc' hg' => ?_
  refine ⟨?_, hc'⟩; unfold hldS; rw [if_neg (by have : chkB s.C l = false := (by simpa using h1); rw [this]; simp)]; rfl
 refine LM.sp 19 rfl rfl rfl <| LM.mv rfl <| LM.sp 19 rfl rfl rfl <| LM.val (ov_lss rfl rfl) <| LM.val (ov_pickF rfl rfl) <| LM.mv rfl ?_
 refine LM.splitD (t := 23) rfl (fun h2 => ?_) (fun h2 => ?_)
 ·
  refine LM.dr 23 rfl rfl rfl <| LM.dr 23 rfl rfl rfl <| LM.dr 23 rfl rfl rfl <| LM.dr 23 rfl rfl rfl <| LM.dr 23 rfl rfl rfl <| LM.val (ov_pickT rfl rfl) <| nA [(2, _), (7, _), (29, _)] ?_
  refine wpM.condT rfl ?_
  refine wR <| LM.as rfl <| nA [(6, _)] <| wpM.ret <| QM.then_ret ?_
  refine qL Try.results8 rfl fun w' hm' hc' hg' => ?_
  refine ⟨?_, hc'⟩; unfold hldS; rw [if_neg om]; rfl
 refine LM.sp 23 rfl rfl rfl <| LM.mv rfl <| LM.sp 23 rfl rfl rfl <| LM.val (ovf 23 rfl rfl rfl rfl) <| LM.sp 23 rfl rfl rfl ?_
 refine LM.rd (oml rfl rfl rfl) ?_
 refine LM.sp 23 rfl rfl rfl <| LM.val (ov_len Try.underlying23 rfl) <| LM.sp 23 rfl rfl rfl <| LM.val (ov_geq rfl rfl) <| LM.val (ov_pickF rfl rfl) <| nA [(2, _), (7, _), (29, _)] ?_
 refine wpM.condD rfl (fun h3 => ?_) (fun h3 => ?_)
 ·
  refine wR <| LM.as rfl <| nA [(6, _)] <| wpM.ret <| QM.then_ret ?_
  refine qL Try.results8 rfl fun w' hm' hc' hg' => ?_
  refine ⟨?_, hc'⟩; unfold hldS; rw [if_neg (by have e : s.C.ls.length = s.ls.length := rfl; omega)]; rfl
 have hcb : chkB s.C l = true := (by simpa using h1); obtain ⟨bw, rfl, hW⟩ := hP2 hcb; obtain ⟨adt, nt, capt, adr, adw, mt, mr, mw, rfl, hnt, hst, hsr, hsw, hk, hb⟩ := hW; have hkr := hk.r; have hkw := hk.w; have hlc : lock < s.C.ls.length := (by show lock < (s.ls.length : Int); omega)
 refine wpM.skip <| QM.then <| wpM.seq ?_
 refine wpM.draw [(0, 0), (1, 0), (2, 0), (3, 1), (4, 0), (5, 0), (6, 1), (7, 0), (8, 0), (9, 0), (10, 1), (11, 0), (12, 0), (13, 1), (14, 0), (15, 0)] kr kr ?_
 refine LD.val rfl rfl (ov_move rfl) <| LD.val rfl rfl (ov_nilCheck rfl) <| LD.val rfl rfl (ovf 58 rfl rfl rfl rfl) ?_
 refine LD.rd rfl rfl (oml rfl rfl rfl) ?_
 refine LD.val rfl rfl (ov_move rfl) ?_
 refine LD.val rfl rfl (ov_idxS au6 Try.underlying58 Try.sizeOf38 rfl rfl om) ?_
 refine LD.rd rfl rfl (om_sl1 asm ir Try.isAgg38 rfl rfl (by exact getq 0#64 au4) (by rfl)) ?_
 refine LD.val rfl rfl (ov_move rfl) <| LD.val rfl rfl (ov_nilCheck rfl) <| LD.val rfl rfl (ovf 58 rfl rfl rfl rfl) ?_
 refine LD.rd rfl rfl (oml rfl rfl rfl) ?_
 refine LD.val rfl rfl (ov_move rfl) ?_
 refine LD.val rfl rfl (ov_idxS au6 Try.underlying58 Try.sizeOf38 rfl rfl om) ?_
 refine LD.rd rfl rfl (om_sl1 asm ir Try.isAgg38 rfl rfl (by exact getq 0#64 au4) (by rfl)) ?_
 refine LD.val rfl rfl (ov_uor rfl rfl) ?_
 refine LD.val rfl rfl (ov_assign rfl) <| LD.nil ?_
 refine QM.sub (e' := [(6, _)]) ⟨rfl, trivial⟩ (QM.then ?_)
 refine wpM.ret ?_
 refine qL Try.results8 rfl fun w' hm' hc' hg' => ?_
 refine ⟨?_, hc'⟩; unfold hldS; rw [if_pos ⟨hcb, by omega, hlc⟩]; rfl
set_option maxHeartbeats 4000000 in
theorem awake27_spec (w : World) : Ret Try.prog 4 #[] w (fun v w' => v = .bool true ∧ Ext w w') := by
 refine Ret.enterM Try.func4 rfl Try.ntmps4 rfl ([]) (no) (Mem.nil w) ?_
 refine wR <| LM.as rfl ?_
 refine LM.nil (QM.sub (e' := []) trivial (QM.then (wpM.seq (wpM.region ?_))))
 refine LM.callT (oc_call (enters_fn Try.func7 kr rfl) rfl) SpT.mono (fun w hm hc hg => rscript_spec aw27L w (by decide)) ?_
 rw [aw27_1]; rintro u8 m8 ⟨x, rfl, hxs, hxa, hin⟩ -
 refine LM.mv rfl <| LM.val (ov_extract rfl rfl) <| LM.val (ov_extract rfl rfl) <| LM.val (ov_extract rfl rfl) ?_
 refine LM.alloc Try.zeroValue35 rfl (fun b1 hb1 => ?_)
 refine LM.stW Try.sizeOf35 rfl rfl rfl rfl au7 au8 ?_
 refine LM.as rfl <| LM.as rfl <| nB [(1, _), (3, _)] ?_
 refine LM.val (ov_build (cs := #[_, _, _, _, _]) rfl (by first | rfl | kernel_rfl)) ?_
 refine LM.val (ov_build (cs := #[_, _, _, _, _]) rfl (by first | rfl | kernel_rfl)) ?_
 refine LM.val (ov_build (cs := #[_, _, _, _, _]) rfl (by first | rfl | kernel_rfl)) ?_
 refine LM.val (ov_build (cs := #[_, _, _, _, _]) rfl (by first | rfl | kernel_rfl)) ?_
 refine LM.row (vs := [_, _, _, _]) Try.underlying27 Try.sizeOf40 Try.zeroValue40 rfl rfl rfl rfl rfl rfl (fun b16 hb16 => ?_)
 refine LM.as rfl <| nB [(1, _), (3, _), (4, _)] <| LM.val (ovf 26 rfl rfl rfl rfl) ?_
 refine LM.rd (om_ldA Try.isAgg26 Try.sizeOf26 rfl (vs := [_, _, _, _, _]) rfl ⟨rfl, rfl, rfl, rfl, rfl, trivial⟩) ?_
 refine LM.mv rfl ?_
 refine cE Try.func6 rfl (fun w hm hc hg => (show chkS x.sv.C aw27E = 3 ∧ chkB x.sv.C aw27E = false by rw [hxs]; exact aw27_c).1 ▸ (show chkS x.sv.C aw27E = 3 ∧ chkB x.sv.C aw27E = false by rw [hxs]; exact aw27_c).2 ▸ mCheck_spec (s := x.sv) (l := aw27E) (ad := some ⟨b16, 0, none⟩) (n := 4) (cap := 4) w (hin w (hm.pick m8)).st rfl (Sr.row (hm.at b16) rfl rfl (by decide) (fun _ => rfl)) (by decide)) ?_
 refine LM.mv rfl <| LM.val (ov_extract rfl rfl) <| LM.val (ov_extract rfl rfl) <| LM.as rfl <| LM.as rfl <| nA [(1, _), (3, _), (4, _), (5, _), (6, _)] <| wpM.seq ?_
 refine wpM.draw [(0, 0), (1, 0), (2, 0), (3, 0), (4, 0), (5, 0), (6, 0), (7, 0), (8, 0), (9, 0), (10, 0), (11, 0), (12, 1), (13, 0), (14, 0), (15, 2), (16, 0), (17, 0), (18, 0), (19, 0), (20, 1), (21, 0), (22, 0), (23, 2), (24, 0), (25, 0), (26, 0)] kr kr ?_
 refine LD.val rfl rfl (ov_move rfl) ?_
 refine LD.val rfl rfl (ov_eql rfl rfl) ?_
 refine LD.val rfl rfl (ov_move rfl) ?_
 refine LD.splitD (t := 26) rfl (fun h1 => ?_) (fun h1 => ?_)
 ·
  refine LD.val rfl ⟨26, _, rfl, rfl, rfl⟩ (ov_move rfl) ?_
  refine LD.val rfl ⟨26, _, rfl, rfl, rfl⟩ (ov_eql rfl rfl) ?_
  refine LD.val rfl rfl (ov_pickT rfl rfl) ?_
  refine LD.val rfl rfl (ov_move rfl) ?_
  refine LD.splitD (t := 30) rfl (fun h2 => ?_) (fun h2 => ?_)
  ·
   refine LD.val rfl ⟨30, _, rfl, rfl, rfl⟩ (ov_move rfl) ?_
   refine LD.val rfl ⟨30, _, rfl, rfl, rfl⟩ (ov_not rfl) ?_
   refine LD.val rfl rfl (ov_pickT rfl rfl) ?_
   refine LD.val rfl rfl (ov_move rfl) ?_
   refine LD.splitB (t := 34) rfl (fun h3 => ?_) (fun h3 => ?_)
   ·
    refine LD.val rfl ⟨34, _, rfl, rfl, rfl⟩ (ovf 26 rfl rfl rfl rfl) ?_
    refine LD.rd rfl ⟨34, _, rfl, rfl, rfl⟩ (om_ldA Try.isAgg26 Try.sizeOf26 rfl (vs := [_, _, _, _, _]) rfl ⟨rfl, rfl, rfl, rfl, rfl, trivial⟩) ?_
    refine LD.val rfl ⟨34, _, rfl, rfl, rfl⟩ (ov_move rfl) ?_
    refine LD.val rfl ⟨34, _, rfl, rfl, rfl⟩ (ov_subHi Try.underlying27 Try.sizeOf40 rfl rfl (by decide) (by decide)) ?_
    refine dE rfl ⟨34, _, rfl, rfl, rfl⟩ Try.func8 rfl (fun w hm hc hg => (show hldS x.sv.C (aw27E.take 3) 0 = 1#64 by rw [hxs]; exact aw27_h) ▸ mHolders_spec (s := x.sv) (l := aw27E.take 3) 0 w (hin w (hm.pick m8)).st rfl ((Sr.row (f := fMe) (s := 5) (xs := aw27E) (n := 4) (cap := 4) (hm.at b16) rfl rfl (by decide) (fun _ => rfl)).take (k := 3) (by decide)) (by decide)) ?_
    refine LD.val rfl ⟨34, _, rfl, rfl, rfl⟩ (ov_ueql (b := 1#64) rfl rfl) ?_
    refine LD.val rfl rfl (ov_pickT rfl rfl) ?_
    refine LD.val rfl rfl (ov_move rfl) ?_
    refine LD.splitD (t := 42) rfl (fun h4 => ?_) (fun h4 => ?_)
    ·
     refine LD.val rfl ⟨42, _, rfl, rfl, rfl⟩ (ovf 26 rfl rfl rfl rfl) ?_
     refine LD.rd rfl ⟨42, _, rfl, rfl, rfl⟩ (om_ldA Try.isAgg26 Try.sizeOf26 rfl (vs := [_, _, _, _, _]) rfl ⟨rfl, rfl, rfl, rfl, rfl, trivial⟩) ?_
     refine LD.val rfl ⟨42, _, rfl, rfl, rfl⟩ (ov_move rfl) ?_
     refine LD.val rfl ⟨42, _, rfl, rfl, rfl⟩ (ov_subHi Try.underlying27 Try.sizeOf40 rfl rfl (by decide) (by decide)) ?_
     refine dE rfl ⟨42, _, rfl, rfl, rfl⟩ Try.func9 rfl (fun w hm hc hg => (show runS x.sv.C (aw27E.take 3) = 1#64 by rw [hxs]; exact aw27_r) ▸ mRunning_spec (s := x.sv) (l := aw27E.take 3) w (hin w (hm.pick m8)).st rfl ((Sr.row (f := fMe) (s := 5) (xs := aw27E) (n := 4) (cap := 4) (hm.at b16) rfl rfl (by decide) (fun _ => rfl)).take (k := 3) (by decide)) (by decide)) ?_
     refine LD.val rfl ⟨42, _, rfl, rfl, rfl⟩ (ov_ueql (b := 1#64) rfl rfl) ?_
     refine LD.val rfl rfl (ov_pickT rfl rfl) ?_
     refine LD.val rfl rfl (ov_assign rfl) <| LD.nil ?_
     refine QM.sub (e' := [(0, _)]) ⟨rfl, trivial⟩ (QM.then ?_)
     refine wpM.ret ?_
     refine qL Try.results4 rfl fun w' hm' hc' hg' => ?_
     exact ⟨rfl, hc'⟩
    refine LD.drop rfl rfl ⟨42, _, rfl, rfl, rfl⟩ <| LD.drop rfl rfl ⟨42, _, rfl, rfl, rfl⟩ <| LD.drop rfl rfl ⟨42, _, rfl, rfl, rfl⟩ <| LD.drop rfl rfl ⟨42, _, rfl, rfl, rfl⟩ <| LD.drop rfl rfl ⟨42, _, rfl, rfl, rfl⟩ <| LD.drop rfl rfl ⟨42, _, rfl, rfl, rfl⟩ ?_
    refine LD.val rfl rfl (ov_pickF rfl rfl) ?_
    refine LD.val rfl rfl (ov_assign rfl) <| LD.nil ?_
    refine QM.sub (e' := [(0, _)]) ⟨rfl, trivial⟩ (QM.then ?_)
    refine wpM.ret ?_
    refine qL Try.results4 rfl fun w' hm' hc' hg' => ?_
    (exfalso; first | omega | simp_all)
   refine LD.drop rfl rfl ⟨34, _, rfl, rfl, rfl⟩ <| LD.drop rfl rfl ⟨34, _, rfl, rfl, rfl⟩ <| LD.drop rfl rfl ⟨34, _, rfl, rfl, rfl⟩ <| LD.drop rfl rfl ⟨34, _, rfl, rfl, rfl⟩ <| LD.drop rfl rfl ⟨34, _, rfl, rfl, rfl⟩ <| LD.drop rfl rfl ⟨34, _, rfl, rfl, rfl⟩ ?_
   refine LD.val rfl rfl (ov_pickF rfl rfl) ?_
   refine LD.val rfl rfl (ov_move rfl) <| LD.drop rfl rfl ⟨42, _, rfl, rfl, rfl⟩ <| LD.drop rfl rfl ⟨42, _, rfl, rfl, rfl⟩ <| LD.drop rfl rfl ⟨42, _, rfl, rfl, rfl⟩ <| LD.drop rfl rfl ⟨42, _, rfl, rfl, rfl⟩ <| LD.drop rfl rfl ⟨42, _, rfl, rfl, rfl⟩ <| LD.drop rfl rfl ⟨42, _, rfl, rfl, rfl⟩ ?_
   refine LD.val rfl rfl (ov_pickF rfl rfl) ?_
   refine LD.val rfl rfl (ov_assign rfl) <| LD.nil ?_
   refine QM.sub (e' := [(0, _)]) ⟨rfl, trivial⟩ (QM.then ?_)
   refine wpM.ret ?_
   refine qL Try.results4 rfl fun w' hm' hc' hg' => ?_
   (exfalso; first | omega | simp_all)
  refine LD.drop rfl rfl ⟨30, _, rfl, rfl, rfl⟩ <| LD.drop rfl rfl ⟨30, _, rfl, rfl, rfl⟩ ?_
  refine LD.val rfl rfl (ov_pickF rfl rfl) ?_
  refine LD.val rfl rfl (ov_move rfl) <| LD.drop rfl rfl ⟨34, _, rfl, rfl, rfl⟩ <| LD.drop rfl rfl ⟨34, _, rfl, rfl, rfl⟩ <| LD.drop rfl rfl ⟨34, _, rfl, rfl, rfl⟩ <| LD.drop rfl rfl ⟨34, _, rfl, rfl, rfl⟩ <| LD.drop rfl rfl ⟨34, _, rfl, rfl, rfl⟩ <| LD.drop rfl rfl ⟨34, _, rfl, rfl, rfl⟩ ?_
  refine LD.val rfl rfl (ov_pickF rfl rfl) ?_
  refine LD.val rfl rfl (ov_move rfl) <| LD.drop rfl rfl ⟨42, _, rfl, rfl, rfl⟩ <| LD.drop rfl rfl ⟨42, _, rfl, rfl, rfl⟩ <| LD.drop rfl rfl ⟨42, _, rfl, rfl, rfl⟩ <| LD.drop rfl rfl ⟨42, _, rfl, rfl, rfl⟩ <| LD.drop rfl rfl ⟨42, _, rfl, rfl, rfl⟩ <| LD.drop rfl rfl ⟨42, _, rfl, rfl, rfl⟩ ?_
  refine LD.val rfl rfl (ov_pickF rfl rfl) ?_
  refine LD.val rfl rfl (ov_assign rfl) <| LD.nil ?_
  refine QM.sub (e' := [(0, _)]) ⟨rfl, trivial⟩ (QM.then ?_)
  refine wpM.ret ?_
  refine qL Try.results4 rfl fun w' hm' hc' hg' => ?_
  (exfalso; first | omega | simp_all)
 refine LD.drop rfl rfl ⟨26, _, rfl, rfl, rfl⟩ <| LD.drop rfl rfl ⟨26, _, rfl, rfl, rfl⟩ ?_
 refine LD.val rfl rfl (ov_pickF rfl rfl) ?_
 refine LD.val rfl rfl (ov_move rfl) <| LD.drop rfl rfl ⟨30, _, rfl, rfl, rfl⟩ <| LD.drop rfl rfl ⟨30, _, rfl, rfl, rfl⟩ ?_
 refine LD.val rfl rfl (ov_pickF rfl rfl) ?_
 refine LD.val rfl rfl (ov_move rfl) <| LD.drop rfl rfl ⟨34, _, rfl, rfl, rfl⟩ <| LD.drop rfl rfl ⟨34, _, rfl, rfl, rfl⟩ <| LD.drop rfl rfl ⟨34, _, rfl, rfl, rfl⟩ <| LD.drop rfl rfl ⟨34, _, rfl, rfl, rfl⟩ <| LD.drop rfl rfl ⟨34, _, rfl, rfl, rfl⟩ <| LD.drop rfl rfl ⟨34, _, rfl, rfl, rfl⟩ ?_
 refine LD.val rfl rfl (ov_pickF rfl rfl) ?_
 refine LD.val rfl rfl (ov_move rfl) <| LD.drop rfl rfl ⟨42, _, rfl, rfl, rfl⟩ <| LD.drop rfl rfl ⟨42, _, rfl, rfl, rfl⟩ <| LD.drop rfl rfl ⟨42, _, rfl, rfl, rfl⟩ <| LD.drop rfl rfl ⟨42, _, rfl, rfl, rfl⟩ <| LD.drop rfl rfl ⟨42, _, rfl, rfl, rfl⟩ <| LD.drop rfl rfl ⟨42, _, rfl, rfl, rfl⟩ ?_
 refine LD.val rfl rfl (ov_pickF rfl rfl) ?_
 refine LD.val rfl rfl (ov_assign rfl) <| LD.nil ?_
 refine QM.sub (e' := [(0, _)]) ⟨rfl, trivial⟩ (QM.then ?_)
 refine wpM.ret ?_
 refine qL Try.results4 rfl fun w' hm' hc' hg' => ?_
 (exfalso; first | omega | simp_all)
set_option maxHeartbeats 2000000 in
theorem modelHeads {s : StV} {l : List Mev} {ad : Option Addr} {n cap : Nat} (k0 : Int) (w : World) (hI : s.In w) (hn : n = l.length) (hl : Sr fMe 5 l (.slice ad n cap) w) (hk0 : 0 ≤ k0 ∧ k0 ≤ 255) : Ret Try.prog 3 #[s.val, .slice ad n cap, .int .u8 k0] w (fun v w' => v = .bool true ∧ Ext w w') := by
 have hcl := chkS_le s.C l; have hcap := hl.open.2.1
 refine Ret.enterM Try.func3 rfl Try.ntmps3 rfl ([]) (no) (Mem.nil w) ?_
 refine wR ?_
 refine LM.box rfl rfl (fun b3 hb3 => ?_)
 refine LM.as rfl <| nA [(1, _), (2, _), (3, _)] <| wpM.seq <| wR ?_
 refine cE Try.func4 rfl (fun w hm hc hg => awake27_spec w) ?_
 refine LM.val (ov_not rfl) ?_
 refine nA [(1, _), (2, _), (3, _), (13, _)] ?_
 refine wpM.condB rfl (fun h1 => ?_) (fun h1 => ?_)
 ·
  refine wR <| LM.as rfl <| nA [(6, _)] <| wpM.ret <| QM.then_ret ?_
  refine qL Try.results3 rfl fun w' hm' hc' hg' => ?_
  (exfalso; first | omega | simp_all)
 refine wpM.skip <| QM.then <| wpM.seq <| wR ?_
 refine LM.rd (om_ldW Try.isAgg26 Try.sizeOf26 rfl rfl) ?_
 refine cE Try.func5 rfl (fun w hm hc hg => small12_spec w (hI.ext hc)) ?_
 refine LM.val (ov_not rfl) ?_
 refine LM.mv rfl ?_
 refine LM.splitB (t := 17) rfl (fun h2 => ?_) (fun h2 => ?_)
 ·
  refine LM.dr 17 rfl rfl rfl <| LM.dr 17 rfl rfl rfl <| LM.dr 17 rfl rfl rfl <| LM.val (ov_pickT rfl rfl) <| nA [(1, _), (2, _), (3, _), (21, _)] ?_
  refine wpM.condT rfl ?_
  refine wR <| LM.as rfl <| nA [(6, _)] <| wpM.ret <| QM.then_ret ?_
  refine qL Try.results3 rfl fun w' hm' hc' hg' => ?_
  exact ⟨rfl, hc'⟩
 refine LM.sp 17 rfl rfl rfl <| LM.mv rfl <| LM.sp 17 rfl rfl rfl <| LM.val (ov_len Try.underlying27 rfl) <| LM.sp 17 rfl rfl rfl <| LM.val (ov_gtr rfl rfl) <| LM.val (ov_pickF rfl rfl) <| nA [(1, _), (2, _), (3, _), (21, _)] ?_
 refine wpM.condD rfl (fun h3 => ?_) (fun h3 => ?_)
 ·
  refine wR <| LM.as rfl <| nA [(6, _)] <| wpM.ret <| QM.then_ret ?_
  refine qL Try.results3 rfl fun w' hm' hc' hg' => ?_
  exact ⟨rfl, hc'⟩
 refine wpM.skip <| tR ?_
 refine LM.rd (om_ldW Try.isAgg26 Try.sizeOf26 rfl rfl) ?_
 refine LM.mv rfl ?_
 refine cE Try.func6 rfl (fun w hm hc hg => mCheck_spec w (hI.ext hc) hn (hl.ext hc) om) ?_
 refine LM.mv rfl <| LM.val (ov_extract rfl rfl) <| LM.val (ov_extract rfl rfl) <| LM.as rfl <| LM.as rfl <| nA [(1, _), (2, _), (3, _), (7, _), (8, _)] <| wpM.seq <| wR <| LM.mv rfl <| LM.val (ov_lss rfl rfl) <| LM.mv rfl ?_
 refine LM.splitD (t := 30) rfl (fun h4 => ?_) (fun h4 => ?_)
 ·
  refine LM.dr 30 rfl rfl rfl <| LM.dr 30 rfl rfl rfl <| LM.dr 30 rfl rfl rfl <| LM.dr 30 rfl rfl rfl <| LM.val (ov_pickT rfl rfl) <| LM.mv rfl <| LM.dr 36 rfl rfl rfl ?_
  refine LM.dropU (t := 36) rfl rfl rfl ?_
  refine LM.dropX (t := 38) rfl rfl ?_
  refine LM.dropX (t := 38) rfl rfl ?_
  refine LM.dropX (t := 38) rfl rfl ?_
  refine LM.dropX (t := 38) rfl rfl ?_
  refine LM.dr 36 rfl rfl rfl <| LM.val (ov_pickT rfl rfl) <| nA [(1, _), (2, _), (3, _), (7, _), (8, _), (44, _)] ?_
  refine wpM.condT rfl ?_
  refine wR <| LM.as rfl <| nA [(6, _)] <| wpM.ret <| QM.then_ret ?_
  refine qL Try.results3 rfl fun w' hm' hc' hg' => ?_
  (exfalso; first | omega | simp_all)
 refine LM.sp 30 rfl rfl rfl <| LM.mv rfl <| LM.sp 30 rfl rfl rfl <| LM.mv rfl <| LM.sp 30 rfl rfl rfl <| LM.val (ov_len Try.underlying27 rfl) <| LM.sp 30 rfl rfl rfl <| LM.val (ov_gtr rfl rfl) <| LM.val (ov_pickF rfl rfl) <| LM.mv rfl ?_
 refine LM.splitD (t := 36) rfl (fun h5 => ?_) (fun h5 => ?_)
 ·
  refine LM.dr 36 rfl rfl rfl ?_
  refine LM.dropU (t := 36) rfl rfl rfl ?_
  refine LM.dropX (t := 38) rfl rfl ?_
  refine LM.dropX (t := 38) rfl rfl ?_
  refine LM.dropX (t := 38) rfl rfl ?_
  refine LM.dropX (t := 38) rfl rfl ?_
  refine LM.dr 36 rfl rfl rfl <| LM.val (ov_pickT rfl rfl) <| nA [(1, _), (2, _), (3, _), (7, _), (8, _), (44, _)] ?_
  refine wpM.condT rfl ?_
  refine wR <| LM.as rfl <| nA [(6, _)] <| wpM.ret <| QM.then_ret ?_
  refine qL Try.results3 rfl fun w' hm' hc' hg' => ?_
  (exfalso; first | omega | simp_all)
 refine LM.sp 36 rfl rfl rfl <| LM.mv rfl <| LM.sp 36 rfl rfl rfl <| LM.mv rfl ?_
 refine LM.splitB (t := 38) rfl (fun h6 => ?_) (fun h6 => ?_)
 ·
  refine LM.sp 38 rfl rfl rfl <| LM.mv rfl <| LM.sp 38 rfl rfl rfl <| LM.mv rfl <| LM.sp 38 rfl rfl rfl <| LM.val (ov_len Try.underlying27 rfl) <| LM.sp 38 rfl rfl rfl <| LM.val (ov_neq rfl rfl) <| LM.sp 36 rfl rfl rfl <| LM.val (ov_pickT rfl rfl) <| LM.val (ov_pickF rfl rfl) <| nA [(1, _), (2, _), (3, _), (7, _), (8, _), (44, _)] ?_
  refine wpM.condD rfl (fun h7 => ?_) (fun h7 => ?_)
  ·
   exact absurd (by rw [chkB_eq h6]; omega) h7
  refine wpM.skip <| tR <| LM.mv rfl ?_
  refine LM.val (ov_to64 Try.underlying5 Try.underlying3 rfl om) ?_
  refine LM.mv rfl ?_
  refine LM.val (ov_min rfl rfl) ?_
  obtain ⟨k9, hk9⟩ : ∃ k9 : Nat, (k9 : Int) = (if (chkS s.C l : Int) < k0 then (chkS s.C l : Int) else k0) := ⟨(if (chkS s.C l : Int) < k0 then (chkS s.C l : Int) else k0).toNat, by split <;> omega⟩; have hk9l : k9 ≤ chkS s.C l := (by split at hk9 <;> omega); rw [← hk9]
  refine LM.as rfl <| nA [(1, _), (3, _), (8, _), (9, _)] <| wpM.seq ?_
  refine wpM.draw [(0, 1), (1, 0), (2, 0), (3, 0), (4, 2), (5, 0), (6, 0), (7, 0), (8, 0), (9, 0)] kr kr ?_
  refine LD.rd rfl rfl (om_ldW Try.isAgg26 Try.sizeOf26 rfl rfl) ?_
  refine LD.val rfl rfl (ov_move rfl) <| LD.val rfl rfl (ov_move rfl) ?_
  refine LD.val rfl rfl (ov_subHi Try.underlying27 Try.sizeOf40 rfl rfl om om) ?_
  refine dE rfl rfl Try.func6 rfl (fun w hm hc hg => mCheck_spec (l := l.take (k9 : Nat)) w (hI.ext hc) (by rw [List.length_take]; omega) ((hl.ext hc).take om) (by rw [List.length_take]; omega)) ?_
  refine LD.val rfl rfl (ov_move rfl) ?_
  refine LD.val rfl rfl (ov_extract rfl rfl) ?_
  refine LD.val rfl rfl (ov_extract rfl rfl) ?_
  refine LD.val rfl rfl (ov_assign rfl) <| LD.val rfl rfl (ov_assign rfl) <| LD.nil ?_
  refine QM.sub (e' := [(8, _), (9, _), (10, _), (11, _)]) au9 (QM.then ?_)
  refine wpM.seq <| wR <| LM.mv rfl ?_
  refine LM.val (ov_not rfl) ?_
  refine LM.mv rfl ?_
  refine LM.splitB (t := 59) rfl (fun h8 => ?_) (fun h8 => ?_)
  ·
   rw [h6] at h8; cases h8
  refine LM.dr 59 rfl rfl rfl <| LM.dr 59 rfl rfl rfl <| LM.val (ov_pickF rfl rfl) <| nA [(9, _), (10, _), (11, _), (62, _)] ?_
  refine wpM.condF rfl ?_
  refine wpM.skip <| tR <| LM.mv rfl <| LM.mv rfl <| LM.val (ov_eql rfl rfl) <| LM.mv rfl ?_
  refine LM.splitD (t := 68) rfl (fun h9 => ?_) (fun h9 => ?_)
  ·
   refine LM.sp 68 rfl rfl rfl <| LM.mv rfl <| LM.val (ov_pickT rfl rfl) <| LM.as rfl <| nA [(6, _)] <| wpM.ret ?_
   refine qL Try.results3 rfl fun w' hm' hc' hg' => ?_
   refine ⟨?_, hc'⟩; rw [(chk_head hk9l (.inr h6)).2]; rfl
  exact absurd (by rw [(chk_head hk9l (.inr h6)).1]) h9
 refine LM.dr 38 rfl rfl rfl <| LM.dr 38 rfl rfl rfl <| LM.dr 38 rfl rfl rfl <| LM.dr 38 rfl rfl rfl <| LM.sp 36 rfl rfl rfl <| LM.val (ov_pickF rfl rfl) <| LM.val (ov_pickF rfl rfl) <| nA [(1, _), (2, _), (3, _), (7, _), (8, _), (44, _)] ?_
 refine wpM.condF rfl ?_
 refine wpM.skip <| tR <| LM.mv rfl ?_
 refine LM.val (ov_to64 Try.underlying5 Try.underlying3 rfl om) ?_
 refine LM.mv rfl ?_
 refine LM.val (ov_min rfl rfl) ?_
 obtain ⟨k9, hk9⟩ : ∃ k9 : Nat, (k9 : Int) = (if (chkS s.C l : Int) < k0 then (chkS s.C l : Int) else k0) := ⟨(if (chkS s.C l : Int) < k0 then (chkS s.C l : Int) else k0).toNat, by split <;> omega⟩; have hk9l : k9 ≤ chkS s.C l := (by split at hk9 <;> omega); rw [← hk9]
 refine LM.as rfl <| nA [(1, _), (3, _), (8, _), (9, _)] <| wpM.seq ?_
 refine wpM.draw [(0, 1), (1, 0), (2, 0), (3, 0), (4, 2), (5, 0), (6, 0), (7, 0), (8, 0), (9, 0)] kr kr ?_
 refine LD.rd rfl rfl (om_ldW Try.isAgg26 Try.sizeOf26 rfl rfl) ?_
 refine LD.val rfl rfl (ov_move rfl) <| LD.val rfl rfl (ov_move rfl) ?_
 refine LD.val rfl rfl (ov_subHi Try.underlying27 Try.sizeOf40 rfl rfl om om) ?_
 refine dE rfl rfl Try.func6 rfl (fun w hm hc hg => mCheck_spec (l := l.take (k9 : Nat)) w (hI.ext hc) (by rw [List.length_take]; omega) ((hl.ext hc).take om) (by rw [List.length_take]; omega)) ?_
 refine LD.val rfl rfl (ov_move rfl) ?_
 refine LD.val rfl rfl (ov_extract rfl rfl) ?_
 refine LD.val rfl rfl (ov_extract rfl rfl) ?_
 refine LD.val rfl rfl (ov_assign rfl) <| LD.val rfl rfl (ov_assign rfl) <| LD.nil ?_
 refine QM.sub (e' := [(8, _), (9, _), (10, _), (11, _)]) au9 (QM.then ?_)
 refine wpM.seq <| wR <| LM.mv rfl ?_
 refine LM.val (ov_not rfl) ?_
 refine LM.mv rfl ?_
 refine LM.splitB (t := 59) rfl (fun h10 => ?_) (fun h10 => ?_)
 ·
  refine LM.sp 59 rfl rfl rfl <| LM.mv rfl <| LM.sp 59 rfl rfl rfl <| LM.val (ov_eql rfl rfl) <| LM.val (ov_pickT rfl rfl) <| nA [(9, _), (10, _), (11, _), (62, _)] ?_
  refine wpM.condD rfl (fun h11 => ?_) (fun h11 => ?_)
  ·
   refine wR <| LM.mv rfl <| LM.val (ov_eql rfl rfl) <| LM.as rfl <| nA [(6, _)] <| wpM.ret <| QM.then_ret ?_
   refine qL Try.results3 rfl fun w' hm' hc' hg' => ?_
   refine ⟨?_, hc'⟩; rw [show k9 = 0 by omega, chk_take0]; rfl
  refine wpM.skip <| tR <| LM.mv rfl <| LM.mv rfl <| LM.val (ov_eql rfl rfl) <| LM.mv rfl ?_
  refine LM.splitD (t := 68) rfl (fun h12 => ?_) (fun h12 => ?_)
  ·
   refine LM.sp 68 rfl rfl rfl <| LM.mv rfl <| LM.val (ov_pickT rfl rfl) <| LM.as rfl <| nA [(6, _)] <| wpM.ret ?_
   refine qL Try.results3 rfl fun w' hm' hc' hg' => ?_
   refine ⟨?_, hc'⟩; rw [(chk_head hk9l (.inl om)).2]; rfl
  exact absurd (by rw [(chk_head hk9l (.inl om)).1]) h12
 rw [h6] at h10; cases h10
end Go.Eng
namespace Go.Eng
open Go Go.Proofs Go.RowKit Go.ChangeShapes Go.WideShapes
theorem rdb_api_Event : Rdb Try.prog 40 fMe (fun a => (-9223372036854775808 ≤ a.k ∧ a.k ≤ 9223372036854775807) ∧ (-9223372036854775808 ≤ a.t ∧ a.t ≤ 9223372036854775807) ∧ (-9223372036854775808 ≤ a.l ∧ a.l ≤ 9223372036854775807) ∧ (-9223372036854775808 ≤ a.n ∧ a.n ≤ 9223372036854775807)) := fun {H enc w base sp held fuel cs x} h => by
  obtain ⟨h1, h2⟩ := trod_fields Try.underlying40 h
  rw [show Try.prog.cellsOf 40 = 5 by kernel_rfl] at h1
  have c3 : Try.prog.cellsOf 3 = 1 := by kernel_rfl
  have c38 : Try.prog.cellsOf 38 = 1 := by kernel_rfl
  match cs, h1 with
  | [a0, a1, a2, a3, a4], _ =>
    simp only [List.forall_mem_cons, c3, c38, List.drop_succ_cons, List.drop_zero, List.take_succ_cons, List.take_zero] at h2
    obtain ⟨⟨_, _, f0⟩, ⟨_, _, f1⟩, ⟨_, _, f2⟩, ⟨_, _, f3⟩, ⟨_, _, f4⟩, _⟩ := h2
    obtain ⟨m0, e0, _, w0⟩ := DataW.trod_int Try.underlying38 f0
    obtain ⟨m1, e1, _, w1⟩ := DataW.trod_int Try.underlying3 f1
    obtain ⟨m2, e2, _, w2⟩ := DataW.trod_int Try.underlying3 f2
    obtain ⟨m3, e3, _, w3⟩ := DataW.trod_int Try.underlying3 f3
    obtain ⟨m4, e4, _, w4⟩ := DataW.trod_int Try.underlying3 f4
    obtain ⟨x0, rfl⟩ := bv_of (bounds_u64 w0)
    simp only [List.cons.injEq, and_true] at e0 e1 e2 e3 e4
    subst e0
    subst e1
    subst e2
    subst e3
    subst e4
    exact ⟨⟨x0, m1, m2, m3, m4⟩, rfl, ⟨bounds_i64 w1, bounds_i64 w2, bounds_i64 w3, bounds_i64 w4⟩⟩
end Go.Eng
