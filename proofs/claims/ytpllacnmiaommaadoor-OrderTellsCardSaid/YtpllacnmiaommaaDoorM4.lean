/- The walks of the document's reader of setups. No condition. -/
import Derived.Test.YtpllacnmiaommaaDoorM2
import Derived.Test.YtpllacnmiaommaaDoorM3
import Derived.Test.YtpllacnmiaommaaDoorM1
import Derived.Test.YtpllacnmiaommaaDoorRows
set_option linter.unusedVariables false
set_option linter.unusedSimpArgs false
set_option maxRecDepth 100000
namespace Go.Eng
open Go Go.Proofs Go.RowKit
structure PgV where
  c : PgC
  ad : Option Addr
  n : Nat
  cap : Nat
instance : Inhabited PgV := ⟨⟨default, none, 0, 0⟩⟩
def fPg (p : PgV) : List Value := [.bool p.c.fv, .slice p.ad p.n p.cap]
def PgV.In (p : PgV) (w : World) : Prop := p.n = p.c.xs.length ∧ Sr fO 3 p.c.xs (.slice p.ad p.n p.cap) w
theorem PgV.In.ext {p : PgV} {w w' : World} (h : p.In w) (k : Ext w w') : p.In w' := ⟨h.1, h.2.ext k⟩
def PgsIn (ps : List PgV) (w : World) : Prop := ∀ p ∈ ps, p.In w
theorem PgsIn.ext {ps : List PgV} {w w' : World} (h : PgsIn ps w) (k : Ext w w') : PgsIn ps w' := fun p hp => (h p hp).ext k
structure StV where
  cr : Int
  gr : Int
  gs : List Int
  ga : Option Addr
  gn : Nat
  gc : Nat
  ls : List CLk
  la : Option Addr
  ln : Nat
  lc : Nat
  ps : List PgV
  pa : Option Addr
  pn : Nat
  pc : Nat
instance : Inhabited StV := ⟨⟨0, 0, [], none, 0, 0, [], none, 0, 0, [], none, 0, 0⟩⟩
def StV.cs (s : StV) : List Value := [.int .i64 s.cr, .int .i64 s.gr, .slice s.ga s.gn s.gc, .slice s.la s.ln s.lc, .slice s.pa s.pn s.pc]
abbrev StV.val (s : StV) : Value := .agg #[.int .i64 s.cr, .int .i64 s.gr, .slice s.ga s.gn s.gc, .slice s.la s.ln s.lc, .slice s.pa s.pn s.pc]
def StV.C (s : StV) : StC := ⟨s.cr, s.gr, s.gs, s.ls, s.ps.map PgV.c⟩
structure StV.In (s : StV) (w : World) : Prop where
  hgn : s.gn = s.gs.length
  hg : Sr fI 1 s.gs (.slice s.ga s.gn s.gc) w
  hln : s.ln = s.ls.length
  hl : Sr fL 5 s.ls (.slice s.la s.ln s.lc) w
  hpn : s.pn = s.ps.length
  hp : Sr fPg 2 s.ps (.slice s.pa s.pn s.pc) w
  ops : PgsIn s.ps w
theorem StV.In.ext {s : StV} {w w' : World} (h : s.In w) (k : Ext w w') : s.In w' := ⟨h.hgn, h.hg.ext k, h.hln, h.hl.ext k, h.hpn, h.hp.ext k, h.ops.ext k⟩
theorem map_getD {ps : List PgV} {i : Nat} : (ps.map PgV.c).getD i default = (ps.getD i default).c := by
  rw [List.getD_eq_getElem?_getD, List.getD_eq_getElem?_getD, List.getElem?_map]; cases ps[i]? <;> rfl
abbrev qO (ad : Option Addr) (n cap : Nat) (i : Nat) (e : Int) : Obj := .cells #[.slice ad n cap, .int .i64 (i : Nat), .int .i64 e] 109 (0, 0)
abbrev qB (b : Nat) (ad : Option Addr) (n cap : Nat) (i : Nat) (e : Int) : Nat × Obj := (b, qO ad n cap i e)
set_option maxHeartbeats 1000000 in
theorem qis_spec {ws : List Wrd} (b : Nat) {ad : Option Addr} {n cap : Nat} (i : Nat) (e k : Int) (t : List UInt8) (w : World) (hn : n = ws.length) (hl : Sr fW 4 ws (.slice ad n cap) w) (hM : Mem w [qB b ad n cap i e]) : Ret Tryd.prog 61 #[.pointer (some ⟨b, 0, none⟩), .int .i64 k, vS t] w (fun v w' => v = .bool (isE ws i e k t) ∧ Ext w w') := by
 refine Ret.enterM Tryd.func61 rfl Tryd.ntmps61 rfl ([qB b ad n cap i e]) (no) hM ?_
 refine wR <| LM.as rfl <| nA [(0, _), (1, _), (2, _)] <| wpM.seq ?_
 refine wpM.draw [(0, 0), (1, 0), (2, 0), (3, 1), (4, 0), (5, 0), (6, 0), (7, 0), (8, 0), (9, 1), (10, 0), (11, 0), (12, 0), (13, 1), (14, 0), (15, 0), (16, 0), (17, 0), (18, 0), (19, 0), (20, 0), (21, 1), (22, 0), (23, 0), (24, 0), (25, 1), (26, 0), (27, 0), (28, 1), (29, 0), (30, 0), (31, 0), (32, 0), (33, 0), (34, 0), (35, 0), (36, 1), (37, 0), (38, 0), (39, 0), (40, 1), (41, 0), (42, 0), (43, 1), (44, 0), (45, 0), (46, 0), (47, 0)] kr kr ?_
 refine LD.val rfl rfl (ov_move rfl) <| LD.val rfl rfl (ov_nilCheck rfl) <| LD.val rfl rfl (ovf 3 rfl rfl rfl rfl) ?_
 refine LD.rd rfl rfl (oml rfl rfl rfl) ?_
 refine LD.val rfl rfl (ov_eql rfl rfl) ?_
 refine LD.val rfl rfl (ov_move rfl) ?_
 refine LD.splitD (t := 12) rfl (fun h1 => ?_) (fun h1 => ?_)
 ·
  refine LD.val rfl ⟨12, _, rfl, rfl, rfl⟩ (ov_move rfl) <| LD.val rfl ⟨12, _, rfl, rfl, rfl⟩ (ov_nilCheck rfl) <| LD.val rfl ⟨12, _, rfl, rfl, rfl⟩ (ovf 3 rfl rfl rfl rfl) ?_
  refine LD.rd rfl ⟨12, _, rfl, rfl, rfl⟩ (oml rfl rfl rfl) ?_
  refine LD.val rfl ⟨12, _, rfl, rfl, rfl⟩ (ov_move rfl) <| LD.val rfl ⟨12, _, rfl, rfl, rfl⟩ (ov_nilCheck rfl) <| LD.val rfl ⟨12, _, rfl, rfl, rfl⟩ (ovf 85 rfl rfl rfl rfl) ?_
  refine LD.rd rfl ⟨12, _, rfl, rfl, rfl⟩ (oml rfl rfl rfl) ?_
  refine LD.val rfl ⟨12, _, rfl, rfl, rfl⟩ (ov_len Tryd.underlying85 rfl) ?_
  refine LD.val rfl ⟨12, _, rfl, rfl, rfl⟩ (ov_lss rfl rfl) ?_
  refine LD.val rfl rfl (ov_pickT rfl rfl) ?_
  refine LD.val rfl rfl (ov_move rfl) ?_
  refine LD.splitD (t := 24) rfl (fun h2 => ?_) (fun h2 => ?_)
  ·
   refine LD.val rfl ⟨24, _, rfl, rfl, rfl⟩ (ov_move rfl) <| LD.val rfl ⟨24, _, rfl, rfl, rfl⟩ (ov_nilCheck rfl) <| LD.val rfl ⟨24, _, rfl, rfl, rfl⟩ (ovf 85 rfl rfl rfl rfl) ?_
   refine LD.rd rfl ⟨24, _, rfl, rfl, rfl⟩ (oml rfl rfl rfl) ?_
   refine LD.val rfl ⟨24, _, rfl, rfl, rfl⟩ (ov_move rfl) <| LD.val rfl ⟨24, _, rfl, rfl, rfl⟩ (ov_nilCheck rfl) <| LD.val rfl ⟨24, _, rfl, rfl, rfl⟩ (ovf 3 rfl rfl rfl rfl) ?_
   refine LD.rd rfl ⟨24, _, rfl, rfl, rfl⟩ (oml rfl rfl rfl) ?_
   refine LD.val rfl ⟨24, _, rfl, rfl, rfl⟩ (ov_idxSN au6 Tryd.underlying85 Tryd.sizeOf104 rfl rfl om) ?_
   refine LD.val rfl ⟨24, _, rfl, rfl, rfl⟩ (ovf 3 rfl rfl rfl rfl) ?_
   refine LD.rdC rfl ⟨24, _, rfl, rfl, rfl⟩ (om_srE (j := 0) asm Tryd.isAgg3 rfl rfl au3 (by rfl) (by rfl) id) ?_
   refine LD.val rfl ⟨24, _, rfl, rfl, rfl⟩ (ov_move rfl) ?_
   refine LD.val rfl ⟨24, _, rfl, rfl, rfl⟩ (ov_eql rfl rfl) ?_
   refine LD.val rfl rfl (ov_pickT rfl rfl) ?_
   refine LD.val rfl rfl (ov_move rfl) ?_
   refine LD.splitD (t := 39) rfl (fun h3 => ?_) (fun h3 => ?_)
   ·
    refine LD.val rfl ⟨39, _, rfl, rfl, rfl⟩ (ov_move rfl) <| LD.val rfl ⟨39, _, rfl, rfl, rfl⟩ (ov_nilCheck rfl) <| LD.val rfl ⟨39, _, rfl, rfl, rfl⟩ (ovf 85 rfl rfl rfl rfl) ?_
    refine LD.rd rfl ⟨39, _, rfl, rfl, rfl⟩ (oml rfl rfl rfl) ?_
    refine LD.val rfl ⟨39, _, rfl, rfl, rfl⟩ (ov_move rfl) <| LD.val rfl ⟨39, _, rfl, rfl, rfl⟩ (ov_nilCheck rfl) <| LD.val rfl ⟨39, _, rfl, rfl, rfl⟩ (ovf 3 rfl rfl rfl rfl) ?_
    refine LD.rd rfl ⟨39, _, rfl, rfl, rfl⟩ (oml rfl rfl rfl) ?_
    refine LD.val rfl ⟨39, _, rfl, rfl, rfl⟩ (ov_idxSN au6 Tryd.underlying85 Tryd.sizeOf104 rfl rfl om) ?_
    refine LD.val rfl ⟨39, _, rfl, rfl, rfl⟩ (ovf 9 rfl rfl rfl rfl) ?_
    refine LD.rdC rfl ⟨39, _, rfl, rfl, rfl⟩ (om_srE (j := 1) asm Tryd.isAgg9 rfl rfl au3 (by rfl) (by rfl) id) ?_
    refine LD.val rfl ⟨39, _, rfl, rfl, rfl⟩ (ov_move rfl) ?_
    refine LD.val rfl ⟨39, _, rfl, rfl, rfl⟩ (ov_seqlL rfl rfl) ?_
    refine LD.val rfl rfl (ov_pickT rfl rfl) ?_
    refine LD.val rfl rfl (ov_assign rfl) <| LD.nil ?_
    refine QM.sub (e' := [(6, _)]) ⟨rfl, trivial⟩ (QM.then ?_)
    refine wpM.ret ?_
    refine qL Tryd.results61 rfl fun w' hm' hc' hg' => ?_
    refine ⟨?_, hc'⟩; simp only [resV, isE]; rw [decide_eq_true h1, decide_eq_true (show i < ws.length by omega), decide_eq_true h3]; simp only [Bool.true_and]
   refine LD.drop rfl rfl ⟨39, _, rfl, rfl, rfl⟩ <| LD.drop rfl rfl ⟨39, _, rfl, rfl, rfl⟩ <| LD.drop rfl rfl ⟨39, _, rfl, rfl, rfl⟩ <| LD.drop rfl rfl ⟨39, _, rfl, rfl, rfl⟩ <| LD.drop rfl rfl ⟨39, _, rfl, rfl, rfl⟩ <| LD.drop rfl rfl ⟨39, _, rfl, rfl, rfl⟩ <| LD.drop rfl rfl ⟨39, _, rfl, rfl, rfl⟩ <| LD.drop rfl rfl ⟨39, _, rfl, rfl, rfl⟩ <| LD.drop rfl rfl ⟨39, _, rfl, rfl, rfl⟩ <| LD.drop rfl rfl ⟨39, _, rfl, rfl, rfl⟩ <| LD.drop rfl rfl ⟨39, _, rfl, rfl, rfl⟩ <| LD.drop rfl rfl ⟨39, _, rfl, rfl, rfl⟩ <| LD.drop rfl rfl ⟨39, _, rfl, rfl, rfl⟩ ?_
   refine LD.val rfl rfl (ov_pickF rfl rfl) ?_
   refine LD.val rfl rfl (ov_assign rfl) <| LD.nil ?_
   refine QM.sub (e' := [(6, _)]) ⟨rfl, trivial⟩ (QM.then ?_)
   refine wpM.ret ?_
   refine qL Tryd.results61 rfl fun w' hm' hc' hg' => ?_
   refine ⟨?_, hc'⟩; simp only [resV, isE]; rw [decide_eq_false h3]; simp only [Bool.and_false, Bool.false_and]
  refine LD.drop rfl rfl ⟨24, _, rfl, rfl, rfl⟩ <| LD.drop rfl rfl ⟨24, _, rfl, rfl, rfl⟩ <| LD.drop rfl rfl ⟨24, _, rfl, rfl, rfl⟩ <| LD.drop rfl rfl ⟨24, _, rfl, rfl, rfl⟩ <| LD.drop rfl rfl ⟨24, _, rfl, rfl, rfl⟩ <| LD.drop rfl rfl ⟨24, _, rfl, rfl, rfl⟩ <| LD.drop rfl rfl ⟨24, _, rfl, rfl, rfl⟩ <| LD.drop rfl rfl ⟨24, _, rfl, rfl, rfl⟩ <| LD.drop rfl rfl ⟨24, _, rfl, rfl, rfl⟩ <| LD.drop rfl rfl ⟨24, _, rfl, rfl, rfl⟩ <| LD.drop rfl rfl ⟨24, _, rfl, rfl, rfl⟩ <| LD.drop rfl rfl ⟨24, _, rfl, rfl, rfl⟩ <| LD.drop rfl rfl ⟨24, _, rfl, rfl, rfl⟩ ?_
  refine LD.val rfl rfl (ov_pickF rfl rfl) ?_
  refine LD.val rfl rfl (ov_move rfl) <| LD.drop rfl rfl ⟨39, _, rfl, rfl, rfl⟩ <| LD.drop rfl rfl ⟨39, _, rfl, rfl, rfl⟩ <| LD.drop rfl rfl ⟨39, _, rfl, rfl, rfl⟩ <| LD.drop rfl rfl ⟨39, _, rfl, rfl, rfl⟩ <| LD.drop rfl rfl ⟨39, _, rfl, rfl, rfl⟩ <| LD.drop rfl rfl ⟨39, _, rfl, rfl, rfl⟩ <| LD.drop rfl rfl ⟨39, _, rfl, rfl, rfl⟩ <| LD.drop rfl rfl ⟨39, _, rfl, rfl, rfl⟩ <| LD.drop rfl rfl ⟨39, _, rfl, rfl, rfl⟩ <| LD.drop rfl rfl ⟨39, _, rfl, rfl, rfl⟩ <| LD.drop rfl rfl ⟨39, _, rfl, rfl, rfl⟩ <| LD.drop rfl rfl ⟨39, _, rfl, rfl, rfl⟩ <| LD.drop rfl rfl ⟨39, _, rfl, rfl, rfl⟩ ?_
  refine LD.val rfl rfl (ov_pickF rfl rfl) ?_
  refine LD.val rfl rfl (ov_assign rfl) <| LD.nil ?_
  refine QM.sub (e' := [(6, _)]) ⟨rfl, trivial⟩ (QM.then ?_)
  refine wpM.ret ?_
  refine qL Tryd.results61 rfl fun w' hm' hc' hg' => ?_
  refine ⟨?_, hc'⟩; simp only [resV, isE]; rw [decide_eq_false (show ¬ i < ws.length by omega)]; simp only [Bool.and_false, Bool.false_and]
 refine LD.drop rfl rfl ⟨12, _, rfl, rfl, rfl⟩ <| LD.drop rfl rfl ⟨12, _, rfl, rfl, rfl⟩ <| LD.drop rfl rfl ⟨12, _, rfl, rfl, rfl⟩ <| LD.drop rfl rfl ⟨12, _, rfl, rfl, rfl⟩ <| LD.drop rfl rfl ⟨12, _, rfl, rfl, rfl⟩ <| LD.drop rfl rfl ⟨12, _, rfl, rfl, rfl⟩ <| LD.drop rfl rfl ⟨12, _, rfl, rfl, rfl⟩ <| LD.drop rfl rfl ⟨12, _, rfl, rfl, rfl⟩ <| LD.drop rfl rfl ⟨12, _, rfl, rfl, rfl⟩ <| LD.drop rfl rfl ⟨12, _, rfl, rfl, rfl⟩ ?_
 refine LD.val rfl rfl (ov_pickF rfl rfl) ?_
 refine LD.val rfl rfl (ov_move rfl) <| LD.drop rfl rfl ⟨24, _, rfl, rfl, rfl⟩ <| LD.drop rfl rfl ⟨24, _, rfl, rfl, rfl⟩ <| LD.drop rfl rfl ⟨24, _, rfl, rfl, rfl⟩ <| LD.drop rfl rfl ⟨24, _, rfl, rfl, rfl⟩ <| LD.drop rfl rfl ⟨24, _, rfl, rfl, rfl⟩ <| LD.drop rfl rfl ⟨24, _, rfl, rfl, rfl⟩ <| LD.drop rfl rfl ⟨24, _, rfl, rfl, rfl⟩ <| LD.drop rfl rfl ⟨24, _, rfl, rfl, rfl⟩ <| LD.drop rfl rfl ⟨24, _, rfl, rfl, rfl⟩ <| LD.drop rfl rfl ⟨24, _, rfl, rfl, rfl⟩ <| LD.drop rfl rfl ⟨24, _, rfl, rfl, rfl⟩ <| LD.drop rfl rfl ⟨24, _, rfl, rfl, rfl⟩ <| LD.drop rfl rfl ⟨24, _, rfl, rfl, rfl⟩ ?_
 refine LD.val rfl rfl (ov_pickF rfl rfl) ?_
 refine LD.val rfl rfl (ov_move rfl) <| LD.drop rfl rfl ⟨39, _, rfl, rfl, rfl⟩ <| LD.drop rfl rfl ⟨39, _, rfl, rfl, rfl⟩ <| LD.drop rfl rfl ⟨39, _, rfl, rfl, rfl⟩ <| LD.drop rfl rfl ⟨39, _, rfl, rfl, rfl⟩ <| LD.drop rfl rfl ⟨39, _, rfl, rfl, rfl⟩ <| LD.drop rfl rfl ⟨39, _, rfl, rfl, rfl⟩ <| LD.drop rfl rfl ⟨39, _, rfl, rfl, rfl⟩ <| LD.drop rfl rfl ⟨39, _, rfl, rfl, rfl⟩ <| LD.drop rfl rfl ⟨39, _, rfl, rfl, rfl⟩ <| LD.drop rfl rfl ⟨39, _, rfl, rfl, rfl⟩ <| LD.drop rfl rfl ⟨39, _, rfl, rfl, rfl⟩ <| LD.drop rfl rfl ⟨39, _, rfl, rfl, rfl⟩ <| LD.drop rfl rfl ⟨39, _, rfl, rfl, rfl⟩ ?_
 refine LD.val rfl rfl (ov_pickF rfl rfl) ?_
 refine LD.val rfl rfl (ov_assign rfl) <| LD.nil ?_
 refine QM.sub (e' := [(6, _)]) ⟨rfl, trivial⟩ (QM.then ?_)
 refine wpM.ret ?_
 refine qL Tryd.results61 rfl fun w' hm' hc' hg' => ?_
 refine ⟨?_, hc'⟩; simp only [resV, isE]; rw [decide_eq_false h1]; simp only [Bool.and_false, Bool.false_and]
theorem qneed_spec {ws : List Wrd} (b : Nat) {ad : Option Addr} {n cap : Nat} (i : Nat) (e k : Int) (t : List UInt8) (w : World) (hn : n = ws.length) (hx : ws.length ≤ 1000000000) (hl : Sr fW 4 ws (.slice ad n cap) w) (hab : 0 < ws.length → adB ad ≠ b) (hM : Mem w [qB b ad n cap i e]) : Ret Tryd.prog 60 #[.pointer (some ⟨b, 0, none⟩), .int .i64 k, vS t] w (WrP b (.tuple #[]) (qO ad n cap (needE ws i e k t).1 (needE ws i e k t).2) w) := by
 refine Ret.enterM Tryd.func60 rfl Tryd.ntmps60 rfl ([qB b ad n cap i e]) ((fun x => x = b)) hM ?_
 refine wR <| LM.mv rfl <| LM.mv rfl <| LM.mv rfl ?_
 refine cE Tryd.func61 rfl (fun w hm hc hg => qis_spec b i e k t w hn (hl.kp hc hab) (hm.pick _)) ?_
 refine nA [(0, _), (9, _)] ?_
 refine wpM.condB rfl (fun h1 => ?_) (fun h1 => ?_)
 ·
  have hlt := (isE_lt h1).1
  refine wpM.region ?_
  refine LM.mv rfl <| LM.nc rfl <| LM.val (ovf 3 rfl rfl rfl rfl) ?_
  refine LM.rd (oml rfl rfl rfl) ?_
  refine LM.val (ov_add64 rfl rfl om) ?_
  refine LM.nc rfl <| LM.val (ovf 3 rfl rfl rfl rfl) ?_
  refine LM.st Tryd.sizeOf3 rfl rfl rfl au5 rfl (fun _ => rfl) ?_
  refine LM.nil (QM.sub (e' := []) trivial ?_)
  refine QM.leave (.inr rfl) [] Tryd.results60 rfl ?_
  intro w' hm' hc' hg'
  refine ⟨rfl, hc', ?_⟩; have h3 := hm'.at b; unfold needE; rw [if_pos h1]; exact h3
 refine wR <| LM.mv rfl <| LM.nc rfl <| LM.val (ovf 3 rfl rfl rfl rfl) ?_
 refine LM.rd (oml rfl rfl rfl) ?_
 refine LM.val (ov_eql rfl rfl) <| nA [(0, _), (21, _)] ?_
 refine wpM.condD rfl (fun h2 => ?_) (fun h2 => ?_)
 ·
  refine wpM.region ?_
  refine LM.mv rfl <| LM.nc rfl <| LM.val (ovf 3 rfl rfl rfl rfl) ?_
  refine LM.st Tryd.sizeOf3 rfl rfl rfl au5 rfl (fun _ => rfl) ?_
  refine LM.nil (QM.sub (e' := []) trivial ?_)
  refine QM.leave (.inr rfl) [] Tryd.results60 rfl ?_
  intro w' hm' hc' hg'
  refine ⟨rfl, hc', ?_⟩; have h3 := hm'.at b; unfold needE; rw [if_neg (by rw [h1]; simp), if_pos h2]; exact h3
 refine wpM.skip ?_
 refine QM.leave (.inr rfl) [] Tryd.results60 rfl ?_
 intro w' hm' hc' hg'
 refine ⟨rfl, hc', ?_⟩; have h3 := hm'.at b; unfold needE; rw [if_neg (by rw [h1]; simp), if_neg h2]; exact h3
set_option maxHeartbeats 1000000 in
theorem qfield_spec {ws : List Wrd} (b : Nat) {ad : Option Addr} {n cap : Nat} (i : Nat) (e most : Int) (nm : List UInt8) (w : World) (hn : n = ws.length) (hx : ws.length ≤ 1000000000) (hl : Sr fW 4 ws (.slice ad n cap) w) (hab : 0 < ws.length → adB ad ≠ b) (hM : Mem w [qB b ad n cap i e]) : Ret Tryd.prog 59 #[.pointer (some ⟨b, 0, none⟩), vS nm, .int .i64 most] w (WrP b (.int .i64 (fldE ws i e nm most).2.2) (qO ad n cap (fldE ws i e nm most).1 (fldE ws i e nm most).2.1) w) := by
 refine Ret.enterM Tryd.func59 rfl Tryd.ntmps59 rfl ([qB b ad n cap i e]) ((fun x => x = b)) hM ?_
 refine wR <| LM.as rfl <| nB [(0, _), (1, _), (2, _)] <| LM.mv rfl <| LM.mv rfl ?_
 refine LM.cW (oc_call (enters_fn Tryd.func60 kr rfl) rfl) (fun w hm hc hg => qneed_spec b i e 1 nm w hn hx (hl.kp hc hab) hab (hm.pick _)) rfl (fun _ => rfl) ?_
 refine nA [(0, _), (2, _)] <| wpM.seq <| wR <| LM.mv rfl <| LM.nc rfl <| LM.val (ovf 3 rfl rfl rfl rfl) ?_
 refine LM.rd (oml rfl rfl rfl) ?_
 refine LM.val (ov_neq rfl rfl) <| nA [(0, _), (2, _), (15, _)] ?_
 refine wpM.condD rfl (fun h1 => ?_) (fun h1 => ?_)
 ·
  refine wR <| LM.as rfl <| nA [(6, _)] <| wpM.ret <| QM.then_ret ?_
  refine qL Tryd.results59 rfl fun w' hm' hc' hg' => ?_
  unfold fldE; rw [num_b h1]; exact ⟨rfl, hc', hm'.at b⟩
 have he0 : (needE ws i e 1 nm).2 = 0 := Classical.not_not.1 h1
 refine wpM.skip <| QM.then <| wpM.seq <| wpM.seq ?_
 refine wpM.draw [(0, 0), (1, 0), (2, 0), (3, 1), (4, 0), (5, 0), (6, 0), (7, 1), (8, 0), (9, 0), (10, 0), (11, 0), (12, 0), (13, 0), (14, 1), (15, 0), (16, 0), (17, 0), (18, 1), (19, 0), (20, 0), (21, 1), (22, 0), (23, 0)] kr kr ?_
 refine LD.val rfl rfl (ov_move rfl) <| LD.val rfl rfl (ov_nilCheck rfl) <| LD.val rfl rfl (ovf 3 rfl rfl rfl rfl) ?_
 refine LD.rd rfl rfl (oml rfl rfl rfl) ?_
 refine LD.val rfl rfl (ov_move rfl) <| LD.val rfl rfl (ov_nilCheck rfl) <| LD.val rfl rfl (ovf 85 rfl rfl rfl rfl) ?_
 refine LD.rd rfl rfl (oml rfl rfl rfl) ?_
 refine LD.val rfl rfl (ov_len Tryd.underlying85 rfl) ?_
 refine LD.val rfl rfl (ov_geq rfl rfl) ?_
 refine LD.val rfl rfl (ov_move rfl) ?_
 refine LD.splitD (t := 26) rfl (fun h2 => ?_) (fun h2 => ?_)
 ·
  refine LD.drop rfl rfl ⟨26, _, rfl, rfl, rfl⟩ <| LD.drop rfl rfl ⟨26, _, rfl, rfl, rfl⟩ <| LD.drop rfl rfl ⟨26, _, rfl, rfl, rfl⟩ <| LD.drop rfl rfl ⟨26, _, rfl, rfl, rfl⟩ <| LD.drop rfl rfl ⟨26, _, rfl, rfl, rfl⟩ <| LD.drop rfl rfl ⟨26, _, rfl, rfl, rfl⟩ <| LD.drop rfl rfl ⟨26, _, rfl, rfl, rfl⟩ <| LD.drop rfl rfl ⟨26, _, rfl, rfl, rfl⟩ <| LD.drop rfl rfl ⟨26, _, rfl, rfl, rfl⟩ <| LD.drop rfl rfl ⟨26, _, rfl, rfl, rfl⟩ <| LD.drop rfl rfl ⟨26, _, rfl, rfl, rfl⟩ <| LD.drop rfl rfl ⟨26, _, rfl, rfl, rfl⟩ ?_
  refine LD.val rfl rfl (ov_pickT rfl rfl) ?_
  refine LD.nil ?_
  refine QM.sub (e' := [(0, _), (2, _), (39, _)]) au9 (QM.then ?_)
  refine wpM.condT rfl ?_
  refine wR <| LM.mv rfl <| LM.nc rfl <| LM.val (ovf 3 rfl rfl rfl rfl) ?_
  refine LM.st Tryd.sizeOf3 rfl rfl rfl au5 rfl (fun _ => rfl) ?_
  refine LM.nil (QM.sub (e' := []) trivial (QM.then (wpM.seq (wpM.region ?_))))
  refine LM.as rfl <| nA [(6, _)] <| wpM.ret <| QM.then_ret ?_
  refine qL Tryd.results59 rfl fun w' hm' hc' hg' => ?_
  unfold fldE; rw [he0, num_c (by decide) (.inl om)]; exact ⟨rfl, hc', hm'.at b⟩
 refine LD.val rfl ⟨26, _, rfl, rfl, rfl⟩ (ov_move rfl) <| LD.val rfl ⟨26, _, rfl, rfl, rfl⟩ (ov_nilCheck rfl) <| LD.val rfl ⟨26, _, rfl, rfl, rfl⟩ (ovf 85 rfl rfl rfl rfl) ?_
 refine LD.rd rfl ⟨26, _, rfl, rfl, rfl⟩ (oml rfl rfl rfl) ?_
 refine LD.val rfl ⟨26, _, rfl, rfl, rfl⟩ (ov_move rfl) <| LD.val rfl ⟨26, _, rfl, rfl, rfl⟩ (ov_nilCheck rfl) <| LD.val rfl ⟨26, _, rfl, rfl, rfl⟩ (ovf 3 rfl rfl rfl rfl) ?_
 refine LD.rd rfl ⟨26, _, rfl, rfl, rfl⟩ (oml rfl rfl rfl) ?_
 refine LD.val rfl ⟨26, _, rfl, rfl, rfl⟩ (ov_idxSN au6 Tryd.underlying85 Tryd.sizeOf104 rfl rfl om) ?_
 refine LD.val rfl ⟨26, _, rfl, rfl, rfl⟩ (ovf 3 rfl rfl rfl rfl) ?_
 refine LD.rdC rfl ⟨26, _, rfl, rfl, rfl⟩ (om_srE (j := 0) asm Tryd.isAgg3 rfl rfl au3 (by rfl) (by rfl) (by exact hab om)) ?_
 refine LD.val rfl ⟨26, _, rfl, rfl, rfl⟩ (ov_neq rfl rfl) ?_
 refine LD.val rfl rfl (ov_pickF rfl rfl) ?_
 refine LD.nil ?_
 refine QM.sub (e' := [(0, _), (2, _), (39, _)]) au9 (QM.then ?_)
 refine wpM.condD rfl (fun h3 => ?_) (fun h3 => ?_)
 ·
  refine wR <| LM.mv rfl <| LM.nc rfl <| LM.val (ovf 3 rfl rfl rfl rfl) ?_
  refine LM.st Tryd.sizeOf3 rfl rfl rfl au5 rfl (fun _ => rfl) ?_
  refine LM.nil (QM.sub (e' := []) trivial (QM.then (wpM.seq (wpM.region ?_))))
  refine LM.as rfl <| nA [(6, _)] <| wpM.ret <| QM.then_ret ?_
  refine qL Tryd.results59 rfl fun w' hm' hc' hg' => ?_
  unfold fldE; rw [he0, num_c (by decide) (.inr h3)]; exact ⟨rfl, hc', hm'.at b⟩
 refine wpM.skip <| QM.then <| wpM.seq ?_
 refine wpM.draw [(0, 0), (1, 0), (2, 0), (3, 1), (4, 0), (5, 0), (6, 0), (7, 1), (8, 0), (9, 0), (10, 1), (11, 0)] kr kr ?_
 refine LD.val rfl rfl (ov_move rfl) <| LD.val rfl rfl (ov_nilCheck rfl) <| LD.val rfl rfl (ovf 85 rfl rfl rfl rfl) ?_
 refine LD.rd rfl rfl (oml rfl rfl rfl) ?_
 refine LD.val rfl rfl (ov_move rfl) <| LD.val rfl rfl (ov_nilCheck rfl) <| LD.val rfl rfl (ovf 3 rfl rfl rfl rfl) ?_
 refine LD.rd rfl rfl (oml rfl rfl rfl) ?_
 refine LD.val rfl rfl (ov_idxSN au6 Tryd.underlying85 Tryd.sizeOf104 rfl rfl om) ?_
 refine LD.val rfl rfl (ovf 3 rfl rfl rfl rfl) ?_
 refine LD.rdC rfl rfl (om_srE (j := 2) asm Tryd.isAgg3 rfl rfl au3 (by rfl) (by rfl) (by exact hab om)) ?_
 refine LD.val rfl rfl (ov_assign rfl) <| LD.nil ?_
 refine QM.sub (e' := [(0, _), (2, _), (7, _)]) au9 (QM.then ?_)
 refine wpM.seq <| wR <| LM.mv rfl <| LM.val (ov_lss rfl rfl) <| LM.mv rfl ?_
 refine LM.splitD (t := 56) rfl (fun h4 => ?_) (fun h4 => ?_)
 ·
  refine LM.dr 56 rfl rfl rfl <| LM.dr 56 rfl rfl rfl <| LM.dr 56 rfl rfl rfl <| LM.val (ov_pickT rfl rfl) <| nA [(0, _), (7, _), (60, _)] ?_
  refine wpM.condT rfl ?_
  refine wR <| LM.mv rfl <| LM.nc rfl <| LM.val (ovf 3 rfl rfl rfl rfl) ?_
  refine LM.st Tryd.sizeOf3 rfl rfl rfl au5 rfl (fun _ => rfl) ?_
  refine LM.nil (QM.sub (e' := []) trivial (QM.then (wpM.seq (wpM.region ?_))))
  refine LM.as rfl <| nA [(6, _)] <| wpM.ret <| QM.then_ret ?_
  refine qL Tryd.results59 rfl fun w' hm' hc' hg' => ?_
  unfold fldE; rw [he0, num_d (by decide) om (Classical.not_not.1 h3) (by unfold hasB; rw [if_neg (by decide), decide_eq_false om]; rfl)]; exact ⟨rfl, hc', hm'.at b⟩
 refine LM.sp 56 rfl rfl rfl <| LM.mv rfl <| LM.sp 56 rfl rfl rfl <| LM.mv rfl <| LM.sp 56 rfl rfl rfl <| LM.val (ov_gtr rfl rfl) <| LM.val (ov_pickF rfl rfl) <| nA [(0, _), (7, _), (60, _)] ?_
 refine wpM.condD rfl (fun h5 => ?_) (fun h5 => ?_)
 ·
  refine wR <| LM.mv rfl <| LM.nc rfl <| LM.val (ovf 3 rfl rfl rfl rfl) ?_
  refine LM.st Tryd.sizeOf3 rfl rfl rfl au5 rfl (fun _ => rfl) ?_
  refine LM.nil (QM.sub (e' := []) trivial (QM.then (wpM.seq (wpM.region ?_))))
  refine LM.as rfl <| nA [(6, _)] <| wpM.ret <| QM.then_ret ?_
  refine qL Tryd.results59 rfl fun w' hm' hc' hg' => ?_
  unfold fldE; rw [he0, num_d (by decide) om (Classical.not_not.1 h3) (by unfold hasB; rw [if_neg (by decide), decide_eq_true om, decide_eq_false om]; rfl)]; exact ⟨rfl, hc', hm'.at b⟩
 refine wpM.skip <| tR <| LM.mv rfl <| LM.nc rfl <| LM.val (ovf 3 rfl rfl rfl rfl) ?_
 refine LM.rd (oml rfl rfl rfl) ?_
 refine LM.val (ov_add64 rfl rfl om) ?_
 refine LM.nc rfl <| LM.val (ovf 3 rfl rfl rfl rfl) ?_
 refine LM.st Tryd.sizeOf3 rfl rfl rfl au5 rfl (fun _ => rfl) ?_
 refine nB [(7, _)] <| LM.mv rfl <| LM.as rfl <| nA [(6, _)] <| wpM.ret ?_
 refine qL Tryd.results59 rfl fun w' hm' hc' hg' => ?_
 unfold fldE; rw [he0, num_e (by decide) om (Classical.not_not.1 h3) (by unfold hasB; rw [if_neg (by decide), decide_eq_true om, decide_eq_true om]; rfl)]; exact ⟨rfl, hc', by have := hm'.at b; rw [he0] at this; exact this⟩
theorem qlong_spec {ws : List Wrd} (b : Nat) {ad : Option Addr} {n cap : Nat} (i : Nat) (e k most : Int) (w : World) (hM : Mem w [qB b ad n cap i e]) : Ret Tryd.prog 62 #[.pointer (some ⟨b, 0, none⟩), .int .i64 k, .int .i64 most] w (WrP b (.bool (decide (e ≠ 0) || decide (most ≤ k))) (qO ad n cap i (if e = 0 ∧ most ≤ k then 6 else e)) w) := by
 refine Ret.enterM Tryd.func62 rfl Tryd.ntmps62 rfl ([qB b ad n cap i e]) ((fun x => x = b)) hM ?_
 refine wR <| LM.as rfl <| nA [(0, _), (1, _), (2, _)] <| wpM.seq <| wR <| LM.mv rfl <| LM.nc rfl <| LM.val (ovf 3 rfl rfl rfl rfl) ?_
 refine LM.rd (oml rfl rfl rfl) ?_
 refine LM.val (ov_eql rfl rfl) <| LM.mv rfl ?_
 refine LM.splitD (t := 12) rfl (fun h1 => ?_) (fun h1 => ?_)
 ·
  refine LM.sp 12 rfl rfl rfl <| LM.mv rfl <| LM.sp 12 rfl rfl rfl <| LM.mv rfl <| LM.sp 12 rfl rfl rfl <| LM.val (ov_geq rfl rfl) <| LM.val (ov_pickT rfl rfl) <| nA [(0, _), (16, _)] ?_
  refine wpM.condD rfl (fun h2 => ?_) (fun h2 => ?_)
  ·
   refine wpM.region ?_
   refine LM.mv rfl <| LM.nc rfl <| LM.val (ovf 3 rfl rfl rfl rfl) ?_
   refine LM.st Tryd.sizeOf3 rfl rfl rfl au5 rfl (fun _ => rfl) ?_
   refine nB [(0, _)] <| LM.mv rfl <| LM.nc rfl <| LM.val (ovf 3 rfl rfl rfl rfl) ?_
   refine LM.rd (oml rfl rfl rfl) ?_
   refine LM.val (ov_neq rfl rfl) <| LM.as rfl <| nA [(6, _)] <| wpM.ret ?_
   refine qL Tryd.results62 rfl fun w' hm' hc' hg' => ?_
   refine ⟨?_, hc', ?_⟩; (rw [decide_eq_true (show most ≤ k from h2), Bool.or_true]; rfl); (rw [if_pos ⟨h1, h2⟩]; exact hm'.at b)
  refine wpM.skip <| tR <| LM.mv rfl <| LM.nc rfl <| LM.val (ovf 3 rfl rfl rfl rfl) ?_
  refine LM.rd (oml rfl rfl rfl) ?_
  refine LM.val (ov_neq rfl rfl) <| LM.as rfl <| nA [(6, _)] <| wpM.ret ?_
  refine qL Tryd.results62 rfl fun w' hm' hc' hg' => ?_
  refine ⟨?_, hc', ?_⟩; (rw [decide_eq_false (show ¬ most ≤ k from h2), Bool.or_false]; rfl); (rw [if_neg (fun q => h2 q.2)]; exact hm'.at b)
 refine LM.dr 12 rfl rfl rfl <| LM.dr 12 rfl rfl rfl <| LM.dr 12 rfl rfl rfl <| LM.val (ov_pickF rfl rfl) <| nA [(0, _), (16, _)] ?_
 refine wpM.condF rfl ?_
 refine wpM.skip <| tR <| LM.mv rfl <| LM.nc rfl <| LM.val (ovf 3 rfl rfl rfl rfl) ?_
 refine LM.rd (oml rfl rfl rfl) ?_
 refine LM.val (ov_neq rfl rfl) <| LM.as rfl <| nA [(6, _)] <| wpM.ret ?_
 refine qL Tryd.results62 rfl fun w' hm' hc' hg' => ?_
 refine ⟨?_, hc', ?_⟩; (rw [decide_eq_true (show e ≠ 0 from h1)]; rfl); (rw [if_neg (fun q => h1 q.1)]; exact hm'.at b)
set_option maxHeartbeats 1000000 in
theorem qlockT_spec {ws : List Wrd} (b : Nat) {ad : Option Addr} {n cap : Nat} (i : Nat) (e : Int) (w : World) (hn : n = ws.length) (hx : ws.length ≤ 1000000000) (hl : Sr fW 4 ws (.slice ad n cap) w) (hab : 0 < ws.length → adB ad ≠ b) (hM : Mem w [qB b ad n cap i e]) : Ret Tryd.prog 63 #[.pointer (some ⟨b, 0, none⟩), .bool true] w (WrP b (.agg (fL (lckE ws true i e).2.2).toArray) (qO ad n cap (lckE ws true i e).1 (lckE ws true i e).2.1) w) := by
 refine Ret.enterM Tryd.func63 rfl Tryd.ntmps63 rfl ([qB b ad n cap i e]) ((fun x => x = b)) hM ?_
 refine wR ?_
 refine LM.alloc Tryd.zeroValue53 rfl (fun b4 hb4 => ?_)
 refine nB [(0, _), (1, _), (4, _)] <| LM.mv rfl ?_
 refine LM.val (ov_build (cs := #[_, _, _, _, _]) rfl (by first | rfl | kernel_rfl)) ?_
 refine LM.alloc Tryd.zeroValue53 rfl (fun b5 hb5 => ?_)
 refine LM.stW Tryd.sizeOf53 rfl rfl rfl rfl au7 (fun hlt => by first | exact rfl | exact absurd hlt om) ?_
 refine nB [(0, _), (1, _), (4, _), (5, _)] <| LM.mv rfl ?_
 refine LM.cW (oc_call (enters_fn Tryd.func59 kr rfl) rfl) (fun w hm hc hg => qfield_spec b i e 16 wSlice w hn hx (hl.kp hc hab) hab (SubM.mem au1 w hm)) rfl (fun hlt => by first | exact rfl | exact absurd hlt om) ?_
 refine LM.val (ovf 3 rfl rfl rfl rfl) ?_
 refine LM.st Tryd.sizeOf3 rfl rfl rfl au5 rfl (fun hlt => by first | exact rfl | exact absurd hlt om) ?_
 refine nB [(0, _), (1, _), (4, _), (5, _)] <| LM.mv rfl ?_
 refine LM.cW (oc_call (enters_fn Tryd.func59 kr rfl) rfl) (fun w hm hc hg => qfield_spec b (lkA ws i e).1 (lkA ws i e).2.1 32 wCrit w hn hx (hl.kp hc hab) hab (SubM.mem au1 w hm)) rfl (fun hlt => by first | exact rfl | exact absurd hlt om) ?_
 refine LM.val (ovf 3 rfl rfl rfl rfl) ?_
 refine LM.st Tryd.sizeOf3 rfl rfl rfl au5 rfl (fun hlt => by first | exact rfl | exact absurd hlt om) ?_
 refine nA [(0, _), (1, _), (4, _), (5, _)] <| wpM.seq <| wR <| LM.mv rfl <| nA [(0, _), (4, _), (5, _), (14, _)] ?_
 refine wpM.condB rfl (fun h1 => ?_) (fun h1 => ?_)
 ·
  refine wR <| LM.mv rfl ?_
  refine LM.cW (oc_call (enters_fn Tryd.func59 kr rfl) rfl) (fun w hm hc hg => qfield_spec b (lkB ws i e).1 (lkB ws i e).2.1 16 wRead w hn hx (hl.kp hc hab) hab (SubM.mem au1 w hm)) rfl (fun hlt => by first | exact rfl | exact absurd hlt om) ?_
  refine LM.val (ovf 3 rfl rfl rfl rfl) ?_
  refine LM.st Tryd.sizeOf3 rfl rfl rfl au5 rfl (fun hlt => by first | exact rfl | exact absurd hlt om) ?_
  refine LM.nil (QM.sub (e' := [(0, _), (4, _), (5, _)]) au9 (QM.then (wpM.region ?_)))
  refine LM.mv rfl ?_
  refine LM.cW (oc_call (enters_fn Tryd.func59 kr rfl) rfl) (fun w hm hc hg => qfield_spec b (lkC ws true i e).1 (lkC ws true i e).2.1 16 wWrite w hn hx (hl.kp hc hab) hab (SubM.mem au1 w hm)) rfl (fun hlt => by first | exact rfl | exact absurd hlt om) ?_
  refine LM.val (ovf 3 rfl rfl rfl rfl) ?_
  refine LM.st Tryd.sizeOf3 rfl rfl rfl au5 rfl (fun hlt => by first | exact rfl | exact absurd hlt om) ?_
  refine nB [(0, _), (4, _), (5, _)] <| LM.mv rfl ?_
  refine LM.cW (oc_call (enters_fn Tryd.func60 kr rfl) rfl) (fun w hm hc hg => qneed_spec b (lkD ws true i e).1 (lkD ws true i e).2.1 3 [59] w hn hx (hl.kp hc hab) hab (SubM.mem au1 w hm)) rfl (fun hlt => by first | exact rfl | exact absurd hlt om) ?_
  refine nB [(4, _), (5, _)] ?_
  refine LM.rd (om_ldW Tryd.isAgg53 Tryd.sizeOf53 rfl rfl) ?_
  refine LM.stW Tryd.sizeOf53 rfl rfl rfl rfl au7 (fun hlt => by first | exact rfl | exact absurd hlt om) ?_
  refine nA [(4, _)] <| wpM.ret ?_
  refine QM.leaveCs (ds := ([])) (.inl rfl) [.cell 4 53] Tryd.results63 hd_nil (rc_w rfl Tryd.isAgg53 Tryd.sizeOf53 rfl rc_nil) ?_
  intro w' hm' hc'
  exact ⟨rfl, hc', hm'.at b⟩
 cases h1
set_option maxHeartbeats 1000000 in
theorem qlockF_spec {ws : List Wrd} (b : Nat) {ad : Option Addr} {n cap : Nat} (i : Nat) (e : Int) (w : World) (hn : n = ws.length) (hx : ws.length ≤ 1000000000) (hl : Sr fW 4 ws (.slice ad n cap) w) (hab : 0 < ws.length → adB ad ≠ b) (hM : Mem w [qB b ad n cap i e]) : Ret Tryd.prog 63 #[.pointer (some ⟨b, 0, none⟩), .bool false] w (WrP b (.agg (fL (lckE ws false i e).2.2).toArray) (qO ad n cap (lckE ws false i e).1 (lckE ws false i e).2.1) w) := by
 refine Ret.enterM Tryd.func63 rfl Tryd.ntmps63 rfl ([qB b ad n cap i e]) ((fun x => x = b)) hM ?_
 refine wR ?_
 refine LM.alloc Tryd.zeroValue53 rfl (fun b4 hb4 => ?_)
 refine nB [(0, _), (1, _), (4, _)] <| LM.mv rfl ?_
 refine LM.val (ov_build (cs := #[_, _, _, _, _]) rfl (by first | rfl | kernel_rfl)) ?_
 refine LM.alloc Tryd.zeroValue53 rfl (fun b5 hb5 => ?_)
 refine LM.stW Tryd.sizeOf53 rfl rfl rfl rfl au7 (fun hlt => by first | exact rfl | exact absurd hlt om) ?_
 refine nB [(0, _), (1, _), (4, _), (5, _)] <| LM.mv rfl ?_
 refine LM.cW (oc_call (enters_fn Tryd.func59 kr rfl) rfl) (fun w hm hc hg => qfield_spec b i e 16 wSlice w hn hx (hl.kp hc hab) hab (SubM.mem au1 w hm)) rfl (fun hlt => by first | exact rfl | exact absurd hlt om) ?_
 refine LM.val (ovf 3 rfl rfl rfl rfl) ?_
 refine LM.st Tryd.sizeOf3 rfl rfl rfl au5 rfl (fun hlt => by first | exact rfl | exact absurd hlt om) ?_
 refine nB [(0, _), (1, _), (4, _), (5, _)] <| LM.mv rfl ?_
 refine LM.cW (oc_call (enters_fn Tryd.func59 kr rfl) rfl) (fun w hm hc hg => qfield_spec b (lkA ws i e).1 (lkA ws i e).2.1 32 wCrit w hn hx (hl.kp hc hab) hab (SubM.mem au1 w hm)) rfl (fun hlt => by first | exact rfl | exact absurd hlt om) ?_
 refine LM.val (ovf 3 rfl rfl rfl rfl) ?_
 refine LM.st Tryd.sizeOf3 rfl rfl rfl au5 rfl (fun hlt => by first | exact rfl | exact absurd hlt om) ?_
 refine nA [(0, _), (1, _), (4, _), (5, _)] <| wpM.seq <| wR <| LM.mv rfl <| nA [(0, _), (4, _), (5, _), (14, _)] ?_
 refine wpM.condB rfl (fun h1 => ?_) (fun h1 => ?_)
 ·
  cases h1
 refine wpM.skip <| tR <| LM.mv rfl ?_
 refine LM.cW (oc_call (enters_fn Tryd.func60 kr rfl) rfl) (fun w hm hc hg => qneed_spec b (lkD ws false i e).1 (lkD ws false i e).2.1 3 [59] w hn hx (hl.kp hc hab) hab (SubM.mem au1 w hm)) rfl (fun hlt => by first | exact rfl | exact absurd hlt om) ?_
 refine nB [(4, _), (5, _)] ?_
 refine LM.rd (om_ldW Tryd.isAgg53 Tryd.sizeOf53 rfl rfl) ?_
 refine LM.stW Tryd.sizeOf53 rfl rfl rfl rfl au7 (fun hlt => by first | exact rfl | exact absurd hlt om) ?_
 refine nA [(4, _)] <| wpM.ret ?_
 refine QM.leaveCs (ds := ([])) (.inl rfl) [.cell 4 53] Tryd.results63 hd_nil (rc_w rfl Tryd.isAgg53 Tryd.sizeOf53 rfl rc_nil) ?_
 intro w' hm' hc'
 exact ⟨rfl, hc', hm'.at b⟩
theorem qlock_spec {ws : List Wrd} (sh : Bool) (b : Nat) {ad : Option Addr} {n cap : Nat} (i : Nat) (e : Int) (w : World) (hn : n = ws.length) (hx : ws.length ≤ 1000000000) (hl : Sr fW 4 ws (.slice ad n cap) w) (hab : 0 < ws.length → adB ad ≠ b) (hM : Mem w [qB b ad n cap i e]) :
    Ret Tryd.prog 63 #[.pointer (some ⟨b, 0, none⟩), .bool sh] w (WrP b (.agg (fL (lckE ws sh i e).2.2).toArray) (qO ad n cap (lckE ws sh i e).1 (lckE ws sh i e).2.1) w) := by
  cases sh
  · exact qlockF_spec b i e w hn hx hl hab hM
  · exact qlockT_spec b i e w hn hx hl hab hM
end Go.Eng
namespace Go.Eng
open Go Go.Proofs Go.RowKit Go.ChangeShapes Go.WideShapes
theorem rdb_api_Op : Rdb Tryd.prog 70 fO (fun a => (-9223372036854775808 ≤ a.k ∧ a.k ≤ 9223372036854775807) ∧ (-9223372036854775808 ≤ a.a ∧ a.a ≤ 9223372036854775807) ∧ (-9223372036854775808 ≤ a.b ∧ a.b ≤ 9223372036854775807)) := fun {H enc w base sp held fuel cs x} h => by
  obtain ⟨h1, h2⟩ := trod_fields Tryd.underlying70 h
  rw [show Tryd.prog.cellsOf 70 = 3 by kernel_rfl] at h1
  have c3 : Tryd.prog.cellsOf 3 = 1 := by kernel_rfl
  match cs, h1 with
  | [a0, a1, a2], _ =>
    simp only [List.forall_mem_cons, c3, List.drop_succ_cons, List.drop_zero, List.take_succ_cons, List.take_zero] at h2
    obtain ⟨⟨_, _, f0⟩, ⟨_, _, f1⟩, ⟨_, _, f2⟩, _⟩ := h2
    obtain ⟨m0, e0, _, w0⟩ := DataW.trod_int Tryd.underlying3 f0
    obtain ⟨m1, e1, _, w1⟩ := DataW.trod_int Tryd.underlying3 f1
    obtain ⟨m2, e2, _, w2⟩ := DataW.trod_int Tryd.underlying3 f2
    simp only [List.cons.injEq, and_true] at e0 e1 e2
    subst e0
    subst e1
    subst e2
    exact ⟨⟨m0, m1, m2⟩, rfl, ⟨bounds_i64 w0, bounds_i64 w1, bounds_i64 w2⟩⟩
theorem rdb_api_Lock : Rdb Tryd.prog 53 fL (fun a => (-9223372036854775808 ≤ a.sl ∧ a.sl ≤ 9223372036854775807) ∧ (-9223372036854775808 ≤ a.cr ∧ a.cr ≤ 9223372036854775807) ∧ (-9223372036854775808 ≤ a.rd ∧ a.rd ≤ 9223372036854775807) ∧ (-9223372036854775808 ≤ a.wr ∧ a.wr ≤ 9223372036854775807)) := fun {H enc w base sp held fuel cs x} h => by
  obtain ⟨h1, h2⟩ := trod_fields Tryd.underlying53 h
  rw [show Tryd.prog.cellsOf 53 = 5 by kernel_rfl] at h1
  have c3 : Tryd.prog.cellsOf 3 = 1 := by kernel_rfl
  have c4 : Tryd.prog.cellsOf 4 = 1 := by kernel_rfl
  match cs, h1 with
  | [a0, a1, a2, a3, a4], _ =>
    simp only [List.forall_mem_cons, c3, c4, List.drop_succ_cons, List.drop_zero, List.take_succ_cons, List.take_zero] at h2
    obtain ⟨⟨_, _, f0⟩, ⟨_, _, f1⟩, ⟨_, _, f2⟩, ⟨_, _, f3⟩, ⟨_, _, f4⟩, _⟩ := h2
    obtain ⟨m0, e0, _⟩ := DataW.trod_bool Tryd.underlying4 f0
    obtain ⟨m1, e1, _, w1⟩ := DataW.trod_int Tryd.underlying3 f1
    obtain ⟨m2, e2, _, w2⟩ := DataW.trod_int Tryd.underlying3 f2
    obtain ⟨m3, e3, _, w3⟩ := DataW.trod_int Tryd.underlying3 f3
    obtain ⟨m4, e4, _, w4⟩ := DataW.trod_int Tryd.underlying3 f4
    simp only [List.cons.injEq, and_true] at e0 e1 e2 e3 e4
    subst e0
    subst e1
    subst e2
    subst e3
    subst e4
    exact ⟨⟨m0, m1, m2, m3, m4⟩, rfl, ⟨bounds_i64 w1, bounds_i64 w2, bounds_i64 w3, bounds_i64 w4⟩⟩
theorem rdW_Prog (w : World) : RdW Tryd.prog w 37 fPg (fun p => p.In w) := fun {H enc base sp held fuel cs x} h => by
  obtain ⟨h1, h2⟩ := trod_fields Tryd.underlying37 h
  rw [show Tryd.prog.cellsOf 37 = 2 by kernel_rfl] at h1
  have c0 : Tryd.prog.cellsOf 4 = 1 := by kernel_rfl
  have c1 : Tryd.prog.cellsOf 35 = 1 := by kernel_rfl
  match cs, h1 with
  | [a0, a1], _ =>
    simp only [List.forall_mem_cons, c0, c1, List.drop_succ_cons, List.drop_zero, List.take_succ_cons, List.take_zero] at h2
    obtain ⟨⟨_, _, f0⟩, ⟨n1, y1, f1⟩, _⟩ := h2
    obtain ⟨m0, e0, _⟩ := DataW.trod_bool Tryd.underlying4 f0
    simp only [List.cons.injEq, and_true] at e0
    subst e0
    obtain ⟨xs, ad, cap, e1, h3, _, h4⟩ := rdW_sl (s := 3) Tryd.underlying35 (rdb_api_Op.at w) kr (by decide) (fun _ => rfl) f1
    simp only [List.cons.injEq, and_true] at e1
    subst e1
    exact ⟨⟨⟨m0, xs⟩, ad, xs.length, cap⟩, rfl, rfl, h3⟩
theorem rdW_Setup (w : World) : RdW Tryd.prog w 26 StV.cs (fun s => s.In w) := fun {H enc base sp held fuel cs x} h => by
  obtain ⟨h1, h2⟩ := trod_fields Tryd.underlying26 h
  rw [show Tryd.prog.cellsOf 26 = 5 by kernel_rfl] at h1
  have c0 : Tryd.prog.cellsOf 3 = 1 := by kernel_rfl
  have c1 : Tryd.prog.cellsOf 22 = 1 := by kernel_rfl
  have c2 : Tryd.prog.cellsOf 23 = 1 := by kernel_rfl
  have c3 : Tryd.prog.cellsOf 24 = 1 := by kernel_rfl
  match cs, h1 with
  | [a0, a1, a2, a3, a4], _ =>
    simp only [List.forall_mem_cons, c0, c1, c2, c3, List.drop_succ_cons, List.drop_zero, List.take_succ_cons, List.take_zero] at h2
    obtain ⟨⟨_, _, f0⟩, ⟨_, _, f1⟩, ⟨_, _, f2⟩, ⟨_, _, f3⟩, ⟨_, _, f4⟩, _⟩ := h2
    obtain ⟨m0, e0, _, _⟩ := DataW.trod_int Tryd.underlying3 f0
    obtain ⟨m1, e1, _, _⟩ := DataW.trod_int Tryd.underlying3 f1
    obtain ⟨gs, ga, gc, e2, h3, _, _⟩ := rdW_sl (s := 1) Tryd.underlying22 (Rdb.at (rdb_I Tryd.underlying3) w) kr (by decide) (fun _ => rfl) f2
    obtain ⟨ls, la, lc, e3, h4, _, _⟩ := rdW_sl (s := 5) Tryd.underlying23 (rdb_api_Lock.at w) kr (by decide) (fun _ => rfl) f3
    obtain ⟨ps, pa, pc, e4, h5, h6, _⟩ := rdW_sl (s := 2) Tryd.underlying24 (rdW_Prog w) kr (by decide) (fun _ => rfl) f4
    simp only [List.cons.injEq, and_true] at e0 e1 e2 e3 e4
    subst e0; subst e1; subst e2; subst e3; subst e4
    exact ⟨⟨m0, m1, gs, ga, gs.length, gc, ls, la, ls.length, lc, ps, pa, ps.length, pc⟩, rfl, ⟨rfl, h3, rfl, h4, rfl, h5, h6⟩⟩
theorem open_api_Setup {H : Type} {enc : TypeId × Value → H} {w : World} {base : Nat} {sp : Nat → Bool} {held : Bool} {r : Reach} {b0 : Nat} {v : Value} {d : DataW H} {ps : List MemPlace}
    (hval : Value.okWide Tryd.prog w r b0 26 v) (h : DataW.Trod enc Tryd.prog w base sp held 26 v d ps) : ∃ s : StV, v = s.val ∧ s.In w := by
  obtain ⟨s, h1, h2⟩ := open_aggW (rdW_Setup w) (.inr ⟨_, Tryd.underlying26⟩) hval h
  exact ⟨s, h1, h2⟩
end Go.Eng
namespace Go.Eng
open Go Go.RowKit
def debT : List Int := [0, 1, 56, 2, 57, 49, 28, 3, 61, 58, 42, 50, 38, 29, 17, 4, 62, 47, 59, 36, 45, 43, 51, 22, 53, 39, 33, 30, 24, 18, 12, 5, 63, 55, 48, 27, 60, 41, 37, 16, 46, 35, 44, 21, 52, 32, 23, 11, 54, 26, 40, 15, 34, 20, 31, 10, 25, 14, 19, 9, 13, 8, 7, 6]
def lsb (x : BitVec 64) : Nat := ((List.range 64).find? (fun i => x.getLsbD i)).getD 64
theorem lsb_spec {x : BitVec 64} (h : x ≠ 0#64) : lsb x < 64 ∧ x.getLsbD (lsb x) = true ∧ ∀ j, j < lsb x → x.getLsbD j = false := by
  unfold lsb
  cases hf : (List.range 64).find? (fun i => x.getLsbD i) with
  | none =>
    exfalso; apply h
    rw [List.find?_eq_none] at hf
    apply BitVec.eq_of_getLsbD_eq
    intro i hi
    have := hf i (List.mem_range.2 hi)
    simpa using this
  | some i =>
    rw [List.find?_range_eq_some] at hf
    simp only [Option.getD_some]
    obtain ⟨h1, h2, h3⟩ := hf
    exact ⟨by simpa using h2, h1, fun j hj => by simpa using h3 j hj⟩
theorem lsb_zero : lsb 0#64 = 64 := by decide
theorem ex_below {x : BitVec 64} (h : x ≠ 0#64) (i : Nat) : (∃ j, j < i ∧ x.getLsbD j = true) ↔ lsb x < i := by
  obtain ⟨h1, h2, h3⟩ := lsb_spec h
  constructor
  · rintro ⟨j, hj, hb⟩
    apply Nat.lt_of_not_le; intro hle
    have : j < lsb x := by omega
    rw [h3 j this] at hb; cases hb
  · intro hlt; exact ⟨_, hlt, h2⟩
theorem and_neg {x : BitVec 64} (h : x ≠ 0#64) : x &&& -x = BitVec.twoPow 64 (lsb x) := by
  obtain ⟨h1, h2, h3⟩ := lsb_spec h
  apply BitVec.eq_of_getLsbD_eq
  intro i hi
  rw [BitVec.getLsbD_and, BitVec.getLsbD_neg, BitVec.getLsbD_twoPow, decide_eq_decide.2 (ex_below h i), decide_eq_true hi, decide_eq_true h1]
  rcases Nat.lt_trichotomy i (lsb x) with h4 | h4 | h4
  · rw [h3 i h4, decide_eq_false (show ¬ lsb x = i by omega)]; rfl
  · subst h4; rw [h2, decide_eq_false (Nat.lt_irrefl _)]; simp
  · rw [decide_eq_true (show lsb x < i from h4), decide_eq_false (show ¬ lsb x = i by omega)]; cases x.getLsbD i <;> rfl
theorem and_pred {x : BitVec 64} (h : x ≠ 0#64) (i : Nat) : (x &&& (x - 1#64)).getLsbD i = (x.getLsbD i && decide (lsb x < i)) := by
  by_cases hi : i < 64
  · rw [BitVec.getLsbD_and, ← BitVec.not_neg, BitVec.getLsbD_not, BitVec.getLsbD_neg, decide_eq_decide.2 (ex_below h i), decide_eq_true hi]
    cases x.getLsbD i <;> cases decide (lsb x < i) <;> rfl
  · rw [BitVec.getLsbD_of_ge _ _ om, BitVec.getLsbD_of_ge x _ om]; rfl
theorem deb_at : ∀ i, i < 64 → debT.getD ((BitVec.twoPow 64 i * 285870213051353865#64) >>> 58).toNat 0 = (i : Int) ∧ ((BitVec.twoPow 64 i * 285870213051353865#64) >>> 58).toNat < 64 := by decide
/-! the members -/
def allL (s : BitVec 64) : List Nat := (List.range 64).filter (fun i => s.getLsbD i)
theorem allL_mem {s : BitVec 64} {i : Nat} : i ∈ allL s ↔ s.getLsbD i = true := by
  unfold allL
  rw [List.mem_filter, List.mem_range]
  constructor
  · exact fun h => h.2
  · intro h; refine ⟨?_, h⟩; apply Nat.lt_of_not_le; intro hle; rw [BitVec.getLsbD_of_ge _ _ hle] at h; cases h
theorem allL_sorted (s : BitVec 64) : (allL s).Pairwise (· < ·) := List.Pairwise.filter _ List.pairwise_lt_range
theorem sorted_eq : ∀ {l l' : List Nat}, l.Pairwise (· < ·) → l'.Pairwise (· < ·) → (∀ i, i ∈ l ↔ i ∈ l') → l = l'
  | [], [], _, _, _ => rfl
  | [], b :: l', _, _, h => by have := (h b).2 (List.mem_cons_self ..); cases this
  | a :: l, [], _, _, h => by have := (h a).1 (List.mem_cons_self ..); cases this
  | a :: l, b :: l', h1, h2, h => by
    rw [List.pairwise_cons] at h1 h2
    have e : a = b := by
      rcases List.mem_cons.1 ((h a).1 (List.mem_cons_self ..)) with e | e
      · exact e
      · rcases List.mem_cons.1 ((h b).2 (List.mem_cons_self ..)) with e' | e'
        · exact e'.symm
        · have := h1.1 b e'; have := h2.1 a e; omega
    subst e
    rw [sorted_eq h1.2 h2.2 (fun i => ⟨fun hi => by
        rcases List.mem_cons.1 ((h i).1 (List.mem_cons_of_mem _ hi)) with e | e
        · subst e; exact absurd (h1.1 i hi) (Nat.lt_irrefl _)
        · exact e, fun hi => by
        rcases List.mem_cons.1 ((h i).2 (List.mem_cons_of_mem _ hi)) with e | e
        · subst e; exact absurd (h2.1 i hi) (Nat.lt_irrefl _)
        · exact e⟩)]
theorem allL_cons {s : BitVec 64} (h : s ≠ 0#64) : allL s = lsb s :: allL (s &&& (s - 1#64)) := by
  obtain ⟨h1, h2, h3⟩ := lsb_spec h
  refine sorted_eq (allL_sorted s) ?_ ?_
  · rw [List.pairwise_cons]
    refine ⟨fun i hi => ?_, allL_sorted _⟩
    rw [allL_mem, and_pred h, Bool.and_eq_true, decide_eq_true_eq] at hi; exact hi.2
  · intro i
    rw [List.mem_cons, allL_mem, allL_mem, and_pred h, Bool.and_eq_true, decide_eq_true_eq]
    constructor
    · intro hb
      rcases Nat.lt_trichotomy i (lsb s) with h4 | h4 | h4
      · rw [h3 i h4] at hb; cases hb
      · exact .inl h4
      · exact .inr ⟨hb, h4⟩
    · rintro (rfl | h5)
      · exact h2
      · exact h5.1
theorem allL_zero : allL 0#64 = [] := by decide
theorem allL_nil {s : BitVec 64} (h : allL s = []) : s = 0#64 := by
  apply Classical.byContradiction; intro hs; rw [allL_cons hs] at h; cases h
def firstI (s : BitVec 64) : Int := if s = 0#64 then -1 else (lsb s : Nat)
/-! one number -/
def bitU (i : Int) : BitVec 64 := if i < 0 ∨ 63 < i then 0#64 else 1#64 <<< i.toNat
def sHas (s : BitVec 64) (i : Int) : Bool := decide (0 ≤ i) && (decide (i < 64) && s.getLsbD i.toNat)
theorem bitU_get (i : Int) (j : Nat) : (bitU i).getLsbD j = (decide ((j : Int) = i) && decide (j < 64)) := by
  unfold bitU
  split
  · rename_i h
    rw [BitVec.getLsbD_zero]
    by_cases hj : (j : Int) = i
    · rw [decide_eq_false (show ¬ j < 64 by omega)]; simp
    · rw [decide_eq_false hj]; rfl
  · rename_i h
    rw [BitVec.getLsbD_shiftLeft, BitVec.getLsbD_one]
    by_cases hj : (j : Int) = i
    · have : i.toNat = j := by omega
      subst hj
      simp [show j < 64 by omega]
    · rw [decide_eq_false hj]
      by_cases h1 : j < i.toNat
      · simp [h1]
      · have : ¬ j - i.toNat = 0 := by omega
        simp [this]
theorem has_bit (s : BitVec 64) (i : Int) : decide (s &&& bitU i ≠ 0#64) = sHas s i := by
  unfold sHas
  rw [Bool.eq_iff_iff]
  simp only [decide_eq_true_eq, Bool.and_eq_true]
  constructor
  · intro h
    have hi : 0 ≤ i ∧ i < 64 := by
      apply Classical.byContradiction; intro hn; apply h
      have : bitU i = 0#64 := by unfold bitU; rw [if_pos om]
      rw [this]; simp
    refine ⟨hi.1, hi.2, ?_⟩
    apply Classical.byContradiction; intro hb; apply h
    apply BitVec.eq_of_getLsbD_eq
    intro j hj
    rw [BitVec.getLsbD_and, bitU_get, BitVec.getLsbD_zero]
    by_cases e : (j : Int) = i
    · have : i.toNat = j := by omega
      rw [this] at hb; simp [hb]
    · rw [decide_eq_false e]; simp
  · rintro ⟨h1, h2, h3⟩ e
    have : (s &&& bitU i).getLsbD i.toNat = true := by
      rw [BitVec.getLsbD_and, h3, bitU_get, decide_eq_true (show ((i.toNat : Nat) : Int) = i by omega), decide_eq_true (show i.toNat < 64 by omega)]; rfl
    rw [e, BitVec.getLsbD_zero] at this; cases this
theorem sHas_nat {s : BitVec 64} {i : Nat} : sHas s (i : Int) = s.getLsbD i := by
  unfold sHas
  by_cases h : i < 64
  · rw [decide_eq_true (show (0 : Int) ≤ i by omega), decide_eq_true (show (i : Int) < 64 by omega), Int.toNat_natCast]; rfl
  · have := BitVec.getLsbD_of_ge s i om
    rw [decide_eq_false (show ¬ (i : Int) < 64 by omega), this]; simp
def withS (s : BitVec 64) (i : Int) : BitVec 64 := s ||| bitU i
def witho (s : BitVec 64) (i : Int) : BitVec 64 := s &&& ~~~(bitU i)
theorem sHas_withS (s : BitVec 64) (i k : Int) : sHas (withS s i) k = (sHas s k || (decide (k = i) && (decide (0 ≤ k) && decide (k < 64)))) := by
  unfold sHas withS
  rw [BitVec.getLsbD_or, bitU_get]
  by_cases h1 : 0 ≤ k <;> by_cases h2 : k < 64
  · have e : decide (((k.toNat : Nat) : Int) = i) = decide (k = i) := decide_eq_decide.2 om
    rw [e, decide_eq_true (show k.toNat < 64 by omega), decide_eq_true h1, decide_eq_true h2]; cases s.getLsbD k.toNat <;> cases decide (k = i) <;> rfl
  all_goals simp [h1, h2]
theorem sHas_witho (s : BitVec 64) (i k : Int) : sHas (witho s i) k = (sHas s k && !(decide (k = i))) := by
  unfold sHas witho
  rw [BitVec.getLsbD_and, BitVec.getLsbD_not, bitU_get]
  by_cases h1 : 0 ≤ k <;> by_cases h2 : k < 64
  · have e : decide (((k.toNat : Nat) : Int) = i) = decide (k = i) := decide_eq_decide.2 om
    rw [e, decide_eq_true (show k.toNat < 64 by omega), decide_eq_true h1, decide_eq_true h2]; cases s.getLsbD k.toNat <;> cases decide (k = i) <;> rfl
  all_goals simp [h1, h2]
theorem set_ext {a b : BitVec 64} (h : ∀ i : Nat, i < 64 → sHas a i = sHas b i) : a = b := by
  apply BitVec.eq_of_getLsbD_eq
  intro i hi
  have := h i hi
  rwa [sHas_nat, sHas_nat] at this
theorem sHas_or (a b : BitVec 64) (i : Int) : sHas (a ||| b) i = (sHas a i || sHas b i) := by
  unfold sHas; rw [BitVec.getLsbD_or]; cases decide (0 ≤ i) <;> cases decide (i < 64) <;> simp
theorem sHas_and (a b : BitVec 64) (i : Int) : sHas (a &&& b) i = (sHas a i && sHas b i) := by
  unfold sHas; rw [BitVec.getLsbD_and]; cases decide (0 ≤ i) <;> cases decide (i < 64) <;> simp
theorem sHas_zero (i : Int) : sHas 0#64 i = false := by unfold sHas; simp
theorem with_out {s : BitVec 64} {i : Int} (h : i < 0 ∨ 63 < i) : withS s i = s := by unfold withS bitU; rw [if_pos h]; simp
theorem with_has {s : BitVec 64} {i : Int} (h : sHas s i = true) : withS s i = s := by
  apply set_ext; intro k hk
  rw [sHas_withS]
  by_cases e : (k : Int) = i
  · rw [e, h]; rfl
  · rw [decide_eq_false e]; simp
theorem sHas_rng {s : BitVec 64} {i : Int} (h : sHas s i = true) : 0 ≤ i ∧ i < 64 := by
  simp only [sHas, Bool.and_eq_true, decide_eq_true_eq] at h; exact ⟨h.1, h.2.1⟩
def sub6 (a b : BitVec 64) : Prop := a &&& ~~~b = 0#64
instance (a b : BitVec 64) : Decidable (sub6 a b) := inferInstanceAs (Decidable (_ = _))
theorem sub6_iff {a b : BitVec 64} : a &&& ~~~b = 0#64 ↔ ∀ i : Nat, i < 64 → sHas a i = true → sHas b i = true := by
  constructor
  · intro h i hi ha
    rw [sHas_nat] at *
    have h1 : (a &&& ~~~b).getLsbD i = false := by rw [h]; simp
    rw [BitVec.getLsbD_and, BitVec.getLsbD_not, ha, decide_eq_true hi] at h1
    simpa using h1
  · intro h
    apply BitVec.eq_of_getLsbD_eq
    intro i hi
    have := h i hi
    rw [sHas_nat, sHas_nat] at this
    rw [BitVec.getLsbD_and, BitVec.getLsbD_not, decide_eq_true hi, BitVec.getLsbD_zero]
    cases h1 : a.getLsbD i
    · rfl
    · rw [this h1]; rfl
/-! the document's -/
theorem shr_mod (s : BitVec 64) (n : Nat) : decide ((s >>> n) % 2#64 = 1#64) = s.getLsbD n := by
  rw [Bool.eq_iff_iff, decide_eq_true_eq, BitVec.getLsbD, Nat.testBit]
  rw [← BitVec.toNat_inj, BitVec.toNat_umod, BitVec.toNat_ushiftRight]
  have h2 : (2#64).toNat = 2 := rfl
  have h1 : (1#64).toNat = 1 := rfl
  rw [h2, h1, Nat.one_and_eq_mod_two]
  have := Nat.mod_two_eq_zero_or_one (s.toNat >>> n)
  rcases this with h | h <;> simp [h]
theorem add_bit {s : BitVec 64} {i : Int} (h : ¬ (i < 0 ∨ 63 < i)) (hb : sHas s i = false) : s + 1#64 <<< i.toNat = withS s i := by
  have e : bitU i = 1#64 <<< i.toNat := by unfold bitU; rw [if_neg h]
  unfold withS
  rw [← e]
  apply BitVec.add_eq_or_of_and_eq_zero
  apply Classical.byContradiction; intro hn
  have := has_bit s i
  rw [hb, decide_eq_false_iff_not] at this
  exact this hn
def Tab (w : World) : Prop := ∃ cs E fz, w.heap[0]? = some (.cells cs E fz) ∧ ∀ i, i < 64 → cs[i]? = some (.int .u8 (debT.getD i 0))
theorem Tab.ext {w w' : World} (h : Tab w) (k : Ext w w') : Tab w' := by obtain ⟨cs, E, fz, h1, h2⟩ := h; exact ⟨cs, E, fz, k.get h1, h2⟩
theorem Tab.keep {S : Nat → Prop} {w w' : World} (h : Tab w) (k : Chg S w w') (hS : ¬ S 0) : Tab w' := by obtain ⟨cs, E, fz, h1, h2⟩ := h; exact ⟨cs, E, fz, k.get h1 hS, h2⟩
theorem Tab.bk {n : Nat} {w w' : World} (h : Tab w) (k : Bk n w w') : Tab w' := by obtain ⟨cs, E, fz, h1, h2⟩ := h; exact ⟨cs, E, fz, k.same 0 _ h1 (.inr rfl), h2⟩
theorem Tab.pos {w : World} (h : Tab w) : 0 < w.heap.size := by obtain ⟨cs, E, fz, h1, _⟩ := h; exact (Array.getElem?_eq_some_iff.1 h1).1
theorem tab_of_cells {w : World} (h : ∀ i, i < 64 → w.cell? ⟨0, i, none⟩ = some (.int .u8 (debT.getD i 0))) : Tab w := by
  have h0 := h 0 om
  unfold World.cell? at h0
  simp only at h0
  split at h0
  · rename_i cs E fz hb
    refine ⟨cs, E, fz, hb, fun i hi => ?_⟩
    have := h i hi
    unfold World.cell? at this
    simp only [hb] at this
    exact this
  · cases h0
theorem om_tab {P : Program} {e : Env} {x : Operand} {t ty : TypeId} {i off : Nat} {w : World} (hw : Tab w) (hT : ∀ w, (isAgg t).run P w = .ok false w) (ha : ev e x = some (.pointer (some ⟨0, off, none⟩))) (ho : off = i) (hi : i < 64) : OpV P (.load t x) ty e w (.int .u8 (debT.getD i 0)) w := by
  subst ho
  obtain ⟨cs, E, fz, h1, h2⟩ := hw
  have h := run_load_cell (P := P) h1 (h2 off hi)
  intro ρ hρ _ _ _ _
  simp [execOp, Instr.loadAt, Instr.sureAddr, hρ x _ ha, loadVar, hT, h, Result.andThen]
abbrev Gr := List (BitVec 64)
def ot (G : Gr) (i : Nat) : BitVec 64 := G.getD i 0#64
inductive Rch (G : Gr) (s : BitVec 64) : Nat → Prop
  | base {i : Nat} : sHas s i = true → Rch G s i
  | step {j i : Nat} : Rch G s j → sHas (ot G j) i = true → Rch G s i
theorem Rch.lt {G : Gr} {s : BitVec 64} {i : Nat} (h : Rch G s i) : i < 64 := by
  cases h with
  | base h => have := sHas_rng h; omega
  | step _ h => have := sHas_rng h; omega
theorem Rch.mono {G G' : Gr} {s s' : BitVec 64} {i : Nat} (h : Rch G s i) (hG : ∀ j k : Nat, sHas (ot G j) k = true → sHas (ot G' j) k = true) (hs : ∀ k : Nat, sHas s k = true → sHas s' k = true) : Rch G' s' i := by
  induction h with
  | base h => exact .base (hs _ h)
  | step _ h ih => exact .step ih (hG _ _ h)
theorem Rch.trans {G : Gr} {s : BitVec 64} {i k : Nat} (h : Rch G s i) (hk : Rch G (ot G i) k) : Rch G s k := by
  induction hk with
  | base h2 => exact .step h h2
  | step _ h2 ih => exact .step ih h2
theorem Rch.sub {G : Gr} {s t : BitVec 64} {k : Nat} (h : Rch G t k) (hs : ∀ i : Nat, sHas t i = true → Rch G s i) : Rch G s k := by
  induction h with
  | base h => exact hs _ h
  | step _ h ih => exact .step ih h
/-! how many -/
def card (s : BitVec 64) : Nat := (allL s).length
theorem filter_lt {α : Type} {p q : α → Bool} : ∀ (l : List α), (∀ x ∈ l, p x = true → q x = true) → (∃ x ∈ l, q x = true ∧ p x = false) → (l.filter p).length < (l.filter q).length
  | [], _, h => by obtain ⟨x, hx, _⟩ := h; cases hx
  | a :: l, hpq, hex => by
    have hle : ∀ l : List α, (∀ x ∈ l, p x = true → q x = true) → (l.filter p).length ≤ (l.filter q).length := by
      intro l
      induction l with
      | nil => intro _; exact Nat.le_refl _
      | cons a l ih =>
        intro h
        have h1 := ih (fun x hx => h x (List.mem_cons_of_mem _ hx))
        have h2 := h a (List.mem_cons_self ..)
        simp only [List.filter_cons]
        cases hp : p a <;> cases hq : q a <;> simp <;> first | omega | (rw [hp, hq] at h2; simp at h2)
    have h0 := hle l (fun x hx => hpq x (List.mem_cons_of_mem _ hx))
    have ha := hpq a (List.mem_cons_self ..)
    obtain ⟨x, hx, h1, h2⟩ := hex
    simp only [List.filter_cons]
    rcases List.mem_cons.1 hx with rfl | hx
    · rw [h1, h2]; simp; omega
    · have ih := filter_lt l (fun x hx => hpq x (List.mem_cons_of_mem _ hx)) ⟨x, hx, h1, h2⟩
      cases hp : p a <;> cases hq : q a <;> simp <;> first | omega | (rw [hp, hq] at ha; simp at ha)
theorem card_lt {s t : BitVec 64} (h : ∀ k : Nat, sHas s k = true → sHas t k = true) {i : Nat} (hi : sHas t i = true) (hn : sHas s i = false) : card s < card t := by
  have hr := sHas_rng hi
  exact filter_lt _ (fun k _ hk => by have := h k; rw [sHas_nat, sHas_nat] at this; exact this hk) ⟨i, List.mem_range.2 om, by rw [← sHas_nat]; exact hi, by rw [← sHas_nat]; exact hn⟩
theorem card_le (s : BitVec 64) : card s ≤ 64 := by unfold card allL; refine Nat.le_trans (List.length_filter_le _ _) ?_; simp
theorem sub_or_ne {s t : BitVec 64} (h : ¬ t &&& ~~~s = 0#64) : ∃ i : Nat, sHas t i = true ∧ sHas s i = false := by
  apply Classical.byContradiction; intro hn
  apply h; apply sub6_iff.2
  intro i hi ht
  cases hs : sHas s i
  · exact absurd ⟨i, ht, hs⟩ hn
  · rfl
/-! all that is come to -/
def Clo (G : Gr) (X : BitVec 64) : Prop := ∀ j i : Nat, sHas X j = true → sHas (ot G j) i = true → sHas X i = true
structure Cl (G : Gr) (s X : BitVec 64) : Prop where
  sup : ∀ i : Nat, sHas s i = true → sHas X i = true
  sound : ∀ i : Nat, sHas X i = true → Rch G s i
  clo : Clo G X
theorem Cl.iff {G : Gr} {s X : BitVec 64} (h : Cl G s X) (i : Nat) : sHas X i = true ↔ Rch G s i := by
  refine ⟨h.sound i, fun hr => ?_⟩
  induction hr with
  | base hb => exact h.sup _ hb
  | step _ hb ih => exact h.clo _ _ ih hb
theorem Cl.uniq {G : Gr} {s X Y : BitVec 64} (h : Cl G s X) (k : Cl G s Y) : X = Y := set_ext (fun i _ => by
  rw [Bool.eq_iff_iff, h.iff, k.iff])
def stepG (G : Gr) (s : BitVec 64) : BitVec 64 := (List.range 64).foldl (fun a (i : Nat) => if sHas s i = true then a ||| ot G i else a) s
theorem stepG_fold (G : Gr) (s : BitVec 64) : ∀ (l : List Nat) (a : BitVec 64) (k : Nat), sHas (l.foldl (fun a (i : Nat) => if sHas s i = true then a ||| ot G i else a) a) k = true ↔ sHas a k = true ∨ ∃ i ∈ l, sHas s i = true ∧ sHas (ot G i) k = true
  | [], a, k => by simp
  | i :: l, a, k => by
    rw [List.foldl_cons, stepG_fold G s l]
    by_cases h : sHas s i = true
    · rw [if_pos h, sHas_or, Bool.or_eq_true]
      constructor
      · rintro ((h1 | h1) | ⟨j, hj, h1⟩)
        · exact .inl h1
        · exact .inr ⟨i, List.mem_cons_self .., h, h1⟩
        · exact .inr ⟨j, List.mem_cons_of_mem _ hj, h1⟩
      · rintro (h1 | ⟨j, hj, h1⟩)
        · exact .inl (.inl h1)
        · rcases List.mem_cons.1 hj with rfl | hj
          · exact .inl (.inr h1.2)
          · exact .inr ⟨j, hj, h1⟩
    · rw [if_neg h]
      constructor
      · rintro (h1 | ⟨j, hj, h1⟩)
        · exact .inl h1
        · exact .inr ⟨j, List.mem_cons_of_mem _ hj, h1⟩
      · rintro (h1 | ⟨j, hj, h1⟩)
        · exact .inl h1
        · rcases List.mem_cons.1 hj with rfl | hj
          · exact absurd h1.1 h
          · exact .inr ⟨j, hj, h1⟩
theorem stepG_has (G : Gr) (s : BitVec 64) (k : Nat) : sHas (stepG G s) k = true ↔ sHas s k = true ∨ ∃ i : Nat, sHas s i = true ∧ sHas (ot G i) k = true := by
  unfold stepG; rw [stepG_fold]
  constructor
  · rintro (h | ⟨i, _, h⟩)
    · exact .inl h
    · exact .inr ⟨i, h⟩
  · rintro (h | ⟨i, h⟩)
    · exact .inl h
    · exact .inr ⟨i, List.mem_range.2 (by have := sHas_rng h.1; omega), h⟩
def ovF (G : Gr) : Nat → BitVec 64 → BitVec 64
  | 0, s => s
  | n + 1, s => if stepG G s = s then s else ovF G n (stepG G s)
def ovr (G : Gr) (s : BitVec 64) : BitVec 64 := ovF G 65 s
theorem ovF_cl (G : Gr) : ∀ (n : Nat) (s : BitVec 64), 65 ≤ n + card s → Cl G s (ovF G n s)
  | 0, s, h => by have := card_le s; omega
  | n + 1, s, h => by
    rw [ovF]
    by_cases e : stepG G s = s
    · rw [if_pos e]
      exact ⟨fun _ h => h, fun i h => .base h, fun j i hj hi => by rw [← e, stepG_has]; exact .inr ⟨j, hj, hi⟩⟩
    · rw [if_neg e]
      have hsup : ∀ k : Nat, sHas s k = true → sHas (stepG G s) k = true := fun k hk => (stepG_has G s k).2 (.inl hk)
      obtain ⟨i, h1, h2⟩ : ∃ i : Nat, sHas (stepG G s) i = true ∧ sHas s i = false := by
        apply Classical.byContradiction; intro hn; apply e
        apply set_ext; intro k hk
        cases h1 : sHas s k
        · cases h2 : sHas (stepG G s) k
          · rfl
          · exact absurd ⟨k, h2, h1⟩ hn
        · exact hsup k h1
      have hc := card_lt hsup h1 h2
      have ih := ovF_cl G n (stepG G s) om
      refine ⟨fun i hi => ih.sup i (hsup i hi), fun i hi => (ih.sound i hi).sub (fun k hk => ?_), ih.clo⟩
      rcases (stepG_has G s k).1 hk with h | ⟨j, hj, hk⟩
      · exact .base h
      · exact .step (.base hj) hk
theorem ovr_cl (G : Gr) (s : BitVec 64) : Cl G s (ovr G s) := ovF_cl G 65 s om
theorem ovr_iff (G : Gr) (s : BitVec 64) (i : Nat) : sHas (ovr G s) i = true ↔ Rch G s i := (ovr_cl G s).iff i
theorem ovr_of {G : Gr} {s X : BitVec 64} (h : Cl G s X) : X = ovr G s := h.uniq (ovr_cl G s)
/-! one is set anew -/
theorem ot_set {G : Gr} (h : G.length = 64) {w : Nat} (hw : w < 64) (s : BitVec 64) (j : Nat) : ot (G.set w s) j = if j = w then s else ot G j := by
  unfold ot
  simp only [List.getD_eq_getElem?_getD, List.getElem?_set]
  by_cases e : w = j
  · subst e; simp [h, hw]
  · rw [if_neg e, if_neg (Ne.symm e)]
theorem ot_set0 {G : Gr} (h : G.length = 64) {w : Nat} (hw : w < 64) {j k : Nat} (hb : sHas (ot (G.set w 0#64) j) k = true) : j ≠ w ∧ sHas (ot G j) k = true := by
  rw [ot_set h hw] at hb
  by_cases e : j = w
  · rw [if_pos e, sHas_zero] at hb; cases hb
  · rw [if_neg e] at hb; exact ⟨e, hb⟩
theorem rch_cut {G : Gr} (h : G.length = 64) {w : Nat} (hw : w < 64) {s : BitVec 64} {i : Nat} (hr : Rch G s i) : Rch (G.set w 0#64) s i ∨ Rch (G.set w 0#64) s w := by
  induction hr with
  | base hb => exact .inl (.base hb)
  | @step j i _ hb ih =>
    rcases ih with ih | ih
    · by_cases e : j = w
      · subst e; exact .inr ih
      · exact .inl (.step ih (by rw [ot_set h hw, if_neg e]; exact hb))
    · exact .inr ih
theorem rch_zero {G : Gr} (h : G.length = 64) {w : Nat} (hw : w < 64) {s : BitVec 64} : Rch (G.set w 0#64) s w ↔ Rch G s w := by
  constructor
  · intro hr; exact hr.mono (fun j k hb => (ot_set0 h hw hb).2) (fun _ h => h)
  · intro hr; rcases rch_cut h hw hr with h1 | h1 <;> exact h1
def Acy (G : Gr) : Prop := ∀ i : Nat, ¬ Rch G (ot G i) i
theorem acy_set {G : Gr} (h : G.length = 64) {w : Nat} (hw : w < 64) {s : BitVec 64} (hG : Acy G) (hs : ¬ Rch G s w) : Acy (G.set w s) := by
  have hlen : (G.set w s).length = 64 := by rw [List.length_set]; exact h
  have e2 : (G.set w s).set w 0#64 = G.set w 0#64 := by rw [List.set_set]
  have ha : ¬ Rch (G.set w s) s w := by
    intro hr
    have h1 := (rch_zero hlen hw).2 hr
    rw [e2] at h1
    exact hs ((rch_zero h hw).1 h1)
  have up : ∀ {t : BitVec 64} {i : Nat}, Rch (G.set w 0#64) t i → Rch (G.set w s) t i := fun hr => hr.mono (fun j k hb => by
    obtain ⟨e, hb⟩ := ot_set0 h hw hb
    rw [ot_set h hw, if_neg e]; exact hb) (fun _ h => h)
  have part : ∀ {t : BitVec 64} {i : Nat}, Rch (G.set w s) t i → Rch (G.set w 0#64) t i ∨ (Rch (G.set w 0#64) t w ∧ Rch (G.set w s) s i) := by
    intro t i hr
    induction hr with
    | base hb => exact .inl (.base hb)
    | @step j i _ hb ih =>
      rcases ih with ih | ⟨ih1, ih2⟩
      · by_cases e : j = w
        · subst e
          rw [ot_set h hw, if_pos rfl] at hb
          exact .inr ⟨ih, .base hb⟩
        · rw [ot_set h hw, if_neg e] at hb
          exact .inl (.step ih (by rw [ot_set h hw, if_neg e]; exact hb))
      · exact .inr ⟨ih1, .step ih2 hb⟩
  intro i hr
  by_cases e : i = w
  · subst e; rw [ot_set h hw, if_pos rfl] at hr; exact ha hr
  · rw [ot_set h hw, if_neg e] at hr
    rcases part hr with h1 | ⟨h1, h2⟩
    · exact hG i (h1.mono (fun j k hb => (ot_set0 h hw hb).2) (fun _ h => h))
    · refine ha (h2.trans ?_)
      rw [ot_set h hw, if_neg e]
      exact up h1
def zeroG : Gr := List.replicate 64 0#64
theorem zeroG_len : zeroG.length = 64 := by simp [zeroG]
theorem ot_zeroG (i : Nat) : ot zeroG i = 0#64 := by
  unfold ot zeroG; rw [List.getD_eq_getElem?_getD, List.getElem?_replicate]; split <;> rfl
theorem acy_zero : Acy zeroG := by
  intro i h
  rw [ot_zeroG] at h
  have : ∀ {s : BitVec 64} {k : Nat}, Rch zeroG s k → s = 0#64 → False := by
    intro s k hr
    induction hr with
    | base hb => intro e; subst e; rw [sHas_zero] at hb; cases hb
    | step _ hb _ => intro _; rw [ot_zeroG, sHas_zero] at hb; cases hb
  exact this h rfl
/-! what comes to one -/
/-! chains -/
theorem firstI_has {s : BitVec 64} (h : 0 ≤ firstI s) : sHas s (firstI s) = true := by
  unfold firstI at *
  by_cases e : s = 0#64
  · rw [if_pos e] at h; omega
  · rw [if_neg e]; rw [sHas_nat]; exact (lsb_spec e).2.1
structure Met (G : Gr) (V : BitVec 64) (w : Int) : Prop where
  reach : ∀ i : Nat, sHas V i = true → 0 ≤ w → w < 64 → Rch G (ot G i) w.toNat
theorem Met.nil (G : Gr) (w : Int) : Met G 0#64 w := ⟨fun i h => by rw [sHas_zero] at h; cases h⟩
theorem Met.next {G : Gr} {V : BitVec 64} {w : Int} (h : Met G V w) (h0 : 0 ≤ w) (h1 : w < 64) : Met G (withS V w) (firstI (ot G w.toNat)) := ⟨fun i hi k0 k1 => by
  have hf := firstI_has k0
  have e : (((firstI (ot G w.toNat)).toNat : Nat) : Int) = firstI (ot G w.toNat) := by omega
  rw [sHas_withS, Bool.or_eq_true] at hi
  rcases hi with hi | hi
  · exact (h.reach i hi h0 h1).step (by rw [e]; exact hf)
  · simp only [Bool.and_eq_true, decide_eq_true_eq] at hi
    have : i = w.toNat := by omega
    subst this
    exact .base (by rw [e]; exact hf)⟩
theorem card_with {V : BitVec 64} {w : Int} (h0 : 0 ≤ w) (h1 : w < 64) (h : sHas V w = false) : card V < card (withS V w) := by
  have e : ((w.toNat : Nat) : Int) = w := by omega
  refine card_lt (i := w.toNat) (fun k hk => by rw [sHas_withS, hk]; rfl) ?_ (by rw [e]; exact h)
  rw [e, sHas_withS]; simp [h0, h1]
end Go.Eng
namespace Go.Eng
open Go Go.RowKit
structure OvI (G : Gr) (s met todo : BitVec 64) : Prop where
  sup : ∀ i : Nat, sHas s i = true → sHas met i = true
  sound : ∀ i : Nat, sHas met i = true → Rch G s i
  sub : ∀ i : Nat, sHas todo i = true → sHas met i = true
  done : ∀ j : Nat, sHas met j = true → sHas todo j = false → ∀ i : Nat, sHas (ot G j) i = true → sHas met i = true
theorem OvI.init (G : Gr) (s : BitVec 64) : OvI G s s s := ⟨fun _ h => h, fun _ h => .base h, fun _ h => h, fun j h1 h2 => by rw [h1] at h2; cases h2⟩
theorem sHas_andn (a b : BitVec 64) (i : Nat) (hi : i < 64) : sHas (a &&& ~~~b) i = (sHas a i && !sHas b i) := by
  rw [sHas_nat, sHas_nat, sHas_nat, BitVec.getLsbD_and, BitVec.getLsbD_not, decide_eq_true hi, Bool.true_and]
theorem sHas_natlt {s : BitVec 64} {i : Nat} (h : sHas s i = true) : i < 64 := by have := sHas_rng h; omega
def frs (G : Gr) (met : BitVec 64) (i : Nat) : BitVec 64 := ot G i &&& ~~~met
theorem OvI.step {G : Gr} {s met todo : BitVec 64} (h : OvI G s met todo) (h0 : todo ≠ 0#64) :
    OvI G s (met ||| frs G met (lsb todo)) (witho todo (lsb todo : Nat) ||| frs G met (lsb todo)) ∧
    64 - card ((met ||| frs G met (lsb todo)) &&& ~~~(witho todo (lsb todo : Nat) ||| frs G met (lsb todo))) < 64 - card (met &&& ~~~todo) := by
  obtain ⟨hl, hb, _⟩ := lsb_spec h0
  have hb' : sHas todo (lsb todo : Nat) = true := by rw [sHas_nat]; exact hb
  have hm := h.sub _ hb'
  have hf : ∀ k : Nat, sHas (frs G met (lsb todo)) k = true ↔ sHas (ot G (lsb todo)) k = true ∧ sHas met k = false := fun k => by
    constructor
    · intro hk; have hlt := sHas_natlt hk; unfold frs at hk; rw [sHas_andn _ _ _ hlt, Bool.and_eq_true] at hk; simpa using hk
    · rintro ⟨h1, h2⟩; have hlt := sHas_natlt h1; unfold frs; rw [sHas_andn _ _ _ hlt, h1, h2]; rfl
  refine ⟨⟨fun i hi => by rw [sHas_or, h.sup i hi]; rfl, fun i hi => ?_, fun i hi => ?_, fun j hj hn i hi => ?_⟩, ?_⟩
  · rw [sHas_or, Bool.or_eq_true] at hi
    rcases hi with hi | hi
    · exact h.sound i hi
    · exact .step (h.sound _ hm) ((hf i).1 hi).1
  · rw [sHas_or, Bool.or_eq_true] at hi ⊢
    rcases hi with hi | hi
    · rw [sHas_witho, Bool.and_eq_true] at hi; exact .inl (h.sub i hi.1)
    · exact .inr hi
  · rw [sHas_or, Bool.or_eq_false_iff] at hn
    rw [sHas_or, Bool.or_eq_true] at hj ⊢
    have hjm : sHas met j = true := by rcases hj with hj | hj; exact hj; rw [hn.2] at hj; cases hj
    cases hi2 : sHas met i
    · right; rw [hf]
      refine ⟨?_, hi2⟩
      by_cases e : j = lsb todo
      · subst e; exact hi
      · have := hn.1; rw [sHas_witho, decide_eq_false (show ¬ (j : Int) = (lsb todo : Nat) by omega)] at this
        simp only [Bool.not_false, Bool.and_true] at this
        rw [h.done j hjm this i hi] at hi2; cases hi2
    · exact .inl rfl
  · have hc := card_lt (s := met &&& ~~~todo) (t := (met ||| frs G met (lsb todo)) &&& ~~~(witho todo (lsb todo : Nat) ||| frs G met (lsb todo))) (i := lsb todo) (fun k hk => ?_) ?_ ?_
    · have := card_le ((met ||| frs G met (lsb todo)) &&& ~~~(witho todo (lsb todo : Nat) ||| frs G met (lsb todo)))
      omega
    · have hlt := sHas_natlt hk
      rw [sHas_andn _ _ _ hlt, Bool.and_eq_true, Bool.not_eq_true'] at hk
      rw [sHas_andn _ _ _ hlt, sHas_or, hk.1, sHas_or, sHas_witho, hk.2]
      cases hfk : sHas (frs G met (lsb todo)) k
      · rfl
      · rw [((hf k).1 hfk).2] at hk; cases hk.1
    · rw [sHas_andn _ _ _ hl, sHas_or, hm, sHas_or, sHas_witho]
      cases hfk : sHas (frs G met (lsb todo)) (lsb todo : Nat)
      · simp
      · rw [((hf _).1 hfk).2] at hm; cases hm
    · rw [sHas_andn _ _ _ hl, hm, hb']; rfl
theorem OvI.end {G : Gr} {s met : BitVec 64} (h : OvI G s met 0#64) : met = ovr G s := ovr_of ⟨h.sup, h.sound, fun j i hj hi => h.done j hj (sHas_zero _) i hi⟩
def inG (w : Int) : Bool := decide (0 ≤ w) && decide (w < 64)
def wtE (G : Gr) (w : Int) (s : BitVec 64) : Int := if inG w = true then (if sHas (ovr G s) w = true then 9 else 0) else 1
def wtG (G : Gr) (w : Int) (s : BitVec 64) : Gr := if wtE G w s = 0 then G.set w.toNat s else G
theorem wtG_len {G : Gr} (h : G.length = 64) (w : Int) (s : BitVec 64) : (wtG G w s).length = 64 := by unfold wtG; split <;> simp [h]
theorem inG_iff {w : Int} : inG w = true ↔ 0 ≤ w ∧ w < 64 := by simp [inG]
theorem wtE_zero {G : Gr} {w : Int} {s : BitVec 64} (h : wtE G w s = 0) : (0 ≤ w ∧ w < 64) ∧ sHas (ovr G s) w = false := by
  unfold wtE at h
  by_cases h1 : inG w = true
  · rw [if_pos h1] at h
    by_cases h2 : sHas (ovr G s) w = true
    · rw [if_pos h2] at h; omega
    · exact ⟨inG_iff.1 h1, by simpa using h2⟩
  · rw [if_neg h1] at h; omega
theorem wtG_acy {G : Gr} (h : G.length = 64) (hG : Acy G) (w : Int) (s : BitVec 64) : Acy (wtG G w s) := by
  unfold wtG
  by_cases e : wtE G w s = 0
  · rw [if_pos e]
    obtain ⟨hw, hb⟩ := wtE_zero e
    refine acy_set h om hG (fun hr => ?_)
    have := (ovr_iff G s w.toNat).2 hr
    rw [show ((w.toNat : Nat) : Int) = w by omega, hb] at this; cases this
  · rw [if_neg e]; exact hG
structure Ed where
  who : Int
  to : Int
deriving Inhabited, DecidableEq
def fEd (e : Ed) : List Value := [.int .i64 e.who, .int .i64 e.to]
structure Dd where
  kind : Int
  who : Int
  set : BitVec 64
deriving Inhabited
def GLe (G F : Gr) : Prop := ∀ j k : Nat, sHas (ot G j) k = true → sHas (ot F j) k = true
theorem GLe.refl (G : Gr) : GLe G G := fun _ _ h => h
theorem GLe.trans {A B C : Gr} (h : GLe A B) (k : GLe B C) : GLe A C := fun j i hb => k j i (h j i hb)
/-! the document's -/
structure RvI (G : Gr) (s X : BitVec 64) : Prop where
  sup : ∀ i : Nat, sHas s i = true → sHas X i = true
  sound : ∀ i : Nat, sHas X i = true → Rch G s i
theorem RvI.init (G : Gr) (s : BitVec 64) : RvI G s s := ⟨fun _ h => h, fun _ h => .base h⟩
theorem RvI.put {G : Gr} {s X : BitVec 64} {i : Nat} (h : RvI G s X) (hb : (sHas X (i : Nat) && decide (ot G i &&& ~~~X ≠ 0#64)) = true) : RvI G s (X ||| ot G i) ∧ card X < card (X ||| ot G i) := by
  rw [Bool.and_eq_true, decide_eq_true_eq] at hb
  refine ⟨⟨fun k hk => by rw [sHas_or, h.sup k hk]; rfl, fun k hk => ?_⟩, ?_⟩
  · rw [sHas_or, Bool.or_eq_true] at hk
    rcases hk with hk | hk
    · exact h.sound k hk
    · exact .step (h.sound i hb.1) hk
  · obtain ⟨k, h1, h2⟩ := sub_or_ne hb.2
    exact card_lt (fun q hq => by rw [sHas_or, hq]; rfl) (by rw [sHas_or, h1]; simp) h2
def CloN (G : Gr) (X : BitVec 64) (n : Nat) : Prop := ∀ j : Nat, j < n → sHas X j = true → ∀ i : Nat, sHas (ot G j) i = true → sHas X i = true
theorem CloN.step {G : Gr} {X : BitVec 64} {n : Nat} (h : CloN G X n) (hb : (sHas X (n : Nat) && decide (ot G n &&& ~~~X ≠ 0#64)) = false) : CloN G X (n + 1) := fun j hj hx i hi => by
  by_cases e : j = n
  · subst e
    rw [hx, Bool.true_and, decide_eq_false_iff_not, Classical.not_not] at hb
    exact sub6_iff.1 hb i (sHas_natlt hi) hi
  · exact h j om hx i hi
theorem RvI.end {G : Gr} {s X : BitVec 64} (h : RvI G s X) (hc : CloN G X 64) : X = ovr G s := ovr_of ⟨h.sup, h.sound, fun j i hj hi => hc j (sHas_natlt hj) hj i hi⟩
/-! all edges -/
def edI (G : Gr) (i : Nat) : List Ed := (allL (ot G i)).map (fun (k : Nat) => ⟨i, k⟩)
def edN (G : Gr) (n : Nat) : List Ed := (List.range n).flatMap (edI G)
theorem edN_succ (G : Gr) (n : Nat) : edN G (n + 1) = edN G n ++ edI G n := by unfold edN; rw [List.range_succ, List.flatMap_append]; simp
theorem edI_len (G : Gr) (i : Nat) : (edI G i).length ≤ 64 := by unfold edI; rw [List.length_map]; exact card_le _
theorem edN_len (G : Gr) : ∀ n, (edN G n).length ≤ 64 * n
  | 0 => Nat.le_refl _
  | n + 1 => by have := edN_len G n; have := edI_len G n; rw [edN_succ, List.length_append]; omega
/-! deeds -/
def alI (G : Gr) (a : Nat) (i : Nat) (X : BitVec 64) : Prop := ∀ k : Nat, sHas X k = true ↔ sHas (ot G a) k = true ∨ ∃ j, j < i ∧ sHas (ot G a) (j : Nat) = true ∧ Rch G (ot G j) k
theorem alI.init (G : Gr) (a : Nat) : alI G a 0 (ot G a) := fun k => ⟨.inl, fun h => by rcases h with h | ⟨j, hj, _⟩; exact h; omega⟩
theorem alI.no {G : Gr} {a i : Nat} {X : BitVec 64} (h : alI G a i X) (hb : sHas (ot G a) (i : Nat) = false) : alI G a (i + 1) X := fun k => by
  rw [h k]
  constructor
  · rintro (h1 | ⟨j, hj, h1⟩)
    · exact .inl h1
    · exact .inr ⟨j, by omega, h1⟩
  · rintro (h1 | ⟨j, hj, h1⟩)
    · exact .inl h1
    · by_cases e : j = i
      · subst e; rw [hb] at h1; cases h1.1
      · exact .inr ⟨j, by omega, h1⟩
theorem alI.end {G : Gr} {a : Nat} {X : BitVec 64} (h : alI G a 64 X) : X = ovr G (ot G a) := ovr_of ⟨fun i hi => (h i).2 (.inl hi), fun i hi => by
    rcases (h i).1 hi with h1 | ⟨j, _, h1, h2⟩
    · exact .base h1
    · exact (Rch.base h1).trans h2, fun j i hj hi => by
    rcases (h j).1 hj with h1 | ⟨q, hq, h1, h2⟩
    · exact (h i).2 (.inr ⟨j, sHas_natlt h1, h1, .base hi⟩)
    · exact (h i).2 (.inr ⟨q, hq, h1, .step h2 hi⟩)⟩
def Low (G : Gr) : Prop := ∀ i k : Nat, sHas (ot G i) k = true → k < G.length
theorem Low.rch {G : Gr} (h : Low G) {i k : Nat} (hr : Rch G (ot G i) k) : k < G.length := by
  cases hr with
  | base hb => exact h _ _ hb
  | step _ hb => exact h _ _ hb
theorem ot_out {G : Gr} {i : Nat} (h : G.length ≤ i) : ot G i = 0#64 := by
  unfold ot; rw [List.getD_eq_getElem?_getD, List.getElem?_eq_none h]; rfl
theorem ot_in {G : Gr} {i k : Nat} (h : sHas (ot G i) k = true) : i < G.length := by
  apply Classical.byContradiction; intro hn
  rw [ot_out om, sHas_zero] at h; cases h
theorem rch_in {G : Gr} {i k : Nat} (hr : Rch G (ot G i) k) : i < G.length := by
  induction hr with
  | base hb => exact ot_in hb
  | step _ _ ih => exact ih
def ordB (G : Gr) : Bool := (List.range G.length).all (fun (i : Nat) => !sHas (ovr G (ot G i)) (i : Nat))
theorem ordB_iff (G : Gr) : ordB G = true ↔ Acy G := by
  unfold ordB Acy
  rw [List.all_eq_true]
  constructor
  · intro h i hr
    have := h i (List.mem_range.2 (rch_in hr))
    rw [(ovr_iff G _ i).2 hr] at this; cases this
  · intro h i _
    cases hb : sHas (ovr G (ot G i)) (i : Nat)
    · rfl
    · exact absurd ((ovr_iff G _ i).1 hb) (h i)
theorem ordB_no {G : Gr} (h : ¬ Acy G) : ordB G = false := by
  cases hb : ordB G
  · rfl
  · exact absurd ((ordB_iff G).1 hb) h
/-! put one by one into a graph -/
def putG (G : Gr) (k : Nat) : Gr := (List.range k).foldl (fun H (i : Nat) => wtG H (i : Nat) (ot G i)) zeroG
theorem putG_succ (G : Gr) (k : Nat) : putG G (k + 1) = wtG (putG G k) (k : Nat) (ot G k) := by
  unfold putG; rw [List.range_succ, List.foldl_append]; rfl
theorem putG_len (G : Gr) (k : Nat) : (putG G k).length = 64 := by
  induction k with
  | zero => exact zeroG_len
  | succ k ih => rw [putG_succ]; exact wtG_len ih _ _
theorem putG_acy (G : Gr) (k : Nat) : Acy (putG G k) := by
  induction k with
  | zero => exact acy_zero
  | succ k ih => rw [putG_succ]; exact wtG_acy (putG_len G k) ih _ _
def okP (G : Gr) (k : Nat) : Prop := ∀ j, j < k → wtE (putG G j) (j : Nat) (ot G j) = 0
theorem okP.get {G : Gr} {k : Nat} (h : okP G k) (hk : k ≤ 64) (j : Nat) : ot (putG G k) j = if j < k then ot G j else 0#64 := by
  induction k with
  | zero => rw [if_neg om]; exact ot_zeroG j
  | succ k ih =>
    have he := h k om
    rw [putG_succ]; unfold wtG; rw [if_pos he, Int.toNat_natCast, ot_set (putG_len G k) om]
    by_cases e : j = k
    · subst e; rw [if_pos rfl, if_pos om]
    · rw [if_neg e, ih (fun j hj => h j om) om]
      by_cases e2 : j < k
      · rw [if_pos e2, if_pos om]
      · rw [if_neg e2, if_neg om]
theorem okP.le {G : Gr} {k : Nat} (h : okP G k) (hk : k ≤ 64) : GLe (putG G k) G := fun j i hb => by
  rw [h.get hk] at hb
  split at hb
  · exact hb
  · rw [sHas_zero] at hb; cases hb
theorem okP.bad {G : Gr} {k : Nat} (h : okP G k) (hk : k < 64) (hb : wtE (putG G k) (k : Nat) (ot G k) ≠ 0) : ¬ Acy G := by
  intro hA
  unfold wtE at hb
  rw [if_pos (inG_iff.2 ⟨by omega, by omega⟩)] at hb
  split at hb
  · rename_i hq
    have hr := (ovr_iff _ _ _).1 hq
    exact hA k (hr.mono (h.le om) (fun _ h => h))
  · exact hb rfl
theorem okP.good {G : Gr} (h : okP G G.length) (hk : G.length ≤ 64) : Acy G := by
  have hA := putG_acy G G.length
  intro i hr
  refine hA i (?_ : Rch _ _ _)
  have e := h.get hk i
  rw [if_pos (rch_in hr)] at e
  rw [e]
  exact hr.mono (fun j k hb => by rw [h.get hk, if_pos (ot_in hb)]; exact hb) (fun _ h => h)
/-! all that is come to: the worklist -/
structure WkI (G : Gr) (s met todo : BitVec 64) : Prop where
  sup : ∀ i : Nat, sHas s i = true → sHas met i = true ∨ sHas todo i = true
  sound : ∀ i : Nat, sHas met i = true ∨ sHas todo i = true → Rch G s i
  apart : ∀ i : Nat, sHas todo i = true → sHas met i = false
  done : ∀ j : Nat, sHas met j = true → ∀ i : Nat, sHas (ot G j) i = true → sHas met i = true ∨ sHas todo i = true
theorem WkI.init (G : Gr) (s : BitVec 64) : WkI G s 0#64 s := ⟨fun _ h => .inr h, fun i h => by
  rcases h with h | h
  · rw [sHas_zero] at h; cases h
  · exact .base h, fun i _ => sHas_zero _, fun j h => by rw [sHas_zero] at h; cases h⟩
theorem WkI.step {G : Gr} {s met todo : BitVec 64} (h : WkI G s met todo) (h0 : todo ≠ 0#64) :
    WkI G s (withS met (lsb todo : Nat)) ((todo ||| ot G (lsb todo)) &&& ~~~(withS met (lsb todo : Nat))) ∧ card met < card (withS met (lsb todo : Nat)) := by
  obtain ⟨hl, hb, _⟩ := lsb_spec h0
  have hb' : sHas todo (lsb todo : Nat) = true := by rw [sHas_nat]; exact hb
  have hr := h.sound _ (.inr hb')
  have hm : ∀ i : Nat, i < 64 → (sHas (withS met (lsb todo : Nat)) i = true ↔ sHas met i = true ∨ i = lsb todo) := fun i hi => by
    rw [sHas_withS, Bool.or_eq_true]
    simp only [Bool.and_eq_true, decide_eq_true_eq]
    constructor
    · rintro (h | ⟨h, _⟩)
      · exact .inl h
      · exact .inr om
    · rintro (h | h)
      · exact .inl h
      · exact .inr ⟨by omega, by omega, by omega⟩
  have ht : ∀ i : Nat, sHas ((todo ||| ot G (lsb todo)) &&& ~~~(withS met (lsb todo : Nat))) i = true ↔ (sHas todo i = true ∨ sHas (ot G (lsb todo)) i = true) ∧ ¬ (sHas met i = true ∨ i = lsb todo) := fun i => by
    constructor
    · intro hk
      have hlt := sHas_natlt hk
      rw [sHas_andn _ _ _ hlt, Bool.and_eq_true, Bool.not_eq_true', sHas_or, Bool.or_eq_true] at hk
      refine ⟨hk.1, fun hq => ?_⟩
      rw [(hm i hlt).2 hq] at hk; cases hk.2
    · rintro ⟨h1, h2⟩
      have hlt : i < 64 := by rcases h1 with h1 | h1 <;> exact sHas_natlt h1
      rw [sHas_andn _ _ _ hlt, Bool.and_eq_true, Bool.not_eq_true', sHas_or, Bool.or_eq_true]
      refine ⟨h1, ?_⟩
      cases hq : sHas (withS met (lsb todo : Nat)) i
      · rfl
      · exact absurd ((hm i hlt).1 hq) h2
  have all : ∀ i : Nat, (sHas met i = true ∨ sHas todo i = true) ∨ sHas (ot G (lsb todo)) i = true → sHas (withS met (lsb todo : Nat)) i = true ∨ sHas ((todo ||| ot G (lsb todo)) &&& ~~~(withS met (lsb todo : Nat))) i = true := fun i hi => by
    have hlt : i < 64 := by rcases hi with (hi | hi) | hi <;> exact sHas_natlt hi
    by_cases hq : sHas met i = true ∨ i = lsb todo
    · exact .inl ((hm i hlt).2 hq)
    · refine .inr ((ht i).2 ⟨?_, hq⟩)
      rcases hi with (hi | hi) | hi
      · exact absurd (.inl hi) hq
      · exact .inl hi
      · exact .inr hi
  refine ⟨⟨fun i hi => all i (.inl (h.sup i hi)), fun i hi => ?_, fun i hi => ?_, fun j hj i hi => ?_⟩, ?_⟩
  · rcases hi with hi | hi
    · rcases (hm i (sHas_natlt hi)).1 hi with hi | hi
      · exact h.sound i (.inl hi)
      · subst hi; exact hr
    · rcases ((ht i).1 hi).1 with hi | hi
      · exact h.sound i (.inr hi)
      · exact .step hr hi
  · have := ((ht i).1 hi).2
    cases hq : sHas (withS met (lsb todo : Nat)) i
    · rfl
    · exact absurd ((hm i (sHas_natlt hi)).1 hq) this
  · rcases (hm j (sHas_natlt hj)).1 hj with hj | hj
    · exact all i (.inl (h.done j hj i hi))
    · subst hj; exact all i (.inr hi)
  · exact card_with om om (h.apart _ hb')
theorem WkI.end {G : Gr} {s met : BitVec 64} (h : WkI G s met 0#64) : met = ovr G s := by
  refine ovr_of ⟨fun i hi => ?_, fun i hi => h.sound i (.inl hi), fun j i hj hi => ?_⟩
  · rcases h.sup i hi with h | h
    · exact h
    · rw [sHas_zero] at h; cases h
  · rcases h.done j hj i hi with h | h
    · exact h
    · rw [sHas_zero] at h; cases h
/-! ... and the rounds -/
def rndS (G : Gr) (s : BitVec 64) (n : Nat) : BitVec 64 := (List.range n).foldl (fun a (i : Nat) => if sHas a (i : Nat) = true then a ||| ot G i else a) s
theorem rndS_succ (G : Gr) (s : BitVec 64) (n : Nat) : rndS G s (n + 1) = if sHas (rndS G s n) (n : Nat) = true then rndS G s n ||| ot G n else rndS G s n := by
  unfold rndS; rw [List.range_succ, List.foldl_append]; rfl
theorem rndS_sup (G : Gr) (s : BitVec 64) (n : Nat) (k : Nat) (h : sHas s k = true) : sHas (rndS G s n) k = true := by
  induction n with
  | zero => exact h
  | succ n ih =>
    rw [rndS_succ]; split
    · rw [sHas_or, ih]; rfl
    · exact ih
theorem rndS_up (G : Gr) (s : BitVec 64) (n m : Nat) (hm : n ≤ m) (k : Nat) (h : sHas (rndS G s n) k = true) : sHas (rndS G s m) k = true := by
  induction m with
  | zero => rw [show n = 0 by omega] at h; exact h
  | succ m ih =>
    by_cases e : n = m + 1
    · subst e; exact h
    · rw [rndS_succ]; split
      · rw [sHas_or, ih om]; rfl
      · exact ih om
theorem rndS_sound {G : Gr} {s t : BitVec 64} (h : ∀ k : Nat, sHas s k = true → Rch G t k) (n : Nat) : ∀ k : Nat, sHas (rndS G s n) k = true → Rch G t k := by
  induction n with
  | zero => exact h
  | succ n ih =>
    intro k hk
    rw [rndS_succ] at hk; split at hk
    · rename_i hq
      rw [sHas_or, Bool.or_eq_true] at hk
      rcases hk with hk | hk
      · exact ih k hk
      · exact .step (ih n hq) hk
    · exact ih k hk
theorem rndS_clo {G : Gr} {s : BitVec 64} (h : rndS G s G.length = s) : Clo G s := by
  intro j i hj hi
  have hjn := ot_in hi
  have h1 : sHas (rndS G s (j + 1)) i = true := by
    rw [rndS_succ, if_pos (rndS_sup G s j j hj), sHas_or, hi, Bool.or_true]
  have := rndS_up G s (j + 1) G.length om i h1
  rw [h] at this; exact this
theorem clo_rnd {G : Gr} {s : BitVec 64} (h : Clo G s) (n : Nat) : rndS G s n = s := by
  induction n with
  | zero => rfl
  | succ n ih =>
    rw [rndS_succ, ih]; split
    · rename_i hq
      apply set_ext; intro i _
      rw [sHas_or]
      cases hb : sHas (ot G n) i
      · simp
      · rw [h n i hq hb]; rfl
    · rfl
def rnds (G : Gr) (s : BitVec 64) : Nat → BitVec 64
  | 0 => s
  | n + 1 => rndS G (rnds G s n) G.length
theorem rnds_sup (G : Gr) (s : BitVec 64) (n k : Nat) (h : sHas s k = true) : sHas (rnds G s n) k = true := by
  induction n with
  | zero => exact h
  | succ n ih => exact rndS_sup G _ _ k ih
theorem rnds_sound (G : Gr) (s : BitVec 64) (n : Nat) : ∀ k : Nat, sHas (rnds G s n) k = true → Rch G s k := by
  induction n with
  | zero => intro k h; exact .base h
  | succ n ih => exact rndS_sound ih _
theorem card_sub {s t : BitVec 64} (h : ∀ k : Nat, sHas s k = true → sHas t k = true) (hn : s ≠ t) : card s < card t := by
  obtain ⟨i, h1, h2⟩ : ∃ i : Nat, sHas t i = true ∧ sHas s i = false := by
    apply Classical.byContradiction; intro hq; apply hn
    apply set_ext; intro k _
    cases h1 : sHas s k
    · cases h2 : sHas t k
      · rfl
      · exact absurd ⟨k, h2, h1⟩ hq
    · rw [h k h1]
  exact card_lt h h1 h2
theorem card_below {s : BitVec 64} {n : Nat} (h : ∀ k : Nat, sHas s k = true → k < n) : card s ≤ n := by
  by_cases hn : n ≤ 64
  · have e : allL s = (List.range n).filter (fun i => s.getLsbD i) := by
      refine sorted_eq (allL_sorted s) (List.Pairwise.filter _ List.pairwise_lt_range) (fun i => ?_)
      rw [allL_mem, List.mem_filter, List.mem_range]
      exact ⟨fun q => ⟨h i (by rw [sHas_nat]; exact q), q⟩, fun q => q.2⟩
    unfold card; rw [e]
    exact Nat.le_trans (List.length_filter_le _ _) (by rw [List.length_range]; exact Nat.le_refl _)
  · have := card_le s; omega
theorem rnds_many (G : Gr) (s : BitVec 64) (hs : s ≠ 0#64) (n : Nat) : Clo G (rnds G s n) ∨ n + 1 ≤ card (rnds G s n) := by
  induction n with
  | zero =>
    right
    have : card 0#64 < card s := card_sub (fun k h => by rw [sHas_zero] at h; cases h) (fun e => hs e.symm)
    show 0 + 1 ≤ card s; omega
  | succ n ih =>
    rcases ih with ih | ih
    · left; show Clo G (rndS G (rnds G s n) G.length); rw [clo_rnd ih]; exact ih
    · by_cases e : rndS G (rnds G s n) G.length = rnds G s n
      · left; show Clo G (rndS G (rnds G s n) G.length); rw [e]; exact rndS_clo e
      · right
        have := card_sub (s := rnds G s n) (t := rndS G (rnds G s n) G.length) (fun k h => rndS_sup G _ _ k h) (fun q => e q.symm)
        show n + 1 + 1 ≤ card (rndS G (rnds G s n) G.length); omega
theorem rnds_end {G : Gr} (h : Low G) (i : Nat) : rnds G (ot G i) G.length = ovr G (ot G i) := by
  refine ovr_of ⟨rnds_sup G _ _, rnds_sound G _ _, ?_⟩
  by_cases hs : ot G i = 0#64
  · have : ∀ n, rnds G 0#64 n = 0#64 := by
      intro n
      induction n with
      | zero => rfl
      | succ n ih => show rndS G (rnds G 0#64 n) G.length = _; rw [ih]; exact clo_rnd (fun j i h => by rw [sHas_zero] at h; cases h) _
    rw [hs, this]; intro j i h; rw [sHas_zero] at h; cases h
  · rcases rnds_many G _ hs G.length with h1 | h1
    · exact h1
    · have := card_below (s := rnds G (ot G i) G.length) (n := G.length) (fun k hk => h.rch (rnds_sound G _ _ k hk))
      omega
/-! one less -/
theorem filter_one {p q : Nat → Bool} {i : Nat} : ∀ (l : List Nat), l.Nodup → i ∈ l → q i = true → p i = false → (∀ j ∈ l, j ≠ i → p j = q j) → (l.filter p).length + 1 = (l.filter q).length
  | [], _, h, _, _, _ => by cases h
  | a :: l, hn, hi, hq, hp, hj => by
    rw [List.nodup_cons] at hn
    simp only [List.filter_cons]
    by_cases e : a = i
    · subst e
      rw [hq, hp]
      have : l.filter p = l.filter q := List.filter_congr (fun j h => hj j (List.mem_cons_of_mem _ h) (fun e => by subst e; exact hn.1 h))
      simp [this]
    · have hi' : i ∈ l := by
        rcases List.mem_cons.1 hi with h | h
        · exact absurd h.symm e
        · exact h
      have ih := filter_one l hn.2 hi' hq hp (fun j h => hj j (List.mem_cons_of_mem _ h))
      rw [hj a (List.mem_cons_self ..) e]
      split
      · simp only [List.length_cons]; omega
      · exact ih
theorem card_witho {s : BitVec 64} {i : Nat} (h : sHas s i = true) : card (witho s (i : Nat)) + 1 = card s := by
  have hlt := sHas_natlt h
  refine filter_one (i := i) _ List.nodup_range (List.mem_range.2 hlt) (by rw [← sHas_nat]; exact h) ?_ (fun j _ hj => ?_)
  · rw [← sHas_nat, sHas_witho]; simp
  · rw [← sHas_nat, ← sHas_nat, sHas_witho, decide_eq_false (show ¬ (j : Int) = i by omega)]; simp
theorem card_zero {s : BitVec 64} (h : card s = 0) : s = 0#64 := allL_nil (List.length_eq_zero_iff.1 h)
/-! orders -/
def allN (n : Nat) : BitVec 64 := 1#64 <<< n - 1#64
theorem allN_has {n : Nat} (hn : n ≤ 12) (k : Nat) : sHas (allN n) k = decide (k < n) := by
  rw [sHas_nat]
  have key : ∀ n, n < 13 → ∀ k, k < 64 → (allN n).getLsbD k = decide (k < n) := by decide +kernel
  by_cases hk : k < 64
  · exact key n om k hk
  · rw [BitVec.getLsbD_of_ge _ _ om, decide_eq_false om]
theorem allN_card {n : Nat} (hn : n ≤ 12) : card (allN n) = n := by
  have key : ∀ n, n < 13 → card (allN n) = n := by decide +kernel
  exact key n om
def inW (G : Gr) (left : BitVec 64) : BitVec 64 := (allL left).foldl (fun a i => a ||| ot G i) 0#64
theorem or_fold (G : Gr) : ∀ (l : List Nat) (a : BitVec 64) (k : Nat), sHas (l.foldl (fun a i => a ||| ot G i) a) k = true ↔ sHas a k = true ∨ ∃ i ∈ l, sHas (ot G i) k = true
  | [], a, k => by simp
  | i :: l, a, k => by
    rw [List.foldl_cons, or_fold G l, sHas_or, Bool.or_eq_true]
    constructor
    · rintro ((h | h) | ⟨j, hj, h⟩)
      · exact .inl h
      · exact .inr ⟨i, List.mem_cons_self .., h⟩
      · exact .inr ⟨j, List.mem_cons_of_mem _ hj, h⟩
    · rintro (h | ⟨j, hj, h⟩)
      · exact .inl (.inl h)
      · rcases List.mem_cons.1 hj with rfl | hj
        · exact .inl (.inr h)
        · exact .inr ⟨j, hj, h⟩
theorem inW_has (G : Gr) (left : BitVec 64) (k : Nat) : sHas (inW G left) k = true ↔ ∃ i : Nat, sHas left i = true ∧ sHas (ot G i) k = true := by
  unfold inW; rw [or_fold, sHas_zero]
  constructor
  · rintro (h | ⟨i, hi, h⟩)
    · cases h
    · exact ⟨i, by rw [sHas_nat]; exact allL_mem.1 hi, h⟩
  · rintro ⟨i, hi, h⟩; exact .inr ⟨i, allL_mem.2 (by rw [← sHas_nat]; exact hi), h⟩
def Free (G : Gr) (left : BitVec 64) (i : Nat) : Prop := sHas left i = true ∧ ∀ j : Nat, sHas left j = true → sHas (ot G j) i = false
def freS (G : Gr) (left : BitVec 64) : BitVec 64 := left &&& ~~~(inW G left)
theorem freS_has (G : Gr) (left : BitVec 64) (i : Nat) : sHas (freS G left) i = true ↔ Free G left i := by
  constructor
  · intro h
    have hlt := sHas_natlt h
    unfold freS at h
    rw [sHas_andn _ _ _ hlt, Bool.and_eq_true, Bool.not_eq_true'] at h
    refine ⟨h.1, fun j hj => ?_⟩
    cases hb : sHas (ot G j) i
    · rfl
    · rw [(inW_has G left i).2 ⟨j, hj, hb⟩] at h; cases h.2
  · rintro ⟨h1, h2⟩
    have hlt := sHas_natlt h1
    unfold freS
    rw [sHas_andn _ _ _ hlt, h1, Bool.true_and, Bool.not_eq_true']
    cases hb : sHas (inW G left) i
    · rfl
    · obtain ⟨j, hj, hk⟩ := (inW_has G left i).1 hb
      rw [h2 j hj] at hk; cases hk
def freI (G : Gr) (left : BitVec 64) : Int := firstI (freS G left)
theorem rch_card {G : Gr} (hA : Acy G) {j i : Nat} (h : sHas (ot G j) i = true) : card (ovr G (ot G i)) < card (ovr G (ot G j)) := by
  refine card_lt (i := i) (fun k hk => ?_) ((ovr_iff _ _ _).2 (.base h)) ?_
  · rw [ovr_iff] at hk ⊢; exact Rch.trans (.base h) hk
  · cases hb : sHas (ovr G (ot G i)) i
    · rfl
    · exact absurd ((ovr_iff _ _ _).1 hb) (hA i)
theorem free_ex {G : Gr} (hA : Acy G) {left : BitVec 64} : ∀ (m i : Nat), sHas left i = true → 64 - card (ovr G (ot G i)) ≤ m → ∃ k, Free G left k
  | 0, i, hi, hm => by
    refine ⟨i, hi, fun j hj => ?_⟩
    cases hb : sHas (ot G j) i
    · rfl
    · have := rch_card hA hb; have := card_le (ovr G (ot G j)); omega
  | m + 1, i, hi, hm => by
    by_cases h : ∃ j : Nat, sHas left j = true ∧ sHas (ot G j) i = true
    · obtain ⟨j, hj, hb⟩ := h
      have := rch_card hA hb; have := card_le (ovr G (ot G j))
      exact free_ex hA m j hj om
    · refine ⟨i, hi, fun j hj => ?_⟩
      cases hb : sHas (ot G j) i
      · rfl
      · exact absurd ⟨j, hj, hb⟩ h
theorem freS_ne {G : Gr} (hA : Acy G) {left : BitVec 64} (h : left ≠ 0#64) : freS G left ≠ 0#64 := by
  obtain ⟨hl, hb, _⟩ := lsb_spec h
  obtain ⟨k, hk⟩ := free_ex hA (left := left) 64 (lsb left) (by rw [sHas_nat]; exact hb) om
  intro e
  have := (freS_has G left k).2 hk
  rw [e, sHas_zero] at this; cases this
theorem freI_at {G : Gr} {left : BitVec 64} (h : freS G left ≠ 0#64) : ∃ i : Nat, freI G left = (i : Nat) ∧ i < 64 ∧ Free G left i ∧ ∀ j, j < i → ¬ Free G left j := by
  obtain ⟨hl, hb, hlt⟩ := lsb_spec h
  refine ⟨lsb (freS G left), by unfold freI firstI; rw [if_neg h], hl, (freS_has _ _ _).1 (by rw [sHas_nat]; exact hb), fun j hj hf => ?_⟩
  have := (freS_has G left j).2 hf
  rw [sHas_nat, hlt j hj] at this; cases this
theorem freI_first {G : Gr} {left : BitVec 64} {i : Nat} (h : Free G left i) (hl : ∀ j, j < i → ¬ Free G left j) : freI G left = (i : Nat) := by
  have hs := (freS_has G left i).2 h
  have hne : freS G left ≠ 0#64 := by intro e; rw [e, sHas_zero] at hs; cases hs
  obtain ⟨k, hk, hk64, hf, hlt⟩ := freI_at hne
  rw [hk]
  have h1 : ¬ k < i := fun q => hl k q hf
  have h2 : ¬ i < k := fun q => hlt i q h
  have : k = i := by omega
  rw [this]
def ordF (G : Gr) : Nat → BitVec 64 → List Int
  | 0, _ => []
  | f + 1, left => if left = 0#64 then [] else freI G left :: ordF G f (witho left (freI G left))
theorem ordF_fuel {G : Gr} (hA : Acy G) : ∀ (f g : Nat) (left : BitVec 64), card left ≤ f → card left ≤ g → ordF G f left = ordF G g left
  | 0, 0, _, _, _ => rfl
  | 0, g + 1, left, h1, _ => by rw [ordF, ordF, if_pos (card_zero om)]
  | f + 1, 0, left, _, h2 => by rw [ordF, ordF, if_pos (card_zero om)]
  | f + 1, g + 1, left, h1, h2 => by
    rw [ordF, ordF]
    by_cases e : left = 0#64
    · rw [if_pos e, if_pos e]
    · rw [if_neg e, if_neg e]
      obtain ⟨i, hi, _, hf, _⟩ := freI_at (freS_ne hA e)
      rw [hi]
      have := card_witho hf.1
      rw [ordF_fuel hA f g _ om om]
def ordL (G : Gr) (left : BitVec 64) : List Int := ordF G 64 left
theorem ordL_zero (G : Gr) : ordL G 0#64 = [] := rfl
theorem ordL_cons {G : Gr} (hA : Acy G) {left : BitVec 64} (h : left ≠ 0#64) : ordL G left = freI G left :: ordL G (witho left (freI G left)) := by
  obtain ⟨i, hi, _, hf, _⟩ := freI_at (freS_ne hA h)
  have hc := card_witho hf.1
  have := card_le left
  unfold ordL
  rw [hi]
  rw [show ordF G 64 left = freI G left :: ordF G 63 (witho left (freI G left)) by rw [ordF, if_neg h], hi, ordF_fuel hA 63 64 _ om om]
def ordO (G : Gr) : List Int := ordL G (allN G.length)
def ClL (G : Gr) (left : BitVec 64) : Prop := ∀ j k : Nat, sHas left j = true → sHas (ot G j) k = true → sHas left k = true
theorem ClL.all {G : Gr} (h : Low G) (hn : G.length ≤ 12) : ClL G (allN G.length) := fun j k _ hk => by
  rw [allN_has hn]; exact decide_eq_true (h _ _ hk)
theorem has_wo {s : BitVec 64} {i k : Nat} : sHas (witho s (i : Nat)) k = true ↔ sHas s k = true ∧ k ≠ i := by
  rw [sHas_witho, Bool.and_eq_true, Bool.not_eq_true', decide_eq_false_iff_not]
  constructor
  · rintro ⟨h1, h2⟩; exact ⟨h1, by omega⟩
  · rintro ⟨h1, h2⟩; exact ⟨h1, by omega⟩
theorem ClL.step {G : Gr} {left : BitVec 64} (h : ClL G left) {i : Nat} (hf : Free G left i) : ClL G (witho left (i : Nat)) := fun j k hj hk => by
  rw [has_wo] at hj ⊢
  refine ⟨h j k hj.1 hk, fun e => ?_⟩
  subst e
  rw [hf.2 j hj.1] at hk; cases hk
theorem ordL_mem {G : Gr} (hA : Acy G) : ∀ (m : Nat) (left : BitVec 64), card left ≤ m → ∀ x : Int, x ∈ ordL G left ↔ ∃ k : Nat, x = k ∧ sHas left k = true
  | m, left, hm, x => by
    by_cases e : left = 0#64
    · subst e; rw [ordL_zero]
      constructor
      · intro h; cases h
      · rintro ⟨k, _, h⟩; rw [sHas_zero] at h; cases h
    · obtain ⟨i, hi, _, hf, _⟩ := freI_at (freS_ne hA e)
      have hc := card_witho hf.1
      rw [ordL_cons hA e, hi, List.mem_cons]
      match m, hm with
      | 0, hm => omega
      | m + 1, hm =>
        rw [ordL_mem hA m _ om x]
        constructor
        · rintro (h | ⟨k, h1, h2⟩)
          · exact ⟨i, h, hf.1⟩
          · exact ⟨k, h1, (has_wo.1 h2).1⟩
        · rintro ⟨k, h1, h2⟩
          by_cases q : k = i
          · subst q; exact .inl h1
          · exact .inr ⟨k, h1, has_wo.2 ⟨h2, q⟩⟩
theorem ordL_len {G : Gr} (hA : Acy G) : ∀ (m : Nat) (left : BitVec 64), card left ≤ m → (ordL G left).length = card left
  | m, left, hm => by
    by_cases e : left = 0#64
    · subst e; rw [ordL_zero]; decide
    · obtain ⟨i, hi, _, hf, _⟩ := freI_at (freS_ne hA e)
      have hc := card_witho hf.1
      rw [ordL_cons hA e, hi, List.length_cons]
      match m, hm with
      | 0, hm => omega
      | m + 1, hm => rw [ordL_len hA m _ om]; omega
theorem ordL_drop {G : Gr} (hA : Acy G) : ∀ (p : Nat) (left : BitVec 64), ClL G left → ∃ l2 : BitVec 64, (ordL G left).drop p = ordL G l2 ∧ ClL G l2 ∧ (∀ k : Nat, sHas l2 k = true → sHas left k = true)
  | 0, left, h => ⟨left, rfl, h, fun _ h => h⟩
  | p + 1, left, h => by
    by_cases e : left = 0#64
    · subst e; exact ⟨0#64, by rw [ordL_zero, List.drop_nil], h, fun _ h => h⟩
    · obtain ⟨i, hi, _, hf, _⟩ := freI_at (freS_ne hA e)
      obtain ⟨l2, h1, h2, h3⟩ := ordL_drop hA p (witho left (i : Nat)) (h.step hf)
      exact ⟨l2, by rw [ordL_cons hA e, hi, List.drop_succ_cons]; exact h1, h2, fun k hk => (has_wo.1 (h3 k hk)).1⟩
theorem ordO_at {G : Gr} (hA : Acy G) (hL : Low G) (hn : G.length ≤ 12) {p : Nat} (hp : p < (ordO G).length) :
    ∃ (i : Nat) (l2 : BitVec 64), (ordO G).getD p 0 = (i : Nat) ∧ i < G.length ∧ sHas l2 i = true ∧ (ordO G).drop p = ordL G l2 ∧ (ordO G).drop (p + 1) = ordL G (witho l2 (i : Nat)) ∧ (∀ k : Nat, sHas (ot G i) k = true → sHas (witho l2 (i : Nat)) k = true) ∧ (∀ k : Nat, sHas l2 k = true → k < G.length) := by
  obtain ⟨l2, h1, h2, h3⟩ := ordL_drop hA p (allN G.length) (ClL.all hL hn)
  have hne : l2 ≠ 0#64 := by
    intro e; subst e
    rw [ordL_zero] at h1
    have := congrArg List.length h1
    rw [List.length_drop, List.length_nil] at this
    unfold ordO at hp; omega
  obtain ⟨i, hi, _, hf, _⟩ := freI_at (freS_ne hA hne)
  have hlt : ∀ k : Nat, sHas l2 k = true → k < G.length := fun k hk => by
    have := h3 k hk; rw [allN_has hn] at this; exact of_decide_eq_true this
  have hc := ordL_cons hA hne
  have e1 : (ordO G).drop p = freI G l2 :: ordL G (witho l2 (freI G l2)) := by rw [← hc]; exact h1
  refine ⟨i, l2, ?_, hlt i hf.1, hf.1, h1, ?_, fun k hk => has_wo.2 ⟨h2 i k hf.1 hk, fun e => ?_⟩, hlt⟩
  · have := congrArg (fun l => l.getD 0 0) e1
    simp only [List.getD_cons_zero] at this
    rw [← hi, ← this, List.getD_eq_getElem?_getD, List.getD_eq_getElem?_getD, List.getElem?_drop, Nat.add_zero]
  · have := congrArg List.tail e1
    rw [List.tail_drop, List.tail_cons, hi] at this; exact this
  · subst e; exact hA k (.base hk)
theorem ordO_len {G : Gr} (hA : Acy G) (hn : G.length ≤ 12) : (ordO G).length = G.length := by
  unfold ordO; rw [ordL_len hA 64 _ (card_le _), allN_card hn]
/-! depths -/
def mxF (g : Nat → Nat) (l : List Nat) : Nat := l.foldl (fun b i => max b (g i)) 0
theorem mx_fold (g : Nat → Nat) : ∀ (l : List Nat) (b : Nat), l.foldl (fun b i => max b (g i)) b = max b (mxF g l)
  | [], b => by unfold mxF; simp
  | i :: l, b => by unfold mxF; rw [List.foldl_cons, List.foldl_cons, mx_fold g l, mx_fold g l (max 0 (g i))]; omega
theorem mxF_cons (g : Nat → Nat) (i : Nat) (l : List Nat) : mxF g (i :: l) = max (g i) (mxF g l) := by
  rw [show mxF g (i :: l) = l.foldl (fun b i => max b (g i)) (max 0 (g i)) from rfl, mx_fold]; omega
theorem mxF_snoc (g : Nat → Nat) (i : Nat) (l : List Nat) : mxF g (l ++ [i]) = max (mxF g l) (g i) := by
  unfold mxF; rw [List.foldl_append]; rfl
theorem mxF_le {g : Nat → Nat} {l : List Nat} {n : Nat} : mxF g l ≤ n ↔ ∀ i ∈ l, g i ≤ n := by
  induction l with
  | nil => simp [mxF]
  | cons i l ih => rw [mxF_cons, Nat.max_le, ih]; simp
theorem mxF_same {g : Nat → Nat} {l m : List Nat} (h : ∀ i, i ∈ l ↔ i ∈ m) : mxF g l = mxF g m := by
  apply Nat.le_antisymm
  · exact mxF_le.2 (fun i hi => mxF_le.1 (Nat.le_refl (mxF g m)) i ((h i).1 hi))
  · exact mxF_le.2 (fun i hi => mxF_le.1 (Nat.le_refl (mxF g l)) i ((h i).2 hi))
theorem mxF_congr {g h : Nat → Nat} {l : List Nat} (e : ∀ i ∈ l, g i = h i) : mxF g l = mxF h l := by
  induction l with
  | nil => rfl
  | cons i l ih => rw [mxF_cons, mxF_cons, e i (List.mem_cons_self ..), ih (fun j hj => e j (List.mem_cons_of_mem _ hj))]
def depF (G : Gr) : Nat → Nat → Nat
  | 0, _ => 0
  | f + 1, i => 1 + mxF (depF G f) (allL (ot G i))
theorem depF_succ (G : Gr) (f i : Nat) : depF G (f + 1) i = 1 + mxF (depF G f) (allL (ot G i)) := by rw [depF]
theorem allL_has {s : BitVec 64} {i : Nat} : i ∈ allL s ↔ sHas s i = true := by rw [allL_mem, sHas_nat]
theorem depF_fuel {G : Gr} (hA : Acy G) : ∀ (f g i : Nat), card (ovr G (ot G i)) < f → card (ovr G (ot G i)) < g → depF G f i = depF G g i
  | 0, _, _, h, _ => by omega
  | _ + 1, 0, _, _, h => by omega
  | f + 1, g + 1, i, h1, h2 => by
    rw [depF, depF]
    congr 1
    exact mxF_congr (fun k hk => by
      have := rch_card hA (allL_has.1 hk)
      exact depF_fuel hA f g k om om)
def dep (G : Gr) (i : Nat) : Nat := depF G 66 i
theorem dep_eq {G : Gr} (hA : Acy G) (i : Nat) : dep G i = 1 + mxF (dep G) (allL (ot G i)) := by
  have key : ∀ k ∈ allL (ot G i), depF G 65 k = dep G k := fun k _ => by
    have hc := card_le (ovr G (ot G k))
    exact depF_fuel hA 65 66 k om om
  rw [← mxF_congr key]
  exact depF_succ G 65 i
theorem depF_le (G : Gr) : ∀ (f i : Nat), depF G f i ≤ f
  | 0, _ => Nat.le_refl _
  | f + 1, i => by rw [depF]; have : mxF (depF G f) (allL (ot G i)) ≤ f := mxF_le.2 (fun k _ => depF_le G f k); omega
theorem dep_le (G : Gr) (i : Nat) : dep G i ≤ 66 := depF_le G 66 i
def dpt (G : Gr) : Nat := mxF (dep G) (List.range G.length)
theorem mx_ord {G : Gr} (hA : Acy G) (hn : G.length ≤ 12) : mxF (dep G) ((ordO G).map Int.toNat) = dpt G := by
  refine mxF_same (fun i => ?_)
  rw [List.mem_map, List.mem_range]
  constructor
  · rintro ⟨x, hx, rfl⟩
    obtain ⟨k, rfl, hk⟩ := (ordL_mem hA 64 _ (card_le _) x).1 hx
    rw [allN_has hn] at hk; rw [Int.toNat_natCast]; exact of_decide_eq_true hk
  · intro h
    exact ⟨(i : Nat), (ordL_mem hA 64 _ (card_le _) _).2 ⟨i, rfl, by rw [allN_has hn]; exact decide_eq_true h⟩, Int.toNat_natCast _⟩
/-! rings -/
def rngI (G : Gr) : Nat := ((List.range G.length).find? (fun (i : Nat) => sHas (ovr G (ot G i)) (i : Nat))).getD 0
theorem rng_ex {G : Gr} (h : ¬ Acy G) : ∃ i, i < G.length ∧ sHas (ovr G (ot G i)) (i : Nat) = true := by
  apply Classical.byContradiction; intro hn
  apply h; intro i hr
  exact hn ⟨i, rch_in hr, (ovr_iff _ _ _).2 hr⟩
theorem find_range {p : Nat → Bool} {n : Nat} (h : ∃ i, i < n ∧ p i = true) : ∃ i, (List.range n).find? p = some i ∧ i < n ∧ p i = true ∧ ∀ j, j < i → p j = false := by
  cases hf : (List.range n).find? p with
  | none =>
    obtain ⟨i, hi, hp⟩ := h
    have := List.find?_eq_none.1 hf i (List.mem_range.2 hi)
    exact absurd hp this
  | some i =>
    have h1 := List.find?_range_eq_some.1 hf
    refine ⟨i, rfl, List.mem_range.1 h1.2.1, h1.1, fun j hj => ?_⟩
    have := h1.2.2 j hj
    simpa using this
theorem rngI_spec {G : Gr} (h : ¬ Acy G) : rngI G < G.length ∧ sHas (ovr G (ot G (rngI G))) (rngI G : Nat) = true ∧ ∀ j, j < rngI G → sHas (ovr G (ot G j)) (j : Nat) = false := by
  obtain ⟨i, h1, h2, h3, h4⟩ := find_range (rng_ex h)
  unfold rngI; rw [h1]; exact ⟨h2, h3, h4⟩
theorem rngI_uniq {G : Gr} (h : ¬ Acy G) {i : Nat} (h1 : sHas (ovr G (ot G i)) (i : Nat) = true) (h2 : ∀ j, j < i → sHas (ovr G (ot G j)) (j : Nat) = false) : i = rngI G := by
  obtain ⟨k1, k2, k3⟩ := rngI_spec h
  have a1 : ¬ i < rngI G := fun q => by rw [k3 i q] at h1; cases h1
  have a2 : ¬ rngI G < i := fun q => by rw [h2 _ q] at k2; cases k2
  omega
def stpB (G : Gr) (t i : Nat) : Bool := decide (i = t) || sHas (ovr G (ot G i)) (t : Nat)
def nxtI (G : Gr) (a t : Nat) : Nat := ((allL (ot G a)).find? (stpB G t)).getD t
theorem nxt_ex {G : Gr} {a t : Nat} (h : Rch G (ot G a) t) : ∃ i : Nat, sHas (ot G a) i = true ∧ stpB G t i = true := by
  have key : ∀ {s : BitVec 64} {k : Nat}, Rch G s k → ∃ i : Nat, sHas s i = true ∧ (i = k ∨ Rch G (ot G i) k) := by
    intro s k hr
    induction hr with
    | base hb => exact ⟨_, hb, .inl rfl⟩
    | step _ hb ih =>
      obtain ⟨i, h1, h2⟩ := ih
      refine ⟨i, h1, .inr ?_⟩
      rcases h2 with h2 | h2
      · subst h2; exact .base hb
      · exact .step h2 hb
  obtain ⟨i, h1, h2⟩ := key h
  refine ⟨i, h1, ?_⟩
  unfold stpB
  rcases h2 with h2 | h2
  · rw [decide_eq_true h2]; rfl
  · rw [(ovr_iff _ _ _).2 h2, Bool.or_true]
theorem find_sorted {p : Nat → Bool} {s : BitVec 64} {i : Nat} (h : sHas s i = true) (hp : p i = true) (hl : ∀ j, j < i → sHas s j = true → p j = false) : (allL s).find? p = some i := by
  unfold allL
  rw [List.find?_filter, List.find?_range_eq_some]
  refine ⟨by rw [← sHas_nat, h, hp]; rfl, List.mem_range.2 (sHas_natlt h), fun j hj => ?_⟩
  cases hb : sHas s j
  · rw [← sHas_nat, hb]; rfl
  · rw [hl j hj hb]; simp
theorem nxtI_first {G : Gr} {a t i : Nat} (h : sHas (ot G a) i = true) (hp : stpB G t i = true) (hl : ∀ j, j < i → sHas (ot G a) j = true → stpB G t j = false) : nxtI G a t = i := by
  unfold nxtI; rw [find_sorted h hp hl]; rfl
theorem nxtI_spec {G : Gr} {a t : Nat} (h : Rch G (ot G a) t) (ht : Rch G (ot G t) t) : sHas (ot G a) (nxtI G a t) = true ∧ Rch G (ot G (nxtI G a t)) t := by
  obtain ⟨i, h1, h2⟩ := nxt_ex h
  unfold nxtI
  cases hf : (allL (ot G a)).find? (stpB G t) with
  | none => exact absurd h2 (by have := List.find?_eq_none.1 hf i (allL_has.2 h1); exact this)
  | some k =>
    have m1 := List.mem_of_find?_eq_some hf
    have m2 := List.find?_some hf
    refine ⟨allL_has.1 m1, ?_⟩
    unfold stpB at m2
    rw [Bool.or_eq_true] at m2
    rcases m2 with m2 | m2
    · have := of_decide_eq_true m2; show Rch G (ot G k) t; rw [this]; exact ht
    · exact (ovr_iff _ _ _).1 m2
def cycF (G : Gr) (t : Nat) : Nat → BitVec 64 → Nat → List Int
  | 0, _, _ => []
  | f + 1, met, a => if sHas met (a : Nat) = true then [] else (a : Int) :: cycF G t f (withS met (a : Nat)) (nxtI G a t)
theorem cycF_fuel (G : Gr) (t : Nat) : ∀ (f g : Nat) (met : BitVec 64) (a : Nat), 64 - card met < f → 64 - card met < g → a < 64 → (∀ a, a < 64 → nxtI G a t < 64) → cycF G t f met a = cycF G t g met a
  | 0, _, _, _, h, _, _, _ => by omega
  | _ + 1, 0, _, _, _, h, _, _ => by omega
  | f + 1, g + 1, met, a, h1, h2, ha, hx => by
    rw [cycF, cycF]
    by_cases e : sHas met (a : Nat) = true
    · rw [if_pos e, if_pos e]
    · rw [if_neg e, if_neg e]
      have hc := card_with (V := met) (w := (a : Nat)) om om (by simpa using e)
      have := card_le (withS met (a : Nat))
      rw [cycF_fuel G t f g _ _ om om (hx a ha) hx]
def cycL (G : Gr) (t : Nat) (met : BitVec 64) (a : Nat) : List Int := cycF G t 65 met a
theorem nxt_lt {G : Gr} {t : Nat} (ht : t < 64) (a : Nat) (_ : a < 64) : nxtI G a t < 64 := by
  unfold nxtI
  cases hf : (allL (ot G a)).find? (stpB G t) with
  | none => exact ht
  | some k => have := List.mem_of_find?_eq_some hf; exact sHas_natlt (allL_has.1 this)
theorem cycL_stop {G : Gr} {t a : Nat} {met : BitVec 64} (h : sHas met (a : Nat) = true) : cycL G t met a = [] := by
  unfold cycL; rw [cycF, if_pos h]
theorem cycL_next {G : Gr} {t a : Nat} {met : BitVec 64} (ht : t < 64) (ha : a < 64) (h : sHas met (a : Nat) = false) : cycL G t met a = (a : Int) :: cycL G t (withS met (a : Nat)) (nxtI G a t) := by
  unfold cycL
  rw [show cycF G t 65 met a = (a : Int) :: cycF G t 64 (withS met (a : Nat)) (nxtI G a t) by rw [cycF, if_neg (by rw [h]; simp)]]
  have hc := card_with (V := met) (w := (a : Nat)) om om h
  have := card_le (withS met (a : Nat))
  rw [cycF_fuel G t 64 65 _ _ om om (nxt_lt ht a ha) (nxt_lt ht)]
def cycO (G : Gr) : List Int := cycL G (rngI G) 0#64 (rngI G)
theorem cycF_len (G : Gr) (t : Nat) : ∀ (f : Nat) (met : BitVec 64) (a : Nat), (cycF G t f met a).length ≤ f
  | 0, _, _ => Nat.le_refl _
  | f + 1, met, a => by
    rw [cycF]; split
    · exact Nat.zero_le _
    · rw [List.length_cons]; have := cycF_len G t f (withS met (a : Nat)) (nxtI G a t); omega
def innS (xs : List COp) (lo n : Nat) (s : BitVec 64) : BitVec 64 := ((xs.drop lo).take n).foldl (fun s o => if takesB o.k = true then withS s o.a else s) s
def witS (xs : List COp) (lock : Int) (s : BitVec 64) (i : Nat) : BitVec 64 := if (xs.getD i default).a = lock then innS xs (i + 1) (secO xs i).1 s else s
def witK (xs : List COp) (lock : Int) (k : Nat) : BitVec 64 := ((filP (tkT xs) xs.length).take k).foldl (witS xs lock) 0#64
def witO (xs : List COp) (lock : Int) : BitVec 64 := (filP (tkT xs) xs.length).foldl (witS xs lock) 0#64
theorem witK_succ {xs : List COp} {lock : Int} {k p : Nat} (h : (filP (tkT xs) xs.length)[k]? = some p) : witK xs lock (k + 1) = witS xs lock (witK xs lock k) p := by
  unfold witK
  rw [List.take_add_one, h, List.foldl_append]; rfl
theorem witK_all (xs : List COp) (lock : Int) : witK xs lock (filP (tkT xs) xs.length).length = witO xs lock := by
  unfold witK; rw [List.take_length]; rfl
theorem innS_succ {xs : List COp} {lo n : Nat} (s : BitVec 64) (h : lo + n < xs.length) : innS xs lo (n + 1) s = if takesB (xs.getD (lo + n) default).k = true then withS (innS xs lo n s) (xs.getD (lo + n) default).a else innS xs lo n s := by
  unfold innS
  have e : (xs.drop lo)[n]? = some (xs.getD (lo + n) default) := by
    rw [List.getElem?_drop, List.getD_eq_getElem?_getD, List.getElem?_eq_getElem h]; rfl
  rw [List.take_add_one, e, List.foldl_append]; rfl
theorem innS_has {xs : List COp} {lo n : Nat} {s : BitVec 64} {k : Int} (h : sHas (innS xs lo n s) k = true) : sHas s k = true ∨ ∃ o ∈ xs, takesB o.k = true ∧ o.a = k := by
  unfold innS at h
  have hsub : ∀ o ∈ (xs.drop lo).take n, o ∈ xs := fun o ho => List.mem_of_mem_drop (List.mem_of_mem_take ho)
  generalize (xs.drop lo).take n = l at h hsub
  induction l generalizing s with
  | nil => exact .inl h
  | cons o l ih =>
    rw [List.foldl_cons] at h
    rcases ih h (fun o ho => hsub o (List.mem_cons_of_mem _ ho)) with q | q
    · split at q
      · rename_i c
        rw [sHas_withS, Bool.or_eq_true] at q
        rcases q with q | q
        · exact .inl q
        · rw [Bool.and_eq_true] at q
          exact .inr ⟨o, hsub o (List.mem_cons_self ..), c, (of_decide_eq_true q.1).symm⟩
      · exact .inl q
    · exact .inr q
theorem witO_has {xs : List COp} {lock k : Int} (h : sHas (witO xs lock) k = true) : ∃ o ∈ xs, takesB o.k = true ∧ o.a = k := by
  unfold witO at h
  have key : ∀ (l : List Nat) (s : BitVec 64), sHas (l.foldl (witS xs lock) s) k = true → sHas s k = true ∨ ∃ o ∈ xs, takesB o.k = true ∧ o.a = k := by
    intro l
    induction l with
    | nil => exact fun s h => .inl h
    | cons i l ih =>
      intro s h
      rw [List.foldl_cons] at h
      rcases ih _ h with q | q
      · unfold witS at q
        split at q
        · exact innS_has q
        · exact .inl q
      · exact .inr q
  rcases key _ _ h with q | q
  · rw [sHas_zero] at q; cases q
  · exact q
def grwK (s : StC) (i k : Nat) : BitVec 64 := (s.ps.take k).foldl (fun g p => g ||| witO p.xs (i : Nat)) 0#64
def grfO (s : StC) : Gr := (List.range s.ls.length).map (fun i => grwK s i s.ps.length)
theorem grwK_succ {s : StC} {i k : Nat} (h : k < s.ps.length) : grwK s i (k + 1) = grwK s i k ||| witO (s.ps.getD k default).xs (i : Nat) := by
  unfold grwK
  have e : s.ps[k]? = some (s.ps.getD k default) := by rw [List.getD_eq_getElem?_getD, List.getElem?_eq_getElem h]; rfl
  rw [List.take_add_one, e, List.foldl_append]; rfl
theorem grfO_len (s : StC) : (grfO s).length = s.ls.length := by unfold grfO; rw [List.length_map, List.length_range]
end Go.Eng
namespace Go.Eng
open Go Go.Proofs Go.RowKit
abbrev uBx (b : Nat) (x : BitVec 64) : Nat × Obj := (b, .cells #[U x] 34 (0, 0))
theorem bit_spec (i : Int) (w : World) : Ret Tryd.prog 51 #[.int .i64 i] w (fun v w' => v = U (bitU i) ∧ Ext w w') := by
 refine Ret.enterM Tryd.func51 rfl Tryd.ntmps51 rfl ([]) (no) (Mem.nil w) ?_
 refine wR <| LM.as rfl <| nA [(0, _)] <| wpM.seq <| wR <| LM.mv rfl <| LM.val (ov_lss rfl rfl) <| LM.mv rfl ?_
 refine LM.splitD (t := 5) rfl (fun h1 => ?_) (fun h1 => ?_)
 ·
  refine LM.dr 5 rfl rfl rfl <| LM.dr 5 rfl rfl rfl <| LM.val (ov_pickT rfl rfl) <| nA [(0, _), (8, _)] ?_
  refine wpM.condT rfl ?_
  refine wR <| LM.as rfl <| nA [(2, _)] <| wpM.ret <| QM.then_ret ?_
  refine qL Tryd.results51 rfl fun w' hm' hc' hg' => ?_
  refine ⟨?_, hc'⟩; simp only [resV, bitU]; first | (rw [if_pos om]; done) | (rw [if_neg om]; done) | (rw [if_pos om]; rfl)
 refine LM.sp 5 rfl rfl rfl <| LM.mv rfl <| LM.sp 5 rfl rfl rfl <| LM.val (ov_gtr rfl rfl) <| LM.val (ov_pickF rfl rfl) <| nA [(0, _), (8, _)] ?_
 refine wpM.condD rfl (fun h2 => ?_) (fun h2 => ?_)
 ·
  refine wR <| LM.as rfl <| nA [(2, _)] <| wpM.ret <| QM.then_ret ?_
  refine qL Tryd.results51 rfl fun w' hm' hc' hg' => ?_
  refine ⟨?_, hc'⟩; simp only [resV, bitU]; first | (rw [if_pos om]; done) | (rw [if_neg om]; done) | (rw [if_pos om]; rfl)
 refine wpM.skip <| tR <| LM.mv rfl ?_
 refine LM.val (ov_ushl (a := 1#64) rfl rfl om) ?_
 refine LM.as rfl <| nA [(2, _)] <| wpM.ret ?_
 refine qL Tryd.results51 rfl fun w' hm' hc' hg' => ?_
 refine ⟨?_, hc'⟩; simp only [resV, bitU]; first | (rw [if_pos om]; done) | (rw [if_neg om]; done) | (rw [if_pos om]; rfl)
theorem ihas_spec (s : BitVec 64) (i : Int) (w : World) : Ret Tryd.prog 27 #[U s, .int .i64 i] w (fun v w' => v = .bool (sHas s i) ∧ Ext w w') := by
 refine Ret.enterM Tryd.func27 rfl Tryd.ntmps27 rfl ([]) (no) (Mem.nil w) ?_
 refine wR <| LM.as rfl <| nB [(0, _), (1, _)] <| LM.mv rfl <| LM.mv rfl ?_
 refine cE Tryd.func51 rfl (fun w hm hc hg => bit_spec _ w) ?_
 refine LM.val (ov_uand rfl rfl) ?_
 refine LM.val (ov_uneq (b := 0#64) rfl rfl) ?_
 refine LM.as rfl <| nA [(4, _)] <| wpM.ret ?_
 refine qL Tryd.results27 rfl fun w' hm' hc' hg' => ?_
 exact ⟨by simp only [resV]; rw [has_bit], hc'⟩
theorem with_spec (s : BitVec 64) (i : Int) (w : World) : Ret Tryd.prog 30 #[U s, .int .i64 i] w (fun v w' => v = U (withS s i) ∧ Ext w w') := by
 refine Ret.enterM Tryd.func30 rfl Tryd.ntmps30 rfl ([]) (no) (Mem.nil w) ?_
 refine wR <| LM.as rfl <| nB [(0, _), (1, _)] <| LM.mv rfl <| LM.mv rfl ?_
 refine cE Tryd.func51 rfl (fun w hm hc hg => bit_spec _ w) ?_
 refine LM.val (ov_uor rfl rfl) ?_
 refine LM.as rfl <| nA [(4, _)] <| wpM.ret ?_
 refine qL Tryd.results30 rfl fun w' hm' hc' hg' => ?_
 exact ⟨rfl, hc'⟩
theorem without_spec (s : BitVec 64) (i : Int) (w : World) : Ret Tryd.prog 26 #[U s, .int .i64 i] w (fun v w' => v = U (witho s i) ∧ Ext w w') := by
 refine Ret.enterM Tryd.func26 rfl Tryd.ntmps26 rfl ([]) (no) (Mem.nil w) ?_
 refine wR <| LM.as rfl <| nB [(0, _), (1, _)] <| LM.mv rfl <| LM.mv rfl ?_
 refine cE Tryd.func51 rfl (fun w hm hc hg => bit_spec _ w) ?_
 refine LM.val (ov_uandNot rfl rfl) ?_
 refine LM.as rfl <| nA [(4, _)] <| wpM.ret ?_
 refine qL Tryd.results26 rfl fun w' hm' hc' hg' => ?_
 exact ⟨rfl, hc'⟩
theorem trail_spec (x : BitVec 64) (w : World) (hT : Tab w) : Ret Tryd.prog 56 #[U x] w (fun v w' => v = .int .i64 (lsb x : Nat) ∧ Ext w w') := by
 refine Ret.enterM Tryd.func56 rfl Tryd.ntmps56 rfl ([]) (no) (Mem.nil w) ?_
 refine wR <| LM.as rfl <| nA [(0, _)] <| wpM.seq <| wR <| LM.mv rfl ?_
 refine LM.val (ov_ueql (b := 0#64) rfl rfl) ?_
 refine nA [(0, _), (4, _)] ?_
 refine wpM.condD rfl (fun h1 => ?_) (fun h1 => ?_)
 ·
  refine wR <| LM.as rfl <| nA [(2, _)] <| wpM.ret <| QM.then_ret ?_
  refine qL Tryd.results56 rfl fun w' hm' hc' hg' => ?_
  exact ⟨by simp only [resV]; rw [h1, lsb_zero]; rfl, hc'⟩
 refine wpM.skip <| tR <| LM.mv rfl <| LM.mv rfl ?_
 refine LM.val (ov_uneg rfl) ?_
 refine LM.val (ov_uand rfl rfl) ?_
 refine LM.val (ov_umul (b := 285870213051353865#64) rfl rfl) ?_
 refine LM.val (ov_ushr rfl rfl om) ?_
 have hb : (((x &&& -x) * 285870213051353865#64) >>> (58 : Int).toNat).toNat < 64 := (by rw [and_neg h1]; exact (deb_at _ (lsb_spec h1).1).2); have hd : debT.getD (((x &&& -x) * 285870213051353865#64) >>> (58 : Int).toNat).toNat 0 = (lsb x : Nat) := (by rw [and_neg h1]; exact (deb_at _ (lsb_spec h1).1).1); have hlb := (lsb_spec h1).1
 refine LM.val (ov_idxAN Tryd.underlying131 Tryd.sizeOf5 rfl rfl om) ?_
 refine LM.rdC (v := .int .u8 (lsb x : Nat)) (fun w _ hc _ => hd ▸ om_tab (hT.ext hc) Tryd.isAgg5 rfl om hb) ?_
 refine LM.val (ov_to64 Tryd.underlying5 Tryd.underlying3 rfl om) ?_
 refine LM.as rfl <| nA [(2, _)] <| wpM.ret ?_
 refine qL Tryd.results56 rfl fun w' hm' hc' hg' => ?_
 exact ⟨rfl, hc'⟩
theorem first_spec (s : BitVec 64) (w : World) (hT : Tab w) : Ret Tryd.prog 50 #[U s] w (fun v w' => v = .int .i64 (firstI s) ∧ Ext w w') := by
 refine Ret.enterM Tryd.func50 rfl Tryd.ntmps50 rfl ([]) (no) (Mem.nil w) ?_
 refine wR <| LM.as rfl <| nA [(0, _)] <| wpM.seq <| wR <| LM.mv rfl ?_
 refine LM.val (ov_ueql (b := 0#64) rfl rfl) ?_
 refine nA [(0, _), (4, _)] ?_
 refine wpM.condD rfl (fun h1 => ?_) (fun h1 => ?_)
 ·
  refine wR <| LM.as rfl <| nA [(2, _)] <| wpM.ret <| QM.then_ret ?_
  refine qL Tryd.results50 rfl fun w' hm' hc' hg' => ?_
  refine ⟨?_, hc'⟩; simp only [resV, firstI]; first | (rw [if_pos h1]; done) | (rw [if_neg h1])
 refine wpM.skip <| tR <| LM.mv rfl ?_
 refine cE Tryd.func56 rfl (fun w hm hc hg => trail_spec _ w (hT.ext hc)) ?_
 refine LM.as rfl <| nA [(2, _)] <| wpM.ret ?_
 refine qL Tryd.results50 rfl fun w' hm' hc' hg' => ?_
 refine ⟨?_, hc'⟩; simp only [resV, firstI]; first | (rw [if_pos h1]; done) | (rw [if_neg h1])
theorem rhas_spec (s : BitVec 64) (i : Int) (w : World) : Ret Tryd.prog 37 #[U s, .int .i64 i] w (fun v w' => v = .bool (sHas s i) ∧ Ext w w') := by
 refine Ret.enterM Tryd.func37 rfl Tryd.ntmps37 rfl ([]) (no) (Mem.nil w) ?_
 refine wR <| LM.as rfl <| nB [(0, _), (1, _)] <| LM.mv rfl <| LM.val (ov_geq rfl rfl) <| LM.mv rfl ?_
 refine LM.splitD (t := 7) rfl (fun h1 => ?_) (fun h1 => ?_)
 ·
  refine LM.sp 7 rfl rfl rfl <| LM.mv rfl <| LM.sp 7 rfl rfl rfl <| LM.val (ov_lss rfl rfl) <| LM.val (ov_pickT rfl rfl) <| LM.mv rfl ?_
  refine LM.splitD (t := 11) rfl (fun h2 => ?_) (fun h2 => ?_)
  ·
   refine LM.sp 11 rfl rfl rfl <| LM.mv rfl <| LM.sp 11 rfl rfl rfl <| LM.mv rfl <| LM.sp 11 rfl rfl rfl ?_
   refine LM.val (ov_ushr rfl rfl om) ?_
   refine LM.sp 11 rfl rfl rfl ?_
   refine LM.val (ov_urem (b := 2#64) rfl rfl (by first | decide | assumption)) ?_
   refine LM.sp 11 rfl rfl rfl ?_
   refine LM.val (ov_ueql (b := 1#64) rfl rfl) ?_
   refine LM.val (ov_pickT rfl rfl) <| LM.as rfl <| nA [(4, _)] <| wpM.ret ?_
   refine qL Tryd.results37 rfl fun w' hm' hc' hg' => ?_
   refine ⟨?_, hc'⟩; simp only [resV, sHas, h1, h2, decide_true, decide_false, Bool.true_and, Bool.false_and, Bool.and_true, Bool.and_false, Bool.not_true, Bool.not_false, Bool.true_or, Bool.false_or, Bool.or_true, Bool.or_false, ne_eq, not_true_eq_false, not_false_eq_true, Bool.and_self]; rw [shr_mod]
  refine LM.dr 11 rfl rfl rfl <| LM.dr 11 rfl rfl rfl <| LM.dr 11 rfl rfl rfl <| LM.dr 11 rfl rfl rfl <| LM.dr 11 rfl rfl rfl <| LM.val (ov_pickF rfl rfl) <| LM.as rfl <| nA [(4, _)] <| wpM.ret ?_
  refine qL Tryd.results37 rfl fun w' hm' hc' hg' => ?_
  refine ⟨?_, hc'⟩; simp only [resV, sHas, h1, h2, decide_true, decide_false, Bool.true_and, Bool.false_and, Bool.and_true, Bool.and_false, Bool.not_true, Bool.not_false, Bool.true_or, Bool.false_or, Bool.or_true, Bool.or_false, ne_eq, not_true_eq_false, not_false_eq_true, Bool.and_self]
 refine LM.dr 7 rfl rfl rfl <| LM.dr 7 rfl rfl rfl <| LM.val (ov_pickF rfl rfl) <| LM.mv rfl <| LM.dr 11 rfl rfl rfl <| LM.dr 11 rfl rfl rfl <| LM.dr 11 rfl rfl rfl <| LM.dr 11 rfl rfl rfl <| LM.dr 11 rfl rfl rfl <| LM.val (ov_pickF rfl rfl) <| LM.as rfl <| nA [(4, _)] <| wpM.ret ?_
 refine qL Tryd.results37 rfl fun w' hm' hc' hg' => ?_
 refine ⟨?_, hc'⟩; simp only [resV, sHas, h1, decide_true, decide_false, Bool.true_and, Bool.false_and, Bool.and_true, Bool.and_false, Bool.not_true, Bool.not_false, Bool.true_or, Bool.false_or, Bool.or_true, Bool.or_false, ne_eq, not_true_eq_false, not_false_eq_true, Bool.and_self]
theorem rwith_spec (s : BitVec 64) (i : Int) (w : World) : Ret Tryd.prog 33 #[U s, .int .i64 i] w (fun v w' => v = U (withS s i) ∧ Ext w w') := by
 refine Ret.enterM Tryd.func33 rfl Tryd.ntmps33 rfl ([]) (no) (Mem.nil w) ?_
 refine wR <| LM.as rfl <| nA [(0, _), (1, _)] <| wpM.seq <| wR <| LM.mv rfl <| LM.val (ov_lss rfl rfl) <| LM.mv rfl ?_
 refine LM.splitD (t := 7) rfl (fun h1 => ?_) (fun h1 => ?_)
 ·
  refine LM.dr 7 rfl rfl rfl <| LM.dr 7 rfl rfl rfl <| LM.val (ov_pickT rfl rfl) <| LM.mv rfl <| LM.dr 11 rfl rfl rfl <| LM.dr 11 rfl rfl rfl <| LM.dr 11 rfl rfl rfl <| LM.val (ov_pickT rfl rfl) <| nA [(0, _), (1, _), (15, _)] ?_
  refine wpM.condT rfl ?_
  refine wR <| LM.mv rfl <| LM.as rfl <| nA [(4, _)] <| wpM.ret <| QM.then_ret ?_
  refine qL Tryd.results33 rfl fun w' hm' hc' hg' => ?_
  refine ⟨?_, hc'⟩; simp only [resV]; first | exact congrArg U (with_out om).symm | exact congrArg U (with_has asm).symm | exact congrArg U (add_bit om asm)
 refine LM.sp 7 rfl rfl rfl <| LM.mv rfl <| LM.sp 7 rfl rfl rfl <| LM.val (ov_gtr rfl rfl) <| LM.val (ov_pickF rfl rfl) <| LM.mv rfl ?_
 refine LM.splitD (t := 11) rfl (fun h2 => ?_) (fun h2 => ?_)
 ·
  refine LM.dr 11 rfl rfl rfl <| LM.dr 11 rfl rfl rfl <| LM.dr 11 rfl rfl rfl <| LM.val (ov_pickT rfl rfl) <| nA [(0, _), (1, _), (15, _)] ?_
  refine wpM.condT rfl ?_
  refine wR <| LM.mv rfl <| LM.as rfl <| nA [(4, _)] <| wpM.ret <| QM.then_ret ?_
  refine qL Tryd.results33 rfl fun w' hm' hc' hg' => ?_
  refine ⟨?_, hc'⟩; simp only [resV]; first | exact congrArg U (with_out om).symm | exact congrArg U (with_has asm).symm | exact congrArg U (add_bit om asm)
 refine LM.sp 11 rfl rfl rfl <| LM.mv rfl <| LM.sp 11 rfl rfl rfl <| LM.mv rfl <| LM.sp 11 rfl rfl rfl ?_
 refine cE Tryd.func37 rfl (fun w hm hc hg => rhas_spec _ _ w) ?_
 refine LM.val (ov_pickF rfl rfl) <| nA [(0, _), (1, _), (15, _)] ?_
 refine wpM.condB rfl (fun h3 => ?_) (fun h3 => ?_)
 ·
  refine wR <| LM.mv rfl <| LM.as rfl <| nA [(4, _)] <| wpM.ret <| QM.then_ret ?_
  refine qL Tryd.results33 rfl fun w' hm' hc' hg' => ?_
  refine ⟨?_, hc'⟩; simp only [resV]; first | exact congrArg U (with_out om).symm | exact congrArg U (with_has asm).symm | exact congrArg U (add_bit om asm)
 refine wpM.skip <| tR <| LM.mv rfl <| LM.mv rfl ?_
 refine LM.val (ov_ushl (a := 1#64) rfl rfl om) ?_
 refine LM.val (ov_uadd rfl rfl) ?_
 refine LM.as rfl <| nA [(4, _)] <| wpM.ret ?_
 refine qL Tryd.results33 rfl fun w' hm' hc' hg' => ?_
 refine ⟨?_, hc'⟩; simp only [resV]; first | exact congrArg U (with_out om).symm | exact congrArg U (with_has asm).symm | exact congrArg U (add_bit om asm)
def AllT (s : BitVec 64) (n0 : Nat) (v : Value) (m : Mem0) : Prop := ∃ b1, v = .func (.func 55) #[] #[.pointer (some ⟨b1, 0, none⟩)] ∧ m = [uBx b1 s] ∧ n0 ≤ b1
theorem AllT.mono {s : BitVec 64} : ∀ (k k' : Nat) u m, k' ≤ k → AllT s k u m → AllT s k' u m := fun k k' u m h ⟨b1, h1, h2, h3⟩ => ⟨b1, h1, h2, by omega⟩
def allA (s : BitVec 64) : List (Array Value) := (allL s).map (fun i => #[.int .i64 (i : Nat)])
theorem allA_len (s : BitVec 64) : (allA s).length = (allL s).length := by simp [allA]
theorem allA_get {s x : BitVec 64} {k : Nat} (h : allL x = (allL s).drop k) (hx : x ≠ 0#64) : (allA s)[k]? = some #[.int .i64 (lsb x : Nat)] := by
  rw [allL_cons hx] at h
  have : (allL s)[k]? = some (lsb x) := by
    have h2 := congrArg (fun l => l[0]?) h
    simp only [List.getElem?_cons_zero, List.getElem?_drop, Nat.add_zero] at h2
    exact h2.symm
  unfold allA; rw [List.getElem?_map, this]; rfl
theorem allA_inv {s : BitVec 64} {k : Nat} {a : Array Value} (h : (allA s)[k]? = some a) : ∃ i, (allL s)[k]? = some i ∧ a = #[.int .i64 (i : Nat)] := by
  unfold allA at h; rw [List.getElem?_map, Option.map_eq_some_iff] at h
  obtain ⟨i, h1, rfl⟩ := h; exact ⟨i, h1, rfl⟩
def listI (s : BitVec 64) : List Int := (allL s).map (fun (i : Nat) => (i : Int))
theorem listI_len (s : BitVec 64) : (listI s).length = (allL s).length := by simp [listI]
theorem allL_len (s : BitVec 64) : (allL s).length ≤ 64 := by unfold allL; refine Nat.le_trans (List.length_filter_le _ _) ?_; simp
def listN (s : BitVec 64) (n : Nat) : List Int := ((List.range n).filter (fun i => s.getLsbD i)).map (fun (i : Nat) => (i : Int))
theorem listN_succ (s : BitVec 64) (n : Nat) : listN s (n + 1) = if s.getLsbD n = true then listN s n ++ [(n : Int)] else listN s n := by
  unfold listN; rw [List.range_succ, List.filter_append, List.map_append]; simp only [List.filter_cons, List.filter_nil]; split <;> simp
theorem listN_len (s : BitVec 64) (n : Nat) : (listN s n).length ≤ n := by unfold listN; rw [List.length_map]; refine Nat.le_trans (List.length_filter_le _ _) ?_; simp
theorem all_spec (s : BitVec 64) (w : World) : Ret Tryd.prog 34 #[U s] w (fun v w' => Ext w w' ∧ ∃ m, AllT s w.heap.size v m ∧ Mem w' m ∧ ∀ p ∈ m, w.heap.size ≤ p.1) := by
 refine Ret.enterM Tryd.func34 rfl Tryd.ntmps34 rfl ([]) (no) (Mem.nil w) ?_
 refine wR ?_
 refine LM.box rfl rfl (fun b1 hb1 => ?_)
 refine LM.as rfl <| nB [(1, _)] ?_
 refine LM.val (ov_makeFunc rfl) ?_
 refine LM.as rfl <| nA [(2, _)] <| wpM.ret ?_
 refine qL Tryd.results34 rfl fun w' hm' hc' hg' => ?_
 exact ⟨hc', _, ⟨b1, rfl, rfl, hb1⟩, SubM.mem au1 _ hm', fun p hp => by simp only [List.mem_cons, List.not_mem_nil, or_false] at hp; subst hp; assumption⟩
theorem all_seq {s : BitVec 64} {b1 : Nat} : SeqC Tryd.prog 55 #[.pointer (some ⟨b1, 0, none⟩)] (allA s) (fun w => Mem w [uBx b1 s] ∧ Tab w) (True) := by
 refine SeqC.enter (lb := [.pointer (some ⟨b1, 0, none⟩)]) Tryd.func55 rfl Tryd.ntmps55 rfl ?_
 intro l n0 J Jx w0 hfin hJr gJ gJx hy
 refine wR ?_
 refine LM.rdC (fun w _ _ hg => om_load 0 Tryd.isAgg34 rfl rfl rfl w (hJr _ w hg).1) ?_
 refine LM.as rfl <| nA [(0, _), (3, _)] <| wpM.block ?_
 refine wpM.loopK (α := Nat × BitVec 64) (fun ⟨k, x⟩ => [(3, U x)]) [(0, _)] (fun ⟨k, x⟩ => []) (fun ⟨k, x⟩ => J k) (fun ⟨k, x⟩ => allL x = (allL s).drop k ∧ k ≤ (allL s).length) (fun ⟨k, x⟩ => (allL s).length - k) ((0, s)) ⟨au2, rfl, trivial⟩ au1 (fun _ h => h) ⟨rfl, Nat.zero_le _⟩ ?_
 rintro ⟨k, x⟩ ⟨hx, hk⟩
 change wpM _ _ _ _ _ _ _ ([]) _ _ _
 refine wpM.seq <| wR <| LM.mv rfl ?_
 refine LM.val (ov_uneq (b := 0#64) rfl rfl) ?_
 refine nA [(0, _), (3, _), (6, _)] ?_
 refine wpM.condD rfl (fun h1 => ?_) (fun h1 => ?_)
 ·
  refine wpM.skip <| QM.then <| wpM.seq <| wpM.block <| wR <| LM.mv rfl <| LM.mv rfl ?_
  refine cE Tryd.func56 rfl (fun w hm hc hg => trail_spec _ w (hJr _ w hg).2) ?_
  refine LM.mem (M' := []) (fun w _ => Mem.nil w) ?_
  refine LM.yield (n := n0) (G1 := J (k + 1)) (G2 := Jx) rfl rfl (fun w hj => hy (k) _ w (allA_get hx h1) hj) (fun _ => trivial) ?_ ?_
  ·
   refine LM.val (ov_not rfl) ?_
   refine nA [(0, _), (3, _), (15, _)] ?_
   refine wpM.condF rfl ?_
   refine wpM.skip <| QM.block_normal ?_
   refine QM.then (wpM.region ?_)
   refine LM.mv rfl <| LM.mv rfl ?_
   refine LM.val (ov_usub (b := 1#64) rfl rfl) ?_
   refine LM.val (ov_uand rfl rfl) ?_
   refine LM.as rfl <| nC [(0, _), (3, _)] ?_
   have hlt : k < (allL s).length := (by have h2 := congrArg List.length hx; rw [allL_cons h1, List.length_cons, List.length_drop] at h2; omega)
   refine QM.againK (k + 1, x &&& (x - 1#64)) ⟨au2, rfl, trivial⟩ au1 (fun _ h => h) ?_ ?_
   · refine ⟨?_, by omega⟩; rw [allL_cons h1] at hx; have h2 := congrArg List.tail hx; rw [List.tail_cons, List.tail_drop] at h2; exact h2
   · (dsimp only; omega)
  refine LM.val (ov_not rfl) ?_
  refine nA [(0, _), (3, _), (15, _)] ?_
  refine wpM.condT rfl ?_
  refine wpM.ret <| QM.block_ret <| QM.then_ret <| QM.then_ret <| QM.block_ret ?_
  refine QM.leave (.inl rfl) [] Tryd.results55 rfl ?_
  intro w' hm' hc' hg'
  exact .inr hg'
 refine wpM.exit <| QM.then_exit <| QM.then_exit <| QM.block_hit ?_
 refine QM.leave (.inr rfl) [] Tryd.results55 rfl ?_
 intro w' hm' hc' hg'
 have h0 : x = 0#64 := (by simpa using h1); subst h0; rw [allL_zero] at hx; have h2 := congrArg List.length hx; rw [List.length_nil, List.length_drop] at h2; exact .inl (by rw [allA_len, show (allL s).length = k by omega]; exact hg')
theorem rlist_spec (s : BitVec 64) (w : World) : Ret Tryd.prog 35 #[U s] w (New fI 3 1 (listI s) w) := by
 refine Ret.enterM Tryd.func35 rfl Tryd.ntmps35 rfl ([]) (no) (Mem.nil w) ?_
 refine wR <| LM.as rfl <| nB [(0, _)] <| LM.as rfl <| nA [(0, _), (3, _)] <| wpM.seq <| wR <| LM.as rfl <| nA [(0, _), (3, _), (4, _)] <| wpM.block ?_
 refine wpM.loopK0 (α := Nat × Option Addr × Nat × Nat × Mem0) (fun ⟨i, ad, n, cap, m⟩ => [(3, .slice ad n cap), (4, .int .i64 (i : Nat))]) [(0, _)] (fun ⟨i, ad, n, cap, m⟩ => m ++ []) (fun ⟨i, ad, n, cap, m⟩ => i ≤ 64 ∧ n = (listN s i).length ∧ Sl fI 3 1 w.heap.size (listN s i) (.slice ad n cap) m) (fun ⟨i, ad, n, cap, m⟩ => 64 - i) ((0, none, 0, 0, [])) ⟨au2, au2, rfl, trivial⟩ au1 ⟨Nat.zero_le _, rfl, .nil _ _ _ _⟩ ?_
 rintro ⟨i, ad, n, cap, m⟩ ⟨hi, hn, hs⟩
 change wpM _ _ _ _ _ _ _ (m ++ []) _ _ _
 have hll := listN_len s i
 refine wpM.seq <| wR <| LM.mv rfl <| LM.val (ov_lss rfl rfl) <| nA [(0, _), (3, _), (4, _), (6, _)] ?_
 refine wpM.condD rfl (fun h1 => ?_) (fun h1 => ?_)
 ·
  refine wpM.skip <| QM.then <| wpM.seq <| wpM.block <| wR <| LM.mv rfl <| LM.mv rfl ?_
  refine cE Tryd.func37 rfl (fun w hm hc hg => rhas_spec _ _ w) ?_
  refine nA [(0, _), (3, _), (4, _), (11, _)] ?_
  refine wpM.condB rfl (fun h2 => ?_) (fun h2 => ?_)
  ·
   refine wpM.region ?_
   refine LM.mv rfl <| LM.mv rfl ?_
   refine LM.single Tryd.underlying22 Tryd.sizeOf3 Tryd.zeroValue3 rfl rfl rfl rfl rfl (fun b14 hb14 => ?_)
   refine LM.app Tryd.underlying22 Tryd.typeInfo3 rfl rfl rfl rfl rfl rfl rfl asm (by rfl) ir (by intro _ u hu; simp [fI] at hu; (repeat (first | (rcases hu with rfl | hu) | subst hu | rfl))) (by first | exact Nat.le_refl _ | omega) au10 (by first | omega | (unfold maxLen; omega)) (by simp only [Tryd.t3]; omega) (fun ad15 n15 cap15 m15 hn15 hs15 hin15 => ?_)
   refine LM.as rfl <| nC [(0, _), (3, _), (4, _)] <| QM.block_normal ?_
   refine QM.then (wpM.region ?_)
   refine LM.mv rfl ?_
   refine LM.val (ov_add64 rfl rfl om) ?_
   refine LM.as rfl <| nC [(0, _), (3, _), (4, _)] ?_
   refine QM.againK (i + 1, ad15, n15, cap15, m15) ⟨au2, au2, rfl, trivial⟩ au1 (fun _ h => h) ?_ ?_
   · rw [sHas_nat] at h2; have hl := listN_succ s i; rw [if_pos h2] at hl; exact ⟨by omega, by rw [hl, List.length_append]; simp; omega, by rw [hl]; exact hs15⟩
   · (dsimp only; omega)
  refine wpM.skip <| QM.block_normal ?_
  refine QM.then (wpM.region ?_)
  refine LM.mv rfl ?_
  refine LM.val (ov_add64 rfl rfl om) ?_
  refine LM.as rfl <| nC [(0, _), (3, _), (4, _)] ?_
  refine QM.againK (i + 1, ad, n, cap, m) ⟨au2, au2, rfl, trivial⟩ au1 (fun _ h => h) ?_ ?_
  · rw [sHas_nat] at h2; have hl := listN_succ s i; rw [if_neg (by rw [h2]; simp)] at hl; exact ⟨by omega, by rw [hl]; exact hn, by rw [hl]; exact hs⟩
  · (dsimp only; omega)
 refine wpM.exit <| QM.then_exit <| QM.then_exit <| QM.block_hit <| tR <| LM.mv rfl <| LM.as rfl <| nA [(2, _)] <| wpM.ret ?_
 refine qL Tryd.results35 rfl fun w' hm' hc' hg' => ?_
 have hi64 : i = 64 := om; subst hi64; exact ⟨hc', m, hs, hm'.pick m⟩
def secZ (lock : Int) : Int → List COp → Nat × Int
  | acc, [] => (0, acc)
  | acc, o :: l => if stopB lock o then (0, acc) else ((secZ lock (if o.k = 1 then IntKind.i64.wrap (acc + o.a) else acc) l).1 + 1, (secZ lock (if o.k = 1 then IntKind.i64.wrap (acc + o.a) else acc) l).2)
theorem secZ_fst (lock : Int) : ∀ (l : List COp) (acc : Int), (secZ lock acc l).1 = (secT lock l).1
  | [], acc => rfl
  | o :: l, acc => by
    rw [secZ, secT]
    by_cases h : stopB lock o = true
    · rw [if_pos h, if_pos h]
    · rw [if_neg h, if_neg h]; show (secZ lock _ l).1 + 1 = (secT lock l).1 + 1; rw [secZ_fst lock l]
theorem secZ_drop {lock acc : Int} {xs : List COp} {i : Nat} (h : i < xs.length) : secZ lock acc (xs.drop i) = if stopB lock (xs.getD i default) then (0, acc) else ((secZ lock (if (xs.getD i default).k = 1 then IntKind.i64.wrap (acc + (xs.getD i default).a) else acc) (xs.drop (i + 1))).1 + 1, (secZ lock (if (xs.getD i default).k = 1 then IntKind.i64.wrap (acc + (xs.getD i default).a) else acc) (xs.drop (i + 1))).2) := by
  have e := getq (default : COp) h
  rw [List.getElem?_eq_getElem h] at e
  rw [List.drop_eq_getElem_cons h, Option.some.inj e]
  rw [secZ]
def SecZ (lock : Int) (ys : List COp) (j : Nat) (acc : Int) : Prop :=
  j ≤ ys.length ∧ (secZ lock 0 ys).1 = j + (secZ lock acc (ys.drop j)).1 ∧ (secZ lock 0 ys).2 = (secZ lock acc (ys.drop j)).2
theorem SecZ.zero (lock : Int) (ys : List COp) : SecZ lock ys 0 0 := ⟨Nat.zero_le _, by simp, by simp⟩
theorem SecZ.step {lock : Int} {ys : List COp} {j : Nat} {acc acc' : Int} (h : SecZ lock ys j acc) (hj : j < ys.length) (hn : stopB lock (ys.getD j default) = false) (ha : acc' = if (ys.getD j default).k = 1 then IntKind.i64.wrap (acc + (ys.getD j default).a) else acc) : SecZ lock ys (j + 1) acc' := by
  obtain ⟨h1, h2, h3⟩ := h
  rw [secZ_drop hj, hn] at h2 h3
  rw [ha]
  exact ⟨by omega, by rw [h2]; simp only [Bool.false_eq_true, if_false]; omega, by rw [h3]; rfl⟩
theorem SecZ.stop {lock : Int} {ys : List COp} {j : Nat} {acc : Int} (h : SecZ lock ys j acc) (hj : j < ys.length) (hn : stopB lock (ys.getD j default) = true) : secZ lock 0 ys = (j, acc) := by
  obtain ⟨h1, h2, h3⟩ := h
  rw [secZ_drop hj, hn] at h2 h3
  exact Prod.ext (by simpa using h2) (by simpa using h3)
theorem SecZ.fin {lock : Int} {ys : List COp} {j : Nat} {acc : Int} (h : SecZ lock ys j acc) (hj : ys.length ≤ j) : secZ lock 0 ys = (ys.length, acc) := by
  obtain ⟨h1, h2, h3⟩ := h
  rw [List.drop_of_length_le hj] at h2 h3
  exact Prod.ext (by rw [h2]; show j + 0 = _; omega) (by rw [h3]; rfl)
def secC (xs : List COp) (i : Nat) : Nat × Int := secZ (xs.getD i default).a 0 (xs.drop (i + 1))
theorem secC_fst (xs : List COp) (i : Nat) : (secC xs i).1 = (secO xs i).1 := secZ_fst _ _ _
theorem secO_le (xs : List COp) (i : Nat) (h : i < xs.length) : i + 1 + (secO xs i).1 ≤ xs.length := by
  have key : ∀ (lock : Int) (l : List COp), (secT lock l).1 ≤ l.length := by
    intro lock l
    induction l with
    | nil => exact Nat.le_refl _
    | cons o l ih => rw [secT]; split; exact Nat.zero_le _; show (secT lock l).1 + 1 ≤ _; rw [List.length_cons]; omega
  have := key (xs.getD i default).a (xs.drop (i + 1))
  rw [List.length_drop] at this
  unfold secO; omega
def secF (x : Nat × List COp) : List Value := [.int .i64 (x.1 : Nat), .int .i64 ((x.1 + 1 + (secO x.2 x.1).1 : Nat)), .int .i64 (x.2.getD x.1 default).a, .int .i64 (secC x.2 x.1).2]
def secW (xs : List COp) (i : Nat) : Value := .agg (secF (i, xs)).toArray
def secB (xs : List COp) : List (Array Value) := (filP (tkT xs) xs.length).map (fun i => #[secW xs i])
theorem secB_get {xs : List COp} {i : Nat} (h : i < xs.length) (ht : tkT xs i = true) : (secB xs)[filN (tkT xs) i]? = some #[secW xs i] := by
  unfold secB; rw [List.getElem?_map, fil_get h ht]; rfl
theorem secB_inv {xs : List COp} {k : Nat} {a : Array Value} (h : (secB xs)[k]? = some a) : ∃ p, (filP (tkT xs) xs.length)[k]? = some p ∧ a = #[secW xs p] := by
  unfold secB at h; rw [List.getElem?_map, Option.map_eq_some_iff] at h
  obtain ⟨p, hp, rfl⟩ := h; exact ⟨p, hp, rfl⟩
theorem secB_len (xs : List COp) : (secB xs).length = filN (tkT xs) xs.length := by unfold secB; rw [List.length_map]; rfl
theorem sectionW_spec {xs : List COp} {fv : Bool} {ad : Option Addr} {n cap : Nat} (i : Nat) (w : World) (hn : n = xs.length) (hl : Sr fO 3 xs (.slice ad n cap) w) (hx20 : xs.length ≤ 20) (hi : i < xs.length) : Ret Tryd.prog 54 #[pV fv ad n cap, .int .i64 (i : Nat)] w (fun v w' => v = secW xs i ∧ Ext w w') := by
 have hld := hl.drop (l := i + 1) om; obtain ⟨ys, hys⟩ : ∃ ys, xs.drop (i + 1) = ys := ⟨_, rfl⟩; have hyl : ys.length = xs.length - (i + 1) := (by rw [← hys, List.length_drop]); have hsec : secC xs i = secZ (xs.getD i default).a 0 ys := (by unfold secC; rw [hys]); rw [hys] at hld; have hof : (secO xs i).1 = (secZ (xs.getD i default).a 0 ys).1 := (by rw [← secC_fst, hsec]); simp only [secW, secF, hsec, hof]
 refine Ret.enterM Tryd.func54 rfl Tryd.ntmps54 rfl ([]) (no) (Mem.nil w) ?_
 refine wR ?_
 refine LM.box rfl rfl (fun b2 hb2 => ?_)
 refine LM.alloc Tryd.zeroValue68 rfl (fun b4 hb4 => ?_)
 refine nA [(1, _), (2, _), (4, _)] <| wpM.seq ?_
 refine wpM.draw [(0, 0), (1, 0), (2, 1), (3, 0), (4, 0), (5, 1), (6, 0), (7, 0), (8, 0), (9, 1), (10, 0), (11, 2), (12, 3)] kr kr ?_
 refine LD.val rfl rfl (ov_move rfl) <| LD.val rfl rfl (ovf 35 rfl rfl rfl rfl) ?_
 refine LD.rd rfl rfl (oml rfl rfl rfl) ?_
 refine LD.val rfl rfl (ov_len Tryd.underlying35 rfl) ?_
 refine LD.val rfl rfl (ovf 35 rfl rfl rfl rfl) ?_
 refine LD.rd rfl rfl (oml rfl rfl rfl) ?_
 refine LD.val rfl rfl (ov_move rfl) ?_
 refine LD.val rfl rfl (ov_idxSN au6 Tryd.underlying35 Tryd.sizeOf70 rfl rfl om) ?_
 refine LD.val rfl rfl (ovf 3 rfl rfl rfl rfl) ?_
 refine LD.rdC rfl rfl (om_srE (j := 1) asm Tryd.isAgg3 rfl rfl au3 (by rfl) (by rfl) id) ?_
 refine LD.val rfl rfl (ov_build (cs := #[_, _, _, _]) rfl (by first | rfl | kernel_rfl)) ?_
 refine LD.alloc rfl rfl Tryd.zeroValue68 rfl (fun b5 hb5 => ?_)
 refine LD.tail rfl rfl ?_
 refine LM.stW Tryd.sizeOf68 rfl rfl rfl rfl au7 au8 ?_
 refine LM.nil ?_
 refine QM.qn ?_
 refine QM.sub (e' := [(1, _), (2, _), (4, _), (5, _)]) au9 (QM.then ?_)
 refine wpM.seq <| wR <| LM.val (ovf 35 rfl rfl rfl rfl) ?_
 refine LM.rd (oml rfl rfl rfl) ?_
 refine LM.mv rfl ?_
 refine LM.val (ov_add64 rfl rfl om) ?_
 refine LM.val (ov_subLo (i + 1) Tryd.underlying35 Tryd.sizeOf70 rfl rfl om om) ?_
 refine LM.val (ov_len Tryd.underlying35 rfl) <| LM.mv rfl <| nA [(1, _), (4, _), (5, _), (23, _), (24, _), (25, _)] <| wpM.block ?_
 refine wpM.loopK0 (α := Nat × Int) (fun ⟨j, acc⟩ => [(25, .int .i64 (j : Nat))]) [(1, _), (4, _), (5, _), (23, _), (24, _)] (fun ⟨j, acc⟩ => sBc b5 (i : Nat) n (xs.getD i default).a acc :: sBc b4 0 0 0 0 :: pB b2 fv ad n cap :: []) (fun ⟨j, acc⟩ => SecZ (xs.getD i default).a ys j acc) (fun ⟨j, acc⟩ => ys.length - j) ((0, 0)) ⟨au2, rfl, rfl, rfl, rfl, rfl, trivial⟩ au1 (SecZ.zero _ ys) ?_
 rintro ⟨j, acc⟩ hI
 change wpM _ _ _ _ _ _ _ (sBc b5 (i : Nat) n (xs.getD i default).a acc :: sBc b4 0 0 0 0 :: pB b2 fv ad n cap :: []) _ _ _
 have hj := hI.1
 refine wR <| LM.val (ov_lss rfl rfl) <| nA [(1, _), (4, _), (5, _), (23, _), (24, _), (25, _), (26, _)] <| wpM.seq ?_
 refine wpM.condD rfl (fun h1 => ?_) (fun h1 => ?_)
 ·
  refine wpM.skip <| QM.then <| wpM.seq <| wpM.block <| wR <| LM.mv rfl ?_
  refine LM.val (ov_idxSN au6 Tryd.underlying35 Tryd.sizeOf70 rfl rfl om) ?_
  refine LM.rdC (om_srEA asm ir Tryd.isAgg70 Tryd.sizeOf70 rfl au3 id) ?_
  refine LM.alloc Tryd.zeroValue70 rfl (fun b7 hb7 => ?_)
  refine LM.as rfl ?_
  refine LM.stW Tryd.sizeOf70 rfl rfl rfl rfl au7 au8 ?_
  refine nA [(1, _), (4, _), (5, _), (6, _), (7, _), (23, _), (24, _), (25, _)] <| wpM.block <| wpM.seq <| wR <| LM.val (ovf 3 rfl rfl rfl rfl) ?_
  refine LM.rd (oml rfl rfl rfl) ?_
  refine LM.val (ov_eql rfl rfl) <| LM.as rfl <| nA [(1, _), (4, _), (5, _), (6, _), (7, _), (23, _), (24, _), (25, _), (30, _)] ?_
  refine wpM.condXD (t := 30) rfl (fun h2 => ?_) (fun h2 => ?_)
  ·
   refine wpM.skip <| QM.then ?_
   refine wpM.condT rfl ?_
   refine wR <| LM.mv rfl ?_
   refine LM.val (ov_add64 rfl rfl om) ?_
   refine LM.mv rfl ?_
   refine LM.val (ov_add64 rfl rfl om) ?_
   refine LM.val (ovf 3 rfl rfl rfl rfl) ?_
   refine LM.st Tryd.sizeOf3 rfl rfl rfl au5 rfl au8 ?_
   refine nB [(4, _), (5, _)] ?_
   refine LM.rd (om_ldW Tryd.isAgg68 Tryd.sizeOf68 rfl rfl) ?_
   refine LM.stW Tryd.sizeOf68 rfl rfl rfl rfl au7 au8 ?_
   refine nA [(4, _)] <| wpM.ret <| QM.block_ret <| QM.block_ret <| QM.then_ret <| QM.then_ret <| QM.block_ret <| QM.then_ret ?_
   refine QM.leaveCs (ds := ([])) (.inl rfl) [.cell 4 68] Tryd.results54 hd_nil (rc_w rfl Tryd.isAgg68 Tryd.sizeOf68 rfl rc_nil) ?_
   intro w' hm' hc'
   have hq := hI.stop om (stop_11 h2); refine ⟨?_, hc'⟩; rw [hq]; show sV _ _ _ _ = sV _ _ _ _; congr 5
  refine wpM.region ?_
  refine LM.val (ovf 3 rfl rfl rfl rfl) ?_
  refine LM.rd (oml rfl rfl rfl) ?_
  refine LM.val (ov_eql rfl rfl) <| LM.mv rfl ?_
  refine LM.splitD (t := 37) rfl (fun h3 => ?_) (fun h3 => ?_)
  ·
   refine LM.sp 37 rfl rfl rfl <| LM.val (ovf 3 rfl rfl rfl rfl) <| LM.sp 37 rfl rfl rfl ?_
   refine LM.rd (oml rfl rfl rfl) ?_
   refine LM.sp 37 rfl rfl rfl <| LM.val (ovf 3 rfl rfl rfl rfl) <| LM.sp 37 rfl rfl rfl ?_
   refine LM.rd (oml rfl rfl rfl) ?_
   refine LM.sp 37 rfl rfl rfl <| LM.val (ov_eql rfl rfl) <| LM.val (ov_pickT rfl rfl) <| LM.as rfl <| nA [(1, _), (4, _), (5, _), (6, _), (7, _), (23, _), (24, _), (25, _), (30, _)] ?_
   refine wpM.condD rfl (fun h4 => ?_) (fun h4 => ?_)
   ·
    refine wR <| LM.mv rfl ?_
    refine LM.val (ov_add64 rfl rfl om) ?_
    refine LM.mv rfl ?_
    refine LM.val (ov_add64 rfl rfl om) ?_
    refine LM.val (ovf 3 rfl rfl rfl rfl) ?_
    refine LM.st Tryd.sizeOf3 rfl rfl rfl au5 rfl au8 ?_
    refine nB [(4, _), (5, _)] ?_
    refine LM.rd (om_ldW Tryd.isAgg68 Tryd.sizeOf68 rfl rfl) ?_
    refine LM.stW Tryd.sizeOf68 rfl rfl rfl rfl au7 au8 ?_
    refine nA [(4, _)] <| wpM.ret <| QM.block_ret <| QM.block_ret <| QM.then_ret <| QM.then_ret <| QM.block_ret <| QM.then_ret ?_
    refine QM.leaveCs (ds := ([])) (.inl rfl) [.cell 4 68] Tryd.results54 hd_nil (rc_w rfl Tryd.isAgg68 Tryd.sizeOf68 rfl rc_nil) ?_
    intro w' hm' hc'
    have hq := hI.stop om (stop_6 h3 h4); refine ⟨?_, hc'⟩; rw [hq]; show sV _ _ _ _ = sV _ _ _ _; congr 5
   refine wR <| LM.val (ovf 3 rfl rfl rfl rfl) ?_
   refine LM.rd (oml rfl rfl rfl) ?_
   refine LM.val (ov_eql rfl rfl) <| LM.as rfl <| nA [(1, _), (4, _), (5, _), (7, _), (23, _), (24, _), (25, _), (50, _)] ?_
   refine wpM.condD rfl (fun h5 => ?_) (fun h5 => ?_)
   ·
    refine wpM.region ?_
    refine LM.val (ovf 3 rfl rfl rfl rfl) ?_
    refine LM.rd (oml rfl rfl rfl) ?_
    refine LM.val (ovf 3 rfl rfl rfl rfl) ?_
    refine LM.rd (oml rfl rfl rfl) ?_
    refine LM.val (ov_add rfl rfl) ?_
    refine LM.val (ovf 3 rfl rfl rfl rfl) ?_
    refine LM.st Tryd.sizeOf3 rfl rfl rfl au5 rfl au8 ?_
    refine nC [(1, _), (4, _), (5, _), (23, _), (24, _), (25, _)] <| QM.block_normal <| QM.block_normal ?_
    refine QM.then (wpM.region ?_)
    refine LM.val (ov_add64 rfl rfl om) ?_
    refine LM.mv rfl <| nC [(1, _), (4, _), (5, _), (23, _), (24, _), (25, _)] ?_
    refine QM.againK ((j + 1, IntKind.i64.wrap (acc + (ys.getD j default).a))) ⟨au2, rfl, rfl, rfl, rfl, rfl, trivial⟩ au1 (fun _ h => h) ?_ ?_
    · exact hI.step om (stop_no h2 (fun q => by first | exact h4 q.2 | exact h3 q.1)) (by rw [if_pos h5])
    · omega
   refine wpM.skip <| QM.block_normal <| QM.block_normal ?_
   refine QM.then (wpM.region ?_)
   refine LM.val (ov_add64 rfl rfl om) ?_
   refine LM.mv rfl <| nC [(1, _), (4, _), (5, _), (23, _), (24, _), (25, _)] ?_
   refine QM.againK ((j + 1, acc)) ⟨au2, rfl, rfl, rfl, rfl, rfl, trivial⟩ au1 (fun _ h => h) ?_ ?_
   · exact hI.step om (stop_no h2 (fun q => by first | exact h4 q.2 | exact h3 q.1)) (by rw [if_neg h5])
   · (dsimp only; omega)
  refine LM.dr 37 rfl rfl rfl <| LM.dr 37 rfl rfl rfl <| LM.dr 37 rfl rfl rfl <| LM.dr 37 rfl rfl rfl <| LM.dr 37 rfl rfl rfl <| LM.val (ov_pickF rfl rfl) <| LM.as rfl <| nA [(1, _), (4, _), (5, _), (6, _), (7, _), (23, _), (24, _), (25, _), (30, _)] ?_
  refine wpM.condF rfl ?_
  refine wR <| LM.val (ovf 3 rfl rfl rfl rfl) ?_
  refine LM.rd (oml rfl rfl rfl) ?_
  refine LM.val (ov_eql rfl rfl) <| LM.as rfl <| nA [(1, _), (4, _), (5, _), (7, _), (23, _), (24, _), (25, _), (50, _)] ?_
  refine wpM.condD rfl (fun h6 => ?_) (fun h6 => ?_)
  ·
   refine wpM.region ?_
   refine LM.val (ovf 3 rfl rfl rfl rfl) ?_
   refine LM.rd (oml rfl rfl rfl) ?_
   refine LM.val (ovf 3 rfl rfl rfl rfl) ?_
   refine LM.rd (oml rfl rfl rfl) ?_
   refine LM.val (ov_add rfl rfl) ?_
   refine LM.val (ovf 3 rfl rfl rfl rfl) ?_
   refine LM.st Tryd.sizeOf3 rfl rfl rfl au5 rfl au8 ?_
   refine nC [(1, _), (4, _), (5, _), (23, _), (24, _), (25, _)] <| QM.block_normal <| QM.block_normal ?_
   refine QM.then (wpM.region ?_)
   refine LM.val (ov_add64 rfl rfl om) ?_
   refine LM.mv rfl <| nC [(1, _), (4, _), (5, _), (23, _), (24, _), (25, _)] ?_
   refine QM.againK ((j + 1, IntKind.i64.wrap (acc + (ys.getD j default).a))) ⟨au2, rfl, rfl, rfl, rfl, rfl, trivial⟩ au1 (fun _ h => h) ?_ ?_
   · exact hI.step om (stop_no h2 (fun q => by first | exact h4 q.2 | exact h3 q.1)) (by rw [if_pos h6])
   · (dsimp only; omega)
  refine wpM.skip <| QM.block_normal <| QM.block_normal ?_
  refine QM.then (wpM.region ?_)
  refine LM.val (ov_add64 rfl rfl om) ?_
  refine LM.mv rfl <| nC [(1, _), (4, _), (5, _), (23, _), (24, _), (25, _)] ?_
  refine QM.againK ((j + 1, acc)) ⟨au2, rfl, rfl, rfl, rfl, rfl, trivial⟩ au1 (fun _ h => h) ?_ ?_
  · exact hI.step om (stop_no h2 (fun q => by first | exact h4 q.2 | exact h3 q.1)) (by rw [if_neg h6])
  · (dsimp only; omega)
 refine wpM.exit <| QM.then_exit <| QM.then_exit <| QM.block_hit <| tR ?_
 refine LM.rd (om_ldW Tryd.isAgg68 Tryd.sizeOf68 rfl rfl) ?_
 refine LM.stW Tryd.sizeOf68 rfl rfl rfl rfl au7 au8 ?_
 refine nA [(4, _)] <| wpM.ret ?_
 refine QM.leaveCs (ds := ([])) (.inl rfl) [.cell 4 68] Tryd.results54 hd_nil (rc_w rfl Tryd.isAgg68 Tryd.sizeOf68 rfl rc_nil) ?_
 intro w' hm' hc'
 have hq := hI.fin om; refine ⟨?_, hc'⟩; rw [hq]; show sV _ _ _ _ = sV _ _ _ _; congr 5; omega
theorem rsectionW_spec {xs : List COp} {fv : Bool} {ad : Option Addr} {n cap : Nat} (i : Nat) (w : World) (hn : n = xs.length) (hl : Sr fO 3 xs (.slice ad n cap) w) (hx20 : xs.length ≤ 20) (hi : i < xs.length) : Ret Tryd.prog 46 #[pV fv ad n cap, .int .i64 (i : Nat)] w (fun v w' => v = secW xs i ∧ Ext w w') := by
 obtain ⟨ys, hys⟩ : ∃ ys, xs.drop (i + 1) = ys := ⟨_, rfl⟩; have hyl : ys.length = xs.length - (i + 1) := (by rw [← hys, List.length_drop]); have hsec : secC xs i = secZ (xs.getD i default).a 0 ys := (by unfold secC; rw [hys]); have hyx : ∀ j, ys.getD j default = xs.getD (i + 1 + j) default := (fun j => by rw [← hys, getD_drop]); have hof : (secO xs i).1 = (secZ (xs.getD i default).a 0 ys).1 := (by rw [← secC_fst, hsec]); simp only [secW, secF, hsec, hof]
 refine Ret.enterM Tryd.func46 rfl Tryd.ntmps46 rfl ([]) (no) (Mem.nil w) ?_
 refine wR ?_
 refine LM.box rfl rfl (fun b2 hb2 => ?_)
 refine LM.alloc Tryd.zeroValue68 rfl (fun b4 hb4 => ?_)
 refine nB [(1, _), (2, _), (4, _)] <| LM.mv rfl <| LM.mv rfl ?_
 refine LM.val (ov_add64 rfl rfl om) ?_
 refine LM.val (ovf 35 rfl rfl rfl rfl) ?_
 refine LM.rd (oml rfl rfl rfl) ?_
 refine LM.mv rfl ?_
 refine LM.val (ov_idxSN au6 Tryd.underlying35 Tryd.sizeOf70 rfl rfl om) ?_
 refine LM.val (ovf 3 rfl rfl rfl rfl) ?_
 refine LM.rdC (om_srE (j := 1) asm Tryd.isAgg3 rfl rfl au3 (by rfl) (by rfl) id) ?_
 refine LM.val (ov_build (cs := #[_, _, _, _]) rfl (by first | rfl | kernel_rfl)) ?_
 refine LM.alloc Tryd.zeroValue68 rfl (fun b5 hb5 => ?_)
 refine LM.stW Tryd.sizeOf68 rfl rfl rfl rfl au7 au8 ?_
 refine nA [(2, _), (4, _), (5, _)] <| wpM.seq <| wpM.block ?_
 refine wpM.loopK0 (α := Nat × Int × Int) (fun ⟨j, to, acc⟩ => []) [(2, _), (4, _), (5, _)] (fun ⟨j, to, acc⟩ => sBc b5 (i : Nat) to (xs.getD i default).a acc :: sBc b4 0 0 0 0 :: pB b2 fv ad n cap :: []) (fun ⟨j, to, acc⟩ => SecZ (xs.getD i default).a ys j acc ∧ to = (i : Int) + 1 + (j : Nat)) (fun ⟨j, to, acc⟩ => ys.length - j) ((0, (i : Int) + 1, 0)) ⟨rfl, rfl, rfl, trivial⟩ au1 ⟨SecZ.zero _ ys, by simp⟩ ?_
 rintro ⟨j, to, acc⟩ ⟨hI, hto⟩
 change wpM _ _ _ _ _ _ _ (sBc b5 (i : Nat) to (xs.getD i default).a acc :: sBc b4 0 0 0 0 :: pB b2 fv ad n cap :: []) _ _ _
 have hj := hI.1; have htn : to.toNat = i + 1 + j := om; have hyt : ys.getD j default = xs.getD to.toNat default := (by rw [hyx, htn])
 refine wpM.seq <| wR <| LM.val (ovf 3 rfl rfl rfl rfl) ?_
 refine LM.rd (oml rfl rfl rfl) ?_
 refine LM.val (ovf 35 rfl rfl rfl rfl) ?_
 refine LM.rd (oml rfl rfl rfl) ?_
 refine LM.val (ov_len Tryd.underlying35 rfl) <| LM.val (ov_lss rfl rfl) <| nA [(2, _), (4, _), (5, _), (22, _)] ?_
 refine wpM.condD rfl (fun h1 => ?_) (fun h1 => ?_)
 ·
  refine wpM.skip <| QM.then <| wpM.block <| wR <| LM.val (ovf 35 rfl rfl rfl rfl) ?_
  refine LM.rd (oml rfl rfl rfl) ?_
  refine LM.val (ovf 3 rfl rfl rfl rfl) ?_
  refine LM.rd (oml rfl rfl rfl) ?_
  refine LM.val (ov_idxS au6 Tryd.underlying35 Tryd.sizeOf70 rfl rfl om) ?_
  refine LM.rdC (om_srEA asm ir Tryd.isAgg70 Tryd.sizeOf70 rfl au3 id) ?_
  refine LM.alloc Tryd.zeroValue70 rfl (fun b6 hb6 => ?_)
  refine LM.stW Tryd.sizeOf70 rfl rfl rfl rfl au7 au8 ?_
  refine nA [(2, _), (4, _), (5, _), (6, _)] <| wpM.seq <| wR <| LM.val (ovf 3 rfl rfl rfl rfl) ?_
  refine LM.rd (oml rfl rfl rfl) ?_
  refine LM.val (ov_eql rfl rfl) <| LM.mv rfl ?_
  refine LM.splitD (t := 32) rfl (fun h2 => ?_) (fun h2 => ?_)
  ·
   refine LM.dr 32 rfl rfl rfl <| LM.dr 32 rfl rfl rfl <| LM.dr 32 rfl rfl rfl ?_
   refine LM.dropU (t := 32) rfl rfl rfl ?_
   refine LM.dropX (t := 36) rfl rfl ?_
   refine LM.dropX (t := 36) rfl rfl ?_
   refine LM.dropX (t := 36) rfl rfl ?_
   refine LM.dropX (t := 36) rfl rfl ?_
   refine LM.dropX (t := 36) rfl rfl ?_
   refine LM.dr 32 rfl rfl rfl <| LM.val (ov_pickT rfl rfl) <| nA [(2, _), (4, _), (5, _), (6, _), (43, _)] ?_
   refine wpM.condT rfl ?_
   refine wR ?_
   refine LM.rd (om_ldW Tryd.isAgg68 Tryd.sizeOf68 rfl rfl) ?_
   refine LM.stW Tryd.sizeOf68 rfl rfl rfl rfl au7 au8 ?_
   refine nA [(4, _)] <| wpM.ret <| QM.then_ret <| QM.block_ret <| QM.then_ret <| QM.block_ret <| QM.then_ret ?_
   refine QM.leaveCs (ds := ([])) (.inl rfl) [.cell 4 68] Tryd.results46 hd_nil (rc_w rfl Tryd.isAgg68 Tryd.sizeOf68 rfl rc_nil) ?_
   intro w' hm' hc'
   have hq := hI.stop om (by rw [hyt]; exact stop_11 h2); refine ⟨?_, hc'⟩; rw [hq]; show sV _ _ _ _ = sV _ _ _ _; congr 5
  refine LM.sp 32 rfl rfl rfl <| LM.val (ovf 3 rfl rfl rfl rfl) <| LM.sp 32 rfl rfl rfl ?_
  refine LM.rd (oml rfl rfl rfl) ?_
  refine LM.sp 32 rfl rfl rfl <| LM.val (ov_eql rfl rfl) <| LM.sp 32 rfl rfl rfl <| LM.mv rfl ?_
  refine LM.splitD (t := 36) rfl (fun h3 => ?_) (fun h3 => ?_)
  ·
   refine LM.sp 36 rfl rfl rfl <| LM.val (ovf 3 rfl rfl rfl rfl) <| LM.sp 36 rfl rfl rfl ?_
   refine LM.rd (oml rfl rfl rfl) ?_
   refine LM.sp 36 rfl rfl rfl <| LM.val (ovf 3 rfl rfl rfl rfl) <| LM.sp 36 rfl rfl rfl ?_
   refine LM.rd (oml rfl rfl rfl) ?_
   refine LM.sp 36 rfl rfl rfl <| LM.val (ov_eql rfl rfl) <| LM.sp 32 rfl rfl rfl <| LM.val (ov_pickT rfl rfl) <| LM.val (ov_pickF rfl rfl) <| nA [(2, _), (4, _), (5, _), (6, _), (43, _)] ?_
   refine wpM.condD rfl (fun h4 => ?_) (fun h4 => ?_)
   ·
    refine wR ?_
    refine LM.rd (om_ldW Tryd.isAgg68 Tryd.sizeOf68 rfl rfl) ?_
    refine LM.stW Tryd.sizeOf68 rfl rfl rfl rfl au7 au8 ?_
    refine nA [(4, _)] <| wpM.ret <| QM.then_ret <| QM.block_ret <| QM.then_ret <| QM.block_ret <| QM.then_ret ?_
    refine QM.leaveCs (ds := ([])) (.inl rfl) [.cell 4 68] Tryd.results46 hd_nil (rc_w rfl Tryd.isAgg68 Tryd.sizeOf68 rfl rc_nil) ?_
    intro w' hm' hc'
    have hq := hI.stop om (by rw [hyt]; exact stop_6 h3 h4); refine ⟨?_, hc'⟩; rw [hq]; show sV _ _ _ _ = sV _ _ _ _; congr 5
   refine wpM.skip <| QM.then <| wpM.seq <| wR <| LM.val (ovf 3 rfl rfl rfl rfl) ?_
   refine LM.rd (oml rfl rfl rfl) ?_
   refine LM.val (ov_eql rfl rfl) <| nA [(2, _), (4, _), (5, _), (6, _), (47, _)] ?_
   refine wpM.condD rfl (fun h5 => ?_) (fun h5 => ?_)
   ·
    refine wpM.region ?_
    refine LM.val (ovf 3 rfl rfl rfl rfl) ?_
    refine LM.rd (oml rfl rfl rfl) ?_
    refine LM.val (ovf 3 rfl rfl rfl rfl) ?_
    refine LM.rd (oml rfl rfl rfl) ?_
    refine LM.val (ov_add rfl rfl) ?_
    refine LM.val (ovf 3 rfl rfl rfl rfl) ?_
    refine LM.st Tryd.sizeOf3 rfl rfl rfl au5 rfl au8 ?_
    refine LM.nil (QM.sub (e' := [(2, _), (4, _), (5, _)]) au9 (QM.then (wpM.region ?_)))
    refine LM.val (ovf 3 rfl rfl rfl rfl) ?_
    refine LM.rd (oml rfl rfl rfl) ?_
    refine LM.val (ov_add64 rfl rfl om) ?_
    refine LM.val (ovf 3 rfl rfl rfl rfl) ?_
    refine LM.st Tryd.sizeOf3 rfl rfl rfl au5 rfl au8 ?_
    refine nC [(2, _), (4, _), (5, _)] <| QM.block_normal ?_
    refine QM.againK ((j + 1, to + 1, IntKind.i64.wrap (acc + (xs.getD to.toNat default).a))) ⟨rfl, rfl, rfl, trivial⟩ au1 (fun _ h => h) ?_ ?_
    · exact ⟨hI.step om (by rw [hyt]; exact stop_no h2 (fun q => by first | exact h4 q.2 | exact h3 q.1)) (by rw [hyt, if_pos h5]), by push_cast; omega⟩
    · omega
   refine wpM.skip ?_
   refine QM.then (wpM.region ?_)
   refine LM.val (ovf 3 rfl rfl rfl rfl) ?_
   refine LM.rd (oml rfl rfl rfl) ?_
   refine LM.val (ov_add64 rfl rfl om) ?_
   refine LM.val (ovf 3 rfl rfl rfl rfl) ?_
   refine LM.st Tryd.sizeOf3 rfl rfl rfl au5 rfl au8 ?_
   refine nC [(2, _), (4, _), (5, _)] <| QM.block_normal ?_
   refine QM.againK ((j + 1, to + 1, acc)) ⟨rfl, rfl, rfl, trivial⟩ au1 (fun _ h => h) ?_ ?_
   · exact ⟨hI.step om (by rw [hyt]; exact stop_no h2 (fun q => by first | exact h4 q.2 | exact h3 q.1)) (by rw [hyt, if_neg h5]), by push_cast; omega⟩
   · (dsimp only; omega)
  refine LM.dr 36 rfl rfl rfl <| LM.dr 36 rfl rfl rfl <| LM.dr 36 rfl rfl rfl <| LM.dr 36 rfl rfl rfl <| LM.dr 36 rfl rfl rfl <| LM.sp 32 rfl rfl rfl <| LM.val (ov_pickF rfl rfl) <| LM.val (ov_pickF rfl rfl) <| nA [(2, _), (4, _), (5, _), (6, _), (43, _)] ?_
  refine wpM.condF rfl ?_
  refine wpM.skip <| QM.then <| wpM.seq <| wR <| LM.val (ovf 3 rfl rfl rfl rfl) ?_
  refine LM.rd (oml rfl rfl rfl) ?_
  refine LM.val (ov_eql rfl rfl) <| nA [(2, _), (4, _), (5, _), (6, _), (47, _)] ?_
  refine wpM.condD rfl (fun h6 => ?_) (fun h6 => ?_)
  ·
   refine wpM.region ?_
   refine LM.val (ovf 3 rfl rfl rfl rfl) ?_
   refine LM.rd (oml rfl rfl rfl) ?_
   refine LM.val (ovf 3 rfl rfl rfl rfl) ?_
   refine LM.rd (oml rfl rfl rfl) ?_
   refine LM.val (ov_add rfl rfl) ?_
   refine LM.val (ovf 3 rfl rfl rfl rfl) ?_
   refine LM.st Tryd.sizeOf3 rfl rfl rfl au5 rfl au8 ?_
   refine LM.nil (QM.sub (e' := [(2, _), (4, _), (5, _)]) au9 (QM.then (wpM.region ?_)))
   refine LM.val (ovf 3 rfl rfl rfl rfl) ?_
   refine LM.rd (oml rfl rfl rfl) ?_
   refine LM.val (ov_add64 rfl rfl om) ?_
   refine LM.val (ovf 3 rfl rfl rfl rfl) ?_
   refine LM.st Tryd.sizeOf3 rfl rfl rfl au5 rfl au8 ?_
   refine nC [(2, _), (4, _), (5, _)] <| QM.block_normal ?_
   refine QM.againK ((j + 1, to + 1, IntKind.i64.wrap (acc + (xs.getD to.toNat default).a))) ⟨rfl, rfl, rfl, trivial⟩ au1 (fun _ h => h) ?_ ?_
   · exact ⟨hI.step om (by rw [hyt]; exact stop_no h2 (fun q => by first | exact h4 q.2 | exact h3 q.1)) (by rw [hyt, if_pos h6]), by push_cast; omega⟩
   · (dsimp only; omega)
  refine wpM.skip ?_
  refine QM.then (wpM.region ?_)
  refine LM.val (ovf 3 rfl rfl rfl rfl) ?_
  refine LM.rd (oml rfl rfl rfl) ?_
  refine LM.val (ov_add64 rfl rfl om) ?_
  refine LM.val (ovf 3 rfl rfl rfl rfl) ?_
  refine LM.st Tryd.sizeOf3 rfl rfl rfl au5 rfl au8 ?_
  refine nC [(2, _), (4, _), (5, _)] <| QM.block_normal ?_
  refine QM.againK ((j + 1, to + 1, acc)) ⟨rfl, rfl, rfl, trivial⟩ au1 (fun _ h => h) ?_ ?_
  · exact ⟨hI.step om (by rw [hyt]; exact stop_no h2 (fun q => by first | exact h4 q.2 | exact h3 q.1)) (by rw [hyt, if_neg h6]), by push_cast; omega⟩
  · (dsimp only; omega)
 refine wpM.exit <| QM.then_exit <| QM.then_exit <| QM.block_hit <| tR ?_
 refine LM.rd (om_ldW Tryd.isAgg68 Tryd.sizeOf68 rfl rfl) ?_
 refine LM.stW Tryd.sizeOf68 rfl rfl rfl rfl au7 au8 ?_
 refine nA [(4, _)] <| wpM.ret ?_
 refine QM.leaveCs (ds := ([])) (.inl rfl) [.cell 4 68] Tryd.results46 hd_nil (rc_w rfl Tryd.isAgg68 Tryd.sizeOf68 rfl rc_nil) ?_
 intro w' hm' hc'
 have hq := hI.fin om; refine ⟨?_, hc'⟩; rw [hq]; show sV _ _ _ _ = sV _ _ _ _; congr 5; omega
set_option maxHeartbeats 1000000 in
theorem secsW_seq {xs : List COp} {fv : Bool} {ad : Option Addr} {n cap : Nat} {b1 : Nat} (hn : n = xs.length) (hx20 : xs.length ≤ 20) : SeqC Tryd.prog 52 #[.pointer (some ⟨b1, 0, none⟩)] (secB xs) (fun w => Mem w [pB b1 fv ad n cap] ∧ Sr fO 3 xs (.slice ad n cap) w) (True) := by
 refine SeqC.enter (lb := [.pointer (some ⟨b1, 0, none⟩)]) Tryd.func52 rfl Tryd.ntmps52 rfl ?_
 intro l n0 J Jx w0 hfin hJr gJ gJx hy
 refine wR <| LM.val (ovf 35 rfl rfl rfl rfl) ?_
 refine LM.rdC (fun w _ _ hg => om_load 0 Tryd.isAgg35 rfl rfl rfl w (hJr _ w hg).1) ?_
 refine LM.val (ov_len Tryd.underlying35 rfl) <| LM.mv rfl <| nA [(0, _), (1, _), (6, _), (7, _), (8, _)] <| wpM.block ?_
 refine wpM.loopK (α := Nat) (fun i => [(8, .int .i64 (i : Nat))]) [(0, _), (1, _), (6, _), (7, _)] (fun i => []) (fun i => J (filN (tkT xs) i)) (fun i => i ≤ xs.length) (fun i => xs.length - i) (0) ⟨au2, rfl, rfl, rfl, rfl, trivial⟩ au1 (fun _ h => h) (Nat.zero_le _) ?_
 rintro i hi
 change wpM _ _ _ _ _ _ _ ([]) _ _ _
 refine wR <| LM.val (ov_lss rfl rfl) <| nA [(0, _), (1, _), (6, _), (7, _), (8, _), (9, _)] <| wpM.seq ?_
 refine wpM.condD rfl (fun h1 => ?_) (fun h1 => ?_)
 ·
  refine wpM.skip <| QM.then <| wpM.seq <| wpM.block <| wR <| LM.mv rfl ?_
  refine LM.know (fun w _ _ hg => (hJr _ w hg).2.spt) (fun hsp => ?_); refine LM.val (ov_idxSN hsp Tryd.underlying35 Tryd.sizeOf70 rfl rfl om) ?_
  refine LM.rdC (fun w hm hc hg => ow_srEA (hJr _ w hg).2 ir Tryd.isAgg70 Tryd.sizeOf70 rfl (getq default om)) ?_
  refine LM.allocF Tryd.zeroValue70 rfl (fun b4 hb4 => ?_)
  refine LM.as rfl ?_
  refine LM.stWF Tryd.sizeOf70 rfl rfl rfl rfl au7 au8 om ?_
  refine LM.unF ?_
  refine nB [(0, _), (1, _), (3, _), (4, _), (6, _), (7, _), (8, _)] <| LM.val (ovf 3 rfl rfl rfl rfl) ?_
  refine LM.rd (oml rfl rfl rfl) ?_
  refine cE Tryd.func53 rfl (fun w hm hc hg => takes_spec _ w) ?_
  refine LM.mv rfl ?_
  refine LM.splitB (t := 16) rfl (fun h2 => ?_) (fun h2 => ?_)
  ·
   refine LM.sp 16 rfl rfl rfl <| LM.mv rfl <| LM.sp 16 rfl rfl rfl ?_
   refine LM.rdC (fun w _ _ hg => om_loadA 0 Tryd.isAgg37 Tryd.sizeOf37 rfl rfl (vs := [.bool fv, .slice ad n cap]) rfl ⟨rfl, rfl, trivial⟩ w (hJr _ w hg).1) ?_
   refine LM.sp 16 rfl rfl rfl <| LM.mv rfl <| LM.sp 16 rfl rfl rfl ?_
   refine cE Tryd.func54 rfl (fun w hm hc hg => sectionW_spec i w hn (hJr _ w hg).2 hx20 om) ?_
   refine LM.sp 16 rfl rfl rfl ?_
   refine LM.mem (M' := []) (fun w _ => Mem.nil w) ?_
   refine LM.yield (n := n0) (G1 := J ((filN (tkT xs) i) + 1)) (G2 := Jx) rfl rfl (fun w hj => hy ((filN (tkT xs) i)) _ w (secB_get om h2) hj) (fun _ => trivial) ?_ ?_
   ·
    refine LM.sp 16 rfl rfl rfl ?_
    refine LM.val (ov_not rfl) ?_
    refine LM.val (ov_pickT rfl rfl) <| nA [(0, _), (1, _), (6, _), (7, _), (8, _), (23, _)] ?_
    refine wpM.condF rfl ?_
    refine wpM.skip <| QM.block_normal ?_
    refine QM.then (wpM.region ?_)
    refine LM.val (ov_add64 rfl rfl om) ?_
    refine LM.mv rfl <| nC [(0, _), (1, _), (6, _), (7, _), (8, _)] ?_
    refine QM.againK (i + 1) ⟨au2, rfl, rfl, rfl, rfl, trivial⟩ au1 (fun w h => by rw [filN_succ, if_pos (by exact h2)]; exact h) ?_ ?_
    · omega
    · omega
   refine LM.sp 16 rfl rfl rfl ?_
   refine LM.val (ov_not rfl) ?_
   refine LM.val (ov_pickT rfl rfl) <| nA [(0, _), (1, _), (6, _), (7, _), (8, _), (23, _)] ?_
   refine wpM.condT rfl ?_
   refine wpM.ret <| QM.block_ret <| QM.then_ret <| QM.then_ret <| QM.block_ret ?_
   refine QM.leave (.inl rfl) [] Tryd.results52 rfl ?_
   intro w' hm' hc' hg'
   exact .inr hg'
  refine LM.dr 16 rfl rfl rfl <| LM.dr 16 rfl rfl rfl <| LM.dr 16 rfl rfl rfl <| LM.dr 16 rfl rfl rfl <| LM.dr 16 rfl rfl rfl <| LM.dr 16 rfl rfl rfl <| LM.val (ov_pickF rfl rfl) <| nA [(0, _), (1, _), (6, _), (7, _), (8, _), (23, _)] ?_
  refine wpM.condF rfl ?_
  refine wpM.skip <| QM.block_normal ?_
  refine QM.then (wpM.region ?_)
  refine LM.val (ov_add64 rfl rfl om) ?_
  refine LM.mv rfl <| nC [(0, _), (1, _), (6, _), (7, _), (8, _)] ?_
  refine QM.againK (i + 1) ⟨au2, rfl, rfl, rfl, rfl, trivial⟩ au1 (fun w h => by rw [filN_succ, if_neg (by show ¬ takesB _ = true; rw [h2]; decide), Nat.add_zero]; exact h) ?_ ?_
  · omega
  · omega
 refine wpM.exit <| QM.then_exit <| QM.then_exit <| QM.block_hit ?_
 refine QM.leave (.inr rfl) [] Tryd.results52 rfl ?_
 intro w' hm' hc' hg'
 (have hil : i = xs.length := om; subst hil; exact .inl (by rw [secB_len]; exact hg'))
theorem rsecs_spec {xs : List COp} {fv : Bool} {ad : Option Addr} {n cap : Nat} (w : World) (hn : n = xs.length) (hl : Sr fO 3 xs (.slice ad n cap) w) (hx20 : xs.length ≤ 20) : Ret Tryd.prog 32 #[pV fv ad n cap] w (New secF 68 4 ((filP (tkT xs) xs.length).map (fun i => (i, xs))) w) := by
 refine Ret.enterM Tryd.func32 rfl Tryd.ntmps32 rfl ([]) (no) (Mem.nil w) ?_
 refine wR ?_
 refine LM.box rfl rfl (fun b1 hb1 => ?_)
 refine LM.as rfl <| nB [(1, _)] <| LM.as rfl <| nA [(1, _), (3, _)] <| wpM.seq <| wR <| LM.as rfl <| nA [(1, _), (3, _), (4, _)] <| wpM.block ?_
 refine wpM.loopK0 (α := Nat × Option Addr × Nat × Nat × Mem0) (fun ⟨i, adl, nl, capl, m⟩ => [(3, .slice adl nl capl), (4, .int .i64 (i : Nat))]) [(1, _)] (fun ⟨i, adl, nl, capl, m⟩ => m ++ (pB b1 fv ad n cap :: [])) (fun ⟨i, adl, nl, capl, m⟩ => i ≤ xs.length ∧ nl = filN (tkT xs) i ∧ Sl secF 68 4 w.heap.size ((filP (tkT xs) i).map (fun i => (i, xs))) (.slice adl nl capl) m) (fun ⟨i, adl, nl, capl, m⟩ => xs.length - i) ((0, none, 0, 0, [])) ⟨au2, au2, rfl, trivial⟩ au1 ⟨Nat.zero_le _, rfl, .nil _ _ _ _⟩ ?_
 rintro ⟨i, adl, nl, capl, m⟩ ⟨hi, hnl, hs⟩
 change wpM _ _ _ _ _ _ _ (m ++ (pB b1 fv ad n cap :: [])) _ _ _
 have hfl : filN (tkT xs) i ≤ i := (by unfold filN; exact Nat.le_trans (List.length_filter_le _ _) (by rw [List.length_range]; exact Nat.le_refl _)); have hml : ((filP (tkT xs) i).map (fun i => (i, xs))).length = nl := (by rw [List.length_map, hnl]; rfl)
 refine wpM.seq <| wR <| LM.mv rfl <| LM.val (ovf 35 rfl rfl rfl rfl) ?_
 refine LM.rd (oml rfl rfl rfl) ?_
 refine LM.val (ov_len Tryd.underlying35 rfl) <| LM.val (ov_lss rfl rfl) <| nA [(1, _), (3, _), (4, _), (9, _)] ?_
 refine wpM.condD rfl (fun h1 => ?_) (fun h1 => ?_)
 ·
  refine wpM.skip <| QM.then <| wpM.seq <| wpM.block <| wR <| LM.val (ovf 35 rfl rfl rfl rfl) ?_
  refine LM.rd (oml rfl rfl rfl) ?_
  refine LM.mv rfl ?_
  refine LM.val (ov_idxSN au6 Tryd.underlying35 Tryd.sizeOf70 rfl rfl om) ?_
  refine LM.rdC (om_srEA asm ir Tryd.isAgg70 Tryd.sizeOf70 rfl au3 id) ?_
  refine cE Tryd.func45 rfl (fun w hm hc hg => rtakes_spec _ w) ?_
  refine nA [(1, _), (3, _), (4, _), (17, _)] ?_
  refine wpM.condB rfl (fun h2 => ?_) (fun h2 => ?_)
  ·
   refine wpM.region ?_
   refine LM.mv rfl ?_
   refine LM.rd (om_ldW Tryd.isAgg37 Tryd.sizeOf37 rfl rfl) ?_
   refine LM.mv rfl ?_
   refine cE Tryd.func46 rfl (fun w hm hc hg => rsectionW_spec i w hn (hl.ext hc) hx20 om) ?_
   refine LM.single Tryd.underlying71 Tryd.sizeOf68 Tryd.zeroValue68 rfl rfl rfl rfl rfl (fun b22 hb22 => ?_)
   refine LM.app Tryd.underlying71 Tryd.typeInfo68 rfl rfl rfl rfl rfl rfl rfl asm (by rfl) ir (by intro _ u hu; simp [secF] at hu; (repeat (first | (rcases hu with rfl | hu) | subst hu | rfl))) (by first | exact Nat.le_refl _ | omega) au10 (by first | omega | (unfold maxLen; omega)) (by simp only [Tryd.t68]; omega) (fun ad23 n23 cap23 m23 hn23 hs23 hin23 => ?_)
   refine LM.as rfl <| nC [(1, _), (3, _), (4, _)] <| QM.block_normal ?_
   refine QM.then (wpM.region ?_)
   refine LM.mv rfl ?_
   refine LM.val (ov_add64 rfl rfl om) ?_
   refine LM.as rfl <| nC [(1, _), (3, _), (4, _)] ?_
   refine QM.againK ((i + 1, ad23, n23, cap23, m23)) ⟨au2, au2, rfl, trivial⟩ au1 (fun _ h => h) ?_ ?_
   · have ht : tkT xs i = true := h2; have e := filP_succ (tkT xs) i; rw [if_pos ht] at e; exact ⟨by omega, by rw [filN_succ, if_pos ht]; omega, by rw [e, List.map_append]; exact hs23⟩
   · (dsimp only; omega)
  refine wpM.skip <| QM.block_normal ?_
  refine QM.then (wpM.region ?_)
  refine LM.mv rfl ?_
  refine LM.val (ov_add64 rfl rfl om) ?_
  refine LM.as rfl <| nC [(1, _), (3, _), (4, _)] ?_
  refine QM.againK ((i + 1, adl, nl, capl, m)) ⟨au2, au2, rfl, trivial⟩ au1 (fun _ h => h) ?_ ?_
  · have ht : ¬ tkT xs i = true := (by show ¬ takesB _ = true; rw [h2]; decide); have e := filP_succ (tkT xs) i; rw [if_neg ht, List.append_nil] at e; exact ⟨by omega, by rw [filN_succ, if_neg ht]; omega, by rw [e]; exact hs⟩
  · (dsimp only; omega)
 refine wpM.exit <| QM.then_exit <| QM.then_exit <| QM.block_hit <| tR <| LM.mv rfl <| LM.as rfl <| nA [(2, _)] <| wpM.ret ?_
 refine qL Tryd.results32 rfl fun w' hm' hc' hg' => ?_
 have hil : i = xs.length := om; subst hil; exact ⟨hc', m, hs, hm'.pick m⟩
theorem part_get {xs : List COp} {lo m j : Nat} (h : j < m) : ((xs.drop lo).take m).getD j default = xs.getD (lo + j) default := by
  rw [List.getD_eq_getElem?_getD, List.getElem?_take, if_pos h, List.getElem?_drop, ← List.getD_eq_getElem?_getD]
theorem part_len {xs : List COp} {lo m : Nat} (h : lo + m ≤ xs.length) : ((xs.drop lo).take m).length = m := by rw [List.length_take, List.length_drop]; omega
theorem map_at {xs : List COp} {l : List Nat} {k p : Nat} (h : l[k]? = some p) : (l.map (fun i => (i, xs))).getD k default = (p, xs) := by
  rw [List.getD_eq_getElem?_getD, List.getElem?_map, h]; rfl
theorem takes_yes {k : Int} (h1 : k ≥ 2) (h2 : k ≤ 5) : takesB k = true := by unfold takesB; rw [decide_eq_true (show 2 ≤ k by omega), decide_eq_true h2]; rfl
theorem takes_no {k : Int} (h : ¬ k ≥ 2 ∨ ¬ k ≤ 5) : ¬ takesB k = true := by unfold takesB; rw [Bool.and_eq_true, decide_eq_true_eq, decide_eq_true_eq]; omega
theorem within_spec {xs : List COp} {fv : Bool} {ad : Option Addr} {n cap : Nat} (lock : Int) (w : World) (hn : n = xs.length) (hl : Sr fO 3 xs (.slice ad n cap) w) (hx20 : xs.length ≤ 20) : Ret Tryd.prog 11 #[pV fv ad n cap, .int .i64 lock] w (fun v w' => v = U (witO xs lock) ∧ Ext w w') := by
 refine Ret.enterM Tryd.func11 rfl Tryd.ntmps11 rfl ([]) (no) (Mem.nil w) ?_
 refine wR ?_
 refine LM.box rfl rfl (fun b2 hb2 => ?_)
 refine LM.box rfl rfl (fun b3 hb3 => ?_)
 refine LM.as rfl <| nB [(2, _), (3, _)] ?_
 refine LM.alloc Tryd.zeroValue34 rfl (fun b5 hb5 => ?_)
 refine nA [(2, _), (3, _), (5, _)] <| wpM.seq <| wR ?_
 refine LM.rd (om_ldW Tryd.isAgg37 Tryd.sizeOf37 rfl rfl) ?_
 refine LM.callT (oc_call (enters_fn Tryd.func31 kr rfl) rfl) SecsT.mono (fun w hm hc hg => secs_spec fv ad n cap w) ?_
 rintro u10 m10 ⟨c1, rfl, rfl, hc1⟩ -
 refine nA [(2, _), (3, _), (5, _), (10, _)] <| wpM.block ?_
 refine wpM.toRange (α := BitVec 64) (fun k s => uBx b5 s :: pB c1 fv ad n cap :: iBc b3 lock :: pB b2 fv ad n cap :: []) (0#64) au1 ?_
 refine wpM.range (α := BitVec 64) (β := Unit) (enters_fn Tryd.func52 kr rfl) rfl (secsW_seq (xs := xs) hn hx20) (fun k s => uBx b5 s :: pB c1 fv ad n cap :: iBc b3 lock :: pB b2 fv ad n cap :: []) (fun _ _ => top) (fun k s => k ≤ filN (tkT xs) xs.length ∧ s = witK xs lock k) (fun ⟨⟩ => []) (fun _ => top) (fun c ⟨⟩ => False) 0#64 rfl (fun _ h => h) ⟨Nat.zero_le _, rfl⟩ kr (by intro k av hav; obtain ⟨p, hp, rfl⟩ := secB_inv hav; have hkl := (List.getElem?_eq_some_iff.1 hp).1; rw [← filN_len] at hkl; have hpx : p < xs.length := (filP_mem.1 (List.mem_of_getElem? hp)).1; have hto := secO_le xs p hpx; have hsp := hl.spt; have hcapn := hl.open; have hpart := (hl.drop (l := p + 1) om).take (k := (secO xs p).1) (by rw [List.length_drop]; omega); have hpl := part_len (xs := xs) (lo := p + 1) (m := (secO xs p).1) om; have hpg := fun j (h : j < (secO xs p).1) => part_get (xs := xs) (lo := p + 1) h; have hsub : p + 1 + (secO xs p).1 - (p + 1) = (secO xs p).1 := om; have hws := witK_succ (lock := lock) hp; unfold witS at hws; rfl) (.inl trivial) (fun k a w hm hc _ _ => ⟨SubM.mem au1 w hm, hl.ext hc⟩) (fun _ _ _ _ => gl_top _) (fun _ _ _ => gl_top _) (fun k x _ => mm_cons rfl (mm_cons rfl (mm_cons rfl (mm_cons rfl mm_nil)))) (fun c z _ => by ((repeat (refine mm_cons rfl ?_)); exact fun p hp => .inl (by first | exact hp | (simp at hp; done) | (simp [hp]; done) | (simp at hp ⊢; first | exact .inl hp | exact hp | (simp [hp]; done))))) ?_ ?_ ?_ ?_
 ·
  rintro k av s l D rc n1 W1 hD hll hput hrc hav ⟨hk, hs⟩
  change wpM _ _ _ _ _ _ _ ((l, Obj.loop rc) :: ([(D, Obj.deferred (some []))] ++ (uBx b5 s :: pB c1 fv ad n cap :: iBc b3 lock :: pB b2 fv ad n cap :: []))) _ _ _
  obtain ⟨p, hp, rfl⟩ := secB_inv hav; have hkl := (List.getElem?_eq_some_iff.1 hp).1; rw [← filN_len] at hkl; have hpx : p < xs.length := (filP_mem.1 (List.mem_of_getElem? hp)).1; have hto := secO_le xs p hpx; have hsp := hl.spt; have hcapn := hl.open; have hpart := (hl.drop (l := p + 1) om).take (k := (secO xs p).1) (by rw [List.length_drop]; omega); have hpl := part_len (xs := xs) (lo := p + 1) (m := (secO xs p).1) om; have hpg := fun j (h : j < (secO xs p).1) => part_get (xs := xs) (lo := p + 1) h; have hsub : p + 1 + (secO xs p).1 - (p + 1) = (secO xs p).1 := om; have hws := witK_succ (lock := lock) hp; unfold witS at hws
  refine wpM.region ?_
  refine LM.alloc Tryd.zeroValue68 rfl (fun b6 hb6 => ?_)
  refine LM.stW Tryd.sizeOf68 rfl rfl rfl rfl au7 au8 ?_
  refine nC [(2, _), (3, _), (5, _), (6, _)] ?_
  refine QM.toBodyF (hput k s) hll ?_
  refine wpM.block <| wpM.seq <| wR <| LM.val (ovf 3 rfl rfl rfl rfl) ?_
  refine LM.rd (oml rfl rfl rfl) ?_
  refine LM.rd (oml rfl rfl rfl) ?_
  refine LM.val (ov_neq rfl rfl) <| nA [(2, _), (5, _), (6, _), (15, _)] ?_
  refine wpM.condD rfl (fun h1 => ?_) (fun h1 => ?_)
  ·
   refine wpM.exit <| QM.then_exit <| QM.block_hit ?_
   refine QM.next (s) (SubM.mem au1) (fun _ h => h) ?_
   · exact ⟨by omega, by rw [hws, if_neg h1, hs]⟩
  refine wpM.skip <| tR <| LM.val (ovf 35 rfl rfl rfl rfl) ?_
  refine LM.rd (oml rfl rfl rfl) ?_
  refine LM.val (ovf 3 rfl rfl rfl rfl) ?_
  refine LM.rd (oml rfl rfl rfl) ?_
  refine LM.val (ov_add64 rfl rfl om) ?_
  refine LM.val (ovf 3 rfl rfl rfl rfl) ?_
  refine LM.rd (oml rfl rfl rfl) ?_
  refine LM.val (ov_subLH (p + 1) (p + 1 + (secO xs p).1) Tryd.underlying35 Tryd.sizeOf70 rfl rfl rfl rfl rfl om om) ?_; rw [hsub]
  refine LM.val (ov_len Tryd.underlying35 rfl) <| LM.mv rfl <| nA [(5, _), (23, _), (24, _), (25, _)] <| wpM.block ?_
  refine wpM.loopK0 (α := Nat × BitVec 64) (fun ⟨j, s2⟩ => [(25, .int .i64 (j : Nat))]) [(5, _), (23, _), (24, _)] (fun ⟨j, s2⟩ => (l, Obj.loop (busyOf rc)) :: (D, Obj.deferred (some [])) :: (b6, .cells (secF (p, xs)).toArray 68 (0, 0)) :: uBx b5 s2 :: pB c1 fv ad n cap :: iBc b3 lock :: pB b2 fv ad n cap :: []) (fun ⟨j, s2⟩ => j ≤ (secO xs p).1 ∧ s2 = innS xs (p + 1) j s) (fun ⟨j, s2⟩ => (secO xs p).1 - j) ((0, s)) ⟨au2, rfl, rfl, rfl, trivial⟩ au1 ⟨Nat.zero_le _, rfl⟩ ?_
  rintro ⟨j, s2⟩ ⟨hj, hs2⟩
  change wpM _ _ _ _ _ _ _ ((l, Obj.loop (busyOf rc)) :: (D, Obj.deferred (some [])) :: (b6, .cells (secF (p, xs)).toArray 68 (0, 0)) :: uBx b5 s2 :: pB c1 fv ad n cap :: iBc b3 lock :: pB b2 fv ad n cap :: []) _ _ _
  refine wR <| LM.val (ov_lss rfl rfl) <| nA [(5, _), (23, _), (24, _), (25, _), (26, _)] <| wpM.seq ?_
  refine wpM.condD rfl (fun h2 => ?_) (fun h2 => ?_)
  ·
   refine wpM.skip <| QM.then <| wpM.seq <| wpM.block <| wR ?_
   refine LM.val (ov_idxSN au6 Tryd.underlying35 Tryd.sizeOf70 rfl rfl om) ?_
   refine LM.rdC (om_srEA asm ir Tryd.isAgg70 Tryd.sizeOf70 rfl au3 id) ?_
   refine LM.alloc Tryd.zeroValue70 rfl (fun b8 hb8 => ?_)
   refine LM.stW Tryd.sizeOf70 rfl rfl rfl rfl au7 au8 ?_
   refine nB [(5, _), (8, _), (23, _), (24, _), (25, _)] <| LM.val (ovf 3 rfl rfl rfl rfl) ?_
   refine LM.rd (oml rfl rfl rfl) ?_
   refine LM.val (ov_geq rfl rfl) <| LM.mv rfl ?_
   refine LM.splitD (t := 32) rfl (fun h3 => ?_) (fun h3 => ?_)
   ·
    refine LM.sp 32 rfl rfl rfl <| LM.val (ovf 3 rfl rfl rfl rfl) <| LM.sp 32 rfl rfl rfl ?_
    refine LM.rd (oml rfl rfl rfl) ?_
    refine LM.sp 32 rfl rfl rfl <| LM.val (ov_leq rfl rfl) <| LM.val (ov_pickT rfl rfl) <| nA [(5, _), (8, _), (23, _), (24, _), (25, _), (36, _)] ?_
    refine wpM.condD rfl (fun h4 => ?_) (fun h4 => ?_)
    ·
     refine wpM.region ?_
     refine LM.rd (oml rfl rfl rfl) ?_
     refine LM.val (ovf 3 rfl rfl rfl rfl) ?_
     refine LM.rd (oml rfl rfl rfl) ?_
     refine cE Tryd.func30 rfl (fun w hm hc hg => with_spec _ _ w) ?_
     refine LM.st Tryd.sizeOf34 rfl rfl rfl au5 rfl au8 ?_
     refine nC [(5, _), (23, _), (24, _), (25, _)] <| QM.block_normal ?_
     refine QM.then (wpM.region ?_)
     refine LM.val (ov_add64 rfl rfl om) ?_
     refine LM.mv rfl <| nC [(5, _), (23, _), (24, _), (25, _)] ?_
     refine QM.againK ((j + 1, withS s2 (((xs.drop (p + 1)).take (secO xs p).1).getD j default).a)) ⟨au2, rfl, rfl, rfl, trivial⟩ au1 (fun _ h => h) ?_ ?_
     · have hg := hpg j om; rw [hg] at h3 h4 ⊢; exact ⟨by omega, by rw [innS_succ s om, if_pos (takes_yes h3 h4), hs2]⟩
     · (dsimp only; omega)
    refine wpM.skip <| QM.block_normal ?_
    refine QM.then (wpM.region ?_)
    refine LM.val (ov_add64 rfl rfl om) ?_
    refine LM.mv rfl <| nC [(5, _), (23, _), (24, _), (25, _)] ?_
    refine QM.againK ((j + 1, s2)) ⟨au2, rfl, rfl, rfl, trivial⟩ au1 (fun _ h => h) ?_ ?_
    · have hg := hpg j om; rw [hg] at h3 h4; exact ⟨by omega, by rw [innS_succ s om, if_neg (takes_no (.inr h4)), hs2]⟩
    · (dsimp only; omega)
   refine LM.dr 32 rfl rfl rfl <| LM.dr 32 rfl rfl rfl <| LM.dr 32 rfl rfl rfl <| LM.val (ov_pickF rfl rfl) <| nA [(5, _), (8, _), (23, _), (24, _), (25, _), (36, _)] ?_
   refine wpM.condF rfl ?_
   refine wpM.skip <| QM.block_normal ?_
   refine QM.then (wpM.region ?_)
   refine LM.val (ov_add64 rfl rfl om) ?_
   refine LM.mv rfl <| nC [(5, _), (23, _), (24, _), (25, _)] ?_
   refine QM.againK ((j + 1, s2)) ⟨au2, rfl, rfl, rfl, trivial⟩ au1 (fun _ h => h) ?_ ?_
   · have hg := hpg j om; rw [hg] at h3; exact ⟨by omega, by rw [innS_succ s om, if_neg (takes_no (.inl h3)), hs2]⟩
   · (dsimp only; omega)
  refine wpM.exit <| QM.then_exit <| QM.then_exit <| QM.block_hit <| QM.block_normal ?_
  refine QM.next (s2) (SubM.mem au1) (fun _ h => h) ?_
  · exact ⟨by omega, by rw [hws, if_pos (Classical.not_not.1 h1), ← hs, hs2, show j = (secO xs p).1 by omega]⟩
 ·
  rintro s D0 hD0 ⟨hk, hs⟩
  refine QM.sub (e' := [(5, _)]) ⟨rfl, trivial⟩ ?_
  refine QM.block_normal <| tR ?_
  refine LM.rd (oml rfl rfl rfl) ?_
  refine LM.as rfl <| nA [(4, _)] <| wpM.ret ?_
  refine QM.leaveDF (ds := [D0]) (.inl rfl) [.tmp 4] Tryd.results11 rfl (fun D h => by simp only [List.mem_cons, List.not_mem_nil, or_false] at h; omega) ?_
  intro w' hm' hc'
  refine ⟨?_, hc'⟩; simp only [resV]; rw [hs, secB_len, filN_len, witK_all]; rfl
 ·
  rintro ⟨⟩ D0 hD0 hx
  exact hx.elim
 rintro id ⟨⟩ D0 hD0 hx
 exact hx.elim
theorem rwithin_spec41 {xs : List COp} {fv : Bool} {ad : Option Addr} {n cap : Nat} (lock : Int) (w : World) (hn : n = xs.length) (hl : Sr fO 3 xs (.slice ad n cap) w) (hx20 : xs.length ≤ 20) : Ret Tryd.prog 12 #[pV fv ad n cap, .int .i64 lock] w (fun v w' => v = U (witO xs lock) ∧ Ext w w') := by
 refine Ret.enterM Tryd.func12 rfl Tryd.ntmps12 rfl ([]) (no) (Mem.nil w) ?_
 refine wR ?_
 refine LM.box rfl rfl (fun b2 hb2 => ?_)
 refine LM.as rfl <| nB [(1, _), (2, _)] <| LM.as rfl <| nB [(1, _), (2, _), (5, _)] ?_
 refine LM.rd (om_ldW Tryd.isAgg37 Tryd.sizeOf37 rfl rfl) ?_
 refine LM.cS (oc_call (enters_fn Tryd.func32 kr rfl) rfl) (fun w hm hc hg => rsecs_spec w hn (hl.ext hc) hx20) (fun ad10 n10 cap10 m10 hn10 hs10 => ?_)
 have hfl : filN (tkT xs) xs.length ≤ 20 := (by unfold filN; exact Nat.le_trans (List.length_filter_le _ _) (by rw [List.length_range]; exact hx20)); have hml : ((filP (tkT xs) xs.length).map (fun i => (i, xs))).length = filN (tkT xs) xs.length := (by rw [List.length_map]; rfl); rw [hml] at hn10; have hmg : ∀ k p : Nat, (filP (tkT xs) xs.length)[k]? = some p → ((filP (tkT xs) xs.length).map (fun i => (i, xs))).getD k default = (p, xs) := (fun k p h => map_at h); generalize (filP (tkT xs) xs.length).map (fun i => (i, xs)) = L at *
 refine LM.as rfl <| nA [(1, _), (2, _), (5, _), (6, _)] <| wpM.seq <| wR <| LM.as rfl <| nA [(1, _), (2, _), (5, _), (6, _), (7, _)] <| wpM.block ?_
 refine wpM.loopK0 (α := Nat × BitVec 64) (fun ⟨k, s⟩ => [(5, U s), (7, .int .i64 (k : Nat))]) [(1, _), (2, _), (6, _)] (fun ⟨k, s⟩ => m10 ++ (pB b2 fv ad n cap :: [])) (fun ⟨k, s⟩ => k ≤ filN (tkT xs) xs.length ∧ s = witK xs lock k) (fun ⟨k, s⟩ => filN (tkT xs) xs.length - k) ((0, 0#64)) ⟨au2, au2, rfl, rfl, rfl, trivial⟩ au1 ⟨Nat.zero_le _, rfl⟩ ?_
 rintro ⟨k, s⟩ ⟨hk, hs⟩
 change wpM _ _ _ _ _ _ _ (m10 ++ (pB b2 fv ad n cap :: [])) _ _ _
 refine wpM.seq <| wR <| LM.mv rfl <| LM.mv rfl <| LM.val (ov_len Tryd.underlying71 rfl) <| LM.val (ov_lss rfl rfl) <| nA [(1, _), (2, _), (5, _), (6, _), (7, _), (14, _)] ?_
 refine wpM.condD rfl (fun h1 => ?_) (fun h1 => ?_)
 ·
  obtain ⟨p, hp⟩ : ∃ p, (filP (tkT xs) xs.length)[k]? = some p := ⟨_, List.getElem?_eq_getElem (by rw [← filN_len]; omega)⟩; have hpx : p < xs.length := (filP_mem.1 (List.mem_of_getElem? hp)).1; have hto := secO_le xs p hpx; have hws := witK_succ (lock := lock) hp; unfold witS at hws; have hge := hmg k p hp; have hg1 : (L.getD k default).1 = p := (by rw [hge]); have hg3 : (secO (L.getD k default).2 (L.getD k default).1).1 = (secO xs p).1 := (by rw [hge]); have hga : ((L.getD k default).2.getD (L.getD k default).1 default).a = (xs.getD p default).a := (by rw [hge])
  refine wpM.skip <| QM.then <| wpM.seq <| wpM.block <| wpM.seq <| wR <| LM.mv rfl <| LM.mv rfl ?_
  refine LM.val (ov_idxSN au6 Tryd.underlying71 Tryd.sizeOf68 rfl rfl om) ?_
  refine LM.val (ovf 3 rfl rfl rfl rfl) ?_
  refine LM.rd (om_slE (j := 2) asm ir Tryd.isAgg3 rfl rfl au3 rfl (by rfl)) ?_
  refine LM.mv rfl <| LM.val (ov_neq rfl rfl) <| nA [(1, _), (2, _), (5, _), (6, _), (7, _), (23, _)] ?_
  refine wpM.condD rfl (fun h2 => ?_) (fun h2 => ?_)
  ·
   refine wpM.exit <| QM.then_exit <| QM.block_hit ?_
   refine QM.then (wpM.region ?_)
   refine LM.mv rfl ?_
   refine LM.val (ov_add64 rfl rfl om) ?_
   refine LM.as rfl <| nC [(1, _), (2, _), (5, _), (6, _), (7, _)] ?_
   refine QM.againK ((k + 1, s)) ⟨au2, au2, rfl, rfl, rfl, trivial⟩ au1 (fun _ h => h) ?_ ?_
   · rw [hga] at h2; exact ⟨by omega, by rw [hws, if_neg h2, hs]⟩
   · (dsimp only; omega)
  refine wpM.skip <| tR <| LM.mv rfl <| LM.mv rfl ?_
  refine LM.val (ov_idxSN au6 Tryd.underlying71 Tryd.sizeOf68 rfl rfl om) ?_
  refine LM.val (ovf 3 rfl rfl rfl rfl) ?_
  refine LM.rd (om_slE (j := 0) asm ir Tryd.isAgg3 rfl rfl au3 rfl (by rfl)) ?_
  refine LM.val (ov_add64 rfl rfl om) ?_
  refine LM.as rfl <| nA [(1, _), (2, _), (5, _), (6, _), (7, _), (8, _)] <| wpM.block ?_
  refine wpM.loopK0 (α := Nat × BitVec 64) (fun ⟨j, s2⟩ => [(5, U s2), (8, .int .i64 ((p + 1 + j : Nat)))]) [(1, _), (2, _), (6, _), (7, _)] (fun ⟨j, s2⟩ => m10 ++ (pB b2 fv ad n cap :: [])) (fun ⟨j, s2⟩ => j ≤ (secO xs p).1 ∧ s2 = innS xs (p + 1) j s) (fun ⟨j, s2⟩ => (secO xs p).1 - j) ((0, s)) ⟨au2, au2, rfl, rfl, rfl, rfl, trivial⟩ au1 ⟨Nat.zero_le _, rfl⟩ ?_
  rintro ⟨j, s2⟩ ⟨hj, hs2⟩
  change wpM _ _ _ _ _ _ _ (m10 ++ (pB b2 fv ad n cap :: [])) _ _ _
  refine wpM.seq <| wR <| LM.mv rfl <| LM.mv rfl <| LM.mv rfl ?_
  refine LM.val (ov_idxSN au6 Tryd.underlying71 Tryd.sizeOf68 rfl rfl om) ?_
  refine LM.val (ovf 3 rfl rfl rfl rfl) ?_
  refine LM.rd (om_slE (j := 1) asm ir Tryd.isAgg3 rfl rfl au3 rfl (by rfl)) ?_
  refine LM.val (ov_lss rfl rfl) <| nA [(1, _), (2, _), (5, _), (6, _), (7, _), (8, _), (36, _)] ?_
  refine wpM.condD rfl (fun h3 => ?_) (fun h3 => ?_)
  ·
   refine wpM.skip <| QM.then <| wpM.seq <| wpM.block <| wR <| LM.val (ovf 35 rfl rfl rfl rfl) ?_
   refine LM.rd (oml rfl rfl rfl) ?_
   refine LM.mv rfl ?_
   refine LM.val (ov_idxSN au6 Tryd.underlying35 Tryd.sizeOf70 rfl rfl om) ?_
   refine LM.val (ovf 3 rfl rfl rfl rfl) ?_
   refine LM.rdC (om_srE (j := 0) asm Tryd.isAgg3 rfl rfl au3 (by rfl) (by rfl) id) ?_
   refine LM.val (ov_geq rfl rfl) <| LM.mv rfl ?_
   refine LM.splitD (t := 46) rfl (fun h4 => ?_) (fun h4 => ?_)
   ·
    refine LM.sp 46 rfl rfl rfl <| LM.val (ovf 35 rfl rfl rfl rfl) <| LM.sp 46 rfl rfl rfl ?_
    refine LM.rd (oml rfl rfl rfl) ?_
    refine LM.sp 46 rfl rfl rfl <| LM.mv rfl <| LM.sp 46 rfl rfl rfl ?_
    refine LM.val (ov_idxSN au6 Tryd.underlying35 Tryd.sizeOf70 rfl rfl om) ?_
    refine LM.sp 46 rfl rfl rfl <| LM.val (ovf 3 rfl rfl rfl rfl) <| LM.sp 46 rfl rfl rfl ?_
    refine LM.rdC (om_srE (j := 0) asm Tryd.isAgg3 rfl rfl au3 (by rfl) (by rfl) id) ?_
    refine LM.sp 46 rfl rfl rfl <| LM.val (ov_leq rfl rfl) <| LM.val (ov_pickT rfl rfl) <| nA [(1, _), (2, _), (5, _), (6, _), (7, _), (8, _), (54, _)] ?_
    refine wpM.condD rfl (fun h5 => ?_) (fun h5 => ?_)
    ·
     refine wpM.region ?_
     refine LM.mv rfl <| LM.val (ovf 35 rfl rfl rfl rfl) ?_
     refine LM.rd (oml rfl rfl rfl) ?_
     refine LM.mv rfl ?_
     refine LM.val (ov_idxSN au6 Tryd.underlying35 Tryd.sizeOf70 rfl rfl om) ?_
     refine LM.val (ovf 3 rfl rfl rfl rfl) ?_
     refine LM.rdC (om_srE (j := 1) asm Tryd.isAgg3 rfl rfl au3 (by rfl) (by rfl) id) ?_
     refine cE Tryd.func33 rfl (fun w hm hc hg => rwith_spec _ _ w) ?_
     refine LM.as rfl <| nC [(1, _), (2, _), (5, _), (6, _), (7, _), (8, _)] <| QM.block_normal ?_
     refine QM.then (wpM.region ?_)
     refine LM.mv rfl ?_
     refine LM.val (ov_add64 rfl rfl om) ?_
     refine LM.as rfl <| nC [(1, _), (2, _), (5, _), (6, _), (7, _), (8, _)] ?_
     refine QM.againK ((j + 1, withS s2 (xs.getD (p + 1 + j) default).a)) ⟨au2, au2, rfl, rfl, rfl, rfl, trivial⟩ au1 (fun _ h => h) ?_ ?_
     · exact ⟨by omega, by rw [innS_succ s om, if_pos (takes_yes h4 h5), hs2]⟩
     · (dsimp only; omega)
    refine wpM.skip <| QM.block_normal ?_
    refine QM.then (wpM.region ?_)
    refine LM.mv rfl ?_
    refine LM.val (ov_add64 rfl rfl om) ?_
    refine LM.as rfl <| nC [(1, _), (2, _), (5, _), (6, _), (7, _), (8, _)] ?_
    refine QM.againK ((j + 1, s2)) ⟨au2, au2, rfl, rfl, rfl, rfl, trivial⟩ au1 (fun _ h => h) ?_ ?_
    · exact ⟨by omega, by rw [innS_succ s om, if_neg (takes_no (.inr h5)), hs2]⟩
    · (dsimp only; omega)
   refine LM.dr 46 rfl rfl rfl <| LM.dr 46 rfl rfl rfl <| LM.dr 46 rfl rfl rfl <| LM.dr 46 rfl rfl rfl <| LM.dr 46 rfl rfl rfl <| LM.dr 46 rfl rfl rfl <| LM.dr 46 rfl rfl rfl <| LM.val (ov_pickF rfl rfl) <| nA [(1, _), (2, _), (5, _), (6, _), (7, _), (8, _), (54, _)] ?_
   refine wpM.condF rfl ?_
   refine wpM.skip <| QM.block_normal ?_
   refine QM.then (wpM.region ?_)
   refine LM.mv rfl ?_
   refine LM.val (ov_add64 rfl rfl om) ?_
   refine LM.as rfl <| nC [(1, _), (2, _), (5, _), (6, _), (7, _), (8, _)] ?_
   refine QM.againK ((j + 1, s2)) ⟨au2, au2, rfl, rfl, rfl, rfl, trivial⟩ au1 (fun _ h => h) ?_ ?_
   · exact ⟨by omega, by rw [innS_succ s om, if_neg (takes_no (.inl h4)), hs2]⟩
   · (dsimp only; omega)
  refine wpM.exit <| QM.then_exit <| QM.then_exit <| QM.block_hit <| QM.block_normal ?_
  refine QM.then (wpM.region ?_)
  refine LM.mv rfl ?_
  refine LM.val (ov_add64 rfl rfl om) ?_
  refine LM.as rfl <| nC [(1, _), (2, _), (5, _), (6, _), (7, _)] ?_
  refine QM.againK ((k + 1, s2)) ⟨au2, au2, rfl, rfl, rfl, trivial⟩ au1 (fun _ h => h) ?_ ?_
  · rw [hga] at h2; exact ⟨by omega, by rw [hws, if_pos (Classical.not_not.1 h2), ← hs, hs2, show j = (secO xs p).1 by omega]⟩
  · (dsimp only; omega)
 refine wpM.exit <| QM.then_exit <| QM.then_exit <| QM.block_hit <| tR <| LM.mv rfl <| LM.as rfl <| nA [(4, _)] <| wpM.ret ?_
 refine qL Tryd.results12 rfl fun w' hm' hc' hg' => ?_
 refine ⟨?_, hc'⟩; simp only [resV]; rw [hs, show k = filN (tkT xs) xs.length by omega, filN_len, witK_all]
end Go.Eng
namespace Go.Eng
open Go Go.RowKit
theorem mayS_ps' {s : StC} (h : mayS s = true) : s.ls.length ≤ 8 ∧ s.ps.length ≤ 8 ∧ ∀ p ∈ s.ps, (ckO p.fv p.xs s.ls (s.ps.length : Int)).2 = 0 := by
  unfold mayS winB at h
  simp only [Bool.and_eq_true, decide_eq_true_eq, Bool.not_eq_true'] at h
  refine ⟨h.1.1.2.1, by omega, fun p hp => ?_⟩
  have := List.any_eq_false.1 h.2 p hp
  unfold misB at this
  simpa using this
theorem ckO_zero {fv : Bool} {xs : List COp} {ls : List CLk} {progs : Int} (h : (ckO fv xs ls progs).2 = 0) : mayB xs = true ∧ ∀ j, j < xs.length → fitsO fv xs ls progs j = 0 := by
  unfold ckO at h
  split at h
  · rename_i hm
    refine ⟨hm, fun j hj => ?_⟩
    split at h
    · rename_i i hi
      have := List.find?_some hi
      simp only [decide_eq_true_eq] at this
      exact absurd h this
    · rename_i hn
      have := List.find?_eq_none.1 hn j (List.mem_range.2 hj)
      simpa using this
  · cases h
theorem mayS_take {s : StC} (h : mayS s = true) {p : PgC} (hp : p ∈ s.ps) {o : COp} (ho : o ∈ p.xs) (ht : takesB o.k = true) : 0 ≤ o.a ∧ o.a < s.ls.length := by
  obtain ⟨h1, h2, h3⟩ := mayS_ps' h
  obtain ⟨hm, hf⟩ := ckO_zero (h3 p hp)
  obtain ⟨i, hi, rfl⟩ := List.getElem_of_mem ho
  have e : p.xs[i] = p.xs.getD i default := by rw [List.getD_eq_getElem?_getD, List.getElem?_eq_getElem hi]; rfl
  rw [e] at ht ⊢
  have hr := right_a (may_at hm hi)
  refine ⟨hr.1, ?_⟩
  have := hf i hi
  unfold fitsO at this
  rw [ht] at this
  by_cases q : (p.xs.getD i default).a ≥ s.ls.length
  · rw [decide_eq_true q] at this; simp at this
  · omega
theorem mayS_len {s : StC} (h : mayS s = true) {p : PgC} (hp : p ∈ s.ps) : p.xs.length ≤ 20 := (may_small (ckO_zero ((mayS_ps' h).2.2 p hp)).1).1
theorem grwK_has {s : StC} {i k : Nat} {j : Int} (h : sHas (grwK s i k) j = true) : ∃ p ∈ s.ps, sHas (witO p.xs (i : Nat)) j = true := by
  unfold grwK at h
  have hsub : ∀ p ∈ s.ps.take k, p ∈ s.ps := fun p hp => List.mem_of_mem_take hp
  have key : ∀ (l : List PgC) (g : BitVec 64), sHas (l.foldl (fun g p => g ||| witO p.xs (i : Nat)) g) j = true → sHas g j = true ∨ ∃ p ∈ l, sHas (witO p.xs (i : Nat)) j = true := by
    intro l
    induction l with
    | nil => exact fun g h => .inl h
    | cons p l ih =>
      intro g h
      rw [List.foldl_cons] at h
      rcases ih _ h with q | ⟨p', hp', q⟩
      · rw [sHas_or, Bool.or_eq_true] at q
        rcases q with q | q
        · exact .inl q
        · exact .inr ⟨p, List.mem_cons_self .., q⟩
      · exact .inr ⟨p', List.mem_cons_of_mem _ hp', q⟩
  rcases key _ _ h with q | ⟨p, hp, q⟩
  · rw [sHas_zero] at q; cases q
  · exact ⟨p, hsub p hp, q⟩
theorem grf_ot {s : StC} {i : Nat} (h : i < s.ls.length) : ot (grfO s) i = grwK s i s.ps.length := by
  unfold ot grfO
  rw [List.getD_eq_getElem?_getD, List.getElem?_map, List.getElem?_range h]; rfl
theorem grf_low {s : StC} (h : mayS s = true) : Low (grfO s) := by
  intro i k hk
  rw [grfO_len]
  have hi := ot_in hk
  rw [grfO_len] at hi
  rw [grf_ot hi] at hk
  obtain ⟨p, hp, q⟩ := grwK_has hk
  obtain ⟨o, ho, ht, he⟩ := witO_has q
  have := mayS_take h hp ho ht
  omega
theorem grf_len {s : StC} (h : mayS s = true) : (grfO s).length ≤ 12 := by rw [grfO_len]; have := (mayS_ps' h).1; omega
/-! filled in -/
def webP (s : StC) (i k : Nat) : Gr := (List.range s.ls.length).map (fun j => if j < i then grwK s j s.ps.length else if j = i then grwK s i k else 0#64)
theorem webP_len (s : StC) (i k : Nat) : (webP s i k).length = s.ls.length := by unfold webP; rw [List.length_map, List.length_range]
theorem webP_get {s : StC} {i k j : Nat} (h : j < s.ls.length) : (webP s i k).getD j 0#64 = if j < i then grwK s j s.ps.length else if j = i then grwK s i k else 0#64 := by
  unfold webP
  rw [List.getD_eq_getElem?_getD, List.getElem?_map, List.getElem?_range h]; rfl
theorem grwK_zero (s : StC) (i : Nat) : grwK s i 0 = 0#64 := rfl
theorem gr_ext {G H : Gr} (hl : G.length = H.length) (h : ∀ j, j < G.length → G.getD j 0#64 = H.getD j 0#64) : G = H := by
  apply List.ext_getElem hl
  intro j h1 h2
  have := h j h1
  rw [List.getD_eq_getElem?_getD, List.getD_eq_getElem?_getD, List.getElem?_eq_getElem h1, List.getElem?_eq_getElem h2] at this
  exact this
theorem webP_zero (s : StC) : webP s 0 0 = List.replicate s.ls.length 0#64 := by
  refine gr_ext (by rw [webP_len, List.length_replicate]) (fun j hj => ?_)
  rw [webP_len] at hj
  rw [webP_get hj, if_neg om, List.getD_eq_getElem?_getD, List.getElem?_replicate, if_pos hj]
  split
  · exact grwK_zero s 0
  · rfl
theorem webP_next (s : StC) (i : Nat) : webP s i s.ps.length = webP s (i + 1) 0 := by
  refine gr_ext (by rw [webP_len, webP_len]) (fun j hj => ?_)
  rw [webP_len] at hj
  rw [webP_get hj, webP_get hj]
  by_cases h1 : j < i
  · rw [if_pos h1, if_pos om]
  · by_cases h2 : j = i
    · subst h2; rw [if_neg h1, if_pos rfl, if_pos om]
    · rw [if_neg h1, if_neg h2, if_neg om]
      split
      · exact (grwK_zero s _).symm
      · rfl
theorem webP_set {s : StC} {i k : Nat} (hi : i < s.ls.length) (hk : k < s.ps.length) : (webP s i k).set i ((webP s i k).getD i 0#64 ||| witO (s.ps.getD k default).xs (i : Nat)) = webP s i (k + 1) := by
  refine gr_ext (by rw [List.length_set, webP_len, webP_len]) (fun j hj => ?_)
  rw [List.length_set, webP_len] at hj
  rw [webP_get hj, webP_get hi, if_neg om, if_pos rfl, List.getD_eq_getElem?_getD, List.getElem?_set]
  by_cases h2 : i = j
  · subst h2; rw [if_pos rfl, if_pos (by rw [webP_len]; exact hi), if_neg om, if_pos rfl, grwK_succ hk]; rfl
  · have h3 : ¬ j = i := fun q => h2 q.symm
    rw [if_neg h2, ← List.getD_eq_getElem?_getD, webP_get hj]; simp only [h3, if_false]
theorem webP_end (s : StC) : webP s s.ls.length 0 = grfO s := by
  refine gr_ext (by rw [webP_len, grfO_len]) (fun j hj => ?_)
  rw [webP_len] at hj
  rw [webP_get hj, if_pos hj]
  exact (grf_ot hj).symm
/-! what a setup has -/
def webO (s : StC) : Gr := if mayS s = true then grfO s else []
def okO (s : StC) : Bool := mayS s && ordB (webO s)
def ordW (s : StC) : List Int := if okO s = true then ordO (webO s) else []
def depW (s : StC) : Nat := if okO s = true then dpt (webO s) else 0
def cycW (s : StC) : List Int := if mayS s = true ∧ ordB (webO s) = false then cycO (webO s) else []
theorem webO_yes {s : StC} (h : mayS s = true) : webO s = grfO s := if_pos h
theorem webO_no {s : StC} (h : mayS s = false) : webO s = [] := if_neg (by rw [h]; simp)
theorem webO_low (s : StC) : Low (webO s) := by
  cases h : mayS s with
  | true => rw [webO_yes h]; exact grf_low h
  | false => rw [webO_no h]; intro i k hk; have := ot_in hk; cases this
theorem webO_len (s : StC) : (webO s).length ≤ 12 := by
  cases h : mayS s with
  | true => rw [webO_yes h]; exact grf_len h
  | false => rw [webO_no h]; exact Nat.zero_le _
def edW (G : Gr) : List Ed := edN G G.length
end Go.Eng
