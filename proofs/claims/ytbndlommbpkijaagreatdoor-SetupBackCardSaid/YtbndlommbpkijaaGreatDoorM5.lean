/- The walks of setups that may be. No condition. -/
import Derived.Test.YtbndlommbpkijaaGreatDoorM4
import Derived.Test.YtbndlommbpkijaaGreatDoorM2
import Derived.Test.YtbndlommbpkijaaGreatDoorM3
set_option linter.unusedVariables false
set_option linter.unusedSimpArgs false
namespace Go.Eng
open Go Go.Proofs Go.RowKit

abbrev stB (b : Nat) (s : StV) : Nat × Obj := (b, sO s.cr s.gr s.ga s.gn s.gc s.la s.ln s.lc s.pa s.pn s.pc)
def headB (s : StC) : Bool := winB s.cr 4 && (winB s.gr 8 && (winB (s.gs.length : Int) 4 && (decide (s.ls.length ≤ 8) && winB (s.ps.length : Int) 8)))
theorem mayS_split (s : StC) : mayS s = (headB s && (s.gs.all (fun n => winB n 16) && (s.ls.all lokB && !s.ps.any (misB s.ls s.ps.length)))) := by
  unfold mayS headB
  ac_rfl
theorem all_ff {α : Type} {p : α → Bool} {xs : List α} {i : Nat} (d : α) (h : i < xs.length) (hp : p (xs.getD i d) = false) : xs.all p = false := by
  cases hm : xs.all p with
  | false => rfl
  | true => rw [List.all_eq_true.1 hm _ (List.mem_of_getElem? (getq d h))] at hp; cases hp
theorem any_tt {α : Type} {p : α → Bool} {xs : List α} {i : Nat} (d : α) (h : i < xs.length) (hp : p (xs.getD i d) = true) : xs.any p = true := List.any_eq_true.2 ⟨_, List.mem_of_getElem? (getq d h), hp⟩
theorem head_eq {s : StV} (h1 : s.gn = s.gs.length) (h2 : s.ln = s.ls.length) (h3 : s.pn = s.ps.length) : headB s.C = !(!winB s.cr 4 || (!winB s.gr 8 || (!winB (s.gn : Int) 4 || (decide ((s.ln : Int) > 8) || !winB (s.pn : Int) 8)))) := by
  unfold headB StV.C
  simp only [List.length_map, ← h1, ← h2, ← h3]
  rw [show decide (s.ln ≤ 8) = !decide ((s.ln : Int) > 8) by rw [← decide_not]; exact decide_eq_decide.2 (by omega)]
  cases winB s.cr 4 <;> cases winB s.gr 8 <;> cases winB (s.gn : Int) 4 <;> cases decide ((s.ln : Int) > 8) <;> cases winB (s.pn : Int) 8 <;> rfl
/-- is a setup small? -/
def smallS (s : StC) : Bool := decide (s.gs.length ≤ 12) && decide (s.ls.length ≤ 12) && decide (s.ps.length ≤ 12) && s.ps.all (fun p => decide (p.xs.length ≤ 20))
theorem mayS_head {s : StC} (h : headB s = false) : mayS s = false := by rw [mayS_split, h]; rfl
theorem mayS_gs {s : StC} (h : s.gs.all (fun n => winB n 16) = false) : mayS s = false := by rw [mayS_split, h]; simp
theorem mayS_ls {s : StC} (h : s.ls.all lokB = false) : mayS s = false := by rw [mayS_split, h]; simp
theorem mayS_ps {s : StC} (h : s.ps.any (misB s.ls s.ps.length) = true) : mayS s = false := by rw [mayS_split, h]; simp
theorem lok_eq {x : CLk} : lokB x = !((!winB x.sl 16 || !winB x.cr 32) || ((x.sh && (!winB x.rd 16 || !winB x.wr 16)) || (!x.sh && (decide (x.rd ≠ 0) || decide (x.wr ≠ 0))))) := by
  unfold lokB
  cases x.sh <;> cases winB x.sl 16 <;> cases winB x.cr 32 <;> simp
set_option maxRecDepth 100000 in
theorem rwithin_spec (n most : Int) (w : World) : Ret Tryz.prog 59 #[.int .i64 n, .int .i64 most] w (fun v w' => v = .bool (winB n most) ∧ Ext w w') := by
 refine Ret.enterM (l := [.int .i64 n, .int .i64 most]) Tryz.func59 rfl Tryz.ntmps59 rfl ([]) (no) (Mem.nil w) ?_
 refine wpM.seq ?_
 refine wpM.region ?_
 refine LM.val (ov_assign rfl) ?_
 refine LM.nil ?_
 refine QM.sub (e' := [(0, _), (1, _)]) ⟨rfl, rfl, trivial⟩ ?_
 refine QM.then ?_
 refine wpM.seq ?_
 refine wpM.region ?_
 refine LM.val (ov_move rfl) ?_
 refine LM.val (ov_geq rfl rfl) ?_
 refine LM.val (ov_move rfl) ?_
 refine LM.splitD (t := 7) rfl (fun h1 => ?_) (fun h1 => ?_)
 ·
  refine LM.strip (t := 7) rfl rfl rfl ?_
  refine LM.val (ov_move rfl) ?_
  refine LM.strip (t := 7) rfl rfl rfl ?_
  refine LM.val (ov_move rfl) ?_
  refine LM.strip (t := 7) rfl rfl rfl ?_
  refine LM.val (ov_leq rfl rfl) ?_
  refine LM.val (ov_pickT rfl rfl) ?_
  refine LM.val (ov_assign rfl) ?_
  refine LM.nil ?_
  refine QM.sub (e' := [(4, _)]) ⟨rfl, trivial⟩ ?_
  refine QM.then ?_
  refine wpM.ret ?_
  refine QM.leave (.inl rfl) [.tmp 4] Tryz.results59 rfl ?_
  intro w' hm' hc' hg'
  refine ⟨?_, hc'⟩; simp only [resV, winB]; first | (rw [decide_eq_true (show 1 ≤ n by omega), Bool.true_and]; done) | (rw [decide_eq_false (show ¬ 1 ≤ n by omega), Bool.false_and]; done)
 ·
  refine LM.drop (t := 7) rfl rfl rfl ?_
  refine LM.drop (t := 7) rfl rfl rfl ?_
  refine LM.drop (t := 7) rfl rfl rfl ?_
  refine LM.val (ov_pickF rfl rfl) ?_
  refine LM.val (ov_assign rfl) ?_
  refine LM.nil ?_
  refine QM.sub (e' := [(4, _)]) ⟨rfl, trivial⟩ ?_
  refine QM.then ?_
  refine wpM.ret ?_
  refine QM.leave (.inl rfl) [.tmp 4] Tryz.results59 rfl ?_
  intro w' hm' hc' hg'
  refine ⟨?_, hc'⟩; simp only [resV, winB]; first | (rw [decide_eq_true (show 1 ≤ n by omega), Bool.true_and]; done) | (rw [decide_eq_false (show ¬ 1 ≤ n by omega), Bool.false_and]; done)

set_option maxRecDepth 100000 in
theorem swithin_spec (n most : Int) (w : World) : Ret Tryz.prog 48 #[.int .i64 n, .int .i64 most] w (fun v w' => v = .bool (winB n most) ∧ Ext w w') := by
 refine Ret.enterM (l := [.int .i64 n, .int .i64 most]) Tryz.func48 rfl Tryz.ntmps48 rfl ([]) (no) (Mem.nil w) ?_
 refine wpM.seq ?_
 refine wpM.region ?_
 refine LM.val (ov_assign rfl) ?_
 refine LM.nil ?_
 refine QM.sub (e' := [(0, _), (1, _)]) ⟨rfl, rfl, trivial⟩ ?_
 refine QM.then ?_
 refine wpM.seq ?_
 refine wpM.region ?_
 refine LM.val (ov_move rfl) ?_
 refine LM.val (ov_geq rfl rfl) ?_
 refine LM.val (ov_move rfl) ?_
 refine LM.splitD (t := 7) rfl (fun h1 => ?_) (fun h1 => ?_)
 ·
  refine LM.strip (t := 7) rfl rfl rfl ?_
  refine LM.val (ov_move rfl) ?_
  refine LM.strip (t := 7) rfl rfl rfl ?_
  refine LM.val (ov_move rfl) ?_
  refine LM.strip (t := 7) rfl rfl rfl ?_
  refine LM.val (ov_leq rfl rfl) ?_
  refine LM.val (ov_pickT rfl rfl) ?_
  refine LM.val (ov_assign rfl) ?_
  refine LM.nil ?_
  refine QM.sub (e' := [(4, _)]) ⟨rfl, trivial⟩ ?_
  refine QM.then ?_
  refine wpM.ret ?_
  refine QM.leave (.inl rfl) [.tmp 4] Tryz.results48 rfl ?_
  intro w' hm' hc' hg'
  refine ⟨?_, hc'⟩; simp only [resV, winB]; first | (rw [decide_eq_true (show 1 ≤ n by omega), Bool.true_and]; done) | (rw [decide_eq_false (show ¬ 1 ≤ n by omega), Bool.false_and]; done)
 ·
  refine LM.drop (t := 7) rfl rfl rfl ?_
  refine LM.drop (t := 7) rfl rfl rfl ?_
  refine LM.drop (t := 7) rfl rfl rfl ?_
  refine LM.val (ov_pickF rfl rfl) ?_
  refine LM.val (ov_assign rfl) ?_
  refine LM.nil ?_
  refine QM.sub (e' := [(4, _)]) ⟨rfl, trivial⟩ ?_
  refine QM.then ?_
  refine wpM.ret ?_
  refine QM.leave (.inl rfl) [.tmp 4] Tryz.results48 rfl ?_
  intro w' hm' hc' hg'
  refine ⟨?_, hc'⟩; simp only [resV, winB]; first | (rw [decide_eq_true (show 1 ≤ n by omega), Bool.true_and]; done) | (rw [decide_eq_false (show ¬ 1 ≤ n by omega), Bool.false_and]; done)

set_option maxRecDepth 100000 in
theorem small12_spec {s : StV} (w : World) (hI : s.In w) : Ret Tryz.prog 15 #[s.val] w (fun v w' => v = .bool (smallS s.C) ∧ Ext w w') := by
 have hgn := hI.hgn; have hln := hI.hln; have hpn := hI.hpn; have hp := hI.hp
 refine Ret.enterM (l := [s.val]) Tryz.func15 rfl Tryz.ntmps15 rfl ([]) (no) (Mem.nil w) ?_
 refine wpM.seq ?_
 refine wpM.region ?_
 refine LM.box rfl rfl (fun b1 hb1 => ?_)
 refine LM.val (ov_assign rfl) ?_
 refine LM.nil ?_
 refine QM.sub (e' := [(1, _)]) ⟨rfl, trivial⟩ ?_
 refine QM.then ?_
 refine wpM.seq ?_
 refine wpM.seq ?_
 refine wpM.region ?_
 refine LM.val (ov_field Tryz.underlying30 rfl Tryz.sizeOf26 rfl (k := 2) rfl rfl) ?_
 first | refine LM.rd (om_ld Tryz.isAgg26 rfl rfl) ?_
 refine LM.val (ov_len Tryz.underlying26 rfl) ?_
 refine LM.val (ov_gtr rfl rfl) ?_
 refine LM.val (ov_move rfl) ?_
 refine LM.splitD (t := 9) rfl (fun h1 => ?_) (fun h1 => ?_)
 ·
  refine LM.drop (t := 9) rfl rfl rfl ?_
  refine LM.drop (t := 9) rfl rfl rfl ?_
  refine LM.drop (t := 9) rfl rfl rfl ?_
  refine LM.drop (t := 9) rfl rfl rfl ?_
  refine LM.val (ov_pickT rfl rfl) ?_
  refine LM.val (ov_move rfl) ?_
  refine LM.drop (t := 15) rfl rfl rfl ?_
  refine LM.drop (t := 15) rfl rfl rfl ?_
  refine LM.drop (t := 15) rfl rfl rfl ?_
  refine LM.drop (t := 15) rfl rfl rfl ?_
  refine LM.val (ov_pickT rfl rfl) ?_
  refine LM.nil ?_
  refine QM.sub (e' := [(1, _), (20, _)]) ⟨rfl, rfl, trivial⟩ ?_
  refine QM.then ?_
  refine wpM.condT rfl ?_
  refine wpM.seq ?_
  refine wpM.region ?_
  refine LM.val (ov_assign rfl) ?_
  refine LM.nil ?_
  refine QM.sub (e' := [(2, _)]) ⟨rfl, trivial⟩ ?_
  refine QM.then ?_
  refine wpM.ret ?_
  refine QM.then_ret ?_
  refine QM.leave (.inl rfl) [.tmp 2] Tryz.results15 rfl ?_
  intro w' hm' hc' hg'
  refine ⟨?_, hc'⟩; show Value.bool false = Value.bool (smallS s.C); unfold smallS; rw [decide_eq_false (show ¬ s.C.gs.length ≤ 12 by show ¬ s.gs.length ≤ 12; omega)]; rfl
 ·
  refine LM.strip (t := 9) rfl rfl rfl ?_
  refine LM.val (ov_field Tryz.underlying30 rfl Tryz.sizeOf27 rfl (k := 3) rfl rfl) ?_
  refine LM.strip (t := 9) rfl rfl rfl ?_
  first | refine LM.rd (om_ld Tryz.isAgg27 rfl rfl) ?_
  refine LM.strip (t := 9) rfl rfl rfl ?_
  refine LM.val (ov_len Tryz.underlying27 rfl) ?_
  refine LM.strip (t := 9) rfl rfl rfl ?_
  refine LM.val (ov_gtr rfl rfl) ?_
  refine LM.val (ov_pickF rfl rfl) ?_
  refine LM.val (ov_move rfl) ?_
  refine LM.splitD (t := 15) rfl (fun h2 => ?_) (fun h2 => ?_)
  ·
   refine LM.drop (t := 15) rfl rfl rfl ?_
   refine LM.drop (t := 15) rfl rfl rfl ?_
   refine LM.drop (t := 15) rfl rfl rfl ?_
   refine LM.drop (t := 15) rfl rfl rfl ?_
   refine LM.val (ov_pickT rfl rfl) ?_
   refine LM.nil ?_
   refine QM.sub (e' := [(1, _), (20, _)]) ⟨rfl, rfl, trivial⟩ ?_
   refine QM.then ?_
   refine wpM.condT rfl ?_
   refine wpM.seq ?_
   refine wpM.region ?_
   refine LM.val (ov_assign rfl) ?_
   refine LM.nil ?_
   refine QM.sub (e' := [(2, _)]) ⟨rfl, trivial⟩ ?_
   refine QM.then ?_
   refine wpM.ret ?_
   refine QM.then_ret ?_
   refine QM.leave (.inl rfl) [.tmp 2] Tryz.results15 rfl ?_
   intro w' hm' hc' hg'
   refine ⟨?_, hc'⟩; show Value.bool false = Value.bool (smallS s.C); unfold smallS; rw [decide_eq_false (show ¬ s.C.ls.length ≤ 12 by show ¬ s.ls.length ≤ 12; omega)]; simp
  ·
   refine LM.strip (t := 15) rfl rfl rfl ?_
   refine LM.val (ov_field Tryz.underlying30 rfl Tryz.sizeOf28 rfl (k := 4) rfl rfl) ?_
   refine LM.strip (t := 15) rfl rfl rfl ?_
   first | refine LM.rd (om_ld Tryz.isAgg28 rfl rfl) ?_
   refine LM.strip (t := 15) rfl rfl rfl ?_
   refine LM.val (ov_len Tryz.underlying28 rfl) ?_
   refine LM.strip (t := 15) rfl rfl rfl ?_
   refine LM.val (ov_gtr rfl rfl) ?_
   refine LM.val (ov_pickF rfl rfl) ?_
   refine LM.nil ?_
   refine QM.sub (e' := [(1, _), (20, _)]) ⟨rfl, rfl, trivial⟩ ?_
   refine QM.then ?_
   refine wpM.condD rfl (fun h3 => ?_) (fun h3 => ?_)
   ·
    refine wpM.seq ?_
    refine wpM.region ?_
    refine LM.val (ov_assign rfl) ?_
    refine LM.nil ?_
    refine QM.sub (e' := [(2, _)]) ⟨rfl, trivial⟩ ?_
    refine QM.then ?_
    refine wpM.ret ?_
    refine QM.then_ret ?_
    refine QM.leave (.inl rfl) [.tmp 2] Tryz.results15 rfl ?_
    intro w' hm' hc' hg'
    refine ⟨?_, hc'⟩; show Value.bool false = Value.bool (smallS s.C); unfold smallS; rw [decide_eq_false (show ¬ s.C.ps.length ≤ 12 by show ¬ (s.ps.map PgV.c).length ≤ 12; rw [List.length_map]; omega)]; simp
   ·
    refine wpM.skip ?_
    refine QM.then ?_
    refine wpM.seq ?_
    refine wpM.seq ?_
    refine wpM.region ?_
    refine LM.val (ov_field Tryz.underlying30 rfl Tryz.sizeOf28 rfl (k := 4) rfl rfl) ?_
    first | refine LM.rd (om_ld Tryz.isAgg28 rfl rfl) ?_
    refine LM.val (ov_len Tryz.underlying28 rfl) ?_
    refine LM.val (ov_move rfl) ?_
    refine LM.nil ?_
    refine QM.sub (e' := [(22, _), (23, _), (24, _)]) ⟨rfl, rfl, rfl, trivial⟩ ?_
    refine QM.then ?_
    refine wpM.block ?_
    refine wpM.loopK0 (α := Nat) (fun i => [(24, .int .i64 (i : Nat))]) [(22, _), (23, _)] (fun i => stB b1 s :: []) (fun i => i ≤ s.ps.length ∧ (s.ps.take i).all (fun p => decide (p.c.xs.length ≤ 20)) = true) (fun i => s.ps.length - i) (0) ⟨(by first | rfl | exact lk rfl (by congr 1; omega) | exact lk rfl (by simp)), rfl, rfl, trivial⟩ (by (repeat' (first | exact SubM.nil _ | refine SubM.cons rfl ?_ | refine SubM.app ?_))) ⟨Nat.zero_le _, rfl⟩ ?_
    rintro i ⟨hi, ha⟩
    change wpM _ _ _ _ _ _ _ (stB b1 s :: []) _ _ _
    refine wpM.seq ?_
    refine wpM.region ?_
    refine LM.val (ov_lss rfl rfl) ?_
    refine LM.nil ?_
    refine QM.sub (e' := [(22, _), (23, _), (24, _), (25, _)]) ⟨rfl, rfl, rfl, rfl, trivial⟩ ?_
    refine QM.then ?_
    refine wpM.seq ?_
    refine wpM.condD rfl (fun h4 => ?_) (fun h4 => ?_)
    ·
     have hpi : (s.ps.getD i default).In w := hI.ops _ (List.mem_of_getElem? (getq default (by omega))); have hpl := hpi.1
     refine wpM.skip ?_
     refine QM.then ?_
     refine wpM.seq ?_
     refine wpM.block ?_
     refine wpM.seq ?_
     refine wpM.region ?_
     refine LM.val (ov_idxSN (by first | exact Sr.spt (by assumption) | exact Sl.spt (by assumption)) Tryz.underlying28 Tryz.sizeOf87 rfl rfl (by omega)) ?_
     first | refine LM.rd (om_slA (by assumption) (by intro _; rfl) Tryz.isAgg87 Tryz.sizeOf87 rfl (by exact getq default (by first | omega | (simp only [List.length_set, List.length_append, List.length_cons, List.length_nil]; omega)))) ?_ | refine LM.rdC (om_srEA (by assumption) (by intro _; rfl) Tryz.isAgg87 Tryz.sizeOf87 rfl (by exact getq default (by first | omega | (simp only [List.length_set, List.length_append, List.length_cons, List.length_nil]; omega))) id) ?_ | refine LM.rd (om_ldW Tryz.isAgg87 Tryz.sizeOf87 rfl rfl) ?_ | refine LM.rd (om_ldA Tryz.isAgg87 Tryz.sizeOf87 rfl (vs := [_, _]) rfl ⟨rfl, rfl, trivial⟩) ?_
     refine LM.alloc Tryz.zeroValue87 rfl (fun b4 hb4 => ?_)
     refine LM.stW Tryz.sizeOf87 rfl rfl rfl rfl (by first | rfl | decide | (simp; done)) (fun hlt => absurd hlt (by omega)) ?_
     refine LM.nil ?_
     refine QM.sub (e' := [(4, _), (22, _), (23, _), (24, _)]) ⟨rfl, rfl, rfl, rfl, trivial⟩ ?_
     refine QM.then ?_
     refine wpM.seq ?_
     refine wpM.region ?_
     refine LM.val (ov_field Tryz.underlying87 rfl Tryz.sizeOf85 rfl (k := 1) rfl rfl) ?_
     first | refine LM.rd (om_ld Tryz.isAgg85 rfl rfl) ?_
     refine LM.val (ov_len Tryz.underlying85 rfl) ?_
     refine LM.val (ov_gtr rfl rfl) ?_
     refine LM.nil ?_
     refine QM.sub (e' := [(22, _), (23, _), (24, _), (31, _)]) ⟨rfl, rfl, rfl, rfl, trivial⟩ ?_
     refine QM.then ?_
     refine wpM.condD rfl (fun h5 => ?_) (fun h5 => ?_)
     ·
      refine wpM.seq ?_
      refine wpM.region ?_
      refine LM.val (ov_assign rfl) ?_
      refine LM.nil ?_
      refine QM.sub (e' := [(2, _)]) ⟨rfl, trivial⟩ ?_
      refine QM.then ?_
      refine wpM.ret ?_
      refine QM.block_ret ?_
      refine QM.then_ret ?_
      refine QM.then_ret ?_
      refine QM.block_ret ?_
      refine QM.then_ret ?_
      refine QM.leave (.inl rfl) [.tmp 2] Tryz.results15 rfl ?_
      intro w' hm' hc' hg'
      refine ⟨?_, hc'⟩; show Value.bool false = Value.bool (smallS s.C); unfold smallS; rw [all_ff (xs := s.C.ps) (i := i) default (by show i < (s.ps.map PgV.c).length; rw [List.length_map]; omega) (by show decide (((s.ps.map PgV.c).getD i default).xs.length ≤ 20) = false; rw [map_getD]; exact decide_eq_false (by omega))]; simp
     ·
      refine wpM.skip ?_
      refine QM.block_normal ?_
      refine QM.then ?_
      refine wpM.region ?_
      refine LM.val (ov_add64 rfl rfl (by omega)) ?_
      refine LM.val (ov_move rfl) ?_
      refine LM.nil ?_
      refine QM.sub (e' := [(22, _), (23, _), (24, _)]) ⟨rfl, rfl, rfl, trivial⟩ ?_
      refine QM.againK (i + 1) ⟨(by first | rfl | exact lk rfl (by congr 1; omega) | exact lk rfl (by simp)), rfl, rfl, trivial⟩ (by (repeat' (first | exact SubM.nil _ | refine SubM.cons rfl ?_ | refine SubM.app ?_))) (fun _ h => h) ?_ ?_
      · exact ⟨by omega, by rw [all_snoc default (by omega), ha, Bool.true_and]; exact decide_eq_true (by omega)⟩
      · omega
    ·
     refine wpM.exit ?_
     refine QM.then_exit ?_
     refine QM.then_exit ?_
     refine QM.block_hit ?_
     refine QM.then ?_
     refine wpM.seq ?_
     refine wpM.region ?_
     refine LM.val (ov_assign rfl) ?_
     refine LM.nil ?_
     refine QM.sub (e' := [(2, _)]) ⟨rfl, trivial⟩ ?_
     refine QM.then ?_
     refine wpM.ret ?_
     refine QM.leave (.inl rfl) [.tmp 2] Tryz.results15 rfl ?_
     intro w' hm' hc' hg'
     refine ⟨?_, hc'⟩; have hil : i = s.ps.length := (by omega); subst hil; rw [List.take_length] at ha; show Value.bool true = Value.bool (smallS s.C); unfold smallS; rw [decide_eq_true (show s.C.gs.length ≤ 12 by show s.gs.length ≤ 12; omega), decide_eq_true (show s.C.ls.length ≤ 12 by show s.ls.length ≤ 12; omega), decide_eq_true (show s.C.ps.length ≤ 12 by show (s.ps.map PgV.c).length ≤ 12; rw [List.length_map]; omega), show s.C.ps.all (fun p => decide (p.xs.length ≤ 20)) = true by show (s.ps.map PgV.c).all _ = true; rw [List.all_map]; exact ha]; rfl

set_option maxRecDepth 100000 in
set_option maxHeartbeats 2000000 in
theorem rmayS_spec {s : StV} (w : World) (hI : s.In w) : Ret Tryz.prog 19 #[s.val] w (fun v w' => v = .bool (mayS s.C) ∧ Ext w w') := by
 have hgn := hI.hgn; have hln := hI.hln; have hpn := hI.hpn; have hp := hI.hp; have hg := hI.hg; have hl := hI.hl; have hcl : (s.ps.map PgV.c).length = s.ps.length := List.length_map ..
 refine Ret.enterM (l := [s.val]) Tryz.func19 rfl Tryz.ntmps19 rfl ([]) (no) (Mem.nil w) ?_
 refine wpM.seq ?_
 refine wpM.region ?_
 refine LM.box rfl rfl (fun b1 hb1 => ?_)
 refine LM.val (ov_assign rfl) ?_
 refine LM.nil ?_
 refine QM.sub (e' := [(1, _)]) ⟨rfl, trivial⟩ ?_
 refine QM.then ?_
 refine wpM.seq ?_
 refine wpM.seq ?_
 refine wpM.joinK (α := Bool) (fun q => [(38, .bool q)]) [(1, _)] (fun q => stB b1 s :: []) (fun q => q = (!winB s.cr 4 || (!winB s.gr 8 || (!winB (s.gn : Int) 4 || (decide ((s.ln : Int) > 8) || !winB (s.pn : Int) 8))))) ⟨rfl, trivial⟩ ?_ ?_
 ·
  refine wpM.region ?_
  refine LM.val (ov_field Tryz.underlying30 rfl Tryz.sizeOf3 rfl (k := 0) rfl rfl) ?_
  first | refine LM.rd (om_ld Tryz.isAgg3 rfl rfl) ?_
  refine LM.callE (oc_call (enters_fn Tryz.func59 (by kernel_rfl) rfl) rfl) (fun w hm hc hg => rwithin_spec _ _ w) ?_
  first | refine LM.val (ov_notD rfl) ?_ | refine LM.val (ov_not rfl) ?_
  refine LM.val (ov_move rfl) ?_
  first | refine LM.splitD (t := 13) rfl (fun h1 => ?_) (fun h1 => ?_) | refine LM.splitB (t := 13) rfl (fun h1 => ?_) (fun h1 => ?_)
  ·
   refine LM.drop (t := 13) rfl rfl rfl ?_
   refine LM.drop (t := 13) rfl rfl rfl ?_
   refine LM.drop (t := 13) rfl rfl rfl ?_
   refine LM.drop (t := 13) rfl rfl rfl ?_
   refine LM.val (ov_pickT rfl rfl) ?_
   refine LM.val (ov_move rfl) ?_
   refine LM.drop (t := 19) rfl rfl rfl ?_
   refine LM.drop (t := 19) rfl rfl rfl ?_
   refine LM.drop (t := 19) rfl rfl rfl ?_
   refine LM.drop (t := 19) rfl rfl rfl ?_
   refine LM.drop (t := 19) rfl rfl rfl ?_
   refine LM.val (ov_pickT rfl rfl) ?_
   refine LM.val (ov_move rfl) ?_
   refine LM.drop (t := 26) rfl rfl rfl ?_
   refine LM.drop (t := 26) rfl rfl rfl ?_
   refine LM.drop (t := 26) rfl rfl rfl ?_
   refine LM.drop (t := 26) rfl rfl rfl ?_
   refine LM.val (ov_pickT rfl rfl) ?_
   refine LM.val (ov_move rfl) ?_
   refine LM.drop (t := 32) rfl rfl rfl ?_
   refine LM.drop (t := 32) rfl rfl rfl ?_
   refine LM.drop (t := 32) rfl rfl rfl ?_
   refine LM.drop (t := 32) rfl rfl rfl ?_
   refine LM.drop (t := 32) rfl rfl rfl ?_
   refine LM.val (ov_pickT rfl rfl) ?_
   refine LM.nil ?_
   refine QM.sub (e' := [(1, _), (38, _)]) ⟨rfl, rfl, trivial⟩ ?_
   refine QM.meetK (_) ⟨(by first | rfl | exact lk rfl (by congr 1; omega) | exact lk rfl (by simp)), rfl, trivial⟩ (by (repeat' (first | exact SubM.nil _ | refine SubM.cons rfl ?_ | refine SubM.app ?_))) ?_
   · (simp [h1, -List.getD_eq_getElem?_getD]; done)
  ·
   refine LM.strip (t := 13) rfl rfl rfl ?_
   refine LM.val (ov_field Tryz.underlying30 rfl Tryz.sizeOf3 rfl (k := 1) rfl rfl) ?_
   refine LM.strip (t := 13) rfl rfl rfl ?_
   first | refine LM.rd (om_ld Tryz.isAgg3 rfl rfl) ?_
   refine LM.strip (t := 13) rfl rfl rfl ?_
   refine LM.callE (oc_call (enters_fn Tryz.func59 (by kernel_rfl) rfl) rfl) (fun w hm hc hg => rwithin_spec _ _ w) ?_
   refine LM.strip (t := 13) rfl rfl rfl ?_
   first | refine LM.val (ov_notD rfl) ?_ | refine LM.val (ov_not rfl) ?_
   refine LM.val (ov_pickF rfl rfl) ?_
   refine LM.val (ov_move rfl) ?_
   first | refine LM.splitD (t := 19) rfl (fun h2 => ?_) (fun h2 => ?_) | refine LM.splitB (t := 19) rfl (fun h2 => ?_) (fun h2 => ?_)
   ·
    refine LM.drop (t := 19) rfl rfl rfl ?_
    refine LM.drop (t := 19) rfl rfl rfl ?_
    refine LM.drop (t := 19) rfl rfl rfl ?_
    refine LM.drop (t := 19) rfl rfl rfl ?_
    refine LM.drop (t := 19) rfl rfl rfl ?_
    refine LM.val (ov_pickT rfl rfl) ?_
    refine LM.val (ov_move rfl) ?_
    refine LM.drop (t := 26) rfl rfl rfl ?_
    refine LM.drop (t := 26) rfl rfl rfl ?_
    refine LM.drop (t := 26) rfl rfl rfl ?_
    refine LM.drop (t := 26) rfl rfl rfl ?_
    refine LM.val (ov_pickT rfl rfl) ?_
    refine LM.val (ov_move rfl) ?_
    refine LM.drop (t := 32) rfl rfl rfl ?_
    refine LM.drop (t := 32) rfl rfl rfl ?_
    refine LM.drop (t := 32) rfl rfl rfl ?_
    refine LM.drop (t := 32) rfl rfl rfl ?_
    refine LM.drop (t := 32) rfl rfl rfl ?_
    refine LM.val (ov_pickT rfl rfl) ?_
    refine LM.nil ?_
    refine QM.sub (e' := [(1, _), (38, _)]) ⟨rfl, rfl, trivial⟩ ?_
    refine QM.meetK (_) ⟨(by first | rfl | exact lk rfl (by congr 1; omega) | exact lk rfl (by simp)), rfl, trivial⟩ (by (repeat' (first | exact SubM.nil _ | refine SubM.cons rfl ?_ | refine SubM.app ?_))) ?_
    · (simp [h1, h2, -List.getD_eq_getElem?_getD]; done)
   ·
    refine LM.strip (t := 19) rfl rfl rfl ?_
    refine LM.val (ov_field Tryz.underlying30 rfl Tryz.sizeOf26 rfl (k := 2) rfl rfl) ?_
    refine LM.strip (t := 19) rfl rfl rfl ?_
    first | refine LM.rd (om_ld Tryz.isAgg26 rfl rfl) ?_
    refine LM.strip (t := 19) rfl rfl rfl ?_
    refine LM.val (ov_len Tryz.underlying26 rfl) ?_
    refine LM.strip (t := 19) rfl rfl rfl ?_
    refine LM.callE (oc_call (enters_fn Tryz.func59 (by kernel_rfl) rfl) rfl) (fun w hm hc hg => rwithin_spec _ _ w) ?_
    refine LM.strip (t := 19) rfl rfl rfl ?_
    first | refine LM.val (ov_notD rfl) ?_ | refine LM.val (ov_not rfl) ?_
    refine LM.val (ov_pickF rfl rfl) ?_
    refine LM.val (ov_move rfl) ?_
    first | refine LM.splitD (t := 26) rfl (fun h3 => ?_) (fun h3 => ?_) | refine LM.splitB (t := 26) rfl (fun h3 => ?_) (fun h3 => ?_)
    ·
     refine LM.drop (t := 26) rfl rfl rfl ?_
     refine LM.drop (t := 26) rfl rfl rfl ?_
     refine LM.drop (t := 26) rfl rfl rfl ?_
     refine LM.drop (t := 26) rfl rfl rfl ?_
     refine LM.val (ov_pickT rfl rfl) ?_
     refine LM.val (ov_move rfl) ?_
     refine LM.drop (t := 32) rfl rfl rfl ?_
     refine LM.drop (t := 32) rfl rfl rfl ?_
     refine LM.drop (t := 32) rfl rfl rfl ?_
     refine LM.drop (t := 32) rfl rfl rfl ?_
     refine LM.drop (t := 32) rfl rfl rfl ?_
     refine LM.val (ov_pickT rfl rfl) ?_
     refine LM.nil ?_
     refine QM.sub (e' := [(1, _), (38, _)]) ⟨rfl, rfl, trivial⟩ ?_
     refine QM.meetK (_) ⟨(by first | rfl | exact lk rfl (by congr 1; omega) | exact lk rfl (by simp)), rfl, trivial⟩ (by (repeat' (first | exact SubM.nil _ | refine SubM.cons rfl ?_ | refine SubM.app ?_))) ?_
     · (simp [h1, h2, h3, -List.getD_eq_getElem?_getD]; done)
    ·
     refine LM.strip (t := 26) rfl rfl rfl ?_
     refine LM.val (ov_field Tryz.underlying30 rfl Tryz.sizeOf27 rfl (k := 3) rfl rfl) ?_
     refine LM.strip (t := 26) rfl rfl rfl ?_
     first | refine LM.rd (om_ld Tryz.isAgg27 rfl rfl) ?_
     refine LM.strip (t := 26) rfl rfl rfl ?_
     refine LM.val (ov_len Tryz.underlying27 rfl) ?_
     refine LM.strip (t := 26) rfl rfl rfl ?_
     refine LM.val (ov_gtr rfl rfl) ?_
     refine LM.val (ov_pickF rfl rfl) ?_
     refine LM.val (ov_move rfl) ?_
     refine LM.splitD (t := 32) rfl (fun h4 => ?_) (fun h4 => ?_)
     ·
      refine LM.drop (t := 32) rfl rfl rfl ?_
      refine LM.drop (t := 32) rfl rfl rfl ?_
      refine LM.drop (t := 32) rfl rfl rfl ?_
      refine LM.drop (t := 32) rfl rfl rfl ?_
      refine LM.drop (t := 32) rfl rfl rfl ?_
      refine LM.val (ov_pickT rfl rfl) ?_
      refine LM.nil ?_
      refine QM.sub (e' := [(1, _), (38, _)]) ⟨rfl, rfl, trivial⟩ ?_
      refine QM.meetK (_) ⟨(by first | rfl | exact lk rfl (by congr 1; omega) | exact lk rfl (by simp)), rfl, trivial⟩ (by (repeat' (first | exact SubM.nil _ | refine SubM.cons rfl ?_ | refine SubM.app ?_))) ?_
      · (simp [h1, h2, h3, h4, -List.getD_eq_getElem?_getD]; done)
     ·
      refine LM.strip (t := 32) rfl rfl rfl ?_
      refine LM.val (ov_field Tryz.underlying30 rfl Tryz.sizeOf28 rfl (k := 4) rfl rfl) ?_
      refine LM.strip (t := 32) rfl rfl rfl ?_
      first | refine LM.rd (om_ld Tryz.isAgg28 rfl rfl) ?_
      refine LM.strip (t := 32) rfl rfl rfl ?_
      refine LM.val (ov_len Tryz.underlying28 rfl) ?_
      refine LM.strip (t := 32) rfl rfl rfl ?_
      refine LM.callE (oc_call (enters_fn Tryz.func59 (by kernel_rfl) rfl) rfl) (fun w hm hc hg => rwithin_spec _ _ w) ?_
      refine LM.strip (t := 32) rfl rfl rfl ?_
      first | refine LM.val (ov_notD rfl) ?_ | refine LM.val (ov_not rfl) ?_
      refine LM.val (ov_pickF rfl rfl) ?_
      refine LM.nil ?_
      refine QM.sub (e' := [(1, _), (38, _)]) ⟨rfl, rfl, trivial⟩ ?_
      refine QM.meetK (_) ⟨(by first | rfl | exact lk rfl (by congr 1; omega) | exact lk rfl (by simp)), rfl, trivial⟩ (by (repeat' (first | exact SubM.nil _ | refine SubM.cons rfl ?_ | refine SubM.app ?_))) ?_
      · (simp [h1, h2, h3, h4, -List.getD_eq_getElem?_getD]; done)
 ·
  rintro q hq
  change QM _ _ _ _ _ (stB b1 s :: []) _ _ _
  refine QM.then ?_
  first | refine wpM.condD rfl (fun h5 => ?_) (fun h5 => ?_) | refine wpM.condB rfl (fun h5 => ?_) (fun h5 => ?_)
  ·
   refine wpM.seq ?_
   refine wpM.region ?_
   refine LM.val (ov_assign rfl) ?_
   refine LM.nil ?_
   refine QM.sub (e' := [(2, _)]) ⟨rfl, trivial⟩ ?_
   refine QM.then ?_
   refine wpM.ret ?_
   refine QM.then_ret ?_
   refine QM.leave (.inl rfl) [.tmp 2] Tryz.results19 rfl ?_
   intro w' hm' hc' hg'
   refine ⟨?_, hc'⟩; rw [mayS_head (by rw [head_eq hgn hln hpn, ← hq, h5]; rfl)]; rfl
  ·
   have hhd : headB s.C = true := (by rw [head_eq hgn hln hpn, ← hq, h5]; rfl); have hh4 := hhd; unfold headB at hh4; simp only [Bool.and_eq_true, decide_eq_true_eq, winL] at hh4; have hG4 : s.gs.length ≤ 4 := (by have := hh4.2.2.1.2; show s.gs.length ≤ 4; have h9 : (s.C.gs.length : Int) ≤ 4 := this; have h8 : s.C.gs.length = s.gs.length := rfl; omega); have hL8 : s.ls.length ≤ 8 := hh4.2.2.2.1; have hP8 : s.ps.length ≤ 8 := (by have h9 := hh4.2.2.2.2.2; have h8 : s.C.ps.length = s.ps.length := hcl; omega)
   refine wpM.skip ?_
   refine QM.then ?_
   refine wpM.seq ?_
   refine wpM.seq ?_
   refine wpM.region ?_
   refine LM.val (ov_assign rfl) ?_
   refine LM.nil ?_
   refine QM.sub (e' := [(1, _), (3, _)]) ⟨rfl, rfl, trivial⟩ ?_
   refine QM.then ?_
   refine wpM.block ?_
   refine wpM.loopK0 (α := Nat) (fun i => [(3, .int .i64 (i : Nat))]) [(1, _)] (fun i => stB b1 s :: []) (fun i => i ≤ s.gs.length ∧ (s.gs.take i).all (fun n => winB n 16) = true) (fun i => s.gs.length - i) (0) ⟨(by first | rfl | exact lk rfl (by congr 1; omega) | exact lk rfl (by simp)), rfl, trivial⟩ (by (repeat' (first | exact SubM.nil _ | refine SubM.cons rfl ?_ | refine SubM.app ?_))) ⟨Nat.zero_le _, rfl⟩ ?_
   rintro i ⟨hi, hag⟩
   change wpM _ _ _ _ _ _ _ (stB b1 s :: []) _ _ _
   refine wpM.seq ?_
   refine wpM.seq ?_
   refine wpM.region ?_
   refine LM.val (ov_move rfl) ?_
   refine LM.val (ov_field Tryz.underlying30 rfl Tryz.sizeOf26 rfl (k := 2) rfl rfl) ?_
   first | refine LM.rd (om_ld Tryz.isAgg26 rfl rfl) ?_
   refine LM.val (ov_len Tryz.underlying26 rfl) ?_
   refine LM.val (ov_lss rfl rfl) ?_
   refine LM.nil ?_
   refine QM.sub (e' := [(1, _), (3, _), (43, _)]) ⟨rfl, rfl, rfl, trivial⟩ ?_
   refine QM.then ?_
   refine wpM.condD rfl (fun h6 => ?_) (fun h6 => ?_)
   ·
    refine wpM.skip ?_
    refine QM.then ?_
    refine wpM.seq ?_
    refine wpM.block ?_
    refine wpM.seq ?_
    refine wpM.region ?_
    refine LM.val (ov_field Tryz.underlying30 rfl Tryz.sizeOf26 rfl (k := 2) rfl rfl) ?_
    first | refine LM.rd (om_ld Tryz.isAgg26 rfl rfl) ?_
    refine LM.val (ov_move rfl) ?_
    refine LM.val (ov_idxSN (by first | exact Sr.spt (by assumption) | exact Sl.spt (by assumption)) Tryz.underlying26 Tryz.sizeOf3 rfl rfl (by omega)) ?_
    first | refine LM.rd (om_sl1 (by assumption) (by intro _; rfl) Tryz.isAgg3 rfl rfl (by exact getq 0 (by first | omega | (simp only [List.length_set, List.length_append, List.length_cons, List.length_nil]; omega))) (by rfl)) ?_ | refine LM.rdC (om_sr1 (by assumption) Tryz.isAgg3 rfl rfl (by exact getq 0 (by first | omega | (simp only [List.length_set, List.length_append, List.length_cons, List.length_nil]; omega))) (by rfl) id) ?_ | refine LM.rd (om_ld Tryz.isAgg3 rfl rfl) ?_
    refine LM.callE (oc_call (enters_fn Tryz.func59 (by kernel_rfl) rfl) rfl) (fun w hm hc hg => rwithin_spec _ _ w) ?_
    first | refine LM.val (ov_notD rfl) ?_ | refine LM.val (ov_not rfl) ?_
    refine LM.nil ?_
    refine QM.sub (e' := [(1, _), (3, _), (52, _)]) ⟨rfl, rfl, rfl, trivial⟩ ?_
    refine QM.then ?_
    first | refine wpM.condD rfl (fun h7 => ?_) (fun h7 => ?_) | refine wpM.condB rfl (fun h7 => ?_) (fun h7 => ?_)
    ·
     refine wpM.seq ?_
     refine wpM.region ?_
     refine LM.val (ov_assign rfl) ?_
     refine LM.nil ?_
     refine QM.sub (e' := [(2, _)]) ⟨rfl, trivial⟩ ?_
     refine QM.then ?_
     refine wpM.ret ?_
     refine QM.block_ret ?_
     refine QM.then_ret ?_
     refine QM.then_ret ?_
     refine QM.block_ret ?_
     refine QM.then_ret ?_
     refine QM.leave (.inl rfl) [.tmp 2] Tryz.results19 rfl ?_
     intro w' hm' hc' hg'
     refine ⟨?_, hc'⟩; rw [mayS_gs (s := s.C) (all_ff (xs := s.gs) (i := i) 0 (by omega) (by simpa using h7))]; rfl
    ·
     refine wpM.skip ?_
     refine QM.block_normal ?_
     refine QM.then ?_
     refine wpM.region ?_
     refine LM.val (ov_move rfl) ?_
     refine LM.val (ov_add64 rfl rfl (by omega)) ?_
     refine LM.val (ov_assign rfl) ?_
     refine LM.nil ?_
     refine QM.sub (e' := [(1, _), (3, _)]) ⟨rfl, rfl, trivial⟩ ?_
     refine QM.againK (i + 1) ⟨(by first | rfl | exact lk rfl (by congr 1; omega) | exact lk rfl (by simp)), rfl, trivial⟩ (by (repeat' (first | exact SubM.nil _ | refine SubM.cons rfl ?_ | refine SubM.app ?_))) (fun _ h => h) ?_ ?_
     · exact ⟨by omega, by rw [all_snoc 0 (by omega), hag, Bool.true_and]; simpa using h7⟩
     · omega
   ·
    refine wpM.exit ?_
    refine QM.then_exit ?_
    refine QM.then_exit ?_
    refine QM.block_hit ?_
    refine QM.then ?_
    refine wpM.seq ?_
    refine wpM.seq ?_
    refine wpM.region ?_
    refine LM.val (ov_assign rfl) ?_
    refine LM.nil ?_
    refine QM.sub (e' := [(1, _), (4, _)]) ⟨rfl, rfl, trivial⟩ ?_
    refine QM.then ?_
    refine wpM.block ?_
    refine wpM.loopK0 (α := Nat) (fun j => [(4, .int .i64 (j : Nat))]) [(1, _)] (fun j => stB b1 s :: []) (fun j => j ≤ s.ls.length ∧ (s.ls.take j).all lokB = true) (fun j => s.ls.length - j) (0) ⟨(by first | rfl | exact lk rfl (by congr 1; omega) | exact lk rfl (by simp)), rfl, trivial⟩ (by (repeat' (first | exact SubM.nil _ | refine SubM.cons rfl ?_ | refine SubM.app ?_))) ⟨Nat.zero_le _, rfl⟩ ?_
    rintro j ⟨hj, hal⟩
    change wpM _ _ _ _ _ _ _ (stB b1 s :: []) _ _ _
    refine wpM.seq ?_
    refine wpM.seq ?_
    refine wpM.region ?_
    refine LM.val (ov_move rfl) ?_
    refine LM.val (ov_field Tryz.underlying30 rfl Tryz.sizeOf27 rfl (k := 3) rfl rfl) ?_
    first | refine LM.rd (om_ld Tryz.isAgg27 rfl rfl) ?_
    refine LM.val (ov_len Tryz.underlying27 rfl) ?_
    refine LM.val (ov_lss rfl rfl) ?_
    refine LM.nil ?_
    refine QM.sub (e' := [(1, _), (4, _), (57, _)]) ⟨rfl, rfl, rfl, trivial⟩ ?_
    refine QM.then ?_
    refine wpM.condD rfl (fun h8 => ?_) (fun h8 => ?_)
    ·
     refine wpM.skip ?_
     refine QM.then ?_
     refine wpM.seq ?_
     refine wpM.block ?_
     refine wpM.seq ?_
     refine wpM.region ?_
     refine LM.val (ov_field Tryz.underlying30 rfl Tryz.sizeOf27 rfl (k := 3) rfl rfl) ?_
     first | refine LM.rd (om_ld Tryz.isAgg27 rfl rfl) ?_
     refine LM.val (ov_move rfl) ?_
     refine LM.val (ov_idxSN (by first | exact Sr.spt (by assumption) | exact Sl.spt (by assumption)) Tryz.underlying27 Tryz.sizeOf63 rfl rfl (by omega)) ?_
     first | refine LM.rd (om_slA (by assumption) (by intro _; rfl) Tryz.isAgg63 Tryz.sizeOf63 rfl (by exact getq default (by first | omega | (simp only [List.length_set, List.length_append, List.length_cons, List.length_nil]; omega)))) ?_ | refine LM.rdC (om_srEA (by assumption) (by intro _; rfl) Tryz.isAgg63 Tryz.sizeOf63 rfl (by exact getq default (by first | omega | (simp only [List.length_set, List.length_append, List.length_cons, List.length_nil]; omega))) id) ?_ | refine LM.rd (om_ldW Tryz.isAgg63 Tryz.sizeOf63 rfl rfl) ?_ | refine LM.rd (om_ldA Tryz.isAgg63 Tryz.sizeOf63 rfl (vs := [_, _, _, _, _]) rfl ⟨rfl, rfl, rfl, rfl, rfl, trivial⟩) ?_
     refine LM.alloc Tryz.zeroValue63 rfl (fun b5 hb5 => ?_)
     refine LM.stW Tryz.sizeOf63 rfl rfl rfl rfl (by first | rfl | decide | (simp; done)) (fun hlt => absurd hlt (by omega)) ?_
     refine LM.nil ?_
     refine QM.sub (e' := [(1, _), (4, _), (5, _)]) ⟨rfl, rfl, rfl, trivial⟩ ?_
     refine QM.then ?_
     refine wpM.seq ?_
     refine wpM.seq ?_
     refine wpM.joinK (α := Bool) (fun q2 => [(74, .bool q2)]) [(1, _), (4, _), (5, _)] (fun q2 => (b5, .cells (fL (s.ls.getD j default)).toArray 63 (0, 0)) :: stB b1 s :: []) (fun q2 => q2 = (!winB (s.ls.getD j default).sl 16 || !winB (s.ls.getD j default).cr 32)) ⟨rfl, rfl, rfl, trivial⟩ ?_ ?_
     ·
      refine wpM.region ?_
      refine LM.val (ov_field Tryz.underlying63 rfl Tryz.sizeOf3 rfl (k := 1) rfl rfl) ?_
      first | refine LM.rd (om_ld Tryz.isAgg3 rfl rfl) ?_
      refine LM.callE (oc_call (enters_fn Tryz.func59 (by kernel_rfl) rfl) rfl) (fun w hm hc hg => rwithin_spec _ _ w) ?_
      first | refine LM.val (ov_notD rfl) ?_ | refine LM.val (ov_not rfl) ?_
      refine LM.val (ov_move rfl) ?_
      first | refine LM.splitD (t := 69) rfl (fun h9 => ?_) (fun h9 => ?_) | refine LM.splitB (t := 69) rfl (fun h9 => ?_) (fun h9 => ?_)
      ·
       refine LM.drop (t := 69) rfl rfl rfl ?_
       refine LM.drop (t := 69) rfl rfl rfl ?_
       refine LM.drop (t := 69) rfl rfl rfl ?_
       refine LM.drop (t := 69) rfl rfl rfl ?_
       refine LM.val (ov_pickT rfl rfl) ?_
       refine LM.nil ?_
       refine QM.sub (e' := [(1, _), (4, _), (5, _), (74, _)]) ⟨rfl, rfl, rfl, rfl, trivial⟩ ?_
       refine QM.meetK (_) ⟨(by first | rfl | exact lk rfl (by congr 1; omega) | exact lk rfl (by simp)), rfl, rfl, rfl, trivial⟩ (by (repeat' (first | exact SubM.nil _ | refine SubM.cons rfl ?_ | refine SubM.app ?_))) ?_
       · (simp [h5, h6, h8, h9, -List.getD_eq_getElem?_getD]; done)
      ·
       refine LM.strip (t := 69) rfl rfl rfl ?_
       refine LM.val (ov_field Tryz.underlying63 rfl Tryz.sizeOf3 rfl (k := 2) rfl rfl) ?_
       refine LM.strip (t := 69) rfl rfl rfl ?_
       first | refine LM.rd (om_ld Tryz.isAgg3 rfl rfl) ?_
       refine LM.strip (t := 69) rfl rfl rfl ?_
       refine LM.callE (oc_call (enters_fn Tryz.func59 (by kernel_rfl) rfl) rfl) (fun w hm hc hg => rwithin_spec _ _ w) ?_
       refine LM.strip (t := 69) rfl rfl rfl ?_
       first | refine LM.val (ov_notD rfl) ?_ | refine LM.val (ov_not rfl) ?_
       refine LM.val (ov_pickF rfl rfl) ?_
       refine LM.nil ?_
       refine QM.sub (e' := [(1, _), (4, _), (5, _), (74, _)]) ⟨rfl, rfl, rfl, rfl, trivial⟩ ?_
       refine QM.meetK (_) ⟨(by first | rfl | exact lk rfl (by congr 1; omega) | exact lk rfl (by simp)), rfl, rfl, rfl, trivial⟩ (by (repeat' (first | exact SubM.nil _ | refine SubM.cons rfl ?_ | refine SubM.app ?_))) ?_
       · (simp [h5, h6, h8, h9, -List.getD_eq_getElem?_getD]; done)
     ·
      rintro q2 hq2
      change QM _ _ _ _ _ ((b5, .cells (fL (s.ls.getD j default)).toArray 63 (0, 0)) :: stB b1 s :: []) _ _ _
      refine QM.then ?_
      first | refine wpM.condD rfl (fun h10 => ?_) (fun h10 => ?_) | refine wpM.condB rfl (fun h10 => ?_) (fun h10 => ?_)
      ·
       refine wpM.seq ?_
       refine wpM.region ?_
       refine LM.val (ov_assign rfl) ?_
       refine LM.nil ?_
       refine QM.sub (e' := [(2, _)]) ⟨rfl, trivial⟩ ?_
       refine QM.then ?_
       refine wpM.ret ?_
       refine QM.then_ret ?_
       refine QM.block_ret ?_
       refine QM.then_ret ?_
       refine QM.then_ret ?_
       refine QM.block_ret ?_
       refine QM.then_ret ?_
       refine QM.leave (.inl rfl) [.tmp 2] Tryz.results19 rfl ?_
       intro w' hm' hc' hg'
       refine ⟨?_, hc'⟩; rw [mayS_ls (s := s.C) (all_ff (xs := s.ls) (i := j) default (by omega) (by rw [lok_eq, ← hq2, h10]; rfl))]; rfl
      ·
       refine wpM.skip ?_
       refine QM.then ?_
       refine wpM.seq ?_
       refine wpM.joinK (α := Bool) (fun q3 => [(103, .bool q3)]) [(1, _), (4, _)] (fun q3 => (b5, .cells (fL (s.ls.getD j default)).toArray 63 (0, 0)) :: stB b1 s :: []) (fun q3 => q3 = (((s.ls.getD j default).sh && (!winB (s.ls.getD j default).rd 16 || !winB (s.ls.getD j default).wr 16)) || (!(s.ls.getD j default).sh && (decide ((s.ls.getD j default).rd ≠ 0) || decide ((s.ls.getD j default).wr ≠ 0))))) ⟨rfl, rfl, trivial⟩ ?_ ?_
       ·
        refine wpM.region ?_
        refine LM.val (ov_field Tryz.underlying63 rfl Tryz.sizeOf4 rfl (k := 0) rfl rfl) ?_
        first | refine LM.rd (om_ld Tryz.isAgg4 rfl rfl) ?_
        refine LM.val (ov_move rfl) ?_
        first | refine LM.splitD (t := 77) rfl (fun h11 => ?_) (fun h11 => ?_) | refine LM.splitB (t := 77) rfl (fun h11 => ?_) (fun h11 => ?_)
        ·
         refine LM.strip (t := 77) rfl rfl rfl ?_
         refine LM.val (ov_field Tryz.underlying63 rfl Tryz.sizeOf3 rfl (k := 3) rfl rfl) ?_
         refine LM.strip (t := 77) rfl rfl rfl ?_
         first | refine LM.rd (om_ld Tryz.isAgg3 rfl rfl) ?_
         refine LM.strip (t := 77) rfl rfl rfl ?_
         refine LM.callE (oc_call (enters_fn Tryz.func59 (by kernel_rfl) rfl) rfl) (fun w hm hc hg => rwithin_spec _ _ w) ?_
         refine LM.strip (t := 77) rfl rfl rfl ?_
         first | refine LM.val (ov_notD rfl) ?_ | refine LM.val (ov_not rfl) ?_
         refine LM.strip (t := 77) rfl rfl rfl ?_
         refine LM.val (ov_move rfl) ?_
         first | refine LM.splitD (t := 82) rfl (fun h12 => ?_) (fun h12 => ?_) | refine LM.splitB (t := 82) rfl (fun h12 => ?_) (fun h12 => ?_)
         ·
          refine LM.drop (t := 82) rfl rfl rfl ?_
          refine LM.drop (t := 82) rfl rfl rfl ?_
          refine LM.drop (t := 82) rfl rfl rfl ?_
          refine LM.drop (t := 82) rfl rfl rfl ?_
          refine LM.strip (t := 77) rfl rfl rfl ?_
          refine LM.val (ov_pickT rfl rfl) ?_
          refine LM.val (ov_pickT rfl rfl) ?_
          refine LM.val (ov_move rfl) ?_
          refine LM.drop (t := 89) rfl rfl rfl ?_
          refine LM.drop (t := 89) rfl rfl rfl ?_
          refine LM.drop (t := 89) rfl rfl rfl ?_
          refine LM.dropU (t := 89) rfl rfl rfl ?_
          refine LM.dropX (t := 93) rfl rfl ?_
          refine LM.dropX (t := 93) rfl rfl ?_
          refine LM.dropX (t := 93) rfl rfl ?_
          refine LM.dropX (t := 93) rfl rfl ?_
          refine LM.dropX (t := 97) rfl rfl ?_
          refine LM.dropX (t := 97) rfl rfl ?_
          refine LM.dropX (t := 97) rfl rfl ?_
          refine LM.dropX (t := 93) rfl rfl ?_
          refine LM.drop (t := 89) rfl rfl rfl ?_
          refine LM.val (ov_pickT rfl rfl) ?_
          refine LM.nil ?_
          refine QM.sub (e' := [(1, _), (4, _), (103, _)]) ⟨rfl, rfl, rfl, trivial⟩ ?_
          refine QM.meetK (_) ⟨(by first | rfl | exact lk rfl (by congr 1; omega) | exact lk rfl (by simp)), rfl, rfl, trivial⟩ (by (repeat' (first | exact SubM.nil _ | refine SubM.cons rfl ?_ | refine SubM.app ?_))) ?_
          · (simp [h5, h6, h8, h10, h11, h12, -List.getD_eq_getElem?_getD]; done)
         ·
          refine LM.strip (t := 82) rfl rfl rfl ?_
          refine LM.val (ov_field Tryz.underlying63 rfl Tryz.sizeOf3 rfl (k := 4) rfl rfl) ?_
          refine LM.strip (t := 82) rfl rfl rfl ?_
          first | refine LM.rd (om_ld Tryz.isAgg3 rfl rfl) ?_
          refine LM.strip (t := 82) rfl rfl rfl ?_
          refine LM.callE (oc_call (enters_fn Tryz.func59 (by kernel_rfl) rfl) rfl) (fun w hm hc hg => rwithin_spec _ _ w) ?_
          refine LM.strip (t := 82) rfl rfl rfl ?_
          first | refine LM.val (ov_notD rfl) ?_ | refine LM.val (ov_not rfl) ?_
          refine LM.strip (t := 77) rfl rfl rfl ?_
          refine LM.val (ov_pickF rfl rfl) ?_
          refine LM.val (ov_pickT rfl rfl) ?_
          refine LM.val (ov_move rfl) ?_
          first | refine LM.splitD (t := 89) rfl (fun h13 => ?_) (fun h13 => ?_) | refine LM.splitB (t := 89) rfl (fun h13 => ?_) (fun h13 => ?_)
          ·
           refine LM.drop (t := 89) rfl rfl rfl ?_
           refine LM.drop (t := 89) rfl rfl rfl ?_
           refine LM.drop (t := 89) rfl rfl rfl ?_
           refine LM.dropU (t := 89) rfl rfl rfl ?_
           refine LM.dropX (t := 93) rfl rfl ?_
           refine LM.dropX (t := 93) rfl rfl ?_
           refine LM.dropX (t := 93) rfl rfl ?_
           refine LM.dropX (t := 93) rfl rfl ?_
           refine LM.dropX (t := 97) rfl rfl ?_
           refine LM.dropX (t := 97) rfl rfl ?_
           refine LM.dropX (t := 97) rfl rfl ?_
           refine LM.dropX (t := 93) rfl rfl ?_
           refine LM.drop (t := 89) rfl rfl rfl ?_
           refine LM.val (ov_pickT rfl rfl) ?_
           refine LM.nil ?_
           refine QM.sub (e' := [(1, _), (4, _), (103, _)]) ⟨rfl, rfl, rfl, trivial⟩ ?_
           refine QM.meetK (_) ⟨(by first | rfl | exact lk rfl (by congr 1; omega) | exact lk rfl (by simp)), rfl, rfl, trivial⟩ (by (repeat' (first | exact SubM.nil _ | refine SubM.cons rfl ?_ | refine SubM.app ?_))) ?_
           · (simp [h5, h6, h8, h10, h11, h12, h13, -List.getD_eq_getElem?_getD]; done)
          ·
           refine LM.strip (t := 89) rfl rfl rfl ?_
           refine LM.val (ov_field Tryz.underlying63 rfl Tryz.sizeOf4 rfl (k := 0) rfl rfl) ?_
           refine LM.strip (t := 89) rfl rfl rfl ?_
           first | refine LM.rd (om_ld Tryz.isAgg4 rfl rfl) ?_
           refine LM.strip (t := 89) rfl rfl rfl ?_
           first | refine LM.val (ov_notD rfl) ?_ | refine LM.val (ov_not rfl) ?_
           refine LM.strip (t := 89) rfl rfl rfl ?_
           refine LM.val (ov_move rfl) ?_
           first | refine LM.splitD (t := 93) rfl (fun h14 => ?_) (fun h14 => ?_) | refine LM.splitB (t := 93) rfl (fun h14 => ?_) (fun h14 => ?_)
           ·
            refine LM.strip (t := 93) rfl rfl rfl ?_
            refine LM.val (ov_field Tryz.underlying63 rfl Tryz.sizeOf3 rfl (k := 3) rfl rfl) ?_
            refine LM.strip (t := 93) rfl rfl rfl ?_
            first | refine LM.rd (om_ld Tryz.isAgg3 rfl rfl) ?_
            refine LM.strip (t := 93) rfl rfl rfl ?_
            refine LM.val (ov_neq rfl rfl) ?_
            refine LM.strip (t := 93) rfl rfl rfl ?_
            refine LM.val (ov_move rfl) ?_
            refine LM.splitD (t := 97) rfl (fun h15 => ?_) (fun h15 => ?_)
            ·
             refine LM.drop (t := 97) rfl rfl rfl ?_
             refine LM.drop (t := 97) rfl rfl rfl ?_
             refine LM.drop (t := 97) rfl rfl rfl ?_
             refine LM.strip (t := 93) rfl rfl rfl ?_
             refine LM.val (ov_pickT rfl rfl) ?_
             refine LM.strip (t := 89) rfl rfl rfl ?_
             refine LM.val (ov_pickT rfl rfl) ?_
             refine LM.val (ov_pickF rfl rfl) ?_
             refine LM.nil ?_
             refine QM.sub (e' := [(1, _), (4, _), (103, _)]) ⟨rfl, rfl, rfl, trivial⟩ ?_
             refine QM.meetK (_) ⟨(by first | rfl | exact lk rfl (by congr 1; omega) | exact lk rfl (by simp)), rfl, rfl, trivial⟩ (by (repeat' (first | exact SubM.nil _ | refine SubM.cons rfl ?_ | refine SubM.app ?_))) ?_
             · first | (simp [h5, h6, h8, h10, h11, h12, h13, h14, h15, -List.getD_eq_getElem?_getD]; done) | (simp_all [-List.getD_eq_getElem?_getD]; done)
            ·
             refine LM.strip (t := 97) rfl rfl rfl ?_
             refine LM.val (ov_field Tryz.underlying63 rfl Tryz.sizeOf3 rfl (k := 4) rfl rfl) ?_
             refine LM.strip (t := 97) rfl rfl rfl ?_
             first | refine LM.rd (om_ld Tryz.isAgg3 rfl rfl) ?_
             refine LM.strip (t := 97) rfl rfl rfl ?_
             refine LM.val (ov_neq rfl rfl) ?_
             refine LM.strip (t := 93) rfl rfl rfl ?_
             refine LM.val (ov_pickF rfl rfl) ?_
             refine LM.strip (t := 89) rfl rfl rfl ?_
             refine LM.val (ov_pickT rfl rfl) ?_
             refine LM.val (ov_pickF rfl rfl) ?_
             refine LM.nil ?_
             refine QM.sub (e' := [(1, _), (4, _), (103, _)]) ⟨rfl, rfl, rfl, trivial⟩ ?_
             refine QM.meetK (_) ⟨(by first | rfl | exact lk rfl (by congr 1; omega) | exact lk rfl (by simp)), rfl, rfl, trivial⟩ (by (repeat' (first | exact SubM.nil _ | refine SubM.cons rfl ?_ | refine SubM.app ?_))) ?_
             · first | (simp [h5, h6, h8, h10, h11, h12, h13, h14, h15, -List.getD_eq_getElem?_getD]; done) | (simp_all [-List.getD_eq_getElem?_getD]; done)
           ·
            refine LM.drop (t := 93) rfl rfl rfl ?_
            refine LM.drop (t := 93) rfl rfl rfl ?_
            refine LM.drop (t := 93) rfl rfl rfl ?_
            refine LM.dropU (t := 93) rfl rfl rfl ?_
            refine LM.dropX (t := 97) rfl rfl ?_
            refine LM.dropX (t := 97) rfl rfl ?_
            refine LM.dropX (t := 97) rfl rfl ?_
            refine LM.drop (t := 93) rfl rfl rfl ?_
            refine LM.strip (t := 89) rfl rfl rfl ?_
            refine LM.val (ov_pickF rfl rfl) ?_
            refine LM.val (ov_pickF rfl rfl) ?_
            refine LM.nil ?_
            refine QM.sub (e' := [(1, _), (4, _), (103, _)]) ⟨rfl, rfl, rfl, trivial⟩ ?_
            refine QM.meetK (_) ⟨(by first | rfl | exact lk rfl (by congr 1; omega) | exact lk rfl (by simp)), rfl, rfl, trivial⟩ (by (repeat' (first | exact SubM.nil _ | refine SubM.cons rfl ?_ | refine SubM.app ?_))) ?_
            · (simp [h5, h6, h8, h10, h11, h12, h13, h14, -List.getD_eq_getElem?_getD]; done)
        ·
         refine LM.drop (t := 77) rfl rfl rfl ?_
         refine LM.drop (t := 77) rfl rfl rfl ?_
         refine LM.drop (t := 77) rfl rfl rfl ?_
         refine LM.drop (t := 77) rfl rfl rfl ?_
         refine LM.dropU (t := 77) rfl rfl rfl ?_
         refine LM.dropX (t := 82) rfl rfl ?_
         refine LM.dropX (t := 82) rfl rfl ?_
         refine LM.dropX (t := 82) rfl rfl ?_
         refine LM.dropX (t := 82) rfl rfl ?_
         refine LM.drop (t := 77) rfl rfl rfl ?_
         refine LM.val (ov_pickF rfl rfl) ?_
         refine LM.val (ov_move rfl) ?_
         refine LM.strip (t := 89) rfl rfl rfl ?_
         refine LM.val (ov_field Tryz.underlying63 rfl Tryz.sizeOf4 rfl (k := 0) rfl rfl) ?_
         refine LM.strip (t := 89) rfl rfl rfl ?_
         first | refine LM.rd (om_ld Tryz.isAgg4 rfl rfl) ?_
         refine LM.strip (t := 89) rfl rfl rfl ?_
         first | refine LM.val (ov_notD rfl) ?_ | refine LM.val (ov_not rfl) ?_
         refine LM.strip (t := 89) rfl rfl rfl ?_
         refine LM.val (ov_move rfl) ?_
         first | refine LM.splitD (t := 93) rfl (fun h16 => ?_) (fun h16 => ?_) | refine LM.splitB (t := 93) rfl (fun h16 => ?_) (fun h16 => ?_)
         ·
          refine LM.strip (t := 93) rfl rfl rfl ?_
          refine LM.val (ov_field Tryz.underlying63 rfl Tryz.sizeOf3 rfl (k := 3) rfl rfl) ?_
          refine LM.strip (t := 93) rfl rfl rfl ?_
          first | refine LM.rd (om_ld Tryz.isAgg3 rfl rfl) ?_
          refine LM.strip (t := 93) rfl rfl rfl ?_
          refine LM.val (ov_neq rfl rfl) ?_
          refine LM.strip (t := 93) rfl rfl rfl ?_
          refine LM.val (ov_move rfl) ?_
          refine LM.splitD (t := 97) rfl (fun h17 => ?_) (fun h17 => ?_)
          ·
           refine LM.drop (t := 97) rfl rfl rfl ?_
           refine LM.drop (t := 97) rfl rfl rfl ?_
           refine LM.drop (t := 97) rfl rfl rfl ?_
           refine LM.strip (t := 93) rfl rfl rfl ?_
           refine LM.val (ov_pickT rfl rfl) ?_
           refine LM.strip (t := 89) rfl rfl rfl ?_
           refine LM.val (ov_pickT rfl rfl) ?_
           refine LM.val (ov_pickF rfl rfl) ?_
           refine LM.nil ?_
           refine QM.sub (e' := [(1, _), (4, _), (103, _)]) ⟨rfl, rfl, rfl, trivial⟩ ?_
           refine QM.meetK (_) ⟨(by first | rfl | exact lk rfl (by congr 1; omega) | exact lk rfl (by simp)), rfl, rfl, trivial⟩ (by (repeat' (first | exact SubM.nil _ | refine SubM.cons rfl ?_ | refine SubM.app ?_))) ?_
           · (simp [h5, h6, h8, h10, h11, h16, h17, -List.getD_eq_getElem?_getD]; done)
          ·
           refine LM.strip (t := 97) rfl rfl rfl ?_
           refine LM.val (ov_field Tryz.underlying63 rfl Tryz.sizeOf3 rfl (k := 4) rfl rfl) ?_
           refine LM.strip (t := 97) rfl rfl rfl ?_
           first | refine LM.rd (om_ld Tryz.isAgg3 rfl rfl) ?_
           refine LM.strip (t := 97) rfl rfl rfl ?_
           refine LM.val (ov_neq rfl rfl) ?_
           refine LM.strip (t := 93) rfl rfl rfl ?_
           refine LM.val (ov_pickF rfl rfl) ?_
           refine LM.strip (t := 89) rfl rfl rfl ?_
           refine LM.val (ov_pickT rfl rfl) ?_
           refine LM.val (ov_pickF rfl rfl) ?_
           refine LM.nil ?_
           refine QM.sub (e' := [(1, _), (4, _), (103, _)]) ⟨rfl, rfl, rfl, trivial⟩ ?_
           refine QM.meetK (_) ⟨(by first | rfl | exact lk rfl (by congr 1; omega) | exact lk rfl (by simp)), rfl, rfl, trivial⟩ (by (repeat' (first | exact SubM.nil _ | refine SubM.cons rfl ?_ | refine SubM.app ?_))) ?_
           · (simp [h5, h6, h8, h10, h11, h16, h17, -List.getD_eq_getElem?_getD]; done)
         ·
          refine LM.drop (t := 93) rfl rfl rfl ?_
          refine LM.drop (t := 93) rfl rfl rfl ?_
          refine LM.drop (t := 93) rfl rfl rfl ?_
          refine LM.dropU (t := 93) rfl rfl rfl ?_
          refine LM.dropX (t := 97) rfl rfl ?_
          refine LM.dropX (t := 97) rfl rfl ?_
          refine LM.dropX (t := 97) rfl rfl ?_
          refine LM.drop (t := 93) rfl rfl rfl ?_
          refine LM.strip (t := 89) rfl rfl rfl ?_
          refine LM.val (ov_pickF rfl rfl) ?_
          refine LM.val (ov_pickF rfl rfl) ?_
          refine LM.nil ?_
          refine QM.sub (e' := [(1, _), (4, _), (103, _)]) ⟨rfl, rfl, rfl, trivial⟩ ?_
          refine QM.meetK (_) ⟨(by first | rfl | exact lk rfl (by congr 1; omega) | exact lk rfl (by simp)), rfl, rfl, trivial⟩ (by (repeat' (first | exact SubM.nil _ | refine SubM.cons rfl ?_ | refine SubM.app ?_))) ?_
          · first | (simp [h5, h6, h8, h10, h11, h16, -List.getD_eq_getElem?_getD]; done) | (simp_all [-List.getD_eq_getElem?_getD]; done)
       ·
        rintro q3 hq3
        change QM _ _ _ _ _ ((b5, .cells (fL (s.ls.getD j default)).toArray 63 (0, 0)) :: stB b1 s :: []) _ _ _
        refine QM.then ?_
        first | refine wpM.condD rfl (fun h18 => ?_) (fun h18 => ?_) | refine wpM.condB rfl (fun h18 => ?_) (fun h18 => ?_)
        ·
         refine wpM.seq ?_
         refine wpM.region ?_
         refine LM.val (ov_assign rfl) ?_
         refine LM.nil ?_
         refine QM.sub (e' := [(2, _)]) ⟨rfl, trivial⟩ ?_
         refine QM.then ?_
         refine wpM.ret ?_
         refine QM.block_ret ?_
         refine QM.then_ret ?_
         refine QM.then_ret ?_
         refine QM.block_ret ?_
         refine QM.then_ret ?_
         refine QM.leave (.inl rfl) [.tmp 2] Tryz.results19 rfl ?_
         intro w' hm' hc' hg'
         refine ⟨?_, hc'⟩; rw [mayS_ls (s := s.C) (all_ff (xs := s.ls) (i := j) default (by omega) (by rw [lok_eq, ← hq3, h18]; simp))]; rfl
        ·
         refine wpM.skip ?_
         refine QM.block_normal ?_
         refine QM.then ?_
         refine wpM.region ?_
         refine LM.val (ov_move rfl) ?_
         refine LM.val (ov_add64 rfl rfl (by omega)) ?_
         refine LM.val (ov_assign rfl) ?_
         refine LM.nil ?_
         refine QM.sub (e' := [(1, _), (4, _)]) ⟨rfl, rfl, trivial⟩ ?_
         refine QM.againK (j + 1) ⟨(by first | rfl | exact lk rfl (by congr 1; omega) | exact lk rfl (by simp)), rfl, trivial⟩ (by (repeat' (first | exact SubM.nil _ | refine SubM.cons rfl ?_ | refine SubM.app ?_))) (fun _ h => h) ?_ ?_
         · exact ⟨by omega, by rw [all_snoc default (by omega), hal, Bool.true_and, lok_eq, ← hq2, ← hq3, h10, h18]; rfl⟩
         · omega
    ·
     refine wpM.exit ?_
     refine QM.then_exit ?_
     refine QM.then_exit ?_
     refine QM.block_hit ?_
     refine QM.then ?_
     refine wpM.seq ?_
     refine wpM.seq ?_
     refine wpM.region ?_
     refine LM.val (ov_assign rfl) ?_
     refine LM.nil ?_
     refine QM.sub (e' := [(1, _), (6, _)]) ⟨rfl, rfl, trivial⟩ ?_
     refine QM.then ?_
     refine wpM.block ?_
     refine wpM.loopK0 (α := Nat) (fun k => [(6, .int .i64 (k : Nat))]) [(1, _)] (fun k => stB b1 s :: []) (fun k => k ≤ s.ps.length ∧ ((s.ps.map PgV.c).take k).any (misB s.ls (s.pn : Nat)) = false) (fun k => s.ps.length - k) (0) ⟨(by first | rfl | exact lk rfl (by congr 1; omega) | exact lk rfl (by simp)), rfl, trivial⟩ (by (repeat' (first | exact SubM.nil _ | refine SubM.cons rfl ?_ | refine SubM.app ?_))) ⟨Nat.zero_le _, rfl⟩ ?_
     rintro k ⟨hk, hap⟩
     change wpM _ _ _ _ _ _ _ (stB b1 s :: []) _ _ _
     refine wpM.seq ?_
     refine wpM.seq ?_
     refine wpM.region ?_
     refine LM.val (ov_move rfl) ?_
     refine LM.val (ov_field Tryz.underlying30 rfl Tryz.sizeOf28 rfl (k := 4) rfl rfl) ?_
     first | refine LM.rd (om_ld Tryz.isAgg28 rfl rfl) ?_
     refine LM.val (ov_len Tryz.underlying28 rfl) ?_
     refine LM.val (ov_lss rfl rfl) ?_
     refine LM.nil ?_
     refine QM.sub (e' := [(1, _), (6, _), (108, _)]) ⟨rfl, rfl, rfl, trivial⟩ ?_
     refine QM.then ?_
     refine wpM.condD rfl (fun h19 => ?_) (fun h19 => ?_)
     ·
      have hpm : s.ps.getD k default ∈ s.ps := List.mem_of_getElem? (getq default (by omega))
      refine wpM.skip ?_
      refine QM.then ?_
      refine wpM.seq ?_
      refine wpM.block ?_
      refine wpM.seq ?_
      refine wpM.draw [(0, 0), (1, 1), (2, 0), (3, 0), (4, 1), (5, 0), (6, 1), (7, 0), (8, 1), (9, 0), (10, 2), (11, 0), (12, 0), (13, 0), (14, 0), (15, 0)] (by kernel_rfl) (by kernel_rfl) ?_
      refine LD.val rfl rfl (ov_field Tryz.underlying30 rfl Tryz.sizeOf28 rfl (k := 4) rfl rfl) ?_
      first | refine LD.rd rfl rfl (om_ld Tryz.isAgg28 rfl rfl) ?_
      refine LD.val rfl rfl (ov_move rfl) ?_
      refine LD.val rfl rfl (ov_idxSN (by first | exact Sr.spt (by assumption) | exact Sl.spt (by assumption)) Tryz.underlying28 Tryz.sizeOf87 rfl rfl (by omega)) ?_
      first | refine LD.rd rfl rfl (om_slA (by assumption) (by intro _; rfl) Tryz.isAgg87 Tryz.sizeOf87 rfl (by exact getq default (by first | omega | (simp only [List.length_set, List.length_append, List.length_cons, List.length_nil]; omega)))) ?_ | refine LD.rdC rfl rfl (om_srEA (by assumption) (by intro _; rfl) Tryz.isAgg87 Tryz.sizeOf87 rfl (by exact getq default (by first | omega | (simp only [List.length_set, List.length_append, List.length_cons, List.length_nil]; omega))) id) ?_ | refine LD.rd rfl rfl (om_ldW Tryz.isAgg87 Tryz.sizeOf87 rfl rfl) ?_ | refine LD.rd rfl rfl (om_ldA Tryz.isAgg87 Tryz.sizeOf87 rfl (vs := [_, _]) rfl ⟨rfl, rfl, trivial⟩) ?_
      refine LD.val rfl rfl (ov_field Tryz.underlying30 rfl Tryz.sizeOf27 rfl (k := 3) rfl rfl) ?_
      first | refine LD.rd rfl rfl (om_ld Tryz.isAgg27 rfl rfl) ?_
      refine LD.val rfl rfl (ov_field Tryz.underlying30 rfl Tryz.sizeOf28 rfl (k := 4) rfl rfl) ?_
      first | refine LD.rd rfl rfl (om_ld Tryz.isAgg28 rfl rfl) ?_
      refine LD.val rfl rfl (ov_len Tryz.underlying28 rfl) ?_
      refine LD.callE rfl rfl (oc_call (enters_fn Tryz.func46 (by kernel_rfl) rfl) rfl) (fun w hm hc hg => rcheck_spec (s.pn : Nat) w (hI.ops _ hpm).1 ((hI.ops _ hpm).2.ext hc) hln (hl.ext hc)) ?_
      refine LD.val rfl rfl (ov_move rfl) ?_
      refine LD.val rfl rfl (ov_extract rfl rfl) ?_
      refine LD.val rfl rfl (ov_extract rfl rfl) ?_
      refine LD.val rfl rfl (ov_assign rfl) ?_
      refine LD.val rfl rfl (ov_assign rfl) ?_
      refine LD.nil ?_
      refine QM.sub (e' := [(1, _), (6, _), (8, _)]) ⟨rfl, rfl, rfl, trivial⟩ ?_
      refine QM.then ?_
      refine wpM.seq ?_
      refine wpM.region ?_
      refine LM.val (ov_move rfl) ?_
      refine LM.val (ov_neq rfl rfl) ?_
      refine LM.nil ?_
      refine QM.sub (e' := [(1, _), (6, _), (126, _)]) ⟨rfl, rfl, rfl, trivial⟩ ?_
      refine QM.then ?_
      refine wpM.condD rfl (fun h20 => ?_) (fun h20 => ?_)
      ·
       refine wpM.seq ?_
       refine wpM.region ?_
       refine LM.val (ov_assign rfl) ?_
       refine LM.nil ?_
       refine QM.sub (e' := [(2, _)]) ⟨rfl, trivial⟩ ?_
       refine QM.then ?_
       refine wpM.ret ?_
       refine QM.block_ret ?_
       refine QM.then_ret ?_
       refine QM.then_ret ?_
       refine QM.block_ret ?_
       refine QM.then_ret ?_
       refine QM.leave (.inl rfl) [.tmp 2] Tryz.results19 rfl ?_
       intro w' hm' hc' hg'
       refine ⟨?_, hc'⟩; rw [mayS_ps (s := s.C) (any_tt (xs := s.C.ps) (i := k) default (by show k < (s.ps.map PgV.c).length; omega) (by show misB s.ls (s.ps.map PgV.c).length ((s.ps.map PgV.c).getD k default) = true; rw [map_getD, hcl]; unfold misB; rw [← hpn]; exact decide_eq_true h20))]; rfl
      ·
       refine wpM.skip ?_
       refine QM.block_normal ?_
       refine QM.then ?_
       refine wpM.region ?_
       refine LM.val (ov_move rfl) ?_
       refine LM.val (ov_add64 rfl rfl (by omega)) ?_
       refine LM.val (ov_assign rfl) ?_
       refine LM.nil ?_
       refine QM.sub (e' := [(1, _), (6, _)]) ⟨rfl, rfl, trivial⟩ ?_
       refine QM.againK (k + 1) ⟨(by first | rfl | exact lk rfl (by congr 1; omega) | exact lk rfl (by simp)), rfl, trivial⟩ (by (repeat' (first | exact SubM.nil _ | refine SubM.cons rfl ?_ | refine SubM.app ?_))) (fun _ h => h) ?_ ?_
       · exact ⟨by omega, by rw [any_snoc default (by rw [hcl]; omega), hap, Bool.false_or, map_getD]; unfold misB; simpa using h20⟩
       · omega
     ·
      refine wpM.exit ?_
      refine QM.then_exit ?_
      refine QM.then_exit ?_
      refine QM.block_hit ?_
      refine QM.then ?_
      refine wpM.seq ?_
      refine wpM.region ?_
      refine LM.val (ov_assign rfl) ?_
      refine LM.nil ?_
      refine QM.sub (e' := [(2, _)]) ⟨rfl, trivial⟩ ?_
      refine QM.then ?_
      refine wpM.ret ?_
      refine QM.leave (.inl rfl) [.tmp 2] Tryz.results19 rfl ?_
      intro w' hm' hc' hg'
      refine ⟨?_, hc'⟩; have hig : i = s.gs.length := (by omega); have hjl : j = s.ls.length := (by omega); have hkp : k = s.ps.length := (by omega); rw [hig, List.take_length] at hag; rw [hjl, List.take_length] at hal; rw [hkp, List.take_of_length_le (by omega)] at hap; rw [mayS_split, hhd]; show Value.bool true = Value.bool (true && (s.gs.all (fun n => winB n 16) && (s.ls.all lokB && !(s.ps.map PgV.c).any (misB s.ls (s.ps.map PgV.c).length)))); rw [hag, hal, hcl, ← hpn, hap]; rfl

set_option maxRecDepth 100000 in
theorem smay1_spec (n : Int) (w : World) : Ret Tryz.prog 50 #[.int .i64 n] w (fun v w' => v = .bool (!winB n 16) ∧ Ext w w') := by
 refine Ret.enterM (l := [.int .i64 n]) Tryz.func50 rfl Tryz.ntmps50 rfl ([]) (no) (Mem.nil w) ?_
 refine wpM.seq ?_
 refine wpM.region ?_
 refine LM.val (ov_assign rfl) ?_
 refine LM.nil ?_
 refine QM.sub (e' := [(0, _)]) ⟨rfl, trivial⟩ ?_
 refine QM.then ?_
 refine wpM.seq ?_
 refine wpM.region ?_
 refine LM.val (ov_move rfl) ?_
 refine LM.callE (oc_call (enters_fn Tryz.func48 (by kernel_rfl) rfl) rfl) (fun w hm hc hg => swithin_spec n 16 w) ?_
 first | refine LM.val (ov_notD rfl) ?_ | refine LM.val (ov_not rfl) ?_
 refine LM.val (ov_assign rfl) ?_
 refine LM.nil ?_
 refine QM.sub (e' := [(2, _)]) ⟨rfl, trivial⟩ ?_
 refine QM.then ?_
 refine wpM.ret ?_
 refine QM.leave (.inl rfl) [.tmp 2] Tryz.results50 rfl ?_
 intro w' hm' hc' hg'
 exact ⟨rfl, hc'⟩

set_option maxRecDepth 100000 in
theorem lockMay_spec (x : CLk) (w : World) : Ret Tryz.prog 53 #[.agg (fL x).toArray] w (fun v w' => v = .bool (lokB x) ∧ Ext w w') := by
 refine Ret.enterM (l := [.agg (fL x).toArray]) Tryz.func53 rfl Tryz.ntmps53 rfl ([]) (no) (Mem.nil w) ?_
 refine wpM.seq ?_
 refine wpM.region ?_
 refine LM.box rfl rfl (fun b1 hb1 => ?_)
 refine LM.val (ov_assign rfl) ?_
 refine LM.nil ?_
 refine QM.sub (e' := [(1, _)]) ⟨rfl, trivial⟩ ?_
 refine QM.then ?_
 refine wpM.seq ?_
 refine wpM.joinK (α := Bool) (fun q => [(3, .bool q)]) [(1, _)] (fun q => (b1, .cells (fL x).toArray 63 (0, 0)) :: []) (fun q => q = (decide (x.rd = 0) && decide (x.wr = 0))) ⟨rfl, trivial⟩ ?_ ?_
 ·
  refine wpM.region ?_
  refine LM.val (ov_field Tryz.underlying63 rfl Tryz.sizeOf3 rfl (k := 3) rfl rfl) ?_
  first | refine LM.rd (om_ld Tryz.isAgg3 rfl rfl) ?_
  refine LM.val (ov_eql rfl rfl) ?_
  refine LM.val (ov_move rfl) ?_
  refine LM.splitD (t := 7) rfl (fun h1 => ?_) (fun h1 => ?_)
  ·
   refine LM.strip (t := 7) rfl rfl rfl ?_
   refine LM.val (ov_field Tryz.underlying63 rfl Tryz.sizeOf3 rfl (k := 4) rfl rfl) ?_
   refine LM.strip (t := 7) rfl rfl rfl ?_
   first | refine LM.rd (om_ld Tryz.isAgg3 rfl rfl) ?_
   refine LM.strip (t := 7) rfl rfl rfl ?_
   refine LM.val (ov_eql rfl rfl) ?_
   refine LM.val (ov_pickT rfl rfl) ?_
   refine LM.val (ov_assign rfl) ?_
   refine LM.nil ?_
   refine QM.sub (e' := [(1, _), (3, _)]) ⟨rfl, rfl, trivial⟩ ?_
   refine QM.meetK (_) ⟨(by first | rfl | exact lk rfl (by congr 1; omega) | exact lk rfl (by simp)), rfl, trivial⟩ (by (repeat' (first | exact SubM.nil _ | refine SubM.cons rfl ?_ | refine SubM.app ?_))) ?_
   · (simp [h1, -List.getD_eq_getElem?_getD]; done)
  ·
   refine LM.drop (t := 7) rfl rfl rfl ?_
   refine LM.drop (t := 7) rfl rfl rfl ?_
   refine LM.drop (t := 7) rfl rfl rfl ?_
   refine LM.val (ov_pickF rfl rfl) ?_
   refine LM.val (ov_assign rfl) ?_
   refine LM.nil ?_
   refine QM.sub (e' := [(1, _), (3, _)]) ⟨rfl, rfl, trivial⟩ ?_
   refine QM.meetK (_) ⟨(by first | rfl | exact lk rfl (by congr 1; omega) | exact lk rfl (by simp)), rfl, trivial⟩ (by (repeat' (first | exact SubM.nil _ | refine SubM.cons rfl ?_ | refine SubM.app ?_))) ?_
   · (simp [h1, -List.getD_eq_getElem?_getD]; done)
 ·
  rintro q hq
  change QM _ _ _ _ _ ((b1, .cells (fL x).toArray 63 (0, 0)) :: []) _ _ _
  refine QM.then ?_
  refine wpM.seq ?_
  refine wpM.seq ?_
  refine wpM.region ?_
  refine LM.val (ov_field Tryz.underlying63 rfl Tryz.sizeOf4 rfl (k := 0) rfl rfl) ?_
  first | refine LM.rd (om_ld Tryz.isAgg4 rfl rfl) ?_
  refine LM.nil ?_
  refine QM.sub (e' := [(1, _), (3, _), (13, _)]) ⟨rfl, rfl, rfl, trivial⟩ ?_
  refine QM.then ?_
  refine wpM.joinK (α := Bool) (fun q2 => [(3, .bool q2)]) [(1, _)] (fun q2 => (b1, .cells (fL x).toArray 63 (0, 0)) :: []) (fun q2 => q2 = (if x.sh then winB x.rd 16 && winB x.wr 16 else decide (x.rd = 0) && decide (x.wr = 0))) ⟨rfl, trivial⟩ ?_ ?_
  ·
   first | refine wpM.condD rfl (fun h2 => ?_) (fun h2 => ?_) | refine wpM.condB rfl (fun h2 => ?_) (fun h2 => ?_)
   ·
    refine wpM.region ?_
    refine LM.val (ov_field Tryz.underlying63 rfl Tryz.sizeOf3 rfl (k := 3) rfl rfl) ?_
    first | refine LM.rd (om_ld Tryz.isAgg3 rfl rfl) ?_
    refine LM.callE (oc_call (enters_fn Tryz.func48 (by kernel_rfl) rfl) rfl) (fun w hm hc hg => swithin_spec _ _ w) ?_
    refine LM.val (ov_move rfl) ?_
    first | refine LM.splitD (t := 17) rfl (fun h3 => ?_) (fun h3 => ?_) | refine LM.splitB (t := 17) rfl (fun h3 => ?_) (fun h3 => ?_)
    ·
     refine LM.strip (t := 17) rfl rfl rfl ?_
     refine LM.val (ov_field Tryz.underlying63 rfl Tryz.sizeOf3 rfl (k := 4) rfl rfl) ?_
     refine LM.strip (t := 17) rfl rfl rfl ?_
     first | refine LM.rd (om_ld Tryz.isAgg3 rfl rfl) ?_
     refine LM.strip (t := 17) rfl rfl rfl ?_
     refine LM.callE (oc_call (enters_fn Tryz.func48 (by kernel_rfl) rfl) rfl) (fun w hm hc hg => swithin_spec _ _ w) ?_
     refine LM.val (ov_pickT rfl rfl) ?_
     refine LM.val (ov_assign rfl) ?_
     refine LM.nil ?_
     refine QM.sub (e' := [(1, _), (3, _)]) ⟨rfl, rfl, trivial⟩ ?_
     refine QM.meetK (_) ⟨(by first | rfl | exact lk rfl (by congr 1; omega) | exact lk rfl (by simp)), rfl, trivial⟩ (by (repeat' (first | exact SubM.nil _ | refine SubM.cons rfl ?_ | refine SubM.app ?_))) ?_
     · (simp [h2, h3, -List.getD_eq_getElem?_getD]; done)
    ·
     refine LM.drop (t := 17) rfl rfl rfl ?_
     refine LM.drop (t := 17) rfl rfl rfl ?_
     refine LM.drop (t := 17) rfl rfl rfl ?_
     refine LM.val (ov_pickF rfl rfl) ?_
     refine LM.val (ov_assign rfl) ?_
     refine LM.nil ?_
     refine QM.sub (e' := [(1, _), (3, _)]) ⟨rfl, rfl, trivial⟩ ?_
     refine QM.meetK (_) ⟨(by first | rfl | exact lk rfl (by congr 1; omega) | exact lk rfl (by simp)), rfl, trivial⟩ (by (repeat' (first | exact SubM.nil _ | refine SubM.cons rfl ?_ | refine SubM.app ?_))) ?_
     · (simp [h2, h3, -List.getD_eq_getElem?_getD]; done)
   ·
    refine wpM.skip ?_
    refine QM.meetK (_) ⟨(by first | rfl | exact lk rfl (by congr 1; omega) | exact lk rfl (by simp)), rfl, trivial⟩ (by (repeat' (first | exact SubM.nil _ | refine SubM.cons rfl ?_ | refine SubM.app ?_))) ?_
    · first | (simp [h2, -List.getD_eq_getElem?_getD]; done) | (simp_all [-List.getD_eq_getElem?_getD]; done)
  ·
   rintro q2 hq2
   change QM _ _ _ _ _ ((b1, .cells (fL x).toArray 63 (0, 0)) :: []) _ _ _
   refine QM.then ?_
   refine wpM.seq ?_
   refine wpM.region ?_
   refine LM.val (ov_move rfl) ?_
   refine LM.val (ov_move rfl) ?_
   first | refine LM.splitD (t := 23) rfl (fun h4 => ?_) (fun h4 => ?_) | refine LM.splitB (t := 23) rfl (fun h4 => ?_) (fun h4 => ?_)
   ·
    refine LM.strip (t := 23) rfl rfl rfl ?_
    refine LM.val (ov_field Tryz.underlying63 rfl Tryz.sizeOf3 rfl (k := 1) rfl rfl) ?_
    refine LM.strip (t := 23) rfl rfl rfl ?_
    first | refine LM.rd (om_ld Tryz.isAgg3 rfl rfl) ?_
    refine LM.strip (t := 23) rfl rfl rfl ?_
    refine LM.callE (oc_call (enters_fn Tryz.func48 (by kernel_rfl) rfl) rfl) (fun w hm hc hg => swithin_spec _ _ w) ?_
    refine LM.val (ov_pickT rfl rfl) ?_
    refine LM.val (ov_move rfl) ?_
    first | refine LM.splitD (t := 28) rfl (fun h5 => ?_) (fun h5 => ?_) | refine LM.splitB (t := 28) rfl (fun h5 => ?_) (fun h5 => ?_)
    ·
     refine LM.strip (t := 28) rfl rfl rfl ?_
     refine LM.val (ov_field Tryz.underlying63 rfl Tryz.sizeOf3 rfl (k := 2) rfl rfl) ?_
     refine LM.strip (t := 28) rfl rfl rfl ?_
     first | refine LM.rd (om_ld Tryz.isAgg3 rfl rfl) ?_
     refine LM.strip (t := 28) rfl rfl rfl ?_
     refine LM.callE (oc_call (enters_fn Tryz.func48 (by kernel_rfl) rfl) rfl) (fun w hm hc hg => swithin_spec _ _ w) ?_
     refine LM.val (ov_pickT rfl rfl) ?_
     refine LM.val (ov_assign rfl) ?_
     refine LM.nil ?_
     refine QM.sub (e' := [(2, _)]) ⟨rfl, trivial⟩ ?_
     refine QM.then ?_
     refine wpM.ret ?_
     refine QM.leave (.inl rfl) [.tmp 2] Tryz.results53 rfl ?_
     intro w' hm' hc' hg'
     refine ⟨?_, hc'⟩; simp only [resV, lokB, ← hq2]; simp [h4, h5]
    ·
     refine LM.drop (t := 28) rfl rfl rfl ?_
     refine LM.drop (t := 28) rfl rfl rfl ?_
     refine LM.drop (t := 28) rfl rfl rfl ?_
     refine LM.val (ov_pickF rfl rfl) ?_
     refine LM.val (ov_assign rfl) ?_
     refine LM.nil ?_
     refine QM.sub (e' := [(2, _)]) ⟨rfl, trivial⟩ ?_
     refine QM.then ?_
     refine wpM.ret ?_
     refine QM.leave (.inl rfl) [.tmp 2] Tryz.results53 rfl ?_
     intro w' hm' hc' hg'
     refine ⟨?_, hc'⟩; simp only [resV, lokB, ← hq2]; simp [h4, h5]
   ·
    refine LM.drop (t := 23) rfl rfl rfl ?_
    refine LM.drop (t := 23) rfl rfl rfl ?_
    refine LM.drop (t := 23) rfl rfl rfl ?_
    refine LM.val (ov_pickF rfl rfl) ?_
    refine LM.val (ov_move rfl) ?_
    refine LM.drop (t := 28) rfl rfl rfl ?_
    refine LM.drop (t := 28) rfl rfl rfl ?_
    refine LM.drop (t := 28) rfl rfl rfl ?_
    refine LM.val (ov_pickF rfl rfl) ?_
    refine LM.val (ov_assign rfl) ?_
    refine LM.nil ?_
    refine QM.sub (e' := [(2, _)]) ⟨rfl, trivial⟩ ?_
    refine QM.then ?_
    refine wpM.ret ?_
    refine QM.leave (.inl rfl) [.tmp 2] Tryz.results53 rfl ?_
    intro w' hm' hc' hg'
    refine ⟨?_, hc'⟩; simp only [resV, lokB, ← hq2]; simp [h4]

set_option maxRecDepth 100000 in
theorem smay2_spec (x : CLk) (w : World) : Ret Tryz.prog 52 #[.agg (fL x).toArray] w (fun v w' => v = .bool (!lokB x) ∧ Ext w w') := by
 refine Ret.enterM (l := [.agg (fL x).toArray]) Tryz.func52 rfl Tryz.ntmps52 rfl ([]) (no) (Mem.nil w) ?_
 refine wpM.seq ?_
 refine wpM.region ?_
 refine LM.box rfl rfl (fun b1 hb1 => ?_)
 refine LM.val (ov_assign rfl) ?_
 refine LM.nil ?_
 refine QM.sub (e' := [(1, _)]) ⟨rfl, trivial⟩ ?_
 refine QM.then ?_
 refine wpM.seq ?_
 refine wpM.region ?_
 refine LM.rd (om_ldW Tryz.isAgg63 Tryz.sizeOf63 rfl rfl) ?_
 refine LM.callE (oc_call (enters_fn Tryz.func53 (by kernel_rfl) rfl) rfl) (fun w hm hc hg => lockMay_spec x w) ?_
 first | refine LM.val (ov_notD rfl) ?_ | refine LM.val (ov_not rfl) ?_
 refine LM.val (ov_assign rfl) ?_
 refine LM.nil ?_
 refine QM.sub (e' := [(2, _)]) ⟨rfl, trivial⟩ ?_
 refine QM.then ?_
 refine wpM.ret ?_
 refine QM.leave (.inl rfl) [.tmp 2] Tryz.results52 rfl ?_
 intro w' hm' hc' hg'
 exact ⟨rfl, hc'⟩

set_option maxRecDepth 100000 in
theorem ixf_g {xs : List Int} {ad : Option Addr} {n cap : Nat} (w : World) (hn : n = xs.length) (hl : Sr fI 1 xs (.slice ad n cap) w) (hx : xs.length ≤ 1000000) : Ret Tryz.prog 93 #[.slice ad n cap, .func (.func 50) #[] #[]] w (fun v w' => v = .int .i64 (fixI (fun o => (!winB o 16)) xs) ∧ Ext w w') := by
 refine Ret.enterM (l := [.slice ad n cap, .func (.func 50) #[] #[]]) Tryz.func93 rfl Tryz.ntmps93 rfl ([]) (no) (Mem.nil w) ?_
 refine wpM.seq ?_
 refine wpM.region ?_
 refine LM.val (ov_assign rfl) ?_
 refine LM.nil ?_
 refine QM.sub (e' := [(0, _), (1, _)]) ⟨rfl, rfl, trivial⟩ ?_
 refine QM.then ?_
 refine wpM.seq ?_
 refine wpM.seq ?_
 refine wpM.region ?_
 refine LM.val (ov_move rfl) ?_
 refine LM.val (ov_len Tryz.underlying26 rfl) ?_
 refine LM.val (ov_move rfl) ?_
 refine LM.nil ?_
 refine QM.sub (e' := [(0, _), (1, _), (7, _), (8, _)]) ⟨rfl, rfl, rfl, rfl, trivial⟩ ?_
 refine QM.then ?_
 refine wpM.block ?_
 refine wpM.loopK0 (α := Nat) (fun i => [(8, .int .i64 (i : Nat))]) [(0, _), (1, _), (7, _)] (fun i => []) (fun i => i ≤ xs.length ∧ (xs.take i).any (fun o => (!winB o 16)) = false) (fun i => xs.length - i) (0) ⟨(by first | rfl | exact lk rfl (by congr 1; omega) | exact lk rfl (by simp)), rfl, rfl, rfl, trivial⟩ (by (repeat' (first | exact SubM.nil _ | refine SubM.cons rfl ?_ | refine SubM.app ?_))) ⟨Nat.zero_le _, rfl⟩ ?_
 rintro i ⟨hi, ha⟩
 change wpM _ _ _ _ _ _ _ ([]) _ _ _
 refine wpM.seq ?_
 refine wpM.region ?_
 refine LM.val (ov_lss rfl rfl) ?_
 refine LM.nil ?_
 refine QM.sub (e' := [(0, _), (1, _), (7, _), (8, _), (9, _)]) ⟨rfl, rfl, rfl, rfl, rfl, trivial⟩ ?_
 refine QM.then ?_
 refine wpM.seq ?_
 refine wpM.condD rfl (fun h1 => ?_) (fun h1 => ?_)
 ·
  refine wpM.skip ?_
  refine QM.then ?_
  refine wpM.seq ?_
  refine wpM.block ?_
  refine wpM.seq ?_
  refine wpM.region ?_
  refine LM.val (ov_move rfl) ?_
  refine LM.val (ov_assign rfl) ?_
  refine LM.nil ?_
  refine QM.sub (e' := [(0, _), (1, _), (5, _), (7, _), (8, _)]) ⟨rfl, rfl, rfl, rfl, rfl, trivial⟩ ?_
  refine QM.then ?_
  refine wpM.seq ?_
  refine wpM.region ?_
  refine LM.val (ov_move rfl) ?_
  refine LM.val (ov_move rfl) ?_
  refine LM.val (ov_move rfl) ?_
  refine LM.val (ov_idxSN (by first | exact Sr.spt (by assumption) | exact Sl.spt (by assumption)) Tryz.underlying26 Tryz.sizeOf3 rfl rfl (by omega)) ?_
  first | refine LM.rd (om_sl1 (by assumption) (by intro _; rfl) Tryz.isAgg3 rfl rfl (by exact getq 0 (by first | omega | (simp only [List.length_set, List.length_append, List.length_cons, List.length_nil]; omega))) (by rfl)) ?_ | refine LM.rdC (om_sr1 (by assumption) Tryz.isAgg3 rfl rfl (by exact getq 0 (by first | omega | (simp only [List.length_set, List.length_append, List.length_cons, List.length_nil]; omega))) (by rfl) id) ?_ | refine LM.rd (om_ld Tryz.isAgg3 rfl rfl) ?_
  refine LM.callE (oc_callV rfl (enters_fn Tryz.func50 (by kernel_rfl) rfl) rfl) (fun w hm hc hg => smay1_spec _ w) ?_
  refine LM.nil ?_
  refine QM.sub (e' := [(0, _), (1, _), (5, _), (7, _), (8, _), (16, _)]) ⟨rfl, rfl, rfl, rfl, rfl, rfl, trivial⟩ ?_
  refine QM.then ?_
  first | refine wpM.condD rfl (fun h2 => ?_) (fun h2 => ?_) | refine wpM.condB rfl (fun h2 => ?_) (fun h2 => ?_)
  ·
   refine wpM.seq ?_
   refine wpM.region ?_
   refine LM.val (ov_move rfl) ?_
   refine LM.val (ov_assign rfl) ?_
   refine LM.nil ?_
   refine QM.sub (e' := [(4, _)]) ⟨rfl, trivial⟩ ?_
   refine QM.then ?_
   refine wpM.ret ?_
   refine QM.block_ret ?_
   refine QM.then_ret ?_
   refine QM.then_ret ?_
   refine QM.block_ret ?_
   refine QM.then_ret ?_
   refine QM.leave (.inl rfl) [.tmp 4] Tryz.results93 rfl ?_
   intro w' hm' hc' hg'
   exact ⟨by show Value.int .i64 _ = _; rw [fix_hit 0 ha (by omega) (by simpa using h2)], hc'⟩
  ·
   refine wpM.skip ?_
   refine QM.block_normal ?_
   refine QM.then ?_
   refine wpM.region ?_
   refine LM.val (ov_add64 rfl rfl (by omega)) ?_
   refine LM.val (ov_move rfl) ?_
   refine LM.nil ?_
   refine QM.sub (e' := [(0, _), (1, _), (7, _), (8, _)]) ⟨rfl, rfl, rfl, rfl, trivial⟩ ?_
   refine QM.againK (i + 1) ⟨(by first | rfl | exact lk rfl (by congr 1; omega) | exact lk rfl (by simp)), rfl, rfl, rfl, trivial⟩ (by (repeat' (first | exact SubM.nil _ | refine SubM.cons rfl ?_ | refine SubM.app ?_))) (fun _ h => h) ?_ ?_
   · exact ⟨by omega, by rw [any_snoc 0 (by omega), ha, Bool.false_or]; simpa using h2⟩
   · omega
 ·
  refine wpM.exit ?_
  refine QM.then_exit ?_
  refine QM.then_exit ?_
  refine QM.block_hit ?_
  refine QM.then ?_
  refine wpM.seq ?_
  refine wpM.region ?_
  refine LM.val (ov_assign rfl) ?_
  refine LM.nil ?_
  refine QM.sub (e' := [(4, _)]) ⟨rfl, trivial⟩ ?_
  refine QM.then ?_
  refine wpM.ret ?_
  refine QM.leave (.inl rfl) [.tmp 4] Tryz.results93 rfl ?_
  intro w' hm' hc' hg'
  have hil : i = xs.length := (by omega); subst hil; rw [List.take_length] at ha; exact ⟨by show Value.int .i64 _ = _; rw [fix_miss ha], hc'⟩

set_option maxRecDepth 100000 in
theorem cof_g {xs : List Int} {ad : Option Addr} {n cap : Nat} (w : World) (hn : n = xs.length) (hl : Sr fI 1 xs (.slice ad n cap) w) (hx : xs.length ≤ 1000000) : Ret Tryz.prog 49 #[.slice ad n cap, .func (.func 50) #[] #[]] w (fun v w' => v = .bool (xs.any (fun o => (!winB o 16))) ∧ Ext w w') := by
 refine Ret.enterM (l := [.slice ad n cap, .func (.func 50) #[] #[]]) Tryz.func49 rfl Tryz.ntmps49 rfl ([]) (no) (Mem.nil w) ?_
 refine wpM.seq ?_
 refine wpM.region ?_
 refine LM.val (ov_assign rfl) ?_
 refine LM.nil ?_
 refine QM.sub (e' := [(0, _), (1, _)]) ⟨rfl, rfl, trivial⟩ ?_
 refine QM.then ?_
 refine wpM.seq ?_
 refine wpM.region ?_
 refine LM.val (ov_move rfl) ?_
 refine LM.val (ov_move rfl) ?_
 refine LM.callE (oc_call (enters_fn Tryz.func93 (by kernel_rfl) rfl) rfl) (fun w hm hc hg => ixf_g w hn (hl.ext hc) hx) ?_
 refine LM.val (ov_geq rfl rfl) ?_
 refine LM.val (ov_assign rfl) ?_
 refine LM.nil ?_
 refine QM.sub (e' := [(4, _)]) ⟨rfl, trivial⟩ ?_
 refine QM.then ?_
 refine wpM.ret ?_
 refine QM.leave (.inl rfl) [.tmp 4] Tryz.results49 rfl ?_
 intro w' hm' hc' hg'
 exact ⟨by show Value.bool _ = _; rw [← fix_pos], hc'⟩

set_option maxRecDepth 100000 in
theorem ixf_l {xs : List CLk} {ad : Option Addr} {n cap : Nat} (w : World) (hn : n = xs.length) (hl : Sr fL 5 xs (.slice ad n cap) w) (hx : xs.length ≤ 1000000) : Ret Tryz.prog 94 #[.slice ad n cap, .func (.func 52) #[] #[]] w (fun v w' => v = .int .i64 (fixI (fun o => (!lokB o)) xs) ∧ Ext w w') := by
 refine Ret.enterM (l := [.slice ad n cap, .func (.func 52) #[] #[]]) Tryz.func94 rfl Tryz.ntmps94 rfl ([]) (no) (Mem.nil w) ?_
 refine wpM.seq ?_
 refine wpM.region ?_
 refine LM.val (ov_assign rfl) ?_
 refine LM.nil ?_
 refine QM.sub (e' := [(0, _), (1, _)]) ⟨rfl, rfl, trivial⟩ ?_
 refine QM.then ?_
 refine wpM.seq ?_
 refine wpM.seq ?_
 refine wpM.region ?_
 refine LM.val (ov_move rfl) ?_
 refine LM.val (ov_len Tryz.underlying27 rfl) ?_
 refine LM.val (ov_move rfl) ?_
 refine LM.nil ?_
 refine QM.sub (e' := [(0, _), (1, _), (7, _), (8, _)]) ⟨rfl, rfl, rfl, rfl, trivial⟩ ?_
 refine QM.then ?_
 refine wpM.block ?_
 refine wpM.loopK0 (α := Nat) (fun i => [(8, .int .i64 (i : Nat))]) [(0, _), (1, _), (7, _)] (fun i => []) (fun i => i ≤ xs.length ∧ (xs.take i).any (fun o => (!lokB o)) = false) (fun i => xs.length - i) (0) ⟨(by first | rfl | exact lk rfl (by congr 1; omega) | exact lk rfl (by simp)), rfl, rfl, rfl, trivial⟩ (by (repeat' (first | exact SubM.nil _ | refine SubM.cons rfl ?_ | refine SubM.app ?_))) ⟨Nat.zero_le _, rfl⟩ ?_
 rintro i ⟨hi, ha⟩
 change wpM _ _ _ _ _ _ _ ([]) _ _ _
 refine wpM.seq ?_
 refine wpM.region ?_
 refine LM.val (ov_lss rfl rfl) ?_
 refine LM.nil ?_
 refine QM.sub (e' := [(0, _), (1, _), (7, _), (8, _), (9, _)]) ⟨rfl, rfl, rfl, rfl, rfl, trivial⟩ ?_
 refine QM.then ?_
 refine wpM.seq ?_
 refine wpM.condD rfl (fun h1 => ?_) (fun h1 => ?_)
 ·
  refine wpM.skip ?_
  refine QM.then ?_
  refine wpM.seq ?_
  refine wpM.block ?_
  refine wpM.seq ?_
  refine wpM.region ?_
  refine LM.val (ov_move rfl) ?_
  refine LM.val (ov_assign rfl) ?_
  refine LM.nil ?_
  refine QM.sub (e' := [(0, _), (1, _), (5, _), (7, _), (8, _)]) ⟨rfl, rfl, rfl, rfl, rfl, trivial⟩ ?_
  refine QM.then ?_
  refine wpM.seq ?_
  refine wpM.region ?_
  refine LM.val (ov_move rfl) ?_
  refine LM.val (ov_move rfl) ?_
  refine LM.val (ov_move rfl) ?_
  refine LM.val (ov_idxSN (by first | exact Sr.spt (by assumption) | exact Sl.spt (by assumption)) Tryz.underlying27 Tryz.sizeOf63 rfl rfl (by omega)) ?_
  first | refine LM.rd (om_slA (by assumption) (by intro _; rfl) Tryz.isAgg63 Tryz.sizeOf63 rfl (by exact getq default (by first | omega | (simp only [List.length_set, List.length_append, List.length_cons, List.length_nil]; omega)))) ?_ | refine LM.rdC (om_srEA (by assumption) (by intro _; rfl) Tryz.isAgg63 Tryz.sizeOf63 rfl (by exact getq default (by first | omega | (simp only [List.length_set, List.length_append, List.length_cons, List.length_nil]; omega))) id) ?_ | refine LM.rd (om_ldW Tryz.isAgg63 Tryz.sizeOf63 rfl rfl) ?_ | refine LM.rd (om_ldA Tryz.isAgg63 Tryz.sizeOf63 rfl (vs := [_, _, _, _, _]) rfl ⟨rfl, rfl, rfl, rfl, rfl, trivial⟩) ?_
  refine LM.callE (oc_callV rfl (enters_fn Tryz.func52 (by kernel_rfl) rfl) rfl) (fun w hm hc hg => smay2_spec _ w) ?_
  refine LM.nil ?_
  refine QM.sub (e' := [(0, _), (1, _), (5, _), (7, _), (8, _), (16, _)]) ⟨rfl, rfl, rfl, rfl, rfl, rfl, trivial⟩ ?_
  refine QM.then ?_
  first | refine wpM.condD rfl (fun h2 => ?_) (fun h2 => ?_) | refine wpM.condB rfl (fun h2 => ?_) (fun h2 => ?_)
  ·
   refine wpM.seq ?_
   refine wpM.region ?_
   refine LM.val (ov_move rfl) ?_
   refine LM.val (ov_assign rfl) ?_
   refine LM.nil ?_
   refine QM.sub (e' := [(4, _)]) ⟨rfl, trivial⟩ ?_
   refine QM.then ?_
   refine wpM.ret ?_
   refine QM.block_ret ?_
   refine QM.then_ret ?_
   refine QM.then_ret ?_
   refine QM.block_ret ?_
   refine QM.then_ret ?_
   refine QM.leave (.inl rfl) [.tmp 4] Tryz.results94 rfl ?_
   intro w' hm' hc' hg'
   exact ⟨by show Value.int .i64 _ = _; rw [fix_hit default ha (by omega) (by simpa using h2)], hc'⟩
  ·
   refine wpM.skip ?_
   refine QM.block_normal ?_
   refine QM.then ?_
   refine wpM.region ?_
   refine LM.val (ov_add64 rfl rfl (by omega)) ?_
   refine LM.val (ov_move rfl) ?_
   refine LM.nil ?_
   refine QM.sub (e' := [(0, _), (1, _), (7, _), (8, _)]) ⟨rfl, rfl, rfl, rfl, trivial⟩ ?_
   refine QM.againK (i + 1) ⟨(by first | rfl | exact lk rfl (by congr 1; omega) | exact lk rfl (by simp)), rfl, rfl, rfl, trivial⟩ (by (repeat' (first | exact SubM.nil _ | refine SubM.cons rfl ?_ | refine SubM.app ?_))) (fun _ h => h) ?_ ?_
   · exact ⟨by omega, by rw [any_snoc default (by omega), ha, Bool.false_or]; simpa using h2⟩
   · omega
 ·
  refine wpM.exit ?_
  refine QM.then_exit ?_
  refine QM.then_exit ?_
  refine QM.block_hit ?_
  refine QM.then ?_
  refine wpM.seq ?_
  refine wpM.region ?_
  refine LM.val (ov_assign rfl) ?_
  refine LM.nil ?_
  refine QM.sub (e' := [(4, _)]) ⟨rfl, trivial⟩ ?_
  refine QM.then ?_
  refine wpM.ret ?_
  refine QM.leave (.inl rfl) [.tmp 4] Tryz.results94 rfl ?_
  intro w' hm' hc' hg'
  have hil : i = xs.length := (by omega); subst hil; rw [List.take_length] at ha; exact ⟨by show Value.int .i64 _ = _; rw [fix_miss ha], hc'⟩

set_option maxRecDepth 100000 in
theorem cof_l {xs : List CLk} {ad : Option Addr} {n cap : Nat} (w : World) (hn : n = xs.length) (hl : Sr fL 5 xs (.slice ad n cap) w) (hx : xs.length ≤ 1000000) : Ret Tryz.prog 51 #[.slice ad n cap, .func (.func 52) #[] #[]] w (fun v w' => v = .bool (xs.any (fun o => (!lokB o))) ∧ Ext w w') := by
 refine Ret.enterM (l := [.slice ad n cap, .func (.func 52) #[] #[]]) Tryz.func51 rfl Tryz.ntmps51 rfl ([]) (no) (Mem.nil w) ?_
 refine wpM.seq ?_
 refine wpM.region ?_
 refine LM.val (ov_assign rfl) ?_
 refine LM.nil ?_
 refine QM.sub (e' := [(0, _), (1, _)]) ⟨rfl, rfl, trivial⟩ ?_
 refine QM.then ?_
 refine wpM.seq ?_
 refine wpM.region ?_
 refine LM.val (ov_move rfl) ?_
 refine LM.val (ov_move rfl) ?_
 refine LM.callE (oc_call (enters_fn Tryz.func94 (by kernel_rfl) rfl) rfl) (fun w hm hc hg => ixf_l w hn (hl.ext hc) hx) ?_
 refine LM.val (ov_geq rfl rfl) ?_
 refine LM.val (ov_assign rfl) ?_
 refine LM.nil ?_
 refine QM.sub (e' := [(4, _)]) ⟨rfl, trivial⟩ ?_
 refine QM.then ?_
 refine wpM.ret ?_
 refine QM.leave (.inl rfl) [.tmp 4] Tryz.results51 rfl ?_
 intro w' hm' hc' hg'
 exact ⟨by show Value.bool _ = _; rw [← fix_pos], hc'⟩

set_option maxRecDepth 100000 in
theorem misfit_spec {s : StV} (w : World) (hI : s.In w) (hx : s.ps.length ≤ 1000000) : Ret Tryz.prog 39 #[s.val] w (fun v w' => v = .tuple #[.int .i64 (misI s.ls (s.ps.map PgV.c)), .int .i64 (misE s.ls (s.ps.map PgV.c) (misI s.ls (s.ps.map PgV.c)))] ∧ Ext w w') := by
 have hgn := hI.hgn; have hln := hI.hln; have hpn := hI.hpn; have hp := hI.hp; have hg := hI.hg; have hl := hI.hl; have hcl : (s.ps.map PgV.c).length = s.ps.length := List.length_map ..
 refine Ret.enterM (l := [s.val]) Tryz.func39 rfl Tryz.ntmps39 rfl ([]) (no) (Mem.nil w) ?_
 refine wpM.seq ?_
 refine wpM.region ?_
 refine LM.box rfl rfl (fun b1 hb1 => ?_)
 refine LM.val (ov_assign rfl) ?_
 refine LM.val (ov_assign rfl) ?_
 refine LM.nil ?_
 refine QM.sub (e' := [(1, _)]) ⟨rfl, trivial⟩ ?_
 refine QM.then ?_
 refine wpM.seq ?_
 refine wpM.seq ?_
 refine wpM.region ?_
 refine LM.val (ov_field Tryz.underlying30 rfl Tryz.sizeOf28 rfl (k := 4) rfl rfl) ?_
 first | refine LM.rd (om_ld Tryz.isAgg28 rfl rfl) ?_
 refine LM.val (ov_len Tryz.underlying28 rfl) ?_
 refine LM.val (ov_move rfl) ?_
 refine LM.nil ?_
 refine QM.sub (e' := [(1, _), (9, _), (10, _), (11, _)]) ⟨rfl, rfl, rfl, rfl, trivial⟩ ?_
 refine QM.then ?_
 refine wpM.block ?_
 refine wpM.loopK0 (α := Nat) (fun k => [(11, .int .i64 (k : Nat))]) [(1, _), (9, _), (10, _)] (fun k => stB b1 s :: []) (fun k => k ≤ s.ps.length ∧ ((s.ps.map PgV.c).take k).any (misB s.ls (s.pn : Nat)) = false) (fun k => s.ps.length - k) (0) ⟨(by first | rfl | exact lk rfl (by congr 1; omega) | exact lk rfl (by simp)), rfl, rfl, rfl, trivial⟩ (by (repeat' (first | exact SubM.nil _ | refine SubM.cons rfl ?_ | refine SubM.app ?_))) ⟨Nat.zero_le _, rfl⟩ ?_
 rintro k ⟨hk, hap⟩
 change wpM _ _ _ _ _ _ _ (stB b1 s :: []) _ _ _
 refine wpM.seq ?_
 refine wpM.region ?_
 refine LM.val (ov_lss rfl rfl) ?_
 refine LM.nil ?_
 refine QM.sub (e' := [(1, _), (9, _), (10, _), (11, _), (12, _)]) ⟨rfl, rfl, rfl, rfl, rfl, trivial⟩ ?_
 refine QM.then ?_
 refine wpM.seq ?_
 refine wpM.condD rfl (fun h1 => ?_) (fun h1 => ?_)
 ·
  have hpm : s.ps.getD k default ∈ s.ps := List.mem_of_getElem? (getq default (by omega))
  refine wpM.skip ?_
  refine QM.then ?_
  refine wpM.seq ?_
  refine wpM.block ?_
  refine wpM.seq ?_
  refine wpM.region ?_
  refine LM.val (ov_move rfl) ?_
  refine LM.val (ov_idxSN (by first | exact Sr.spt (by assumption) | exact Sl.spt (by assumption)) Tryz.underlying28 Tryz.sizeOf87 rfl rfl (by omega)) ?_
  first | refine LM.rd (om_slA (by assumption) (by intro _; rfl) Tryz.isAgg87 Tryz.sizeOf87 rfl (by exact getq default (by first | omega | (simp only [List.length_set, List.length_append, List.length_cons, List.length_nil]; omega)))) ?_ | refine LM.rdC (om_srEA (by assumption) (by intro _; rfl) Tryz.isAgg87 Tryz.sizeOf87 rfl (by exact getq default (by first | omega | (simp only [List.length_set, List.length_append, List.length_cons, List.length_nil]; omega))) id) ?_ | refine LM.rd (om_ldW Tryz.isAgg87 Tryz.sizeOf87 rfl rfl) ?_ | refine LM.rd (om_ldA Tryz.isAgg87 Tryz.sizeOf87 rfl (vs := [_, _]) rfl ⟨rfl, rfl, trivial⟩) ?_
  refine LM.alloc Tryz.zeroValue87 rfl (fun b5 hb5 => ?_)
  refine LM.val (ov_assign rfl) ?_
  refine LM.stW Tryz.sizeOf87 rfl rfl rfl rfl (by first | rfl | decide | (simp; done)) (fun hlt => absurd hlt (by omega)) ?_
  refine LM.nil ?_
  refine QM.sub (e' := [(1, _), (4, _), (5, _), (9, _), (10, _), (11, _)]) ⟨rfl, rfl, rfl, rfl, rfl, rfl, trivial⟩ ?_
  refine QM.then ?_
  refine wpM.seq ?_
  refine wpM.region ?_
  refine LM.rd (om_ldW Tryz.isAgg87 Tryz.sizeOf87 rfl rfl) ?_
  refine LM.val (ov_field Tryz.underlying30 rfl Tryz.sizeOf27 rfl (k := 3) rfl rfl) ?_
  first | refine LM.rd (om_ld Tryz.isAgg27 rfl rfl) ?_
  refine LM.val (ov_field Tryz.underlying30 rfl Tryz.sizeOf28 rfl (k := 4) rfl rfl) ?_
  first | refine LM.rd (om_ld Tryz.isAgg28 rfl rfl) ?_
  refine LM.val (ov_len Tryz.underlying28 rfl) ?_
  refine LM.callE (oc_call (enters_fn Tryz.func86 (by kernel_rfl) rfl) rfl) (fun w hm hc hg => check_spec (s.pn : Nat) w (hI.ops _ hpm).1 ((hI.ops _ hpm).2.ext hc) hln (hl.ext hc)) ?_
  refine LM.val (ov_move rfl) ?_
  refine LM.val (ov_extract rfl rfl) ?_
  refine LM.val (ov_extract rfl rfl) ?_
  refine LM.val (ov_assign rfl) ?_
  refine LM.val (ov_assign rfl) ?_
  refine LM.nil ?_
  refine QM.sub (e' := [(1, _), (4, _), (7, _), (9, _), (10, _), (11, _)]) ⟨rfl, rfl, rfl, rfl, rfl, rfl, trivial⟩ ?_
  refine QM.then ?_
  refine wpM.seq ?_
  refine wpM.region ?_
  refine LM.val (ov_move rfl) ?_
  refine LM.val (ov_neq rfl rfl) ?_
  refine LM.nil ?_
  refine QM.sub (e' := [(1, _), (4, _), (7, _), (9, _), (10, _), (11, _), (27, _)]) ⟨rfl, rfl, rfl, rfl, rfl, rfl, rfl, trivial⟩ ?_
  refine QM.then ?_
  refine wpM.condD rfl (fun h2 => ?_) (fun h2 => ?_)
  ·
   refine wpM.seq ?_
   refine wpM.region ?_
   refine LM.val (ov_move rfl) ?_
   refine LM.val (ov_move rfl) ?_
   refine LM.val (ov_assign rfl) ?_
   refine LM.val (ov_assign rfl) ?_
   refine LM.nil ?_
   refine QM.sub (e' := [(2, _), (3, _)]) ⟨rfl, rfl, trivial⟩ ?_
   refine QM.then ?_
   refine wpM.ret ?_
   refine QM.block_ret ?_
   refine QM.then_ret ?_
   refine QM.then_ret ?_
   refine QM.block_ret ?_
   refine QM.then_ret ?_
   refine QM.leave (.inl rfl) [.tmp 2, .tmp 3] Tryz.results39 rfl ?_
   intro w' hm' hc' hg'
   have e : misI s.ls (s.ps.map PgV.c) = (k : Nat) := fix_hit default (by rw [hcl, ← hpn]; exact hap) (by rw [hcl]; omega) (by rw [map_getD, hcl, ← hpn]; unfold misB; exact decide_eq_true h2); refine ⟨?_, hc'⟩; rw [e]; unfold misE; rw [if_neg (by omega), Int.toNat_natCast, map_getD, hcl, ← hpn]; rfl
  ·
   refine wpM.skip ?_
   refine QM.block_normal ?_
   refine QM.then ?_
   refine wpM.region ?_
   refine LM.val (ov_add64 rfl rfl (by omega)) ?_
   refine LM.val (ov_move rfl) ?_
   refine LM.nil ?_
   refine QM.sub (e' := [(1, _), (9, _), (10, _), (11, _)]) ⟨rfl, rfl, rfl, rfl, trivial⟩ ?_
   refine QM.againK (k + 1) ⟨(by first | rfl | exact lk rfl (by congr 1; omega) | exact lk rfl (by simp)), rfl, rfl, rfl, trivial⟩ (by (repeat' (first | exact SubM.nil _ | refine SubM.cons rfl ?_ | refine SubM.app ?_))) (fun _ h => h) ?_ ?_
   · exact ⟨by omega, by rw [any_snoc default (by rw [hcl]; omega), hap, Bool.false_or, map_getD]; unfold misB; simpa using h2⟩
   · omega
 ·
  refine wpM.exit ?_
  refine QM.then_exit ?_
  refine QM.then_exit ?_
  refine QM.block_hit ?_
  refine QM.then ?_
  refine wpM.seq ?_
  refine wpM.region ?_
  refine LM.val (ov_assign rfl) ?_
  refine LM.val (ov_assign rfl) ?_
  refine LM.nil ?_
  refine QM.sub (e' := [(2, _), (3, _)]) ⟨rfl, rfl, trivial⟩ ?_
  refine QM.then ?_
  refine wpM.ret ?_
  refine QM.leave (.inl rfl) [.tmp 2, .tmp 3] Tryz.results39 rfl ?_
  intro w' hm' hc' hg'
  have hkp : k = s.ps.length := (by omega); rw [hkp, List.take_of_length_le (by omega)] at hap; have e : misI s.ls (s.ps.map PgV.c) = -1 := fix_miss (by rw [hcl, ← hpn]; exact hap); refine ⟨?_, hc'⟩; rw [e]; rfl

set_option maxRecDepth 100000 in
theorem mayS_spec {s : StV} (w : World) (hI : s.In w) : Ret Tryz.prog 14 #[s.val] w (fun v w' => v = .bool (mayS s.C) ∧ Ext w w') := by
 have hgn := hI.hgn; have hln := hI.hln; have hpn := hI.hpn; have hp := hI.hp; have hg := hI.hg; have hl := hI.hl; have hcl : (s.ps.map PgV.c).length = s.ps.length := List.length_map ..
 refine Ret.enterM (l := [s.val]) Tryz.func14 rfl Tryz.ntmps14 rfl ([]) (no) (Mem.nil w) ?_
 refine wpM.seq ?_
 refine wpM.region ?_
 refine LM.box rfl rfl (fun b1 hb1 => ?_)
 refine LM.val (ov_assign rfl) ?_
 refine LM.nil ?_
 refine QM.sub (e' := [(1, _)]) ⟨rfl, trivial⟩ ?_
 refine QM.then ?_
 refine wpM.seq ?_
 refine wpM.block ?_
 refine wpM.seq ?_
 refine wpM.region ?_
 refine LM.val (ov_field Tryz.underlying30 rfl Tryz.sizeOf3 rfl (k := 0) rfl rfl) ?_
 first | refine LM.rd (om_ld Tryz.isAgg3 rfl rfl) ?_
 refine LM.callE (oc_call (enters_fn Tryz.func48 (by kernel_rfl) rfl) rfl) (fun w hm hc hg => swithin_spec _ _ w) ?_
 first | refine LM.val (ov_notD rfl) ?_ | refine LM.val (ov_not rfl) ?_
 refine LM.val (ov_move rfl) ?_
 first | refine LM.splitD (t := 10) rfl (fun h1 => ?_) (fun h1 => ?_) | refine LM.splitB (t := 10) rfl (fun h1 => ?_) (fun h1 => ?_)
 ·
  refine LM.drop (t := 10) rfl rfl rfl ?_
  refine LM.drop (t := 10) rfl rfl rfl ?_
  refine LM.drop (t := 10) rfl rfl rfl ?_
  refine LM.drop (t := 10) rfl rfl rfl ?_
  refine LM.val (ov_pickT rfl rfl) ?_
  refine LM.val (ov_assign rfl) ?_
  refine LM.nil ?_
  refine QM.sub (e' := [(1, _), (5, _)]) ⟨rfl, rfl, trivial⟩ ?_
  refine QM.then ?_
  refine wpM.condT rfl ?_
  refine wpM.seq ?_
  refine wpM.region ?_
  refine LM.val (ov_assign rfl) ?_
  refine LM.nil ?_
  refine QM.sub (e' := [(2, _)]) ⟨rfl, trivial⟩ ?_
  refine QM.then ?_
  refine wpM.ret ?_
  refine QM.block_ret ?_
  refine QM.then_ret ?_
  refine QM.leave (.inl rfl) [.tmp 2] Tryz.results14 rfl ?_
  intro w' hm' hc' hg'
  refine ⟨?_, hc'⟩; rw [mayS_head (by rw [head_eq hgn hln hpn]; simp [h1])]; rfl
 ·
  refine LM.strip (t := 10) rfl rfl rfl ?_
  refine LM.val (ov_field Tryz.underlying30 rfl Tryz.sizeOf3 rfl (k := 1) rfl rfl) ?_
  refine LM.strip (t := 10) rfl rfl rfl ?_
  first | refine LM.rd (om_ld Tryz.isAgg3 rfl rfl) ?_
  refine LM.strip (t := 10) rfl rfl rfl ?_
  refine LM.callE (oc_call (enters_fn Tryz.func48 (by kernel_rfl) rfl) rfl) (fun w hm hc hg => swithin_spec _ _ w) ?_
  refine LM.strip (t := 10) rfl rfl rfl ?_
  first | refine LM.val (ov_notD rfl) ?_ | refine LM.val (ov_not rfl) ?_
  refine LM.val (ov_pickF rfl rfl) ?_
  refine LM.val (ov_assign rfl) ?_
  refine LM.nil ?_
  refine QM.sub (e' := [(1, _), (5, _)]) ⟨rfl, rfl, trivial⟩ ?_
  refine QM.then ?_
  first | refine wpM.condD rfl (fun h2 => ?_) (fun h2 => ?_) | refine wpM.condB rfl (fun h2 => ?_) (fun h2 => ?_)
  ·
   refine wpM.seq ?_
   refine wpM.region ?_
   refine LM.val (ov_assign rfl) ?_
   refine LM.nil ?_
   refine QM.sub (e' := [(2, _)]) ⟨rfl, trivial⟩ ?_
   refine QM.then ?_
   refine wpM.ret ?_
   refine QM.block_ret ?_
   refine QM.then_ret ?_
   refine QM.leave (.inl rfl) [.tmp 2] Tryz.results14 rfl ?_
   intro w' hm' hc' hg'
   refine ⟨?_, hc'⟩; rw [mayS_head (by rw [head_eq hgn hln hpn]; simp [h1, h2])]; rfl
  ·
   refine wpM.seq ?_
   refine wpM.region ?_
   refine LM.val (ov_field Tryz.underlying30 rfl Tryz.sizeOf26 rfl (k := 2) rfl rfl) ?_
   first | refine LM.rd (om_ld Tryz.isAgg26 rfl rfl) ?_
   refine LM.val (ov_len Tryz.underlying26 rfl) ?_
   refine LM.callE (oc_call (enters_fn Tryz.func48 (by kernel_rfl) rfl) rfl) (fun w hm hc hg => swithin_spec _ _ w) ?_
   first | refine LM.val (ov_notD rfl) ?_ | refine LM.val (ov_not rfl) ?_
   refine LM.val (ov_move rfl) ?_
   first | refine LM.splitD (t := 22) rfl (fun h3 => ?_) (fun h3 => ?_) | refine LM.splitB (t := 22) rfl (fun h3 => ?_) (fun h3 => ?_)
   ·
    refine LM.drop (t := 22) rfl rfl rfl ?_
    refine LM.drop (t := 22) rfl rfl rfl ?_
    refine LM.drop (t := 22) rfl rfl rfl ?_
    refine LM.val (ov_pickT rfl rfl) ?_
    refine LM.val (ov_assign rfl) ?_
    refine LM.nil ?_
    refine QM.sub (e' := [(1, _), (16, _)]) ⟨rfl, rfl, trivial⟩ ?_
    refine QM.then ?_
    refine wpM.condT rfl ?_
    refine wpM.seq ?_
    refine wpM.region ?_
    refine LM.val (ov_assign rfl) ?_
    refine LM.nil ?_
    refine QM.sub (e' := [(2, _)]) ⟨rfl, trivial⟩ ?_
    refine QM.then ?_
    refine wpM.ret ?_
    refine QM.block_ret ?_
    refine QM.then_ret ?_
    refine QM.leave (.inl rfl) [.tmp 2] Tryz.results14 rfl ?_
    intro w' hm' hc' hg'
    refine ⟨?_, hc'⟩; rw [mayS_head (by rw [head_eq hgn hln hpn]; simp [h1, h2, h3])]; rfl
   ·
    refine LM.strip (t := 22) rfl rfl rfl ?_
    refine LM.val (ov_field Tryz.underlying30 rfl Tryz.sizeOf26 rfl (k := 2) rfl rfl) ?_
    refine LM.strip (t := 22) rfl rfl rfl ?_
    first | refine LM.rd (om_ld Tryz.isAgg26 rfl rfl) ?_
    refine LM.strip (t := 22) rfl rfl rfl ?_
    refine LM.callE (oc_call (enters_fn Tryz.func49 (by kernel_rfl) rfl) rfl) (fun w hm hc hg => cof_g w hgn (hI.hg.ext hc) (by have h9 : winB (s.gn : Int) 4 = true := (by simpa using h3); have := (winL _ _).1 h9; omega)) ?_
    refine LM.val (ov_pickF rfl rfl) ?_
    refine LM.val (ov_assign rfl) ?_
    refine LM.nil ?_
    refine QM.sub (e' := [(1, _), (16, _)]) ⟨rfl, rfl, trivial⟩ ?_
    refine QM.then ?_
    first | refine wpM.condD rfl (fun h4 => ?_) (fun h4 => ?_) | refine wpM.condB rfl (fun h4 => ?_) (fun h4 => ?_)
    ·
     refine wpM.seq ?_
     refine wpM.region ?_
     refine LM.val (ov_assign rfl) ?_
     refine LM.nil ?_
     refine QM.sub (e' := [(2, _)]) ⟨rfl, trivial⟩ ?_
     refine QM.then ?_
     refine wpM.ret ?_
     refine QM.block_ret ?_
     refine QM.then_ret ?_
     refine QM.leave (.inl rfl) [.tmp 2] Tryz.results14 rfl ?_
     intro w' hm' hc' hg'
     refine ⟨?_, hc'⟩; rw [mayS_gs (s := s.C) (by show s.gs.all _ = false; rw [all_any, h4]; rfl)]; rfl
    ·
     refine wpM.seq ?_
     refine wpM.region ?_
     refine LM.val (ov_field Tryz.underlying30 rfl Tryz.sizeOf27 rfl (k := 3) rfl rfl) ?_
     first | refine LM.rd (om_ld Tryz.isAgg27 rfl rfl) ?_
     refine LM.val (ov_len Tryz.underlying27 rfl) ?_
     refine LM.val (ov_gtr rfl rfl) ?_
     refine LM.val (ov_move rfl) ?_
     refine LM.splitD (t := 32) rfl (fun h5 => ?_) (fun h5 => ?_)
     ·
      refine LM.drop (t := 32) rfl rfl rfl ?_
      refine LM.drop (t := 32) rfl rfl rfl ?_
      refine LM.drop (t := 32) rfl rfl rfl ?_
      refine LM.val (ov_pickT rfl rfl) ?_
      refine LM.val (ov_assign rfl) ?_
      refine LM.nil ?_
      refine QM.sub (e' := [(1, _), (27, _)]) ⟨rfl, rfl, trivial⟩ ?_
      refine QM.then ?_
      refine wpM.condT rfl ?_
      refine wpM.seq ?_
      refine wpM.region ?_
      refine LM.val (ov_assign rfl) ?_
      refine LM.nil ?_
      refine QM.sub (e' := [(2, _)]) ⟨rfl, trivial⟩ ?_
      refine QM.then ?_
      refine wpM.ret ?_
      refine QM.block_ret ?_
      refine QM.then_ret ?_
      refine QM.leave (.inl rfl) [.tmp 2] Tryz.results14 rfl ?_
      intro w' hm' hc' hg'
      refine ⟨?_, hc'⟩; rw [mayS_head (by rw [head_eq hgn hln hpn]; simp [h1, h2, h3, h4, h5])]; rfl
     ·
      refine LM.strip (t := 32) rfl rfl rfl ?_
      refine LM.val (ov_field Tryz.underlying30 rfl Tryz.sizeOf27 rfl (k := 3) rfl rfl) ?_
      refine LM.strip (t := 32) rfl rfl rfl ?_
      first | refine LM.rd (om_ld Tryz.isAgg27 rfl rfl) ?_
      refine LM.strip (t := 32) rfl rfl rfl ?_
      refine LM.callE (oc_call (enters_fn Tryz.func51 (by kernel_rfl) rfl) rfl) (fun w hm hc hg => cof_l w hln (hl.ext hc) (by omega)) ?_
      refine LM.val (ov_pickF rfl rfl) ?_
      refine LM.val (ov_assign rfl) ?_
      refine LM.nil ?_
      refine QM.sub (e' := [(1, _), (27, _)]) ⟨rfl, rfl, trivial⟩ ?_
      refine QM.then ?_
      first | refine wpM.condD rfl (fun h6 => ?_) (fun h6 => ?_) | refine wpM.condB rfl (fun h6 => ?_) (fun h6 => ?_)
      ·
       refine wpM.seq ?_
       refine wpM.region ?_
       refine LM.val (ov_assign rfl) ?_
       refine LM.nil ?_
       refine QM.sub (e' := [(2, _)]) ⟨rfl, trivial⟩ ?_
       refine QM.then ?_
       refine wpM.ret ?_
       refine QM.block_ret ?_
       refine QM.then_ret ?_
       refine QM.leave (.inl rfl) [.tmp 2] Tryz.results14 rfl ?_
       intro w' hm' hc' hg'
       refine ⟨?_, hc'⟩; rw [mayS_ls (s := s.C) (by show s.ls.all _ = false; rw [all_any, h6]; rfl)]; rfl
      ·
       refine wpM.seq ?_
       refine wpM.region ?_
       refine LM.val (ov_field Tryz.underlying30 rfl Tryz.sizeOf28 rfl (k := 4) rfl rfl) ?_
       first | refine LM.rd (om_ld Tryz.isAgg28 rfl rfl) ?_
       refine LM.val (ov_len Tryz.underlying28 rfl) ?_
       refine LM.callE (oc_call (enters_fn Tryz.func48 (by kernel_rfl) rfl) rfl) (fun w hm hc hg => swithin_spec _ _ w) ?_
       first | refine LM.val (ov_notD rfl) ?_ | refine LM.val (ov_not rfl) ?_
       refine LM.val (ov_assign rfl) ?_
       refine LM.nil ?_
       refine QM.sub (e' := [(1, _), (37, _)]) ⟨rfl, rfl, trivial⟩ ?_
       refine QM.then ?_
       first | refine wpM.condD rfl (fun h7 => ?_) (fun h7 => ?_) | refine wpM.condB rfl (fun h7 => ?_) (fun h7 => ?_)
       ·
        refine wpM.seq ?_
        refine wpM.region ?_
        refine LM.val (ov_assign rfl) ?_
        refine LM.nil ?_
        refine QM.sub (e' := [(2, _)]) ⟨rfl, trivial⟩ ?_
        refine QM.then ?_
        refine wpM.ret ?_
        refine QM.block_ret ?_
        refine QM.then_ret ?_
        refine QM.leave (.inl rfl) [.tmp 2] Tryz.results14 rfl ?_
        intro w' hm' hc' hg'
        refine ⟨?_, hc'⟩; rw [mayS_head (by rw [head_eq hgn hln hpn]; simp [h1, h2, h3, h4, h5, h6, h7])]; rfl
       ·
        refine wpM.skip ?_
        refine QM.block_normal ?_
        refine QM.then ?_
        refine wpM.seq ?_
        refine wpM.region ?_
        refine LM.rd (om_ldW Tryz.isAgg30 Tryz.sizeOf30 rfl rfl) ?_
        refine LM.callE (oc_call (enters_fn Tryz.func39 (by kernel_rfl) rfl) rfl) (fun w hm hc hg => misfit_spec w (hI.ext hc) (by have h9 : winB (s.pn : Int) 8 = true := (by simpa using h7); have := (winL _ _).1 h9; omega)) ?_
        refine LM.val (ov_move rfl) ?_
        refine LM.val (ov_extract rfl rfl) ?_
        refine LM.val (ov_extract rfl rfl) ?_
        refine LM.val (ov_assign rfl) ?_
        refine LM.val (ov_assign rfl) ?_
        refine LM.nil ?_
        refine QM.sub (e' := [(3, _)]) ⟨rfl, trivial⟩ ?_
        refine QM.then ?_
        refine wpM.seq ?_
        refine wpM.region ?_
        refine LM.val (ov_move rfl) ?_
        refine LM.val (ov_lss rfl rfl) ?_
        refine LM.val (ov_assign rfl) ?_
        refine LM.nil ?_
        refine QM.sub (e' := [(2, _)]) ⟨rfl, trivial⟩ ?_
        refine QM.then ?_
        refine wpM.ret ?_
        refine QM.leave (.inl rfl) [.tmp 2] Tryz.results14 rfl ?_
        intro w' hm' hc' hg'
        have hhd : headB s.C = true := (by rw [head_eq hgn hln hpn]; simp [h1, h2, h3, h4, h5, h6, h7]); have hgs : s.gs.all (fun n => winB n 16) = true := (by rw [all_any, h4]; rfl); have hls : s.ls.all lokB = true := (by rw [all_any, h6]; rfl); have hmi : decide (misI s.ls (s.ps.map PgV.c) < 0) = !(s.ps.map PgV.c).any (misB s.ls (s.ps.map PgV.c).length) := (by unfold misI; rw [← fix_pos, ← decide_not]; exact decide_eq_decide.2 (by omega)); refine ⟨?_, hc'⟩; rw [mayS_split, hhd]; show Value.bool (decide (misI s.ls (s.ps.map PgV.c) < 0)) = Value.bool (true && (s.gs.all (fun n => winB n 16) && (s.ls.all lokB && !(s.ps.map PgV.c).any (misB s.ls (s.ps.map PgV.c).length)))); rw [hmi, hgs, hls]; rfl

end Go.Eng
set_option linter.unusedVariables false
set_option linter.unusedSimpArgs false
namespace Go.Eng
open Go Go.RowKit

structure Act where
  k : Int
  a : Int
  b : Int
  c : Int
  d : Int
deriving DecidableEq
instance : Inhabited Act := ⟨⟨0, 0, 0, 0, 0⟩⟩
def fA (o : Act) : List Value := [.int .i64 o.k, .int .i64 o.a, .int .i64 o.b, .int .i64 o.c, .int .i64 o.d]
/-! what is parsed may be -/
end Go.Eng
set_option linter.unusedVariables false
set_option linter.unusedSimpArgs false
namespace Go.Eng
open Go Go.Proofs Go.RowKit

end Go.Eng
set_option linter.unusedVariables false
set_option linter.unusedSimpArgs false
namespace Go.Eng
open Go Go.Proofs Go.RowKit

set_option maxRecDepth 100000 in
theorem eqo_spec {xs ys : List COp} {ad1 ad2 : Option Addr} {n1 n2 cap1 cap2 : Nat} (w : World) (hn1 : n1 = xs.length) (hl1 : Sr fO 3 xs (.slice ad1 n1 cap1) w) (hn2 : n2 = ys.length) (hl2 : Sr fO 3 ys (.slice ad2 n2 cap2) w) (hx : xs.length ≤ 1000000000) : Ret Tryz.prog 107 #[.slice ad1 n1 cap1, .slice ad2 n2 cap2] w (fun v w' => v = .bool (decide (xs = ys)) ∧ Ext w w') := by
 refine Ret.enterM (l := [.slice ad1 n1 cap1, .slice ad2 n2 cap2]) Tryz.func107 rfl Tryz.ntmps107 rfl ([]) (no) (Mem.nil w) ?_
 refine wpM.seq ?_
 refine wpM.region ?_
 refine LM.val (ov_assign rfl) ?_
 refine LM.nil ?_
 refine QM.sub (e' := [(0, _), (1, _)]) ⟨rfl, rfl, trivial⟩ ?_
 refine QM.then ?_
 refine wpM.seq ?_
 refine wpM.seq ?_
 refine wpM.region ?_
 refine LM.val (ov_move rfl) ?_
 refine LM.val (ov_len Tryz.underlying85 rfl) ?_
 refine LM.val (ov_move rfl) ?_
 refine LM.val (ov_len Tryz.underlying85 rfl) ?_
 refine LM.val (ov_neq rfl rfl) ?_
 refine LM.nil ?_
 refine QM.sub (e' := [(0, _), (1, _), (10, _)]) ⟨rfl, rfl, rfl, trivial⟩ ?_
 refine QM.then ?_
 refine wpM.condD rfl (fun h1 => ?_) (fun h1 => ?_)
 ·
  refine wpM.seq ?_
  refine wpM.region ?_
  refine LM.val (ov_assign rfl) ?_
  refine LM.nil ?_
  refine QM.sub (e' := [(4, _)]) ⟨rfl, trivial⟩ ?_
  refine QM.then ?_
  refine wpM.ret ?_
  refine QM.then_ret ?_
  refine QM.leave (.inl rfl) [.tmp 4] Tryz.results107 rfl ?_
  intro w' hm' hc' hg'
  refine ⟨?_, hc'⟩; show Value.bool false = _; rw [decide_eq_false (show ¬ xs = ys by intro q; have := congrArg List.length q; omega)]
 ·
  refine wpM.skip ?_
  refine QM.then ?_
  refine wpM.seq ?_
  refine wpM.seq ?_
  refine wpM.region ?_
  refine LM.val (ov_move rfl) ?_
  refine LM.val (ov_len Tryz.underlying85 rfl) ?_
  refine LM.val (ov_move rfl) ?_
  refine LM.nil ?_
  refine QM.sub (e' := [(0, _), (1, _), (12, _), (13, _)]) ⟨rfl, rfl, rfl, rfl, trivial⟩ ?_
  refine QM.then ?_
  refine wpM.block ?_
  refine wpM.loopK0 (α := Nat) (fun i => [(13, .int .i64 (i : Nat))]) [(0, _), (1, _), (12, _)] (fun i => []) (fun i => i ≤ xs.length ∧ xs.take i = ys.take i) (fun i => xs.length - i) (0) ⟨(by first | rfl | exact lk rfl (by congr 1; omega) | exact lk rfl (by simp)), rfl, rfl, rfl, trivial⟩ (by (repeat' (first | exact SubM.nil _ | refine SubM.cons rfl ?_ | refine SubM.app ?_))) ⟨Nat.zero_le _, rfl⟩ ?_
  rintro i ⟨hi, ha⟩
  change wpM _ _ _ _ _ _ _ ([]) _ _ _
  refine wpM.seq ?_
  refine wpM.region ?_
  refine LM.val (ov_lss rfl rfl) ?_
  refine LM.nil ?_
  refine QM.sub (e' := [(0, _), (1, _), (12, _), (13, _), (14, _)]) ⟨rfl, rfl, rfl, rfl, rfl, trivial⟩ ?_
  refine QM.then ?_
  refine wpM.seq ?_
  refine wpM.condD rfl (fun h2 => ?_) (fun h2 => ?_)
  ·
   refine wpM.skip ?_
   refine QM.then ?_
   refine wpM.seq ?_
   refine wpM.block ?_
   refine wpM.seq ?_
   refine wpM.region ?_
   refine LM.val (ov_move rfl) ?_
   refine LM.val (ov_assign rfl) ?_
   refine LM.nil ?_
   refine QM.sub (e' := [(0, _), (1, _), (5, _), (12, _), (13, _)]) ⟨rfl, rfl, rfl, rfl, rfl, trivial⟩ ?_
   refine QM.then ?_
   refine wpM.seq ?_
   refine wpM.draw [(0, 0), (1, 0), (2, 0), (3, 1), (4, 0), (5, 0), (6, 0), (7, 1), (8, 0)] (by kernel_rfl) (by kernel_rfl) ?_
   refine LD.val rfl rfl (ov_move rfl) ?_
   refine LD.val rfl rfl (ov_move rfl) ?_
   refine LD.val rfl rfl (ov_idxSN (by first | exact Sr.spt (by assumption) | exact Sl.spt (by assumption)) Tryz.underlying85 Tryz.sizeOf135 rfl rfl (by omega)) ?_
   first | refine LD.rd rfl rfl (om_slA (by assumption) (by intro _; rfl) Tryz.isAgg135 Tryz.sizeOf135 rfl (by exact getq default (by first | omega | (simp only [List.length_set, List.length_append, List.length_cons, List.length_nil]; omega)))) ?_ | refine LD.rdC rfl rfl (om_srEA (by assumption) (by intro _; rfl) Tryz.isAgg135 Tryz.sizeOf135 rfl (by exact getq default (by first | omega | (simp only [List.length_set, List.length_append, List.length_cons, List.length_nil]; omega))) id) ?_ | refine LD.rd rfl rfl (om_ldW Tryz.isAgg135 Tryz.sizeOf135 rfl rfl) ?_ | refine LD.rd rfl rfl (om_ldA Tryz.isAgg135 Tryz.sizeOf135 rfl (vs := [_, _, _]) rfl ⟨rfl, rfl, rfl, trivial⟩) ?_
   refine LD.val rfl rfl (ov_move rfl) ?_
   refine LD.val rfl rfl (ov_move rfl) ?_
   refine LD.val rfl rfl (ov_idxSN (by first | exact Sr.spt (by assumption) | exact Sl.spt (by assumption)) Tryz.underlying85 Tryz.sizeOf135 rfl rfl (by omega)) ?_
   first | refine LD.rd rfl rfl (om_slA (by assumption) (by intro _; rfl) Tryz.isAgg135 Tryz.sizeOf135 rfl (by exact getq default (by first | omega | (simp only [List.length_set, List.length_append, List.length_cons, List.length_nil]; omega)))) ?_ | refine LD.rdC rfl rfl (om_srEA (by assumption) (by intro _; rfl) Tryz.isAgg135 Tryz.sizeOf135 rfl (by exact getq default (by first | omega | (simp only [List.length_set, List.length_append, List.length_cons, List.length_nil]; omega))) id) ?_ | refine LD.rd rfl rfl (om_ldW Tryz.isAgg135 Tryz.sizeOf135 rfl rfl) ?_ | refine LD.rd rfl rfl (om_ldA Tryz.isAgg135 Tryz.sizeOf135 rfl (vs := [_, _, _]) rfl ⟨rfl, rfl, rfl, trivial⟩) ?_
   refine LD.val rfl rfl (ov_aneq Tryz.underlying135 (by kernel_rfl) (by kernel_rfl) (by decide) rfl rfl (by rfl) ⟨(by first | rfl | trivial), (by first | rfl | trivial), (by first | rfl | trivial), trivial⟩) ?_
   refine LD.nil ?_
   refine QM.sub (e' := [(0, _), (1, _), (12, _), (13, _), (24, _)]) ⟨rfl, rfl, rfl, rfl, rfl, trivial⟩ ?_
   refine QM.then ?_
   first | refine wpM.condD rfl (fun h3 => ?_) (fun h3 => ?_) | refine wpM.condB rfl (fun h3 => ?_) (fun h3 => ?_)
   ·
    refine wpM.seq ?_
    refine wpM.region ?_
    refine LM.val (ov_assign rfl) ?_
    refine LM.nil ?_
    refine QM.sub (e' := [(4, _)]) ⟨rfl, trivial⟩ ?_
    refine QM.then ?_
    refine wpM.ret ?_
    refine QM.block_ret ?_
    refine QM.then_ret ?_
    refine QM.then_ret ?_
    refine QM.block_ret ?_
    refine QM.then_ret ?_
    refine QM.leave (.inl rfl) [.tmp 4] Tryz.results107 rfl ?_
    intro w' hm' hc' hg'
    refine ⟨?_, hc'⟩; show Value.bool false = _; rw [decide_eq_false (show ¬ xs = ys by intro q; rw [fO_veqs, q] at h3; simp at h3)]
   ·
    refine wpM.skip ?_
    refine QM.block_normal ?_
    refine QM.then ?_
    refine wpM.region ?_
    refine LM.val (ov_add64 rfl rfl (by omega)) ?_
    refine LM.val (ov_move rfl) ?_
    refine LM.nil ?_
    refine QM.sub (e' := [(0, _), (1, _), (12, _), (13, _)]) ⟨rfl, rfl, rfl, rfl, trivial⟩ ?_
    refine QM.againK (i + 1) ⟨(by first | rfl | exact lk rfl (by congr 1; omega) | exact lk rfl (by simp)), rfl, rfl, rfl, trivial⟩ (by (repeat' (first | exact SubM.nil _ | refine SubM.cons rfl ?_ | refine SubM.app ?_))) (fun _ h => h) ?_ ?_
    · exact ⟨by omega, eq_at (by omega) (by omega) ha (by rw [fO_veqs] at h3; simpa using h3)⟩
    · omega
  ·
   refine wpM.exit ?_
   refine QM.then_exit ?_
   refine QM.then_exit ?_
   refine QM.block_hit ?_
   refine QM.then ?_
   refine wpM.seq ?_
   refine wpM.region ?_
   refine LM.val (ov_assign rfl) ?_
   refine LM.nil ?_
   refine QM.sub (e' := [(4, _)]) ⟨rfl, trivial⟩ ?_
   refine QM.then ?_
   refine wpM.ret ?_
   refine QM.leave (.inl rfl) [.tmp 4] Tryz.results107 rfl ?_
   intro w' hm' hc' hg'
   refine ⟨?_, hc'⟩; show Value.bool true = _; rw [decide_eq_true]; have e1 : xs.take i = xs := List.take_of_length_le (by omega); have e2 : ys.take i = ys := List.take_of_length_le (by omega); rw [← e1, ← e2, ha]

set_option maxRecDepth 100000 in
theorem psame_spec {xs ys : List COp} {f1 f2 : Bool} {ad1 ad2 : Option Addr} {n1 n2 cap1 cap2 : Nat} (w : World) (hn1 : n1 = xs.length) (hl1 : Sr fO 3 xs (.slice ad1 n1 cap1) w) (hn2 : n2 = ys.length) (hl2 : Sr fO 3 ys (.slice ad2 n2 cap2) w) (hx : xs.length ≤ 1000000000) : Ret Tryz.prog 65 #[pV f1 ad1 n1 cap1, pV f2 ad2 n2 cap2] w (fun v w' => v = .bool (decide (f1 = f2) && decide (xs = ys)) ∧ Ext w w') := by
 refine Ret.enterM (l := [pV f1 ad1 n1 cap1, pV f2 ad2 n2 cap2]) Tryz.func65 rfl Tryz.ntmps65 rfl ([]) (no) (Mem.nil w) ?_
 refine wpM.seq ?_
 refine wpM.region ?_
 refine LM.box rfl rfl (fun b2 hb2 => ?_)
 refine LM.box rfl rfl (fun b3 hb3 => ?_)
 refine LM.val (ov_assign rfl) ?_
 refine LM.nil ?_
 refine QM.sub (e' := [(2, _), (3, _)]) ⟨rfl, rfl, trivial⟩ ?_
 refine QM.then ?_
 refine wpM.seq ?_
 refine wpM.region ?_
 refine LM.val (ov_field Tryz.underlying87 rfl Tryz.sizeOf4 rfl (k := 0) rfl rfl) ?_
 first | refine LM.rd (om_ld Tryz.isAgg4 rfl rfl) ?_
 refine LM.val (ov_field Tryz.underlying87 rfl Tryz.sizeOf4 rfl (k := 0) rfl rfl) ?_
 first | refine LM.rd (om_ld Tryz.isAgg4 rfl rfl) ?_
 refine LM.val (ov_beql Tryz.underlying4 rfl rfl) ?_
 refine LM.val (ov_move rfl) ?_
 refine LM.splitD (t := 10) rfl (fun h1 => ?_) (fun h1 => ?_)
 ·
  refine LM.strip (t := 10) rfl rfl rfl ?_
  refine LM.val (ov_field Tryz.underlying87 rfl Tryz.sizeOf85 rfl (k := 1) rfl rfl) ?_
  refine LM.strip (t := 10) rfl rfl rfl ?_
  first | refine LM.rd (om_ld Tryz.isAgg85 rfl rfl) ?_
  refine LM.strip (t := 10) rfl rfl rfl ?_
  refine LM.val (ov_field Tryz.underlying87 rfl Tryz.sizeOf85 rfl (k := 1) rfl rfl) ?_
  refine LM.strip (t := 10) rfl rfl rfl ?_
  first | refine LM.rd (om_ld Tryz.isAgg85 rfl rfl) ?_
  refine LM.strip (t := 10) rfl rfl rfl ?_
  refine LM.callE (oc_call (enters_fn Tryz.func107 (by kernel_rfl) rfl) rfl) (fun w hm hc hg => eqo_spec w hn1 (hl1.ext hc) hn2 (hl2.ext hc) hx) ?_
  refine LM.val (ov_pickT rfl rfl) ?_
  refine LM.val (ov_assign rfl) ?_
  refine LM.nil ?_
  refine QM.sub (e' := [(4, _)]) ⟨rfl, trivial⟩ ?_
  refine QM.then ?_
  refine wpM.ret ?_
  refine QM.leave (.inl rfl) [.tmp 4] Tryz.results65 rfl ?_
  intro w' hm' hc' hg'
  refine ⟨?_, hc'⟩; show Value.bool (decide (xs = ys)) = _; rw [decide_eq_true (show f1 = f2 by simpa using h1), Bool.true_and]
 ·
  refine LM.drop (t := 10) rfl rfl rfl ?_
  refine LM.drop (t := 10) rfl rfl rfl ?_
  refine LM.drop (t := 10) rfl rfl rfl ?_
  refine LM.drop (t := 10) rfl rfl rfl ?_
  refine LM.drop (t := 10) rfl rfl rfl ?_
  refine LM.val (ov_pickF rfl rfl) ?_
  refine LM.val (ov_assign rfl) ?_
  refine LM.nil ?_
  refine QM.sub (e' := [(4, _)]) ⟨rfl, trivial⟩ ?_
  refine QM.then ?_
  refine wpM.ret ?_
  refine QM.leave (.inl rfl) [.tmp 4] Tryz.results65 rfl ?_
  intro w' hm' hc' hg'
  refine ⟨?_, hc'⟩; show Value.bool false = _; rw [decide_eq_false (show ¬ f1 = f2 by simpa using h1), Bool.false_and]

end Go.Eng
set_option linter.unusedVariables false
set_option linter.unusedSimpArgs false
namespace Go.Eng
open Go Go.Proofs Go.RowKit

theorem tw_eq {p : UInt8 → Bool} : ∀ {l : List UInt8}, l.all p = true → (l.takeWhile p).length = l.length
  | [], _ => rfl
  | c :: l, h => by
    rw [List.all_cons, Bool.and_eq_true] at h
    rw [List.takeWhile_cons, if_pos h.1, List.length_cons, List.length_cons, tw_eq h.2]
theorem tw_all {p : UInt8 → Bool} {l : List UInt8} : ((l.takeWhile p).length = l.length) ↔ l.all p = true := by
  constructor
  · intro h
    have h2 : l.takeWhile p = l := (List.takeWhile_sublist (l := l) p).eq_of_length h
    rw [← h2]; exact all_tw p l
  · intro h
    exact tw_eq h
theorem run_all {p : UInt8 → Bool} {l : List UInt8} : (runL p l 0 = l.length) ↔ l.all p = true := by
  unfold runL; rw [List.drop_zero]; exact tw_all
theorem let_mark (c : UInt8) (h : letB c = true) : markB c = false := by
  unfold letB letN at h; unfold markB markN; simp only [Bool.and_eq_true, decide_eq_true_eq] at h
  simp only [Bool.or_eq_false_iff, decide_eq_false_iff_not]; omega
theorem dig_mark (c : UInt8) (h : digB c = true) : markB c = false := by
  unfold digB digN at h; unfold markB markN; simp only [Bool.and_eq_true, decide_eq_true_eq] at h
  simp only [Bool.or_eq_false_iff, decide_eq_false_iff_not]; omega
def oneT (x : Wrd) : Bool := (oneO x.t 0).2.2 && decide ((oneO x.t 0).2.1 = x.t.length) && decide ((oneO x.t 0).1.k = x.k)
theorem one_text {x : Wrd} (ht : x.t ≠ []) (hk : x.k ≠ 2) : oneT x = (isName x || isMark x) := by
  obtain ⟨k, t, n, p⟩ := x
  match t, ht with
  | c :: l, _ =>
    simp only at hk
    unfold oneT isName isMark oneO
    simp only [List.getD_cons_zero]
    by_cases h1 : letB c = true
    · rw [if_pos h1]
      simp only [Nat.zero_add]
      have e : (decide (runL letB (c :: l) 0 = (c :: l).length) : Bool) = (c :: l).all letB := by rw [Bool.eq_iff_iff, decide_eq_true_eq]; exact run_all
      have e2 : (c :: l).all markB = false := by rw [List.all_cons, let_mark c h1, Bool.false_and]
      rw [e, e2, Bool.and_false, Bool.or_false]
      by_cases h2 : (c :: l).all letB = true
      · have e3 := run_all.2 h2
        rw [h2, e3]; simp [Bool.and_comm, eq_comm]
      · rw [Bool.not_eq_true] at h2; rw [h2]; simp
    · rw [if_neg h1]
      have h1 : letB c = false := by simpa using h1
      have e1 : (c :: l).all letB = false := by rw [List.all_cons, h1, Bool.false_and]
      rw [e1, Bool.and_false, Bool.false_or]
      by_cases h2 : digB c = true
      · rw [if_pos h2]
        have e2 : (c :: l).all markB = false := by rw [List.all_cons, dig_mark c h2, Bool.false_and]
        simp only
        rw [e2, Bool.and_false, decide_eq_false (show ¬ (2 : Int) = k from fun q => hk q.symm), Bool.and_false]
      · rw [if_neg h2]
        simp only [Nat.zero_add]
        by_cases h3 : (c :: l).length = 1
        · have h4 : l = [] := by simpa using h3
          subst h4
          simp [Bool.and_comm, eq_comm]
        · rw [decide_eq_false h3, decide_eq_false (fun q => h3 q.symm)]; simp
theorem textO_2 {x : Wrd} (h : x.k = 2) : textO x = if isNum x then (digF 10 x.n.toNat, 0) else ([], 1) := by
  unfold textO
  split
  · rfl
  split
  · rfl
  rw [if_neg (by unfold isName; rw [h]; simp), if_neg (by unfold isMark; rw [h]; simp)]
theorem isNum_2 {x : Wrd} (h : x.k = 2) : isNum x = !(decide (x.t ≠ []) || decide (x.n < 0) || decide (999999999 < x.n)) := by
  unfold isNum
  rw [decide_eq_true h, Bool.true_and, Bool.not_or, Bool.not_or, ← decide_not, ← decide_not, ← decide_not]
  congr 1
  · congr 1
    · simp
    · exact decide_eq_decide.2 (by omega)
  · exact decide_eq_decide.2 (by omega)
theorem textO_bad {x : Wrd} (h : x.k ≠ 2) (hb : x.n ≠ 0 ∨ x.t = [] ∨ (x.k ≠ 1 ∧ x.k ≠ 3)) : textO x = ([], 1) := by
  unfold textO
  rw [if_neg (by unfold isNum; rw [decide_eq_false h]; simp)]
  split
  · rfl
  rename_i q
  unfold isBad at q
  simp only [Bool.or_eq_true, decide_eq_true_eq, not_or] at q
  rw [if_neg (by unfold isName; rw [decide_eq_false (show ¬ x.k = 1 by rcases hb with h | h | h; exact absurd h q.1; exact absurd h q.2; exact h.1)]; simp), if_neg (by unfold isMark; rw [decide_eq_false (show ¬ x.k = 3 by rcases hb with h | h | h; exact absurd h q.1; exact absurd h q.2; exact h.2)]; simp)]
theorem textO_one {x : Wrd} (h : x.k ≠ 2) (h1 : x.n = 0) (h2 : x.t ≠ []) : textO x = if oneT x then (x.t, 0) else ([], 1) := by
  rw [one_text h2 h]
  unfold textO
  rw [if_neg (by unfold isNum; rw [decide_eq_false h]; simp), if_neg (by unfold isBad; rw [decide_eq_false (fun q => q h1), decide_eq_false h2]; simp)]
  cases isName x <;> cases isMark x <;> rfl
set_option maxRecDepth 100000 in
theorem digits_step {f : Nat} {n : Int} (hf : f ≤ 100) (h0 : 0 ≤ n) (hx : n ≤ 999999999) (ih : 10 ≤ n → ∀ w, Ret Tryz.prog 138 #[.int .i64 (n / 10)] w (fun v w' => v = vS (digF f (n.toNat / 10)) ∧ Ext w w')) (w : World) : Ret Tryz.prog 138 #[.int .i64 n] w (fun v w' => v = vS (digF (f + 1) n.toNat) ∧ Ext w w') := by
 refine Ret.enterM (l := [.int .i64 n]) Tryz.func138 rfl Tryz.ntmps138 rfl ([]) (no) (Mem.nil w) ?_
 refine wpM.seq ?_
 refine wpM.region ?_
 refine LM.val (ov_assign rfl) ?_
 refine LM.nil ?_
 refine QM.sub (e' := [(0, _)]) ⟨rfl, trivial⟩ ?_
 refine QM.then ?_
 refine wpM.seq ?_
 refine wpM.seq ?_
 refine wpM.region ?_
 refine LM.val (ov_move rfl) ?_
 refine LM.val (ov_lss rfl rfl) ?_
 refine LM.nil ?_
 refine QM.sub (e' := [(0, _), (4, _)]) ⟨rfl, rfl, trivial⟩ ?_
 refine QM.then ?_
 refine wpM.condD rfl (fun h1 => ?_) (fun h1 => ?_)
 ·
  refine wpM.seq ?_
  refine wpM.region ?_
  refine LM.val (ov_move rfl) ?_
  refine LM.val (ov_add64 rfl rfl (by omega)) ?_
  refine LM.val (ov_toU8 Tryz.underlying3 Tryz.underlying5 rfl (by omega)) ?_
  refine LM.single Tryz.underlying145 Tryz.sizeOf5 Tryz.zeroValue5 rfl rfl rfl rfl rfl (fun b8 hb8 => ?_)
  refine LM.rd (om_str1 (c := 0) Tryz.underlying145 Tryz.underlying5 Tryz.underlying9 rfl rfl (by omega)) ?_
  refine LM.val (ov_assign rfl) ?_
  refine LM.nil ?_
  refine QM.sub (e' := [(2, _)]) ⟨rfl, trivial⟩ ?_
  refine QM.then ?_
  refine wpM.ret ?_
  refine QM.then_ret ?_
  refine QM.leave (.inl rfl) [.tmp 2] Tryz.results138 rfl ?_
  intro w' hm' hc' hg'
  refine ⟨?_, hc'⟩; show vS _ = _; congr 1; unfold digF; rw [if_pos (by omega), show (48 + n).toNat = 48 + n.toNat by omega]
 ·
  have hdl := digF_len f (n.toNat / 10)
  refine wpM.skip ?_
  refine QM.then ?_
  refine wpM.seq ?_
  refine wpM.keep ([]) (fun _ => True) (.one 0 0 (.one 1 0 (.one 3 0 (.one 4 0 (.one 5 0 (.one 6 0 (.fork 2 (.one 7 2 (.one 8 2 (.one 9 0 (.one 10 0 .nil)))) 7 (.fork 2 (.one 8 2 (.one 9 0 (.one 10 0 .nil))) 8 (.one 2 2 (.one 9 0 (.one 10 0 .nil))))))))))) (by kernel_rfl) (by kernel_rfl) (by (repeat' (first | exact SubM.nil _ | refine SubM.cons rfl ?_ | refine SubM.app ?_))) (fun _ _ => trivial) ?_
  refine KD.val rfl rfl (ov_move rfl) ?_
  refine KD.val rfl rfl (ov_quo64 rfl rfl (by omega) (by omega) (by omega)) ?_
  refine KD.val rfl rfl (ov_move rfl) ?_
  refine KD.val rfl rfl (ov_rem64 rfl rfl (by omega) (by omega)) ?_
  refine KD.val rfl rfl (ov_add64 rfl rfl (by omega)) ?_
  refine KD.val rfl rfl (ov_toU8 Tryz.underlying3 Tryz.underlying5 rfl (by omega)) ?_
  refine KD.fork rfl rfl ?_ ?_
  ·
   refine LM.callE (oc_call (enters_fn Tryz.func138 (by kernel_rfl) rfl) rfl) (fun w hm hc hg => ih (by omega) w) ?_
   refine LM.nil ?_
   refine QM.one (by (repeat' (first | exact SubM.nil _ | refine SubM.cons rfl ?_ | refine SubM.app ?_))) (fun _ _ => trivial) ?_
   refine KD.one rfl ?_
   refine LM.single Tryz.underlying145 Tryz.sizeOf5 Tryz.zeroValue5 rfl rfl rfl rfl rfl (fun b17 hb17 => ?_)
   refine LM.nil ?_
   refine QM.one (by (repeat' (first | exact SubM.nil _ | refine SubM.cons rfl ?_ | refine SubM.app ?_))) (fun _ _ => trivial) ?_
   refine KD.one rfl ?_
   refine LM.rd (om_str1 (c := 0) Tryz.underlying145 Tryz.underlying5 Tryz.underlying9 rfl rfl (by omega)) ?_
   refine LM.nil ?_
   refine QM.one (by (repeat' (first | exact SubM.nil _ | refine SubM.cons rfl ?_ | refine SubM.app ?_))) (fun _ _ => trivial) ?_
   refine KD.val rfl rfl (ov_saddL rfl rfl (by first | omega | (simp only [List.length_append, List.length_cons, List.length_nil]; omega))) ?_
   refine KD.val rfl rfl (ov_assign rfl) ?_
   refine KD.nil ?_
   refine QM.sub (e' := [(2, _)]) ⟨rfl, trivial⟩ ?_
   refine QM.then ?_
   refine wpM.ret ?_
   refine QM.leave (.inl rfl) [.tmp 2] Tryz.results138 rfl ?_
   intro w' hm' hc' hg'
   refine ⟨?_, hc'⟩; show vS _ = _; congr 1; conv => rhs; unfold digF; rw [if_neg (by omega), show 48 + n.toNat % 10 = (48 + n % 10).toNat by omega]
  ·
   refine LM.single Tryz.underlying145 Tryz.sizeOf5 Tryz.zeroValue5 rfl rfl rfl rfl rfl (fun b17 hb17 => ?_)
   refine LM.nil ?_
   refine QM.one (by (repeat' (first | exact SubM.nil _ | refine SubM.cons rfl ?_ | refine SubM.app ?_))) (fun _ _ => trivial) ?_
   refine KD.fork rfl rfl ?_ ?_
   ·
    refine LM.callE (oc_call (enters_fn Tryz.func138 (by kernel_rfl) rfl) rfl) (fun w hm hc hg => ih (by omega) w) ?_
    refine LM.nil ?_
    refine QM.one (by (repeat' (first | exact SubM.nil _ | refine SubM.cons rfl ?_ | refine SubM.app ?_))) (fun _ _ => trivial) ?_
    refine KD.one rfl ?_
    refine LM.rd (om_str1 (c := 0) Tryz.underlying145 Tryz.underlying5 Tryz.underlying9 rfl rfl (by omega)) ?_
    refine LM.nil ?_
    refine QM.one (by (repeat' (first | exact SubM.nil _ | refine SubM.cons rfl ?_ | refine SubM.app ?_))) (fun _ _ => trivial) ?_
    refine KD.val rfl rfl (ov_saddL rfl rfl (by first | omega | (simp only [List.length_append, List.length_cons, List.length_nil]; omega))) ?_
    refine KD.val rfl rfl (ov_assign rfl) ?_
    refine KD.nil ?_
    refine QM.sub (e' := [(2, _)]) ⟨rfl, trivial⟩ ?_
    refine QM.then ?_
    refine wpM.ret ?_
    refine QM.leave (.inl rfl) [.tmp 2] Tryz.results138 rfl ?_
    intro w' hm' hc' hg'
    refine ⟨?_, hc'⟩; show vS _ = _; congr 1; conv => rhs; unfold digF; rw [if_neg (by omega), show 48 + n.toNat % 10 = (48 + n % 10).toNat by omega]
   ·
    refine LM.rd (om_str1 (c := 0) Tryz.underlying145 Tryz.underlying5 Tryz.underlying9 rfl rfl (by omega)) ?_
    refine LM.nil ?_
    refine QM.one (by (repeat' (first | exact SubM.nil _ | refine SubM.cons rfl ?_ | refine SubM.app ?_))) (fun _ _ => trivial) ?_
    refine KD.one rfl ?_
    refine LM.callE (oc_call (enters_fn Tryz.func138 (by kernel_rfl) rfl) rfl) (fun w hm hc hg => ih (by omega) w) ?_
    refine LM.nil ?_
    refine QM.one (by (repeat' (first | exact SubM.nil _ | refine SubM.cons rfl ?_ | refine SubM.app ?_))) (fun _ _ => trivial) ?_
    refine KD.val rfl rfl (ov_saddL rfl rfl (by first | omega | (simp only [List.length_append, List.length_cons, List.length_nil]; omega))) ?_
    refine KD.val rfl rfl (ov_assign rfl) ?_
    refine KD.nil ?_
    refine QM.sub (e' := [(2, _)]) ⟨rfl, trivial⟩ ?_
    refine QM.then ?_
    refine wpM.ret ?_
    refine QM.leave (.inl rfl) [.tmp 2] Tryz.results138 rfl ?_
    intro w' hm' hc' hg'
    refine ⟨?_, hc'⟩; show vS _ = _; congr 1; conv => rhs; unfold digF; rw [if_neg (by omega), show 48 + n.toNat % 10 = (48 + n % 10).toNat by omega]

theorem digits_spec : ∀ (f : Nat) (n : Int) (w : World), f ≤ 9 → 0 ≤ n → n ≤ 999999999 → n < 10 ^ (f + 1) → Ret Tryz.prog 138 #[.int .i64 n] w (fun v w' => v = vS (digF (f + 1) n.toNat) ∧ Ext w w')
  | 0, n, w, h, h0, hx, h1 => digits_step (Nat.zero_le _) h0 hx (fun h2 => absurd h1 (by simp; omega)) w
  | f + 1, n, w, h, h0, hx, h1 => digits_step (by omega) h0 hx (fun h2 w => by
      have h3 := digits_spec f (n / 10) w (by omega) (by omega) (by omega) (by rw [Int.pow_succ] at h1; omega)
      rwa [show (n / 10).toNat = n.toNat / 10 by omega] at h3) w

set_option maxRecDepth 100000 in
set_option maxHeartbeats 1000000 in
theorem rtext_spec (x : Wrd) (w : World) (hx : x.t.length ≤ 9223372036854775807) : Ret Tryz.prog 100 #[.agg (fW x).toArray] w (fun v w' => v = .tuple #[vS (textO x).1, .int .i64 (textO x).2] ∧ Ext w w') := by
 refine Ret.enterM (l := [.agg (fW x).toArray]) Tryz.func100 rfl Tryz.ntmps100 rfl ([]) (no) (Mem.nil w) ?_
 refine wpM.seq ?_
 refine wpM.region ?_
 refine LM.box rfl rfl (fun b1 hb1 => ?_)
 refine LM.val (ov_assign rfl) ?_
 refine LM.val (ov_assign rfl) ?_
 refine LM.nil ?_
 refine QM.sub (e' := [(1, _)]) ⟨rfl, trivial⟩ ?_
 refine QM.then ?_
 refine wpM.seq ?_
 refine wpM.region ?_
 refine LM.val (ov_field Tryz.underlying65 rfl Tryz.sizeOf9 rfl (k := 1) rfl rfl) ?_
 first | refine LM.rd (om_ld Tryz.isAgg9 rfl rfl) ?_
 refine LM.val (ov_assign rfl) ?_
 refine LM.nil ?_
 refine QM.sub (e' := [(1, _), (4, _)]) ⟨rfl, rfl, trivial⟩ ?_
 refine QM.then ?_
 refine wpM.seq ?_
 refine wpM.seq ?_
 refine wpM.region ?_
 refine LM.val (ov_field Tryz.underlying65 rfl Tryz.sizeOf3 rfl (k := 0) rfl rfl) ?_
 first | refine LM.rd (om_ld Tryz.isAgg3 rfl rfl) ?_
 refine LM.val (ov_eql rfl rfl) ?_
 refine LM.nil ?_
 refine QM.sub (e' := [(1, _), (4, _), (12, _)]) ⟨rfl, rfl, rfl, trivial⟩ ?_
 refine QM.then ?_
 refine wpM.condD rfl (fun h1 => ?_) (fun h1 => ?_)
 ·
  refine wpM.seq ?_
  refine wpM.seq ?_
  refine wpM.joinK (α := Bool) (fun qa => [(25, .bool qa)]) [(1, _)] (fun qa => (b1, .cells (fW x).toArray 65 (0, 0)) :: []) (fun qa => qa = (decide (x.t ≠ []) || decide (x.n < 0) || decide (999999999 < x.n))) ⟨rfl, trivial⟩ ?_ ?_
  ·
   refine wpM.region ?_
   refine LM.val (ov_field Tryz.underlying65 rfl Tryz.sizeOf9 rfl (k := 1) rfl rfl) ?_
   first | refine LM.rd (om_ld Tryz.isAgg9 rfl rfl) ?_
   refine LM.val (ov_sneqL rfl rfl) ?_
   refine LM.val (ov_move rfl) ?_
   refine LM.splitD (t := 16) rfl (fun h2 => ?_) (fun h2 => ?_)
   ·
    refine LM.drop (t := 16) rfl rfl rfl ?_
    refine LM.drop (t := 16) rfl rfl rfl ?_
    refine LM.drop (t := 16) rfl rfl rfl ?_
    refine LM.val (ov_pickT rfl rfl) ?_
    refine LM.val (ov_move rfl) ?_
    refine LM.drop (t := 21) rfl rfl rfl ?_
    refine LM.drop (t := 21) rfl rfl rfl ?_
    refine LM.drop (t := 21) rfl rfl rfl ?_
    refine LM.val (ov_pickT rfl rfl) ?_
    refine LM.nil ?_
    refine QM.sub (e' := [(1, _), (25, _)]) ⟨rfl, rfl, trivial⟩ ?_
    refine QM.meetK (_) ⟨(by first | rfl | exact lk rfl (by congr 1; omega) | exact lk rfl (by simp)), rfl, trivial⟩ (by (repeat' (first | exact SubM.nil _ | refine SubM.cons rfl ?_ | refine SubM.app ?_))) ?_
    · (simp only [h1, h2, decide_true, decide_false, Bool.true_and, Bool.false_and, Bool.and_true, Bool.and_false, Bool.not_true, Bool.not_false, Bool.true_or, Bool.false_or, Bool.or_true, Bool.or_false, ne_eq, not_true_eq_false, not_false_eq_true, Bool.and_self]; done)
   ·
    refine LM.strip (t := 16) rfl rfl rfl ?_
    refine LM.val (ov_field Tryz.underlying65 rfl Tryz.sizeOf3 rfl (k := 2) rfl rfl) ?_
    refine LM.strip (t := 16) rfl rfl rfl ?_
    first | refine LM.rd (om_ld Tryz.isAgg3 rfl rfl) ?_
    refine LM.strip (t := 16) rfl rfl rfl ?_
    refine LM.val (ov_lss rfl rfl) ?_
    refine LM.val (ov_pickF rfl rfl) ?_
    refine LM.val (ov_move rfl) ?_
    refine LM.splitD (t := 21) rfl (fun h3 => ?_) (fun h3 => ?_)
    ·
     refine LM.drop (t := 21) rfl rfl rfl ?_
     refine LM.drop (t := 21) rfl rfl rfl ?_
     refine LM.drop (t := 21) rfl rfl rfl ?_
     refine LM.val (ov_pickT rfl rfl) ?_
     refine LM.nil ?_
     refine QM.sub (e' := [(1, _), (25, _)]) ⟨rfl, rfl, trivial⟩ ?_
     refine QM.meetK (_) ⟨(by first | rfl | exact lk rfl (by congr 1; omega) | exact lk rfl (by simp)), rfl, trivial⟩ (by (repeat' (first | exact SubM.nil _ | refine SubM.cons rfl ?_ | refine SubM.app ?_))) ?_
     · (simp only [h1, h2, h3, decide_true, decide_false, Bool.true_and, Bool.false_and, Bool.and_true, Bool.and_false, Bool.not_true, Bool.not_false, Bool.true_or, Bool.false_or, Bool.or_true, Bool.or_false, ne_eq, not_true_eq_false, not_false_eq_true, Bool.and_self]; done)
    ·
     refine LM.strip (t := 21) rfl rfl rfl ?_
     refine LM.val (ov_field Tryz.underlying65 rfl Tryz.sizeOf3 rfl (k := 2) rfl rfl) ?_
     refine LM.strip (t := 21) rfl rfl rfl ?_
     first | refine LM.rd (om_ld Tryz.isAgg3 rfl rfl) ?_
     refine LM.strip (t := 21) rfl rfl rfl ?_
     refine LM.val (ov_gtr rfl rfl) ?_
     refine LM.val (ov_pickF rfl rfl) ?_
     refine LM.nil ?_
     refine QM.sub (e' := [(1, _), (25, _)]) ⟨rfl, rfl, trivial⟩ ?_
     refine QM.meetK (_) ⟨(by first | rfl | exact lk rfl (by congr 1; omega) | exact lk rfl (by simp)), rfl, trivial⟩ (by (repeat' (first | exact SubM.nil _ | refine SubM.cons rfl ?_ | refine SubM.app ?_))) ?_
     · (simp only [h1, h2, h3, decide_true, decide_false, Bool.true_and, Bool.false_and, Bool.and_true, Bool.and_false, Bool.not_true, Bool.not_false, Bool.true_or, Bool.false_or, Bool.or_true, Bool.or_false, ne_eq, not_true_eq_false, not_false_eq_true, Bool.and_self]; done)
  ·
   rintro qa hqa
   change QM _ _ _ _ _ ((b1, .cells (fW x).toArray 65 (0, 0)) :: []) _ _ _
   refine QM.then ?_
   first | refine wpM.condD rfl (fun h4 => ?_) (fun h4 => ?_) | refine wpM.condB rfl (fun h4 => ?_) (fun h4 => ?_)
   ·
    refine wpM.seq ?_
    refine wpM.region ?_
    refine LM.val (ov_assign rfl) ?_
    refine LM.val (ov_assign rfl) ?_
    refine LM.nil ?_
    refine QM.sub (e' := [(2, _), (3, _)]) ⟨rfl, rfl, trivial⟩ ?_
    refine QM.then ?_
    refine wpM.ret ?_
    refine QM.then_ret ?_
    refine QM.then_ret ?_
    refine QM.leave (.inl rfl) [.tmp 2, .tmp 3] Tryz.results100 rfl ?_
    intro w' hm' hc' hg'
    refine ⟨?_, hc'⟩; have hn : isNum x = false := (by rw [isNum_2 h1, ← hqa, h4]; rfl); rw [textO_2 h1, hn]; rfl
   ·
    have hr : x.t = [] ∧ 0 ≤ x.n ∧ x.n ≤ 999999999 := (by have h := hqa.symm.trans h4; simp only [Bool.or_eq_false_iff, decide_eq_false_iff_not, Classical.not_not] at h; exact ⟨h.1.1, by omega, by omega⟩)
    refine wpM.skip ?_
    refine QM.then ?_
    refine wpM.seq ?_
    refine wpM.region ?_
    refine LM.val (ov_field Tryz.underlying65 rfl Tryz.sizeOf3 rfl (k := 2) rfl rfl) ?_
    first | refine LM.rd (om_ld Tryz.isAgg3 rfl rfl) ?_
    refine LM.callE (oc_call (enters_fn Tryz.func138 (by kernel_rfl) rfl) rfl) (fun w hm hc hg => digits_spec 9 _ w (by omega) (by omega) (by omega) (by omega)) ?_
    refine LM.val (ov_assign rfl) ?_
    refine LM.val (ov_assign rfl) ?_
    refine LM.nil ?_
    refine QM.sub (e' := [(2, _), (3, _)]) ⟨rfl, rfl, trivial⟩ ?_
    refine QM.then ?_
    refine wpM.ret ?_
    refine QM.then_ret ?_
    refine QM.leave (.inl rfl) [.tmp 2, .tmp 3] Tryz.results100 rfl ?_
    intro w' hm' hc' hg'
    refine ⟨?_, hc'⟩; have hn : isNum x = true := (by rw [isNum_2 h1, ← hqa, h4]; rfl); rw [textO_2 h1, hn]; rfl
 ·
  refine wpM.skip ?_
  refine QM.then ?_
  refine wpM.seq ?_
  refine wpM.seq ?_
  refine wpM.joinK (α := Bool) (fun qb => [(45, .bool qb)]) [(1, _), (4, _)] (fun qb => (b1, .cells (fW x).toArray 65 (0, 0)) :: []) (fun qb => qb = (decide (x.n ≠ 0) || decide (x.t = []) || (decide (x.k ≠ 1) && decide (x.k ≠ 3)))) ⟨rfl, rfl, trivial⟩ ?_ ?_
  ·
   refine wpM.region ?_
   refine LM.val (ov_field Tryz.underlying65 rfl Tryz.sizeOf3 rfl (k := 2) rfl rfl) ?_
   first | refine LM.rd (om_ld Tryz.isAgg3 rfl rfl) ?_
   refine LM.val (ov_neq rfl rfl) ?_
   refine LM.val (ov_move rfl) ?_
   refine LM.splitD (t := 32) rfl (fun h5 => ?_) (fun h5 => ?_)
   ·
    refine LM.drop (t := 32) rfl rfl rfl ?_
    refine LM.drop (t := 32) rfl rfl rfl ?_
    refine LM.val (ov_pickT rfl rfl) ?_
    refine LM.val (ov_move rfl) ?_
    refine LM.drop (t := 36) rfl rfl rfl ?_
    refine LM.drop (t := 36) rfl rfl rfl ?_
    refine LM.drop (t := 36) rfl rfl rfl ?_
    refine LM.dropU (t := 36) rfl rfl rfl ?_
    refine LM.dropX (t := 40) rfl rfl ?_
    refine LM.dropX (t := 40) rfl rfl ?_
    refine LM.dropX (t := 40) rfl rfl ?_
    refine LM.drop (t := 36) rfl rfl rfl ?_
    refine LM.val (ov_pickT rfl rfl) ?_
    refine LM.nil ?_
    refine QM.sub (e' := [(1, _), (4, _), (45, _)]) ⟨rfl, rfl, rfl, trivial⟩ ?_
    refine QM.meetK (_) ⟨(by first | rfl | exact lk rfl (by congr 1; omega) | exact lk rfl (by simp)), rfl, rfl, trivial⟩ (by (repeat' (first | exact SubM.nil _ | refine SubM.cons rfl ?_ | refine SubM.app ?_))) ?_
    · (simp only [h1, h5, decide_true, decide_false, Bool.true_and, Bool.false_and, Bool.and_true, Bool.and_false, Bool.not_true, Bool.not_false, Bool.true_or, Bool.false_or, Bool.or_true, Bool.or_false, ne_eq, not_true_eq_false, not_false_eq_true, Bool.and_self]; done)
   ·
    refine LM.strip (t := 32) rfl rfl rfl ?_
    refine LM.val (ov_move rfl) ?_
    refine LM.strip (t := 32) rfl rfl rfl ?_
    refine LM.val (ov_seqlL rfl rfl) ?_
    refine LM.val (ov_pickF rfl rfl) ?_
    refine LM.val (ov_move rfl) ?_
    refine LM.splitD (t := 36) rfl (fun h6 => ?_) (fun h6 => ?_)
    ·
     refine LM.drop (t := 36) rfl rfl rfl ?_
     refine LM.drop (t := 36) rfl rfl rfl ?_
     refine LM.drop (t := 36) rfl rfl rfl ?_
     refine LM.dropU (t := 36) rfl rfl rfl ?_
     refine LM.dropX (t := 40) rfl rfl ?_
     refine LM.dropX (t := 40) rfl rfl ?_
     refine LM.dropX (t := 40) rfl rfl ?_
     refine LM.drop (t := 36) rfl rfl rfl ?_
     refine LM.val (ov_pickT rfl rfl) ?_
     refine LM.nil ?_
     refine QM.sub (e' := [(1, _), (4, _), (45, _)]) ⟨rfl, rfl, rfl, trivial⟩ ?_
     refine QM.meetK (_) ⟨(by first | rfl | exact lk rfl (by congr 1; omega) | exact lk rfl (by simp)), rfl, rfl, trivial⟩ (by (repeat' (first | exact SubM.nil _ | refine SubM.cons rfl ?_ | refine SubM.app ?_))) ?_
     · (simp only [h1, h5, h6, decide_true, decide_false, Bool.true_and, Bool.false_and, Bool.and_true, Bool.and_false, Bool.not_true, Bool.not_false, Bool.true_or, Bool.false_or, Bool.or_true, Bool.or_false, ne_eq, not_true_eq_false, not_false_eq_true, Bool.and_self]; done)
    ·
     refine LM.strip (t := 36) rfl rfl rfl ?_
     refine LM.val (ov_field Tryz.underlying65 rfl Tryz.sizeOf3 rfl (k := 0) rfl rfl) ?_
     refine LM.strip (t := 36) rfl rfl rfl ?_
     first | refine LM.rd (om_ld Tryz.isAgg3 rfl rfl) ?_
     refine LM.strip (t := 36) rfl rfl rfl ?_
     refine LM.val (ov_neq rfl rfl) ?_
     refine LM.strip (t := 36) rfl rfl rfl ?_
     refine LM.val (ov_move rfl) ?_
     refine LM.splitD (t := 40) rfl (fun h7 => ?_) (fun h7 => ?_)
     ·
      refine LM.strip (t := 40) rfl rfl rfl ?_
      refine LM.val (ov_field Tryz.underlying65 rfl Tryz.sizeOf3 rfl (k := 0) rfl rfl) ?_
      refine LM.strip (t := 40) rfl rfl rfl ?_
      first | refine LM.rd (om_ld Tryz.isAgg3 rfl rfl) ?_
      refine LM.strip (t := 40) rfl rfl rfl ?_
      refine LM.val (ov_neq rfl rfl) ?_
      refine LM.strip (t := 36) rfl rfl rfl ?_
      refine LM.val (ov_pickT rfl rfl) ?_
      refine LM.val (ov_pickF rfl rfl) ?_
      refine LM.nil ?_
      refine QM.sub (e' := [(1, _), (4, _), (45, _)]) ⟨rfl, rfl, rfl, trivial⟩ ?_
      refine QM.meetK (_) ⟨(by first | rfl | exact lk rfl (by congr 1; omega) | exact lk rfl (by simp)), rfl, rfl, trivial⟩ (by (repeat' (first | exact SubM.nil _ | refine SubM.cons rfl ?_ | refine SubM.app ?_))) ?_
      · (simp only [h1, h5, h6, h7, decide_true, decide_false, Bool.true_and, Bool.false_and, Bool.and_true, Bool.and_false, Bool.not_true, Bool.not_false, Bool.true_or, Bool.false_or, Bool.or_true, Bool.or_false, ne_eq, not_true_eq_false, not_false_eq_true, Bool.and_self]; done)
     ·
      refine LM.drop (t := 40) rfl rfl rfl ?_
      refine LM.drop (t := 40) rfl rfl rfl ?_
      refine LM.drop (t := 40) rfl rfl rfl ?_
      refine LM.strip (t := 36) rfl rfl rfl ?_
      refine LM.val (ov_pickF rfl rfl) ?_
      refine LM.val (ov_pickF rfl rfl) ?_
      refine LM.nil ?_
      refine QM.sub (e' := [(1, _), (4, _), (45, _)]) ⟨rfl, rfl, rfl, trivial⟩ ?_
      refine QM.meetK (_) ⟨(by first | rfl | exact lk rfl (by congr 1; omega) | exact lk rfl (by simp)), rfl, rfl, trivial⟩ (by (repeat' (first | exact SubM.nil _ | refine SubM.cons rfl ?_ | refine SubM.app ?_))) ?_
      · (simp only [h1, h5, h6, h7, decide_true, decide_false, Bool.true_and, Bool.false_and, Bool.and_true, Bool.and_false, Bool.not_true, Bool.not_false, Bool.true_or, Bool.false_or, Bool.or_true, Bool.or_false, ne_eq, not_true_eq_false, not_false_eq_true, Bool.and_self]; done)
  ·
   rintro qb hqb
   change QM _ _ _ _ _ ((b1, .cells (fW x).toArray 65 (0, 0)) :: []) _ _ _
   refine QM.then ?_
   first | refine wpM.condD rfl (fun h8 => ?_) (fun h8 => ?_) | refine wpM.condB rfl (fun h8 => ?_) (fun h8 => ?_)
   ·
    refine wpM.seq ?_
    refine wpM.region ?_
    refine LM.val (ov_assign rfl) ?_
    refine LM.val (ov_assign rfl) ?_
    refine LM.nil ?_
    refine QM.sub (e' := [(2, _), (3, _)]) ⟨rfl, rfl, trivial⟩ ?_
    refine QM.then ?_
    refine wpM.ret ?_
    refine QM.then_ret ?_
    refine QM.leave (.inl rfl) [.tmp 2, .tmp 3] Tryz.results100 rfl ?_
    intro w' hm' hc' hg'
    refine ⟨?_, hc'⟩; rw [textO_bad h1 (by have h := hqb.symm.trans h8; simp only [Bool.or_eq_true, Bool.and_eq_true, decide_eq_true_eq] at h; rcases h with (h | h) | h; exact .inl h; exact .inr (.inl h); exact .inr (.inr h))]; rfl
   ·
    have hr2 : x.n = 0 ∧ x.t ≠ [] := (by have h := hqb.symm.trans h8; simp only [Bool.or_eq_false_iff, decide_eq_false_iff_not, Classical.not_not] at h; exact ⟨h.1.1, h.1.2⟩); have hpos : 0 < x.t.length := List.length_pos_iff.2 hr2.2
    refine wpM.skip ?_
    refine QM.then ?_
    refine wpM.seq ?_
    refine wpM.region ?_
    refine LM.val (ov_move rfl) ?_
    refine LM.callE (oc_call (enters_fn Tryz.func33 (by kernel_rfl) rfl) rfl) (fun w hm hc hg => one_spec9 0 w hpos hx) ?_
    refine LM.val (ov_move rfl) ?_
    refine LM.val (ov_extract rfl rfl) ?_
    refine LM.val (ov_extract rfl rfl) ?_
    refine LM.val (ov_extract rfl rfl) ?_
    refine LM.alloc Tryz.zeroValue65 rfl (fun b5 hb5 => ?_)
    refine LM.stW Tryz.sizeOf65 rfl rfl rfl rfl (by first | rfl | decide | (simp; done)) (fun hlt => absurd hlt (by omega)) ?_
    refine LM.val (ov_assign rfl) ?_
    refine LM.val (ov_assign rfl) ?_
    refine LM.nil ?_
    refine QM.sub (e' := [(1, _), (4, _), (5, _), (6, _), (7, _)]) ⟨rfl, rfl, rfl, rfl, rfl, trivial⟩ ?_
    refine QM.then ?_
    refine wpM.seq ?_
    refine wpM.seq ?_
    refine wpM.joinK (α := Bool) (fun qc => [(66, .bool qc)]) [(4, _)] (fun qc => (b5, .cells (fW (oneO x.t 0).1).toArray 65 (0, 0)) :: (b1, .cells (fW x).toArray 65 (0, 0)) :: []) (fun qc => qc = !oneT x) ⟨rfl, trivial⟩ ?_ ?_
    ·
     refine wpM.region ?_
     refine LM.val (ov_move rfl) ?_
     first | refine LM.val (ov_notD rfl) ?_ | refine LM.val (ov_not rfl) ?_
     refine LM.val (ov_move rfl) ?_
     first | refine LM.splitD (t := 54) rfl (fun h9 => ?_) (fun h9 => ?_) | refine LM.splitB (t := 54) rfl (fun h9 => ?_) (fun h9 => ?_)
     ·
      refine LM.drop (t := 54) rfl rfl rfl ?_
      refine LM.drop (t := 54) rfl rfl rfl ?_
      refine LM.drop (t := 54) rfl rfl rfl ?_
      refine LM.drop (t := 54) rfl rfl rfl ?_
      refine LM.val (ov_pickT rfl rfl) ?_
      refine LM.val (ov_move rfl) ?_
      refine LM.drop (t := 60) rfl rfl rfl ?_
      refine LM.drop (t := 60) rfl rfl rfl ?_
      refine LM.drop (t := 60) rfl rfl rfl ?_
      refine LM.drop (t := 60) rfl rfl rfl ?_
      refine LM.drop (t := 60) rfl rfl rfl ?_
      refine LM.val (ov_pickT rfl rfl) ?_
      refine LM.nil ?_
      refine QM.sub (e' := [(4, _), (66, _)]) ⟨rfl, rfl, trivial⟩ ?_
      refine QM.meetK (_) ⟨(by first | rfl | exact lk rfl (by congr 1; omega) | exact lk rfl (by simp)), rfl, trivial⟩ (by (repeat' (first | exact SubM.nil _ | refine SubM.cons rfl ?_ | refine SubM.app ?_))) ?_
      · unfold oneT; rw [show (oneO x.t 0).2.2 = false by simpa using h9]; rfl
     ·
      refine LM.strip (t := 54) rfl rfl rfl ?_
      refine LM.val (ov_move rfl) ?_
      refine LM.strip (t := 54) rfl rfl rfl ?_
      refine LM.val (ov_move rfl) ?_
      refine LM.strip (t := 54) rfl rfl rfl ?_
      refine LM.val (ov_slenL Tryz.underlying9 rfl) ?_
      refine LM.strip (t := 54) rfl rfl rfl ?_
      refine LM.val (ov_neq rfl rfl) ?_
      refine LM.val (ov_pickF rfl rfl) ?_
      refine LM.val (ov_move rfl) ?_
      refine LM.splitD (t := 60) rfl (fun h10 => ?_) (fun h10 => ?_)
      ·
       refine LM.drop (t := 60) rfl rfl rfl ?_
       refine LM.drop (t := 60) rfl rfl rfl ?_
       refine LM.drop (t := 60) rfl rfl rfl ?_
       refine LM.drop (t := 60) rfl rfl rfl ?_
       refine LM.drop (t := 60) rfl rfl rfl ?_
       refine LM.val (ov_pickT rfl rfl) ?_
       refine LM.nil ?_
       refine QM.sub (e' := [(4, _), (66, _)]) ⟨rfl, rfl, trivial⟩ ?_
       refine QM.meetK (_) ⟨(by first | rfl | exact lk rfl (by congr 1; omega) | exact lk rfl (by simp)), rfl, trivial⟩ (by (repeat' (first | exact SubM.nil _ | refine SubM.cons rfl ?_ | refine SubM.app ?_))) ?_
       · unfold oneT; rw [show (oneO x.t 0).2.2 = true by simpa using h9, decide_eq_false (show ¬ (oneO x.t 0).2.1 = x.t.length by omega)]; rfl
      ·
       refine LM.strip (t := 60) rfl rfl rfl ?_
       refine LM.val (ov_field Tryz.underlying65 rfl Tryz.sizeOf3 rfl (k := 0) rfl rfl) ?_
       refine LM.strip (t := 60) rfl rfl rfl ?_
       first | refine LM.rd (om_ld Tryz.isAgg3 rfl rfl) ?_
       refine LM.strip (t := 60) rfl rfl rfl ?_
       refine LM.val (ov_field Tryz.underlying65 rfl Tryz.sizeOf3 rfl (k := 0) rfl rfl) ?_
       refine LM.strip (t := 60) rfl rfl rfl ?_
       first | refine LM.rd (om_ld Tryz.isAgg3 rfl rfl) ?_
       refine LM.strip (t := 60) rfl rfl rfl ?_
       refine LM.val (ov_neq rfl rfl) ?_
       refine LM.val (ov_pickF rfl rfl) ?_
       refine LM.nil ?_
       refine QM.sub (e' := [(4, _), (66, _)]) ⟨rfl, rfl, trivial⟩ ?_
       refine QM.meetK (_) ⟨(by first | rfl | exact lk rfl (by congr 1; omega) | exact lk rfl (by simp)), rfl, trivial⟩ (by (repeat' (first | exact SubM.nil _ | refine SubM.cons rfl ?_ | refine SubM.app ?_))) ?_
       · unfold oneT; rw [show (oneO x.t 0).2.2 = true by simpa using h9, decide_eq_true (show (oneO x.t 0).2.1 = x.t.length by omega)]; simp
    ·
     rintro qc hqc
     change QM _ _ _ _ _ ((b5, .cells (fW (oneO x.t 0).1).toArray 65 (0, 0)) :: (b1, .cells (fW x).toArray 65 (0, 0)) :: []) _ _ _
     refine QM.then ?_
     first | refine wpM.condD rfl (fun h11 => ?_) (fun h11 => ?_) | refine wpM.condB rfl (fun h11 => ?_) (fun h11 => ?_)
     ·
      refine wpM.seq ?_
      refine wpM.region ?_
      refine LM.val (ov_assign rfl) ?_
      refine LM.val (ov_assign rfl) ?_
      refine LM.nil ?_
      refine QM.sub (e' := [(2, _), (3, _)]) ⟨rfl, rfl, trivial⟩ ?_
      refine QM.then ?_
      refine wpM.ret ?_
      refine QM.then_ret ?_
      refine QM.leave (.inl rfl) [.tmp 2, .tmp 3] Tryz.results100 rfl ?_
      intro w' hm' hc' hg'
      refine ⟨?_, hc'⟩; have ho : oneT x = false := (by have h := hqc.symm.trans h11; simpa using h); rw [textO_one h1 hr2.1 hr2.2, ho]; rfl
     ·
      refine wpM.skip ?_
      refine QM.then ?_
      refine wpM.seq ?_
      refine wpM.region ?_
      refine LM.val (ov_move rfl) ?_
      refine LM.val (ov_assign rfl) ?_
      refine LM.val (ov_assign rfl) ?_
      refine LM.nil ?_
      refine QM.sub (e' := [(2, _), (3, _)]) ⟨rfl, rfl, trivial⟩ ?_
      refine QM.then ?_
      refine wpM.ret ?_
      refine QM.leave (.inl rfl) [.tmp 2, .tmp 3] Tryz.results100 rfl ?_
      intro w' hm' hc' hg'
      refine ⟨?_, hc'⟩; have ho : oneT x = true := (by have h := hqc.symm.trans h11; simpa using h); rw [textO_one h1 hr2.1 hr2.2, ho]; rfl

set_option maxRecDepth 100000 in
set_option maxHeartbeats 1000000 in
theorem rjoin_spec {ws : List Wrd} {ad : Option Addr} {n cap : Nat} (w : World) (hn : n = ws.length) (hx : ws.length ≤ 1000000000) (hl : Sr fW 4 ws (.slice ad n cap) w) (ht : ∀ x ∈ ws, x.t.length ≤ 1000000000) : Ret Tryz.prog 55 #[.slice ad n cap] w (fun v w' => v = .tuple #[vS (joinO ws).1, .int .i64 (joinO ws).2] ∧ Ext w w') := by
 refine Ret.enterM (l := [.slice ad n cap]) Tryz.func55 rfl Tryz.ntmps55 rfl ([]) (no) (Mem.nil w) ?_
 refine wpM.seq ?_
 refine wpM.region ?_
 refine LM.val (ov_assign rfl) ?_
 refine LM.val (ov_assign rfl) ?_
 refine LM.nil ?_
 refine QM.sub (e' := [(0, _)]) ⟨rfl, trivial⟩ ?_
 refine QM.then ?_
 refine wpM.seq ?_
 refine wpM.region ?_
 refine LM.val (ov_assign rfl) ?_
 refine LM.nil ?_
 refine QM.sub (e' := [(0, _), (4, _)]) ⟨rfl, rfl, trivial⟩ ?_
 refine QM.then ?_
 refine wpM.seq ?_
 refine wpM.seq ?_
 refine wpM.region ?_
 refine LM.val (ov_assign rfl) ?_
 refine LM.nil ?_
 refine QM.sub (e' := [(0, _), (4, _), (5, _)]) ⟨rfl, rfl, rfl, trivial⟩ ?_
 refine QM.then ?_
 refine wpM.block ?_
 refine wpM.loopK0 (α := Nat × List UInt8) (fun ⟨i, out⟩ => [(4, vS out), (5, .int .i64 (i : Nat))]) [(0, _)] (fun ⟨i, out⟩ => []) (fun ⟨i, out⟩ => i ≤ ws.length ∧ joinF (ws.drop i) out = joinO ws ∧ out.length ≤ i * 13) (fun ⟨i, out⟩ => ws.length - i) ((0, [])) ⟨(by first | rfl | exact lk rfl (by rw [hg2])), (by first | rfl | exact lk rfl (by congr 1; omega) | exact lk rfl (by simp)), rfl, trivial⟩ (by (repeat' (first | exact SubM.nil _ | refine SubM.cons rfl ?_ | refine SubM.app ?_))) ⟨Nat.zero_le _, rfl, Nat.zero_le _⟩ ?_
 rintro ⟨i, out⟩ ⟨hi0, hj, hol⟩
 change wpM _ _ _ _ _ _ _ ([]) _ _ _
 have htl := text_len (ws.getD i default); have hgl := glue_len out (ws.getD i default)
 refine wpM.seq ?_
 refine wpM.seq ?_
 refine wpM.region ?_
 refine LM.val (ov_move rfl) ?_
 refine LM.val (ov_move rfl) ?_
 refine LM.val (ov_len Tryz.underlying23 rfl) ?_
 refine LM.val (ov_lss rfl rfl) ?_
 refine LM.nil ?_
 refine QM.sub (e' := [(0, _), (4, _), (5, _), (11, _)]) ⟨rfl, rfl, rfl, rfl, trivial⟩ ?_
 refine QM.then ?_
 refine wpM.condD rfl (fun h1 => ?_) (fun h1 => ?_)
 ·
  refine wpM.skip ?_
  refine QM.then ?_
  refine wpM.seq ?_
  refine wpM.block ?_
  refine wpM.seq ?_
  refine wpM.region ?_
  refine LM.val (ov_move rfl) ?_
  refine LM.val (ov_move rfl) ?_
  refine LM.val (ov_idxSN (by first | exact Sr.spt (by assumption) | exact Sl.spt (by assumption)) Tryz.underlying23 Tryz.sizeOf65 rfl rfl (by omega)) ?_
  first | refine LM.rd (om_slA (by assumption) (by intro _; rfl) Tryz.isAgg65 Tryz.sizeOf65 rfl (by exact getq default (by first | omega | (simp only [List.length_set, List.length_append, List.length_cons, List.length_nil]; omega)))) ?_ | refine LM.rdC (om_srEA (by assumption) (by intro _; rfl) Tryz.isAgg65 Tryz.sizeOf65 rfl (by exact getq default (by first | omega | (simp only [List.length_set, List.length_append, List.length_cons, List.length_nil]; omega))) id) ?_ | refine LM.rd (om_ldW Tryz.isAgg65 Tryz.sizeOf65 rfl rfl) ?_ | refine LM.rd (om_ldA Tryz.isAgg65 Tryz.sizeOf65 rfl (vs := [_, _, _, _]) rfl ⟨rfl, rfl, rfl, rfl, trivial⟩) ?_
  refine LM.callE (oc_call (enters_fn Tryz.func100 (by kernel_rfl) rfl) rfl) (fun w hm hc hg => rtext_spec _ w (by have := ht _ (List.mem_of_getElem? (getq default (show i < ws.length by omega))); omega)) ?_
  refine LM.val (ov_move rfl) ?_
  refine LM.val (ov_extract rfl rfl) ?_
  refine LM.val (ov_extract rfl rfl) ?_
  refine LM.val (ov_assign rfl) ?_
  refine LM.val (ov_assign rfl) ?_
  refine LM.nil ?_
  refine QM.sub (e' := [(0, _), (4, _), (5, _), (6, _), (7, _)]) ⟨rfl, rfl, rfl, rfl, rfl, trivial⟩ ?_
  refine QM.then ?_
  refine wpM.seq ?_
  refine wpM.seq ?_
  refine wpM.region ?_
  refine LM.val (ov_move rfl) ?_
  refine LM.val (ov_neq rfl rfl) ?_
  refine LM.nil ?_
  refine QM.sub (e' := [(0, _), (4, _), (5, _), (6, _), (23, _)]) ⟨rfl, rfl, rfl, rfl, rfl, trivial⟩ ?_
  refine QM.then ?_
  refine wpM.condD rfl (fun h2 => ?_) (fun h2 => ?_)
  ·
   refine wpM.seq ?_
   refine wpM.region ?_
   refine LM.val (ov_assign rfl) ?_
   refine LM.val (ov_assign rfl) ?_
   refine LM.nil ?_
   refine QM.sub (e' := [(2, _), (3, _)]) ⟨rfl, rfl, trivial⟩ ?_
   refine QM.then ?_
   refine wpM.ret ?_
   refine QM.then_ret ?_
   refine QM.block_ret ?_
   refine QM.then_ret ?_
   refine QM.then_ret ?_
   refine QM.block_ret ?_
   refine QM.then_ret ?_
   refine QM.leave (.inl rfl) [.tmp 2, .tmp 3] Tryz.results55 rfl ?_
   intro w' hm' hc' hg'
   have hb := hj; rw [joinF_bad (by omega) h2] at hb; refine ⟨?_, hc'⟩; rw [← hb]; rfl
  ·
   refine wpM.skip ?_
   refine QM.then ?_
   refine wpM.seq ?_
   refine wpM.seq ?_
   refine wpM.joinK (α := Bool) (fun q => [(29, .bool q)]) [(0, _), (4, _), (5, _), (6, _)] (fun q => []) (fun q => q = (decide (0 < out.length) && decide ((textO (ws.getD i default)).1 ≠ [59]))) ⟨rfl, rfl, rfl, rfl, trivial⟩ ?_ ?_
   ·
    refine wpM.region ?_
    refine LM.val (ov_move rfl) ?_
    refine LM.val (ov_sneqL rfl rfl) ?_
    refine LM.val (ov_move rfl) ?_
    refine LM.splitD (t := 26) rfl (fun h3 => ?_) (fun h3 => ?_)
    ·
     refine LM.strip (t := 26) rfl rfl rfl ?_
     refine LM.val (ov_move rfl) ?_
     refine LM.strip (t := 26) rfl rfl rfl ?_
     refine LM.val (ov_sneqL rfl rfl) ?_
     refine LM.val (ov_pickT rfl rfl) ?_
     refine LM.nil ?_
     refine QM.sub (e' := [(0, _), (4, _), (5, _), (6, _), (29, _)]) ⟨rfl, rfl, rfl, rfl, rfl, trivial⟩ ?_
     refine QM.meetK (_) ⟨(by first | rfl | exact lk rfl (by congr 1; omega) | exact lk rfl (by simp)), rfl, rfl, rfl, rfl, trivial⟩ (by (repeat' (first | exact SubM.nil _ | refine SubM.cons rfl ?_ | refine SubM.app ?_))) ?_
     · rw [decide_eq_true (List.length_pos_iff.2 h3), Bool.true_and]
    ·
     refine LM.drop (t := 26) rfl rfl rfl ?_
     refine LM.drop (t := 26) rfl rfl rfl ?_
     refine LM.val (ov_pickF rfl rfl) ?_
     refine LM.nil ?_
     refine QM.sub (e' := [(0, _), (4, _), (5, _), (6, _), (29, _)]) ⟨rfl, rfl, rfl, rfl, rfl, trivial⟩ ?_
     refine QM.meetK (_) ⟨(by first | rfl | exact lk rfl (by congr 1; omega) | exact lk rfl (by simp)), rfl, rfl, rfl, rfl, trivial⟩ (by (repeat' (first | exact SubM.nil _ | refine SubM.cons rfl ?_ | refine SubM.app ?_))) ?_
     · rw [show out = [] by simpa using h3]; rfl
   ·
    rintro q hq
    change QM _ _ _ _ _ ([]) _ _ _
    refine QM.then ?_
    refine wpM.joinK (α := List UInt8) (fun o2 => [(4, vS o2)]) [(0, _), (5, _), (6, _)] (fun o2 => []) (fun o2 => o2 ++ (textO (ws.getD i default)).1 = glue out (textO (ws.getD i default)).1 ∧ o2.length ≤ out.length + 1) ⟨rfl, rfl, rfl, trivial⟩ ?_ ?_
    ·
     first | refine wpM.condD rfl (fun h4 => ?_) (fun h4 => ?_) | refine wpM.condB rfl (fun h4 => ?_) (fun h4 => ?_)
     ·
      refine wpM.region ?_
      refine LM.val (ov_move rfl) ?_
      refine LM.val (ov_saddL rfl rfl (by first | omega | (simp only [List.length_append, List.length_cons, List.length_nil]; omega))) ?_
      refine LM.val (ov_assign rfl) ?_
      refine LM.nil ?_
      refine QM.sub (e' := [(0, _), (4, _), (5, _), (6, _)]) ⟨rfl, rfl, rfl, rfl, trivial⟩ ?_
      refine QM.meetK (out ++ [32]) ⟨(by first | rfl | exact lk rfl (by congr 1; omega) | exact lk rfl (by simp)), rfl, rfl, rfl, trivial⟩ (by (repeat' (first | exact SubM.nil _ | refine SubM.cons rfl ?_ | refine SubM.app ?_))) ?_
      · exact ⟨by unfold glue; rw [if_pos (by rw [← hq]; exact h4)], by simp⟩
     ·
      refine wpM.skip ?_
      refine QM.meetK (out) ⟨(by first | rfl | exact lk rfl (by congr 1; omega) | exact lk rfl (by simp)), rfl, rfl, rfl, trivial⟩ (by (repeat' (first | exact SubM.nil _ | refine SubM.cons rfl ?_ | refine SubM.app ?_))) ?_
      · exact ⟨by unfold glue; rw [if_neg (by rw [← hq, h4]; simp)], by omega⟩
    ·
     rintro o2 ⟨hg2, hl2⟩
     change QM _ _ _ _ _ ([]) _ _ _
     refine QM.then ?_
     refine wpM.region ?_
     refine LM.val (ov_move rfl) ?_
     refine LM.val (ov_move rfl) ?_
     refine LM.val (ov_saddL rfl rfl (by first | omega | (simp only [List.length_append, List.length_cons, List.length_nil]; omega))) ?_
     refine LM.val (ov_assign rfl) ?_
     refine LM.nil ?_
     refine QM.sub (e' := [(0, _), (4, _), (5, _)]) ⟨rfl, rfl, rfl, trivial⟩ ?_
     refine QM.block_normal ?_
     refine QM.then ?_
     refine wpM.region ?_
     refine LM.val (ov_move rfl) ?_
     refine LM.val (ov_add64 rfl rfl (by omega)) ?_
     refine LM.val (ov_assign rfl) ?_
     refine LM.nil ?_
     refine QM.sub (e' := [(0, _), (4, _), (5, _)]) ⟨rfl, rfl, rfl, trivial⟩ ?_
     refine QM.againK ((i + 1, glue out (textO (ws.getD i default)).1)) ⟨(by first | rfl | exact lk rfl (by rw [hg2])), (by first | rfl | exact lk rfl (by congr 1; omega) | exact lk rfl (by simp)), rfl, trivial⟩ (by (repeat' (first | exact SubM.nil _ | refine SubM.cons rfl ?_ | refine SubM.app ?_))) (fun _ h => h) ?_ ?_
     · exact ⟨by omega, (joinF_next (by omega) (Classical.not_not.1 h2)).symm.trans hj, by omega⟩
     · first | omega | (dsimp only; omega)
 ·
  refine wpM.exit ?_
  refine QM.then_exit ?_
  refine QM.then_exit ?_
  refine QM.block_hit ?_
  refine QM.then ?_
  refine wpM.seq ?_
  refine wpM.seq ?_
  refine wpM.region ?_
  refine LM.val (ov_move rfl) ?_
  refine LM.val (ov_slenL Tryz.underlying9 rfl) ?_
  refine LM.val (ov_gtr rfl rfl) ?_
  refine LM.nil ?_
  refine QM.sub (e' := [(4, _), (37, _)]) ⟨rfl, rfl, trivial⟩ ?_
  refine QM.then ?_
  refine wpM.condD rfl (fun h5 => ?_) (fun h5 => ?_)
  ·
   refine wpM.seq ?_
   refine wpM.region ?_
   refine LM.val (ov_assign rfl) ?_
   refine LM.val (ov_assign rfl) ?_
   refine LM.nil ?_
   refine QM.sub (e' := [(2, _), (3, _)]) ⟨rfl, rfl, trivial⟩ ?_
   refine QM.then ?_
   refine wpM.ret ?_
   refine QM.then_ret ?_
   refine QM.leave (.inl rfl) [.tmp 2, .tmp 3] Tryz.results55 rfl ?_
   intro w' hm' hc' hg'
   have hb := hj; rw [joinF_end (by omega), if_pos (by omega)] at hb; refine ⟨?_, hc'⟩; rw [← hb]; rfl
  ·
   refine wpM.skip ?_
   refine QM.then ?_
   refine wpM.seq ?_
   refine wpM.region ?_
   refine LM.val (ov_move rfl) ?_
   refine LM.val (ov_assign rfl) ?_
   refine LM.val (ov_assign rfl) ?_
   refine LM.nil ?_
   refine QM.sub (e' := [(2, _), (3, _)]) ⟨rfl, rfl, trivial⟩ ?_
   refine QM.then ?_
   refine wpM.ret ?_
   refine QM.leave (.inl rfl) [.tmp 2, .tmp 3] Tryz.results55 rfl ?_
   intro w' hm' hc' hg'
   have hb := hj; rw [joinF_end (by omega), if_neg (by omega)] at hb; refine ⟨?_, hc'⟩; rw [← hb]; rfl


end Go.Eng
set_option linter.unusedVariables false
set_option linter.unusedSimpArgs false
namespace Go.Eng
open Go Go.Proofs Go.RowKit

def eqW (at' : Bool) (x y : Wrd) : Bool := decide (x.k = y.k) && decide (x.t = y.t) && decide (x.n = y.n) && (!at' || decide (x.p = y.p))
def sameW (at' : Bool) : List Wrd → List Wrd → Bool
  | [], [] => true
  | x :: xs, y :: ys => eqW at' x y && sameW at' xs ys
  | _, _ => false
theorem sameW_len {at' : Bool} : ∀ {xs ys : List Wrd}, sameW at' xs ys = true → xs.length = ys.length
  | [], [], _ => rfl
  | _ :: xs, _ :: ys, h => by
    rw [sameW, Bool.and_eq_true] at h
    rw [List.length_cons, List.length_cons, sameW_len h.2]
  | [], _ :: _, h => by cases h
  | _ :: _, [], h => by cases h
theorem sameW_at {at' : Bool} : ∀ {xs ys : List Wrd} (i : Nat), sameW at' xs ys = true → i < xs.length → eqW at' (xs.getD i default) (ys.getD i default) = true
  | x :: xs, y :: ys, i, h, hi => by
    rw [sameW, Bool.and_eq_true] at h
    cases i with
    | zero => exact h.1
    | succ i => exact sameW_at i h.2 (by rw [List.length_cons] at hi; omega)
  | [], [], _, _, h => by cases h
  | [], _ :: _, _, h, _ => by cases h
  | _ :: _, [], _, h, _ => by cases h
theorem sameW_snoc {at' : Bool} : ∀ {xs ys : List Wrd} (x y : Wrd), sameW at' xs ys = true → eqW at' x y = true → sameW at' (xs ++ [x]) (ys ++ [y]) = true
  | [], [], x, y, _, h => by simp [sameW, h]
  | a :: xs, b :: ys, x, y, h, h2 => by
    rw [sameW, Bool.and_eq_true] at h
    rw [List.cons_append, List.cons_append, sameW, h.1, sameW_snoc x y h.2 h2]; rfl
  | [], _ :: _, _, _, h, _ => by cases h
  | _ :: _, [], _, _, h, _ => by cases h
theorem sameW_next {at' : Bool} {xs ys : List Wrd} {i : Nat} (h : sameW at' (xs.take i) (ys.take i) = true) (hl : xs.length = ys.length) (hi : i < xs.length) (he : eqW at' (xs.getD i default) (ys.getD i default) = true) : sameW at' (xs.take (i + 1)) (ys.take (i + 1)) = true := by
  rw [take_snoc default hi, take_snoc default (hl ▸ hi)]; exact sameW_snoc _ _ h he
theorem sameW_no {at' : Bool} {xs ys : List Wrd} {i : Nat} (hi : i < xs.length) (he : eqW at' (xs.getD i default) (ys.getD i default) = false) : sameW at' xs ys = false := by
  cases h : sameW at' xs ys with
  | false => rfl
  | true => rw [sameW_at i h hi] at he; cases he
theorem sameW_refl (at' : Bool) : ∀ (xs : List Wrd), sameW at' xs xs = true
  | [] => rfl
  | x :: xs => by rw [sameW, sameW_refl at' xs]; simp [eqW]
set_option maxRecDepth 100000 in
set_option maxHeartbeats 2000000 in
theorem wsame_spec {xs ys : List Wrd} {ad1 ad2 : Option Addr} {n1 n2 cap1 cap2 : Nat} (at' : Bool) (w : World) (hn1 : n1 = xs.length) (hl1 : Sr fW 4 xs (.slice ad1 n1 cap1) w) (hn2 : n2 = ys.length) (hl2 : Sr fW 4 ys (.slice ad2 n2 cap2) w) (hx : xs.length ≤ 1000000000) : Ret Tryz.prog 20 #[.slice ad1 n1 cap1, .slice ad2 n2 cap2, .bool at'] w (fun v w' => v = .bool (sameW at' xs ys) ∧ Ext w w') := by
 refine Ret.enterM (l := [.slice ad1 n1 cap1, .slice ad2 n2 cap2, .bool at']) Tryz.func20 rfl Tryz.ntmps20 rfl ([]) (no) (Mem.nil w) ?_
 refine wpM.seq ?_
 refine wpM.region ?_
 refine LM.val (ov_assign rfl) ?_
 refine LM.nil ?_
 refine QM.sub (e' := [(0, _), (1, _), (2, _)]) ⟨rfl, rfl, rfl, trivial⟩ ?_
 refine QM.then ?_
 refine wpM.seq ?_
 refine wpM.seq ?_
 refine wpM.region ?_
 refine LM.val (ov_move rfl) ?_
 refine LM.val (ov_len Tryz.underlying23 rfl) ?_
 refine LM.val (ov_move rfl) ?_
 refine LM.val (ov_len Tryz.underlying23 rfl) ?_
 refine LM.val (ov_neq rfl rfl) ?_
 refine LM.nil ?_
 refine QM.sub (e' := [(0, _), (1, _), (2, _), (12, _)]) ⟨rfl, rfl, rfl, rfl, trivial⟩ ?_
 refine QM.then ?_
 refine wpM.condD rfl (fun h1 => ?_) (fun h1 => ?_)
 ·
  refine wpM.seq ?_
  refine wpM.region ?_
  refine LM.val (ov_assign rfl) ?_
  refine LM.nil ?_
  refine QM.sub (e' := [(6, _)]) ⟨rfl, trivial⟩ ?_
  refine QM.then ?_
  refine wpM.ret ?_
  refine QM.then_ret ?_
  refine QM.leave (.inl rfl) [.tmp 6] Tryz.results20 rfl ?_
  intro w' hm' hc' hg'
  refine ⟨?_, hc'⟩; have hs : sameW at' xs ys = false := (by cases h : sameW at' xs ys with | false => rfl | true => have := sameW_len h; omega); show Value.bool false = _; rw [hs]
 ·
  refine wpM.skip ?_
  refine QM.then ?_
  refine wpM.seq ?_
  refine wpM.seq ?_
  refine wpM.region ?_
  refine LM.val (ov_assign rfl) ?_
  refine LM.nil ?_
  refine QM.sub (e' := [(0, _), (1, _), (2, _), (7, _)]) ⟨rfl, rfl, rfl, rfl, trivial⟩ ?_
  refine QM.then ?_
  refine wpM.block ?_
  refine wpM.loopK0 (α := Nat) (fun i => [(7, .int .i64 (i : Nat))]) [(0, _), (1, _), (2, _)] (fun i => []) (fun i => i ≤ xs.length ∧ sameW at' (xs.take i) (ys.take i) = true) (fun i => xs.length - i) (0) ⟨(by first | rfl | exact lk rfl (by congr 1; omega) | exact lk rfl (by simp)), rfl, rfl, rfl, trivial⟩ (by (repeat' (first | exact SubM.nil _ | refine SubM.cons rfl ?_ | refine SubM.app ?_))) ⟨Nat.zero_le _, by simp [sameW]⟩ ?_
  rintro i ⟨hi, ha⟩
  change wpM _ _ _ _ _ _ _ ([]) _ _ _
  refine wpM.seq ?_
  refine wpM.seq ?_
  refine wpM.region ?_
  refine LM.val (ov_move rfl) ?_
  refine LM.val (ov_move rfl) ?_
  refine LM.val (ov_len Tryz.underlying23 rfl) ?_
  refine LM.val (ov_lss rfl rfl) ?_
  refine LM.nil ?_
  refine QM.sub (e' := [(0, _), (1, _), (2, _), (7, _), (16, _)]) ⟨rfl, rfl, rfl, rfl, rfl, trivial⟩ ?_
  refine QM.then ?_
  refine wpM.condD rfl (fun h2 => ?_) (fun h2 => ?_)
  ·
   refine wpM.skip ?_
   refine QM.then ?_
   refine wpM.seq ?_
   refine wpM.block ?_
   refine wpM.seq ?_
   refine wpM.joinK (α := Bool) (fun q => [(71, .bool q)]) [(0, _), (1, _), (2, _), (7, _)] (fun q => []) (fun q => q = !eqW at' (xs.getD i default) (ys.getD i default)) ⟨rfl, rfl, rfl, rfl, trivial⟩ ?_ ?_
   ·
    refine wpM.draw [(0, 0), (1, 0), (2, 0), (3, 0), (4, 1), (5, 0), (6, 0), (7, 0), (8, 0), (9, 1), (10, 0), (11, 0), (12, 0), (13, 0), (14, 0), (15, 0), (16, 1), (17, 0), (18, 0), (19, 0), (20, 0), (21, 1), (22, 0), (23, 0), (24, 0), (25, 0), (26, 0), (27, 0), (28, 0), (29, 1), (30, 0), (31, 0), (32, 0), (33, 0), (34, 1), (35, 0), (36, 0), (37, 0), (38, 0), (39, 0), (40, 0), (41, 0), (42, 0), (43, 0), (44, 1), (45, 0), (46, 0), (47, 0), (48, 0), (49, 1), (50, 0), (51, 0), (52, 0)] (by kernel_rfl) (by kernel_rfl) ?_
    refine LD.val rfl rfl (ov_move rfl) ?_
    refine LD.val rfl rfl (ov_move rfl) ?_
    refine LD.val rfl rfl (ov_idxSN (by first | exact Sr.spt (by assumption) | exact Sl.spt (by assumption)) Tryz.underlying23 Tryz.sizeOf65 rfl rfl (by omega)) ?_
    refine LD.val rfl rfl (ov_field Tryz.underlying65 rfl Tryz.sizeOf3 rfl (k := 0) rfl rfl) ?_
    first | refine LD.rd rfl rfl (om_slE (j := 0) (by assumption) (by intro _; rfl) Tryz.isAgg3 rfl rfl (by exact getq default (by first | omega | (simp only [List.length_set, List.length_append, List.length_cons, List.length_nil]; omega))) rfl (by rfl)) ?_ | refine LD.rdC rfl rfl (om_srE (j := 0) (by assumption) Tryz.isAgg3 rfl rfl (by exact getq default (by first | omega | (simp only [List.length_set, List.length_append, List.length_cons, List.length_nil]; omega))) (by rfl) (by rfl) id) ?_ | refine LD.rd rfl rfl (om_ld Tryz.isAgg3 rfl rfl) ?_
    refine LD.val rfl rfl (ov_move rfl) ?_
    refine LD.val rfl rfl (ov_move rfl) ?_
    refine LD.val rfl rfl (ov_idxSN (by first | exact Sr.spt (by assumption) | exact Sl.spt (by assumption)) Tryz.underlying23 Tryz.sizeOf65 rfl rfl (by omega)) ?_
    refine LD.val rfl rfl (ov_field Tryz.underlying65 rfl Tryz.sizeOf3 rfl (k := 0) rfl rfl) ?_
    first | refine LD.rd rfl rfl (om_slE (j := 0) (by assumption) (by intro _; rfl) Tryz.isAgg3 rfl rfl (by exact getq default (by first | omega | (simp only [List.length_set, List.length_append, List.length_cons, List.length_nil]; omega))) rfl (by rfl)) ?_ | refine LD.rdC rfl rfl (om_srE (j := 0) (by assumption) Tryz.isAgg3 rfl rfl (by exact getq default (by first | omega | (simp only [List.length_set, List.length_append, List.length_cons, List.length_nil]; omega))) (by rfl) (by rfl) id) ?_ | refine LD.rd rfl rfl (om_ld Tryz.isAgg3 rfl rfl) ?_
    refine LD.val rfl rfl (ov_neq rfl rfl) ?_
    refine LD.val rfl rfl (ov_move rfl) ?_
    refine LD.splitD (t := 30) rfl (fun h3 => ?_) (fun h3 => ?_)
    ·
     refine LD.drop rfl rfl ⟨30, _, rfl, rfl, rfl⟩ ?_
     refine LD.drop rfl rfl ⟨30, _, rfl, rfl, rfl⟩ ?_
     refine LD.drop rfl rfl ⟨30, _, rfl, rfl, rfl⟩ ?_
     refine LD.drop rfl rfl ⟨30, _, rfl, rfl, rfl⟩ ?_
     refine LD.drop rfl rfl ⟨30, _, rfl, rfl, rfl⟩ ?_
     refine LD.drop rfl rfl ⟨30, _, rfl, rfl, rfl⟩ ?_
     refine LD.drop rfl rfl ⟨30, _, rfl, rfl, rfl⟩ ?_
     refine LD.drop rfl rfl ⟨30, _, rfl, rfl, rfl⟩ ?_
     refine LD.drop rfl rfl ⟨30, _, rfl, rfl, rfl⟩ ?_
     refine LD.drop rfl rfl ⟨30, _, rfl, rfl, rfl⟩ ?_
     refine LD.drop rfl rfl ⟨30, _, rfl, rfl, rfl⟩ ?_
     refine LD.val rfl rfl (ov_pickT rfl rfl) ?_
     refine LD.val rfl rfl (ov_move rfl) ?_
     refine LD.drop rfl rfl ⟨43, _, rfl, rfl, rfl⟩ ?_
     refine LD.drop rfl rfl ⟨43, _, rfl, rfl, rfl⟩ ?_
     refine LD.drop rfl rfl ⟨43, _, rfl, rfl, rfl⟩ ?_
     refine LD.drop rfl rfl ⟨43, _, rfl, rfl, rfl⟩ ?_
     refine LD.drop rfl rfl ⟨43, _, rfl, rfl, rfl⟩ ?_
     refine LD.drop rfl rfl ⟨43, _, rfl, rfl, rfl⟩ ?_
     refine LD.drop rfl rfl ⟨43, _, rfl, rfl, rfl⟩ ?_
     refine LD.drop rfl rfl ⟨43, _, rfl, rfl, rfl⟩ ?_
     refine LD.drop rfl rfl ⟨43, _, rfl, rfl, rfl⟩ ?_
     refine LD.drop rfl rfl ⟨43, _, rfl, rfl, rfl⟩ ?_
     refine LD.drop rfl rfl ⟨43, _, rfl, rfl, rfl⟩ ?_
     refine LD.val rfl rfl (ov_pickT rfl rfl) ?_
     refine LD.val rfl rfl (ov_move rfl) ?_
     refine LD.drop rfl rfl ⟨56, _, rfl, rfl, rfl⟩ ?_
     refine LD.dropU rfl rfl ⟨56, _, rfl, rfl, rfl⟩ ?_
     refine LD.dropX rfl rfl rfl rfl ?_
     refine LD.dropX rfl rfl rfl rfl ?_
     refine LD.dropX rfl rfl rfl rfl ?_
     refine LD.dropX rfl rfl rfl rfl ?_
     refine LD.dropX rfl rfl rfl rfl ?_
     refine LD.dropX rfl rfl rfl rfl ?_
     refine LD.dropX rfl rfl rfl rfl ?_
     refine LD.dropX rfl rfl rfl rfl ?_
     refine LD.dropX rfl rfl rfl rfl ?_
     refine LD.dropX rfl rfl rfl rfl ?_
     refine LD.dropX rfl rfl rfl rfl ?_
     refine LD.drop rfl rfl ⟨56, _, rfl, rfl, rfl⟩ ?_
     refine LD.val rfl rfl (ov_pickT rfl rfl) ?_
     refine LD.nil ?_
     refine QM.sub (e' := [(0, _), (1, _), (2, _), (7, _), (71, _)]) ⟨rfl, rfl, rfl, rfl, rfl, trivial⟩ ?_
     refine QM.meetK (_) ⟨(by first | rfl | exact lk rfl (by congr 1; omega) | exact lk rfl (by simp)), rfl, rfl, rfl, rfl, trivial⟩ (by (repeat' (first | exact SubM.nil _ | refine SubM.cons rfl ?_ | refine SubM.app ?_))) ?_
     · unfold eqW; first | (simp only [h1, h2, h3, decide_true, decide_false, Bool.true_and, Bool.false_and, Bool.and_true, Bool.and_false, Bool.not_true, Bool.not_false, Bool.true_or, Bool.false_or, Bool.or_true, Bool.or_false, ne_eq, not_true_eq_false, not_false_eq_true, Bool.and_self]; done) | (simp only [h1, h2, h3, decide_true, decide_false, Bool.true_and, Bool.false_and, Bool.and_true, Bool.and_false, Bool.not_true, Bool.not_false, Bool.true_or, Bool.false_or, Bool.or_true, Bool.or_false, ne_eq, not_true_eq_false, not_false_eq_true, Bool.and_self]; rfl) | (simp only [h1, h2, h3, decide_true, decide_false, Bool.true_and, Bool.false_and, Bool.and_true, Bool.and_false, Bool.not_true, Bool.not_false, Bool.true_or, Bool.false_or, Bool.or_true, Bool.or_false, ne_eq, not_true_eq_false, not_false_eq_true, Bool.and_self]; simp; done)
    ·
     refine LD.val rfl ⟨30, _, rfl, rfl, rfl⟩ (ov_move rfl) ?_
     refine LD.val rfl ⟨30, _, rfl, rfl, rfl⟩ (ov_move rfl) ?_
     refine LD.val rfl ⟨30, _, rfl, rfl, rfl⟩ (ov_idxSN (by first | exact Sr.spt (by assumption) | exact Sl.spt (by assumption)) Tryz.underlying23 Tryz.sizeOf65 rfl rfl (by omega)) ?_
     refine LD.val rfl ⟨30, _, rfl, rfl, rfl⟩ (ov_field Tryz.underlying65 rfl Tryz.sizeOf9 rfl (k := 1) rfl rfl) ?_
     first | refine LD.rd rfl ⟨30, _, rfl, rfl, rfl⟩ (om_slE (j := 1) (by assumption) (by intro _; rfl) Tryz.isAgg9 rfl rfl (by exact getq default (by first | omega | (simp only [List.length_set, List.length_append, List.length_cons, List.length_nil]; omega))) rfl (by rfl)) ?_ | refine LD.rdC rfl ⟨30, _, rfl, rfl, rfl⟩ (om_srE (j := 1) (by assumption) Tryz.isAgg9 rfl rfl (by exact getq default (by first | omega | (simp only [List.length_set, List.length_append, List.length_cons, List.length_nil]; omega))) (by rfl) (by rfl) id) ?_ | refine LD.rd rfl ⟨30, _, rfl, rfl, rfl⟩ (om_ld Tryz.isAgg9 rfl rfl) ?_
     refine LD.val rfl ⟨30, _, rfl, rfl, rfl⟩ (ov_move rfl) ?_
     refine LD.val rfl ⟨30, _, rfl, rfl, rfl⟩ (ov_move rfl) ?_
     refine LD.val rfl ⟨30, _, rfl, rfl, rfl⟩ (ov_idxSN (by first | exact Sr.spt (by assumption) | exact Sl.spt (by assumption)) Tryz.underlying23 Tryz.sizeOf65 rfl rfl (by omega)) ?_
     refine LD.val rfl ⟨30, _, rfl, rfl, rfl⟩ (ov_field Tryz.underlying65 rfl Tryz.sizeOf9 rfl (k := 1) rfl rfl) ?_
     first | refine LD.rd rfl ⟨30, _, rfl, rfl, rfl⟩ (om_slE (j := 1) (by assumption) (by intro _; rfl) Tryz.isAgg9 rfl rfl (by exact getq default (by first | omega | (simp only [List.length_set, List.length_append, List.length_cons, List.length_nil]; omega))) rfl (by rfl)) ?_ | refine LD.rdC rfl ⟨30, _, rfl, rfl, rfl⟩ (om_srE (j := 1) (by assumption) Tryz.isAgg9 rfl rfl (by exact getq default (by first | omega | (simp only [List.length_set, List.length_append, List.length_cons, List.length_nil]; omega))) (by rfl) (by rfl) id) ?_ | refine LD.rd rfl ⟨30, _, rfl, rfl, rfl⟩ (om_ld Tryz.isAgg9 rfl rfl) ?_
     refine LD.val rfl ⟨30, _, rfl, rfl, rfl⟩ (ov_sneqL rfl rfl) ?_
     refine LD.val rfl rfl (ov_pickF rfl rfl) ?_
     refine LD.val rfl rfl (ov_move rfl) ?_
     refine LD.splitD (t := 43) rfl (fun h4 => ?_) (fun h4 => ?_)
     ·
      refine LD.drop rfl rfl ⟨43, _, rfl, rfl, rfl⟩ ?_
      refine LD.drop rfl rfl ⟨43, _, rfl, rfl, rfl⟩ ?_
      refine LD.drop rfl rfl ⟨43, _, rfl, rfl, rfl⟩ ?_
      refine LD.drop rfl rfl ⟨43, _, rfl, rfl, rfl⟩ ?_
      refine LD.drop rfl rfl ⟨43, _, rfl, rfl, rfl⟩ ?_
      refine LD.drop rfl rfl ⟨43, _, rfl, rfl, rfl⟩ ?_
      refine LD.drop rfl rfl ⟨43, _, rfl, rfl, rfl⟩ ?_
      refine LD.drop rfl rfl ⟨43, _, rfl, rfl, rfl⟩ ?_
      refine LD.drop rfl rfl ⟨43, _, rfl, rfl, rfl⟩ ?_
      refine LD.drop rfl rfl ⟨43, _, rfl, rfl, rfl⟩ ?_
      refine LD.drop rfl rfl ⟨43, _, rfl, rfl, rfl⟩ ?_
      refine LD.val rfl rfl (ov_pickT rfl rfl) ?_
      refine LD.val rfl rfl (ov_move rfl) ?_
      refine LD.drop rfl rfl ⟨56, _, rfl, rfl, rfl⟩ ?_
      refine LD.dropU rfl rfl ⟨56, _, rfl, rfl, rfl⟩ ?_
      refine LD.dropX rfl rfl rfl rfl ?_
      refine LD.dropX rfl rfl rfl rfl ?_
      refine LD.dropX rfl rfl rfl rfl ?_
      refine LD.dropX rfl rfl rfl rfl ?_
      refine LD.dropX rfl rfl rfl rfl ?_
      refine LD.dropX rfl rfl rfl rfl ?_
      refine LD.dropX rfl rfl rfl rfl ?_
      refine LD.dropX rfl rfl rfl rfl ?_
      refine LD.dropX rfl rfl rfl rfl ?_
      refine LD.dropX rfl rfl rfl rfl ?_
      refine LD.dropX rfl rfl rfl rfl ?_
      refine LD.drop rfl rfl ⟨56, _, rfl, rfl, rfl⟩ ?_
      refine LD.val rfl rfl (ov_pickT rfl rfl) ?_
      refine LD.nil ?_
      refine QM.sub (e' := [(0, _), (1, _), (2, _), (7, _), (71, _)]) ⟨rfl, rfl, rfl, rfl, rfl, trivial⟩ ?_
      refine QM.meetK (_) ⟨(by first | rfl | exact lk rfl (by congr 1; omega) | exact lk rfl (by simp)), rfl, rfl, rfl, rfl, trivial⟩ (by (repeat' (first | exact SubM.nil _ | refine SubM.cons rfl ?_ | refine SubM.app ?_))) ?_
      · unfold eqW; first | (simp only [h1, h2, h3, h4, decide_true, decide_false, Bool.true_and, Bool.false_and, Bool.and_true, Bool.and_false, Bool.not_true, Bool.not_false, Bool.true_or, Bool.false_or, Bool.or_true, Bool.or_false, ne_eq, not_true_eq_false, not_false_eq_true, Bool.and_self]; done) | (simp only [h1, h2, h3, h4, decide_true, decide_false, Bool.true_and, Bool.false_and, Bool.and_true, Bool.and_false, Bool.not_true, Bool.not_false, Bool.true_or, Bool.false_or, Bool.or_true, Bool.or_false, ne_eq, not_true_eq_false, not_false_eq_true, Bool.and_self]; rfl) | (simp only [h1, h2, h3, h4, decide_true, decide_false, Bool.true_and, Bool.false_and, Bool.and_true, Bool.and_false, Bool.not_true, Bool.not_false, Bool.true_or, Bool.false_or, Bool.or_true, Bool.or_false, ne_eq, not_true_eq_false, not_false_eq_true, Bool.and_self]; simp; done)
     ·
      refine LD.val rfl ⟨43, _, rfl, rfl, rfl⟩ (ov_move rfl) ?_
      refine LD.val rfl ⟨43, _, rfl, rfl, rfl⟩ (ov_move rfl) ?_
      refine LD.val rfl ⟨43, _, rfl, rfl, rfl⟩ (ov_idxSN (by first | exact Sr.spt (by assumption) | exact Sl.spt (by assumption)) Tryz.underlying23 Tryz.sizeOf65 rfl rfl (by omega)) ?_
      refine LD.val rfl ⟨43, _, rfl, rfl, rfl⟩ (ov_field Tryz.underlying65 rfl Tryz.sizeOf3 rfl (k := 2) rfl rfl) ?_
      first | refine LD.rd rfl ⟨43, _, rfl, rfl, rfl⟩ (om_slE (j := 2) (by assumption) (by intro _; rfl) Tryz.isAgg3 rfl rfl (by exact getq default (by first | omega | (simp only [List.length_set, List.length_append, List.length_cons, List.length_nil]; omega))) rfl (by rfl)) ?_ | refine LD.rdC rfl ⟨43, _, rfl, rfl, rfl⟩ (om_srE (j := 2) (by assumption) Tryz.isAgg3 rfl rfl (by exact getq default (by first | omega | (simp only [List.length_set, List.length_append, List.length_cons, List.length_nil]; omega))) (by rfl) (by rfl) id) ?_ | refine LD.rd rfl ⟨43, _, rfl, rfl, rfl⟩ (om_ld Tryz.isAgg3 rfl rfl) ?_
      refine LD.val rfl ⟨43, _, rfl, rfl, rfl⟩ (ov_move rfl) ?_
      refine LD.val rfl ⟨43, _, rfl, rfl, rfl⟩ (ov_move rfl) ?_
      refine LD.val rfl ⟨43, _, rfl, rfl, rfl⟩ (ov_idxSN (by first | exact Sr.spt (by assumption) | exact Sl.spt (by assumption)) Tryz.underlying23 Tryz.sizeOf65 rfl rfl (by omega)) ?_
      refine LD.val rfl ⟨43, _, rfl, rfl, rfl⟩ (ov_field Tryz.underlying65 rfl Tryz.sizeOf3 rfl (k := 2) rfl rfl) ?_
      first | refine LD.rd rfl ⟨43, _, rfl, rfl, rfl⟩ (om_slE (j := 2) (by assumption) (by intro _; rfl) Tryz.isAgg3 rfl rfl (by exact getq default (by first | omega | (simp only [List.length_set, List.length_append, List.length_cons, List.length_nil]; omega))) rfl (by rfl)) ?_ | refine LD.rdC rfl ⟨43, _, rfl, rfl, rfl⟩ (om_srE (j := 2) (by assumption) Tryz.isAgg3 rfl rfl (by exact getq default (by first | omega | (simp only [List.length_set, List.length_append, List.length_cons, List.length_nil]; omega))) (by rfl) (by rfl) id) ?_ | refine LD.rd rfl ⟨43, _, rfl, rfl, rfl⟩ (om_ld Tryz.isAgg3 rfl rfl) ?_
      refine LD.val rfl ⟨43, _, rfl, rfl, rfl⟩ (ov_neq rfl rfl) ?_
      refine LD.val rfl rfl (ov_pickF rfl rfl) ?_
      refine LD.val rfl rfl (ov_move rfl) ?_
      refine LD.splitD (t := 56) rfl (fun h5 => ?_) (fun h5 => ?_)
      ·
       refine LD.drop rfl rfl ⟨56, _, rfl, rfl, rfl⟩ ?_
       refine LD.dropU rfl rfl ⟨56, _, rfl, rfl, rfl⟩ ?_
       refine LD.dropX rfl rfl rfl rfl ?_
       refine LD.dropX rfl rfl rfl rfl ?_
       refine LD.dropX rfl rfl rfl rfl ?_
       refine LD.dropX rfl rfl rfl rfl ?_
       refine LD.dropX rfl rfl rfl rfl ?_
       refine LD.dropX rfl rfl rfl rfl ?_
       refine LD.dropX rfl rfl rfl rfl ?_
       refine LD.dropX rfl rfl rfl rfl ?_
       refine LD.dropX rfl rfl rfl rfl ?_
       refine LD.dropX rfl rfl rfl rfl ?_
       refine LD.dropX rfl rfl rfl rfl ?_
       refine LD.drop rfl rfl ⟨56, _, rfl, rfl, rfl⟩ ?_
       refine LD.val rfl rfl (ov_pickT rfl rfl) ?_
       refine LD.nil ?_
       refine QM.sub (e' := [(0, _), (1, _), (2, _), (7, _), (71, _)]) ⟨rfl, rfl, rfl, rfl, rfl, trivial⟩ ?_
       refine QM.meetK (_) ⟨(by first | rfl | exact lk rfl (by congr 1; omega) | exact lk rfl (by simp)), rfl, rfl, rfl, rfl, trivial⟩ (by (repeat' (first | exact SubM.nil _ | refine SubM.cons rfl ?_ | refine SubM.app ?_))) ?_
       · unfold eqW; first | (simp only [h1, h2, h3, h4, h5, decide_true, decide_false, Bool.true_and, Bool.false_and, Bool.and_true, Bool.and_false, Bool.not_true, Bool.not_false, Bool.true_or, Bool.false_or, Bool.or_true, Bool.or_false, ne_eq, not_true_eq_false, not_false_eq_true, Bool.and_self]; done) | (simp only [h1, h2, h3, h4, h5, decide_true, decide_false, Bool.true_and, Bool.false_and, Bool.and_true, Bool.and_false, Bool.not_true, Bool.not_false, Bool.true_or, Bool.false_or, Bool.or_true, Bool.or_false, ne_eq, not_true_eq_false, not_false_eq_true, Bool.and_self]; rfl) | (simp only [h1, h2, h3, h4, h5, decide_true, decide_false, Bool.true_and, Bool.false_and, Bool.and_true, Bool.and_false, Bool.not_true, Bool.not_false, Bool.true_or, Bool.false_or, Bool.or_true, Bool.or_false, ne_eq, not_true_eq_false, not_false_eq_true, Bool.and_self]; simp; done)
      ·
       refine LD.val rfl ⟨56, _, rfl, rfl, rfl⟩ (ov_move rfl) ?_
       refine LD.val rfl ⟨56, _, rfl, rfl, rfl⟩ (ov_move rfl) ?_
       first | refine LD.splitD (t := 58) rfl (fun h6 => ?_) (fun h6 => ?_) | refine LD.splitB (t := 58) rfl (fun h6 => ?_) (fun h6 => ?_)
       ·
        refine LD.val rfl ⟨58, _, rfl, rfl, rfl⟩ (ov_move rfl) ?_
        refine LD.val rfl ⟨58, _, rfl, rfl, rfl⟩ (ov_move rfl) ?_
        refine LD.val rfl ⟨58, _, rfl, rfl, rfl⟩ (ov_idxSN (by first | exact Sr.spt (by assumption) | exact Sl.spt (by assumption)) Tryz.underlying23 Tryz.sizeOf65 rfl rfl (by omega)) ?_
        refine LD.val rfl ⟨58, _, rfl, rfl, rfl⟩ (ov_field Tryz.underlying65 rfl Tryz.sizeOf3 rfl (k := 3) rfl rfl) ?_
        first | refine LD.rd rfl ⟨58, _, rfl, rfl, rfl⟩ (om_slE (j := 3) (by assumption) (by intro _; rfl) Tryz.isAgg3 rfl rfl (by exact getq default (by first | omega | (simp only [List.length_set, List.length_append, List.length_cons, List.length_nil]; omega))) rfl (by rfl)) ?_ | refine LD.rdC rfl ⟨58, _, rfl, rfl, rfl⟩ (om_srE (j := 3) (by assumption) Tryz.isAgg3 rfl rfl (by exact getq default (by first | omega | (simp only [List.length_set, List.length_append, List.length_cons, List.length_nil]; omega))) (by rfl) (by rfl) id) ?_ | refine LD.rd rfl ⟨58, _, rfl, rfl, rfl⟩ (om_ld Tryz.isAgg3 rfl rfl) ?_
        refine LD.val rfl ⟨58, _, rfl, rfl, rfl⟩ (ov_move rfl) ?_
        refine LD.val rfl ⟨58, _, rfl, rfl, rfl⟩ (ov_move rfl) ?_
        refine LD.val rfl ⟨58, _, rfl, rfl, rfl⟩ (ov_idxSN (by first | exact Sr.spt (by assumption) | exact Sl.spt (by assumption)) Tryz.underlying23 Tryz.sizeOf65 rfl rfl (by omega)) ?_
        refine LD.val rfl ⟨58, _, rfl, rfl, rfl⟩ (ov_field Tryz.underlying65 rfl Tryz.sizeOf3 rfl (k := 3) rfl rfl) ?_
        first | refine LD.rd rfl ⟨58, _, rfl, rfl, rfl⟩ (om_slE (j := 3) (by assumption) (by intro _; rfl) Tryz.isAgg3 rfl rfl (by exact getq default (by first | omega | (simp only [List.length_set, List.length_append, List.length_cons, List.length_nil]; omega))) rfl (by rfl)) ?_ | refine LD.rdC rfl ⟨58, _, rfl, rfl, rfl⟩ (om_srE (j := 3) (by assumption) Tryz.isAgg3 rfl rfl (by exact getq default (by first | omega | (simp only [List.length_set, List.length_append, List.length_cons, List.length_nil]; omega))) (by rfl) (by rfl) id) ?_ | refine LD.rd rfl ⟨58, _, rfl, rfl, rfl⟩ (om_ld Tryz.isAgg3 rfl rfl) ?_
        refine LD.val rfl ⟨58, _, rfl, rfl, rfl⟩ (ov_neq rfl rfl) ?_
        refine LD.val rfl ⟨56, _, rfl, rfl, rfl⟩ (ov_pickT rfl rfl) ?_
        refine LD.val rfl rfl (ov_pickF rfl rfl) ?_
        refine LD.nil ?_
        refine QM.sub (e' := [(0, _), (1, _), (2, _), (7, _), (71, _)]) ⟨rfl, rfl, rfl, rfl, rfl, trivial⟩ ?_
        refine QM.meetK (_) ⟨(by first | rfl | exact lk rfl (by congr 1; omega) | exact lk rfl (by simp)), rfl, rfl, rfl, rfl, trivial⟩ (by (repeat' (first | exact SubM.nil _ | refine SubM.cons rfl ?_ | refine SubM.app ?_))) ?_
        · have e1 : (xs.getD i default).k = (ys.getD i default).k := (by simpa [-List.getD_eq_getElem?_getD] using h3); have e2 : (xs.getD i default).t = (ys.getD i default).t := (by simpa [-List.getD_eq_getElem?_getD] using h4); have e3 : (xs.getD i default).n = (ys.getD i default).n := (by simpa [-List.getD_eq_getElem?_getD] using h5); unfold eqW; rw [decide_eq_true e1, decide_eq_true e2, decide_eq_true e3, h6]; simp only [Bool.true_and, Bool.not_true, Bool.false_or, decide_not]
       ·
        refine LD.drop rfl rfl ⟨58, _, rfl, rfl, rfl⟩ ?_
        refine LD.drop rfl rfl ⟨58, _, rfl, rfl, rfl⟩ ?_
        refine LD.drop rfl rfl ⟨58, _, rfl, rfl, rfl⟩ ?_
        refine LD.drop rfl rfl ⟨58, _, rfl, rfl, rfl⟩ ?_
        refine LD.drop rfl rfl ⟨58, _, rfl, rfl, rfl⟩ ?_
        refine LD.drop rfl rfl ⟨58, _, rfl, rfl, rfl⟩ ?_
        refine LD.drop rfl rfl ⟨58, _, rfl, rfl, rfl⟩ ?_
        refine LD.drop rfl rfl ⟨58, _, rfl, rfl, rfl⟩ ?_
        refine LD.drop rfl rfl ⟨58, _, rfl, rfl, rfl⟩ ?_
        refine LD.drop rfl rfl ⟨58, _, rfl, rfl, rfl⟩ ?_
        refine LD.drop rfl rfl ⟨58, _, rfl, rfl, rfl⟩ ?_
        refine LD.val rfl ⟨56, _, rfl, rfl, rfl⟩ (ov_pickF rfl rfl) ?_
        refine LD.val rfl rfl (ov_pickF rfl rfl) ?_
        refine LD.nil ?_
        refine QM.sub (e' := [(0, _), (1, _), (2, _), (7, _), (71, _)]) ⟨rfl, rfl, rfl, rfl, rfl, trivial⟩ ?_
        refine QM.meetK (_) ⟨(by first | rfl | exact lk rfl (by congr 1; omega) | exact lk rfl (by simp)), rfl, rfl, rfl, rfl, trivial⟩ (by (repeat' (first | exact SubM.nil _ | refine SubM.cons rfl ?_ | refine SubM.app ?_))) ?_
        · have e1 : (xs.getD i default).k = (ys.getD i default).k := (by simpa [-List.getD_eq_getElem?_getD] using h3); have e2 : (xs.getD i default).t = (ys.getD i default).t := (by simpa [-List.getD_eq_getElem?_getD] using h4); have e3 : (xs.getD i default).n = (ys.getD i default).n := (by simpa [-List.getD_eq_getElem?_getD] using h5); unfold eqW; rw [decide_eq_true e1, decide_eq_true e2, decide_eq_true e3, h6]; rfl
   ·
    rintro q hq
    change QM _ _ _ _ _ ([]) _ _ _
    refine QM.then ?_
    first | refine wpM.condD rfl (fun h7 => ?_) (fun h7 => ?_) | refine wpM.condB rfl (fun h7 => ?_) (fun h7 => ?_)
    ·
     refine wpM.seq ?_
     refine wpM.region ?_
     refine LM.val (ov_assign rfl) ?_
     refine LM.nil ?_
     refine QM.sub (e' := [(6, _)]) ⟨rfl, trivial⟩ ?_
     refine QM.then ?_
     refine wpM.ret ?_
     refine QM.block_ret ?_
     refine QM.then_ret ?_
     refine QM.then_ret ?_
     refine QM.block_ret ?_
     refine QM.then_ret ?_
     refine QM.leave (.inl rfl) [.tmp 6] Tryz.results20 rfl ?_
     intro w' hm' hc' hg'
     refine ⟨?_, hc'⟩; have hs : sameW at' xs ys = false := sameW_no (i := i) (by omega) (by simpa using hq.symm.trans h7); show Value.bool false = _; rw [hs]
    ·
     refine wpM.skip ?_
     refine QM.block_normal ?_
     refine QM.then ?_
     refine wpM.region ?_
     refine LM.val (ov_move rfl) ?_
     refine LM.val (ov_add64 rfl rfl (by omega)) ?_
     refine LM.val (ov_assign rfl) ?_
     refine LM.nil ?_
     refine QM.sub (e' := [(0, _), (1, _), (2, _), (7, _)]) ⟨rfl, rfl, rfl, rfl, trivial⟩ ?_
     refine QM.againK (i + 1) ⟨(by first | rfl | exact lk rfl (by congr 1; omega) | exact lk rfl (by simp)), rfl, rfl, rfl, trivial⟩ (by (repeat' (first | exact SubM.nil _ | refine SubM.cons rfl ?_ | refine SubM.app ?_))) (fun _ h => h) ?_ ?_
     · exact ⟨by omega, sameW_next ha (by omega) (by omega) (by simpa using hq.symm.trans h7)⟩
     · omega
  ·
   refine wpM.exit ?_
   refine QM.then_exit ?_
   refine QM.then_exit ?_
   refine QM.block_hit ?_
   refine QM.then ?_
   refine wpM.seq ?_
   refine wpM.region ?_
   refine LM.val (ov_assign rfl) ?_
   refine LM.nil ?_
   refine QM.sub (e' := [(6, _)]) ⟨rfl, trivial⟩ ?_
   refine QM.then ?_
   refine wpM.ret ?_
   refine QM.leave (.inl rfl) [.tmp 6] Tryz.results20 rfl ?_
   intro w' hm' hc' hg'
   refine ⟨?_, hc'⟩; rw [List.take_of_length_le (by omega), List.take_of_length_le (by omega)] at ha; show Value.bool true = _; rw [ha]

end Go.Eng
set_option linter.unusedVariables false
set_option linter.unusedSimpArgs false
namespace Go.Eng
open Go Go.Proofs Go.RowKit

def EachT (fv : Bool) (ad : Option Addr) (n cap : Nat) (n0 : Nat) (v : Value) (m : Mem0) : Prop := ∃ b1, v = .func (.func 150) #[] #[.pointer (some ⟨b1, 0, none⟩)] ∧ m = [pB b1 fv ad n cap] ∧ n0 ≤ b1
theorem EachT.mono {fv : Bool} {ad : Option Addr} {n cap : Nat} : ∀ (k k' : Nat) u m, k' ≤ k → EachT fv ad n cap k u m → EachT fv ad n cap k' u m := fun k k' u m h ⟨b1, h1, h2, h3⟩ => ⟨b1, h1, h2, by omega⟩
theorem low5 {k : Int} : (k = 5) ↔ loB k ≠ -1 := by unfold loB; split <;> simp_all
set_option maxRecDepth 100000 in
set_option maxHeartbeats 1000000 in
theorem rwords_spec {xs : List COp} {fv : Bool} {ad : Option Addr} {n cap : Nat} (w : World) (hn : n = xs.length) (hl : Sr fO 3 xs (.slice ad n cap) w) (hxl : xs.length ≤ 1000000) : Ret Tryz.prog 61 #[pV fv ad n cap] w (New fW 65 4 (wordsF fv xs) w) := by
 refine Ret.enterM (l := [pV fv ad n cap]) Tryz.func61 rfl Tryz.ntmps61 rfl ([]) (no) (Mem.nil w) ?_
 refine wpM.seq ?_
 refine wpM.region ?_
 refine LM.box rfl rfl (fun b1 hb1 => ?_)
 refine LM.val (ov_assign rfl) ?_
 refine LM.nil ?_
 refine QM.sub (e' := [(1, _)]) ⟨rfl, trivial⟩ ?_
 refine QM.then ?_
 refine wpM.seq ?_
 refine wpM.region ?_
 refine LM.val (ov_build (cs := #[_, _, _, _]) rfl (by first | rfl | kernel_rfl)) ?_
 refine LM.single Tryz.underlying23 Tryz.sizeOf65 Tryz.zeroValue65 rfl rfl rfl rfl rfl (fun b9 hb9 => ?_)
 refine LM.val (ov_assign rfl) ?_
 refine LM.nil ?_
 refine QM.sub (e' := [(1, _), (3, _)]) ⟨rfl, rfl, trivial⟩ ?_
 refine QM.then ?_
 refine wpM.seq ?_
 refine wpM.seq ?_
 refine wpM.region ?_
 have hlen13 : [(⟨1, wProg, 0, 0⟩ : Wrd)].length = 1 := rfl; change LM _ _ _ _ _ _ _ _ ((b9, Obj.cells (arr fW [(⟨1, wProg, 0, 0⟩ : Wrd)] []) 65 (0, 0)) :: _) _ _ _; have hs13 : Sl fW 65 4 w.heap.size [(⟨1, wProg, 0, 0⟩ : Wrd)] (.slice (some ⟨b9, 0, none⟩) 1 1) [(b9, .cells (arr fW [(⟨1, wProg, 0, 0⟩ : Wrd)] []) 65 (0, 0))] := .inr ⟨b9, 1, [], hb9, rfl, rfl, by decide, by unfold maxLen; decide, rfl⟩
 refine LM.val (ov_field Tryz.underlying87 rfl Tryz.sizeOf4 rfl (k := 0) rfl rfl) ?_
 first | refine LM.rd (om_ld Tryz.isAgg4 rfl rfl) ?_
 refine LM.nil ?_
 refine QM.sub (e' := [(1, _), (3, _), (11, _)]) ⟨rfl, rfl, rfl, trivial⟩ ?_
 refine QM.then ?_
 refine wpM.joinK (α := List Wrd × Option Addr × Nat × Nat × Mem0) (fun ⟨l0, ad0, n0, cap0, m0⟩ => [(3, .slice ad0 n0 cap0)]) [(1, _)] (fun ⟨l0, ad0, n0, cap0, m0⟩ => m0 ++ (pB b1 fv ad n cap :: [])) (fun ⟨l0, ad0, n0, cap0, m0⟩ => l0.length ≤ 2 ∧ l0 = ⟨1, wProg, 0, 0⟩ :: (if fv then [⟨1, wForever, 0, 0⟩] else []) ∧ n0 = l0.length ∧ Sl fW 65 4 w.heap.size l0 (.slice ad0 n0 cap0) m0) ⟨rfl, trivial⟩ ?_ ?_
 ·
  first | refine wpM.condD rfl (fun h1 => ?_) (fun h1 => ?_) | refine wpM.condB rfl (fun h1 => ?_) (fun h1 => ?_)
  ·
   refine wpM.region ?_
   refine LM.val (ov_move rfl) ?_
   refine LM.val (ov_build (cs := #[_, _, _, _]) rfl (by first | rfl | kernel_rfl)) ?_
   refine LM.single Tryz.underlying23 Tryz.sizeOf65 Tryz.zeroValue65 rfl rfl rfl rfl rfl (fun b14 hb14 => ?_)
   refine LM.app (a := (⟨1, wForever, 0, 0⟩ : Wrd)) Tryz.underlying23 Tryz.typeInfo65 rfl rfl rfl rfl rfl rfl rfl (by assumption) (by rfl) (by intro _; rfl) (by intro _ u hu; simp [fW] at hu; (repeat (first | (rcases hu with rfl | hu) | subst hu | rfl))) (by first | exact Nat.le_refl _ | omega) (fun p hp hlt => absurd hlt (Nat.not_lt_of_le (Sl.ge (by assumption) p hp))) (by first | omega | (unfold maxLen; omega)) (by simp only [Tryz.t65]; omega) (fun ad15 n15 cap15 m15 hn15 hs15 hin15 => ?_)
   refine LM.val (ov_assign rfl) ?_
   refine LM.nil ?_
   refine QM.sub (e' := [(1, _), (3, _)]) ⟨rfl, rfl, trivial⟩ ?_
   refine QM.meetK (([(⟨1, wProg, 0, 0⟩ : Wrd)] ++ [⟨1, wForever, 0, 0⟩], ad15, n15, cap15, m15)) ⟨(by first | rfl | exact lk rfl (by congr 1; omega) | exact lk rfl (by simp)), rfl, trivial⟩ (by (repeat' (first | exact SubM.nil _ | refine SubM.cons rfl ?_ | refine SubM.app ?_))) ?_
   · exact ⟨by simp, by rw [if_pos h1]; rfl, by rw [hn15]; rfl, hs15⟩
  ·
   refine wpM.skip ?_
   refine QM.meetK (([(⟨1, wProg, 0, 0⟩ : Wrd)], some ⟨b9, 0, none⟩, 1, 1, [(b9, .cells (arr fW [(⟨1, wProg, 0, 0⟩ : Wrd)] []) 65 (0, 0))])) ⟨(by first | rfl | exact lk rfl (by congr 1; omega) | exact lk rfl (by simp)), rfl, trivial⟩ (by (repeat' (first | exact SubM.nil _ | refine SubM.cons rfl ?_ | refine SubM.app ?_))) ?_
   · exact ⟨by decide, by rw [if_neg (by rw [h1]; simp)], rfl, hs13⟩
 ·
  rintro ⟨l0, ad0, n0, cap0, m0⟩ ⟨hz0, hl0, hn0, hs0⟩
  change QM _ _ _ _ _ (m0 ++ (pB b1 fv ad n cap :: [])) _ _ _
  refine QM.then ?_
  refine wpM.seq ?_
  refine wpM.region ?_
  refine LM.val (ov_move rfl) ?_
  refine LM.val (ov_build (cs := #[_, _, _, _]) rfl (by first | rfl | kernel_rfl)) ?_
  refine LM.single Tryz.underlying23 Tryz.sizeOf65 Tryz.zeroValue65 rfl rfl rfl rfl rfl (fun b18 hb18 => ?_)
  refine LM.app (a := mk3 [123]) Tryz.underlying23 Tryz.typeInfo65 rfl rfl rfl rfl rfl rfl rfl (by assumption) (by rfl) (by intro _; rfl) (by intro _ u hu; simp [fW] at hu; (repeat (first | (rcases hu with rfl | hu) | subst hu | rfl))) (by first | exact Nat.le_refl _ | omega) (fun p hp hlt => absurd hlt (Nat.not_lt_of_le (Sl.ge (by assumption) p hp))) (by first | omega | (unfold maxLen; omega)) (by simp only [Tryz.t65]; omega) (fun ad19 n19 cap19 m19 hn19 hs19 hin19 => ?_)
  refine LM.val (ov_assign rfl) ?_
  refine LM.nil ?_
  refine QM.sub (e' := [(1, _), (3, _)]) ⟨rfl, rfl, trivial⟩ ?_
  refine QM.then ?_
  refine wpM.seq ?_
  refine wpM.seq ?_
  refine wpM.region ?_
  refine LM.val (ov_assign rfl) ?_
  refine LM.nil ?_
  refine QM.sub (e' := [(1, _), (3, _), (4, _)]) ⟨rfl, rfl, rfl, trivial⟩ ?_
  refine QM.then ?_
  refine wpM.block ?_
  refine wpM.loopK0 (α := Nat × List Wrd × Option Addr × Nat × Nat × Mem0) (fun ⟨i, l1, ad1, n1, cap1, m1⟩ => [(3, .slice ad1 n1 cap1), (4, .int .i64 (i : Nat))]) [(1, _)] (fun ⟨i, l1, ad1, n1, cap1, m1⟩ => m1 ++ (pB b1 fv ad n cap :: [])) (fun ⟨i, l1, ad1, n1, cap1, m1⟩ => i ≤ xs.length ∧ l1.length ≤ 3 + 4 * i ∧ l1 = l0 ++ [mk3 [123]] ++ (xs.take i).flatMap opW ∧ n1 = l1.length ∧ Sl fW 65 4 w.heap.size l1 (.slice ad1 n1 cap1) m1) (fun ⟨i, l1, ad1, n1, cap1, m1⟩ => xs.length - i) ((0, l0 ++ [mk3 [123]], ad19, n19, cap19, m19)) ⟨(by first | rfl | exact lk rfl (by congr 1; omega) | exact lk rfl (by simp)), (by first | rfl | exact lk rfl (by congr 1; omega) | exact lk rfl (by simp)), rfl, trivial⟩ (by (repeat' (first | exact SubM.nil _ | refine SubM.cons rfl ?_ | refine SubM.app ?_))) ⟨Nat.zero_le _, by simp; omega, by simp, by rw [hn19]; simp, hs19⟩ ?_
  rintro ⟨i, l1, ad1, n1, cap1, m1⟩ ⟨hi, hz1, hl1, hn1, hs1⟩
  change wpM _ _ _ _ _ _ _ (m1 ++ (pB b1 fv ad n cap :: [])) _ _ _
  refine wpM.seq ?_
  refine wpM.seq ?_
  refine wpM.region ?_
  refine LM.val (ov_move rfl) ?_
  refine LM.val (ov_field Tryz.underlying87 rfl Tryz.sizeOf85 rfl (k := 1) rfl rfl) ?_
  first | refine LM.rd (om_ld Tryz.isAgg85 rfl rfl) ?_
  refine LM.val (ov_len Tryz.underlying85 rfl) ?_
  refine LM.val (ov_lss rfl rfl) ?_
  refine LM.nil ?_
  refine QM.sub (e' := [(1, _), (3, _), (4, _), (24, _)]) ⟨rfl, rfl, rfl, rfl, trivial⟩ ?_
  refine QM.then ?_
  refine wpM.condD rfl (fun h2 => ?_) (fun h2 => ?_)
  ·
   refine wpM.skip ?_
   refine QM.then ?_
   refine wpM.seq ?_
   refine wpM.block ?_
   refine wpM.seq ?_
   refine wpM.region ?_
   refine LM.val (ov_field Tryz.underlying87 rfl Tryz.sizeOf85 rfl (k := 1) rfl rfl) ?_
   first | refine LM.rd (om_ld Tryz.isAgg85 rfl rfl) ?_
   refine LM.val (ov_move rfl) ?_
   refine LM.val (ov_idxSN (by first | exact Sr.spt (by assumption) | exact Sl.spt (by assumption)) Tryz.underlying85 Tryz.sizeOf135 rfl rfl (by omega)) ?_
   first | refine LM.rd (om_slA (by assumption) (by intro _; rfl) Tryz.isAgg135 Tryz.sizeOf135 rfl (by exact getq default (by first | omega | (simp only [List.length_set, List.length_append, List.length_cons, List.length_nil]; omega)))) ?_ | refine LM.rdC (om_srEA (by assumption) (by intro _; rfl) Tryz.isAgg135 Tryz.sizeOf135 rfl (by exact getq default (by first | omega | (simp only [List.length_set, List.length_append, List.length_cons, List.length_nil]; omega))) id) ?_ | refine LM.rd (om_ldW Tryz.isAgg135 Tryz.sizeOf135 rfl rfl) ?_ | refine LM.rd (om_ldA Tryz.isAgg135 Tryz.sizeOf135 rfl (vs := [_, _, _]) rfl ⟨rfl, rfl, rfl, trivial⟩) ?_
   refine LM.alloc Tryz.zeroValue135 rfl (fun b5 hb5 => ?_)
   refine LM.stW Tryz.sizeOf135 rfl rfl rfl rfl (by first | rfl | decide | (simp; done)) (fun hlt => absurd hlt (by omega)) ?_
   refine LM.nil ?_
   refine QM.sub (e' := [(1, _), (3, _), (4, _), (5, _)]) ⟨rfl, rfl, rfl, rfl, trivial⟩ ?_
   refine QM.then ?_
   refine wpM.seq ?_
   refine wpM.region ?_
   refine LM.val (ov_move rfl) ?_
   refine LM.val (ov_field Tryz.underlying135 rfl Tryz.sizeOf3 rfl (k := 0) rfl rfl) ?_
   first | refine LM.rd (om_ld Tryz.isAgg3 rfl rfl) ?_
   refine LM.callE (oc_call (enters_fn Tryz.func88 (by kernel_rfl) rfl) rfl) (fun w hm hc hg => rname_spec _ w) ?_
   refine LM.val (ov_build (cs := #[_, _, _, _]) rfl (by first | rfl | kernel_rfl)) ?_
   refine LM.single Tryz.underlying23 Tryz.sizeOf65 Tryz.zeroValue65 rfl rfl rfl rfl rfl (fun b37 hb37 => ?_)
   refine LM.app (a := (⟨1, nmT (xs.getD i default).k, 0, 0⟩ : Wrd)) Tryz.underlying23 Tryz.typeInfo65 rfl rfl rfl rfl rfl rfl rfl (by assumption) (by rfl) (by intro _; rfl) (by intro _ u hu; simp [fW] at hu; (repeat (first | (rcases hu with rfl | hu) | subst hu | rfl))) (by first | exact Nat.le_refl _ | omega) (fun p hp hlt => absurd hlt (Nat.not_lt_of_le (Sl.ge (by assumption) p hp))) (by first | omega | (unfold maxLen; omega)) (by simp only [Tryz.t65]; omega) (fun ad38 n38 cap38 m38 hn38 hs38 hin38 => ?_)
   refine LM.val (ov_assign rfl) ?_
   refine LM.nil ?_
   refine QM.sub (e' := [(1, _), (3, _), (4, _), (5, _)]) ⟨rfl, rfl, rfl, rfl, trivial⟩ ?_
   refine QM.then ?_
   refine wpM.seq ?_
   refine wpM.region ?_
   refine LM.val (ov_field Tryz.underlying135 rfl Tryz.sizeOf3 rfl (k := 0) rfl rfl) ?_
   first | refine LM.rd (om_ld Tryz.isAgg3 rfl rfl) ?_
   refine LM.callE (oc_call (enters_fn Tryz.func89 (by kernel_rfl) rfl) rfl) (fun w hm hc hg => limits_spec _ w) ?_
   refine LM.val (ov_move rfl) ?_
   refine LM.val (ov_extract rfl rfl) ?_
   refine LM.val (ov_extract rfl rfl) ?_
   refine LM.val (ov_assign rfl) ?_
   refine LM.val (ov_assign rfl) ?_
   refine LM.nil ?_
   refine QM.sub (e' := [(1, _), (3, _), (4, _), (5, _), (6, _)]) ⟨rfl, rfl, rfl, rfl, rfl, trivial⟩ ?_
   refine QM.then ?_
   refine wpM.seq ?_
   refine wpM.seq ?_
   refine wpM.region ?_
   refine LM.val (ov_move rfl) ?_
   refine LM.val (ov_geq rfl rfl) ?_
   refine LM.nil ?_
   refine QM.sub (e' := [(1, _), (3, _), (4, _), (5, _), (46, _)]) ⟨rfl, rfl, rfl, rfl, rfl, trivial⟩ ?_
   refine QM.then ?_
   refine wpM.joinK (α := List Wrd × Option Addr × Nat × Nat × Mem0) (fun ⟨l2, ad2, n2, cap2, m2⟩ => [(3, .slice ad2 n2 cap2)]) [(1, _), (4, _), (5, _)] (fun ⟨l2, ad2, n2, cap2, m2⟩ => m2 ++ ((b5, .cells (fO (xs.getD i default)).toArray 135 (0, 0)) :: pB b1 fv ad n cap :: [])) (fun ⟨l2, ad2, n2, cap2, m2⟩ => l2.length ≤ 5 + 4 * i ∧ l2 = l1 ++ [⟨1, nmT (xs.getD i default).k, 0, 0⟩] ++ (if loA (xs.getD i default).k ≠ -1 then [⟨2, [], (xs.getD i default).a, 0⟩] else []) ∧ n2 = l2.length ∧ Sl fW 65 4 w.heap.size l2 (.slice ad2 n2 cap2) m2) ⟨rfl, rfl, rfl, trivial⟩ ?_ ?_
   ·
    refine wpM.condD rfl (fun h3 => ?_) (fun h3 => ?_)
    ·
     refine wpM.region ?_
     have hlp : (l1 ++ [(⟨1, nmT (xs.getD i default).k, 0, 0⟩ : Wrd)]).length = l1.length + 1 := (by simp)
     refine LM.val (ov_move rfl) ?_
     refine LM.val (ov_field Tryz.underlying135 rfl Tryz.sizeOf3 rfl (k := 1) rfl rfl) ?_
     first | refine LM.rd (om_ld Tryz.isAgg3 rfl rfl) ?_
     refine LM.val (ov_build (cs := #[_, _, _, _]) rfl (by first | rfl | kernel_rfl)) ?_
     refine LM.single Tryz.underlying23 Tryz.sizeOf65 Tryz.zeroValue65 rfl rfl rfl rfl rfl (fun b51 hb51 => ?_)
     refine LM.app (a := (⟨2, [], (xs.getD i default).a, 0⟩ : Wrd)) Tryz.underlying23 Tryz.typeInfo65 rfl rfl rfl rfl rfl rfl rfl (by assumption) (by rfl) (by intro _; rfl) (by intro _ u hu; simp [fW] at hu; (repeat (first | (rcases hu with rfl | hu) | subst hu | rfl))) (by first | exact Nat.le_refl _ | omega) (fun p hp hlt => absurd hlt (Nat.not_lt_of_le (Sl.ge (by assumption) p hp))) (by first | omega | (unfold maxLen; omega)) (by simp only [Tryz.t65]; omega) (fun ad52 n52 cap52 m52 hn52 hs52 hin52 => ?_)
     refine LM.val (ov_assign rfl) ?_
     refine LM.nil ?_
     refine QM.sub (e' := [(1, _), (3, _), (4, _), (5, _)]) ⟨rfl, rfl, rfl, rfl, trivial⟩ ?_
     refine QM.meetK ((l1 ++ [(⟨1, nmT (xs.getD i default).k, 0, 0⟩ : Wrd)] ++ [⟨2, [], (xs.getD i default).a, 0⟩], ad52, n52, cap52, m52)) ⟨(by first | rfl | exact lk rfl (by congr 1; omega) | exact lk rfl (by simp)), rfl, rfl, rfl, trivial⟩ (by (repeat' (first | exact SubM.nil _ | refine SubM.cons rfl ?_ | refine SubM.app ?_))) ?_
     · exact ⟨by simp; omega, by rw [if_pos (by omega)], by rw [hn52]; simp, hs52⟩
    ·
     refine wpM.skip ?_
     refine QM.meetK ((l1 ++ [(⟨1, nmT (xs.getD i default).k, 0, 0⟩ : Wrd)], ad38, n38, cap38, m38)) ⟨(by first | rfl | exact lk rfl (by congr 1; omega) | exact lk rfl (by simp)), rfl, rfl, rfl, trivial⟩ (by (repeat' (first | exact SubM.nil _ | refine SubM.cons rfl ?_ | refine SubM.app ?_))) ?_
     · exact ⟨by simp; omega, by rw [if_neg (by have := loA_cases (xs.getD i default).k; omega)]; simp, by rw [hn38]; simp, hs38⟩
   ·
    rintro ⟨l2, ad2, n2, cap2, m2⟩ ⟨hz2, hl2, hn2, hs2⟩
    change QM _ _ _ _ _ (m2 ++ ((b5, .cells (fO (xs.getD i default)).toArray 135 (0, 0)) :: pB b1 fv ad n cap :: [])) _ _ _
    refine QM.then ?_
    refine wpM.seq ?_
    refine wpM.seq ?_
    refine wpM.region ?_
    refine LM.val (ov_field Tryz.underlying135 rfl Tryz.sizeOf3 rfl (k := 0) rfl rfl) ?_
    first | refine LM.rd (om_ld Tryz.isAgg3 rfl rfl) ?_
    refine LM.val (ov_eql rfl rfl) ?_
    refine LM.nil ?_
    refine QM.sub (e' := [(1, _), (3, _), (4, _), (5, _), (55, _)]) ⟨rfl, rfl, rfl, rfl, rfl, trivial⟩ ?_
    refine QM.then ?_
    refine wpM.joinK (α := List Wrd × Option Addr × Nat × Nat × Mem0) (fun ⟨l3, ad3, n3, cap3, m3⟩ => [(3, .slice ad3 n3 cap3)]) [(1, _), (4, _)] (fun ⟨l3, ad3, n3, cap3, m3⟩ => m3 ++ (pB b1 fv ad n cap :: [])) (fun ⟨l3, ad3, n3, cap3, m3⟩ => l3.length ≤ 6 + 4 * i ∧ l3 = l2 ++ (if loB (xs.getD i default).k ≠ -1 then [⟨2, [], (xs.getD i default).b, 0⟩] else []) ∧ n3 = l3.length ∧ Sl fW 65 4 w.heap.size l3 (.slice ad3 n3 cap3) m3) ⟨rfl, rfl, trivial⟩ ?_ ?_
    ·
     refine wpM.condD rfl (fun h4 => ?_) (fun h4 => ?_)
     ·
      refine wpM.region ?_
      refine LM.val (ov_move rfl) ?_
      refine LM.val (ov_field Tryz.underlying135 rfl Tryz.sizeOf3 rfl (k := 2) rfl rfl) ?_
      first | refine LM.rd (om_ld Tryz.isAgg3 rfl rfl) ?_
      refine LM.val (ov_build (cs := #[_, _, _, _]) rfl (by first | rfl | kernel_rfl)) ?_
      refine LM.single Tryz.underlying23 Tryz.sizeOf65 Tryz.zeroValue65 rfl rfl rfl rfl rfl (fun b60 hb60 => ?_)
      refine LM.app (a := (⟨2, [], (xs.getD i default).b, 0⟩ : Wrd)) Tryz.underlying23 Tryz.typeInfo65 rfl rfl rfl rfl rfl rfl rfl (by assumption) (by rfl) (by intro _; rfl) (by intro _ u hu; simp [fW] at hu; (repeat (first | (rcases hu with rfl | hu) | subst hu | rfl))) (by first | exact Nat.le_refl _ | omega) (fun p hp hlt => absurd hlt (Nat.not_lt_of_le (Sl.ge (by assumption) p hp))) (by first | omega | (unfold maxLen; omega)) (by simp only [Tryz.t65]; omega) (fun ad61 n61 cap61 m61 hn61 hs61 hin61 => ?_)
      refine LM.val (ov_assign rfl) ?_
      refine LM.nil ?_
      refine QM.sub (e' := [(1, _), (3, _), (4, _)]) ⟨rfl, rfl, rfl, trivial⟩ ?_
      refine QM.meetK ((l2 ++ [(⟨2, [], (xs.getD i default).b, 0⟩ : Wrd)], ad61, n61, cap61, m61)) ⟨(by first | rfl | exact lk rfl (by congr 1; omega) | exact lk rfl (by simp)), rfl, rfl, trivial⟩ (by (repeat' (first | exact SubM.nil _ | refine SubM.cons rfl ?_ | refine SubM.app ?_))) ?_
      · exact ⟨by simp; omega, by rw [if_pos (low5.1 h4)], by rw [hn61]; simp, hs61⟩
     ·
      refine wpM.skip ?_
      refine QM.meetK ((l2, ad2, n2, cap2, m2)) ⟨(by first | rfl | exact lk rfl (by congr 1; omega) | exact lk rfl (by simp)), rfl, rfl, trivial⟩ (by (repeat' (first | exact SubM.nil _ | refine SubM.cons rfl ?_ | refine SubM.app ?_))) ?_
      · exact ⟨by omega, by rw [if_neg (fun q => h4 (low5.2 q))]; simp, hn2, hs2⟩
    ·
     rintro ⟨l3, ad3, n3, cap3, m3⟩ ⟨hz3, hl3, hn3, hs3⟩
     change QM _ _ _ _ _ (m3 ++ (pB b1 fv ad n cap :: [])) _ _ _
     refine QM.then ?_
     refine wpM.region ?_
     refine LM.val (ov_move rfl) ?_
     refine LM.val (ov_build (cs := #[_, _, _, _]) rfl (by first | rfl | kernel_rfl)) ?_
     refine LM.single Tryz.underlying23 Tryz.sizeOf65 Tryz.zeroValue65 rfl rfl rfl rfl rfl (fun b64 hb64 => ?_)
     refine LM.app (a := mk3 [59]) Tryz.underlying23 Tryz.typeInfo65 rfl rfl rfl rfl rfl rfl rfl (by assumption) (by rfl) (by intro _; rfl) (by intro _ u hu; simp [fW] at hu; (repeat (first | (rcases hu with rfl | hu) | subst hu | rfl))) (by first | exact Nat.le_refl _ | omega) (fun p hp hlt => absurd hlt (Nat.not_lt_of_le (Sl.ge (by assumption) p hp))) (by first | omega | (unfold maxLen; omega)) (by simp only [Tryz.t65]; omega) (fun ad65 n65 cap65 m65 hn65 hs65 hin65 => ?_)
     refine LM.val (ov_assign rfl) ?_
     refine LM.nil ?_
     refine QM.sub (e' := [(1, _), (3, _), (4, _)]) ⟨rfl, rfl, rfl, trivial⟩ ?_
     refine QM.block_normal ?_
     refine QM.then ?_
     refine wpM.region ?_
     refine LM.val (ov_move rfl) ?_
     refine LM.val (ov_add64 rfl rfl (by omega)) ?_
     refine LM.val (ov_assign rfl) ?_
     refine LM.nil ?_
     refine QM.sub (e' := [(1, _), (3, _), (4, _)]) ⟨rfl, rfl, rfl, trivial⟩ ?_
     refine QM.againK ((i + 1, l3 ++ [mk3 [59]], ad65, n65, cap65, m65)) ⟨(by first | rfl | exact lk rfl (by congr 1; omega) | exact lk rfl (by simp)), (by first | rfl | exact lk rfl (by congr 1; omega) | exact lk rfl (by simp)), rfl, trivial⟩ (by (repeat' (first | exact SubM.nil _ | refine SubM.cons rfl ?_ | refine SubM.app ?_))) (fun _ h => h) ?_ ?_
     · exact ⟨by omega, by simp; omega, by rw [hl3, hl2, hl1, flat_snoc (by omega)]; simp [opW], by rw [hn65]; simp, hs65⟩
     · first | omega | (dsimp only; omega)
  ·
   refine wpM.exit ?_
   refine QM.then_exit ?_
   refine QM.then_exit ?_
   refine QM.block_hit ?_
   refine QM.then ?_
   refine wpM.seq ?_
   refine wpM.region ?_
   refine LM.val (ov_move rfl) ?_
   refine LM.val (ov_build (cs := #[_, _, _, _]) rfl (by first | rfl | kernel_rfl)) ?_
   refine LM.single Tryz.underlying23 Tryz.sizeOf65 Tryz.zeroValue65 rfl rfl rfl rfl rfl (fun b68 hb68 => ?_)
   refine LM.app (a := mk3 [125]) Tryz.underlying23 Tryz.typeInfo65 rfl rfl rfl rfl rfl rfl rfl (by assumption) (by rfl) (by intro _; rfl) (by intro _ u hu; simp [fW] at hu; (repeat (first | (rcases hu with rfl | hu) | subst hu | rfl))) (by first | exact Nat.le_refl _ | omega) (fun p hp hlt => absurd hlt (Nat.not_lt_of_le (Sl.ge (by assumption) p hp))) (by first | omega | (unfold maxLen; omega)) (by simp only [Tryz.t65]; omega) (fun ad69 n69 cap69 m69 hn69 hs69 hin69 => ?_)
   refine LM.val (ov_assign rfl) ?_
   refine LM.nil ?_
   refine QM.sub (e' := [(2, _)]) ⟨rfl, trivial⟩ ?_
   refine QM.then ?_
   refine wpM.ret ?_
   refine QM.leave (.inl rfl) [.tmp 2] Tryz.results61 rfl ?_
   intro w' hm' hc' hg'
   have hil : i = xs.length := (by omega); subst hil; rw [List.take_length] at hl1; have hw : wordsF fv xs = l1 ++ [mk3 [125]] := (by unfold wordsF; rw [hl1, hl0]); rw [hw]; exact ⟨hc', m69, hs69, hm'.pick _⟩

end Go.Eng
set_option linter.unusedVariables false
set_option linter.unusedSimpArgs false
namespace Go.Eng
open Go Go.Proofs Go.RowKit

end Go.Eng
set_option linter.unusedVariables false
set_option linter.unusedSimpArgs false
namespace Go.Eng
open Go Go.Proofs Go.RowKit

def AcT (r : List Act × Int × Int) (n0 : Nat) (v : Value) (m : Mem0) : Prop := ∃ ad n cap, v = .tuple #[.slice ad n cap, .int .i64 r.2.1, .int .i64 r.2.2] ∧ n = r.1.length ∧ Sl fA 123 5 n0 r.1 (.slice ad n cap) m
theorem AcT.mono {r : List Act × Int × Int} : ∀ (k k' : Nat) u m, k' ≤ k → AcT r k u m → AcT r k' u m := fun k k' u m h ⟨ad, n, cap, h1, h2, h3⟩ => ⟨ad, n, cap, h1, h2, h3.mono h⟩
end Go.Eng
set_option linter.unusedVariables false
set_option linter.unusedSimpArgs false
namespace Go.Eng
open Go Go.Proofs Go.RowKit

end Go.Eng
set_option linter.unusedVariables false
set_option linter.unusedSimpArgs false
namespace Go.Eng
open Go Go.Proofs Go.RowKit

/-- a script as it lies -/
structure ScV where
  sv : StV
  xs : List Act
  ad : Option Addr
  n : Nat
  cap : Nat
abbrev ScV.val (x : ScV) : Value := .agg #[.int .i64 x.sv.cr, .int .i64 x.sv.gr, .slice x.sv.ga x.sv.gn x.sv.gc, .slice x.sv.la x.sv.ln x.sv.lc, .slice x.sv.pa x.sv.pn x.sv.pc, .slice x.ad x.n x.cap]
structure ScV.In (x : ScV) (w : World) : Prop where
  st : x.sv.In w
  hn : x.n = x.xs.length
  hx : Sr fA 5 x.xs (.slice x.ad x.n x.cap) w
theorem ScV.In.ext {x : ScV} {w w' : World} (h : x.In w) (k : Ext w w') : x.In w' := ⟨h.st.ext k, h.hn, h.hx.ext k⟩
def SpT (r : StC × List Act × Int × Int) (n0 : Nat) (v : Value) (m : Mem0) : Prop := ∃ x : ScV, v = .tuple #[x.val, .int .i64 r.2.2.1, .int .i64 r.2.2.2] ∧ x.sv.C = r.1 ∧ x.xs = r.2.1 ∧ ∀ w, Mem w m → x.In w
theorem SpT.mono {r : StC × List Act × Int × Int} : ∀ (k k' : Nat) u m, k' ≤ k → SpT r k u m → SpT r k' u m := fun k k' u m h q => q
end Go.Eng
