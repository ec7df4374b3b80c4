/- The walks of who waits for whom: cycles; the first law. No condition. -/
import Derived.Test.YtpemcncnehhgfaaDoorGraph2
import Derived.Test.YtpemcncnehhgfaaDoorGraphOpen
set_option linter.unusedVariables false
set_option linter.unusedSimpArgs false
namespace Go.Eng
open Go Go.Proofs Go.RowKit

theorem wait_at {G G' : Gr} {who e : Int} {s : BitVec 64} (he : wtE G who s = e) (hg : wtG G who s = G') (b : Nat) (hG : G.length = 64) (w : World) (hT : Tab w) (hb0 : 0 < b) (hM : Mem w [gB b G]) :
    Ret Tryd.prog 28 #[.pointer (some ⟨b, 0, none⟩), .int .i64 who, U s] w (WrP b (.int .i64 e) (gO G') w) := he ▸ hg ▸ wait_spec b G who s w hG hT hb0 hM
def G22a : Gr := zeroG.set 1 4#64
def G22 : Gr := G22a.set 2 8#64
theorem w22a : wtE zeroG 1 4#64 = 0 := by decide +kernel
theorem w22A : wtG zeroG 1 4#64 = G22a := by unfold wtG; rw [if_pos w22a]; rfl
theorem w22b : wtE G22a 2 8#64 = 0 := by decide +kernel
theorem w22B : wtG G22a 2 8#64 = G22 := by unfold wtG; rw [if_pos w22b]; rfl
theorem w22c : wtE G22 3 2#64 = 9 := by decide +kernel
theorem w22C : wtG G22 3 2#64 = G22 := by unfold wtG; rw [if_neg (by rw [w22c]; decide)]
theorem G22_acy : Acy G22 := by rw [← w22B]; exact wtG_acy (by decide) (by rw [← w22A]; exact wtG_acy zeroG_len acy_zero _ _) _ _
theorem w22n : chn G22 64 1 = [1, 2, 3] := by decide +kernel
theorem w22r : rchG G22 1 = 12#64 := by decide +kernel
theorem w22h : bhdG G22 3 = 6#64 := by decide +kernel
theorem w22y : cycB [⟨1, 2⟩, ⟨2, 1⟩] = true := by decide +kernel
theorem turned_bit {G : Gr} {a b : Int} (ha : 0 ≤ a ∧ a < 64) (hb : 0 ≤ b ∧ b < 64) : (ovr G (ot G a.toNat)).getLsbD b.toNat = (bhd G b.toNat).getLsbD a.toNat := by
  rw [Bool.eq_iff_iff, ← hasB_nat, ← hasB_nat, ovr_iff, bhd_iff _ _ _ (by omega)]
set_option maxRecDepth 100000 in
theorem cyclic_spec {l : List Ed} {ad : Option Addr} {n cap : Nat} (w : World) (hT : Tab w) (hn : n = l.length) (hl : Sr fEd 2 l (.slice ad n cap) w) (hx : l.length ≤ 1000000000000) : Ret Tryd.prog 54 #[.slice ad n cap] w (fun v w' => v = .bool (cycB l) ∧ Ext w w') := by
  have hpos := hT.pos
  refine Ret.enterM (l := [.slice ad n cap]) Tryd.func54 rfl Tryd.ntmps54 rfl ([]) (no) (Mem.nil w) ?_
  refine wpM.seq ?_
  refine wpM.region ?_
  refine LM.val (ov_assign rfl) ?_
  refine LM.nil ?_
  refine QM.sub (e' := [(0, _)]) ⟨rfl, trivial⟩ ?_
  refine QM.then ?_
  refine wpM.seq ?_
  refine wpM.region ?_
  refine LM.callT (oc_call (enters_fn Tryd.func27 (by kernel_rfl) rfl) rfl) NewGT.mono (fun w hm hc hg => gnew_spec w) ?_
  rintro u6 m6 ⟨bg, rfl, rfl, hbg⟩ -
  refine LM.val (ov_assign rfl) ?_
  refine LM.nil ?_
  refine QM.sub (e' := [(0, _), (3, _)]) ⟨rfl, rfl, trivial⟩ ?_
  refine QM.then ?_
  refine wpM.seq ?_
  refine wpM.seq ?_
  refine wpM.region ?_
  refine LM.val (ov_move rfl) ?_
  refine LM.val (ov_len Tryd.underlying75 rfl) ?_
  refine LM.val (ov_move rfl) ?_
  refine LM.nil ?_
  refine QM.sub (e' := [(3, _), (7, _), (8, _), (9, _)]) ⟨rfl, rfl, rfl, rfl, trivial⟩ ?_
  refine QM.then ?_
  refine wpM.block ?_
  refine wpM.loopK0 (α := Nat × Gr) (fun ⟨i, G⟩ => [(9, .int .i64 (i : Nat))]) [(3, _), (7, _), (8, _)] (fun ⟨i, G⟩ => gB bg G :: []) (fun ⟨i, G⟩ => i ≤ l.length ∧ G = unG (l.take i) ∧ Acy G) (fun ⟨i, G⟩ => l.length - i) ((0, zeroG)) ⟨(by first | rfl | exact lk rfl (by congr 1; omega) | exact lk rfl (by simp)), rfl, rfl, rfl, trivial⟩ (by (repeat' (first | exact SubM.nil _ | refine SubM.cons rfl ?_ | refine SubM.app ?_))) ⟨Nat.zero_le _, rfl, acy_zero⟩ ?_
  rintro ⟨i, G⟩ ⟨hi, hG, hA⟩
  change wpM _ _ _ _ _ _ _ (gB bg G :: []) _ _ _
  have hlen : G.length = 64 := (by rw [hG]; exact unG_len _)
  refine wpM.seq ?_
  refine wpM.region ?_
  refine LM.val (ov_lss rfl rfl) ?_
  refine LM.nil ?_
  refine QM.sub (e' := [(3, _), (7, _), (8, _), (9, _), (10, _)]) ⟨rfl, rfl, rfl, rfl, rfl, trivial⟩ ?_
  refine QM.then ?_
  refine wpM.seq ?_
  first | refine wpM.condD rfl (fun h1 => ?_) (fun h1 => ?_) | refine wpM.condB rfl (fun h1 => ?_) (fun h1 => ?_)
  ·
    refine wpM.skip ?_
    refine QM.then ?_
    refine wpM.seq ?_
    refine wpM.block ?_
    refine wpM.seq ?_
    refine wpM.region ?_
    first | refine LM.val (ov_idxSN (by first | exact Sr.spt (by assumption) | exact Sl.spt (by assumption)) Tryd.underlying75 Tryd.sizeOf80 rfl rfl (by omega)) ?_ | refine LM.val (ov_idxS (by first | exact Sr.spt (by assumption) | exact Sl.spt (by assumption)) Tryd.underlying75 Tryd.sizeOf80 rfl rfl (by omega)) ?_ | refine LM.val (ov_idx Tryd.underlying75 Tryd.sizeOf80 rfl rfl (by omega)) ?_
    first | refine LM.rd (om_slA (by assumption) (by intro _; rfl) Tryd.isAgg80 Tryd.sizeOf80 rfl (by exact getq default (by first | omega | (simp only [List.length_set, List.length_append, List.length_cons, List.length_nil]; omega)))) ?_ | refine LM.rdC (om_srEA (by assumption) (by intro _; rfl) Tryd.isAgg80 Tryd.sizeOf80 rfl (by exact getq default (by first | omega | (simp only [List.length_set, List.length_append, List.length_cons, List.length_nil]; omega))) id) ?_ | refine LM.rd (om_ldW Tryd.isAgg80 Tryd.sizeOf80 rfl rfl) ?_ | refine LM.rd (om_ldA Tryd.isAgg80 Tryd.sizeOf80 rfl (vs := [_, _]) rfl ⟨rfl, rfl, trivial⟩) ?_
    refine LM.alloc Tryd.zeroValue80 rfl (fun b5 hb5 => ?_)
    first | refine LM.stW Tryd.sizeOf80 rfl rfl rfl rfl (by first | rfl | decide | (simp; done)) (fun hlt => absurd hlt (by omega)) ?_ | refine LM.st Tryd.sizeOf80 rfl rfl rfl (by first | decide | exact Nat.le_of_ble_eq_true rfl | (simp; done) | (simp; omega)) rfl (fun hlt => absurd hlt (by omega)) ?_
    refine LM.nil ?_
    refine QM.sub (e' := [(3, _), (5, _), (7, _), (8, _), (9, _)]) ⟨rfl, rfl, rfl, rfl, rfl, trivial⟩ ?_
    refine QM.then ?_
    refine wpM.seq ?_
    refine wpM.draw [(0, 0), (1, 0), (2, 1), (3, 2), (4, 0), (5, 0), (6, 0), (7, 1), (8, 2), (9, 0), (10, 0), (11, 0), (12, 0), (13, 1), (14, 0), (15, 0), (16, 1), (18, 0), (19, 1), (17, 2), (20, 2), (21, 3), (22, 3), (23, 3)] (by kernel_rfl) (by kernel_rfl) ?_
    refine LD.val rfl rfl (ov_move rfl) ?_
    refine LD.val rfl rfl (ov_field Tryd.underlying80 rfl Tryd.sizeOf3 rfl (k := 0) rfl rfl) ?_
    first | refine LD.rd rfl rfl (om_ld Tryd.isAgg3 rfl rfl) ?_
    refine LD.callE rfl rfl (oc_call (enters_fn Tryd.func59 (by kernel_rfl) rfl) rfl) (fun w hm hc hg => is_spec _ _ w) ?_
    refine LD.val rfl rfl (ov_move rfl) ?_
    first | refine LD.splitD (t := 17) rfl (fun h2 => ?_) (fun h2 => ?_) | refine LD.splitB (t := 17) rfl (fun h2 => ?_) (fun h2 => ?_)
    ·
      refine LD.val rfl ⟨17, _, rfl, rfl, rfl⟩ (ov_move rfl) ?_
      refine LD.val rfl ⟨17, _, rfl, rfl, rfl⟩ (ov_field Tryd.underlying80 rfl Tryd.sizeOf3 rfl (k := 1) rfl rfl) ?_
      first | refine LD.rd rfl ⟨17, _, rfl, rfl, rfl⟩ (om_ld Tryd.isAgg3 rfl rfl) ?_
      refine LD.callE rfl ⟨17, _, rfl, rfl, rfl⟩ (oc_call (enters_fn Tryd.func59 (by kernel_rfl) rfl) rfl) (fun w hm hc hg => is_spec _ _ w) ?_
      refine LD.val rfl rfl (ov_pickT rfl rfl) ?_
      refine LD.val rfl rfl (ov_move rfl) ?_
      first | refine LD.splitD (t := 23) rfl (fun h3 => ?_) (fun h3 => ?_) | refine LD.splitB (t := 23) rfl (fun h3 => ?_) (fun h3 => ?_)
      ·
        refine LD.val rfl ⟨23, _, rfl, rfl, rfl⟩ (ov_move rfl) ?_
        refine LD.val rfl ⟨23, _, rfl, rfl, rfl⟩ (ov_field Tryd.underlying80 rfl Tryd.sizeOf3 rfl (k := 0) rfl rfl) ?_
        first | refine LD.rd rfl ⟨23, _, rfl, rfl, rfl⟩ (om_ld Tryd.isAgg3 rfl rfl) ?_
        refine LD.val rfl ⟨23, _, rfl, rfl, rfl⟩ (ov_move rfl) ?_
        refine LD.val rfl ⟨23, _, rfl, rfl, rfl⟩ (ov_field Tryd.underlying80 rfl Tryd.sizeOf3 rfl (k := 0) rfl rfl) ?_
        first | refine LD.rd rfl ⟨23, _, rfl, rfl, rfl⟩ (om_ld Tryd.isAgg3 rfl rfl) ?_
        refine LD.val rfl ⟨23, _, rfl, rfl, rfl⟩ (ov_field Tryd.underlying80 rfl Tryd.sizeOf3 rfl (k := 1) rfl rfl) ?_
        first | refine LD.rd rfl ⟨23, _, rfl, rfl, rfl⟩ (om_ld Tryd.isAgg3 rfl rfl) ?_
        refine LD.callE rfl ⟨23, _, rfl, rfl, rfl⟩ (oc_call (enters_fn Tryd.func31 (by kernel_rfl) rfl) rfl) (fun w hm hc hg => gof_spec bg G _ w hlen (hm.pick _)) ?_
        refine LD.callE rfl ⟨23, _, rfl, rfl, rfl⟩ (oc_call (enters_fn Tryd.func21 (by kernel_rfl) rfl) rfl) (fun w hm hc hg => with_spec _ _ w) ?_
        refine LD.tail rfl rfl ?_
        refine LM.strip (t := 23) rfl rfl rfl ?_
        refine LM.cW (oc_call (enters_fn Tryd.func28 (by kernel_rfl) rfl) rfl) (fun w hm hc hg => wait_spec bg G _ _ w hlen (hT.ext hc) (by omega) (hm.pick _)) rfl (fun hlt => absurd hlt (by omega)) ?_
        refine LM.strip (t := 23) rfl rfl rfl ?_
        refine LM.val (ov_neq rfl rfl) ?_
        refine LM.val (ov_pickT rfl rfl) ?_
        refine LM.nil ?_
        refine QM.qn ?_
        refine QM.sub (e' := [(3, _), (7, _), (8, _), (9, _), (36, _)]) ⟨rfl, rfl, rfl, rfl, rfl, trivial⟩ ?_
        refine QM.then ?_
        first | refine wpM.condD rfl (fun h4 => ?_) (fun h4 => ?_) | refine wpM.condB rfl (fun h4 => ?_) (fun h4 => ?_)
        ·
          refine wpM.seq ?_
          refine wpM.region ?_
          refine LM.val (ov_assign rfl) ?_
          refine LM.nil ?_
          refine QM.sub (e' := [(2, _)]) ⟨rfl, trivial⟩ ?_
          refine QM.then ?_
          refine wpM.ret ?_
          refine QM.block_ret ?_
          refine QM.then_ret ?_
          refine QM.then_ret ?_
          refine QM.block_ret ?_
          refine QM.then_ret ?_
          refine QM.leave (.inl rfl) [.tmp 2] Tryd.results54 rfl ?_
          intro w' hm' hc' hg'
          -- leaf 1: h1+ h2+ h3+ h4+
          exact ⟨by simp only [resV]; rw [cycB_yes (i := i) (by omega) (by rw [h2, h3]; rfl) (by rw [← hG]; exact h4)], hc'⟩
        ·
          refine wpM.skip ?_
          refine QM.block_normal ?_
          refine QM.then ?_
          refine wpM.region ?_
          refine LM.val (ov_add64 rfl rfl (by omega)) ?_
          refine LM.val (ov_move rfl) ?_
          refine LM.nil ?_
          refine QM.sub (e' := [(3, _), (7, _), (8, _), (9, _)]) ⟨rfl, rfl, rfl, rfl, trivial⟩ ?_
          -- again1: h1+ h2+ h3+ h4-
          refine QM.againK (i + 1, wtG G (l.getD i default).who (withS (ofG G (l.getD i default).who) (l.getD i default).to)) ⟨(by first | rfl | exact lk rfl (by congr 1; omega) | exact lk rfl (by simp)), rfl, rfl, rfl, trivial⟩ (by (repeat' (first | exact SubM.nil _ | refine SubM.cons rfl ?_ | refine SubM.app ?_))) (fun _ h => h) ?_ ?_
          · have hw := unS_wait (G := G) (x := l.getD i default) (by rw [h2, h3]; rfl) (Classical.not_not.1 h4); exact ⟨by omega, by rw [hw, hG]; exact (take_fold unS zeroG default (by omega)).symm, wtG_acy hlen hA _ _⟩
          · first | omega | (dsimp only; omega)
      ·
        refine LD.drop rfl rfl ⟨23, _, rfl, rfl, rfl⟩ ?_
        refine LD.drop rfl rfl ⟨23, _, rfl, rfl, rfl⟩ ?_
        refine LD.drop rfl rfl ⟨23, _, rfl, rfl, rfl⟩ ?_
        refine LD.drop rfl rfl ⟨23, _, rfl, rfl, rfl⟩ ?_
        refine LD.drop rfl rfl ⟨23, _, rfl, rfl, rfl⟩ ?_
        refine LD.drop rfl rfl ⟨23, _, rfl, rfl, rfl⟩ ?_
        refine LD.drop rfl rfl ⟨23, _, rfl, rfl, rfl⟩ ?_
        refine LD.drop rfl rfl ⟨23, _, rfl, rfl, rfl⟩ ?_
        refine LD.drop rfl rfl ⟨23, _, rfl, rfl, rfl⟩ ?_
        refine LD.drop rfl rfl ⟨23, _, rfl, rfl, rfl⟩ ?_
        refine LD.tail rfl rfl ?_
        refine LM.drop (t := 23) rfl rfl rfl ?_
        refine LM.drop (t := 23) rfl rfl rfl ?_
        refine LM.val (ov_pickF rfl rfl) ?_
        refine LM.nil ?_
        refine QM.qn ?_
        refine QM.sub (e' := [(3, _), (7, _), (8, _), (9, _), (36, _)]) ⟨rfl, rfl, rfl, rfl, rfl, trivial⟩ ?_
        refine QM.then ?_
        refine wpM.condF rfl ?_
        refine wpM.skip ?_
        refine QM.block_normal ?_
        refine QM.then ?_
        refine wpM.region ?_
        refine LM.val (ov_add64 rfl rfl (by omega)) ?_
        refine LM.val (ov_move rfl) ?_
        refine LM.nil ?_
        refine QM.sub (e' := [(3, _), (7, _), (8, _), (9, _)]) ⟨rfl, rfl, rfl, rfl, trivial⟩ ?_
        -- again2: h1+ h2+ h3-
        refine QM.againK (i + 1, G) ⟨(by first | rfl | exact lk rfl (by congr 1; omega) | exact lk rfl (by simp)), rfl, rfl, rfl, trivial⟩ (by (repeat' (first | exact SubM.nil _ | refine SubM.cons rfl ?_ | refine SubM.app ?_))) (fun _ h => h) ?_ ?_
        · exact ⟨by omega, by have e := take_fold unS zeroG default (l := l) (i := i) (by omega); rw [show unG (l.take (i + 1)) = unS (unG (l.take i)) (l.getD i default) from e, ← hG]; unfold unS; rw [if_neg (by rw [h2, h3]; simp)], hA⟩
        · first | omega | (dsimp only; omega)
    ·
      refine LD.drop rfl rfl ⟨17, _, rfl, rfl, rfl⟩ ?_
      refine LD.drop rfl rfl ⟨17, _, rfl, rfl, rfl⟩ ?_
      refine LD.drop rfl rfl ⟨17, _, rfl, rfl, rfl⟩ ?_
      refine LD.drop rfl rfl ⟨17, _, rfl, rfl, rfl⟩ ?_
      refine LD.val rfl rfl (ov_pickF rfl rfl) ?_
      refine LD.val rfl rfl (ov_move rfl) ?_
      refine LD.drop rfl rfl ⟨23, _, rfl, rfl, rfl⟩ ?_
      refine LD.drop rfl rfl ⟨23, _, rfl, rfl, rfl⟩ ?_
      refine LD.drop rfl rfl ⟨23, _, rfl, rfl, rfl⟩ ?_
      refine LD.drop rfl rfl ⟨23, _, rfl, rfl, rfl⟩ ?_
      refine LD.drop rfl rfl ⟨23, _, rfl, rfl, rfl⟩ ?_
      refine LD.drop rfl rfl ⟨23, _, rfl, rfl, rfl⟩ ?_
      refine LD.drop rfl rfl ⟨23, _, rfl, rfl, rfl⟩ ?_
      refine LD.drop rfl rfl ⟨23, _, rfl, rfl, rfl⟩ ?_
      refine LD.drop rfl rfl ⟨23, _, rfl, rfl, rfl⟩ ?_
      refine LD.drop rfl rfl ⟨23, _, rfl, rfl, rfl⟩ ?_
      refine LD.tail rfl rfl ?_
      refine LM.drop (t := 23) rfl rfl rfl ?_
      refine LM.drop (t := 23) rfl rfl rfl ?_
      refine LM.val (ov_pickF rfl rfl) ?_
      refine LM.nil ?_
      refine QM.qn ?_
      refine QM.sub (e' := [(3, _), (7, _), (8, _), (9, _), (36, _)]) ⟨rfl, rfl, rfl, rfl, rfl, trivial⟩ ?_
      refine QM.then ?_
      refine wpM.condF rfl ?_
      refine wpM.skip ?_
      refine QM.block_normal ?_
      refine QM.then ?_
      refine wpM.region ?_
      refine LM.val (ov_add64 rfl rfl (by omega)) ?_
      refine LM.val (ov_move rfl) ?_
      refine LM.nil ?_
      refine QM.sub (e' := [(3, _), (7, _), (8, _), (9, _)]) ⟨rfl, rfl, rfl, rfl, trivial⟩ ?_
      -- again3: h1+ h2-
      refine QM.againK (i + 1, G) ⟨(by first | rfl | exact lk rfl (by congr 1; omega) | exact lk rfl (by simp)), rfl, rfl, rfl, trivial⟩ (by (repeat' (first | exact SubM.nil _ | refine SubM.cons rfl ?_ | refine SubM.app ?_))) (fun _ h => h) ?_ ?_
      · exact ⟨by omega, by have e := take_fold unS zeroG default (l := l) (i := i) (by omega); rw [show unG (l.take (i + 1)) = unS (unG (l.take i)) (l.getD i default) from e, ← hG]; unfold unS; rw [if_neg (by rw [h2]; simp)], hA⟩
      · first | omega | (dsimp only; omega)
  ·
    refine wpM.exit ?_
    refine QM.then_exit ?_
    refine QM.then_exit ?_
    refine QM.block_hit ?_
    refine QM.then ?_
    refine wpM.seq ?_
    refine wpM.region ?_
    refine LM.val (ov_assign rfl) ?_
    refine LM.nil ?_
    refine QM.sub (e' := [(2, _)]) ⟨rfl, trivial⟩ ?_
    refine QM.then ?_
    refine wpM.ret ?_
    refine QM.leave (.inl rfl) [.tmp 2] Tryd.results54 rfl ?_
    intro w' hm' hc' hg'
    -- leaf 2: h1-
    rw [List.take_of_length_le (by omega)] at hG; exact ⟨by simp only [resV]; rw [cycB_no (by rw [← hG]; exact hA)], hc'⟩

set_option maxRecDepth 100000 in
theorem awake22 (w : World) (hT : Tab w) : Ret Tryd.prog 26 #[] w (fun v w' => v = .bool true ∧ Ext w w') := by
  have hpos := hT.pos
  refine Ret.enterM (l := []) Tryd.func26 rfl Tryd.ntmps26 rfl ([]) (no) (Mem.nil w) ?_
  refine wpM.seq ?_
  refine wpM.region ?_
  refine LM.val (ov_assign rfl) ?_
  refine LM.nil ?_
  refine QM.sub (e' := []) trivial ?_
  refine QM.then ?_
  refine wpM.seq ?_
  refine wpM.region ?_
  refine LM.callT (oc_call (enters_fn Tryd.func27 (by kernel_rfl) rfl) rfl) NewGT.mono (fun w hm hc hg => gnew_spec w) ?_
  rintro u6 m6 ⟨bg, rfl, rfl, hbg⟩ -
  refine LM.val (ov_assign rfl) ?_
  refine LM.nil ?_
  refine QM.sub (e' := [(1, _)]) ⟨rfl, trivial⟩ ?_
  refine QM.then ?_
  refine wpM.seq ?_
  refine wpM.region ?_
  refine LM.val (ov_move rfl) ?_
  refine LM.cW (oc_call (enters_fn Tryd.func28 (by kernel_rfl) rfl) rfl) (fun w hm hc hg => wait_at w22a w22A bg zeroG_len w (hT.ext hc) (by omega) (hm.pick _)) rfl (fun hlt => absurd hlt (by omega)) ?_
  refine LM.val (ov_move rfl) ?_
  refine LM.cW (oc_call (enters_fn Tryd.func28 (by kernel_rfl) rfl) rfl) (fun w hm hc hg => wait_at w22b w22B bg (by decide) w (hT.ext hc) (by omega) (hm.pick _)) rfl (fun hlt => absurd hlt (by omega)) ?_
  refine LM.val (ov_move rfl) ?_
  refine LM.cW (oc_call (enters_fn Tryd.func28 (by kernel_rfl) rfl) rfl) (fun w hm hc hg => wait_at w22c w22C bg (by decide) w (hT.ext hc) (by omega) (hm.pick _)) rfl (fun hlt => absurd hlt (by omega)) ?_
  refine LM.val (ov_assign rfl) ?_
  refine LM.val (ov_assign rfl) ?_
  refine LM.val (ov_assign rfl) ?_
  refine LM.nil ?_
  refine QM.sub (e' := [(1, _), (2, _), (3, _), (4, _)]) ⟨rfl, rfl, rfl, rfl, trivial⟩ ?_
  refine QM.then ?_
  refine wpM.seq ?_
  refine wpM.region ?_
  refine LM.val (ov_move rfl) ?_
  refine LM.cS (oc_call (enters_fn Tryd.func32 (by kernel_rfl) rfl) rfl) (fun w hm hc hg => w22n ▸ chain_spec bg G22 1 w (by decide) G22_acy (hT.ext hc) (hm.pick _)) (fun ad14 n14 cap14 m14 hn14 hs14 => ?_)
  refine LM.val (ov_assign rfl) ?_
  refine LM.nil ?_
  refine QM.sub (e' := [(1, _), (2, _), (3, _), (4, _), (5, _)]) ⟨rfl, rfl, rfl, rfl, rfl, trivial⟩ ?_
  refine QM.then ?_
  refine wpM.seq ?_
  refine wpM.region ?_
  refine LM.val (ov_move rfl) ?_
  refine LM.val (ov_eql rfl rfl) ?_
  refine LM.val (ov_move rfl) ?_
  first | refine LM.splitD (t := 17) rfl (fun h1 => ?_) (fun h1 => ?_) | refine LM.splitB (t := 17) rfl (fun h1 => ?_) (fun h1 => ?_)
  ·
    refine LM.strip (t := 17) rfl rfl rfl ?_
    refine LM.val (ov_move rfl) ?_
    refine LM.strip (t := 17) rfl rfl rfl ?_
    refine LM.val (ov_eql rfl rfl) ?_
    refine LM.val (ov_pickT rfl rfl) ?_
    refine LM.val (ov_move rfl) ?_
    first | refine LM.splitD (t := 21) rfl (fun h2 => ?_) (fun h2 => ?_) | refine LM.splitB (t := 21) rfl (fun h2 => ?_) (fun h2 => ?_)
    ·
      refine LM.strip (t := 21) rfl rfl rfl ?_
      refine LM.val (ov_move rfl) ?_
      refine LM.strip (t := 21) rfl rfl rfl ?_
      refine LM.val (ov_eql rfl rfl) ?_
      refine LM.val (ov_pickT rfl rfl) ?_
      refine LM.val (ov_move rfl) ?_
      first | refine LM.splitD (t := 25) rfl (fun h3 => ?_) (fun h3 => ?_) | refine LM.splitB (t := 25) rfl (fun h3 => ?_) (fun h3 => ?_)
      ·
        refine LM.strip (t := 25) rfl rfl rfl ?_
        refine LM.val (ov_move rfl) ?_
        refine LM.strip (t := 25) rfl rfl rfl ?_
        refine LM.callE (oc_call (enters_fn Tryd.func29 (by kernel_rfl) rfl) rfl) (fun w hm hc hg => w22r ▸ greach_spec bg G22 1 w (by decide) (hT.ext hc) (hm.pick _)) ?_
        refine LM.strip (t := 25) rfl rfl rfl ?_
        refine LM.val (ov_ueql (b := 12#64) rfl rfl) ?_
        refine LM.val (ov_pickT rfl rfl) ?_
        refine LM.val (ov_move rfl) ?_
        first | refine LM.splitD (t := 30) rfl (fun h4 => ?_) (fun h4 => ?_) | refine LM.splitB (t := 30) rfl (fun h4 => ?_) (fun h4 => ?_)
        ·
          refine LM.strip (t := 30) rfl rfl rfl ?_
          refine LM.val (ov_move rfl) ?_
          refine LM.strip (t := 30) rfl rfl rfl ?_
          refine LM.callE (oc_call (enters_fn Tryd.func30 (by kernel_rfl) rfl) rfl) (fun w hm hc hg => w22h ▸ gbehind_spec bg G22 3 w (by decide) (hm.pick _)) ?_
          refine LM.strip (t := 30) rfl rfl rfl ?_
          refine LM.val (ov_ueql (b := 6#64) rfl rfl) ?_
          refine LM.val (ov_pickT rfl rfl) ?_
          refine LM.val (ov_move rfl) ?_
          first | refine LM.splitD (t := 35) rfl (fun h5 => ?_) (fun h5 => ?_) | refine LM.splitB (t := 35) rfl (fun h5 => ?_) (fun h5 => ?_)
          ·
            refine LM.strip (t := 35) rfl rfl rfl ?_
            refine LM.val (ov_move rfl) ?_
            refine LM.strip (t := 35) rfl rfl rfl ?_
            refine LM.val (ov_len Tryd.underlying22 rfl) ?_
            refine LM.strip (t := 35) rfl rfl rfl ?_
            refine LM.val (ov_eql rfl rfl) ?_
            refine LM.val (ov_pickT rfl rfl) ?_
            refine LM.val (ov_move rfl) ?_
            first | refine LM.splitD (t := 40) rfl (fun h6 => ?_) (fun h6 => ?_) | refine LM.splitB (t := 40) rfl (fun h6 => ?_) (fun h6 => ?_)
            ·
              refine LM.strip (t := 40) rfl rfl rfl ?_
              refine LM.val (ov_build (cs := #[_, _]) rfl (by first | rfl | kernel_rfl)) ?_
              refine LM.strip (t := 40) rfl rfl rfl ?_
              refine LM.val (ov_build (cs := #[_, _]) rfl (by first | rfl | kernel_rfl)) ?_
              refine LM.strip (t := 40) rfl rfl rfl ?_
              refine LM.row (vs := [_, _]) Tryd.underlying75 Tryd.sizeOf80 Tryd.zeroValue80 rfl rfl rfl rfl rfl rfl (fun b43 hb43 => ?_)
              refine LM.strip (t := 40) rfl rfl rfl ?_
              refine LM.callE (oc_call (enters_fn Tryd.func54 (by kernel_rfl) rfl) rfl) (fun w hm hc hg => w22y ▸ cyclic_spec (l := [⟨1, 2⟩, ⟨2, 1⟩]) w (hT.ext hc) rfl (Sr.row (hm.at b43) rfl rfl (by decide) (fun _ => rfl)) (by decide)) ?_
              refine LM.val (ov_pickT rfl rfl) ?_
              refine LM.val (ov_assign rfl) ?_
              refine LM.nil ?_
              refine QM.sub (e' := [(0, _)]) ⟨rfl, trivial⟩ ?_
              refine QM.then ?_
              refine wpM.ret ?_
              refine QM.leave (.inl rfl) [.tmp 0] Tryd.results26 rfl ?_
              intro w' hm' hc' hg'
              -- leaf 1: h1+ h2+ h3+ h4+ h5+ h6+
              first | exact ⟨rfl, hc'⟩ | (exfalso; first | contradiction | (have hn3 : n14 = 3 := hn14; omega) | (simp at *; done))
            ·
              refine LM.drop (t := 40) rfl rfl rfl ?_
              refine LM.drop (t := 40) rfl rfl rfl ?_
              refine LM.drop (t := 40) rfl rfl rfl ?_
              refine LM.drop (t := 40) rfl rfl rfl ?_
              refine LM.val (ov_pickF rfl rfl) ?_
              refine LM.val (ov_assign rfl) ?_
              refine LM.nil ?_
              refine QM.sub (e' := [(0, _)]) ⟨rfl, trivial⟩ ?_
              refine QM.then ?_
              refine wpM.ret ?_
              refine QM.leave (.inl rfl) [.tmp 0] Tryd.results26 rfl ?_
              intro w' hm' hc' hg'
              -- leaf 2: h1+ h2+ h3+ h4+ h5+ h6-
              first | exact ⟨rfl, hc'⟩ | (exfalso; first | contradiction | (have hn3 : n14 = 3 := hn14; omega) | (simp at *; done))
          ·
            refine LM.drop (t := 35) rfl rfl rfl ?_
            refine LM.drop (t := 35) rfl rfl rfl ?_
            refine LM.drop (t := 35) rfl rfl rfl ?_
            refine LM.val (ov_pickF rfl rfl) ?_
            refine LM.val (ov_move rfl) ?_
            refine LM.drop (t := 40) rfl rfl rfl ?_
            refine LM.drop (t := 40) rfl rfl rfl ?_
            refine LM.drop (t := 40) rfl rfl rfl ?_
            refine LM.drop (t := 40) rfl rfl rfl ?_
            refine LM.val (ov_pickF rfl rfl) ?_
            refine LM.val (ov_assign rfl) ?_
            refine LM.nil ?_
            refine QM.sub (e' := [(0, _)]) ⟨rfl, trivial⟩ ?_
            refine QM.then ?_
            refine wpM.ret ?_
            refine QM.leave (.inl rfl) [.tmp 0] Tryd.results26 rfl ?_
            intro w' hm' hc' hg'
            -- leaf 3: h1+ h2+ h3+ h4+ h5-
            first | exact ⟨rfl, hc'⟩ | (exfalso; first | contradiction | (have hn3 : n14 = 3 := hn14; omega) | (simp at *; done))
        ·
          refine LM.drop (t := 30) rfl rfl rfl ?_
          refine LM.drop (t := 30) rfl rfl rfl ?_
          refine LM.drop (t := 30) rfl rfl rfl ?_
          refine LM.val (ov_pickF rfl rfl) ?_
          refine LM.val (ov_move rfl) ?_
          refine LM.drop (t := 35) rfl rfl rfl ?_
          refine LM.drop (t := 35) rfl rfl rfl ?_
          refine LM.drop (t := 35) rfl rfl rfl ?_
          refine LM.val (ov_pickF rfl rfl) ?_
          refine LM.val (ov_move rfl) ?_
          refine LM.drop (t := 40) rfl rfl rfl ?_
          refine LM.drop (t := 40) rfl rfl rfl ?_
          refine LM.drop (t := 40) rfl rfl rfl ?_
          refine LM.drop (t := 40) rfl rfl rfl ?_
          refine LM.val (ov_pickF rfl rfl) ?_
          refine LM.val (ov_assign rfl) ?_
          refine LM.nil ?_
          refine QM.sub (e' := [(0, _)]) ⟨rfl, trivial⟩ ?_
          refine QM.then ?_
          refine wpM.ret ?_
          refine QM.leave (.inl rfl) [.tmp 0] Tryd.results26 rfl ?_
          intro w' hm' hc' hg'
          -- leaf 4: h1+ h2+ h3+ h4-
          first | exact ⟨rfl, hc'⟩ | (exfalso; first | contradiction | (have hn3 : n14 = 3 := hn14; omega) | (simp at *; done))
      ·
        refine LM.drop (t := 25) rfl rfl rfl ?_
        refine LM.drop (t := 25) rfl rfl rfl ?_
        refine LM.drop (t := 25) rfl rfl rfl ?_
        refine LM.val (ov_pickF rfl rfl) ?_
        refine LM.val (ov_move rfl) ?_
        refine LM.drop (t := 30) rfl rfl rfl ?_
        refine LM.drop (t := 30) rfl rfl rfl ?_
        refine LM.drop (t := 30) rfl rfl rfl ?_
        refine LM.val (ov_pickF rfl rfl) ?_
        refine LM.val (ov_move rfl) ?_
        refine LM.drop (t := 35) rfl rfl rfl ?_
        refine LM.drop (t := 35) rfl rfl rfl ?_
        refine LM.drop (t := 35) rfl rfl rfl ?_
        refine LM.val (ov_pickF rfl rfl) ?_
        refine LM.val (ov_move rfl) ?_
        refine LM.drop (t := 40) rfl rfl rfl ?_
        refine LM.drop (t := 40) rfl rfl rfl ?_
        refine LM.drop (t := 40) rfl rfl rfl ?_
        refine LM.drop (t := 40) rfl rfl rfl ?_
        refine LM.val (ov_pickF rfl rfl) ?_
        refine LM.val (ov_assign rfl) ?_
        refine LM.nil ?_
        refine QM.sub (e' := [(0, _)]) ⟨rfl, trivial⟩ ?_
        refine QM.then ?_
        refine wpM.ret ?_
        refine QM.leave (.inl rfl) [.tmp 0] Tryd.results26 rfl ?_
        intro w' hm' hc' hg'
        -- leaf 5: h1+ h2+ h3-
        first | exact ⟨rfl, hc'⟩ | (exfalso; first | contradiction | (have hn3 : n14 = 3 := hn14; omega) | (simp at *; done))
    ·
      refine LM.drop (t := 21) rfl rfl rfl ?_
      refine LM.drop (t := 21) rfl rfl rfl ?_
      refine LM.val (ov_pickF rfl rfl) ?_
      refine LM.val (ov_move rfl) ?_
      refine LM.drop (t := 25) rfl rfl rfl ?_
      refine LM.drop (t := 25) rfl rfl rfl ?_
      refine LM.drop (t := 25) rfl rfl rfl ?_
      refine LM.val (ov_pickF rfl rfl) ?_
      refine LM.val (ov_move rfl) ?_
      refine LM.drop (t := 30) rfl rfl rfl ?_
      refine LM.drop (t := 30) rfl rfl rfl ?_
      refine LM.drop (t := 30) rfl rfl rfl ?_
      refine LM.val (ov_pickF rfl rfl) ?_
      refine LM.val (ov_move rfl) ?_
      refine LM.drop (t := 35) rfl rfl rfl ?_
      refine LM.drop (t := 35) rfl rfl rfl ?_
      refine LM.drop (t := 35) rfl rfl rfl ?_
      refine LM.val (ov_pickF rfl rfl) ?_
      refine LM.val (ov_move rfl) ?_
      refine LM.drop (t := 40) rfl rfl rfl ?_
      refine LM.drop (t := 40) rfl rfl rfl ?_
      refine LM.drop (t := 40) rfl rfl rfl ?_
      refine LM.drop (t := 40) rfl rfl rfl ?_
      refine LM.val (ov_pickF rfl rfl) ?_
      refine LM.val (ov_assign rfl) ?_
      refine LM.nil ?_
      refine QM.sub (e' := [(0, _)]) ⟨rfl, trivial⟩ ?_
      refine QM.then ?_
      refine wpM.ret ?_
      refine QM.leave (.inl rfl) [.tmp 0] Tryd.results26 rfl ?_
      intro w' hm' hc' hg'
      -- leaf 6: h1+ h2-
      first | exact ⟨rfl, hc'⟩ | (exfalso; first | contradiction | (have hn3 : n14 = 3 := hn14; omega) | (simp at *; done))
  ·
    refine LM.drop (t := 17) rfl rfl rfl ?_
    refine LM.drop (t := 17) rfl rfl rfl ?_
    refine LM.val (ov_pickF rfl rfl) ?_
    refine LM.val (ov_move rfl) ?_
    refine LM.drop (t := 21) rfl rfl rfl ?_
    refine LM.drop (t := 21) rfl rfl rfl ?_
    refine LM.val (ov_pickF rfl rfl) ?_
    refine LM.val (ov_move rfl) ?_
    refine LM.drop (t := 25) rfl rfl rfl ?_
    refine LM.drop (t := 25) rfl rfl rfl ?_
    refine LM.drop (t := 25) rfl rfl rfl ?_
    refine LM.val (ov_pickF rfl rfl) ?_
    refine LM.val (ov_move rfl) ?_
    refine LM.drop (t := 30) rfl rfl rfl ?_
    refine LM.drop (t := 30) rfl rfl rfl ?_
    refine LM.drop (t := 30) rfl rfl rfl ?_
    refine LM.val (ov_pickF rfl rfl) ?_
    refine LM.val (ov_move rfl) ?_
    refine LM.drop (t := 35) rfl rfl rfl ?_
    refine LM.drop (t := 35) rfl rfl rfl ?_
    refine LM.drop (t := 35) rfl rfl rfl ?_
    refine LM.val (ov_pickF rfl rfl) ?_
    refine LM.val (ov_move rfl) ?_
    refine LM.drop (t := 40) rfl rfl rfl ?_
    refine LM.drop (t := 40) rfl rfl rfl ?_
    refine LM.drop (t := 40) rfl rfl rfl ?_
    refine LM.drop (t := 40) rfl rfl rfl ?_
    refine LM.val (ov_pickF rfl rfl) ?_
    refine LM.val (ov_assign rfl) ?_
    refine LM.nil ?_
    refine QM.sub (e' := [(0, _)]) ⟨rfl, trivial⟩ ?_
    refine QM.then ?_
    refine wpM.ret ?_
    refine QM.leave (.inl rfl) [.tmp 0] Tryd.results26 rfl ?_
    intro w' hm' hc' hg'
    -- leaf 7: h1-
    first | exact ⟨rfl, hc'⟩ | (exfalso; first | contradiction | (have hn3 : n14 = 3 := hn14; omega) | (simp at *; done))

set_option maxRecDepth 100000 in
theorem graphTurned {l : List Dd} {ad : Option Addr} {n cap : Nat} (a b : Int) (w : World) (hT : Tab w) (hn : n = l.length) (hl : Sr fDd 3 l (.slice ad n cap) w) : Ret Tryd.prog 6 #[.slice ad n cap, .int .i64 a, .int .i64 b] w (fun v w' => v = .bool true ∧ Ext w w') := by
  have hpos := hT.pos
  refine Ret.enterM (l := [.slice ad n cap, .int .i64 a, .int .i64 b]) Tryd.func6 rfl Tryd.ntmps6 rfl ([]) (no) (Mem.nil w) ?_
  refine wpM.seq ?_
  refine wpM.region ?_
  refine LM.val (ov_assign rfl) ?_
  refine LM.nil ?_
  refine QM.sub (e' := [(0, _), (1, _), (2, _)]) ⟨rfl, rfl, rfl, trivial⟩ ?_
  refine QM.then ?_
  refine wpM.seq ?_
  refine wpM.seq ?_
  refine wpM.region ?_
  refine LM.callE (oc_call (enters_fn Tryd.func26 (by kernel_rfl) rfl) rfl) (fun w hm hc hg => awake22 w (hT.ext hc)) ?_
  first | refine LM.val (ov_notD rfl) ?_ | refine LM.val (ov_not rfl) ?_
  refine LM.nil ?_
  refine QM.sub (e' := [(0, _), (1, _), (2, _), (13, _)]) ⟨rfl, rfl, rfl, rfl, trivial⟩ ?_
  refine QM.then ?_
  first | refine wpM.condD rfl (fun h1 => ?_) (fun h1 => ?_) | refine wpM.condB rfl (fun h1 => ?_) (fun h1 => ?_)
  ·
    refine wpM.seq ?_
    refine wpM.region ?_
    refine LM.val (ov_assign rfl) ?_
    refine LM.nil ?_
    refine QM.sub (e' := [(6, _)]) ⟨rfl, trivial⟩ ?_
    refine QM.then ?_
    refine wpM.ret ?_
    refine QM.then_ret ?_
    refine QM.leave (.inl rfl) [.tmp 6] Tryd.results6 rfl ?_
    intro w' hm' hc' hg'
    -- leaf 1: h1+
    exfalso; simp at h1
  ·
    refine wpM.skip ?_
    refine QM.then ?_
    refine wpM.seq ?_
    refine wpM.seq ?_
    refine wpM.joinK (α := Bool) (fun q => [(32, .bool q)]) [(0, _), (1, _), (2, _)] (fun q => []) (fun q => q = (decide (60 < (n : Int)) || (decide (a < 0) || (decide (63 < a) || (decide (b < 0) || decide (63 < b)))))) ⟨rfl, rfl, rfl, trivial⟩ ?_ ?_
    ·
      refine wpM.region ?_
      refine LM.val (ov_move rfl) ?_
      refine LM.val (ov_len Tryd.underlying37 rfl) ?_
      refine LM.val (ov_gtr rfl rfl) ?_
      refine LM.val (ov_move rfl) ?_
      first | refine LM.splitD (t := 17) rfl (fun h2 => ?_) (fun h2 => ?_) | refine LM.splitB (t := 17) rfl (fun h2 => ?_) (fun h2 => ?_)
      ·
        refine LM.drop (t := 17) rfl rfl rfl ?_
        refine LM.drop (t := 17) rfl rfl rfl ?_
        refine LM.val (ov_pickT rfl rfl) ?_
        refine LM.val (ov_move rfl) ?_
        refine LM.drop (t := 21) rfl rfl rfl ?_
        refine LM.drop (t := 21) rfl rfl rfl ?_
        refine LM.val (ov_pickT rfl rfl) ?_
        refine LM.val (ov_move rfl) ?_
        refine LM.drop (t := 25) rfl rfl rfl ?_
        refine LM.drop (t := 25) rfl rfl rfl ?_
        refine LM.val (ov_pickT rfl rfl) ?_
        refine LM.val (ov_move rfl) ?_
        refine LM.drop (t := 29) rfl rfl rfl ?_
        refine LM.drop (t := 29) rfl rfl rfl ?_
        refine LM.val (ov_pickT rfl rfl) ?_
        refine LM.nil ?_
        refine QM.sub (e' := [(0, _), (1, _), (2, _), (32, _)]) ⟨rfl, rfl, rfl, rfl, trivial⟩ ?_
        -- meet1: h1- h2+
        refine QM.meetK (_) ⟨(by first | rfl | exact lk rfl (by congr 1; omega) | exact lk rfl (by simp)), rfl, rfl, rfl, trivial⟩ (by (repeat' (first | exact SubM.nil _ | refine SubM.cons rfl ?_ | refine SubM.app ?_))) ?_
        · simp only [h1, h2, decide_true, decide_false, Bool.true_and, Bool.false_and, Bool.and_true, Bool.and_false, Bool.not_true, Bool.not_false, Bool.true_or, Bool.false_or, Bool.or_true, Bool.or_false, ne_eq, not_true_eq_false, not_false_eq_true, Bool.and_self]
      ·
        refine LM.strip (t := 17) rfl rfl rfl ?_
        refine LM.val (ov_move rfl) ?_
        refine LM.strip (t := 17) rfl rfl rfl ?_
        refine LM.val (ov_lss rfl rfl) ?_
        refine LM.val (ov_pickF rfl rfl) ?_
        refine LM.val (ov_move rfl) ?_
        first | refine LM.splitD (t := 21) rfl (fun h3 => ?_) (fun h3 => ?_) | refine LM.splitB (t := 21) rfl (fun h3 => ?_) (fun h3 => ?_)
        ·
          refine LM.drop (t := 21) rfl rfl rfl ?_
          refine LM.drop (t := 21) rfl rfl rfl ?_
          refine LM.val (ov_pickT rfl rfl) ?_
          refine LM.val (ov_move rfl) ?_
          refine LM.drop (t := 25) rfl rfl rfl ?_
          refine LM.drop (t := 25) rfl rfl rfl ?_
          refine LM.val (ov_pickT rfl rfl) ?_
          refine LM.val (ov_move rfl) ?_
          refine LM.drop (t := 29) rfl rfl rfl ?_
          refine LM.drop (t := 29) rfl rfl rfl ?_
          refine LM.val (ov_pickT rfl rfl) ?_
          refine LM.nil ?_
          refine QM.sub (e' := [(0, _), (1, _), (2, _), (32, _)]) ⟨rfl, rfl, rfl, rfl, trivial⟩ ?_
          -- meet2: h1- h2- h3+
          refine QM.meetK (_) ⟨(by first | rfl | exact lk rfl (by congr 1; omega) | exact lk rfl (by simp)), rfl, rfl, rfl, trivial⟩ (by (repeat' (first | exact SubM.nil _ | refine SubM.cons rfl ?_ | refine SubM.app ?_))) ?_
          · simp only [h1, h2, h3, decide_true, decide_false, Bool.true_and, Bool.false_and, Bool.and_true, Bool.and_false, Bool.not_true, Bool.not_false, Bool.true_or, Bool.false_or, Bool.or_true, Bool.or_false, ne_eq, not_true_eq_false, not_false_eq_true, Bool.and_self]
        ·
          refine LM.strip (t := 21) rfl rfl rfl ?_
          refine LM.val (ov_move rfl) ?_
          refine LM.strip (t := 21) rfl rfl rfl ?_
          refine LM.val (ov_gtr rfl rfl) ?_
          refine LM.val (ov_pickF rfl rfl) ?_
          refine LM.val (ov_move rfl) ?_
          first | refine LM.splitD (t := 25) rfl (fun h4 => ?_) (fun h4 => ?_) | refine LM.splitB (t := 25) rfl (fun h4 => ?_) (fun h4 => ?_)
          ·
            refine LM.drop (t := 25) rfl rfl rfl ?_
            refine LM.drop (t := 25) rfl rfl rfl ?_
            refine LM.val (ov_pickT rfl rfl) ?_
            refine LM.val (ov_move rfl) ?_
            refine LM.drop (t := 29) rfl rfl rfl ?_
            refine LM.drop (t := 29) rfl rfl rfl ?_
            refine LM.val (ov_pickT rfl rfl) ?_
            refine LM.nil ?_
            refine QM.sub (e' := [(0, _), (1, _), (2, _), (32, _)]) ⟨rfl, rfl, rfl, rfl, trivial⟩ ?_
            -- meet3: h1- h2- h3- h4+
            refine QM.meetK (_) ⟨(by first | rfl | exact lk rfl (by congr 1; omega) | exact lk rfl (by simp)), rfl, rfl, rfl, trivial⟩ (by (repeat' (first | exact SubM.nil _ | refine SubM.cons rfl ?_ | refine SubM.app ?_))) ?_
            · simp only [h1, h2, h3, h4, decide_true, decide_false, Bool.true_and, Bool.false_and, Bool.and_true, Bool.and_false, Bool.not_true, Bool.not_false, Bool.true_or, Bool.false_or, Bool.or_true, Bool.or_false, ne_eq, not_true_eq_false, not_false_eq_true, Bool.and_self]
          ·
            refine LM.strip (t := 25) rfl rfl rfl ?_
            refine LM.val (ov_move rfl) ?_
            refine LM.strip (t := 25) rfl rfl rfl ?_
            refine LM.val (ov_lss rfl rfl) ?_
            refine LM.val (ov_pickF rfl rfl) ?_
            refine LM.val (ov_move rfl) ?_
            first | refine LM.splitD (t := 29) rfl (fun h5 => ?_) (fun h5 => ?_) | refine LM.splitB (t := 29) rfl (fun h5 => ?_) (fun h5 => ?_)
            ·
              refine LM.drop (t := 29) rfl rfl rfl ?_
              refine LM.drop (t := 29) rfl rfl rfl ?_
              refine LM.val (ov_pickT rfl rfl) ?_
              refine LM.nil ?_
              refine QM.sub (e' := [(0, _), (1, _), (2, _), (32, _)]) ⟨rfl, rfl, rfl, rfl, trivial⟩ ?_
              -- meet4: h1- h2- h3- h4- h5+
              refine QM.meetK (_) ⟨(by first | rfl | exact lk rfl (by congr 1; omega) | exact lk rfl (by simp)), rfl, rfl, rfl, trivial⟩ (by (repeat' (first | exact SubM.nil _ | refine SubM.cons rfl ?_ | refine SubM.app ?_))) ?_
              · simp only [h1, h2, h3, h4, h5, decide_true, decide_false, Bool.true_and, Bool.false_and, Bool.and_true, Bool.and_false, Bool.not_true, Bool.not_false, Bool.true_or, Bool.false_or, Bool.or_true, Bool.or_false, ne_eq, not_true_eq_false, not_false_eq_true, Bool.and_self]
            ·
              refine LM.strip (t := 29) rfl rfl rfl ?_
              refine LM.val (ov_move rfl) ?_
              refine LM.strip (t := 29) rfl rfl rfl ?_
              refine LM.val (ov_gtr rfl rfl) ?_
              refine LM.val (ov_pickF rfl rfl) ?_
              refine LM.nil ?_
              refine QM.sub (e' := [(0, _), (1, _), (2, _), (32, _)]) ⟨rfl, rfl, rfl, rfl, trivial⟩ ?_
              -- meet5: h1- h2- h3- h4- h5-
              refine QM.meetK (_) ⟨(by first | rfl | exact lk rfl (by congr 1; omega) | exact lk rfl (by simp)), rfl, rfl, rfl, trivial⟩ (by (repeat' (first | exact SubM.nil _ | refine SubM.cons rfl ?_ | refine SubM.app ?_))) ?_
              · simp only [h1, h2, h3, h4, h5, decide_true, decide_false, Bool.true_and, Bool.false_and, Bool.and_true, Bool.and_false, Bool.not_true, Bool.not_false, Bool.true_or, Bool.false_or, Bool.or_true, Bool.or_false, ne_eq, not_true_eq_false, not_false_eq_true, Bool.and_self]
    ·
      rintro q hq
      change QM _ _ _ _ _ ([]) _ _ _
      subst hq
      refine QM.then ?_
      first | refine wpM.condD rfl (fun h6 => ?_) (fun h6 => ?_) | refine wpM.condB rfl (fun h6 => ?_) (fun h6 => ?_)
      ·
        refine wpM.seq ?_
        refine wpM.region ?_
        refine LM.val (ov_assign rfl) ?_
        refine LM.nil ?_
        refine QM.sub (e' := [(6, _)]) ⟨rfl, trivial⟩ ?_
        refine QM.then ?_
        refine wpM.ret ?_
        refine QM.then_ret ?_
        refine QM.leave (.inl rfl) [.tmp 6] Tryd.results6 rfl ?_
        intro w' hm' hc' hg'
        -- leaf 2: h1- h6+
        exact ⟨rfl, hc'⟩
      ·
        simp only [Bool.or_eq_false_iff, decide_eq_false_iff_not] at h6; have hin : inG a = true := inG_iff.2 ⟨by omega, by omega⟩; have hinb : inG b = true := inG_iff.2 ⟨by omega, by omega⟩
        refine wpM.skip ?_
        refine QM.then ?_
        refine wpM.seq ?_
        refine wpM.region ?_
        refine LM.callT (oc_call (enters_fn Tryd.func27 (by kernel_rfl) rfl) rfl) NewGT.mono (fun w hm hc hg => gnew_spec w) ?_
        rintro u6 m6 ⟨bg, rfl, rfl, hbg⟩ -
        refine LM.val (ov_assign rfl) ?_
        refine LM.nil ?_
        refine QM.sub (e' := [(0, _), (1, _), (2, _), (7, _)]) ⟨rfl, rfl, rfl, rfl, trivial⟩ ?_
        refine QM.then ?_
        refine wpM.seq ?_
        refine wpM.seq ?_
        refine wpM.region ?_
        refine LM.val (ov_move rfl) ?_
        refine LM.val (ov_len Tryd.underlying37 rfl) ?_
        refine LM.val (ov_move rfl) ?_
        refine LM.nil ?_
        refine QM.sub (e' := [(1, _), (2, _), (7, _), (34, _), (35, _), (36, _)]) ⟨rfl, rfl, rfl, rfl, rfl, rfl, trivial⟩ ?_
        refine QM.then ?_
        refine wpM.block ?_
        refine wpM.loopK0 (α := Nat × Gr) (fun ⟨i, G⟩ => [(36, .int .i64 (i : Nat))]) [(1, _), (2, _), (7, _), (34, _), (35, _)] (fun ⟨i, G⟩ => gB bg G :: []) (fun ⟨i, G⟩ => i ≤ l.length ∧ G = gAll (l.take i)) (fun ⟨i, G⟩ => l.length - i) ((0, zeroG)) ⟨(by first | rfl | exact lk rfl (by congr 1; omega) | exact lk rfl (by simp)), rfl, rfl, rfl, rfl, rfl, trivial⟩ (by (repeat' (first | exact SubM.nil _ | refine SubM.cons rfl ?_ | refine SubM.app ?_))) ⟨Nat.zero_le _, rfl⟩ ?_
        rintro ⟨i, G⟩ ⟨hi, hG⟩
        change wpM _ _ _ _ _ _ _ (gB bg G :: []) _ _ _
        have hlen : G.length = 64 := (by rw [hG]; exact gAll_len _)
        refine wpM.seq ?_
        refine wpM.region ?_
        refine LM.val (ov_lss rfl rfl) ?_
        refine LM.nil ?_
        refine QM.sub (e' := [(1, _), (2, _), (7, _), (34, _), (35, _), (36, _), (37, _)]) ⟨rfl, rfl, rfl, rfl, rfl, rfl, rfl, trivial⟩ ?_
        refine QM.then ?_
        refine wpM.seq ?_
        first | refine wpM.condD rfl (fun h7 => ?_) (fun h7 => ?_) | refine wpM.condB rfl (fun h7 => ?_) (fun h7 => ?_)
        ·
          refine wpM.skip ?_
          refine QM.then ?_
          refine wpM.seq ?_
          refine wpM.block ?_
          refine wpM.seq ?_
          refine wpM.region ?_
          first | refine LM.val (ov_idxSN (by first | exact Sr.spt (by assumption) | exact Sl.spt (by assumption)) Tryd.underlying37 Tryd.sizeOf41 rfl rfl (by omega)) ?_ | refine LM.val (ov_idxS (by first | exact Sr.spt (by assumption) | exact Sl.spt (by assumption)) Tryd.underlying37 Tryd.sizeOf41 rfl rfl (by omega)) ?_ | refine LM.val (ov_idx Tryd.underlying37 Tryd.sizeOf41 rfl rfl (by omega)) ?_
          first | refine LM.rd (om_slA (by assumption) (by intro _; rfl) Tryd.isAgg41 Tryd.sizeOf41 rfl (by exact getq default (by first | omega | (simp only [List.length_set, List.length_append, List.length_cons, List.length_nil]; omega)))) ?_ | refine LM.rdC (om_srEA (by assumption) (by intro _; rfl) Tryd.isAgg41 Tryd.sizeOf41 rfl (by exact getq default (by first | omega | (simp only [List.length_set, List.length_append, List.length_cons, List.length_nil]; omega))) id) ?_ | refine LM.rd (om_ldW Tryd.isAgg41 Tryd.sizeOf41 rfl rfl) ?_ | refine LM.rd (om_ldA Tryd.isAgg41 Tryd.sizeOf41 rfl (vs := [_, _, _]) rfl ⟨rfl, rfl, rfl, trivial⟩) ?_
          refine LM.alloc Tryd.zeroValue41 rfl (fun b9 hb9 => ?_)
          first | refine LM.stW Tryd.sizeOf41 rfl rfl rfl rfl (by first | rfl | decide | (simp; done)) (fun hlt => absurd hlt (by omega)) ?_ | refine LM.st Tryd.sizeOf41 rfl rfl rfl (by first | decide | exact Nat.le_of_ble_eq_true rfl | (simp; done) | (simp; omega)) rfl (fun hlt => absurd hlt (by omega)) ?_
          refine LM.nil ?_
          refine QM.sub (e' := [(1, _), (2, _), (7, _), (9, _), (34, _), (35, _), (36, _)]) ⟨rfl, rfl, rfl, rfl, rfl, rfl, rfl, trivial⟩ ?_
          refine QM.then ?_
          refine wpM.region ?_
          refine LM.val (ov_move rfl) ?_
          refine LM.val (ov_field Tryd.underlying41 rfl Tryd.sizeOf3 rfl (k := 1) rfl rfl) ?_
          first | refine LM.rd (om_ld Tryd.isAgg3 rfl rfl) ?_
          refine LM.val (ov_field Tryd.underlying41 rfl Tryd.sizeOf23 rfl (k := 2) rfl rfl) ?_
          first | refine LM.rd (om_ld Tryd.isAgg23 rfl rfl) ?_
          refine LM.cW (oc_call (enters_fn Tryd.func28 (by kernel_rfl) rfl) rfl) (fun w hm hc hg => wait_spec bg G _ _ w hlen (hT.ext hc) (by omega) (hm.pick _)) rfl (fun hlt => absurd hlt (by omega)) ?_
          refine LM.nil ?_
          refine QM.sub (e' := [(1, _), (2, _), (7, _), (34, _), (35, _), (36, _)]) ⟨rfl, rfl, rfl, rfl, rfl, rfl, trivial⟩ ?_
          refine QM.block_normal ?_
          refine QM.then ?_
          refine wpM.region ?_
          refine LM.val (ov_add64 rfl rfl (by omega)) ?_
          refine LM.val (ov_move rfl) ?_
          refine LM.nil ?_
          refine QM.sub (e' := [(1, _), (2, _), (7, _), (34, _), (35, _), (36, _)]) ⟨rfl, rfl, rfl, rfl, rfl, rfl, trivial⟩ ?_
          -- again1: h1- h6- h7+
          refine QM.againK (i + 1, wtG G (l.getD i default).who (l.getD i default).set) ⟨(by first | rfl | exact lk rfl (by congr 1; omega) | exact lk rfl (by simp)), rfl, rfl, rfl, rfl, rfl, trivial⟩ (by (repeat' (first | exact SubM.nil _ | refine SubM.cons rfl ?_ | refine SubM.app ?_))) (fun _ h => h) ?_ ?_
          · exact ⟨by omega, by rw [hG]; exact (take_fold (fun G (d : Dd) => wtG G d.who d.set) zeroG default (l := l) (i := i) (by omega)).symm⟩
          · first | omega | (dsimp only; omega)
        ·
          have hA : Acy G := (by rw [hG]; exact gAll_acy _); have hofa : ofG G a = ot G a.toNat := (by unfold ofG; rw [if_pos hin])
          refine wpM.exit ?_
          refine QM.then_exit ?_
          refine QM.then_exit ?_
          refine QM.block_hit ?_
          refine QM.then ?_
          refine wpM.seq ?_
          refine wpM.seq ?_
          refine wpM.draw [(0, 0), (1, 0), (3, 0), (6, 0), (7, 0), (9, 0), (2, 2), (4, 0), (5, 0), (8, 2), (10, 0), (11, 0), (12, 0)] (by kernel_rfl) (by kernel_rfl) ?_
          refine LD.val rfl rfl (ov_move rfl) ?_
          refine LD.val rfl rfl (ov_move rfl) ?_
          refine LD.val rfl rfl (ov_move rfl) ?_
          refine LD.val rfl rfl (ov_move rfl) ?_
          refine LD.val rfl rfl (ov_move rfl) ?_
          refine LD.val rfl rfl (ov_move rfl) ?_
          refine LD.callE rfl rfl (oc_call (enters_fn Tryd.func29 (by kernel_rfl) rfl) rfl) (fun w hm hc hg => greach_spec bg G _ w hlen (hT.ext hc) (hm.pick _)) ?_
          refine LD.val rfl rfl (ov_ushr rfl rfl (by omega)) ?_
          refine LD.val rfl rfl (ov_uand (b := 1#64) rfl rfl) ?_
          refine LD.callE rfl rfl (oc_call (enters_fn Tryd.func30 (by kernel_rfl) rfl) rfl) (fun w hm hc hg => gbehind_spec bg G _ w hlen (hm.pick _)) ?_
          refine LD.val rfl rfl (ov_ushr rfl rfl (by omega)) ?_
          refine LD.val rfl rfl (ov_uand (b := 1#64) rfl rfl) ?_
          refine LD.val rfl rfl (ov_uneq rfl rfl) ?_
          refine LD.nil ?_
          refine QM.sub (e' := [(1, _), (7, _), (59, _)]) ⟨rfl, rfl, rfl, trivial⟩ ?_
          refine QM.then ?_
          first | refine wpM.condD rfl (fun h8 => ?_) (fun h8 => ?_) | refine wpM.condB rfl (fun h8 => ?_) (fun h8 => ?_)
          ·
            exfalso; apply h8; unfold rchG bhdG; rw [if_pos hin, if_pos hinb]; exact bit_eq (turned_bit (inG_iff.1 hin) (inG_iff.1 hinb))
          ·
            refine wpM.skip ?_
            refine QM.then ?_
            refine wpM.seq ?_
            refine wpM.region ?_
            refine LM.val (ov_move rfl) ?_
            refine LM.val (ov_move rfl) ?_
            refine LM.callE (oc_call (enters_fn Tryd.func31 (by kernel_rfl) rfl) rfl) (fun w hm hc hg => gof_spec bg G _ w hlen (hm.pick _)) ?_
            refine LM.val (ov_assign rfl) ?_
            refine LM.nil ?_
            refine QM.sub (e' := [(1, _), (7, _), (10, _)]) ⟨rfl, rfl, rfl, trivial⟩ ?_
            refine QM.then ?_
            refine wpM.seq ?_
            refine wpM.seq ?_
            refine wpM.region ?_
            refine LM.val (ov_move rfl) ?_
            refine LM.nil ?_
            refine QM.sub (e' := [(1, _), (7, _), (10, _), (63, _)]) ⟨rfl, rfl, rfl, rfl, trivial⟩ ?_
            refine QM.then ?_
            refine wpM.block ?_
            refine wpM.loopK0 (α := Nat × BitVec 64) (fun ⟨i, X⟩ => [(10, U X), (63, .int .i64 (i : Nat))]) [(1, _), (7, _)] (fun ⟨i, X⟩ => gB bg G :: []) (fun ⟨i, X⟩ => i ≤ 64 ∧ alI G a.toNat i X) (fun ⟨i, X⟩ => 64 - i) ((0, ofG G a)) ⟨(by first | rfl | exact lk rfl (by congr 1; omega) | exact lk rfl (by simp)), (by first | rfl | exact lk rfl (by congr 1; omega) | exact lk rfl (by simp)), rfl, rfl, trivial⟩ (by (repeat' (first | exact SubM.nil _ | refine SubM.cons rfl ?_ | refine SubM.app ?_))) ⟨Nat.zero_le _, by unfold ofG; rw [if_pos hin]; exact alI.init _ _⟩ ?_
            rintro ⟨i, X⟩ ⟨hi2, hX⟩
            change wpM _ _ _ _ _ _ _ (gB bg G :: []) _ _ _
            refine wpM.seq ?_
            refine wpM.region ?_
            refine LM.val (ov_lss rfl rfl) ?_
            refine LM.nil ?_
            refine QM.sub (e' := [(1, _), (7, _), (10, _), (63, _), (64, _)]) ⟨rfl, rfl, rfl, rfl, rfl, trivial⟩ ?_
            refine QM.then ?_
            refine wpM.seq ?_
            first | refine wpM.condD rfl (fun h9 => ?_) (fun h9 => ?_) | refine wpM.condB rfl (fun h9 => ?_) (fun h9 => ?_)
            ·
              refine wpM.skip ?_
              refine QM.then ?_
              refine wpM.seq ?_
              refine wpM.block ?_
              refine wpM.seq ?_
              refine wpM.region ?_
              refine LM.val (ov_move rfl) ?_
              refine LM.val (ov_assign rfl) ?_
              refine LM.nil ?_
              refine QM.sub (e' := [(1, _), (7, _), (10, _), (11, _), (63, _)]) ⟨rfl, rfl, rfl, rfl, rfl, trivial⟩ ?_
              refine QM.then ?_
              refine wpM.seq ?_
              refine wpM.region ?_
              refine LM.val (ov_move rfl) ?_
              refine LM.val (ov_move rfl) ?_
              refine LM.callE (oc_call (enters_fn Tryd.func31 (by kernel_rfl) rfl) rfl) (fun w hm hc hg => gof_spec bg G _ w hlen (hm.pick _)) ?_
              refine LM.val (ov_move rfl) ?_
              refine LM.val (ov_ushr rfl rfl (by omega)) ?_
              refine LM.val (ov_uand (b := 1#64) rfl rfl) ?_
              refine LM.val (ov_ueql (b := 1#64) rfl rfl) ?_
              refine LM.nil ?_
              refine QM.sub (e' := [(1, _), (7, _), (10, _), (11, _), (63, _), (72, _)]) ⟨rfl, rfl, rfl, rfl, rfl, rfl, trivial⟩ ?_
              refine QM.then ?_
              first | refine wpM.condD rfl (fun h10 => ?_) (fun h10 => ?_) | refine wpM.condB rfl (fun h10 => ?_) (fun h10 => ?_)
              ·
                refine wpM.region ?_
                refine LM.val (ov_move rfl) ?_
                refine LM.val (ov_move rfl) ?_
                refine LM.val (ov_move rfl) ?_
                refine LM.callE (oc_call (enters_fn Tryd.func29 (by kernel_rfl) rfl) rfl) (fun w hm hc hg => greach_spec bg G _ w hlen (hT.ext hc) (hm.pick _)) ?_
                refine LM.val (ov_uor rfl rfl) ?_
                refine LM.val (ov_assign rfl) ?_
                refine LM.nil ?_
                refine QM.sub (e' := [(1, _), (7, _), (10, _), (63, _)]) ⟨rfl, rfl, rfl, rfl, trivial⟩ ?_
                refine QM.block_normal ?_
                refine QM.then ?_
                refine wpM.region ?_
                refine LM.val (ov_add64 rfl rfl (by omega)) ?_
                refine LM.val (ov_move rfl) ?_
                refine LM.nil ?_
                refine QM.sub (e' := [(1, _), (7, _), (10, _), (63, _)]) ⟨rfl, rfl, rfl, rfl, trivial⟩ ?_
                -- again1: h1- h6- h7- h8- h9+ h10+
                refine QM.againK (i + 1, X ||| rchG G (i : Nat)) ⟨(by first | rfl | exact lk rfl (by congr 1; omega) | exact lk rfl (by simp)), (by first | rfl | exact lk rfl (by congr 1; omega) | exact lk rfl (by simp)), rfl, rfl, trivial⟩ (by (repeat' (first | exact SubM.nil _ | refine SubM.cons rfl ?_ | refine SubM.app ?_))) (fun _ h => h) ?_ ?_
                · rw [Int.toNat_natCast, shr_and] at h10; exact ⟨by omega, by unfold rchG; rw [if_pos (inG_iff.2 ⟨by omega, by omega⟩), Int.toNat_natCast]; exact hX.yes (by rw [hasB_nat, ← hofa]; apply Classical.byContradiction; intro hn; rw [if_neg hn] at h10; cases h10)⟩
                · first | omega | (dsimp only; omega)
              ·
                refine wpM.skip ?_
                refine QM.block_normal ?_
                refine QM.then ?_
                refine wpM.region ?_
                refine LM.val (ov_add64 rfl rfl (by omega)) ?_
                refine LM.val (ov_move rfl) ?_
                refine LM.nil ?_
                refine QM.sub (e' := [(1, _), (7, _), (10, _), (63, _)]) ⟨rfl, rfl, rfl, rfl, trivial⟩ ?_
                -- again2: h1- h6- h7- h8- h9+ h10-
                refine QM.againK (i + 1, X) ⟨(by first | rfl | exact lk rfl (by congr 1; omega) | exact lk rfl (by simp)), (by first | rfl | exact lk rfl (by congr 1; omega) | exact lk rfl (by simp)), rfl, rfl, trivial⟩ (by (repeat' (first | exact SubM.nil _ | refine SubM.cons rfl ?_ | refine SubM.app ?_))) (fun _ h => h) ?_ ?_
                · rw [Int.toNat_natCast, shr_and] at h10; exact ⟨by omega, hX.no (by rw [hasB_nat, ← hofa]; cases hq : (ofG G a).getLsbD i; rfl; (rw [if_pos hq] at h10; exact absurd rfl h10))⟩
                · first | omega | (dsimp only; omega)
            ·
              have hi64 : i = 64 := (by omega); subst hi64; have hXe := hX.end; have hra : rchG G a = X := (by unfold rchG; rw [if_pos hin, hXe])
              refine wpM.exit ?_
              refine QM.then_exit ?_
              refine QM.then_exit ?_
              refine QM.block_hit ?_
              refine QM.then ?_
              refine wpM.seq ?_
              refine wpM.region ?_
              refine LM.val (ov_move rfl) ?_
              refine LM.val (ov_move rfl) ?_
              refine LM.callE (oc_call (enters_fn Tryd.func29 (by kernel_rfl) rfl) rfl) (fun w hm hc hg => greach_spec bg G _ w hlen (hT.ext hc) (hm.pick _)) ?_
              refine LM.val (ov_move rfl) ?_
              refine LM.val (ov_ueql rfl rfl) ?_
              refine LM.val (ov_move rfl) ?_
              first | refine LM.splitD (t := 84) rfl (fun h11 => ?_) (fun h11 => ?_) | refine LM.splitB (t := 84) rfl (fun h11 => ?_) (fun h11 => ?_)
              ·
                refine LM.strip (t := 84) rfl rfl rfl ?_
                refine LM.val (ov_move rfl) ?_
                refine LM.strip (t := 84) rfl rfl rfl ?_
                refine LM.val (ov_move rfl) ?_
                refine LM.strip (t := 84) rfl rfl rfl ?_
                refine LM.cS (oc_call (enters_fn Tryd.func32 (by kernel_rfl) rfl) rfl) (fun w hm hc hg => chain_spec bg G _ w hlen hA (hT.ext hc) (hm.pick _)) (fun ad87 n87 cap87 m87 hn87 hs87 => ?_)
                refine LM.strip (t := 84) rfl rfl rfl ?_
                refine LM.val (ov_len Tryd.underlying22 rfl) ?_
                refine LM.strip (t := 84) rfl rfl rfl ?_
                refine LM.val (ov_gtr rfl rfl) ?_
                refine LM.strip (t := 84) rfl rfl rfl ?_
                refine LM.val (ov_move rfl) ?_
                refine LM.strip (t := 84) rfl rfl rfl ?_
                refine LM.val (ov_move rfl) ?_
                refine LM.strip (t := 84) rfl rfl rfl ?_
                refine LM.callE (oc_call (enters_fn Tryd.func31 (by kernel_rfl) rfl) rfl) (fun w hm hc hg => gof_spec bg G _ w hlen (hm.pick _)) ?_
                refine LM.strip (t := 84) rfl rfl rfl ?_
                refine LM.val (ov_uneq (b := 0#64) rfl rfl) ?_
                refine LM.strip (t := 84) rfl rfl rfl ?_
                refine LM.val (ov_beql Tryd.underlying4 rfl rfl) ?_
                refine LM.val (ov_pickT rfl rfl) ?_
                refine LM.val (ov_assign rfl) ?_
                refine LM.nil ?_
                refine QM.sub (e' := [(6, _)]) ⟨rfl, trivial⟩ ?_
                refine QM.then ?_
                refine wpM.ret ?_
                refine QM.leave (.inl rfl) [.tmp 6] Tryd.results6 rfl ?_
                intro w' hm' hc' hg'
                -- leaf 3: h1- h6- h7- h8- h9- h11+
                first | (refine ⟨?_, hc'⟩; simp only [resV]; rw [hn87, chn_two G (inG_iff.1 hin).1 (inG_iff.1 hin).2, hofa]; simp; done) | exact absurd hra h11
              ·
                refine LM.drop (t := 84) rfl rfl rfl ?_
                refine LM.drop (t := 84) rfl rfl rfl ?_
                refine LM.drop (t := 84) rfl rfl rfl ?_
                refine LM.drop (t := 84) rfl rfl rfl ?_
                refine LM.drop (t := 84) rfl rfl rfl ?_
                refine LM.drop (t := 84) rfl rfl rfl ?_
                refine LM.drop (t := 84) rfl rfl rfl ?_
                refine LM.drop (t := 84) rfl rfl rfl ?_
                refine LM.drop (t := 84) rfl rfl rfl ?_
                refine LM.drop (t := 84) rfl rfl rfl ?_
                refine LM.val (ov_pickF rfl rfl) ?_
                refine LM.val (ov_assign rfl) ?_
                refine LM.nil ?_
                refine QM.sub (e' := [(6, _)]) ⟨rfl, trivial⟩ ?_
                refine QM.then ?_
                refine wpM.ret ?_
                refine QM.leave (.inl rfl) [.tmp 6] Tryd.results6 rfl ?_
                intro w' hm' hc' hg'
                -- leaf 4: h1- h6- h7- h8- h9- h11-
                first | (refine ⟨?_, hc'⟩; simp only [resV]; rw [hn87, chn_two G (inG_iff.1 hin).1 (inG_iff.1 hin).2, hofa]; simp; done) | exact absurd hra h11

end Go.Eng

