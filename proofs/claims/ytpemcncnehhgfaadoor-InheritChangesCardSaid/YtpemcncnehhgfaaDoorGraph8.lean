/- The walk of the law of runs. No condition. -/
import Derived.Test.YtpemcncnehhgfaaDoorGraph7
set_option linter.unusedVariables false
set_option linter.unusedSimpArgs false
namespace Go.Eng
open Go Go.Proofs Go.RowKit

abbrev tB (b : Nat) (x : Bool) : Nat × Obj := (b, .cells #[.bool x] 4 (0, 0))
theorem clr_yes {G : Gr} {who : Int} (hin : 0 ≤ who ∧ who < 64) (h : G.getD who.toNat 0#64 ≠ 0#64) : clrG G who = G.set who.toNat 0#64 := by
  unfold clrG ofG; rw [if_pos (inG_iff.2 hin), if_neg (show ¬ ot G who.toNat = 0#64 from h)]
theorem clr_no {G : Gr} {who : Int} (hin : 0 ≤ who ∧ who < 64) (h : ¬ G.getD who.toNat 0#64 ≠ 0#64) : clrG G who = G := by
  unfold clrG ofG; rw [if_pos (inG_iff.2 hin), if_pos (show ot G who.toNat = 0#64 from Classical.not_not.1 h)]
theorem of_in {G : Gr} {who : Int} (hin : 0 ≤ who ∧ who < 64) : ofG G who = G.getD who.toNat 0#64 := by unfold ofG; rw [if_pos (inG_iff.2 hin)]; rfl
theorem of_out {G : Gr} {who : Int} (h : inG who = false) : ofG G who = 0#64 := by unfold ofG; rw [if_neg (by rw [h]; simp)]
theorem clr_out {G : Gr} {who : Int} (h : inG who = false) : clrG G who = G := by
  unfold clrG; rw [of_out h, if_pos rfl]
theorem veq_self (e : Ed) : veqs (fEd e) (fEd e) = true := by simp [veqs, fEd, veq]
theorem wt_idem {G : Gr} (hG : G.length = 64) (who : Int) (s : BitVec 64) : wtE (wtG G who s) who s = wtE G who s ∧ wtG (wtG G who s) who s = wtG G who s := by
  by_cases e : wtE G who s = 0
  · obtain ⟨hw, hb⟩ := wtE_zero e
    have hg : wtG G who s = G.set who.toNat s := by unfold wtG; rw [if_pos e]
    have h1 : hasB (ovr (G.set who.toNat s) s) who = false := by
      rw [← closes_zero' (G := G.set who.toNat s) (by rw [List.length_set]; exact hG) hw, List.set_set, closes_zero' hG hw]; exact hb
    have h2 : wtE (G.set who.toNat s) who s = 0 := by unfold wtE; rw [if_pos (inG_iff.2 hw), if_neg (by rw [h1]; simp)]
    rw [hg]; exact ⟨h2.trans e.symm, by unfold wtG; rw [if_pos h2, List.set_set]⟩
  · have hg : wtG G who s = G := by unfold wtG; rw [if_neg e]
    rw [hg]; exact ⟨rfl, hg⟩
theorem wait_again (b : Nat) (G : Gr) (who : Int) (s : BitVec 64) (w : World) (hG : G.length = 64) (hT : Tab w) (hb0 : 0 < b) (hM : Mem w [gB b (wtG G who s)]) :
    Ret Tryd.prog 28 #[.pointer (some ⟨b, 0, none⟩), .int .i64 who, U s] w (WrP b (.int .i64 (wtE G who s)) (gO (wtG G who s)) w) := by
  have h := wait_spec b (wtG G who s) who s w (wtG_len hG _ _) hT hb0 hM
  rwa [(wt_idem hG who s).1, (wt_idem hG who s).2] at h
set_option maxRecDepth 100000 in
theorem edges_true {n0 : Nat} {G : Gr} {adg : Option Addr} {ng capg : Nat} {mg : Mem0} (bg br : Nat) (w : World) (hT : Tab w) (hlen : G.length = 64) (hng : ng = 64) (hsg : Sl fU 23 1 n0 G (.slice adg ng capg) mg) (hM : Mem w (gB bg G :: rB br adg ng capg :: (mg ++ []))) : Ret Tryd.prog 48 #[.pointer (some ⟨bg, 0, none⟩), .pointer (some ⟨br, 0, none⟩)] w (fun v w' => v = .bool true ∧ Ext w w') := by
  refine Ret.enterM (l := [.pointer (some ⟨bg, 0, none⟩), .pointer (some ⟨br, 0, none⟩)]) Tryd.func48 rfl Tryd.ntmps48 rfl (gB bg G :: rB br adg ng capg :: (mg ++ [])) (no) hM ?_
  refine wpM.seq ?_
  refine wpM.region ?_
  refine LM.val (ov_assign rfl) ?_
  refine LM.nil ?_
  refine QM.sub (e' := [(0, _), (1, _)]) ⟨rfl, rfl, trivial⟩ ?_
  refine QM.then ?_
  refine wpM.seq ?_
  refine wpM.region ?_
  refine LM.val (ov_move rfl) ?_
  refine LM.cS (oc_call (enters_fn Tryd.func67 (by kernel_rfl) rfl) rfl) (fun w hm hc hg => redges_spec br w hlen hng hsg (SubM.mem (by (repeat' (first | exact SubM.nil _ | refine SubM.cons rfl ?_ | refine SubM.app ?_))) w hm)) (fun ad10 n10 cap10 m10 hn10 hs10 => ?_)
  have hel := edN_len G 64
  refine LM.alloc Tryd.zeroValue75 rfl (fun b5 hb5 => ?_)
  refine LM.st Tryd.sizeOf75 rfl rfl rfl (by first | decide | exact Nat.le_of_ble_eq_true rfl | (simp; done) | (simp; omega)) rfl (fun hlt => absurd hlt (by omega)) ?_
  refine LM.nil ?_
  refine QM.sub (e' := [(0, _), (5, _)]) ⟨rfl, rfl, trivial⟩ ?_
  refine QM.then ?_
  refine wpM.seq ?_
  refine wpM.region ?_
  refine LM.alloc Tryd.zeroValue3 rfl (fun b6 hb6 => ?_)
  refine LM.st Tryd.sizeOf3 rfl rfl rfl (by first | decide | exact Nat.le_of_ble_eq_true rfl | (simp; done) | (simp; omega)) rfl (fun hlt => absurd hlt (by omega)) ?_
  refine LM.nil ?_
  refine QM.sub (e' := [(0, _), (5, _), (6, _)]) ⟨rfl, rfl, rfl, trivial⟩ ?_
  refine QM.then ?_
  refine wpM.seq ?_
  refine wpM.region ?_
  refine LM.alloc Tryd.zeroValue4 rfl (fun b7 hb7 => ?_)
  refine LM.st Tryd.sizeOf4 rfl rfl rfl (by first | decide | exact Nat.le_of_ble_eq_true rfl | (simp; done) | (simp; omega)) rfl (fun hlt => absurd hlt (by omega)) ?_
  refine LM.nil ?_
  refine QM.sub (e' := [(0, _), (5, _), (6, _), (7, _)]) ⟨rfl, rfl, rfl, rfl, trivial⟩ ?_
  refine QM.then ?_
  refine wpM.seq ?_
  refine wpM.seq ?_
  refine wpM.region ?_
  refine LM.val (ov_move rfl) ?_
  refine LM.callT (oc_call (enters_fn Tryd.func52 (by kernel_rfl) rfl) rfl) EdgT.mono (fun w hm hc hg => edges_spec _ w) ?_
  rintro u12 m12 ⟨c1, rfl, rfl, hc1⟩ -
  refine LM.nil ?_
  refine QM.sub (e' := [(5, _), (6, _), (7, _), (12, _)]) ⟨rfl, rfl, rfl, rfl, trivial⟩ ?_
  refine QM.then ?_
  refine wpM.block ?_
  refine wpM.toRange (α := Bool) (fun k sm => pB c1 (some ⟨bg, 0, none⟩) :: tB b7 sm :: iB b6 (k : Nat) :: slE b5 ad10 n10 cap10 :: (m10 ++ (gB bg G :: []))) (true) (by (repeat' (first | exact SubM.nil _ | refine SubM.cons rfl ?_ | refine SubM.app ?_))) ?_
  refine wpM.rangeP (α := Bool) (β := Unit) (enters_fn Tryd.func68 (by kernel_rfl) rfl) rfl (edges_seq (b := bg) hlen) (fun k sm Mp => pB c1 (some ⟨bg, 0, none⟩) :: tB b7 sm :: iB b6 (k : Nat) :: slE b5 ad10 n10 cap10 :: (m10 ++ (gB bg G :: (Mp ++ [])))) (by rintro k sm Mp; first | rfl | simp) (fun _ _ => top) (fun k sm => k ≤ (edN G 64).length ∧ sm = true) (fun ⟨⟩ => []) (fun _ => top) (fun c ⟨⟩ => False) true rfl (fun _ h => h) ⟨Nat.zero_le _, rfl⟩ (by kernel_rfl) (by intro k av hav; obtain ⟨x, hx, rfl⟩ := edA_inv hav; have hlt := (List.getElem?_eq_some_iff.1 hx).1; have hxd : (edN G 64).getD k default = x := (by rw [List.getD_eq_getElem?_getD, hx]; rfl); rfl) (.inl trivial) (fun k a w hm hc hg _ => ⟨SubM.mem (by (repeat' (first | exact SubM.nil _ | refine SubM.cons rfl ?_ | refine SubM.app ?_))) w hm, SubM.mem (by (repeat' (first | exact SubM.nil _ | refine SubM.cons rfl ?_ | refine SubM.app ?_))) w hm, hT.ext hc⟩) (fun _ _ _ _ => gl_top _) (fun _ _ _ => gl_top _) (fun k sm h => mm_cons rfl (mm_cons rfl (mm_cons rfl (mm_cons rfl (mm_app hs10.wlk (mm_cons rfl mm_nil)))))) (fun c z _ => by ((repeat (refine mm_cons rfl ?_)); exact fun p hp => .inl (by first | exact hp | (simp at hp; done) | (simp [hp]; done) | (simp at hp ⊢; first | exact .inl hp | exact hp | (simp [hp]; done))))) ?_ ?_ ?_ ?_
  ·
    rintro k av sm l D rc n1 W1 Mp hD hll hput hrc hav ⟨hk, hsm⟩
    change wpM _ _ _ _ _ _ _ ((l, Obj.loop rc) :: ([(D, Obj.deferred (some []))] ++ (pB c1 (some ⟨bg, 0, none⟩) :: tB b7 sm :: iB b6 (k : Nat) :: slE b5 ad10 n10 cap10 :: (m10 ++ (gB bg G :: (Mp ++ [])))))) _ _ _
    obtain ⟨x, hx, rfl⟩ := edA_inv hav; have hlt := (List.getElem?_eq_some_iff.1 hx).1; have hxd : (edN G 64).getD k default = x := (by rw [List.getD_eq_getElem?_getD, hx]; rfl)
    refine wpM.region ?_
    refine LM.alloc Tryd.zeroValue80 rfl (fun b8 hb8 => ?_)
    first | refine LM.stW Tryd.sizeOf80 rfl rfl rfl rfl (by first | rfl | decide | (simp; done)) (fun hlt => absurd hlt (by omega)) ?_ | refine LM.st Tryd.sizeOf80 rfl rfl rfl (by first | decide | exact Nat.le_of_ble_eq_true rfl | (simp; done) | (simp; omega)) rfl (fun hlt => absurd hlt (by omega)) ?_
    refine LM.nil ?_
    refine QM.sub (e' := [(5, _), (6, _), (7, _), (8, _)]) ⟨rfl, rfl, rfl, rfl, trivial⟩ ?_
    refine QM.toBodyF (hput k sm) hll ?_
    refine wpM.block ?_
    refine wpM.seq ?_
    refine wpM.draw [(0, 1), (1, 0), (2, 1), (3, 1), (4, 0), (5, 0), (6, 0), (7, 0), (8, 1), (9, 1), (10, 0), (11, 1), (12, 1), (13, 0), (14, 0), (15, 3)] (by kernel_rfl) (by kernel_rfl) ?_
    first | refine LD.rd rfl rfl (om_ld Tryd.isAgg4 rfl rfl) ?_
    refine LD.val rfl rfl (ov_move rfl) ?_
    first | refine LD.splitD (t := 15) rfl (fun h1 => ?_) (fun h1 => ?_) | refine LD.splitB (t := 15) rfl (fun h1 => ?_) (fun h1 => ?_)
    ·
      first | refine LD.rd rfl ⟨15, _, rfl, rfl, rfl⟩ (om_ld Tryd.isAgg3 rfl rfl) ?_
      first | refine LD.rd rfl ⟨15, _, rfl, rfl, rfl⟩ (om_ld Tryd.isAgg75 rfl rfl) ?_
      refine LD.val rfl ⟨15, _, rfl, rfl, rfl⟩ (ov_len Tryd.underlying75 rfl) ?_
      refine LD.val rfl ⟨15, _, rfl, rfl, rfl⟩ (ov_lss rfl rfl) ?_
      refine LD.val rfl rfl (ov_pickT rfl rfl) ?_
      refine LD.val rfl rfl (ov_move rfl) ?_
      first | refine LD.splitD (t := 21) rfl (fun h2 => ?_) (fun h2 => ?_) | refine LD.splitB (t := 21) rfl (fun h2 => ?_) (fun h2 => ?_)
      ·
        first | refine LD.rd rfl ⟨21, _, rfl, rfl, rfl⟩ (om_ld Tryd.isAgg75 rfl rfl) ?_
        first | refine LD.rd rfl ⟨21, _, rfl, rfl, rfl⟩ (om_ld Tryd.isAgg3 rfl rfl) ?_
        first | refine LD.val rfl ⟨21, _, rfl, rfl, rfl⟩ (ov_idxSN (by first | exact Sr.spt (by assumption) | exact Sl.spt (by assumption)) Tryd.underlying75 Tryd.sizeOf80 rfl rfl (by omega)) ?_ | refine LD.val rfl ⟨21, _, rfl, rfl, rfl⟩ (ov_idxS (by first | exact Sr.spt (by assumption) | exact Sl.spt (by assumption)) Tryd.underlying75 Tryd.sizeOf80 rfl rfl (by omega)) ?_ | refine LD.val rfl ⟨21, _, rfl, rfl, rfl⟩ (ov_idx Tryd.underlying75 Tryd.sizeOf80 rfl rfl (by omega)) ?_
        first | refine LD.rd rfl ⟨21, _, rfl, rfl, rfl⟩ (om_slA (by assumption) (by intro _; rfl) Tryd.isAgg80 Tryd.sizeOf80 rfl (by exact getq default (by first | omega | (simp only [List.length_set, List.length_append, List.length_cons, List.length_nil]; omega)))) ?_ | refine LD.rdC rfl ⟨21, _, rfl, rfl, rfl⟩ (om_srEA (by assumption) (by intro _; rfl) Tryd.isAgg80 Tryd.sizeOf80 rfl (by exact getq default (by first | omega | (simp only [List.length_set, List.length_append, List.length_cons, List.length_nil]; omega))) id) ?_ | refine LD.rd rfl ⟨21, _, rfl, rfl, rfl⟩ (om_ldW Tryd.isAgg80 Tryd.sizeOf80 rfl rfl) ?_ | refine LD.rd rfl ⟨21, _, rfl, rfl, rfl⟩ (om_ldA Tryd.isAgg80 Tryd.sizeOf80 rfl (vs := [_, _]) rfl ⟨rfl, rfl, trivial⟩) ?_
        first | refine LD.rd rfl ⟨21, _, rfl, rfl, rfl⟩ (om_ldW Tryd.isAgg80 Tryd.sizeOf80 rfl rfl) ?_ | refine LD.rd rfl ⟨21, _, rfl, rfl, rfl⟩ (om_ldA Tryd.isAgg80 Tryd.sizeOf80 rfl (vs := [_, _]) rfl ⟨rfl, rfl, trivial⟩) ?_
        refine LD.val rfl ⟨21, _, rfl, rfl, rfl⟩ (ov_aeql Tryd.underlying80 (by kernel_rfl) (by kernel_rfl) (by decide) rfl rfl (by rfl) ⟨(by first | rfl | trivial), (by first | rfl | trivial), trivial⟩) ?_
        refine LD.val rfl rfl (ov_pickT rfl rfl) ?_
        refine LD.tail rfl rfl ?_
        refine LM.st Tryd.sizeOf4 rfl rfl rfl (by first | decide | exact Nat.le_of_ble_eq_true rfl | (simp; done) | (simp; omega)) rfl (fun hlt => absurd hlt (by omega)) ?_
        refine LM.nil ?_
        refine QM.qn ?_
        refine QM.sub (e' := [(6, _)]) ⟨rfl, trivial⟩ ?_
        refine QM.then ?_
        refine wpM.region ?_
        first | refine LM.rd (om_ld Tryd.isAgg3 rfl rfl) ?_
        refine LM.val (ov_add64 rfl rfl (by omega)) ?_
        refine LM.st Tryd.sizeOf3 rfl rfl rfl (by first | decide | exact Nat.le_of_ble_eq_true rfl | (simp; done) | (simp; omega)) rfl (fun hlt => absurd hlt (by omega)) ?_
        refine LM.nil ?_
        refine QM.sub (e' := []) trivial ?_
        refine QM.block_normal ?_
        -- next1: h1+ h2+
        refine QM.next (_) (SubM.mem (by (repeat' (first | exact SubM.nil _ | refine SubM.cons rfl ?_ | refine SubM.app ?_)))) (fun _ h => h) ?_
        · exact ⟨by omega, by rw [hxd]; exact veq_self x⟩
      ·
        exact absurd (show (k : Int) < (n10 : Int) by omega) h2
    ·
      rw [hsm] at h1; cases h1
  ·
    rintro sm D0 hD0 ⟨hk, hsm⟩
    subst hsm
    refine QM.sub (e' := [(5, _), (6, _), (7, _)]) ⟨rfl, rfl, rfl, trivial⟩ ?_
    refine QM.block_normal ?_
    refine QM.then ?_
    refine wpM.seq ?_
    refine wpM.region ?_
    first | refine LM.rd (om_ld Tryd.isAgg4 rfl rfl) ?_
    refine LM.val (ov_move rfl) ?_
    first | refine LM.splitD (t := 32) rfl (fun h3 => ?_) (fun h3 => ?_) | refine LM.splitB (t := 32) rfl (fun h3 => ?_) (fun h3 => ?_)
    ·
      refine LM.strip (t := 32) rfl rfl rfl ?_
      first | refine LM.rd (om_ld Tryd.isAgg3 rfl rfl) ?_
      refine LM.strip (t := 32) rfl rfl rfl ?_
      first | refine LM.rd (om_ld Tryd.isAgg75 rfl rfl) ?_
      refine LM.strip (t := 32) rfl rfl rfl ?_
      refine LM.val (ov_len Tryd.underlying75 rfl) ?_
      refine LM.strip (t := 32) rfl rfl rfl ?_
      refine LM.val (ov_eql rfl rfl) ?_
      refine LM.val (ov_pickT rfl rfl) ?_
      refine LM.val (ov_assign rfl) ?_
      refine LM.nil ?_
      refine QM.sub (e' := [(4, _)]) ⟨rfl, trivial⟩ ?_
      refine QM.then ?_
      refine wpM.ret ?_
      refine QM.leaveDF (ds := [D0]) (.inl rfl) [.tmp 4] Tryd.results48 rfl (fun D h => by simp only [List.mem_cons, List.not_mem_nil, or_false] at h; omega) ?_
      intro w' hm' hc'
      -- leaf 1: h3+
      refine ⟨?_, hc'⟩; show Value.bool (decide (((edA G).length : Int) = (n10 : Int))) = _; rw [hn10, edA_len]; simp
    ·
      cases h3
  ·
    rintro ⟨⟩ D0 hD0 hx
    first | exact hx.elim | cases hx.1
  ·
    rintro id ⟨⟩ D0 hD0 hx
    first | exact hx.elim | cases hx.1 | cases hx

set_option maxRecDepth 100000 in
theorem graphRuns {l : List Dd} {ad : Option Addr} {n cap : Nat} (w : World) (hT : Tab w) (hn : n = l.length) (hl : Sr fDd 3 l (.slice ad n cap) w) (hkd : ∀ d ∈ l, 0 ≤ d.kind) : Ret Tryd.prog 10 #[.slice ad n cap] w (fun v w' => v = .bool true ∧ Ext w w') := by
  have hpos := hT.pos
  refine Ret.enterM (l := [.slice ad n cap]) Tryd.func10 rfl Tryd.ntmps10 rfl ([]) (no) (Mem.nil w) ?_
  refine wpM.seq ?_
  refine wpM.region ?_
  refine LM.val (ov_assign rfl) ?_
  refine LM.nil ?_
  refine QM.sub (e' := [(0, _)]) ⟨rfl, trivial⟩ ?_
  refine QM.then ?_
  refine wpM.seq ?_
  refine wpM.seq ?_
  refine wpM.region ?_
  refine LM.callE (oc_call (enters_fn Tryd.func26 (by kernel_rfl) rfl) rfl) (fun w hm hc hg => awake22 w (hT.ext hc)) ?_
  first | refine LM.val (ov_notD rfl) ?_ | refine LM.val (ov_not rfl) ?_
  refine LM.nil ?_
  refine QM.sub (e' := [(0, _), (13, _)]) ⟨rfl, rfl, trivial⟩ ?_
  refine QM.then ?_
  first | refine wpM.condD rfl (fun h1 => ?_) (fun h1 => ?_) | refine wpM.condB rfl (fun h1 => ?_) (fun h1 => ?_)
  ·
    refine wpM.seq ?_
    refine wpM.region ?_
    refine LM.val (ov_assign rfl) ?_
    refine LM.nil ?_
    refine QM.sub (e' := [(2, _)]) ⟨rfl, trivial⟩ ?_
    refine QM.then ?_
    refine wpM.ret ?_
    refine QM.then_ret ?_
    refine QM.leave (.inl rfl) [.tmp 2] Tryd.results10 rfl ?_
    intro w' hm' hc' hg'
    -- leaf 1: h1+
    first | exact ⟨rfl, hc'⟩ | (exfalso; first | omega | (simp at *; done) | (simp_all; done))
  ·
    refine wpM.skip ?_
    refine QM.then ?_
    refine wpM.seq ?_
    refine wpM.seq ?_
    refine wpM.region ?_
    refine LM.val (ov_move rfl) ?_
    refine LM.val (ov_len Tryd.underlying37 rfl) ?_
    refine LM.val (ov_gtr rfl rfl) ?_
    refine LM.nil ?_
    refine QM.sub (e' := [(0, _), (16, _)]) ⟨rfl, rfl, trivial⟩ ?_
    refine QM.then ?_
    first | refine wpM.condD rfl (fun h2 => ?_) (fun h2 => ?_) | refine wpM.condB rfl (fun h2 => ?_) (fun h2 => ?_)
    ·
      refine wpM.seq ?_
      refine wpM.region ?_
      refine LM.val (ov_assign rfl) ?_
      refine LM.nil ?_
      refine QM.sub (e' := [(2, _)]) ⟨rfl, trivial⟩ ?_
      refine QM.then ?_
      refine wpM.ret ?_
      refine QM.then_ret ?_
      refine QM.leave (.inl rfl) [.tmp 2] Tryd.results10 rfl ?_
      intro w' hm' hc' hg'
      -- leaf 2: h1- h2+
      first | exact ⟨rfl, hc'⟩ | (exfalso; first | omega | (simp at *; done) | (simp_all; done))
    ·
      refine wpM.skip ?_
      refine QM.then ?_
      refine wpM.seq ?_
      refine wpM.region ?_
      refine LM.callT (oc_call (enters_fn Tryd.func27 (by kernel_rfl) rfl) rfl) NewGT.mono (fun w hm hc hg => gnew_spec w) ?_
      rintro u17 m17 ⟨bg, rfl, rfl, hbg⟩ -
      refine LM.callT (oc_call (enters_fn Tryd.func44 (by kernel_rfl) rfl) rfl) NewRT.mono (fun w hm hc hg => rnew_spec w) ?_
      rintro u18 m18 ⟨br, adg, ng, capg, mg, rfl, rfl, hbr, hng, hsg⟩ -
      refine LM.val (ov_assign rfl) ?_
      refine LM.val (ov_assign rfl) ?_
      refine LM.nil ?_
      refine QM.sub (e' := [(0, _), (3, _), (4, _)]) ⟨rfl, rfl, rfl, trivial⟩ ?_
      refine QM.then ?_
      refine wpM.seq ?_
      refine wpM.seq ?_
      refine wpM.region ?_
      refine LM.val (ov_move rfl) ?_
      refine LM.val (ov_len Tryd.underlying37 rfl) ?_
      refine LM.val (ov_move rfl) ?_
      refine LM.nil ?_
      refine QM.sub (e' := [(3, _), (4, _), (19, _), (20, _), (21, _)]) ⟨rfl, rfl, rfl, rfl, rfl, trivial⟩ ?_
      refine QM.then ?_
      refine wpM.block ?_
      refine wpM.loopK0 (α := Nat × Gr × Mem0) (fun ⟨i, G, m⟩ => [(21, .int .i64 (i : Nat))]) [(3, _), (4, _), (19, _), (20, _)] (fun ⟨i, G, m⟩ => gB bg G :: rB br adg ng capg :: (m ++ [])) (fun ⟨i, G, m⟩ => i ≤ l.length ∧ G.length = 64 ∧ Acy G ∧ Sl fU 23 1 w.heap.size G (.slice adg ng capg) m) (fun ⟨i, G, m⟩ => l.length - i) ((0, zeroG, mg)) ⟨(by first | rfl | exact lk rfl (by congr 1; omega) | exact lk rfl (by simp)), rfl, rfl, rfl, rfl, trivial⟩ (by (repeat' (first | exact SubM.nil _ | refine SubM.cons rfl ?_ | refine SubM.app ?_))) ⟨Nat.zero_le _, zeroG_len, acy_zero, hsg⟩ ?_
      rintro ⟨i, G, m⟩ ⟨hi, hlen, hA, hsl⟩
      change wpM _ _ _ _ _ _ _ (gB bg G :: rB br adg ng capg :: (m ++ [])) _ _ _
      refine wpM.seq ?_
      refine wpM.region ?_
      refine LM.val (ov_lss rfl rfl) ?_
      refine LM.nil ?_
      refine QM.sub (e' := [(3, _), (4, _), (19, _), (20, _), (21, _), (22, _)]) ⟨rfl, rfl, rfl, rfl, rfl, rfl, trivial⟩ ?_
      refine QM.then ?_
      refine wpM.seq ?_
      first | refine wpM.condD rfl (fun h3 => ?_) (fun h3 => ?_) | refine wpM.condB rfl (fun h3 => ?_) (fun h3 => ?_)
      ·
        have hk0 : 0 ≤ (l.getD i default).kind := hkd _ (List.mem_of_getElem? (getq default (by omega)))
        refine wpM.skip ?_
        refine QM.then ?_
        refine wpM.seq ?_
        refine wpM.block ?_
        refine wpM.seq ?_
        refine wpM.region ?_
        first | refine LM.val (ov_idxSN (by first | exact Sr.spt (by assumption) | exact Sl.spt (by assumption)) Tryd.underlying37 Tryd.sizeOf41 rfl rfl (by omega)) ?_ | refine LM.val (ov_idxS (by first | exact Sr.spt (by assumption) | exact Sl.spt (by assumption)) Tryd.underlying37 Tryd.sizeOf41 rfl rfl (by omega)) ?_ | refine LM.val (ov_idx Tryd.underlying37 Tryd.sizeOf41 rfl rfl (by omega)) ?_
        first | refine LM.rd (om_slA (by assumption) (by intro _; rfl) Tryd.isAgg41 Tryd.sizeOf41 rfl (by exact getq default (by first | omega | (simp only [List.length_set, List.length_append, List.length_cons, List.length_nil]; omega)))) ?_ | refine LM.rdC (om_srEA (by assumption) (by intro _; rfl) Tryd.isAgg41 Tryd.sizeOf41 rfl (by exact getq default (by first | omega | (simp only [List.length_set, List.length_append, List.length_cons, List.length_nil]; omega))) id) ?_ | refine LM.rd (om_ldW Tryd.isAgg41 Tryd.sizeOf41 rfl rfl) ?_ | refine LM.rd (om_ldA Tryd.isAgg41 Tryd.sizeOf41 rfl (vs := [_, _, _]) rfl ⟨rfl, rfl, rfl, trivial⟩) ?_
        refine LM.alloc Tryd.zeroValue41 rfl (fun b6 hb6 => ?_)
        first | refine LM.stW Tryd.sizeOf41 rfl rfl rfl rfl (by first | rfl | decide | (simp; done)) (fun hlt => absurd hlt (by omega)) ?_ | refine LM.st Tryd.sizeOf41 rfl rfl rfl (by first | decide | exact Nat.le_of_ble_eq_true rfl | (simp; done) | (simp; omega)) rfl (fun hlt => absurd hlt (by omega)) ?_
        refine LM.nil ?_
        refine QM.sub (e' := [(3, _), (4, _), (6, _), (19, _), (20, _), (21, _)]) ⟨rfl, rfl, rfl, rfl, rfl, rfl, trivial⟩ ?_
        refine QM.then ?_
        refine wpM.seq ?_
        refine wpM.seq ?_
        refine wpM.draw [(0, 0), (1, 0), (2, 1), (3, 0), (4, 1), (6, 0), (7, 0), (8, 1), (9, 0), (10, 1), (5, 2), (11, 2), (12, 0)] (by kernel_rfl) (by kernel_rfl) ?_
        refine LD.val rfl rfl (ov_move rfl) ?_
        refine LD.val rfl rfl (ov_field Tryd.underlying41 rfl Tryd.sizeOf3 rfl (k := 1) rfl rfl) ?_
        first | refine LD.rd rfl rfl (om_ld Tryd.isAgg3 rfl rfl) ?_
        refine LD.val rfl rfl (ov_field Tryd.underlying41 rfl Tryd.sizeOf23 rfl (k := 2) rfl rfl) ?_
        first | refine LD.rd rfl rfl (om_ld Tryd.isAgg23 rfl rfl) ?_
        refine LD.val rfl rfl (ov_move rfl) ?_
        refine LD.val rfl rfl (ov_field Tryd.underlying41 rfl Tryd.sizeOf3 rfl (k := 1) rfl rfl) ?_
        first | refine LD.rd rfl rfl (om_ld Tryd.isAgg3 rfl rfl) ?_
        refine LD.val rfl rfl (ov_field Tryd.underlying41 rfl Tryd.sizeOf23 rfl (k := 2) rfl rfl) ?_
        first | refine LD.rd rfl rfl (om_ld Tryd.isAgg23 rfl rfl) ?_
        refine LD.callE rfl rfl (oc_call (enters_fn Tryd.func45 (by kernel_rfl) rfl) rfl) (fun w hm hc hg => closes_spec bg G _ _ w hlen (hT.ext hc) (hm.pick _)) ?_
        refine LD.callE rfl rfl (oc_call (enters_fn Tryd.func46 (by kernel_rfl) rfl) rfl) (fun w hm hc hg => rcloses_spec br _ _ w hlen hng hsl (SubM.mem (by (repeat' (first | exact SubM.nil _ | refine SubM.cons rfl ?_ | refine SubM.app ?_))) w hm)) ?_
        refine LD.val rfl rfl (ov_bneq Tryd.underlying4 rfl rfl) ?_
        refine LD.nil ?_
        refine QM.sub (e' := [(3, _), (4, _), (6, _), (19, _), (20, _), (21, _), (37, _)]) ⟨rfl, rfl, rfl, rfl, rfl, rfl, rfl, trivial⟩ ?_
        refine QM.then ?_
        first | refine wpM.condD rfl (fun h4 => ?_) (fun h4 => ?_) | refine wpM.condB rfl (fun h4 => ?_) (fun h4 => ?_)
        ·
          first | exact absurd rfl h4 | (simp at h4)
        ·
          refine wpM.skip ?_
          refine QM.then ?_
          refine wpM.seq ?_
          refine wpM.region ?_
          refine LM.val (ov_assign rfl) ?_
          refine LM.nil ?_
          refine QM.sub (e' := [(3, _), (4, _), (6, _), (19, _), (20, _), (21, _)]) ⟨rfl, rfl, rfl, rfl, rfl, rfl, trivial⟩ ?_
          refine QM.then ?_
          refine wpM.seq ?_
          refine wpM.seq ?_
          refine wpM.region ?_
          refine LM.val (ov_field Tryd.underlying41 rfl Tryd.sizeOf5 rfl (k := 0) rfl rfl) ?_
          first | refine LM.rd (om_ld Tryd.isAgg5 rfl rfl) ?_
          first | refine LM.val (ov_remK rfl rfl (by omega) (by omega)) ?_ | refine LM.val (ov_remJ rfl rfl (by omega) (by omega)) ?_
          refine LM.val (ov_lss rfl rfl) ?_
          refine LM.nil ?_
          refine QM.sub (e' := [(3, _), (4, _), (6, _), (19, _), (20, _), (21, _), (41, _)]) ⟨rfl, rfl, rfl, rfl, rfl, rfl, rfl, trivial⟩ ?_
          refine QM.then ?_
          refine wpM.joinK (α := Gr × Mem0 × Bool) (fun ⟨G2, m2, ok⟩ => [(7, .bool ok)]) [(3, _), (4, _), (6, _), (19, _), (20, _), (21, _)] (fun ⟨G2, m2, ok⟩ => gB bg G2 :: rB br adg ng capg :: bD b6 (l.getD i default) :: (m2 ++ [])) (fun ⟨G2, m2, ok⟩ => G2.length = 64 ∧ Acy G2 ∧ Sl fU 23 1 w.heap.size G2 (.slice adg ng capg) m2 ∧ ok = true) ⟨rfl, rfl, rfl, rfl, rfl, rfl, trivial⟩ ?_ ?_
          ·
            first | refine wpM.condD rfl (fun h5 => ?_) (fun h5 => ?_) | refine wpM.condB rfl (fun h5 => ?_) (fun h5 => ?_)
            ·
              refine wpM.toAltO (bg) [gO G, gO (wtG G (l.getD i default).who (l.getD i default).set)] (by simp) (fun hMc => ?_)
              refine wpM.draw [(0, 0), (1, 0), (2, 1), (3, 0), (4, 1), (6, 0), (7, 0), (8, 1), (9, 0), (10, 1), (5, 2), (11, 3), (12, 3), (13, 3)] (by kernel_rfl) (by kernel_rfl) ?_
              refine LD.val rfl rfl (ov_move rfl) ?_
              refine LD.val rfl rfl (ov_field Tryd.underlying41 rfl Tryd.sizeOf3 rfl (k := 1) rfl rfl) ?_
              first | refine LD.rd rfl rfl (om_ld Tryd.isAgg3 rfl rfl) ?_
              refine LD.val rfl rfl (ov_field Tryd.underlying41 rfl Tryd.sizeOf23 rfl (k := 2) rfl rfl) ?_
              first | refine LD.rd rfl rfl (om_ld Tryd.isAgg23 rfl rfl) ?_
              refine LD.val rfl rfl (ov_move rfl) ?_
              refine LD.val rfl rfl (ov_field Tryd.underlying41 rfl Tryd.sizeOf3 rfl (k := 1) rfl rfl) ?_
              first | refine LD.rd rfl rfl (om_ld Tryd.isAgg3 rfl rfl) ?_
              refine LD.val rfl rfl (ov_field Tryd.underlying41 rfl Tryd.sizeOf23 rfl (k := 2) rfl rfl) ?_
              first | refine LD.rd rfl rfl (om_ld Tryd.isAgg23 rfl rfl) ?_
              refine LD.cWA rfl rfl (oc_call (enters_fn Tryd.func28 (by kernel_rfl) rfl) rfl) hMc (fun hlt => absurd hlt (by omega)) (o' := gO (wtG G (l.getD i default).who (l.getD i default).set)) (by simp) (by simp only [List.forall_mem_cons, List.not_mem_nil, false_implies, implies_true, and_true]; exact ⟨⟨rfl, fun w hm hc hg => wait_spec bg G _ _ w hlen (hT.ext hc) (by omega) (hm.pick _)⟩, ⟨rfl, fun w hm hc hg => wait_again bg G _ _ w hlen (hT.ext hc) (by omega) (hm.pick _)⟩⟩) ?_
              refine LD.tail rfl rfl ?_
              refine LM.ofAltO ?_
              refine LM.cU (oc_call (enters_fn Tryd.func43 (by kernel_rfl) rfl) rfl) (fun w hm hc hg => rwait_spec br _ _ w hlen hng hsl (SubM.mem (by (repeat' (first | exact SubM.nil _ | refine SubM.cons rfl ?_ | refine SubM.app ?_))) w hm)) hsl.wlk (fun p hp hlt => absurd hlt (Nat.not_lt_of_le (hsl.ge p hp))) ?_
              rintro u53 m53 ⟨rfl, hs53⟩ hin53
              refine LM.val (ov_eql rfl rfl) ?_
              refine LM.val (ov_assign rfl) ?_
              refine LM.nil ?_
              refine QM.qn ?_
              refine QM.sub (e' := [(3, _), (4, _), (6, _), (7, _), (19, _), (20, _), (21, _)]) ⟨rfl, rfl, rfl, rfl, rfl, rfl, rfl, trivial⟩ ?_
              -- meet1: h1- h2- h3+ h4- h5+
              refine QM.meetK (wtG G (l.getD i default).who (l.getD i default).set, m53, _) ⟨(by first | rfl | exact lk rfl (by congr 1; omega) | exact lk rfl (by simp)), rfl, rfl, rfl, rfl, rfl, rfl, trivial⟩ (by (repeat' (first | exact SubM.nil _ | refine SubM.cons rfl ?_ | refine SubM.app ?_))) ?_
              · exact ⟨wtG_len hlen _ _, wtG_acy hlen hA _ _, hs53, by simp⟩
            ·
              refine wpM.seq ?_
              refine wpM.draw [(0, 0), (1, 1), (2, 2), (3, 0), (4, 0), (5, 0), (6, 0), (7, 1), (8, 0), (9, 1), (10, 0), (11, 1), (12, 0), (13, 0), (14, 0)] (by kernel_rfl) (by kernel_rfl) ?_
              refine LD.val rfl rfl (ov_field Tryd.underlying41 rfl Tryd.sizeOf3 rfl (k := 1) rfl rfl) ?_
              first | refine LD.rd rfl rfl (om_ld Tryd.isAgg3 rfl rfl) ?_
              refine LD.callE rfl rfl (oc_call (enters_fn Tryd.func47 (by kernel_rfl) rfl) rfl) (fun w hm hc hg => ris_spec _ w) ?_
              refine LD.val rfl rfl (ov_move rfl) ?_
              first | refine LD.splitD (t := 58) rfl (fun h6 => ?_) (fun h6 => ?_) | refine LD.splitB (t := 58) rfl (fun h6 => ?_) (fun h6 => ?_)
              ·
                have hin := inG_iff.1 h6
                refine LD.val rfl ⟨58, _, rfl, rfl, rfl⟩ (ov_move rfl) ?_
                refine LD.val rfl ⟨58, _, rfl, rfl, rfl⟩ (ov_nilCheck rfl) ?_
                refine LD.val rfl ⟨58, _, rfl, rfl, rfl⟩ (ov_field Tryd.underlying72 rfl Tryd.sizeOf70 rfl (k := 0) rfl rfl) ?_
                first | refine LD.rd rfl ⟨58, _, rfl, rfl, rfl⟩ (om_ld Tryd.isAgg70 rfl rfl) ?_
                refine LD.val rfl ⟨58, _, rfl, rfl, rfl⟩ (ov_field Tryd.underlying41 rfl Tryd.sizeOf3 rfl (k := 1) rfl rfl) ?_
                first | refine LD.rd rfl ⟨58, _, rfl, rfl, rfl⟩ (om_ld Tryd.isAgg3 rfl rfl) ?_
                first | refine LD.val rfl ⟨58, _, rfl, rfl, rfl⟩ (ov_idxSN (by first | exact Sr.spt (by assumption) | exact Sl.spt (by assumption)) Tryd.underlying70 Tryd.sizeOf23 rfl rfl (by omega)) ?_ | refine LD.val rfl ⟨58, _, rfl, rfl, rfl⟩ (ov_idxS (by first | exact Sr.spt (by assumption) | exact Sl.spt (by assumption)) Tryd.underlying70 Tryd.sizeOf23 rfl rfl (by omega)) ?_ | refine LD.val rfl ⟨58, _, rfl, rfl, rfl⟩ (ov_idx1 Tryd.underlying70 Tryd.sizeOf23 rfl rfl (by omega)) ?_
                first | refine LD.rd rfl ⟨58, _, rfl, rfl, rfl⟩ (om_sl1 (by assumption) (by intro _; rfl) Tryd.isAgg23 rfl rfl (by exact getq 0#64 (by first | omega | (simp only [List.length_set, List.length_append, List.length_cons, List.length_nil]; omega))) (by rfl)) ?_ | refine LD.rdC rfl ⟨58, _, rfl, rfl, rfl⟩ (om_sr1 (by assumption) Tryd.isAgg23 rfl rfl (by exact getq 0#64 (by first | omega | (simp only [List.length_set, List.length_append, List.length_cons, List.length_nil]; omega))) (by rfl) id) ?_ | refine LD.rd rfl ⟨58, _, rfl, rfl, rfl⟩ (om_ld Tryd.isAgg23 rfl rfl) ?_
                refine LD.val rfl ⟨58, _, rfl, rfl, rfl⟩ (ov_uneq (b := 0#64) rfl rfl) ?_
                refine LD.val rfl rfl (ov_pickT rfl rfl) ?_
                refine LD.val rfl rfl (ov_assign rfl) ?_
                refine LD.nil ?_
                refine QM.sub (e' := [(3, _), (4, _), (6, _), (8, _), (19, _), (20, _), (21, _)]) ⟨rfl, rfl, rfl, rfl, rfl, rfl, rfl, trivial⟩ ?_
                refine QM.then ?_
                refine wpM.seq ?_
                refine wpM.region ?_
                refine LM.val (ov_move rfl) ?_
                refine LM.val (ov_field Tryd.underlying41 rfl Tryd.sizeOf3 rfl (k := 1) rfl rfl) ?_
                first | refine LM.rd (om_ld Tryd.isAgg3 rfl rfl) ?_
                refine LM.cW (oc_call (enters_fn Tryd.func36 (by kernel_rfl) rfl) rfl) (fun w hm hc hg => clear_spec bg G _ w hlen (hm.pick _)) rfl (fun hlt => absurd hlt (by omega)) ?_
                refine LM.val (ov_move rfl) ?_
                refine LM.val (ov_beql Tryd.underlying4 rfl rfl) ?_
                refine LM.val (ov_assign rfl) ?_
                refine LM.nil ?_
                refine QM.sub (e' := [(3, _), (4, _), (6, _), (7, _), (8, _), (19, _), (20, _), (21, _)]) ⟨rfl, rfl, rfl, rfl, rfl, rfl, rfl, rfl, trivial⟩ ?_
                refine QM.then ?_
                refine wpM.seq ?_
                refine wpM.region ?_
                refine LM.val (ov_move rfl) ?_
                refine LM.nil ?_
                refine QM.sub (e' := [(3, _), (4, _), (6, _), (7, _), (19, _), (20, _), (21, _), (75, _)]) ⟨rfl, rfl, rfl, rfl, rfl, rfl, rfl, rfl, trivial⟩ ?_
                refine QM.then ?_
                first | refine wpM.condD rfl (fun h7 => ?_) (fun h7 => ?_) | refine wpM.condB rfl (fun h7 => ?_) (fun h7 => ?_)
                ·
                  refine wpM.draw [(0, 0), (1, 0), (2, 0), (3, 1), (4, 0), (5, 1), (6, 0), (7, 3)] (by kernel_rfl) (by kernel_rfl) ?_
                  refine LD.val rfl rfl (ov_move rfl) ?_
                  refine LD.val rfl rfl (ov_nilCheck rfl) ?_
                  refine LD.val rfl rfl (ov_field Tryd.underlying72 rfl Tryd.sizeOf70 rfl (k := 0) rfl rfl) ?_
                  first | refine LD.rd rfl rfl (om_ld Tryd.isAgg70 rfl rfl) ?_
                  refine LD.val rfl rfl (ov_field Tryd.underlying41 rfl Tryd.sizeOf3 rfl (k := 1) rfl rfl) ?_
                  first | refine LD.rd rfl rfl (om_ld Tryd.isAgg3 rfl rfl) ?_
                  first | refine LD.val rfl rfl (ov_idxSN (by first | exact Sr.spt (by assumption) | exact Sl.spt (by assumption)) Tryd.underlying70 Tryd.sizeOf23 rfl rfl (by omega)) ?_ | refine LD.val rfl rfl (ov_idxS (by first | exact Sr.spt (by assumption) | exact Sl.spt (by assumption)) Tryd.underlying70 Tryd.sizeOf23 rfl rfl (by omega)) ?_ | refine LD.val rfl rfl (ov_idx1 Tryd.underlying70 Tryd.sizeOf23 rfl rfl (by omega)) ?_
                  refine LD.tail rfl rfl ?_
                  refine LM.stS 0#64 (j := 0) (by assumption) (by intro _; rfl) Tryd.sizeOf23 rfl rfl rfl (by exact getq 0#64 (by first | omega | (simp only [List.length_set, List.length_append, List.length_cons, List.length_nil]; omega))) rfl (by decide) (by rfl) rfl (fun p hp hlt => absurd hlt (Nat.not_lt_of_le (Sl.ge (by assumption) p hp))) (fun ms hss hmm => ?_)
                  refine LM.nil ?_
                  refine QM.qn ?_
                  refine QM.sub (e' := [(3, _), (4, _), (6, _), (7, _), (19, _), (20, _), (21, _)]) ⟨rfl, rfl, rfl, rfl, rfl, rfl, rfl, trivial⟩ ?_
                  -- meet2: h1- h2- h3+ h4- h5- h6+ h7+
                  refine QM.meetK (clrG G (l.getD i default).who, ms, _) ⟨(by first | rfl | exact lk rfl (by congr 1; omega) | exact lk rfl (by simp)), rfl, rfl, rfl, rfl, rfl, rfl, trivial⟩ (by (repeat' (first | exact SubM.nil _ | refine SubM.cons rfl ?_ | refine SubM.app ?_))) ?_
                  · exact ⟨clrG_len hlen _, clrG_acy hlen hA _, by rw [clr_yes hin h7]; exact hss, by rw [of_in hin]; simp⟩
                ·
                  refine wpM.skip ?_
                  -- meet3: h1- h2- h3+ h4- h5- h6+ h7-
                  refine QM.meetK (clrG G (l.getD i default).who, m, _) ⟨(by first | rfl | exact lk rfl (by congr 1; omega) | exact lk rfl (by simp)), rfl, rfl, rfl, rfl, rfl, rfl, trivial⟩ (by (repeat' (first | exact SubM.nil _ | refine SubM.cons rfl ?_ | refine SubM.app ?_))) ?_
                  · exact ⟨clrG_len hlen _, clrG_acy hlen hA _, by rw [clr_no hin h7]; exact hsl, by rw [of_in hin]; simp⟩
              ·
                refine LD.drop rfl rfl ⟨58, _, rfl, rfl, rfl⟩ ?_
                refine LD.drop rfl rfl ⟨58, _, rfl, rfl, rfl⟩ ?_
                refine LD.drop rfl rfl ⟨58, _, rfl, rfl, rfl⟩ ?_
                refine LD.drop rfl rfl ⟨58, _, rfl, rfl, rfl⟩ ?_
                refine LD.drop rfl rfl ⟨58, _, rfl, rfl, rfl⟩ ?_
                refine LD.drop rfl rfl ⟨58, _, rfl, rfl, rfl⟩ ?_
                refine LD.drop rfl rfl ⟨58, _, rfl, rfl, rfl⟩ ?_
                refine LD.drop rfl rfl ⟨58, _, rfl, rfl, rfl⟩ ?_
                refine LD.drop rfl rfl ⟨58, _, rfl, rfl, rfl⟩ ?_
                refine LD.val rfl rfl (ov_pickF rfl rfl) ?_
                refine LD.val rfl rfl (ov_assign rfl) ?_
                refine LD.nil ?_
                refine QM.sub (e' := [(3, _), (4, _), (6, _), (8, _), (19, _), (20, _), (21, _)]) ⟨rfl, rfl, rfl, rfl, rfl, rfl, rfl, trivial⟩ ?_
                refine QM.then ?_
                refine wpM.seq ?_
                refine wpM.region ?_
                refine LM.val (ov_move rfl) ?_
                refine LM.val (ov_field Tryd.underlying41 rfl Tryd.sizeOf3 rfl (k := 1) rfl rfl) ?_
                first | refine LM.rd (om_ld Tryd.isAgg3 rfl rfl) ?_
                refine LM.cW (oc_call (enters_fn Tryd.func36 (by kernel_rfl) rfl) rfl) (fun w hm hc hg => clear_spec bg G _ w hlen (hm.pick _)) rfl (fun hlt => absurd hlt (by omega)) ?_
                refine LM.val (ov_move rfl) ?_
                refine LM.val (ov_beql Tryd.underlying4 rfl rfl) ?_
                refine LM.val (ov_assign rfl) ?_
                refine LM.nil ?_
                refine QM.sub (e' := [(3, _), (4, _), (6, _), (7, _), (8, _), (19, _), (20, _), (21, _)]) ⟨rfl, rfl, rfl, rfl, rfl, rfl, rfl, rfl, trivial⟩ ?_
                refine QM.then ?_
                refine wpM.seq ?_
                refine wpM.region ?_
                refine LM.val (ov_move rfl) ?_
                refine LM.nil ?_
                refine QM.sub (e' := [(3, _), (4, _), (6, _), (7, _), (19, _), (20, _), (21, _), (75, _)]) ⟨rfl, rfl, rfl, rfl, rfl, rfl, rfl, rfl, trivial⟩ ?_
                refine QM.then ?_
                refine wpM.condF rfl ?_
                refine wpM.skip ?_
                -- meet4: h1- h2- h3+ h4- h5- h6-
                refine QM.meetK (clrG G (l.getD i default).who, m, _) ⟨(by first | rfl | exact lk rfl (by congr 1; omega) | exact lk rfl (by simp)), rfl, rfl, rfl, rfl, rfl, rfl, trivial⟩ (by (repeat' (first | exact SubM.nil _ | refine SubM.cons rfl ?_ | refine SubM.app ?_))) ?_
                · exact ⟨clrG_len hlen _, clrG_acy hlen hA _, by rw [clr_out h6]; exact hsl, by rw [of_out h6]; simp⟩
          ·
            rintro ⟨G2, m2, ok⟩ ⟨hlen2, hA2, hsl2, hok⟩
            change QM _ _ _ _ _ (gB bg G2 :: rB br adg ng capg :: bD b6 (l.getD i default) :: (m2 ++ [])) _ _ _
            subst hok
            refine QM.then ?_
            refine wpM.seq ?_
            refine wpM.seq ?_
            refine wpM.draw [(0, 0), (1, 0), (2, 0), (3, 0), (4, 0), (5, 2), (6, 0), (7, 0), (8, 0), (9, 0), (10, 0), (11, 1), (13, 0), (14, 0), (15, 1), (12, 2), (16, 2), (17, 0), (18, 0), (19, 0), (20, 0), (21, 0), (22, 1), (24, 0), (25, 0), (26, 1), (23, 2), (27, 2), (28, 0), (29, 0)] (by kernel_rfl) (by kernel_rfl) ?_
            refine LD.val rfl rfl (ov_move rfl) ?_
            first | refine LD.val rfl rfl (ov_notD rfl) ?_ | refine LD.val rfl rfl (ov_not rfl) ?_
            refine LD.val rfl rfl (ov_move rfl) ?_
            first | refine LD.splitD (t := 85) rfl (fun h8 => ?_) (fun h8 => ?_) | refine LD.splitB (t := 85) rfl (fun h8 => ?_) (fun h8 => ?_)
            ·
              first | cases h8 | (simp at h8)
            ·
              refine LD.val rfl ⟨85, _, rfl, rfl, rfl⟩ (ov_move rfl) ?_
              refine LD.val rfl ⟨85, _, rfl, rfl, rfl⟩ (ov_move rfl) ?_
              refine LD.callE rfl ⟨85, _, rfl, rfl, rfl⟩ (oc_call (enters_fn Tryd.func48 (by kernel_rfl) rfl) rfl) (fun w hm hc hg => edges_true bg br w (hT.ext hc) hlen2 hng hsl2 (SubM.mem (by (repeat' (first | exact SubM.nil _ | refine SubM.cons rfl ?_ | refine SubM.app ?_))) w hm)) ?_
              first | refine LD.val rfl ⟨85, _, rfl, rfl, rfl⟩ (ov_notD rfl) ?_ | refine LD.val rfl ⟨85, _, rfl, rfl, rfl⟩ (ov_not rfl) ?_
              refine LD.val rfl rfl (ov_pickF rfl rfl) ?_
              refine LD.val rfl rfl (ov_move rfl) ?_
              first | refine LD.splitD (t := 91) rfl (fun h9 => ?_) (fun h9 => ?_) | refine LD.splitB (t := 91) rfl (fun h9 => ?_) (fun h9 => ?_)
              ·
                first | cases h9 | (simp at h9)
              ·
                refine LD.val rfl ⟨91, _, rfl, rfl, rfl⟩ (ov_move rfl) ?_
                refine LD.val rfl ⟨91, _, rfl, rfl, rfl⟩ (ov_field Tryd.underlying41 rfl Tryd.sizeOf3 rfl (k := 1) rfl rfl) ?_
                first | refine LD.rd rfl ⟨91, _, rfl, rfl, rfl⟩ (om_ld Tryd.isAgg3 rfl rfl) ?_
                refine LD.val rfl ⟨91, _, rfl, rfl, rfl⟩ (ov_move rfl) ?_
                refine LD.val rfl ⟨91, _, rfl, rfl, rfl⟩ (ov_field Tryd.underlying41 rfl Tryd.sizeOf3 rfl (k := 1) rfl rfl) ?_
                first | refine LD.rd rfl ⟨91, _, rfl, rfl, rfl⟩ (om_ld Tryd.isAgg3 rfl rfl) ?_
                refine LD.callE rfl ⟨91, _, rfl, rfl, rfl⟩ (oc_call (enters_fn Tryd.func29 (by kernel_rfl) rfl) rfl) (fun w hm hc hg => greach_spec bg G2 _ w hlen2 (hT.ext hc) (hm.pick _)) ?_
                refine LD.callE rfl ⟨91, _, rfl, rfl, rfl⟩ (oc_call (enters_fn Tryd.func49 (by kernel_rfl) rfl) rfl) (fun w hm hc hg => rreach_spec br _ w hlen2 hng hsl2 (SubM.mem (by (repeat' (first | exact SubM.nil _ | refine SubM.cons rfl ?_ | refine SubM.app ?_))) w hm)) ?_
                refine LD.val rfl ⟨91, _, rfl, rfl, rfl⟩ (ov_uneq rfl rfl) ?_
                refine LD.val rfl rfl (ov_pickF rfl rfl) ?_
                refine LD.val rfl rfl (ov_move rfl) ?_
                first | refine LD.splitD (t := 102) rfl (fun h10 => ?_) (fun h10 => ?_) | refine LD.splitB (t := 102) rfl (fun h10 => ?_) (fun h10 => ?_)
                ·
                  exact absurd rfl h10
                ·
                  refine LD.val rfl ⟨102, _, rfl, rfl, rfl⟩ (ov_move rfl) ?_
                  refine LD.val rfl ⟨102, _, rfl, rfl, rfl⟩ (ov_field Tryd.underlying41 rfl Tryd.sizeOf3 rfl (k := 1) rfl rfl) ?_
                  first | refine LD.rd rfl ⟨102, _, rfl, rfl, rfl⟩ (om_ld Tryd.isAgg3 rfl rfl) ?_
                  refine LD.val rfl ⟨102, _, rfl, rfl, rfl⟩ (ov_move rfl) ?_
                  refine LD.val rfl ⟨102, _, rfl, rfl, rfl⟩ (ov_field Tryd.underlying41 rfl Tryd.sizeOf3 rfl (k := 1) rfl rfl) ?_
                  first | refine LD.rd rfl ⟨102, _, rfl, rfl, rfl⟩ (om_ld Tryd.isAgg3 rfl rfl) ?_
                  refine LD.callE rfl ⟨102, _, rfl, rfl, rfl⟩ (oc_call (enters_fn Tryd.func30 (by kernel_rfl) rfl) rfl) (fun w hm hc hg => gbehind_spec bg G2 _ w hlen2 (hm.pick _)) ?_
                  refine LD.callE rfl ⟨102, _, rfl, rfl, rfl⟩ (oc_call (enters_fn Tryd.func50 (by kernel_rfl) rfl) rfl) (fun w hm hc hg => rbehind_spec br _ w hlen2 hng hsl2 (SubM.mem (by (repeat' (first | exact SubM.nil _ | refine SubM.cons rfl ?_ | refine SubM.app ?_))) w hm)) ?_
                  refine LD.val rfl ⟨102, _, rfl, rfl, rfl⟩ (ov_uneq rfl rfl) ?_
                  refine LD.val rfl rfl (ov_pickF rfl rfl) ?_
                  refine LD.nil ?_
                  refine QM.sub (e' := [(3, _), (4, _), (6, _), (19, _), (20, _), (21, _), (112, _)]) ⟨rfl, rfl, rfl, rfl, rfl, rfl, rfl, trivial⟩ ?_
                  refine QM.then ?_
                  first | refine wpM.condD rfl (fun h11 => ?_) (fun h11 => ?_) | refine wpM.condB rfl (fun h11 => ?_) (fun h11 => ?_)
                  ·
                    exact absurd rfl h11
                  ·
                    refine wpM.skip ?_
                    refine QM.then ?_
                    refine wpM.seq ?_
                    refine wpM.draw [(0, 0), (1, 0), (2, 1), (4, 0), (5, 0), (6, 1), (3, 2), (7, 2), (8, 0), (9, 0)] (by kernel_rfl) (by kernel_rfl) ?_
                    refine LD.val rfl rfl (ov_move rfl) ?_
                    refine LD.val rfl rfl (ov_field Tryd.underlying41 rfl Tryd.sizeOf3 rfl (k := 1) rfl rfl) ?_
                    first | refine LD.rd rfl rfl (om_ld Tryd.isAgg3 rfl rfl) ?_
                    refine LD.val rfl rfl (ov_move rfl) ?_
                    refine LD.val rfl rfl (ov_field Tryd.underlying41 rfl Tryd.sizeOf3 rfl (k := 1) rfl rfl) ?_
                    first | refine LD.rd rfl rfl (om_ld Tryd.isAgg3 rfl rfl) ?_
                    refine LD.cS rfl rfl (oc_call (enters_fn Tryd.func32 (by kernel_rfl) rfl) rfl) (fun w hm hc hg => chain_spec bg G2 _ w hlen2 hA2 (hT.ext hc) (hm.pick _)) (fun ad116 n116 cap116 m116 hn116 hs116 => ?_)
                    refine LD.cS rfl rfl (oc_call (enters_fn Tryd.func51 (by kernel_rfl) rfl) rfl) (fun w hm hc hg => rchain_spec br _ w hlen2 hng hsl2 (SubM.mem (by (repeat' (first | exact SubM.nil _ | refine SubM.cons rfl ?_ | refine SubM.app ?_))) w hm)) (fun ad120 n120 cap120 m120 hn120 hs120 => ?_)
                    refine LD.val rfl rfl (ov_assign rfl) ?_
                    refine LD.val rfl rfl (ov_assign rfl) ?_
                    refine LD.nil ?_
                    refine QM.sub (e' := [(3, _), (4, _), (9, _), (10, _), (19, _), (20, _), (21, _)]) ⟨rfl, rfl, rfl, rfl, rfl, rfl, rfl, trivial⟩ ?_
                    refine QM.then ?_
                    refine wpM.seq ?_
                    refine wpM.seq ?_
                    refine wpM.region ?_
                    refine LM.val (ov_move rfl) ?_
                    refine LM.val (ov_len Tryd.underlying22 rfl) ?_
                    refine LM.val (ov_move rfl) ?_
                    refine LM.val (ov_len Tryd.underlying22 rfl) ?_
                    refine LM.val (ov_neq rfl rfl) ?_
                    refine LM.nil ?_
                    refine QM.sub (e' := [(3, _), (4, _), (9, _), (10, _), (19, _), (20, _), (21, _), (125, _)]) ⟨rfl, rfl, rfl, rfl, rfl, rfl, rfl, rfl, trivial⟩ ?_
                    refine QM.then ?_
                    first | refine wpM.condD rfl (fun h12 => ?_) (fun h12 => ?_) | refine wpM.condB rfl (fun h12 => ?_) (fun h12 => ?_)
                    ·
                      exfalso; omega
                    ·
                      refine wpM.skip ?_
                      refine QM.then ?_
                      refine wpM.seq ?_
                      refine wpM.region ?_
                      refine LM.val (ov_move rfl) ?_
                      refine LM.val (ov_len Tryd.underlying22 rfl) ?_
                      refine LM.val (ov_move rfl) ?_
                      refine LM.nil ?_
                      refine QM.sub (e' := [(3, _), (4, _), (9, _), (10, _), (19, _), (20, _), (21, _), (127, _), (128, _)]) ⟨rfl, rfl, rfl, rfl, rfl, rfl, rfl, rfl, rfl, trivial⟩ ?_
                      refine QM.then ?_
                      refine wpM.block ?_
                      refine wpM.loopK0 (α := Nat) (fun i2 => [(128, .int .i64 (i2 : Nat))]) [(3, _), (4, _), (9, _), (10, _), (19, _), (20, _), (21, _), (127, _)] (fun i2 => m116 ++ (m120 ++ (gB bg G2 :: rB br adg ng capg :: (m2 ++ [])))) (fun i2 => i2 ≤ n116) (fun i2 => n116 - i2) (0) ⟨(by first | rfl | exact lk rfl (by congr 1; omega) | exact lk rfl (by simp)), rfl, rfl, rfl, rfl, rfl, rfl, rfl, rfl, trivial⟩ (by (repeat' (first | exact SubM.nil _ | refine SubM.cons rfl ?_ | refine SubM.app ?_))) (Nat.zero_le _) ?_
                      rintro i2 hi2
                      change wpM _ _ _ _ _ _ _ (m116 ++ (m120 ++ (gB bg G2 :: rB br adg ng capg :: (m2 ++ [])))) _ _ _
                      have hb116 := hs116.len.2.1; unfold maxLen at hb116
                      refine wpM.seq ?_
                      refine wpM.region ?_
                      refine LM.val (ov_lss rfl rfl) ?_
                      refine LM.nil ?_
                      refine QM.sub (e' := [(3, _), (4, _), (9, _), (10, _), (19, _), (20, _), (21, _), (127, _), (128, _), (129, _)]) ⟨rfl, rfl, rfl, rfl, rfl, rfl, rfl, rfl, rfl, rfl, trivial⟩ ?_
                      refine QM.then ?_
                      refine wpM.seq ?_
                      first | refine wpM.condD rfl (fun h13 => ?_) (fun h13 => ?_) | refine wpM.condB rfl (fun h13 => ?_) (fun h13 => ?_)
                      ·
                        refine wpM.skip ?_
                        refine QM.then ?_
                        refine wpM.seq ?_
                        refine wpM.block ?_
                        refine wpM.seq ?_
                        refine wpM.region ?_
                        refine LM.val (ov_move rfl) ?_
                        refine LM.val (ov_assign rfl) ?_
                        refine LM.nil ?_
                        refine QM.sub (e' := [(3, _), (4, _), (9, _), (10, _), (11, _), (19, _), (20, _), (21, _), (127, _), (128, _)]) ⟨rfl, rfl, rfl, rfl, rfl, rfl, rfl, rfl, rfl, rfl, trivial⟩ ?_
                        refine QM.then ?_
                        refine wpM.seq ?_
                        refine wpM.draw [(0, 0), (1, 0), (2, 0), (3, 1), (4, 0), (5, 0), (6, 0), (7, 1), (8, 0)] (by kernel_rfl) (by kernel_rfl) ?_
                        refine LD.val rfl rfl (ov_move rfl) ?_
                        refine LD.val rfl rfl (ov_move rfl) ?_
                        first | refine LD.val rfl rfl (ov_idxSN (by first | exact Sr.spt (by assumption) | exact Sl.spt (by assumption)) Tryd.underlying22 Tryd.sizeOf3 rfl rfl (by omega)) ?_ | refine LD.val rfl rfl (ov_idxS (by first | exact Sr.spt (by assumption) | exact Sl.spt (by assumption)) Tryd.underlying22 Tryd.sizeOf3 rfl rfl (by omega)) ?_ | refine LD.val rfl rfl (ov_idx1 Tryd.underlying22 Tryd.sizeOf3 rfl rfl (by omega)) ?_
                        first | refine LD.rd rfl rfl (om_sl1 (by assumption) (by intro _; rfl) Tryd.isAgg3 rfl rfl (by exact getq 0 (by first | omega | (simp only [List.length_set, List.length_append, List.length_cons, List.length_nil]; omega))) (by rfl)) ?_ | refine LD.rdC rfl rfl (om_sr1 (by assumption) Tryd.isAgg3 rfl rfl (by exact getq 0 (by first | omega | (simp only [List.length_set, List.length_append, List.length_cons, List.length_nil]; omega))) (by rfl) id) ?_ | refine LD.rd rfl rfl (om_ld Tryd.isAgg3 rfl rfl) ?_
                        refine LD.val rfl rfl (ov_move rfl) ?_
                        refine LD.val rfl rfl (ov_move rfl) ?_
                        first | refine LD.val rfl rfl (ov_idxSN (by first | exact Sr.spt (by assumption) | exact Sl.spt (by assumption)) Tryd.underlying22 Tryd.sizeOf3 rfl rfl (by omega)) ?_ | refine LD.val rfl rfl (ov_idxS (by first | exact Sr.spt (by assumption) | exact Sl.spt (by assumption)) Tryd.underlying22 Tryd.sizeOf3 rfl rfl (by omega)) ?_ | refine LD.val rfl rfl (ov_idx1 Tryd.underlying22 Tryd.sizeOf3 rfl rfl (by omega)) ?_
                        first | refine LD.rd rfl rfl (om_sl1 (by assumption) (by intro _; rfl) Tryd.isAgg3 rfl rfl (by exact getq 0 (by first | omega | (simp only [List.length_set, List.length_append, List.length_cons, List.length_nil]; omega))) (by rfl)) ?_ | refine LD.rdC rfl rfl (om_sr1 (by assumption) Tryd.isAgg3 rfl rfl (by exact getq 0 (by first | omega | (simp only [List.length_set, List.length_append, List.length_cons, List.length_nil]; omega))) (by rfl) id) ?_ | refine LD.rd rfl rfl (om_ld Tryd.isAgg3 rfl rfl) ?_
                        refine LD.val rfl rfl (ov_neq rfl rfl) ?_
                        refine LD.nil ?_
                        refine QM.sub (e' := [(3, _), (4, _), (9, _), (10, _), (19, _), (20, _), (21, _), (127, _), (128, _), (139, _)]) ⟨rfl, rfl, rfl, rfl, rfl, rfl, rfl, rfl, rfl, rfl, trivial⟩ ?_
                        refine QM.then ?_
                        first | refine wpM.condD rfl (fun h14 => ?_) (fun h14 => ?_) | refine wpM.condB rfl (fun h14 => ?_) (fun h14 => ?_)
                        ·
                          exact absurd rfl h14
                        ·
                          refine wpM.skip ?_
                          refine QM.block_normal ?_
                          refine QM.then ?_
                          refine wpM.region ?_
                          refine LM.val (ov_add64 rfl rfl (by omega)) ?_
                          refine LM.val (ov_move rfl) ?_
                          refine LM.nil ?_
                          refine QM.sub (e' := [(3, _), (4, _), (9, _), (10, _), (19, _), (20, _), (21, _), (127, _), (128, _)]) ⟨rfl, rfl, rfl, rfl, rfl, rfl, rfl, rfl, rfl, trivial⟩ ?_
                          -- again1: h1- h2- h3+ h4- h8- h9- h10- h11- h12- h13+ h14-
                          refine QM.againK (i2 + 1) ⟨(by first | rfl | exact lk rfl (by congr 1; omega) | exact lk rfl (by simp)), rfl, rfl, rfl, rfl, rfl, rfl, rfl, rfl, trivial⟩ (by (repeat' (first | exact SubM.nil _ | refine SubM.cons rfl ?_ | refine SubM.app ?_))) (fun _ h => h) ?_ ?_
                          · omega
                          · first | omega | (dsimp only; omega)
                      ·
                        refine wpM.exit ?_
                        refine QM.then_exit ?_
                        refine QM.then_exit ?_
                        refine QM.block_hit ?_
                        refine QM.block_normal ?_
                        refine QM.then ?_
                        refine wpM.region ?_
                        refine LM.val (ov_add64 rfl rfl (by omega)) ?_
                        refine LM.val (ov_move rfl) ?_
                        refine LM.nil ?_
                        refine QM.sub (e' := [(3, _), (4, _), (19, _), (20, _), (21, _)]) ⟨rfl, rfl, rfl, rfl, rfl, trivial⟩ ?_
                        -- again1: h1- h2- h3+ h4- h8- h9- h10- h11- h12- h13-
                        refine QM.againK (i + 1, G2, m2) ⟨(by first | rfl | exact lk rfl (by congr 1; omega) | exact lk rfl (by simp)), rfl, rfl, rfl, rfl, trivial⟩ (by (repeat' (first | exact SubM.nil _ | refine SubM.cons rfl ?_ | refine SubM.app ?_))) (fun _ h => h) ?_ ?_
                        · exact ⟨by omega, hlen2, hA2, hsl2⟩
                        · first | omega | (dsimp only; omega)
      ·
        refine wpM.exit ?_
        refine QM.then_exit ?_
        refine QM.then_exit ?_
        refine QM.block_hit ?_
        refine QM.then ?_
        refine wpM.seq ?_
        refine wpM.region ?_
        refine LM.val (ov_assign rfl) ?_
        refine LM.nil ?_
        refine QM.sub (e' := [(2, _)]) ⟨rfl, trivial⟩ ?_
        refine QM.then ?_
        refine wpM.ret ?_
        refine QM.leave (.inl rfl) [.tmp 2] Tryd.results10 rfl ?_
        intro w' hm' hc' hg'
        -- leaf 3: h1- h2- h3-
        first | exact ⟨rfl, hc'⟩ | (exfalso; first | omega | (simp at *; done) | (simp_all; done))

end Go.Eng

