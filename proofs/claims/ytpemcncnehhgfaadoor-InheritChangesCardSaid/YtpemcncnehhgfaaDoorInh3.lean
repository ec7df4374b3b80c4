/- The walk of the law that tells weights. No condition. -/
import Derived.Test.YtpemcncnehhgfaaDoorInh2
import Derived.Test.YtpemcncnehhgfaaDoorInhOpen
set_option linter.unusedVariables false
set_option linter.unusedSimpArgs false
namespace Go.Eng
open Go Go.Proofs Go.RowKit

def G23a : Gr := zeroG.set 1 1#64
def G23 : Gr := G23a.set 2 2#64
theorem w23a : wtE zeroG 1 1#64 = 0 := by decide +kernel
theorem w23A : wtG zeroG 1 1#64 = G23a := by unfold wtG; rw [if_pos w23a]; rfl
theorem w23b : wtE G23a 2 2#64 = 0 := by decide +kernel
theorem w23B : wtG G23a 2 2#64 = G23 := by unfold wtG; rw [if_pos w23b]; rfl
theorem eff23 : effW [1, 2, 4] G23 = [7, 6, 4] := by decide +kernel
theorem of23 : ofI [1, 2, 4] G23 0 = 7 := by decide +kernel
theorem effW_len (own : List Int) (G : Gr) : (effW own G).length = min own.length 64 := effN_len _ _ _
theorem effW_get (own : List Int) (G : Gr) {i : Nat} (h : i < min own.length 64) : (effW own G).getD i 0 = ofW own G i := by
  unfold effW effN; rw [List.getD_eq_getElem?_getD, List.getElem?_map, List.getElem?_range h]; rfl
theorem ofI_yes {own : List Int} {G : Gr} {who : Int} (h0 : 0 ≤ who) (h : who.toNat < min own.length 64) : ofI own G who = (effW own G).getD who.toNat 0 := by
  rw [effW_get _ _ h]; unfold ofI; rw [if_pos ⟨h0, h⟩]
theorem ofI_no {own : List Int} {G : Gr} {who : Int} (h : ¬ (0 ≤ who ∧ who.toNat < min own.length 64)) : ofI own G who = 0 := by unfold ofI; rw [if_neg h]
theorem effW_le (own : List Int) (G : Gr) : (effW own G).length ≤ 1000000000000 := by rw [effW_len]; omega
set_option maxRecDepth 100000 in
theorem awake23 (w : World) (hT : Tab w) : Ret Tryd.prog 33 #[] w (fun v w' => v = .bool true ∧ Ext w w') := by
  have hpos := hT.pos
  refine Ret.enterM (l := []) Tryd.func33 rfl Tryd.ntmps33 rfl ([]) (no) (Mem.nil w) ?_
  refine wpM.seq ?_
  refine wpM.region ?_
  refine LM.val (ov_assign rfl) ?_
  refine LM.nil ?_
  refine QM.sub (e' := []) trivial ?_
  refine QM.then ?_
  refine wpM.seq ?_
  refine wpM.region ?_
  refine LM.callT (oc_call (enters_fn Tryd.func27 (by kernel_rfl) rfl) rfl) NewGT.mono (fun w hm hc hg => gnew_spec w) ?_
  rintro u3 m3 ⟨bg, rfl, rfl, hbg⟩ -
  refine LM.val (ov_assign rfl) ?_
  refine LM.nil ?_
  refine QM.sub (e' := [(1, _)]) ⟨rfl, trivial⟩ ?_
  refine QM.then ?_
  refine wpM.seq ?_
  refine wpM.region ?_
  refine LM.val (ov_move rfl) ?_
  refine LM.cW (oc_call (enters_fn Tryd.func28 (by kernel_rfl) rfl) rfl) (fun w hm hc hg => wait_at w23a w23A bg zeroG_len w (hT.ext hc) (by omega) (hm.pick _)) rfl (fun hlt => absurd hlt (by omega)) ?_
  refine LM.nil ?_
  refine QM.sub (e' := [(1, _)]) ⟨rfl, trivial⟩ ?_
  refine QM.then ?_
  refine wpM.seq ?_
  refine wpM.region ?_
  refine LM.val (ov_move rfl) ?_
  refine LM.cW (oc_call (enters_fn Tryd.func28 (by kernel_rfl) rfl) rfl) (fun w hm hc hg => wait_at w23b w23B bg (by decide) w (hT.ext hc) (by omega) (hm.pick _)) rfl (fun hlt => absurd hlt (by omega)) ?_
  refine LM.nil ?_
  refine QM.sub (e' := [(1, _)]) ⟨rfl, trivial⟩ ?_
  refine QM.then ?_
  refine wpM.seq ?_
  refine wpM.region ?_
  refine LM.row (vs := [_, _, _]) Tryd.underlying22 Tryd.sizeOf3 Tryd.zeroValue3 rfl rfl rfl rfl rfl rfl (fun b8 hb8 => ?_)
  refine LM.val (ov_move rfl) ?_
  refine LM.cS (oc_call (enters_fn Tryd.func35 (by kernel_rfl) rfl) rfl) (fun w hm hc hg => eff23 ▸ eff_spec (own := [1, 2, 4]) bg G23 w (by decide) (hT.ext hc) rfl (Sr.row (hm.at b8) rfl rfl (by decide) (fun _ => rfl)) (by decide) (hm.pick _)) (fun ad10 n10 cap10 m10 hn10 hs10 => ?_)
  refine LM.val (ov_assign rfl) ?_
  refine LM.nil ?_
  refine QM.sub (e' := [(1, _), (2, _)]) ⟨rfl, rfl, trivial⟩ ?_
  refine QM.then ?_
  refine wpM.seq ?_
  refine wpM.region ?_
  refine LM.val (ov_move rfl) ?_
  refine LM.val (ov_len Tryd.underlying22 rfl) ?_
  refine LM.val (ov_eql rfl rfl) ?_
  refine LM.val (ov_move rfl) ?_
  first | refine LM.splitD (t := 14) rfl (fun h1 => ?_) (fun h1 => ?_) | refine LM.splitB (t := 14) rfl (fun h1 => ?_) (fun h1 => ?_)
  ·
    refine LM.strip (t := 14) rfl rfl rfl ?_
    refine LM.val (ov_move rfl) ?_
    refine LM.strip (t := 14) rfl rfl rfl ?_
    first | refine LM.val (ov_idxSN (i := 0) (by first | exact Sr.spt (by assumption) | exact Sl.spt (by assumption)) Tryd.underlying22 Tryd.sizeOf3 rfl rfl (by omega)) ?_ | refine LM.val (ov_idxSN (by first | exact Sr.spt (by assumption) | exact Sl.spt (by assumption)) Tryd.underlying22 Tryd.sizeOf3 rfl rfl (by omega)) ?_ | refine LM.val (ov_idxS (by first | exact Sr.spt (by assumption) | exact Sl.spt (by assumption)) Tryd.underlying22 Tryd.sizeOf3 rfl rfl (by omega)) ?_ | refine LM.val (ov_idx1 Tryd.underlying22 Tryd.sizeOf3 rfl rfl (by omega)) ?_
    refine LM.strip (t := 14) rfl rfl rfl ?_
    first | refine LM.rd (om_sl1 (by assumption) (by intro _; rfl) Tryd.isAgg3 rfl rfl (by exact getq 0 (by first | omega | (simp only [List.length_set, List.length_append, List.length_cons, List.length_nil]; omega))) (by rfl)) ?_ | refine LM.rdC (om_sr1 (by assumption) Tryd.isAgg3 rfl rfl (by exact getq 0 (by first | omega | (simp only [List.length_set, List.length_append, List.length_cons, List.length_nil]; omega))) (by rfl) id) ?_ | refine LM.rd (om_ld Tryd.isAgg3 rfl rfl) ?_
    refine LM.strip (t := 14) rfl rfl rfl ?_
    refine LM.val (ov_eql rfl rfl) ?_
    refine LM.val (ov_pickT rfl rfl) ?_
    refine LM.val (ov_move rfl) ?_
    first | refine LM.splitD (t := 20) rfl (fun h2 => ?_) (fun h2 => ?_) | refine LM.splitB (t := 20) rfl (fun h2 => ?_) (fun h2 => ?_)
    ·
      refine LM.strip (t := 20) rfl rfl rfl ?_
      refine LM.val (ov_move rfl) ?_
      refine LM.strip (t := 20) rfl rfl rfl ?_
      first | refine LM.val (ov_idxSN (i := 1) (by first | exact Sr.spt (by assumption) | exact Sl.spt (by assumption)) Tryd.underlying22 Tryd.sizeOf3 rfl rfl (by omega)) ?_ | refine LM.val (ov_idxSN (by first | exact Sr.spt (by assumption) | exact Sl.spt (by assumption)) Tryd.underlying22 Tryd.sizeOf3 rfl rfl (by omega)) ?_ | refine LM.val (ov_idxS (by first | exact Sr.spt (by assumption) | exact Sl.spt (by assumption)) Tryd.underlying22 Tryd.sizeOf3 rfl rfl (by omega)) ?_ | refine LM.val (ov_idx1 Tryd.underlying22 Tryd.sizeOf3 rfl rfl (by omega)) ?_
      refine LM.strip (t := 20) rfl rfl rfl ?_
      first | refine LM.rd (om_sl1 (by assumption) (by intro _; rfl) Tryd.isAgg3 rfl rfl (by exact getq 0 (by first | omega | (simp only [List.length_set, List.length_append, List.length_cons, List.length_nil]; omega))) (by rfl)) ?_ | refine LM.rdC (om_sr1 (by assumption) Tryd.isAgg3 rfl rfl (by exact getq 0 (by first | omega | (simp only [List.length_set, List.length_append, List.length_cons, List.length_nil]; omega))) (by rfl) id) ?_ | refine LM.rd (om_ld Tryd.isAgg3 rfl rfl) ?_
      refine LM.strip (t := 20) rfl rfl rfl ?_
      refine LM.val (ov_eql rfl rfl) ?_
      refine LM.val (ov_pickT rfl rfl) ?_
      refine LM.val (ov_move rfl) ?_
      first | refine LM.splitD (t := 26) rfl (fun h3 => ?_) (fun h3 => ?_) | refine LM.splitB (t := 26) rfl (fun h3 => ?_) (fun h3 => ?_)
      ·
        refine LM.strip (t := 26) rfl rfl rfl ?_
        refine LM.val (ov_move rfl) ?_
        refine LM.strip (t := 26) rfl rfl rfl ?_
        first | refine LM.val (ov_idxSN (i := 2) (by first | exact Sr.spt (by assumption) | exact Sl.spt (by assumption)) Tryd.underlying22 Tryd.sizeOf3 rfl rfl (by omega)) ?_ | refine LM.val (ov_idxSN (by first | exact Sr.spt (by assumption) | exact Sl.spt (by assumption)) Tryd.underlying22 Tryd.sizeOf3 rfl rfl (by omega)) ?_ | refine LM.val (ov_idxS (by first | exact Sr.spt (by assumption) | exact Sl.spt (by assumption)) Tryd.underlying22 Tryd.sizeOf3 rfl rfl (by omega)) ?_ | refine LM.val (ov_idx1 Tryd.underlying22 Tryd.sizeOf3 rfl rfl (by omega)) ?_
        refine LM.strip (t := 26) rfl rfl rfl ?_
        first | refine LM.rd (om_sl1 (by assumption) (by intro _; rfl) Tryd.isAgg3 rfl rfl (by exact getq 0 (by first | omega | (simp only [List.length_set, List.length_append, List.length_cons, List.length_nil]; omega))) (by rfl)) ?_ | refine LM.rdC (om_sr1 (by assumption) Tryd.isAgg3 rfl rfl (by exact getq 0 (by first | omega | (simp only [List.length_set, List.length_append, List.length_cons, List.length_nil]; omega))) (by rfl) id) ?_ | refine LM.rd (om_ld Tryd.isAgg3 rfl rfl) ?_
        refine LM.strip (t := 26) rfl rfl rfl ?_
        refine LM.val (ov_eql rfl rfl) ?_
        refine LM.val (ov_pickT rfl rfl) ?_
        refine LM.val (ov_move rfl) ?_
        first | refine LM.splitD (t := 32) rfl (fun h4 => ?_) (fun h4 => ?_) | refine LM.splitB (t := 32) rfl (fun h4 => ?_) (fun h4 => ?_)
        ·
          refine LM.strip (t := 32) rfl rfl rfl ?_
          refine LM.row (vs := [_, _, _]) Tryd.underlying22 Tryd.sizeOf3 Tryd.zeroValue3 rfl rfl rfl rfl rfl rfl (fun b33 hb33 => ?_)
          refine LM.strip (t := 32) rfl rfl rfl ?_
          refine LM.val (ov_move rfl) ?_
          refine LM.strip (t := 32) rfl rfl rfl ?_
          refine LM.callE (oc_call (enters_fn Tryd.func41 (by kernel_rfl) rfl) rfl) (fun w hm hc hg => of23 ▸ ofw_spec (own := [1, 2, 4]) bg G23 0 w (by decide) (hT.ext hc) rfl (Sr.row (hm.at b33) rfl rfl (by decide) (fun _ => rfl)) (hm.pick _)) ?_
          refine LM.strip (t := 32) rfl rfl rfl ?_
          refine LM.val (ov_eql rfl rfl) ?_
          refine LM.val (ov_pickT rfl rfl) ?_
          refine LM.val (ov_assign rfl) ?_
          refine LM.nil ?_
          refine QM.sub (e' := [(0, _)]) ⟨rfl, trivial⟩ ?_
          refine QM.then ?_
          refine wpM.ret ?_
          refine QM.leave (.inl rfl) [.tmp 0] Tryd.results33 rfl ?_
          intro w' hm' hc' hg'
          -- leaf 1: h1+ h2+ h3+ h4+
          first | exact ⟨rfl, hc'⟩ | (exfalso; first | contradiction | (have hn3 : n10 = 3 := hn10; omega) | (simp at *; done))
        ·
          refine LM.drop (t := 32) rfl rfl rfl ?_
          refine LM.drop (t := 32) rfl rfl rfl ?_
          refine LM.drop (t := 32) rfl rfl rfl ?_
          refine LM.drop (t := 32) rfl rfl rfl ?_
          refine LM.val (ov_pickF rfl rfl) ?_
          refine LM.val (ov_assign rfl) ?_
          refine LM.nil ?_
          refine QM.sub (e' := [(0, _)]) ⟨rfl, trivial⟩ ?_
          refine QM.then ?_
          refine wpM.ret ?_
          refine QM.leave (.inl rfl) [.tmp 0] Tryd.results33 rfl ?_
          intro w' hm' hc' hg'
          -- leaf 2: h1+ h2+ h3+ h4-
          first | exact ⟨rfl, hc'⟩ | (exfalso; first | contradiction | (have hn3 : n10 = 3 := hn10; omega) | (simp at *; done))
      ·
        refine LM.drop (t := 26) rfl rfl rfl ?_
        refine LM.drop (t := 26) rfl rfl rfl ?_
        refine LM.drop (t := 26) rfl rfl rfl ?_
        refine LM.drop (t := 26) rfl rfl rfl ?_
        refine LM.val (ov_pickF rfl rfl) ?_
        refine LM.val (ov_move rfl) ?_
        refine LM.drop (t := 32) rfl rfl rfl ?_
        refine LM.drop (t := 32) rfl rfl rfl ?_
        refine LM.drop (t := 32) rfl rfl rfl ?_
        refine LM.drop (t := 32) rfl rfl rfl ?_
        refine LM.val (ov_pickF rfl rfl) ?_
        refine LM.val (ov_assign rfl) ?_
        refine LM.nil ?_
        refine QM.sub (e' := [(0, _)]) ⟨rfl, trivial⟩ ?_
        refine QM.then ?_
        refine wpM.ret ?_
        refine QM.leave (.inl rfl) [.tmp 0] Tryd.results33 rfl ?_
        intro w' hm' hc' hg'
        -- leaf 3: h1+ h2+ h3-
        first | exact ⟨rfl, hc'⟩ | (exfalso; first | contradiction | (have hn3 : n10 = 3 := hn10; omega) | (simp at *; done))
    ·
      refine LM.drop (t := 20) rfl rfl rfl ?_
      refine LM.drop (t := 20) rfl rfl rfl ?_
      refine LM.drop (t := 20) rfl rfl rfl ?_
      refine LM.drop (t := 20) rfl rfl rfl ?_
      refine LM.val (ov_pickF rfl rfl) ?_
      refine LM.val (ov_move rfl) ?_
      refine LM.drop (t := 26) rfl rfl rfl ?_
      refine LM.drop (t := 26) rfl rfl rfl ?_
      refine LM.drop (t := 26) rfl rfl rfl ?_
      refine LM.drop (t := 26) rfl rfl rfl ?_
      refine LM.val (ov_pickF rfl rfl) ?_
      refine LM.val (ov_move rfl) ?_
      refine LM.drop (t := 32) rfl rfl rfl ?_
      refine LM.drop (t := 32) rfl rfl rfl ?_
      refine LM.drop (t := 32) rfl rfl rfl ?_
      refine LM.drop (t := 32) rfl rfl rfl ?_
      refine LM.val (ov_pickF rfl rfl) ?_
      refine LM.val (ov_assign rfl) ?_
      refine LM.nil ?_
      refine QM.sub (e' := [(0, _)]) ⟨rfl, trivial⟩ ?_
      refine QM.then ?_
      refine wpM.ret ?_
      refine QM.leave (.inl rfl) [.tmp 0] Tryd.results33 rfl ?_
      intro w' hm' hc' hg'
      -- leaf 4: h1+ h2-
      first | exact ⟨rfl, hc'⟩ | (exfalso; first | contradiction | (have hn3 : n10 = 3 := hn10; omega) | (simp at *; done))
  ·
    refine LM.drop (t := 14) rfl rfl rfl ?_
    refine LM.drop (t := 14) rfl rfl rfl ?_
    refine LM.drop (t := 14) rfl rfl rfl ?_
    refine LM.drop (t := 14) rfl rfl rfl ?_
    refine LM.val (ov_pickF rfl rfl) ?_
    refine LM.val (ov_move rfl) ?_
    refine LM.drop (t := 20) rfl rfl rfl ?_
    refine LM.drop (t := 20) rfl rfl rfl ?_
    refine LM.drop (t := 20) rfl rfl rfl ?_
    refine LM.drop (t := 20) rfl rfl rfl ?_
    refine LM.val (ov_pickF rfl rfl) ?_
    refine LM.val (ov_move rfl) ?_
    refine LM.drop (t := 26) rfl rfl rfl ?_
    refine LM.drop (t := 26) rfl rfl rfl ?_
    refine LM.drop (t := 26) rfl rfl rfl ?_
    refine LM.drop (t := 26) rfl rfl rfl ?_
    refine LM.val (ov_pickF rfl rfl) ?_
    refine LM.val (ov_move rfl) ?_
    refine LM.drop (t := 32) rfl rfl rfl ?_
    refine LM.drop (t := 32) rfl rfl rfl ?_
    refine LM.drop (t := 32) rfl rfl rfl ?_
    refine LM.drop (t := 32) rfl rfl rfl ?_
    refine LM.val (ov_pickF rfl rfl) ?_
    refine LM.val (ov_assign rfl) ?_
    refine LM.nil ?_
    refine QM.sub (e' := [(0, _)]) ⟨rfl, trivial⟩ ?_
    refine QM.then ?_
    refine wpM.ret ?_
    refine QM.leave (.inl rfl) [.tmp 0] Tryd.results33 rfl ?_
    intro w' hm' hc' hg'
    -- leaf 5: h1-
    first | exact ⟨rfl, hc'⟩ | (exfalso; first | contradiction | (have hn3 : n10 = 3 := hn10; omega) | (simp at *; done))

set_option maxRecDepth 100000 in
theorem inheritTells {own : List Int} {ad : Option Addr} {n cap : Nat} {l : List Dw} {ad2 : Option Addr} {n2 cap2 : Nat} (d : Dw) (w : World) (hT : Tab w) (hn : n = own.length) (hl : Sr fI 1 own (.slice ad n cap) w) (hn2 : n2 = l.length) (hl2 : Sr fDw 2 l (.slice ad2 n2 cap2) w) : Ret Tryd.prog 9 #[.slice ad n cap, .slice ad2 n2 cap2, .agg (fDw d).toArray] w (fun v w' => v = .bool true ∧ Ext w w') := by
  have hpos := hT.pos
  refine Ret.enterM (l := [.slice ad n cap, .slice ad2 n2 cap2, .agg (fDw d).toArray]) Tryd.func9 rfl Tryd.ntmps9 rfl ([]) (no) (Mem.nil w) ?_
  refine wpM.seq ?_
  refine wpM.region ?_
  refine LM.box rfl rfl (fun b5 hb5 => ?_)
  refine LM.val (ov_assign rfl) ?_
  refine LM.nil ?_
  refine QM.sub (e' := [(0, _), (1, _), (5, _)]) ⟨rfl, rfl, rfl, trivial⟩ ?_
  refine QM.then ?_
  refine wpM.seq ?_
  refine wpM.seq ?_
  refine wpM.region ?_
  refine LM.callE (oc_call (enters_fn Tryd.func33 (by kernel_rfl) rfl) rfl) (fun w hm hc hg => awake23 w (hT.ext hc)) ?_
  first | refine LM.val (ov_notD rfl) ?_ | refine LM.val (ov_not rfl) ?_
  refine LM.nil ?_
  refine QM.sub (e' := [(0, _), (1, _), (5, _), (13, _)]) ⟨rfl, rfl, rfl, rfl, trivial⟩ ?_
  refine QM.then ?_
  first | refine wpM.condD rfl (fun h1 => ?_) (fun h1 => ?_) | refine wpM.condB rfl (fun h1 => ?_) (fun h1 => ?_)
  ·
    refine wpM.seq ?_
    refine wpM.region ?_
    refine LM.val (ov_assign rfl) ?_
    refine LM.nil ?_
    refine QM.sub (e' := [(6, _)]) ⟨rfl, trivial⟩ ?_
    refine QM.then ?_
    refine wpM.ret ?_
    refine QM.then_ret ?_
    refine QM.leave (.inl rfl) [.tmp 6] Tryd.results9 rfl ?_
    intro w' hm' hc' hg'
    -- leaf 1: h1+
    first | exact ⟨rfl, hc'⟩ | (exfalso; first | omega | (simp at *; done) | (simp_all; done))
  ·
    refine wpM.skip ?_
    refine QM.then ?_
    refine wpM.seq ?_
    refine wpM.seq ?_
    refine wpM.region ?_
    refine LM.val (ov_move rfl) ?_
    refine LM.val (ov_len Tryd.underlying22 rfl) ?_
    refine LM.val (ov_gtr rfl rfl) ?_
    refine LM.val (ov_move rfl) ?_
    first | refine LM.splitD (t := 17) rfl (fun h2 => ?_) (fun h2 => ?_) | refine LM.splitB (t := 17) rfl (fun h2 => ?_) (fun h2 => ?_)
    ·
      refine LM.drop (t := 17) rfl rfl rfl ?_
      refine LM.drop (t := 17) rfl rfl rfl ?_
      refine LM.drop (t := 17) rfl rfl rfl ?_
      refine LM.val (ov_pickT rfl rfl) ?_
      refine LM.nil ?_
      refine QM.sub (e' := [(0, _), (1, _), (5, _), (21, _)]) ⟨rfl, rfl, rfl, rfl, trivial⟩ ?_
      refine QM.then ?_
      refine wpM.condT rfl ?_
      refine wpM.seq ?_
      refine wpM.region ?_
      refine LM.val (ov_assign rfl) ?_
      refine LM.nil ?_
      refine QM.sub (e' := [(6, _)]) ⟨rfl, trivial⟩ ?_
      refine QM.then ?_
      refine wpM.ret ?_
      refine QM.then_ret ?_
      refine QM.leave (.inl rfl) [.tmp 6] Tryd.results9 rfl ?_
      intro w' hm' hc' hg'
      -- leaf 2: h1- h2+
      first | exact ⟨rfl, hc'⟩ | (exfalso; first | omega | (simp at *; done) | (simp_all; done))
    ·
      refine LM.strip (t := 17) rfl rfl rfl ?_
      refine LM.val (ov_move rfl) ?_
      refine LM.strip (t := 17) rfl rfl rfl ?_
      refine LM.val (ov_len Tryd.underlying48 rfl) ?_
      refine LM.strip (t := 17) rfl rfl rfl ?_
      refine LM.val (ov_gtr rfl rfl) ?_
      refine LM.val (ov_pickF rfl rfl) ?_
      refine LM.nil ?_
      refine QM.sub (e' := [(0, _), (1, _), (5, _), (21, _)]) ⟨rfl, rfl, rfl, rfl, trivial⟩ ?_
      refine QM.then ?_
      first | refine wpM.condD rfl (fun h3 => ?_) (fun h3 => ?_) | refine wpM.condB rfl (fun h3 => ?_) (fun h3 => ?_)
      ·
        refine wpM.seq ?_
        refine wpM.region ?_
        refine LM.val (ov_assign rfl) ?_
        refine LM.nil ?_
        refine QM.sub (e' := [(6, _)]) ⟨rfl, trivial⟩ ?_
        refine QM.then ?_
        refine wpM.ret ?_
        refine QM.then_ret ?_
        refine QM.leave (.inl rfl) [.tmp 6] Tryd.results9 rfl ?_
        intro w' hm' hc' hg'
        -- leaf 3: h1- h2- h3+
        first | exact ⟨rfl, hc'⟩ | (exfalso; first | omega | (simp at *; done) | (simp_all; done))
      ·
        refine wpM.skip ?_
        refine QM.then ?_
        refine wpM.seq ?_
        refine wpM.region ?_
        refine LM.val (ov_move rfl) ?_
        refine LM.callT (oc_call (enters_fn Tryd.func34 (by kernel_rfl) rfl) rfl) BothT.mono (fun w hm hc hg => both_spec w (hT.ext hc) hn2 (hl2.ext hc) (by omega)) ?_
        rintro u24 m24 ⟨G, bg, br, adg, ng, capg, mg, rfl, rfl, hbg, hbr, hng, hsg, hlen, hA⟩ -
        refine LM.val (ov_move rfl) ?_
        refine LM.val (ov_extract rfl rfl) ?_
        refine LM.val (ov_extract rfl rfl) ?_
        refine LM.val (ov_assign rfl) ?_
        refine LM.val (ov_assign rfl) ?_
        refine LM.nil ?_
        refine QM.sub (e' := [(0, _), (5, _), (7, _), (8, _)]) ⟨rfl, rfl, rfl, rfl, trivial⟩ ?_
        refine QM.then ?_
        refine wpM.seq ?_
        refine wpM.region ?_
        refine LM.val (ov_move rfl) ?_
        refine LM.val (ov_move rfl) ?_
        refine LM.cS (oc_call (enters_fn Tryd.func40 (by kernel_rfl) rfl) rfl) (fun w hm hc hg => reff_spec br w hlen hA hng hsg hn (hl.ext hc) (by omega) (SubM.mem (by (repeat' (first | exact SubM.nil _ | refine SubM.cons rfl ?_ | refine SubM.app ?_))) w hm)) (fun ad29 n29 cap29 m29 hn29 hs29 => ?_)
        have hel := effW_len own G
        refine LM.val (ov_assign rfl) ?_
        refine LM.nil ?_
        refine QM.sub (e' := [(0, _), (5, _), (7, _), (8, _), (9, _)]) ⟨rfl, rfl, rfl, rfl, rfl, trivial⟩ ?_
        refine QM.then ?_
        refine wpM.seq ?_
        refine wpM.region ?_
        refine LM.val (ov_assign rfl) ?_
        refine LM.nil ?_
        refine QM.sub (e' := [(0, _), (5, _), (7, _), (8, _), (9, _), (10, _)]) ⟨rfl, rfl, rfl, rfl, rfl, rfl, trivial⟩ ?_
        refine QM.then ?_
        refine wpM.seq ?_
        refine wpM.seq ?_
        refine wpM.joinK (α := Bool) (fun q => [(39, .bool q)]) [(0, _), (5, _), (7, _), (8, _), (9, _), (10, _)] (fun q => m29 ++ (gB bg G :: rB br adg ng capg :: (b5, .cells (fDw d).toArray 62 (0, 0)) :: (mg ++ []))) (fun q => q = (decide (d.who ≥ 0) && decide (d.who < (n29 : Int)))) ⟨rfl, rfl, rfl, rfl, rfl, rfl, trivial⟩ ?_ ?_
        ·
          refine wpM.region ?_
          refine LM.val (ov_field Tryd.underlying62 rfl Tryd.sizeOf3 rfl (k := 0) rfl rfl) ?_
          first | refine LM.rd (om_ld Tryd.isAgg3 rfl rfl) ?_
          refine LM.val (ov_geq rfl rfl) ?_
          refine LM.val (ov_move rfl) ?_
          first | refine LM.splitD (t := 33) rfl (fun h4 => ?_) (fun h4 => ?_) | refine LM.splitB (t := 33) rfl (fun h4 => ?_) (fun h4 => ?_)
          ·
            refine LM.strip (t := 33) rfl rfl rfl ?_
            refine LM.val (ov_field Tryd.underlying62 rfl Tryd.sizeOf3 rfl (k := 0) rfl rfl) ?_
            refine LM.strip (t := 33) rfl rfl rfl ?_
            first | refine LM.rd (om_ld Tryd.isAgg3 rfl rfl) ?_
            refine LM.strip (t := 33) rfl rfl rfl ?_
            refine LM.val (ov_move rfl) ?_
            refine LM.strip (t := 33) rfl rfl rfl ?_
            refine LM.val (ov_len Tryd.underlying22 rfl) ?_
            refine LM.strip (t := 33) rfl rfl rfl ?_
            refine LM.val (ov_lss rfl rfl) ?_
            refine LM.val (ov_pickT rfl rfl) ?_
            refine LM.nil ?_
            refine QM.sub (e' := [(0, _), (5, _), (7, _), (8, _), (9, _), (10, _), (39, _)]) ⟨rfl, rfl, rfl, rfl, rfl, rfl, rfl, trivial⟩ ?_
            -- meet1: h1- h2- h3- h4+
            refine QM.meetK (_) ⟨(by first | rfl | exact lk rfl (by congr 1; omega) | exact lk rfl (by simp)), rfl, rfl, rfl, rfl, rfl, rfl, trivial⟩ (by (repeat' (first | exact SubM.nil _ | refine SubM.cons rfl ?_ | refine SubM.app ?_))) ?_
            · simp only [h1, h2, h3, h4, decide_true, decide_false, Bool.true_and, Bool.false_and, Bool.and_true, Bool.and_false, Bool.not_true, Bool.not_false, Bool.true_or, Bool.false_or, Bool.or_true, Bool.or_false, ne_eq, not_true_eq_false, not_false_eq_true, Bool.and_self]
          ·
            refine LM.drop (t := 33) rfl rfl rfl ?_
            refine LM.drop (t := 33) rfl rfl rfl ?_
            refine LM.drop (t := 33) rfl rfl rfl ?_
            refine LM.drop (t := 33) rfl rfl rfl ?_
            refine LM.drop (t := 33) rfl rfl rfl ?_
            refine LM.val (ov_pickF rfl rfl) ?_
            refine LM.nil ?_
            refine QM.sub (e' := [(0, _), (5, _), (7, _), (8, _), (9, _), (10, _), (39, _)]) ⟨rfl, rfl, rfl, rfl, rfl, rfl, rfl, trivial⟩ ?_
            -- meet2: h1- h2- h3- h4-
            refine QM.meetK (_) ⟨(by first | rfl | exact lk rfl (by congr 1; omega) | exact lk rfl (by simp)), rfl, rfl, rfl, rfl, rfl, rfl, trivial⟩ (by (repeat' (first | exact SubM.nil _ | refine SubM.cons rfl ?_ | refine SubM.app ?_))) ?_
            · simp only [h1, h2, h3, h4, decide_true, decide_false, Bool.true_and, Bool.false_and, Bool.and_true, Bool.and_false, Bool.not_true, Bool.not_false, Bool.true_or, Bool.false_or, Bool.or_true, Bool.or_false, ne_eq, not_true_eq_false, not_false_eq_true, Bool.and_self]
        ·
          rintro q hq
          change QM _ _ _ _ _ (m29 ++ (gB bg G :: rB br adg ng capg :: (b5, .cells (fDw d).toArray 62 (0, 0)) :: (mg ++ []))) _ _ _
          refine QM.then ?_
          refine wpM.joinK (α := Int) (fun one => [(10, .int .i64 one)]) [(0, _), (5, _), (7, _), (8, _), (9, _)] (fun one => m29 ++ (gB bg G :: rB br adg ng capg :: (b5, .cells (fDw d).toArray 62 (0, 0)) :: (mg ++ []))) (fun one => one = ofI own G d.who) ⟨rfl, rfl, rfl, rfl, rfl, trivial⟩ ?_ ?_
          ·
            first | refine wpM.condD rfl (fun h5 => ?_) (fun h5 => ?_) | refine wpM.condB rfl (fun h5 => ?_) (fun h5 => ?_)
            ·
              rw [hq, Bool.and_eq_true, decide_eq_true_eq, decide_eq_true_eq] at h5
              refine wpM.region ?_
              refine LM.val (ov_move rfl) ?_
              refine LM.val (ov_field Tryd.underlying62 rfl Tryd.sizeOf3 rfl (k := 0) rfl rfl) ?_
              first | refine LM.rd (om_ld Tryd.isAgg3 rfl rfl) ?_
              first | refine LM.val (ov_idxSN (by first | exact Sr.spt (by assumption) | exact Sl.spt (by assumption)) Tryd.underlying22 Tryd.sizeOf3 rfl rfl (by omega)) ?_ | refine LM.val (ov_idxS (by first | exact Sr.spt (by assumption) | exact Sl.spt (by assumption)) Tryd.underlying22 Tryd.sizeOf3 rfl rfl (by omega)) ?_ | refine LM.val (ov_idx1 Tryd.underlying22 Tryd.sizeOf3 rfl rfl (by omega)) ?_
              first | refine LM.rd (om_sl1 (by assumption) (by intro _; rfl) Tryd.isAgg3 rfl rfl (by exact getq 0 (by first | omega | (simp only [List.length_set, List.length_append, List.length_cons, List.length_nil]; omega))) (by rfl)) ?_ | refine LM.rdC (om_sr1 (by assumption) Tryd.isAgg3 rfl rfl (by exact getq 0 (by first | omega | (simp only [List.length_set, List.length_append, List.length_cons, List.length_nil]; omega))) (by rfl) id) ?_ | refine LM.rd (om_ld Tryd.isAgg3 rfl rfl) ?_
              refine LM.val (ov_assign rfl) ?_
              refine LM.nil ?_
              refine QM.sub (e' := [(0, _), (5, _), (7, _), (8, _), (9, _), (10, _)]) ⟨rfl, rfl, rfl, rfl, rfl, rfl, trivial⟩ ?_
              -- meet1: h1- h2- h3- h5+
              refine QM.meetK (_) ⟨(by first | rfl | exact lk rfl (by congr 1; omega) | exact lk rfl (by simp)), rfl, rfl, rfl, rfl, rfl, trivial⟩ (by (repeat' (first | exact SubM.nil _ | refine SubM.cons rfl ?_ | refine SubM.app ?_))) ?_
              · exact (ofI_yes (by omega) (by omega)).symm
            ·
              rw [hq, Bool.and_eq_false_iff, decide_eq_false_iff_not, decide_eq_false_iff_not] at h5
              refine wpM.skip ?_
              -- meet2: h1- h2- h3- h5-
              refine QM.meetK (_) ⟨(by first | rfl | exact lk rfl (by congr 1; omega) | exact lk rfl (by simp)), rfl, rfl, rfl, rfl, rfl, trivial⟩ (by (repeat' (first | exact SubM.nil _ | refine SubM.cons rfl ?_ | refine SubM.app ?_))) ?_
              · exact (ofI_no (by omega)).symm
          ·
            rintro one hone
            change QM _ _ _ _ _ (m29 ++ (gB bg G :: rB br adg ng capg :: (b5, .cells (fDw d).toArray 62 (0, 0)) :: (mg ++ []))) _ _ _
            subst hone
            refine QM.then ?_
            refine wpM.seq ?_
            refine wpM.seq ?_
            refine wpM.region ?_
            refine LM.val (ov_move rfl) ?_
            refine LM.val (ov_move rfl) ?_
            refine LM.cS (oc_call (enters_fn Tryd.func35 (by kernel_rfl) rfl) rfl) (fun w hm hc hg => eff_spec bg G w hlen (hT.ext hc) hn (hl.ext hc) (by omega) (hm.pick _)) (fun ad47 n47 cap47 m47 hn47 hs47 => ?_)
            refine LM.val (ov_move rfl) ?_
            refine LM.callE (oc_call (enters_fn Tryd.func37 (by kernel_rfl) rfl) rfl) (fun w hm hc hg => ints_true w rfl hn47 (hs47.srM (by intro _; rfl) hm) hn29 (hs29.srM (by intro _; rfl) hm) (effW_le _ _)) ?_
            first | refine LM.val (ov_notD rfl) ?_ | refine LM.val (ov_not rfl) ?_
            refine LM.val (ov_move rfl) ?_
            first | refine LM.splitD (t := 51) rfl (fun h6 => ?_) (fun h6 => ?_) | refine LM.splitB (t := 51) rfl (fun h6 => ?_) (fun h6 => ?_)
            ·
              first | cases h6 | (simp at h6)
            ·
              refine LM.strip (t := 51) rfl rfl rfl ?_
              refine LM.val (ov_move rfl) ?_
              refine LM.strip (t := 51) rfl rfl rfl ?_
              refine LM.val (ov_move rfl) ?_
              refine LM.strip (t := 51) rfl rfl rfl ?_
              refine LM.val (ov_field Tryd.underlying62 rfl Tryd.sizeOf3 rfl (k := 0) rfl rfl) ?_
              refine LM.strip (t := 51) rfl rfl rfl ?_
              first | refine LM.rd (om_ld Tryd.isAgg3 rfl rfl) ?_
              refine LM.strip (t := 51) rfl rfl rfl ?_
              refine LM.callE (oc_call (enters_fn Tryd.func41 (by kernel_rfl) rfl) rfl) (fun w hm hc hg => ofw_spec bg G d.who w hlen (hT.ext hc) hn (hl.ext hc) (hm.pick _)) ?_
              refine LM.strip (t := 51) rfl rfl rfl ?_
              refine LM.val (ov_move rfl) ?_
              refine LM.strip (t := 51) rfl rfl rfl ?_
              refine LM.val (ov_neq rfl rfl) ?_
              refine LM.val (ov_pickF rfl rfl) ?_
              refine LM.nil ?_
              refine QM.sub (e' := [(0, _), (5, _), (7, _), (8, _), (9, _), (59, _)]) ⟨rfl, rfl, rfl, rfl, rfl, rfl, trivial⟩ ?_
              refine QM.then ?_
              first | refine wpM.condD rfl (fun h7 => ?_) (fun h7 => ?_) | refine wpM.condB rfl (fun h7 => ?_) (fun h7 => ?_)
              ·
                exact absurd rfl h7
              ·
                refine wpM.skip ?_
                refine QM.then ?_
                refine wpM.seq ?_
                refine wpM.region ?_
                refine LM.val (ov_move rfl) ?_
                refine LM.val (ov_move rfl) ?_
                refine LM.val (ov_field Tryd.underlying62 rfl Tryd.sizeOf3 rfl (k := 0) rfl rfl) ?_
                first | refine LM.rd (om_ld Tryd.isAgg3 rfl rfl) ?_
                refine LM.val (ov_field Tryd.underlying62 rfl Tryd.sizeOf23 rfl (k := 1) rfl rfl) ?_
                first | refine LM.rd (om_ld Tryd.isAgg23 rfl rfl) ?_
                refine LM.cS (oc_call (enters_fn Tryd.func42 (by kernel_rfl) rfl) rfl) (fun w hm hc hg => gain_spec bg G _ _ w hlen hA (hT.ext hc) hn (hl.ext hc) (by omega) (hm.pick _)) (fun ad66 n66 cap66 m66 hn66 hs66 => ?_)
                refine LM.val (ov_assign rfl) ?_
                refine LM.nil ?_
                refine QM.sub (e' := [(0, _), (5, _), (7, _), (8, _), (9, _), (11, _)]) ⟨rfl, rfl, rfl, rfl, rfl, rfl, trivial⟩ ?_
                refine QM.then ?_
                refine wpM.seq ?_
                refine wpM.seq ?_
                refine wpM.region ?_
                refine LM.val (ov_move rfl) ?_
                refine LM.val (ov_move rfl) ?_
                refine LM.cS (oc_call (enters_fn Tryd.func35 (by kernel_rfl) rfl) rfl) (fun w hm hc hg => eff_spec bg G w hlen (hT.ext hc) hn (hl.ext hc) (by omega) (hm.pick _)) (fun ad69 n69 cap69 m69 hn69 hs69 => ?_)
                refine LM.val (ov_move rfl) ?_
                refine LM.callE (oc_call (enters_fn Tryd.func37 (by kernel_rfl) rfl) rfl) (fun w hm hc hg => ints_true w rfl hn69 (hs69.srM (by intro _; rfl) hm) hn29 (hs29.srM (by intro _; rfl) hm) (effW_le _ _)) ?_
                first | refine LM.val (ov_notD rfl) ?_ | refine LM.val (ov_not rfl) ?_
                refine LM.nil ?_
                refine QM.sub (e' := [(0, _), (5, _), (8, _), (11, _), (72, _)]) ⟨rfl, rfl, rfl, rfl, rfl, trivial⟩ ?_
                refine QM.then ?_
                first | refine wpM.condD rfl (fun h8 => ?_) (fun h8 => ?_) | refine wpM.condB rfl (fun h8 => ?_) (fun h8 => ?_)
                ·
                  first | cases h8 | (simp at h8)
                ·
                  refine wpM.skip ?_
                  refine QM.then ?_
                  refine wpM.seq ?_
                  refine wpM.seq ?_
                  refine wpM.region ?_
                  refine LM.val (ov_move rfl) ?_
                  refine LM.val (ov_field Tryd.underlying62 rfl Tryd.sizeOf3 rfl (k := 0) rfl rfl) ?_
                  first | refine LM.rd (om_ld Tryd.isAgg3 rfl rfl) ?_
                  refine LM.val (ov_field Tryd.underlying62 rfl Tryd.sizeOf23 rfl (k := 1) rfl rfl) ?_
                  first | refine LM.rd (om_ld Tryd.isAgg23 rfl rfl) ?_
                  refine LM.cU (oc_call (enters_fn Tryd.func43 (by kernel_rfl) rfl) rfl) (fun w hm hc hg => rwait_spec br _ _ w hlen hng hsg (SubM.mem (by (repeat' (first | exact SubM.nil _ | refine SubM.cons rfl ?_ | refine SubM.app ?_))) w hm)) hsg.wlk (fun p hp hlt => absurd hlt (Nat.not_lt_of_le (hsg.ge p hp))) ?_
                  rintro u78 m78 ⟨rfl, hs78⟩ hin78
                  refine LM.val (ov_neq rfl rfl) ?_
                  refine LM.nil ?_
                  refine QM.sub (e' := [(0, _), (8, _), (11, _), (79, _)]) ⟨rfl, rfl, rfl, rfl, trivial⟩ ?_
                  refine QM.then ?_
                  first | refine wpM.condD rfl (fun h9 => ?_) (fun h9 => ?_) | refine wpM.condB rfl (fun h9 => ?_) (fun h9 => ?_)
                  ·
                    refine wpM.seq ?_
                    refine wpM.region ?_
                    refine LM.val (ov_move rfl) ?_
                    refine LM.val (ov_len Tryd.underlying22 rfl) ?_
                    refine LM.val (ov_eql rfl rfl) ?_
                    refine LM.val (ov_assign rfl) ?_
                    refine LM.nil ?_
                    refine QM.sub (e' := [(6, _)]) ⟨rfl, trivial⟩ ?_
                    refine QM.then ?_
                    refine wpM.ret ?_
                    refine QM.then_ret ?_
                    refine QM.leave (.inl rfl) [.tmp 6] Tryd.results9 rfl ?_
                    intro w' hm' hc' hg'
                    -- leaf 4: h1- h2- h3- h6- h7- h8- h9+
                    refine ⟨?_, hc'⟩; show Value.bool (decide ((n66 : Int) = 0)) = _; rw [hn66, if_neg h9]; rfl
                  ·
                    have hgot : (if wtE G d.who d.set = 0 then effW own (wtG G d.who d.set) else []) = effW own (wtG G d.who d.set) := if_pos (Classical.not_not.1 h9)
                    refine wpM.skip ?_
                    refine QM.then ?_
                    refine wpM.seq ?_
                    refine wpM.region ?_
                    refine LM.val (ov_move rfl) ?_
                    refine LM.val (ov_move rfl) ?_
                    refine LM.val (ov_move rfl) ?_
                    refine LM.cS (oc_call (enters_fn Tryd.func40 (by kernel_rfl) rfl) rfl) (fun w hm hc hg => reff_spec br w (wtG_len hlen _ _) (wtG_acy hlen hA _ _) hng hs78 hn (hl.ext hc) (by omega) (SubM.mem (by (repeat' (first | exact SubM.nil _ | refine SubM.cons rfl ?_ | refine SubM.app ?_))) w hm)) (fun ad86 n86 cap86 m86 hn86 hs86 => ?_)
                    refine LM.callE (oc_call (enters_fn Tryd.func37 (by kernel_rfl) rfl) rfl) (fun w hm hc hg => ints_true w hgot hn66 (hs66.srM (by intro _; rfl) hm) hn86 (hs86.srM (by intro _; rfl) hm) (by rw [hgot]; exact effW_le _ _)) ?_
                    refine LM.val (ov_assign rfl) ?_
                    refine LM.nil ?_
                    refine QM.sub (e' := [(6, _)]) ⟨rfl, trivial⟩ ?_
                    refine QM.then ?_
                    refine wpM.ret ?_
                    refine QM.leave (.inl rfl) [.tmp 6] Tryd.results9 rfl ?_
                    intro w' hm' hc' hg'
                    -- leaf 5: h1- h2- h3- h6- h7- h8- h9-
                    first | exact ⟨rfl, hc'⟩ | (exfalso; first | omega | (simp at *; done) | (simp_all; done))

end Go.Eng

