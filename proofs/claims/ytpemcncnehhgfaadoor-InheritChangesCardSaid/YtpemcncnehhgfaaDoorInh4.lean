/- The walk of the law that all weigh their own again. No condition. -/
import Derived.Test.YtpemcncnehhgfaaDoorInh3
import Derived.Test.YtpemcncnehhgfaaDoorInhLaw2
set_option linter.unusedVariables false
set_option linter.unusedSimpArgs false
namespace Go.Eng
open Go Go.Proofs Go.RowKit

def fB (n : Int) : List Value := [.int .u8 n]
def w17 (l : List Int) : List Int := l.map (· % 17)
theorem w17_len (l : List Int) : (w17 l).length = l.length := by simp [w17]
theorem w17_take {l : List Int} {i : Nat} (h : i < l.length) : w17 (l.take (i + 1)) = w17 (l.take i) ++ [l.getD i 0 % 17] := by unfold w17; rw [take_snoc 0 h, List.map_append]; rfl
theorem w17_rng (l : List Int) : ∀ x ∈ w17 l, 0 ≤ x ∧ x ≤ 16 := fun x hx => by
  obtain ⟨y, _, rfl⟩ := List.mem_map.1 hx; omega
theorem sum_rng : ∀ {l : List Int}, (∀ x ∈ l, 0 ≤ x ∧ x ≤ 16) → 0 ≤ l.sum ∧ l.sum ≤ 16 * (l.length : Int)
  | [], _ => by simp
  | x :: l, h => by
    have ih := sum_rng (l := l) (fun y hy => h y (List.mem_cons_of_mem _ hy))
    have hx := h x (List.mem_cons_self ..)
    rw [List.sum_cons, List.length_cons]; omega
theorem w17_small {l : List Int} (h : l.length ≤ 64) : Small (w17 l) := ⟨by rw [w17_len]; exact h, w17_rng l⟩
theorem clear_at {G : Gr} {k : Nat} (b : Nat) (hG : G.length = 64) (hk : k < 64) (w : World) (hM : Mem w [gB b (clN G k)]) :
    Ret Tryd.prog 36 #[.pointer (some ⟨b, 0, none⟩), .int .i64 (k : Nat)] w (WrP b (.bool (decide (ofG (clN G k) (k : Nat) ≠ 0#64))) (gO (clN G (k + 1))) w) := by
  have h := clear_spec b (clN G k) (k : Nat) w (clN_len hG (by omega)) hM
  rwa [clr_step hG hk] at h
set_option maxRecDepth 100000 in
theorem inheritBack {own : List Int} {ad : Option Addr} {n cap : Nat} {l : List Dw} {ad2 : Option Addr} {n2 cap2 : Nat} (w : World) (hT : Tab w) (hn : n = own.length) (hl : Sr fB 1 own (.slice ad n cap) w) (hob : ∀ x ∈ own, 0 ≤ x) (hn2 : n2 = l.length) (hl2 : Sr fDw 2 l (.slice ad2 n2 cap2) w) : Ret Tryd.prog 7 #[.slice ad n cap, .slice ad2 n2 cap2] w (fun v w' => v = .bool true ∧ Ext w w') := by
  have hpos := hT.pos
  refine Ret.enterM (l := [.slice ad n cap, .slice ad2 n2 cap2]) Tryd.func7 rfl Tryd.ntmps7 rfl ([]) (no) (Mem.nil w) ?_
  refine wpM.seq ?_
  refine wpM.region ?_
  refine LM.val (ov_assign rfl) ?_
  refine LM.nil ?_
  refine QM.sub (e' := [(0, _), (1, _)]) ⟨rfl, rfl, trivial⟩ ?_
  refine QM.then ?_
  refine wpM.seq ?_
  refine wpM.seq ?_
  refine wpM.region ?_
  refine LM.callE (oc_call (enters_fn Tryd.func33 (by kernel_rfl) rfl) rfl) (fun w hm hc hg => awake23 w (hT.ext hc)) ?_
  first | refine LM.val (ov_notD rfl) ?_ | refine LM.val (ov_not rfl) ?_
  refine LM.nil ?_
  refine QM.sub (e' := [(0, _), (1, _), (15, _)]) ⟨rfl, rfl, rfl, trivial⟩ ?_
  refine QM.then ?_
  first | refine wpM.condD rfl (fun h1 => ?_) (fun h1 => ?_) | refine wpM.condB rfl (fun h1 => ?_) (fun h1 => ?_)
  ·
    refine wpM.seq ?_
    refine wpM.region ?_
    refine LM.val (ov_assign rfl) ?_
    refine LM.nil ?_
    refine QM.sub (e' := [(4, _)]) ⟨rfl, trivial⟩ ?_
    refine QM.then ?_
    refine wpM.ret ?_
    refine QM.then_ret ?_
    refine QM.leave (.inl rfl) [.tmp 4] Tryd.results7 rfl ?_
    intro w' hm' hc' hg'
    -- leaf 1: h1+
    first | exact ⟨rfl, hc'⟩ | (exfalso; first | omega | (simp at *; done) | (simp_all; done))
  ·
    refine wpM.skip ?_
    refine QM.then ?_
    refine wpM.seq ?_
    refine wpM.seq ?_
    refine wpM.region ?_
    refine LM.val (ov_move rfl) ?_
    refine LM.val (ov_len Tryd.underlying47 rfl) ?_
    refine LM.val (ov_gtr rfl rfl) ?_
    refine LM.val (ov_move rfl) ?_
    first | refine LM.splitD (t := 19) rfl (fun h2 => ?_) (fun h2 => ?_) | refine LM.splitB (t := 19) rfl (fun h2 => ?_) (fun h2 => ?_)
    ·
      refine LM.drop (t := 19) rfl rfl rfl ?_
      refine LM.drop (t := 19) rfl rfl rfl ?_
      refine LM.drop (t := 19) rfl rfl rfl ?_
      refine LM.val (ov_pickT rfl rfl) ?_
      refine LM.nil ?_
      refine QM.sub (e' := [(0, _), (1, _), (23, _)]) ⟨rfl, rfl, rfl, trivial⟩ ?_
      refine QM.then ?_
      refine wpM.condT rfl ?_
      refine wpM.seq ?_
      refine wpM.region ?_
      refine LM.val (ov_assign rfl) ?_
      refine LM.nil ?_
      refine QM.sub (e' := [(4, _)]) ⟨rfl, trivial⟩ ?_
      refine QM.then ?_
      refine wpM.ret ?_
      refine QM.then_ret ?_
      refine QM.leave (.inl rfl) [.tmp 4] Tryd.results7 rfl ?_
      intro w' hm' hc' hg'
      -- leaf 2: h1- h2+
      first | exact ⟨rfl, hc'⟩ | (exfalso; first | omega | (simp at *; done) | (simp_all; done))
    ·
      refine LM.strip (t := 19) rfl rfl rfl ?_
      refine LM.val (ov_move rfl) ?_
      refine LM.strip (t := 19) rfl rfl rfl ?_
      refine LM.val (ov_len Tryd.underlying48 rfl) ?_
      refine LM.strip (t := 19) rfl rfl rfl ?_
      refine LM.val (ov_gtr rfl rfl) ?_
      refine LM.val (ov_pickF rfl rfl) ?_
      refine LM.nil ?_
      refine QM.sub (e' := [(0, _), (1, _), (23, _)]) ⟨rfl, rfl, rfl, trivial⟩ ?_
      refine QM.then ?_
      first | refine wpM.condD rfl (fun h3 => ?_) (fun h3 => ?_) | refine wpM.condB rfl (fun h3 => ?_) (fun h3 => ?_)
      ·
        refine wpM.seq ?_
        refine wpM.region ?_
        refine LM.val (ov_assign rfl) ?_
        refine LM.nil ?_
        refine QM.sub (e' := [(4, _)]) ⟨rfl, trivial⟩ ?_
        refine QM.then ?_
        refine wpM.ret ?_
        refine QM.then_ret ?_
        refine QM.leave (.inl rfl) [.tmp 4] Tryd.results7 rfl ?_
        intro w' hm' hc' hg'
        -- leaf 3: h1- h2- h3+
        first | exact ⟨rfl, hc'⟩ | (exfalso; first | omega | (simp at *; done) | (simp_all; done))
      ·
        refine wpM.skip ?_
        refine QM.then ?_
        refine wpM.seq ?_
        refine wpM.region ?_
        refine LM.val (ov_assign rfl) ?_
        refine LM.nil ?_
        refine QM.sub (e' := [(0, _), (1, _), (5, _)]) ⟨rfl, rfl, rfl, trivial⟩ ?_
        refine QM.then ?_
        refine wpM.seq ?_
        refine wpM.region ?_
        refine LM.val (ov_assign rfl) ?_
        refine LM.nil ?_
        refine QM.sub (e' := [(0, _), (1, _), (5, _), (6, _)]) ⟨rfl, rfl, rfl, rfl, trivial⟩ ?_
        refine QM.then ?_
        refine wpM.seq ?_
        refine wpM.seq ?_
        refine wpM.region ?_
        refine LM.val (ov_move rfl) ?_
        refine LM.val (ov_len Tryd.underlying47 rfl) ?_
        refine LM.val (ov_move rfl) ?_
        refine LM.nil ?_
        refine QM.sub (e' := [(1, _), (5, _), (6, _), (24, _), (25, _), (26, _)]) ⟨rfl, rfl, rfl, rfl, rfl, rfl, trivial⟩ ?_
        refine QM.then ?_
        refine wpM.block ?_
        refine wpM.loopK0 (α := Nat × Option Addr × Nat × Nat × Mem0) (fun ⟨i, ado, no, capo, mo⟩ => [(5, .slice ado no capo), (6, .int .i64 (w17 (own.take i)).sum), (26, .int .i64 (i : Nat))]) [(1, _), (24, _), (25, _)] (fun ⟨i, ado, no, capo, mo⟩ => mo ++ []) (fun ⟨i, ado, no, capo, mo⟩ => i ≤ own.length ∧ no = i ∧ Sl fI 3 1 w.heap.size (w17 (own.take i)) (.slice ado no capo) mo) (fun ⟨i, ado, no, capo, mo⟩ => own.length - i) ((0, none, 0, 0, [])) ⟨(by first | rfl | exact lk rfl (by congr 1; omega) | exact lk rfl (by simp)), (by first | rfl | exact lk rfl (by rw [w17_take (by omega), List.sum_append]; simp)), (by first | rfl | exact lk rfl (by congr 1; omega) | exact lk rfl (by simp)), rfl, rfl, rfl, trivial⟩ (by (repeat' (first | exact SubM.nil _ | refine SubM.cons rfl ?_ | refine SubM.app ?_))) ⟨Nat.zero_le _, rfl, .nil _ _ _ _⟩ ?_
        rintro ⟨i, ado, no, capo, mo⟩ ⟨hi, hno, hso⟩
        change wpM _ _ _ _ _ _ _ (mo ++ []) _ _ _
        have hwl := w17_len (own.take i); have hsr := sum_rng (w17_rng (own.take i)); rw [hwl, List.length_take] at hsr; rw [List.length_take] at hwl
        refine wpM.seq ?_
        refine wpM.region ?_
        refine LM.val (ov_lss rfl rfl) ?_
        refine LM.nil ?_
        refine QM.sub (e' := [(1, _), (5, _), (6, _), (24, _), (25, _), (26, _), (27, _)]) ⟨rfl, rfl, rfl, rfl, rfl, rfl, rfl, trivial⟩ ?_
        refine QM.then ?_
        refine wpM.seq ?_
        first | refine wpM.condD rfl (fun h4 => ?_) (fun h4 => ?_) | refine wpM.condB rfl (fun h4 => ?_) (fun h4 => ?_)
        ·
          have hx0 := hob _ (List.mem_of_getElem? (getq 0 (show i < own.length by omega)))
          refine wpM.skip ?_
          refine QM.then ?_
          refine wpM.seq ?_
          refine wpM.block ?_
          refine wpM.seq ?_
          refine wpM.region ?_
          first | refine LM.val (ov_idxSN (by first | exact Sr.spt (by assumption) | exact Sl.spt (by assumption)) Tryd.underlying47 Tryd.sizeOf5 rfl rfl (by omega)) ?_ | refine LM.val (ov_idxS (by first | exact Sr.spt (by assumption) | exact Sl.spt (by assumption)) Tryd.underlying47 Tryd.sizeOf5 rfl rfl (by omega)) ?_ | refine LM.val (ov_idx1 Tryd.underlying47 Tryd.sizeOf5 rfl rfl (by omega)) ?_
          first | refine LM.rd (om_sl1 (by assumption) (by intro _; rfl) Tryd.isAgg5 rfl rfl (by exact getq 0 (by first | omega | (simp only [List.length_set, List.length_append, List.length_cons, List.length_nil]; omega))) (by rfl)) ?_ | refine LM.rdC (om_sr1 (by assumption) Tryd.isAgg5 rfl rfl (by exact getq 0 (by first | omega | (simp only [List.length_set, List.length_append, List.length_cons, List.length_nil]; omega))) (by rfl) id) ?_ | refine LM.rd (om_ld Tryd.isAgg5 rfl rfl) ?_
          refine LM.val (ov_assign rfl) ?_
          refine LM.nil ?_
          refine QM.sub (e' := [(1, _), (5, _), (6, _), (8, _), (24, _), (25, _), (26, _)]) ⟨rfl, rfl, rfl, rfl, rfl, rfl, rfl, trivial⟩ ?_
          refine QM.then ?_
          refine wpM.seq ?_
          refine wpM.region ?_
          refine LM.val (ov_move rfl) ?_
          refine LM.val (ov_move rfl) ?_
          first | refine LM.val (ov_remK rfl rfl (by omega) (by omega)) ?_ | refine LM.val (ov_remJ rfl rfl (by omega) (by omega)) ?_
          refine LM.val (ov_to64 Tryd.underlying5 Tryd.underlying3 rfl (by omega)) ?_
          refine LM.single Tryd.underlying22 Tryd.sizeOf3 Tryd.zeroValue3 rfl rfl rfl rfl rfl (fun b34 hb34 => ?_)
          refine LM.app Tryd.underlying22 Tryd.typeInfo3 rfl rfl rfl rfl rfl rfl rfl (by assumption) (by rfl) (by intro _; rfl) (by intro _ u hu; simp [fI] at hu; (repeat (first | (rcases hu with rfl | hu) | subst hu | rfl))) (by first | exact Nat.le_refl _ | omega) (fun p hp hlt => absurd hlt (Nat.not_lt_of_le (Sl.ge (by assumption) p hp))) (by first | omega | (unfold maxLen; omega)) (by simp only [Tryd.t3]; omega) (fun ad35 n35 cap35 m35 hn35 hs35 hin35 => ?_)
          refine LM.val (ov_assign rfl) ?_
          refine LM.nil ?_
          refine QM.sub (e' := [(1, _), (5, _), (6, _), (8, _), (24, _), (25, _), (26, _)]) ⟨rfl, rfl, rfl, rfl, rfl, rfl, rfl, trivial⟩ ?_
          refine QM.then ?_
          refine wpM.region ?_
          refine LM.val (ov_move rfl) ?_
          refine LM.val (ov_move rfl) ?_
          first | refine LM.val (ov_remK rfl rfl (by omega) (by omega)) ?_ | refine LM.val (ov_remJ rfl rfl (by omega) (by omega)) ?_
          refine LM.val (ov_to64 Tryd.underlying5 Tryd.underlying3 rfl (by omega)) ?_
          refine LM.val (ov_add64 rfl rfl (by omega)) ?_
          refine LM.val (ov_assign rfl) ?_
          refine LM.nil ?_
          refine QM.sub (e' := [(1, _), (5, _), (6, _), (24, _), (25, _), (26, _)]) ⟨rfl, rfl, rfl, rfl, rfl, rfl, trivial⟩ ?_
          refine QM.block_normal ?_
          refine QM.then ?_
          refine wpM.region ?_
          refine LM.val (ov_add64 rfl rfl (by omega)) ?_
          refine LM.val (ov_move rfl) ?_
          refine LM.nil ?_
          refine QM.sub (e' := [(1, _), (5, _), (6, _), (24, _), (25, _), (26, _)]) ⟨rfl, rfl, rfl, rfl, rfl, rfl, trivial⟩ ?_
          -- again1: h1- h2- h3- h4+
          refine QM.againK (i + 1, ad35, n35, cap35, m35) ⟨(by first | rfl | exact lk rfl (by congr 1; omega) | exact lk rfl (by simp)), (by first | rfl | exact lk rfl (by rw [w17_take (by omega), List.sum_append]; simp)), (by first | rfl | exact lk rfl (by congr 1; omega) | exact lk rfl (by simp)), rfl, rfl, rfl, trivial⟩ (by (repeat' (first | exact SubM.nil _ | refine SubM.cons rfl ?_ | refine SubM.app ?_))) (fun _ h => h) ?_ ?_
          · exact ⟨by omega, by omega, by rw [w17_take (by omega)]; exact hs35⟩
          · first | omega | (dsimp only; omega)
        ·
          obtain rfl : i = own.length := (by omega); rw [List.take_length] at hso; have hnw : no = (w17 own).length := (by rw [w17_len]; omega); have hsm := w17_small (l := own) (by omega); have hwl2 := w17_len own
          refine wpM.exit ?_
          refine QM.then_exit ?_
          refine QM.then_exit ?_
          refine QM.block_hit ?_
          refine QM.then ?_
          refine wpM.seq ?_
          refine wpM.region ?_
          refine LM.val (ov_move rfl) ?_
          refine LM.callT (oc_call (enters_fn Tryd.func34 (by kernel_rfl) rfl) rfl) BothT.mono (fun w hm hc hg => both_spec w (hT.ext hc) hn2 (hl2.ext hc) (by omega)) ?_
          rintro u44 m44 ⟨G, bg, br, adg, ng, capg, mg, rfl, rfl, hbg, hbr, hng, hsg, hlen, hA⟩ -
          refine LM.val (ov_move rfl) ?_
          refine LM.val (ov_extract rfl rfl) ?_
          refine LM.val (ov_extract rfl rfl) ?_
          refine LM.val (ov_assign rfl) ?_
          refine LM.val (ov_assign rfl) ?_
          refine LM.nil ?_
          refine QM.sub (e' := [(5, _), (6, _), (9, _)]) ⟨rfl, rfl, rfl, trivial⟩ ?_
          refine QM.then ?_
          refine wpM.seq ?_
          refine wpM.seq ?_
          refine wpM.region ?_
          refine LM.val (ov_move rfl) ?_
          refine LM.val (ov_move rfl) ?_
          refine LM.cS (oc_call (enters_fn Tryd.func35 (by kernel_rfl) rfl) rfl) (fun w hm hc hg => eff_spec bg G w hlen (hT.ext hc) hnw (hso.srM (by intro _; rfl) hm) (by rw [w17_len]; omega) (hm.pick _)) (fun ad49 n49 cap49 m49 hn49 hs49 => ?_)
          have hel := effW_len (w17 own) G; have hwl := w17_len own
          refine LM.val (ov_len Tryd.underlying22 rfl) ?_
          refine LM.val (ov_move rfl) ?_
          refine LM.nil ?_
          refine QM.sub (e' := [(5, _), (6, _), (9, _), (49, _), (50, _), (51, _)]) ⟨rfl, rfl, rfl, rfl, rfl, rfl, trivial⟩ ?_
          refine QM.then ?_
          refine wpM.block ?_
          refine wpM.loopK0 (α := Nat) (fun k => [(51, .int .i64 (k : Nat))]) [(5, _), (6, _), (9, _), (49, _), (50, _)] (fun k => m49 ++ (gB bg G :: rB br adg ng capg :: (mg ++ (mo ++ [])))) (fun k => k ≤ n49) (fun k => n49 - k) (0) ⟨(by first | rfl | exact lk rfl (by congr 1; omega) | exact lk rfl (by simp)), rfl, rfl, rfl, rfl, rfl, trivial⟩ (by (repeat' (first | exact SubM.nil _ | refine SubM.cons rfl ?_ | refine SubM.app ?_))) (Nat.zero_le _) ?_
          rintro k hk
          change wpM _ _ _ _ _ _ _ (m49 ++ (gB bg G :: rB br adg ng capg :: (mg ++ (mo ++ [])))) _ _ _
          refine wpM.seq ?_
          refine wpM.region ?_
          refine LM.val (ov_lss rfl rfl) ?_
          refine LM.nil ?_
          refine QM.sub (e' := [(5, _), (6, _), (9, _), (49, _), (50, _), (51, _), (52, _)]) ⟨rfl, rfl, rfl, rfl, rfl, rfl, rfl, trivial⟩ ?_
          refine QM.then ?_
          refine wpM.seq ?_
          first | refine wpM.condD rfl (fun h5 => ?_) (fun h5 => ?_) | refine wpM.condB rfl (fun h5 => ?_) (fun h5 => ?_)
          ·
            refine wpM.skip ?_
            refine QM.then ?_
            refine wpM.seq ?_
            refine wpM.block ?_
            refine wpM.seq ?_
            refine wpM.region ?_
            refine LM.val (ov_move rfl) ?_
            first | refine LM.val (ov_idxSN (by first | exact Sr.spt (by assumption) | exact Sl.spt (by assumption)) Tryd.underlying22 Tryd.sizeOf3 rfl rfl (by omega)) ?_ | refine LM.val (ov_idxS (by first | exact Sr.spt (by assumption) | exact Sl.spt (by assumption)) Tryd.underlying22 Tryd.sizeOf3 rfl rfl (by omega)) ?_ | refine LM.val (ov_idx1 Tryd.underlying22 Tryd.sizeOf3 rfl rfl (by omega)) ?_
            first | refine LM.rd (om_sl1 (by assumption) (by intro _; rfl) Tryd.isAgg3 rfl rfl (by exact getq 0 (by first | omega | (simp only [List.length_set, List.length_append, List.length_cons, List.length_nil]; omega))) (by rfl)) ?_ | refine LM.rdC (om_sr1 (by assumption) Tryd.isAgg3 rfl rfl (by exact getq 0 (by first | omega | (simp only [List.length_set, List.length_append, List.length_cons, List.length_nil]; omega))) (by rfl) id) ?_ | refine LM.rd (om_ld Tryd.isAgg3 rfl rfl) ?_
            refine LM.val (ov_assign rfl) ?_
            refine LM.val (ov_assign rfl) ?_
            refine LM.nil ?_
            refine QM.sub (e' := [(5, _), (6, _), (9, _), (11, _), (12, _), (49, _), (50, _), (51, _)]) ⟨rfl, rfl, rfl, rfl, rfl, rfl, rfl, rfl, trivial⟩ ?_
            refine QM.then ?_
            refine wpM.seq ?_
            refine wpM.region ?_
            refine LM.val (ov_move rfl) ?_
            refine LM.val (ov_move rfl) ?_
            refine LM.val (ov_move rfl) ?_
            first | refine LM.val (ov_idxSN (by first | exact Sr.spt (by assumption) | exact Sl.spt (by assumption)) Tryd.underlying22 Tryd.sizeOf3 rfl rfl (by omega)) ?_ | refine LM.val (ov_idxS (by first | exact Sr.spt (by assumption) | exact Sl.spt (by assumption)) Tryd.underlying22 Tryd.sizeOf3 rfl rfl (by omega)) ?_ | refine LM.val (ov_idx1 Tryd.underlying22 Tryd.sizeOf3 rfl rfl (by omega)) ?_
            first | refine LM.rd (om_sl1 (by assumption) (by intro _; rfl) Tryd.isAgg3 rfl rfl (by exact getq 0 (by first | omega | (simp only [List.length_set, List.length_append, List.length_cons, List.length_nil]; omega))) (by rfl)) ?_ | refine LM.rdC (om_sr1 (by assumption) Tryd.isAgg3 rfl rfl (by exact getq 0 (by first | omega | (simp only [List.length_set, List.length_append, List.length_cons, List.length_nil]; omega))) (by rfl) id) ?_ | refine LM.rd (om_ld Tryd.isAgg3 rfl rfl) ?_
            refine LM.val (ov_lss rfl rfl) ?_
            refine LM.val (ov_move rfl) ?_
            first | refine LM.splitD (t := 62) rfl (fun h6 => ?_) (fun h6 => ?_) | refine LM.splitB (t := 62) rfl (fun h6 => ?_) (fun h6 => ?_)
            ·
              exfalso; rw [effW_get _ _ (by omega)] at h6; have := ofW_ge hsm G (i := k) (by omega); omega
            ·
              refine LM.strip (t := 62) rfl rfl rfl ?_
              refine LM.val (ov_move rfl) ?_
              refine LM.strip (t := 62) rfl rfl rfl ?_
              refine LM.val (ov_move rfl) ?_
              refine LM.strip (t := 62) rfl rfl rfl ?_
              refine LM.val (ov_gtr rfl rfl) ?_
              refine LM.val (ov_pickF rfl rfl) ?_
              refine LM.nil ?_
              refine QM.sub (e' := [(5, _), (6, _), (9, _), (49, _), (50, _), (51, _), (66, _)]) ⟨rfl, rfl, rfl, rfl, rfl, rfl, rfl, trivial⟩ ?_
              refine QM.then ?_
              first | refine wpM.condD rfl (fun h7 => ?_) (fun h7 => ?_) | refine wpM.condB rfl (fun h7 => ?_) (fun h7 => ?_)
              ·
                exfalso; rw [effW_get _ _ (by omega), List.take_length] at h7; have := ofW_le hsm hA (i := k) (by omega); omega
              ·
                refine wpM.skip ?_
                refine QM.block_normal ?_
                refine QM.then ?_
                refine wpM.region ?_
                refine LM.val (ov_add64 rfl rfl (by omega)) ?_
                refine LM.val (ov_move rfl) ?_
                refine LM.nil ?_
                refine QM.sub (e' := [(5, _), (6, _), (9, _), (49, _), (50, _), (51, _)]) ⟨rfl, rfl, rfl, rfl, rfl, rfl, trivial⟩ ?_
                -- again1: h1- h2- h3- h4- h5+ h6- h7-
                refine QM.againK (k + 1) ⟨(by first | rfl | exact lk rfl (by congr 1; omega) | exact lk rfl (by simp)), rfl, rfl, rfl, rfl, rfl, trivial⟩ (by (repeat' (first | exact SubM.nil _ | refine SubM.cons rfl ?_ | refine SubM.app ?_))) (fun _ h => h) ?_ ?_
                · omega
                · first | omega | (dsimp only; omega)
          ·
            refine wpM.exit ?_
            refine QM.then_exit ?_
            refine QM.then_exit ?_
            refine QM.block_hit ?_
            refine QM.then ?_
            refine wpM.seq ?_
            refine wpM.seq ?_
            refine wpM.region ?_
            refine LM.val (ov_move rfl) ?_
            refine LM.nil ?_
            refine QM.sub (e' := [(5, _), (9, _), (68, _)]) ⟨rfl, rfl, rfl, trivial⟩ ?_
            refine QM.then ?_
            refine wpM.block ?_
            refine wpM.loopK0 (α := Nat) (fun k => [(68, .int .i64 (k : Nat))]) [(5, _), (9, _)] (fun k => gB bg (clN G k) :: (mo ++ [])) (fun k => k ≤ 64) (fun k => 64 - k) (0) ⟨(by first | rfl | exact lk rfl (by congr 1; omega) | exact lk rfl (by simp)), rfl, rfl, trivial⟩ (by (repeat' (first | exact SubM.nil _ | refine SubM.cons rfl ?_ | refine SubM.app ?_))) (Nat.zero_le _) ?_
            rintro k hk
            change wpM _ _ _ _ _ _ _ (gB bg (clN G k) :: (mo ++ [])) _ _ _
            refine wpM.seq ?_
            refine wpM.region ?_
            refine LM.val (ov_lss rfl rfl) ?_
            refine LM.nil ?_
            refine QM.sub (e' := [(5, _), (9, _), (68, _), (69, _)]) ⟨rfl, rfl, rfl, rfl, trivial⟩ ?_
            refine QM.then ?_
            refine wpM.seq ?_
            first | refine wpM.condD rfl (fun h8 => ?_) (fun h8 => ?_) | refine wpM.condB rfl (fun h8 => ?_) (fun h8 => ?_)
            ·
              refine wpM.skip ?_
              refine QM.then ?_
              refine wpM.seq ?_
              refine wpM.block ?_
              refine wpM.seq ?_
              refine wpM.region ?_
              refine LM.val (ov_move rfl) ?_
              refine LM.val (ov_assign rfl) ?_
              refine LM.nil ?_
              refine QM.sub (e' := [(5, _), (9, _), (13, _), (68, _)]) ⟨rfl, rfl, rfl, rfl, trivial⟩ ?_
              refine QM.then ?_
              refine wpM.region ?_
              refine LM.val (ov_move rfl) ?_
              refine LM.val (ov_move rfl) ?_
              refine LM.cW (oc_call (enters_fn Tryd.func36 (by kernel_rfl) rfl) rfl) (fun w hm hc hg => clear_at bg hlen (by omega) w (hm.pick _)) rfl (fun hlt => absurd hlt (by omega)) ?_
              refine LM.nil ?_
              refine QM.sub (e' := [(5, _), (9, _), (68, _)]) ⟨rfl, rfl, rfl, trivial⟩ ?_
              refine QM.block_normal ?_
              refine QM.then ?_
              refine wpM.region ?_
              refine LM.val (ov_add64 rfl rfl (by omega)) ?_
              refine LM.val (ov_move rfl) ?_
              refine LM.nil ?_
              refine QM.sub (e' := [(5, _), (9, _), (68, _)]) ⟨rfl, rfl, rfl, trivial⟩ ?_
              -- again1: h1- h2- h3- h4- h5- h8+
              refine QM.againK (k + 1) ⟨(by first | rfl | exact lk rfl (by congr 1; omega) | exact lk rfl (by simp)), rfl, rfl, trivial⟩ (by (repeat' (first | exact SubM.nil _ | refine SubM.cons rfl ?_ | refine SubM.app ?_))) (fun _ h => h) ?_ ?_
              · omega
              · first | omega | (dsimp only; omega)
            ·
              refine wpM.exit ?_
              refine QM.then_exit ?_
              refine QM.then_exit ?_
              refine QM.block_hit ?_
              refine QM.then ?_
              refine wpM.seq ?_
              refine wpM.region ?_
              obtain rfl : k = 64 := (by omega); rw [clN_end hlen]
              refine LM.val (ov_move rfl) ?_
              refine LM.val (ov_move rfl) ?_
              refine LM.cS (oc_call (enters_fn Tryd.func35 (by kernel_rfl) rfl) rfl) (fun w hm hc hg => eff_zero hsm ▸ eff_spec (own := w17 own) bg zeroG w zeroG_len (hT.ext hc) hnw (hso.srM (by intro _; rfl) hm) (by rw [w17_len]; omega) (hm.pick _)) (fun ad77 n77 cap77 m77 hn77 hs77 => ?_)
              refine LM.val (ov_move rfl) ?_
              refine LM.callE (oc_call (enters_fn Tryd.func37 (by kernel_rfl) rfl) rfl) (fun w hm hc hg => ints_true w rfl hn77 (hs77.srM (by intro _; rfl) hm) hnw (hso.srM (by intro _; rfl) hm) (by rw [w17_len]; omega)) ?_
              refine LM.val (ov_assign rfl) ?_
              refine LM.nil ?_
              refine QM.sub (e' := [(4, _)]) ⟨rfl, trivial⟩ ?_
              refine QM.then ?_
              refine wpM.ret ?_
              refine QM.leave (.inl rfl) [.tmp 4] Tryd.results7 rfl ?_
              intro w' hm' hc' hg'
              -- leaf 4: h1- h2- h3- h4- h5- h8-
              first | exact ⟨rfl, hc'⟩ | (exfalso; first | omega | (simp at *; done) | (simp_all; done))

end Go.Eng

