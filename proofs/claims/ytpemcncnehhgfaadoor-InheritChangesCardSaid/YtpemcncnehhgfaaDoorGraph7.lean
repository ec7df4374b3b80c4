/- The walk of the law of cycles. No condition. -/
import Derived.Test.YtpemcncnehhgfaaDoorGraph6
set_option linter.unusedVariables false
set_option linter.unusedSimpArgs false
namespace Go.Eng
open Go Go.Proofs Go.RowKit

abbrev bD (b : Nat) (d : Dd) : Nat × Obj := (b, .cells (fDd d).toArray 41 (0, 0))
abbrev slE (b : Nat) (ad : Option Addr) (n cap : Nat) : Nat × Obj := (b, .cells #[.slice ad n cap] 75 (0, 0))
def cyS (G : Gr) (d : Dd) : Gr := if d.kind % 3 = 2 then clrG (wtG G d.who d.set) d.who else wtG G d.who d.set
def cyA (l : List Dd) : Gr := l.foldl cyS zeroG
theorem clrG_len {G : Gr} (h : G.length = 64) (w : Int) : (clrG G w).length = 64 := by unfold clrG; split <;> simp [h]
theorem clrG_acy {G : Gr} (h : G.length = 64) (hG : Acy G) (w : Int) : Acy (clrG G w) := by
  unfold clrG
  by_cases e : ofG G w = 0#64
  · rw [if_pos e]; exact hG
  · rw [if_neg e]
    have hin : inG w = true := by apply Classical.byContradiction; intro hn; apply e; unfold ofG; rw [if_neg hn]
    have := inG_iff.1 hin
    exact acy_set h (by omega) hG (fun hr => by have := (ovr_iff G 0#64 w.toNat).2 hr; rw [ovr_zero, hasB_zero] at this; cases this)
theorem cyS_len {G : Gr} (h : G.length = 64) (d : Dd) : (cyS G d).length = 64 := by unfold cyS; split; exact clrG_len (wtG_len h _ _) _; exact wtG_len h _ _
theorem cyS_acy {G : Gr} (h : G.length = 64) (hG : Acy G) (d : Dd) : Acy (cyS G d) := by unfold cyS; split; exact clrG_acy (wtG_len h _ _) (wtG_acy h hG _ _) _; exact wtG_acy h hG _ _
theorem cyA_inv (l : List Dd) : (cyA l).length = 64 ∧ Acy (cyA l) := by
  have : ∀ (l : List Dd) (G : Gr), G.length = 64 → Acy G → (l.foldl cyS G).length = 64 ∧ Acy (l.foldl cyS G) := by
    intro l
    induction l with
    | nil => intro G h1 h2; exact ⟨h1, h2⟩
    | cons d l ih => intro G h1 h2; exact ih _ (cyS_len h1 d) (cyS_acy h1 h2 d)
  exact this l _ zeroG_len acy_zero
theorem cyA_snoc {l : List Dd} {i : Nat} (h : i < l.length) : cyA (l.take (i + 1)) = cyS (cyA (l.take i)) (l.getD i default) := take_fold cyS zeroG default h
theorem of_wt_no {G : Gr} {who : Int} {s : BitVec 64} (h : wtE G who s ≠ 0) : ofG (wtG G who s) who = ofG G who := by unfold wtG; rw [if_neg h]
theorem of_wt_yes {G : Gr} (hG : G.length = 64) {who : Int} {s : BitVec 64} (h : wtE G who s = 0) : ofG (wtG G who s) who = s := by
  have hz := (wtE_zero h).1
  unfold wtG ofG; rw [if_pos h, if_pos (inG_iff.2 hz), ot_set hG (by omega), if_pos rfl]
/-- the edges of a graph that has none around make none around -/
theorem unS_of {G : Gr} : ∀ (l : List Ed) (F : Gr), F.length = 64 → GLe F G → (∀ e ∈ l, inG e.who = true ∧ hasB (ot G e.who.toNat) e.to = true) → GLe (l.foldl unS F) G
  | [], F, _, h, _ => h
  | x :: l, F, hF, h, hl => by
    refine unS_of l _ (unS_len hF x) (fun j k hb => ?_) (fun e he => hl e (List.mem_cons_of_mem _ he))
    unfold unS at hb
    have hx := hl x (List.mem_cons_self ..)
    split at hb
    · have hi := inG_iff.1 hx.1
      rw [ot_set hF (by omega)] at hb
      split at hb
      · rename_i hj; subst hj
        rw [hasB_withS, Bool.or_eq_true] at hb
        rcases hb with hb | hb
        · exact h _ _ hb
        · simp only [Bool.and_eq_true, decide_eq_true_eq] at hb
          rw [show (k : Int) = x.to by omega]; exact hx.2
      · exact h _ _ hb
    · exact h _ _ hb
theorem edN_mem {G : Gr} : ∀ {n : Nat} {e : Ed}, n ≤ 64 → e ∈ edN G n → inG e.who = true ∧ hasB (ot G e.who.toNat) e.to = true
  | 0, e, _, h => by simp [edN] at h
  | n + 1, e, hn, h => by
    rw [edN_succ, List.mem_append] at h
    rcases h with h | h
    · exact edN_mem (by omega) h
    · unfold edI at h
      obtain ⟨k, hk, rfl⟩ := List.mem_map.1 h
      unfold allL at hk
      have hk2 := (List.mem_filter.1 hk).2
      exact ⟨inG_iff.2 ⟨by simp, by simp only; omega⟩, by simp only [Int.toNat_natCast]; rw [hasB_nat]; exact hk2⟩
theorem acy_le {F G : Gr} (h : GLe F G) (hG : Acy G) : Acy F := fun i hr => hG i (hr.mono h (fun k hk => h i k hk))
theorem gle_zero (G : Gr) : GLe zeroG G := fun j k hb => by
  rw [ot_zeroG, hasB_zero] at hb; cases hb
theorem cyc_edges {G : Gr} (hG : Acy G) : cycB (edN G 64) = false := cycB_no (acy_le (unS_of _ _ zeroG_len (gle_zero G) (fun e he => edN_mem (by omega) he)) hG)
theorem acy_bit {G : Gr} (hG : Acy G) {i : Nat} (hi : i < 64) : (rchG G (i : Nat)).getLsbD i = false := by
  unfold rchG; rw [if_pos (inG_iff.2 ⟨by omega, by omega⟩), Int.toNat_natCast]
  rw [← hasB_nat]
  cases h : hasB (ovr G (ot G i)) (i : Nat)
  · rfl
  · exact absurd ((ovr_iff _ _ _).1 h) (hG i)
theorem edA_inv {G : Gr} {k : Nat} {a : Array Value} (h : (edA G)[k]? = some a) : ∃ x, (edN G 64)[k]? = some x ∧ a = #[.agg (fEd x).toArray] := by
  unfold edA at h; rw [List.getElem?_map, Option.map_eq_some_iff] at h
  obtain ⟨i, h1, rfl⟩ := h; exact ⟨i, h1, rfl⟩
set_option maxRecDepth 100000 in
theorem graphCycles {l : List Dd} {ad : Option Addr} {n cap : Nat} (w : World) (hT : Tab w) (hn : n = l.length) (hl : Sr fDd 3 l (.slice ad n cap) w) (hkd : ∀ d ∈ l, 0 ≤ d.kind) : Ret Tryd.prog 11 #[.slice ad n cap] w (fun v w' => v = .bool true ∧ Ext w w') := by
  have hpos := hT.pos
  refine Ret.enterM (l := [.slice ad n cap]) Tryd.func11 rfl Tryd.ntmps11 rfl ([]) (no) (Mem.nil w) ?_
  refine wpM.seq ?_
  refine wpM.region ?_
  refine LM.val (ov_assign rfl) ?_
  refine LM.nil ?_
  refine QM.sub (e' := [(0, _)]) ⟨rfl, trivial⟩ ?_
  refine QM.then ?_
  refine wpM.seq ?_
  refine wpM.seq ?_
  refine wpM.region ?_
  refine LM.callE (oc_call (enters_fn Tryd.func26 (by kernel_rfl) rfl) rfl) (fun w hm hc hg => awake22 w (hT.ext hc)) ?_
  first | refine LM.val (ov_notD rfl) ?_ | refine LM.val (ov_not rfl) ?_
  refine LM.nil ?_
  refine QM.sub (e' := [(0, _), (12, _)]) ⟨rfl, rfl, trivial⟩ ?_
  refine QM.then ?_
  first | refine wpM.condD rfl (fun h1 => ?_) (fun h1 => ?_) | refine wpM.condB rfl (fun h1 => ?_) (fun h1 => ?_)
  ·
    refine wpM.seq ?_
    refine wpM.region ?_
    refine LM.val (ov_assign rfl) ?_
    refine LM.nil ?_
    refine QM.sub (e' := [(2, _)]) ⟨rfl, trivial⟩ ?_
    refine QM.then ?_
    refine wpM.ret ?_
    refine QM.then_ret ?_
    refine QM.leave (.inl rfl) [.tmp 2] Tryd.results11 rfl ?_
    intro w' hm' hc' hg'
    -- leaf 1: h1+
    first | exact ⟨rfl, hc'⟩ | (exfalso; first | omega | (simp at *; done) | (simp_all; done))
  ·
    refine wpM.skip ?_
    refine QM.then ?_
    refine wpM.seq ?_
    refine wpM.seq ?_
    refine wpM.region ?_
    refine LM.val (ov_move rfl) ?_
    refine LM.val (ov_len Tryd.underlying37 rfl) ?_
    refine LM.val (ov_gtr rfl rfl) ?_
    refine LM.nil ?_
    refine QM.sub (e' := [(0, _), (15, _)]) ⟨rfl, rfl, trivial⟩ ?_
    refine QM.then ?_
    first | refine wpM.condD rfl (fun h2 => ?_) (fun h2 => ?_) | refine wpM.condB rfl (fun h2 => ?_) (fun h2 => ?_)
    ·
      refine wpM.seq ?_
      refine wpM.region ?_
      refine LM.val (ov_assign rfl) ?_
      refine LM.nil ?_
      refine QM.sub (e' := [(2, _)]) ⟨rfl, trivial⟩ ?_
      refine QM.then ?_
      refine wpM.ret ?_
      refine QM.then_ret ?_
      refine QM.leave (.inl rfl) [.tmp 2] Tryd.results11 rfl ?_
      intro w' hm' hc' hg'
      -- leaf 2: h1- h2+
      first | exact ⟨rfl, hc'⟩ | (exfalso; first | omega | (simp at *; done) | (simp_all; done))
    ·
      refine wpM.skip ?_
      refine QM.then ?_
      refine wpM.seq ?_
      refine wpM.region ?_
      refine LM.callT (oc_call (enters_fn Tryd.func27 (by kernel_rfl) rfl) rfl) NewGT.mono (fun w hm hc hg => gnew_spec w) ?_
      rintro u16 m16 ⟨bg, rfl, rfl, hbg⟩ -
      refine LM.val (ov_assign rfl) ?_
      refine LM.nil ?_
      refine QM.sub (e' := [(0, _), (3, _)]) ⟨rfl, rfl, trivial⟩ ?_
      refine QM.then ?_
      refine wpM.seq ?_
      refine wpM.seq ?_
      refine wpM.region ?_
      refine LM.val (ov_move rfl) ?_
      refine LM.val (ov_len Tryd.underlying37 rfl) ?_
      refine LM.val (ov_move rfl) ?_
      refine LM.nil ?_
      refine QM.sub (e' := [(3, _), (17, _), (18, _), (19, _)]) ⟨rfl, rfl, rfl, rfl, trivial⟩ ?_
      refine QM.then ?_
      refine wpM.block ?_
      refine wpM.loopK0 (α := Nat × Gr) (fun ⟨i, G⟩ => [(19, .int .i64 (i : Nat))]) [(3, _), (17, _), (18, _)] (fun ⟨i, G⟩ => gB bg G :: []) (fun ⟨i, G⟩ => i ≤ l.length ∧ G = cyA (l.take i)) (fun ⟨i, G⟩ => l.length - i) ((0, zeroG)) ⟨(by first | rfl | exact lk rfl (by congr 1; omega) | exact lk rfl (by simp)), rfl, rfl, rfl, trivial⟩ (by (repeat' (first | exact SubM.nil _ | refine SubM.cons rfl ?_ | refine SubM.app ?_))) ⟨Nat.zero_le _, rfl⟩ ?_
      rintro ⟨i, G⟩ ⟨hi, hG⟩
      change wpM _ _ _ _ _ _ _ (gB bg G :: []) _ _ _
      obtain ⟨hlen, hA⟩ : G.length = 64 ∧ Acy G := (by rw [hG]; exact cyA_inv _)
      refine wpM.seq ?_
      refine wpM.region ?_
      refine LM.val (ov_lss rfl rfl) ?_
      refine LM.nil ?_
      refine QM.sub (e' := [(3, _), (17, _), (18, _), (19, _), (20, _)]) ⟨rfl, rfl, rfl, rfl, rfl, trivial⟩ ?_
      refine QM.then ?_
      refine wpM.seq ?_
      first | refine wpM.condD rfl (fun h3 => ?_) (fun h3 => ?_) | refine wpM.condB rfl (fun h3 => ?_) (fun h3 => ?_)
      ·
        have hk0 : 0 ≤ (l.getD i default).kind := hkd _ (List.mem_of_getElem? (getq default (by omega)))
        refine wpM.skip ?_
        refine QM.then ?_
        refine wpM.seq ?_
        refine wpM.block ?_
        refine wpM.seq ?_
        refine wpM.region ?_
        first | refine LM.val (ov_idxSN (by first | exact Sr.spt (by assumption) | exact Sl.spt (by assumption)) Tryd.underlying37 Tryd.sizeOf41 rfl rfl (by omega)) ?_ | refine LM.val (ov_idxS (by first | exact Sr.spt (by assumption) | exact Sl.spt (by assumption)) Tryd.underlying37 Tryd.sizeOf41 rfl rfl (by omega)) ?_ | refine LM.val (ov_idx Tryd.underlying37 Tryd.sizeOf41 rfl rfl (by omega)) ?_
        first | refine LM.rd (om_slA (by assumption) (by intro _; rfl) Tryd.isAgg41 Tryd.sizeOf41 rfl (by exact getq default (by first | omega | (simp only [List.length_set, List.length_append, List.length_cons, List.length_nil]; omega)))) ?_ | refine LM.rdC (om_srEA (by assumption) (by intro _; rfl) Tryd.isAgg41 Tryd.sizeOf41 rfl (by exact getq default (by first | omega | (simp only [List.length_set, List.length_append, List.length_cons, List.length_nil]; omega))) id) ?_ | refine LM.rd (om_ldW Tryd.isAgg41 Tryd.sizeOf41 rfl rfl) ?_ | refine LM.rd (om_ldA Tryd.isAgg41 Tryd.sizeOf41 rfl (vs := [_, _, _]) rfl ⟨rfl, rfl, rfl, trivial⟩) ?_
        refine LM.alloc Tryd.zeroValue41 rfl (fun b5 hb5 => ?_)
        first | refine LM.stW Tryd.sizeOf41 rfl rfl rfl rfl (by first | rfl | decide | (simp; done)) (fun hlt => absurd hlt (by omega)) ?_ | refine LM.st Tryd.sizeOf41 rfl rfl rfl (by first | decide | exact Nat.le_of_ble_eq_true rfl | (simp; done) | (simp; omega)) rfl (fun hlt => absurd hlt (by omega)) ?_
        refine LM.nil ?_
        refine QM.sub (e' := [(3, _), (5, _), (17, _), (18, _), (19, _)]) ⟨rfl, rfl, rfl, rfl, rfl, trivial⟩ ?_
        refine QM.then ?_
        refine wpM.seq ?_
        refine wpM.region ?_
        refine LM.val (ov_move rfl) ?_
        refine LM.val (ov_field Tryd.underlying41 rfl Tryd.sizeOf3 rfl (k := 1) rfl rfl) ?_
        first | refine LM.rd (om_ld Tryd.isAgg3 rfl rfl) ?_
        refine LM.callE (oc_call (enters_fn Tryd.func31 (by kernel_rfl) rfl) rfl) (fun w hm hc hg => gof_spec bg G _ w hlen (hm.pick _)) ?_
        refine LM.val (ov_assign rfl) ?_
        refine LM.nil ?_
        refine QM.sub (e' := [(3, _), (5, _), (6, _), (17, _), (18, _), (19, _)]) ⟨rfl, rfl, rfl, rfl, rfl, rfl, trivial⟩ ?_
        refine QM.then ?_
        refine wpM.seq ?_
        refine wpM.seq ?_
        refine wpM.region ?_
        refine LM.val (ov_move rfl) ?_
        refine LM.val (ov_field Tryd.underlying41 rfl Tryd.sizeOf3 rfl (k := 1) rfl rfl) ?_
        first | refine LM.rd (om_ld Tryd.isAgg3 rfl rfl) ?_
        refine LM.val (ov_field Tryd.underlying41 rfl Tryd.sizeOf23 rfl (k := 2) rfl rfl) ?_
        first | refine LM.rd (om_ld Tryd.isAgg23 rfl rfl) ?_
        refine LM.cW (oc_call (enters_fn Tryd.func28 (by kernel_rfl) rfl) rfl) (fun w hm hc hg => wait_spec bg G _ _ w hlen (hT.ext hc) (by omega) (hm.pick _)) rfl (fun hlt => absurd hlt (by omega)) ?_
        refine LM.val (ov_assign rfl) ?_
        refine LM.nil ?_
        refine QM.sub (e' := [(3, _), (5, _), (6, _), (7, _), (17, _), (18, _), (19, _)]) ⟨rfl, rfl, rfl, rfl, rfl, rfl, rfl, trivial⟩ ?_
        refine QM.then ?_
        refine wpM.seq ?_
        refine wpM.draw [(0, 0), (1, 0), (2, 0), (3, 0), (4, 0), (5, 1), (7, 0), (6, 2), (8, 0), (9, 0), (10, 0), (11, 0), (12, 0), (13, 0), (14, 0), (15, 0), (16, 1), (18, 0), (19, 1), (17, 2), (20, 0), (21, 0), (22, 0)] (by kernel_rfl) (by kernel_rfl) ?_
        refine LD.val rfl rfl (ov_move rfl) ?_
        refine LD.val rfl rfl (ov_neq rfl rfl) ?_
        refine LD.val rfl rfl (ov_move rfl) ?_
        first | refine LD.splitD (t := 35) rfl (fun h4 => ?_) (fun h4 => ?_) | refine LD.splitB (t := 35) rfl (fun h4 => ?_) (fun h4 => ?_)
        ·
          refine LD.val rfl ⟨35, _, rfl, rfl, rfl⟩ (ov_move rfl) ?_
          refine LD.val rfl ⟨35, _, rfl, rfl, rfl⟩ (ov_field Tryd.underlying41 rfl Tryd.sizeOf3 rfl (k := 1) rfl rfl) ?_
          first | refine LD.rd rfl ⟨35, _, rfl, rfl, rfl⟩ (om_ld Tryd.isAgg3 rfl rfl) ?_
          refine LD.val rfl ⟨35, _, rfl, rfl, rfl⟩ (ov_move rfl) ?_
          refine LD.callE rfl ⟨35, _, rfl, rfl, rfl⟩ (oc_call (enters_fn Tryd.func31 (by kernel_rfl) rfl) rfl) (fun w hm hc hg => gof_spec bg (wtG G (l.getD i default).who (l.getD i default).set) _ w (wtG_len hlen _ _) (hm.pick _)) ?_
          refine LD.val rfl ⟨35, _, rfl, rfl, rfl⟩ (ov_uneq rfl rfl) ?_
          refine LD.val rfl rfl (ov_pickT rfl rfl) ?_
          refine LD.val rfl rfl (ov_move rfl) ?_
          first | refine LD.splitD (t := 43) rfl (fun h5 => ?_) (fun h5 => ?_) | refine LD.splitB (t := 43) rfl (fun h5 => ?_) (fun h5 => ?_)
          ·
            exact absurd (of_wt_no h4) h5
          ·
            refine LD.val rfl ⟨43, _, rfl, rfl, rfl⟩ (ov_move rfl) ?_
            refine LD.val rfl ⟨43, _, rfl, rfl, rfl⟩ (ov_eql rfl rfl) ?_
            refine LD.val rfl ⟨43, _, rfl, rfl, rfl⟩ (ov_move rfl) ?_
            first | refine LD.splitD (t := 46) rfl (fun h6 => ?_) (fun h6 => ?_) | refine LD.splitB (t := 46) rfl (fun h6 => ?_) (fun h6 => ?_)
            ·
              exact absurd h6 h4
            ·
              refine LD.drop rfl rfl ⟨46, _, rfl, rfl, rfl⟩ ?_
              refine LD.drop rfl rfl ⟨46, _, rfl, rfl, rfl⟩ ?_
              refine LD.drop rfl rfl ⟨46, _, rfl, rfl, rfl⟩ ?_
              refine LD.drop rfl rfl ⟨46, _, rfl, rfl, rfl⟩ ?_
              refine LD.drop rfl rfl ⟨46, _, rfl, rfl, rfl⟩ ?_
              refine LD.drop rfl rfl ⟨46, _, rfl, rfl, rfl⟩ ?_
              refine LD.drop rfl rfl ⟨46, _, rfl, rfl, rfl⟩ ?_
              refine LD.val rfl ⟨43, _, rfl, rfl, rfl⟩ (ov_pickF rfl rfl) ?_
              refine LD.val rfl rfl (ov_pickF rfl rfl) ?_
              refine LD.nil ?_
              refine QM.sub (e' := [(3, _), (5, _), (17, _), (18, _), (19, _), (55, _)]) ⟨rfl, rfl, rfl, rfl, rfl, rfl, trivial⟩ ?_
              refine QM.then ?_
              refine wpM.condF rfl ?_
              refine wpM.skip ?_
              refine QM.then ?_
              refine wpM.seq ?_
              refine wpM.region ?_
              refine LM.val (ov_field Tryd.underlying41 rfl Tryd.sizeOf5 rfl (k := 0) rfl rfl) ?_
              first | refine LM.rd (om_ld Tryd.isAgg5 rfl rfl) ?_
              first | refine LM.val (ov_remK rfl rfl (by omega) (by omega)) ?_ | refine LM.val (ov_remJ rfl rfl (by omega) (by omega)) ?_
              refine LM.val (ov_eql rfl rfl) ?_
              refine LM.nil ?_
              refine QM.sub (e' := [(3, _), (5, _), (17, _), (18, _), (19, _), (59, _)]) ⟨rfl, rfl, rfl, rfl, rfl, rfl, trivial⟩ ?_
              refine QM.then ?_
              first | refine wpM.condD rfl (fun h7 => ?_) (fun h7 => ?_) | refine wpM.condB rfl (fun h7 => ?_) (fun h7 => ?_)
              ·
                refine wpM.region ?_
                refine LM.val (ov_move rfl) ?_
                refine LM.val (ov_field Tryd.underlying41 rfl Tryd.sizeOf3 rfl (k := 1) rfl rfl) ?_
                first | refine LM.rd (om_ld Tryd.isAgg3 rfl rfl) ?_
                refine LM.cW (oc_call (enters_fn Tryd.func36 (by kernel_rfl) rfl) rfl) (fun w hm hc hg => clear_spec bg (wtG G (l.getD i default).who (l.getD i default).set) _ w (wtG_len hlen _ _) (hm.pick _)) rfl (fun hlt => absurd hlt (by omega)) ?_
                refine LM.nil ?_
                refine QM.sub (e' := [(3, _), (17, _), (18, _), (19, _)]) ⟨rfl, rfl, rfl, rfl, trivial⟩ ?_
                refine QM.block_normal ?_
                refine QM.then ?_
                refine wpM.region ?_
                refine LM.val (ov_add64 rfl rfl (by omega)) ?_
                refine LM.val (ov_move rfl) ?_
                refine LM.nil ?_
                refine QM.sub (e' := [(3, _), (17, _), (18, _), (19, _)]) ⟨rfl, rfl, rfl, rfl, trivial⟩ ?_
                -- again1: h1- h2- h3+ h4+ h5- h6- h7+
                refine QM.againK (i + 1, clrG (wtG G (l.getD i default).who (l.getD i default).set) (l.getD i default).who) ⟨(by first | rfl | exact lk rfl (by congr 1; omega) | exact lk rfl (by simp)), rfl, rfl, rfl, trivial⟩ (by (repeat' (first | exact SubM.nil _ | refine SubM.cons rfl ?_ | refine SubM.app ?_))) (fun _ h => h) ?_ ?_
                · exact ⟨by omega, by rw [cyA_snoc (by omega), ← hG]; unfold cyS; rw [if_pos h7]⟩
                · first | omega | (dsimp only; omega)
              ·
                refine wpM.skip ?_
                refine QM.block_normal ?_
                refine QM.then ?_
                refine wpM.region ?_
                refine LM.val (ov_add64 rfl rfl (by omega)) ?_
                refine LM.val (ov_move rfl) ?_
                refine LM.nil ?_
                refine QM.sub (e' := [(3, _), (17, _), (18, _), (19, _)]) ⟨rfl, rfl, rfl, rfl, trivial⟩ ?_
                -- again2: h1- h2- h3+ h4+ h5- h6- h7-
                refine QM.againK (i + 1, wtG G (l.getD i default).who (l.getD i default).set) ⟨(by first | rfl | exact lk rfl (by congr 1; omega) | exact lk rfl (by simp)), rfl, rfl, rfl, trivial⟩ (by (repeat' (first | exact SubM.nil _ | refine SubM.cons rfl ?_ | refine SubM.app ?_))) (fun _ h => h) ?_ ?_
                · exact ⟨by omega, by rw [cyA_snoc (by omega), ← hG]; unfold cyS; rw [if_neg h7]⟩
                · first | omega | (dsimp only; omega)
        ·
          refine LD.drop rfl rfl ⟨35, _, rfl, rfl, rfl⟩ ?_
          refine LD.drop rfl rfl ⟨35, _, rfl, rfl, rfl⟩ ?_
          refine LD.drop rfl rfl ⟨35, _, rfl, rfl, rfl⟩ ?_
          refine LD.drop rfl rfl ⟨35, _, rfl, rfl, rfl⟩ ?_
          refine LD.drop rfl rfl ⟨35, _, rfl, rfl, rfl⟩ ?_
          refine LD.drop rfl rfl ⟨35, _, rfl, rfl, rfl⟩ ?_
          refine LD.val rfl rfl (ov_pickF rfl rfl) ?_
          refine LD.val rfl rfl (ov_move rfl) ?_
          refine LD.val rfl ⟨43, _, rfl, rfl, rfl⟩ (ov_move rfl) ?_
          refine LD.val rfl ⟨43, _, rfl, rfl, rfl⟩ (ov_eql rfl rfl) ?_
          refine LD.val rfl ⟨43, _, rfl, rfl, rfl⟩ (ov_move rfl) ?_
          first | refine LD.splitD (t := 46) rfl (fun h8 => ?_) (fun h8 => ?_) | refine LD.splitB (t := 46) rfl (fun h8 => ?_) (fun h8 => ?_)
          ·
            refine LD.val rfl ⟨46, _, rfl, rfl, rfl⟩ (ov_move rfl) ?_
            refine LD.val rfl ⟨46, _, rfl, rfl, rfl⟩ (ov_field Tryd.underlying41 rfl Tryd.sizeOf3 rfl (k := 1) rfl rfl) ?_
            first | refine LD.rd rfl ⟨46, _, rfl, rfl, rfl⟩ (om_ld Tryd.isAgg3 rfl rfl) ?_
            refine LD.val rfl ⟨46, _, rfl, rfl, rfl⟩ (ov_field Tryd.underlying41 rfl Tryd.sizeOf23 rfl (k := 2) rfl rfl) ?_
            first | refine LD.rd rfl ⟨46, _, rfl, rfl, rfl⟩ (om_ld Tryd.isAgg23 rfl rfl) ?_
            refine LD.callE rfl ⟨46, _, rfl, rfl, rfl⟩ (oc_call (enters_fn Tryd.func31 (by kernel_rfl) rfl) rfl) (fun w hm hc hg => gof_spec bg (wtG G (l.getD i default).who (l.getD i default).set) _ w (wtG_len hlen _ _) (hm.pick _)) ?_
            refine LD.val rfl ⟨46, _, rfl, rfl, rfl⟩ (ov_uneq rfl rfl) ?_
            refine LD.val rfl ⟨43, _, rfl, rfl, rfl⟩ (ov_pickT rfl rfl) ?_
            refine LD.val rfl rfl (ov_pickF rfl rfl) ?_
            refine LD.nil ?_
            refine QM.sub (e' := [(3, _), (5, _), (17, _), (18, _), (19, _), (55, _)]) ⟨rfl, rfl, rfl, rfl, rfl, rfl, trivial⟩ ?_
            refine QM.then ?_
            first | refine wpM.condD rfl (fun h9 => ?_) (fun h9 => ?_) | refine wpM.condB rfl (fun h9 => ?_) (fun h9 => ?_)
            ·
              exact absurd (of_wt_yes hlen h8) h9
            ·
              refine wpM.skip ?_
              refine QM.then ?_
              refine wpM.seq ?_
              refine wpM.region ?_
              refine LM.val (ov_field Tryd.underlying41 rfl Tryd.sizeOf5 rfl (k := 0) rfl rfl) ?_
              first | refine LM.rd (om_ld Tryd.isAgg5 rfl rfl) ?_
              first | refine LM.val (ov_remK rfl rfl (by omega) (by omega)) ?_ | refine LM.val (ov_remJ rfl rfl (by omega) (by omega)) ?_
              refine LM.val (ov_eql rfl rfl) ?_
              refine LM.nil ?_
              refine QM.sub (e' := [(3, _), (5, _), (17, _), (18, _), (19, _), (59, _)]) ⟨rfl, rfl, rfl, rfl, rfl, rfl, trivial⟩ ?_
              refine QM.then ?_
              first | refine wpM.condD rfl (fun h10 => ?_) (fun h10 => ?_) | refine wpM.condB rfl (fun h10 => ?_) (fun h10 => ?_)
              ·
                refine wpM.region ?_
                refine LM.val (ov_move rfl) ?_
                refine LM.val (ov_field Tryd.underlying41 rfl Tryd.sizeOf3 rfl (k := 1) rfl rfl) ?_
                first | refine LM.rd (om_ld Tryd.isAgg3 rfl rfl) ?_
                refine LM.cW (oc_call (enters_fn Tryd.func36 (by kernel_rfl) rfl) rfl) (fun w hm hc hg => clear_spec bg (wtG G (l.getD i default).who (l.getD i default).set) _ w (wtG_len hlen _ _) (hm.pick _)) rfl (fun hlt => absurd hlt (by omega)) ?_
                refine LM.nil ?_
                refine QM.sub (e' := [(3, _), (17, _), (18, _), (19, _)]) ⟨rfl, rfl, rfl, rfl, trivial⟩ ?_
                refine QM.block_normal ?_
                refine QM.then ?_
                refine wpM.region ?_
                refine LM.val (ov_add64 rfl rfl (by omega)) ?_
                refine LM.val (ov_move rfl) ?_
                refine LM.nil ?_
                refine QM.sub (e' := [(3, _), (17, _), (18, _), (19, _)]) ⟨rfl, rfl, rfl, rfl, trivial⟩ ?_
                -- again3: h1- h2- h3+ h4- h8+ h9- h10+
                refine QM.againK (i + 1, clrG (wtG G (l.getD i default).who (l.getD i default).set) (l.getD i default).who) ⟨(by first | rfl | exact lk rfl (by congr 1; omega) | exact lk rfl (by simp)), rfl, rfl, rfl, trivial⟩ (by (repeat' (first | exact SubM.nil _ | refine SubM.cons rfl ?_ | refine SubM.app ?_))) (fun _ h => h) ?_ ?_
                · exact ⟨by omega, by rw [cyA_snoc (by omega), ← hG]; unfold cyS; rw [if_pos h10]⟩
                · first | omega | (dsimp only; omega)
              ·
                refine wpM.skip ?_
                refine QM.block_normal ?_
                refine QM.then ?_
                refine wpM.region ?_
                refine LM.val (ov_add64 rfl rfl (by omega)) ?_
                refine LM.val (ov_move rfl) ?_
                refine LM.nil ?_
                refine QM.sub (e' := [(3, _), (17, _), (18, _), (19, _)]) ⟨rfl, rfl, rfl, rfl, trivial⟩ ?_
                -- again4: h1- h2- h3+ h4- h8+ h9- h10-
                refine QM.againK (i + 1, wtG G (l.getD i default).who (l.getD i default).set) ⟨(by first | rfl | exact lk rfl (by congr 1; omega) | exact lk rfl (by simp)), rfl, rfl, rfl, trivial⟩ (by (repeat' (first | exact SubM.nil _ | refine SubM.cons rfl ?_ | refine SubM.app ?_))) (fun _ h => h) ?_ ?_
                · exact ⟨by omega, by rw [cyA_snoc (by omega), ← hG]; unfold cyS; rw [if_neg h10]⟩
                · first | omega | (dsimp only; omega)
          ·
            exact absurd (Classical.not_not.1 h4) h8
      ·
        refine wpM.exit ?_
        refine QM.then_exit ?_
        refine QM.then_exit ?_
        refine QM.block_hit ?_
        refine QM.then ?_
        refine wpM.seq ?_
        refine wpM.region ?_
        refine LM.alloc Tryd.zeroValue75 rfl (fun b8 hb8 => ?_)
        refine LM.nil ?_
        refine QM.sub (e' := [(3, _), (8, _)]) ⟨rfl, rfl, trivial⟩ ?_
        refine QM.then ?_
        refine wpM.seq ?_
        refine wpM.seq ?_
        refine wpM.region ?_
        refine LM.val (ov_move rfl) ?_
        refine LM.callT (oc_call (enters_fn Tryd.func52 (by kernel_rfl) rfl) rfl) EdgT.mono (fun w hm hc hg => edges_spec _ w) ?_
        rintro u66 m66 ⟨c1, rfl, rfl, hc1⟩ -
        refine LM.nil ?_
        refine QM.sub (e' := [(3, _), (8, _), (66, _)]) ⟨rfl, rfl, rfl, trivial⟩ ?_
        refine QM.then ?_
        refine wpM.block ?_
        refine wpM.toRange (α := Option Addr × Nat × Nat × Mem0) (fun k ⟨ada, na, capa, ma⟩ => slE b8 ada na capa :: (ma ++ (pB c1 (some ⟨bg, 0, none⟩) :: gB bg G :: []))) ((none, 0, 0, [])) (by (repeat' (first | exact SubM.nil _ | refine SubM.cons rfl ?_ | refine SubM.app ?_))) ?_
        refine wpM.rangeP (α := Option Addr × Nat × Nat × Mem0) (β := Unit) (enters_fn Tryd.func68 (by kernel_rfl) rfl) rfl (edges_seq (b := bg) hlen) (fun k ⟨ada, na, capa, ma⟩ Mp => slE b8 ada na capa :: (ma ++ (pB c1 (some ⟨bg, 0, none⟩) :: gB bg G :: (Mp ++ [])))) (by rintro k ⟨ada, na, capa, ma⟩ Mp; first | rfl | simp) (fun _ _ => top) (fun k ⟨ada, na, capa, ma⟩ => k ≤ (edN G 64).length ∧ na = k ∧ Sl fEd 80 2 w.heap.size ((edN G 64).take k) (.slice ada na capa) ma) (fun ⟨⟩ => []) (fun _ => top) (fun c ⟨⟩ => False) (none, 0, 0, []) rfl (fun _ h => h) ⟨Nat.zero_le _, rfl, .nil _ _ _ _⟩ (by kernel_rfl) (by intro k av hav; obtain ⟨x, hx, rfl⟩ := edA_inv hav; have hlt := (List.getElem?_eq_some_iff.1 hx).1; have htl : ((edN G 64).take k).length = k := (by rw [List.length_take]; omega); have hxd : (edN G 64).getD k default = x := (by rw [List.getD_eq_getElem?_getD, hx]; rfl); rfl) (.inl trivial) (fun k a w hm hc hg _ => ⟨SubM.mem (by (repeat' (first | exact SubM.nil _ | refine SubM.cons rfl ?_ | refine SubM.app ?_))) w hm, SubM.mem (by (repeat' (first | exact SubM.nil _ | refine SubM.cons rfl ?_ | refine SubM.app ?_))) w hm, hT.ext hc⟩) (fun _ _ _ _ => gl_top _) (fun _ _ _ => gl_top _) (fun k ⟨ada, na, capa, ma⟩ h => mm_cons rfl (mm_app h.2.2.wlk (mm_cons rfl (mm_cons rfl mm_nil)))) (fun c z _ => by ((repeat (refine mm_cons rfl ?_)); exact fun p hp => .inl (by first | exact hp | (simp at hp; done) | (simp [hp]; done) | (simp at hp ⊢; first | exact .inl hp | exact hp | (simp [hp]; done))))) ?_ ?_ ?_ ?_
        ·
          rintro k av ⟨ada, na, capa, ma⟩ l D rc n1 W1 Mp hD hll hput hrc hav ⟨hk, hna, hsa⟩
          change wpM _ _ _ _ _ _ _ ((l, Obj.loop rc) :: ([(D, Obj.deferred (some []))] ++ (slE b8 ada na capa :: (ma ++ (pB c1 (some ⟨bg, 0, none⟩) :: gB bg G :: (Mp ++ [])))))) _ _ _
          obtain ⟨x, hx, rfl⟩ := edA_inv hav; have hlt := (List.getElem?_eq_some_iff.1 hx).1; have htl : ((edN G 64).take k).length = k := (by rw [List.length_take]; omega); have hxd : (edN G 64).getD k default = x := (by rw [List.getD_eq_getElem?_getD, hx]; rfl)
          have hel := edN_len G 64
          refine wpM.region ?_
          refine LM.alloc Tryd.zeroValue80 rfl (fun b9 hb9 => ?_)
          first | refine LM.stW Tryd.sizeOf80 rfl rfl rfl rfl (by first | rfl | decide | (simp; done)) (fun hlt => absurd hlt (by omega)) ?_ | refine LM.st Tryd.sizeOf80 rfl rfl rfl (by first | decide | exact Nat.le_of_ble_eq_true rfl | (simp; done) | (simp; omega)) rfl (fun hlt => absurd hlt (by omega)) ?_
          refine LM.nil ?_
          refine QM.sub (e' := [(8, _), (9, _)]) ⟨rfl, rfl, trivial⟩ ?_
          refine QM.toBodyF (hput k ⟨ada, na, capa, ma⟩) hll ?_
          refine wpM.block ?_
          refine wpM.region ?_
          first | refine LM.rd (om_ld Tryd.isAgg75 rfl rfl) ?_
          first | refine LM.rd (om_ldW Tryd.isAgg80 Tryd.sizeOf80 rfl rfl) ?_ | refine LM.rd (om_ldA Tryd.isAgg80 Tryd.sizeOf80 rfl (vs := [_, _]) rfl ⟨rfl, rfl, trivial⟩) ?_
          refine LM.single Tryd.underlying75 Tryd.sizeOf80 Tryd.zeroValue80 rfl rfl rfl rfl rfl (fun b70 hb70 => ?_)
          refine LM.app Tryd.underlying75 Tryd.typeInfo80 rfl rfl rfl rfl rfl rfl rfl (by assumption) (by rfl) (by intro _; rfl) (by intro _ u hu; simp [fEd] at hu; (repeat (first | (rcases hu with rfl | hu) | subst hu | rfl))) (by first | exact Nat.le_refl _ | omega) (fun p hp hlt => absurd hlt (Nat.not_lt_of_le (Sl.ge (by assumption) p hp))) (by first | omega | (unfold maxLen; omega)) (by simp only [Tryd.t80]; omega) (fun ad71 n71 cap71 m71 hn71 hs71 hin71 => ?_)
          refine LM.st Tryd.sizeOf75 rfl rfl rfl (by first | decide | exact Nat.le_of_ble_eq_true rfl | (simp; done) | (simp; omega)) rfl (fun hlt => absurd hlt (by omega)) ?_
          refine LM.nil ?_
          refine QM.sub (e' := []) trivial ?_
          refine QM.block_normal ?_
          -- next1: h1- h2- h3-
          refine QM.next ((ad71, n71, cap71, m71)) (SubM.mem (by (repeat' (first | exact SubM.nil _ | refine SubM.cons rfl ?_ | refine SubM.app ?_)))) (fun _ h => h) ?_
          · exact ⟨by omega, by omega, by rw [take_snoc default (by omega), hxd]; exact hs71⟩
        ·
          rintro ⟨ada, na, capa, ma⟩ D0 hD0 ⟨hk, hna, hsa⟩
          dsimp only
          have hel := edN_len G 64; have hna2 := hna; rw [edA_len] at hna2; rw [edA_len, List.take_of_length_le (Nat.le_refl _)] at hsa
          refine QM.sub (e' := [(3, _), (8, _)]) ⟨rfl, rfl, trivial⟩ ?_
          refine QM.block_normal ?_
          refine QM.then ?_
          refine wpM.seq ?_
          refine wpM.seq ?_
          refine wpM.region ?_
          refine LM.val (ov_move rfl) ?_
          refine LM.nil ?_
          refine QM.sub (e' := [(3, _), (8, _), (72, _)]) ⟨rfl, rfl, rfl, trivial⟩ ?_
          refine QM.then ?_
          refine wpM.block ?_
          refine wpM.loopK0 (α := Nat) (fun i2 => [(72, .int .i64 (i2 : Nat))]) [(3, _), (8, _)] (fun i2 => (D0, Obj.deferred (some [])) :: slE b8 ada na capa :: (ma ++ (gB bg G :: []))) (fun i2 => i2 ≤ 64) (fun i2 => 64 - i2) (0) ⟨(by first | rfl | exact lk rfl (by congr 1; omega) | exact lk rfl (by simp)), rfl, rfl, trivial⟩ (by (repeat' (first | exact SubM.nil _ | refine SubM.cons rfl ?_ | refine SubM.app ?_))) (Nat.zero_le _) ?_
          rintro i2 hi2
          change wpM _ _ _ _ _ _ _ ((D0, Obj.deferred (some [])) :: slE b8 ada na capa :: (ma ++ (gB bg G :: []))) _ _ _
          refine wpM.seq ?_
          refine wpM.region ?_
          refine LM.val (ov_lss rfl rfl) ?_
          refine LM.nil ?_
          refine QM.sub (e' := [(3, _), (8, _), (72, _), (73, _)]) ⟨rfl, rfl, rfl, rfl, trivial⟩ ?_
          refine QM.then ?_
          refine wpM.seq ?_
          first | refine wpM.condD rfl (fun h11 => ?_) (fun h11 => ?_) | refine wpM.condB rfl (fun h11 => ?_) (fun h11 => ?_)
          ·
            refine wpM.skip ?_
            refine QM.then ?_
            refine wpM.seq ?_
            refine wpM.block ?_
            refine wpM.seq ?_
            refine wpM.region ?_
            refine LM.val (ov_move rfl) ?_
            refine LM.val (ov_assign rfl) ?_
            refine LM.nil ?_
            refine QM.sub (e' := [(3, _), (8, _), (10, _), (72, _)]) ⟨rfl, rfl, rfl, rfl, trivial⟩ ?_
            refine QM.then ?_
            refine wpM.seq ?_
            refine wpM.region ?_
            refine LM.val (ov_move rfl) ?_
            refine LM.val (ov_move rfl) ?_
            refine LM.callE (oc_call (enters_fn Tryd.func29 (by kernel_rfl) rfl) rfl) (fun w hm hc hg => greach_spec bg G _ w hlen (hT.ext hc) (hm.pick _)) ?_
            refine LM.val (ov_move rfl) ?_
            refine LM.val (ov_ushr rfl rfl (by omega)) ?_
            refine LM.val (ov_uand (b := 1#64) rfl rfl) ?_
            refine LM.val (ov_ueql (b := 1#64) rfl rfl) ?_
            refine LM.nil ?_
            refine QM.sub (e' := [(3, _), (8, _), (72, _), (81, _)]) ⟨rfl, rfl, rfl, rfl, trivial⟩ ?_
            refine QM.then ?_
            first | refine wpM.condD rfl (fun h12 => ?_) (fun h12 => ?_) | refine wpM.condB rfl (fun h12 => ?_) (fun h12 => ?_)
            ·
              exfalso; rw [Int.toNat_natCast, shr_and, acy_bit hA (by omega)] at h12; simp at h12
            ·
              refine wpM.skip ?_
              refine QM.block_normal ?_
              refine QM.then ?_
              refine wpM.region ?_
              refine LM.val (ov_add64 rfl rfl (by omega)) ?_
              refine LM.val (ov_move rfl) ?_
              refine LM.nil ?_
              refine QM.sub (e' := [(3, _), (8, _), (72, _)]) ⟨rfl, rfl, rfl, trivial⟩ ?_
              -- again1: h1- h2- h3- h11+ h12-
              refine QM.againK (i2 + 1) ⟨(by first | rfl | exact lk rfl (by congr 1; omega) | exact lk rfl (by simp)), rfl, rfl, trivial⟩ (by (repeat' (first | exact SubM.nil _ | refine SubM.cons rfl ?_ | refine SubM.app ?_))) (fun _ h => h) ?_ ?_
              · omega
              · first | omega | (dsimp only; omega)
          ·
            refine wpM.exit ?_
            refine QM.then_exit ?_
            refine QM.then_exit ?_
            refine QM.block_hit ?_
            refine QM.then ?_
            refine wpM.seq ?_
            refine wpM.region ?_
            first | refine LM.rd (om_ld Tryd.isAgg75 rfl rfl) ?_
            refine LM.callE (oc_call (enters_fn Tryd.func53 (by kernel_rfl) rfl) rfl) (fun w hm hc hg => rcyclic_spec w hna2 (hsa.srM (by intro _; rfl) hm) (by omega)) ?_
            first | refine LM.val (ov_notD rfl) ?_ | refine LM.val (ov_not rfl) ?_
            refine LM.val (ov_move rfl) ?_
            first | refine LM.splitD (t := 86) rfl (fun h13 => ?_) (fun h13 => ?_) | refine LM.splitB (t := 86) rfl (fun h13 => ?_) (fun h13 => ?_)
            ·
              refine LM.strip (t := 86) rfl rfl rfl ?_
              first | refine LM.rd (om_ld Tryd.isAgg75 rfl rfl) ?_
              refine LM.strip (t := 86) rfl rfl rfl ?_
              refine LM.callE (oc_call (enters_fn Tryd.func54 (by kernel_rfl) rfl) rfl) (fun w hm hc hg => cyclic_spec w (hT.ext hc) hna2 (hsa.srM (by intro _; rfl) hm) (by omega)) ?_
              refine LM.strip (t := 86) rfl rfl rfl ?_
              first | refine LM.val (ov_notD rfl) ?_ | refine LM.val (ov_not rfl) ?_
              refine LM.val (ov_pickT rfl rfl) ?_
              refine LM.val (ov_assign rfl) ?_
              refine LM.nil ?_
              refine QM.sub (e' := [(2, _)]) ⟨rfl, trivial⟩ ?_
              refine QM.then ?_
              refine wpM.ret ?_
              refine QM.leaveDF (ds := [D0]) (.inl rfl) [.tmp 2] Tryd.results11 rfl (fun D h => by simp only [List.mem_cons, List.not_mem_nil, or_false] at h; omega) ?_
              intro w' hm' hc'
              -- leaf 3: h1- h2- h3- h11- h13+
              refine ⟨?_, hc'⟩; simp only [resV]; rw [cyc_edges hA]; rfl
            ·
              exfalso; rw [cyc_edges hA] at h13; cases h13
        ·
          rintro ⟨⟩ D0 hD0 hx
          first | exact hx.elim | cases hx.1
        ·
          rintro id ⟨⟩ D0 hD0 hx
          first | exact hx.elim | cases hx.1 | cases hx

end Go.Eng

