/- The walks of a reader of words. No condition. -/
import Derived.Test.YtoeojcnodjjpgaaDoorPgmA
set_option linter.unusedVariables false
set_option linter.unusedSimpArgs false
namespace Go.Eng
open Go Go.Proofs Go.RowKit

theorem Sr.kp {α : Type} {f : α → List Value} {s : Nat} {xs : List α} {ad : Option Addr} {n cap b : Nat} {w w' : World} (h : Sr f s xs (.slice ad n cap) w) (k : Chg (fun x => x = b) w w') (hab : 0 < xs.length → adB ad ≠ b) : Sr f s xs (.slice ad n cap) w' := by
  by_cases h0 : 0 < xs.length
  · exact h.keep k (fun b' off n' c' e => by simp only [Value.slice.injEq] at e; obtain ⟨rfl, _, _⟩ := e; exact hab h0)
  · obtain ⟨ad', cap', h1, h2, h3⟩ := h
    exact ⟨ad', cap', h1, h2, fun q => absurd q h0⟩
abbrev rO (ad : Option Addr) (n cap : Nat) (i : Nat) (e : Int) : Obj := .cells #[.slice ad n cap, .int .i64 (i : Nat), .int .i64 e] 101 (0, 0)
abbrev rB (b : Nat) (ad : Option Addr) (n cap : Nat) (i : Nat) (e : Int) : Nat × Obj := (b, rO ad n cap i e)
def isE (ws : List Wrd) (i : Nat) (e k : Int) (t : List UInt8) : Bool := decide (e = 0) && decide (i < ws.length) && decide ((ws.getD i default).k = k) && decide ((ws.getD i default).t = t)
theorem isE_eq {ws : List Wrd} {i : Nat} {e k : Int} {t : List UInt8} : isE ws i e k t = (decide (e = 0) && isR ws i k t) := by unfold isE isR; rw [Bool.and_assoc, Bool.and_assoc, Bool.and_assoc]
theorem isE_lt {ws : List Wrd} {i : Nat} {e k : Int} {t : List UInt8} (h : isE ws i e k t = true) : i < ws.length ∧ e = 0 := by
  unfold isE at h; simp only [Bool.and_eq_true, decide_eq_true_eq] at h; exact ⟨h.1.1.2, h.1.1.1⟩
def mayE (ws : List Wrd) (i : Nat) (e k : Int) (t : List UInt8) : Nat := if isE ws i e k t then i + 1 else i
def needE (ws : List Wrd) (i : Nat) (e k : Int) (t : List UInt8) : Nat × Int := if isE ws i e k t then (i + 1, e) else if e = 0 then (i, 5) else (i, e)
def numE (ws : List Wrd) (i : Nat) (e lo hi : Int) : Nat × Int × Int := if e ≠ 0 then (i, e, 0) else numR ws i lo hi
theorem num_a {ws : List Wrd} {i : Nat} {e lo hi : Int} (h : lo = -1) : numE ws i e lo hi = (i, e, 0) := by
  unfold numE numR; rw [if_pos h]
  by_cases h0 : e = 0
  · rw [if_neg (by simp [h0]), h0]
  · rw [if_pos h0]
theorem num_b {ws : List Wrd} {i : Nat} {e lo hi : Int} (h : e ≠ 0) : numE ws i e lo hi = (i, e, 0) := by unfold numE; rw [if_pos h]
theorem num_c {ws : List Wrd} {i : Nat} {lo hi : Int} (h : ¬ lo = -1) (h2 : ws.length ≤ i ∨ (ws.getD i default).k ≠ 2) : numE ws i 0 lo hi = (i, 5, 0) := by
  unfold numE numR; rw [if_neg (by simp), if_neg h, if_pos (by simp only [Bool.or_eq_true, decide_eq_true_eq]; exact h2)]
theorem num_d {ws : List Wrd} {i : Nat} {lo hi : Int} (h : ¬ lo = -1) (h2 : i < ws.length) (h3 : (ws.getD i default).k = 2) (h4 : hasB lo hi (ws.getD i default).n = false) : numE ws i 0 lo hi = (i, 1, 0) := by
  unfold numE numR; rw [if_neg (by simp), if_neg h, if_neg (by simp only [Bool.or_eq_true, decide_eq_true_eq, not_or]; exact ⟨by omega, fun q => q h3⟩), if_neg (by rw [h4]; simp)]
theorem num_e {ws : List Wrd} {i : Nat} {lo hi : Int} (h : ¬ lo = -1) (h2 : i < ws.length) (h3 : (ws.getD i default).k = 2) (h4 : hasB lo hi (ws.getD i default).n = true) : numE ws i 0 lo hi = (i + 1, 0, (ws.getD i default).n) := by
  unfold numE numR; rw [if_neg (by simp), if_neg h, if_neg (by simp only [Bool.or_eq_true, decide_eq_true_eq, not_or]; exact ⟨by omega, fun q => q h3⟩), if_pos h4]
set_option maxRecDepth 100000 in
theorem fail_spec (b : Nat) {ad : Option Addr} {n cap : Nat} (i : Nat) (e0 e : Int) (w : World) (hM : Mem w [rB b ad n cap i e0]) : Ret Tryd.prog 62 #[.pointer (some ⟨b, 0, none⟩), .int .i64 e] w (WrP b (.tuple #[]) (rO ad n cap i (if e0 = 0 then e else e0)) w) := by
  refine Ret.enterM (l := [.pointer (some ⟨b, 0, none⟩), .int .i64 e]) Tryd.func62 rfl Tryd.ntmps62 rfl ([rB b ad n cap i e0]) ((fun x => x = b)) hM ?_
  refine wpM.seq ?_
  refine wpM.region ?_
  refine LM.val (ov_move rfl) ?_
  refine LM.val (ov_nilCheck rfl) ?_
  refine LM.val (ov_field Tryd.underlying101 rfl Tryd.sizeOf25 rfl (k := 2) rfl rfl) ?_
  first | refine LM.rd (om_ld Tryd.isAgg25 rfl rfl) ?_
  refine LM.val (ov_eql rfl rfl) ?_
  refine LM.nil ?_
  refine QM.sub (e' := [(0, _), (1, _), (8, _)]) ⟨rfl, rfl, rfl, trivial⟩ ?_
  refine QM.then ?_
  first | refine wpM.condD rfl (fun h1 => ?_) (fun h1 => ?_) | refine wpM.condB rfl (fun h1 => ?_) (fun h1 => ?_)
  ·
    refine wpM.region ?_
    refine LM.val (ov_move rfl) ?_
    refine LM.val (ov_move rfl) ?_
    refine LM.val (ov_nilCheck rfl) ?_
    refine LM.val (ov_field Tryd.underlying101 rfl Tryd.sizeOf25 rfl (k := 2) rfl rfl) ?_
    refine LM.st Tryd.sizeOf25 rfl rfl rfl (by first | decide | exact Nat.le_of_ble_eq_true rfl | (simp; done) | (simp; omega)) rfl (fun _ => rfl) ?_
    refine LM.nil ?_
    refine QM.sub (e' := []) trivial ?_
    refine QM.leave (.inr rfl) [] Tryd.results62 rfl ?_
    intro w' hm' hc' hg'
    -- leaf 1: h1+
    refine ⟨rfl, hc', ?_⟩; rw [if_pos h1]; exact hm'.at b
  ·
    refine wpM.skip ?_
    refine QM.leave (.inr rfl) [] Tryd.results62 rfl ?_
    intro w' hm' hc' hg'
    -- leaf 2: h1-
    refine ⟨rfl, hc', ?_⟩; rw [if_neg h1]; exact hm'.at b

set_option maxRecDepth 100000 in
set_option maxHeartbeats 1000000 in
theorem is_spec {ws : List Wrd} (b : Nat) {ad : Option Addr} {n cap : Nat} (i : Nat) (e k : Int) (t : List UInt8) (w : World) (hn : n = ws.length) (hl : Sr fW 4 ws (.slice ad n cap) w) (hM : Mem w [rB b ad n cap i e]) : Ret Tryd.prog 60 #[.pointer (some ⟨b, 0, none⟩), .int .i64 k, vS t] w (fun v w' => v = .bool (isE ws i e k t) ∧ Ext w w') := by
  refine Ret.enterM (l := [.pointer (some ⟨b, 0, none⟩), .int .i64 k, vS t]) Tryd.func60 rfl Tryd.ntmps60 rfl ([rB b ad n cap i e]) (no) hM ?_
  refine wpM.seq ?_
  refine wpM.region ?_
  refine LM.val (ov_assign rfl) ?_
  refine LM.nil ?_
  refine QM.sub (e' := [(0, _), (1, _), (2, _)]) ⟨rfl, rfl, rfl, trivial⟩ ?_
  refine QM.then ?_
  refine wpM.seq ?_
  refine wpM.draw [(0, 0), (1, 0), (2, 0), (3, 1), (4, 0), (5, 0), (6, 0), (7, 0), (8, 0), (9, 1), (10, 0), (11, 0), (12, 0), (13, 1), (14, 0), (15, 0), (16, 0), (17, 0), (18, 0), (19, 0), (20, 0), (21, 1), (22, 0), (23, 0), (24, 0), (25, 1), (26, 0), (27, 0), (28, 1), (29, 0), (30, 0), (31, 0), (32, 0), (33, 0), (34, 0), (35, 0), (36, 1), (37, 0), (38, 0), (39, 0), (40, 1), (41, 0), (42, 0), (43, 1), (44, 0), (45, 0), (46, 0), (47, 0)] (by kernel_rfl) (by kernel_rfl) ?_
  refine LD.val rfl rfl (ov_move rfl) ?_
  refine LD.val rfl rfl (ov_nilCheck rfl) ?_
  refine LD.val rfl rfl (ov_field Tryd.underlying101 rfl Tryd.sizeOf25 rfl (k := 2) rfl rfl) ?_
  first | refine LD.rd rfl rfl (om_ld Tryd.isAgg25 rfl rfl) ?_
  refine LD.val rfl rfl (ov_eql rfl rfl) ?_
  refine LD.val rfl rfl (ov_move rfl) ?_
  first | refine LD.splitD (t := 12) rfl (fun h1 => ?_) (fun h1 => ?_) | refine LD.splitB (t := 12) rfl (fun h1 => ?_) (fun h1 => ?_)
  ·
    refine LD.val rfl ⟨12, _, rfl, rfl, rfl⟩ (ov_move rfl) ?_
    refine LD.val rfl ⟨12, _, rfl, rfl, rfl⟩ (ov_nilCheck rfl) ?_
    refine LD.val rfl ⟨12, _, rfl, rfl, rfl⟩ (ov_field Tryd.underlying101 rfl Tryd.sizeOf3 rfl (k := 1) rfl rfl) ?_
    first | refine LD.rd rfl ⟨12, _, rfl, rfl, rfl⟩ (om_ld Tryd.isAgg3 rfl rfl) ?_
    refine LD.val rfl ⟨12, _, rfl, rfl, rfl⟩ (ov_move rfl) ?_
    refine LD.val rfl ⟨12, _, rfl, rfl, rfl⟩ (ov_nilCheck rfl) ?_
    refine LD.val rfl ⟨12, _, rfl, rfl, rfl⟩ (ov_field Tryd.underlying101 rfl Tryd.sizeOf24 rfl (k := 0) rfl rfl) ?_
    first | refine LD.rd rfl ⟨12, _, rfl, rfl, rfl⟩ (om_ld Tryd.isAgg24 rfl rfl) ?_
    refine LD.val rfl ⟨12, _, rfl, rfl, rfl⟩ (ov_len Tryd.underlying24 rfl) ?_
    refine LD.val rfl ⟨12, _, rfl, rfl, rfl⟩ (ov_lss rfl rfl) ?_
    refine LD.val rfl rfl (ov_pickT rfl rfl) ?_
    refine LD.val rfl rfl (ov_move rfl) ?_
    first | refine LD.splitD (t := 24) rfl (fun h2 => ?_) (fun h2 => ?_) | refine LD.splitB (t := 24) rfl (fun h2 => ?_) (fun h2 => ?_)
    ·
      refine LD.val rfl ⟨24, _, rfl, rfl, rfl⟩ (ov_move rfl) ?_
      refine LD.val rfl ⟨24, _, rfl, rfl, rfl⟩ (ov_nilCheck rfl) ?_
      refine LD.val rfl ⟨24, _, rfl, rfl, rfl⟩ (ov_field Tryd.underlying101 rfl Tryd.sizeOf24 rfl (k := 0) rfl rfl) ?_
      first | refine LD.rd rfl ⟨24, _, rfl, rfl, rfl⟩ (om_ld Tryd.isAgg24 rfl rfl) ?_
      refine LD.val rfl ⟨24, _, rfl, rfl, rfl⟩ (ov_move rfl) ?_
      refine LD.val rfl ⟨24, _, rfl, rfl, rfl⟩ (ov_nilCheck rfl) ?_
      refine LD.val rfl ⟨24, _, rfl, rfl, rfl⟩ (ov_field Tryd.underlying101 rfl Tryd.sizeOf3 rfl (k := 1) rfl rfl) ?_
      first | refine LD.rd rfl ⟨24, _, rfl, rfl, rfl⟩ (om_ld Tryd.isAgg3 rfl rfl) ?_
      first | refine LD.val rfl ⟨24, _, rfl, rfl, rfl⟩ (ov_idxSN (by first | exact Sr.spt (by assumption) | exact Sl.spt (by assumption)) Tryd.underlying24 Tryd.sizeOf72 rfl rfl (by omega)) ?_ | refine LD.val rfl ⟨24, _, rfl, rfl, rfl⟩ (ov_idxS (by first | exact Sr.spt (by assumption) | exact Sl.spt (by assumption)) Tryd.underlying24 Tryd.sizeOf72 rfl rfl (by omega)) ?_ | refine LD.val rfl ⟨24, _, rfl, rfl, rfl⟩ (ov_idx Tryd.underlying24 Tryd.sizeOf72 rfl rfl (by omega)) ?_
      refine LD.val rfl ⟨24, _, rfl, rfl, rfl⟩ (ov_field Tryd.underlying72 rfl Tryd.sizeOf3 rfl (k := 0) rfl rfl) ?_
      first | refine LD.rd rfl ⟨24, _, rfl, rfl, rfl⟩ (om_slE (j := 0) (by assumption) (by intro _; rfl) Tryd.isAgg3 rfl rfl (by exact getq default (by first | omega | (simp only [List.length_set, List.length_append, List.length_cons, List.length_nil]; omega))) rfl (by rfl)) ?_ | refine LD.rdC rfl ⟨24, _, rfl, rfl, rfl⟩ (om_srE (j := 0) (by assumption) Tryd.isAgg3 rfl rfl (by exact getq default (by first | omega | (simp only [List.length_set, List.length_append, List.length_cons, List.length_nil]; omega))) (by rfl) (by rfl) id) ?_ | refine LD.rd rfl ⟨24, _, rfl, rfl, rfl⟩ (om_ld Tryd.isAgg3 rfl rfl) ?_
      refine LD.val rfl ⟨24, _, rfl, rfl, rfl⟩ (ov_move rfl) ?_
      refine LD.val rfl ⟨24, _, rfl, rfl, rfl⟩ (ov_eql rfl rfl) ?_
      refine LD.val rfl rfl (ov_pickT rfl rfl) ?_
      refine LD.val rfl rfl (ov_move rfl) ?_
      first | refine LD.splitD (t := 39) rfl (fun h3 => ?_) (fun h3 => ?_) | refine LD.splitB (t := 39) rfl (fun h3 => ?_) (fun h3 => ?_)
      ·
        refine LD.val rfl ⟨39, _, rfl, rfl, rfl⟩ (ov_move rfl) ?_
        refine LD.val rfl ⟨39, _, rfl, rfl, rfl⟩ (ov_nilCheck rfl) ?_
        refine LD.val rfl ⟨39, _, rfl, rfl, rfl⟩ (ov_field Tryd.underlying101 rfl Tryd.sizeOf24 rfl (k := 0) rfl rfl) ?_
        first | refine LD.rd rfl ⟨39, _, rfl, rfl, rfl⟩ (om_ld Tryd.isAgg24 rfl rfl) ?_
        refine LD.val rfl ⟨39, _, rfl, rfl, rfl⟩ (ov_move rfl) ?_
        refine LD.val rfl ⟨39, _, rfl, rfl, rfl⟩ (ov_nilCheck rfl) ?_
        refine LD.val rfl ⟨39, _, rfl, rfl, rfl⟩ (ov_field Tryd.underlying101 rfl Tryd.sizeOf3 rfl (k := 1) rfl rfl) ?_
        first | refine LD.rd rfl ⟨39, _, rfl, rfl, rfl⟩ (om_ld Tryd.isAgg3 rfl rfl) ?_
        first | refine LD.val rfl ⟨39, _, rfl, rfl, rfl⟩ (ov_idxSN (by first | exact Sr.spt (by assumption) | exact Sl.spt (by assumption)) Tryd.underlying24 Tryd.sizeOf72 rfl rfl (by omega)) ?_ | refine LD.val rfl ⟨39, _, rfl, rfl, rfl⟩ (ov_idxS (by first | exact Sr.spt (by assumption) | exact Sl.spt (by assumption)) Tryd.underlying24 Tryd.sizeOf72 rfl rfl (by omega)) ?_ | refine LD.val rfl ⟨39, _, rfl, rfl, rfl⟩ (ov_idx Tryd.underlying24 Tryd.sizeOf72 rfl rfl (by omega)) ?_
        refine LD.val rfl ⟨39, _, rfl, rfl, rfl⟩ (ov_field Tryd.underlying72 rfl Tryd.sizeOf9 rfl (k := 1) rfl rfl) ?_
        first | refine LD.rd rfl ⟨39, _, rfl, rfl, rfl⟩ (om_slE (j := 1) (by assumption) (by intro _; rfl) Tryd.isAgg9 rfl rfl (by exact getq default (by first | omega | (simp only [List.length_set, List.length_append, List.length_cons, List.length_nil]; omega))) rfl (by rfl)) ?_ | refine LD.rdC rfl ⟨39, _, rfl, rfl, rfl⟩ (om_srE (j := 1) (by assumption) Tryd.isAgg9 rfl rfl (by exact getq default (by first | omega | (simp only [List.length_set, List.length_append, List.length_cons, List.length_nil]; omega))) (by rfl) (by rfl) id) ?_ | refine LD.rd rfl ⟨39, _, rfl, rfl, rfl⟩ (om_ld Tryd.isAgg9 rfl rfl) ?_
        refine LD.val rfl ⟨39, _, rfl, rfl, rfl⟩ (ov_move rfl) ?_
        refine LD.val rfl ⟨39, _, rfl, rfl, rfl⟩ (ov_seqlL rfl rfl) ?_
        refine LD.val rfl rfl (ov_pickT rfl rfl) ?_
        refine LD.val rfl rfl (ov_assign rfl) ?_
        refine LD.nil ?_
        refine QM.sub (e' := [(6, _)]) ⟨rfl, trivial⟩ ?_
        refine QM.then ?_
        refine wpM.ret ?_
        refine QM.leave (.inl rfl) [.tmp 6] Tryd.results60 rfl ?_
        intro w' hm' hc' hg'
        -- leaf 1: h1+ h2+ h3+
        refine ⟨?_, hc'⟩; simp only [resV, isE]; rw [decide_eq_true h1, decide_eq_true (show i < ws.length by omega), decide_eq_true h3]; simp only [Bool.true_and]
      ·
        refine LD.drop rfl rfl ⟨39, _, rfl, rfl, rfl⟩ ?_
        refine LD.drop rfl rfl ⟨39, _, rfl, rfl, rfl⟩ ?_
        refine LD.drop rfl rfl ⟨39, _, rfl, rfl, rfl⟩ ?_
        refine LD.drop rfl rfl ⟨39, _, rfl, rfl, rfl⟩ ?_
        refine LD.drop rfl rfl ⟨39, _, rfl, rfl, rfl⟩ ?_
        refine LD.drop rfl rfl ⟨39, _, rfl, rfl, rfl⟩ ?_
        refine LD.drop rfl rfl ⟨39, _, rfl, rfl, rfl⟩ ?_
        refine LD.drop rfl rfl ⟨39, _, rfl, rfl, rfl⟩ ?_
        refine LD.drop rfl rfl ⟨39, _, rfl, rfl, rfl⟩ ?_
        refine LD.drop rfl rfl ⟨39, _, rfl, rfl, rfl⟩ ?_
        refine LD.drop rfl rfl ⟨39, _, rfl, rfl, rfl⟩ ?_
        refine LD.drop rfl rfl ⟨39, _, rfl, rfl, rfl⟩ ?_
        refine LD.drop rfl rfl ⟨39, _, rfl, rfl, rfl⟩ ?_
        refine LD.val rfl rfl (ov_pickF rfl rfl) ?_
        refine LD.val rfl rfl (ov_assign rfl) ?_
        refine LD.nil ?_
        refine QM.sub (e' := [(6, _)]) ⟨rfl, trivial⟩ ?_
        refine QM.then ?_
        refine wpM.ret ?_
        refine QM.leave (.inl rfl) [.tmp 6] Tryd.results60 rfl ?_
        intro w' hm' hc' hg'
        -- leaf 2: h1+ h2+ h3-
        refine ⟨?_, hc'⟩; simp only [resV, isE]; rw [decide_eq_false h3]; simp only [Bool.and_false, Bool.false_and]
    ·
      refine LD.drop rfl rfl ⟨24, _, rfl, rfl, rfl⟩ ?_
      refine LD.drop rfl rfl ⟨24, _, rfl, rfl, rfl⟩ ?_
      refine LD.drop rfl rfl ⟨24, _, rfl, rfl, rfl⟩ ?_
      refine LD.drop rfl rfl ⟨24, _, rfl, rfl, rfl⟩ ?_
      refine LD.drop rfl rfl ⟨24, _, rfl, rfl, rfl⟩ ?_
      refine LD.drop rfl rfl ⟨24, _, rfl, rfl, rfl⟩ ?_
      refine LD.drop rfl rfl ⟨24, _, rfl, rfl, rfl⟩ ?_
      refine LD.drop rfl rfl ⟨24, _, rfl, rfl, rfl⟩ ?_
      refine LD.drop rfl rfl ⟨24, _, rfl, rfl, rfl⟩ ?_
      refine LD.drop rfl rfl ⟨24, _, rfl, rfl, rfl⟩ ?_
      refine LD.drop rfl rfl ⟨24, _, rfl, rfl, rfl⟩ ?_
      refine LD.drop rfl rfl ⟨24, _, rfl, rfl, rfl⟩ ?_
      refine LD.drop rfl rfl ⟨24, _, rfl, rfl, rfl⟩ ?_
      refine LD.val rfl rfl (ov_pickF rfl rfl) ?_
      refine LD.val rfl rfl (ov_move rfl) ?_
      refine LD.drop rfl rfl ⟨39, _, rfl, rfl, rfl⟩ ?_
      refine LD.drop rfl rfl ⟨39, _, rfl, rfl, rfl⟩ ?_
      refine LD.drop rfl rfl ⟨39, _, rfl, rfl, rfl⟩ ?_
      refine LD.drop rfl rfl ⟨39, _, rfl, rfl, rfl⟩ ?_
      refine LD.drop rfl rfl ⟨39, _, rfl, rfl, rfl⟩ ?_
      refine LD.drop rfl rfl ⟨39, _, rfl, rfl, rfl⟩ ?_
      refine LD.drop rfl rfl ⟨39, _, rfl, rfl, rfl⟩ ?_
      refine LD.drop rfl rfl ⟨39, _, rfl, rfl, rfl⟩ ?_
      refine LD.drop rfl rfl ⟨39, _, rfl, rfl, rfl⟩ ?_
      refine LD.drop rfl rfl ⟨39, _, rfl, rfl, rfl⟩ ?_
      refine LD.drop rfl rfl ⟨39, _, rfl, rfl, rfl⟩ ?_
      refine LD.drop rfl rfl ⟨39, _, rfl, rfl, rfl⟩ ?_
      refine LD.drop rfl rfl ⟨39, _, rfl, rfl, rfl⟩ ?_
      refine LD.val rfl rfl (ov_pickF rfl rfl) ?_
      refine LD.val rfl rfl (ov_assign rfl) ?_
      refine LD.nil ?_
      refine QM.sub (e' := [(6, _)]) ⟨rfl, trivial⟩ ?_
      refine QM.then ?_
      refine wpM.ret ?_
      refine QM.leave (.inl rfl) [.tmp 6] Tryd.results60 rfl ?_
      intro w' hm' hc' hg'
      -- leaf 3: h1+ h2-
      refine ⟨?_, hc'⟩; simp only [resV, isE]; rw [decide_eq_false (show ¬ i < ws.length by omega)]; simp only [Bool.and_false, Bool.false_and]
  ·
    refine LD.drop rfl rfl ⟨12, _, rfl, rfl, rfl⟩ ?_
    refine LD.drop rfl rfl ⟨12, _, rfl, rfl, rfl⟩ ?_
    refine LD.drop rfl rfl ⟨12, _, rfl, rfl, rfl⟩ ?_
    refine LD.drop rfl rfl ⟨12, _, rfl, rfl, rfl⟩ ?_
    refine LD.drop rfl rfl ⟨12, _, rfl, rfl, rfl⟩ ?_
    refine LD.drop rfl rfl ⟨12, _, rfl, rfl, rfl⟩ ?_
    refine LD.drop rfl rfl ⟨12, _, rfl, rfl, rfl⟩ ?_
    refine LD.drop rfl rfl ⟨12, _, rfl, rfl, rfl⟩ ?_
    refine LD.drop rfl rfl ⟨12, _, rfl, rfl, rfl⟩ ?_
    refine LD.drop rfl rfl ⟨12, _, rfl, rfl, rfl⟩ ?_
    refine LD.val rfl rfl (ov_pickF rfl rfl) ?_
    refine LD.val rfl rfl (ov_move rfl) ?_
    refine LD.drop rfl rfl ⟨24, _, rfl, rfl, rfl⟩ ?_
    refine LD.drop rfl rfl ⟨24, _, rfl, rfl, rfl⟩ ?_
    refine LD.drop rfl rfl ⟨24, _, rfl, rfl, rfl⟩ ?_
    refine LD.drop rfl rfl ⟨24, _, rfl, rfl, rfl⟩ ?_
    refine LD.drop rfl rfl ⟨24, _, rfl, rfl, rfl⟩ ?_
    refine LD.drop rfl rfl ⟨24, _, rfl, rfl, rfl⟩ ?_
    refine LD.drop rfl rfl ⟨24, _, rfl, rfl, rfl⟩ ?_
    refine LD.drop rfl rfl ⟨24, _, rfl, rfl, rfl⟩ ?_
    refine LD.drop rfl rfl ⟨24, _, rfl, rfl, rfl⟩ ?_
    refine LD.drop rfl rfl ⟨24, _, rfl, rfl, rfl⟩ ?_
    refine LD.drop rfl rfl ⟨24, _, rfl, rfl, rfl⟩ ?_
    refine LD.drop rfl rfl ⟨24, _, rfl, rfl, rfl⟩ ?_
    refine LD.drop rfl rfl ⟨24, _, rfl, rfl, rfl⟩ ?_
    refine LD.val rfl rfl (ov_pickF rfl rfl) ?_
    refine LD.val rfl rfl (ov_move rfl) ?_
    refine LD.drop rfl rfl ⟨39, _, rfl, rfl, rfl⟩ ?_
    refine LD.drop rfl rfl ⟨39, _, rfl, rfl, rfl⟩ ?_
    refine LD.drop rfl rfl ⟨39, _, rfl, rfl, rfl⟩ ?_
    refine LD.drop rfl rfl ⟨39, _, rfl, rfl, rfl⟩ ?_
    refine LD.drop rfl rfl ⟨39, _, rfl, rfl, rfl⟩ ?_
    refine LD.drop rfl rfl ⟨39, _, rfl, rfl, rfl⟩ ?_
    refine LD.drop rfl rfl ⟨39, _, rfl, rfl, rfl⟩ ?_
    refine LD.drop rfl rfl ⟨39, _, rfl, rfl, rfl⟩ ?_
    refine LD.drop rfl rfl ⟨39, _, rfl, rfl, rfl⟩ ?_
    refine LD.drop rfl rfl ⟨39, _, rfl, rfl, rfl⟩ ?_
    refine LD.drop rfl rfl ⟨39, _, rfl, rfl, rfl⟩ ?_
    refine LD.drop rfl rfl ⟨39, _, rfl, rfl, rfl⟩ ?_
    refine LD.drop rfl rfl ⟨39, _, rfl, rfl, rfl⟩ ?_
    refine LD.val rfl rfl (ov_pickF rfl rfl) ?_
    refine LD.val rfl rfl (ov_assign rfl) ?_
    refine LD.nil ?_
    refine QM.sub (e' := [(6, _)]) ⟨rfl, trivial⟩ ?_
    refine QM.then ?_
    refine wpM.ret ?_
    refine QM.leave (.inl rfl) [.tmp 6] Tryd.results60 rfl ?_
    intro w' hm' hc' hg'
    -- leaf 4: h1-
    refine ⟨?_, hc'⟩; simp only [resV, isE]; rw [decide_eq_false h1]; simp only [Bool.and_false, Bool.false_and]

set_option maxRecDepth 100000 in
theorem maybe_spec {ws : List Wrd} (b : Nat) {ad : Option Addr} {n cap : Nat} (i : Nat) (e k : Int) (t : List UInt8) (w : World) (hn : n = ws.length) (hx : ws.length ≤ 1000000000) (hl : Sr fW 4 ws (.slice ad n cap) w) (hab : 0 < ws.length → adB ad ≠ b) (hM : Mem w [rB b ad n cap i e]) : Ret Tryd.prog 59 #[.pointer (some ⟨b, 0, none⟩), .int .i64 k, vS t] w (WrP b (.bool (isE ws i e k t)) (rO ad n cap (mayE ws i e k t) e) w) := by
  refine Ret.enterM (l := [.pointer (some ⟨b, 0, none⟩), .int .i64 k, vS t]) Tryd.func59 rfl Tryd.ntmps59 rfl ([rB b ad n cap i e]) ((fun x => x = b)) hM ?_
  refine wpM.seq ?_
  refine wpM.region ?_
  refine LM.val (ov_assign rfl) ?_
  refine LM.nil ?_
  refine QM.sub (e' := [(0, _), (1, _), (2, _)]) ⟨rfl, rfl, rfl, trivial⟩ ?_
  refine QM.then ?_
  refine wpM.seq ?_
  refine wpM.seq ?_
  refine wpM.region ?_
  refine LM.val (ov_move rfl) ?_
  refine LM.val (ov_move rfl) ?_
  refine LM.val (ov_move rfl) ?_
  refine LM.callE (oc_call (enters_fn Tryd.func60 (by kernel_rfl) rfl) rfl) (fun w hm hc hg => is_spec b i e k t w hn (hl.kp hc hab) (hm.pick _)) ?_
  refine LM.nil ?_
  refine QM.sub (e' := [(0, _), (10, _)]) ⟨rfl, rfl, trivial⟩ ?_
  refine QM.then ?_
  first | refine wpM.condD rfl (fun h1 => ?_) (fun h1 => ?_) | refine wpM.condB rfl (fun h1 => ?_) (fun h1 => ?_)
  ·
    have hlt := (isE_lt h1).1
    refine wpM.seq ?_
    refine wpM.region ?_
    refine LM.val (ov_move rfl) ?_
    refine LM.val (ov_nilCheck rfl) ?_
    refine LM.val (ov_field Tryd.underlying101 rfl Tryd.sizeOf3 rfl (k := 1) rfl rfl) ?_
    first | refine LM.rd (om_ld Tryd.isAgg3 rfl rfl) ?_
    refine LM.val (ov_add64 rfl rfl (by omega)) ?_
    refine LM.val (ov_nilCheck rfl) ?_
    refine LM.val (ov_field Tryd.underlying101 rfl Tryd.sizeOf3 rfl (k := 1) rfl rfl) ?_
    refine LM.st Tryd.sizeOf3 rfl rfl rfl (by first | decide | exact Nat.le_of_ble_eq_true rfl | (simp; done) | (simp; omega)) rfl (fun _ => rfl) ?_
    refine LM.nil ?_
    refine QM.sub (e' := []) trivial ?_
    refine QM.then ?_
    refine wpM.seq ?_
    refine wpM.region ?_
    refine LM.val (ov_assign rfl) ?_
    refine LM.nil ?_
    refine QM.sub (e' := [(6, _)]) ⟨rfl, trivial⟩ ?_
    refine QM.then ?_
    refine wpM.ret ?_
    refine QM.then_ret ?_
    refine QM.leave (.inl rfl) [.tmp 6] Tryd.results59 rfl ?_
    intro w' hm' hc' hg'
    -- leaf 1: h1+
    refine ⟨by rw [h1]; rfl, hc', ?_⟩; unfold mayE; rw [if_pos h1]; exact hm'.at b
  ·
    refine wpM.skip ?_
    refine QM.then ?_
    refine wpM.seq ?_
    refine wpM.region ?_
    refine LM.val (ov_assign rfl) ?_
    refine LM.nil ?_
    refine QM.sub (e' := [(6, _)]) ⟨rfl, trivial⟩ ?_
    refine QM.then ?_
    refine wpM.ret ?_
    refine QM.leave (.inl rfl) [.tmp 6] Tryd.results59 rfl ?_
    intro w' hm' hc' hg'
    -- leaf 2: h1-
    refine ⟨by rw [h1]; rfl, hc', ?_⟩; unfold mayE; rw [if_neg (by rw [h1]; simp)]; exact hm'.at b

set_option maxRecDepth 100000 in
theorem need_spec {ws : List Wrd} (b : Nat) {ad : Option Addr} {n cap : Nat} (i : Nat) (e k : Int) (t : List UInt8) (w : World) (hn : n = ws.length) (hx : ws.length ≤ 1000000000) (hl : Sr fW 4 ws (.slice ad n cap) w) (hab : 0 < ws.length → adB ad ≠ b) (hM : Mem w [rB b ad n cap i e]) : Ret Tryd.prog 58 #[.pointer (some ⟨b, 0, none⟩), .int .i64 k, vS t] w (WrP b (.tuple #[]) (rO ad n cap (needE ws i e k t).1 (needE ws i e k t).2) w) := by
  refine Ret.enterM (l := [.pointer (some ⟨b, 0, none⟩), .int .i64 k, vS t]) Tryd.func58 rfl Tryd.ntmps58 rfl ([rB b ad n cap i e]) ((fun x => x = b)) hM ?_
  refine wpM.seq ?_
  refine wpM.region ?_
  refine LM.val (ov_move rfl) ?_
  refine LM.val (ov_move rfl) ?_
  refine LM.val (ov_move rfl) ?_
  refine LM.cW (oc_call (enters_fn Tryd.func59 (by kernel_rfl) rfl) rfl) (fun w hm hc hg => maybe_spec b i e k t w hn hx (hl.kp hc hab) hab (hm.pick _)) rfl (fun _ => rfl) ?_
  first | refine LM.val (ov_notD rfl) ?_ | refine LM.val (ov_not rfl) ?_
  refine LM.nil ?_
  refine QM.sub (e' := [(0, _), (10, _)]) ⟨rfl, rfl, trivial⟩ ?_
  refine QM.then ?_
  first | refine wpM.condD rfl (fun h1 => ?_) (fun h1 => ?_) | refine wpM.condB rfl (fun h1 => ?_) (fun h1 => ?_)
  ·
    refine wpM.region ?_
    refine LM.val (ov_move rfl) ?_
    refine LM.cW (oc_call (enters_fn Tryd.func62 (by kernel_rfl) rfl) rfl) (fun w hm hc hg => fail_spec b (ad := ad) (n := n) (cap := cap) (mayE ws i e k t) e 5 w (hm.pick _)) rfl (fun _ => rfl) ?_
    refine LM.nil ?_
    refine QM.sub (e' := []) trivial ?_
    refine QM.leave (.inr rfl) [] Tryd.results58 rfl ?_
    intro w' hm' hc' hg'
    -- leaf 1: h1+
    have hf : isE ws i e k t = false := (by simpa using h1); refine ⟨rfl, hc', ?_⟩; have h3 := hm'.at b; unfold mayE at h3; rw [if_neg (by rw [hf]; simp)] at h3; unfold needE; rw [if_neg (by rw [hf]; simp)]; by_cases h0 : e = 0; (rw [if_pos h0] at h3 ⊢; exact h3); (rw [if_neg h0] at h3 ⊢; exact h3)
  ·
    refine wpM.skip ?_
    refine QM.leave (.inr rfl) [] Tryd.results58 rfl ?_
    intro w' hm' hc' hg'
    -- leaf 2: h1-
    have hf : isE ws i e k t = true := (by simpa using h1); refine ⟨rfl, hc', ?_⟩; have h3 := hm'.at b; unfold mayE at h3; rw [if_pos hf] at h3; unfold needE; rw [if_pos hf]; exact h3

set_option maxRecDepth 100000 in
set_option maxHeartbeats 1000000 in
theorem number_spec {ws : List Wrd} (b : Nat) {ad : Option Addr} {n cap : Nat} (i : Nat) (e lo hi : Int) (w : World) (hn : n = ws.length) (hx : ws.length ≤ 1000000000) (hl : Sr fW 4 ws (.slice ad n cap) w) (hab : 0 < ws.length → adB ad ≠ b) (hM : Mem w [rB b ad n cap i e]) : Ret Tryd.prog 89 #[.pointer (some ⟨b, 0, none⟩), .agg #[.int .i64 lo, .int .i64 hi]] w (WrP b (.int .i64 (numE ws i e lo hi).2.2) (rO ad n cap (numE ws i e lo hi).1 (numE ws i e lo hi).2.1) w) := by
  refine Ret.enterM (l := [.pointer (some ⟨b, 0, none⟩), .agg #[.int .i64 lo, .int .i64 hi]]) Tryd.func89 rfl Tryd.ntmps89 rfl ([rB b ad n cap i e]) ((fun x => x = b)) hM ?_
  refine wpM.seq ?_
  refine wpM.region ?_
  refine LM.box rfl rfl (fun b3 hb3 => ?_)
  refine LM.val (ov_assign rfl) ?_
  refine LM.nil ?_
  refine QM.sub (e' := [(0, _), (3, _)]) ⟨rfl, rfl, trivial⟩ ?_
  refine QM.then ?_
  refine wpM.seq ?_
  refine wpM.block ?_
  refine wpM.seq ?_
  refine wpM.region ?_
  refine LM.val (ov_field Tryd.underlying114 rfl Tryd.sizeOf3 rfl (k := 0) rfl rfl) ?_
  first | refine LM.rd (om_ld Tryd.isAgg3 rfl rfl) ?_
  refine LM.val (ov_eql rfl rfl) ?_
  refine LM.val (ov_move rfl) ?_
  first | refine LM.splitD (t := 9) rfl (fun h1 => ?_) (fun h1 => ?_) | refine LM.splitB (t := 9) rfl (fun h1 => ?_) (fun h1 => ?_)
  ·
    refine LM.drop (t := 9) rfl rfl rfl ?_
    refine LM.drop (t := 9) rfl rfl rfl ?_
    refine LM.drop (t := 9) rfl rfl rfl ?_
    refine LM.drop (t := 9) rfl rfl rfl ?_
    refine LM.drop (t := 9) rfl rfl rfl ?_
    refine LM.val (ov_pickT rfl rfl) ?_
    refine LM.val (ov_assign rfl) ?_
    refine LM.nil ?_
    refine QM.sub (e' := [(0, _), (3, _), (5, _)]) ⟨rfl, rfl, rfl, trivial⟩ ?_
    refine QM.then ?_
    refine wpM.condT rfl ?_
    refine wpM.seq ?_
    refine wpM.region ?_
    refine LM.val (ov_assign rfl) ?_
    refine LM.nil ?_
    refine QM.sub (e' := [(4, _)]) ⟨rfl, trivial⟩ ?_
    refine QM.then ?_
    refine wpM.ret ?_
    refine QM.block_ret ?_
    refine QM.then_ret ?_
    refine QM.leave (.inl rfl) [.tmp 4] Tryd.results89 rfl ?_
    intro w' hm' hc' hg'
    -- leaf 1: h1+
    rw [num_a h1]; exact ⟨rfl, hc', hm'.at b⟩
  ·
    refine LM.strip (t := 9) rfl rfl rfl ?_
    refine LM.val (ov_move rfl) ?_
    refine LM.strip (t := 9) rfl rfl rfl ?_
    refine LM.val (ov_nilCheck rfl) ?_
    refine LM.strip (t := 9) rfl rfl rfl ?_
    refine LM.val (ov_field Tryd.underlying101 rfl Tryd.sizeOf25 rfl (k := 2) rfl rfl) ?_
    refine LM.strip (t := 9) rfl rfl rfl ?_
    first | refine LM.rd (om_ld Tryd.isAgg25 rfl rfl) ?_
    refine LM.strip (t := 9) rfl rfl rfl ?_
    refine LM.val (ov_neq rfl rfl) ?_
    refine LM.val (ov_pickF rfl rfl) ?_
    refine LM.val (ov_assign rfl) ?_
    refine LM.nil ?_
    refine QM.sub (e' := [(0, _), (3, _), (5, _)]) ⟨rfl, rfl, rfl, trivial⟩ ?_
    refine QM.then ?_
    first | refine wpM.condD rfl (fun h2 => ?_) (fun h2 => ?_) | refine wpM.condB rfl (fun h2 => ?_) (fun h2 => ?_)
    ·
      refine wpM.seq ?_
      refine wpM.region ?_
      refine LM.val (ov_assign rfl) ?_
      refine LM.nil ?_
      refine QM.sub (e' := [(4, _)]) ⟨rfl, trivial⟩ ?_
      refine QM.then ?_
      refine wpM.ret ?_
      refine QM.block_ret ?_
      refine QM.then_ret ?_
      refine QM.leave (.inl rfl) [.tmp 4] Tryd.results89 rfl ?_
      intro w' hm' hc' hg'
      -- leaf 2: h1- h2+
      rw [num_b h2]; exact ⟨rfl, hc', hm'.at b⟩
    ·
      obtain rfl : e = 0 := Classical.not_not.1 h2
      refine wpM.seq ?_
      refine wpM.draw [(0, 0), (1, 0), (2, 0), (3, 1), (4, 0), (5, 0), (6, 0), (7, 1), (8, 0), (9, 0), (10, 0), (11, 0), (12, 0), (13, 0), (14, 1), (15, 0), (16, 0), (17, 0), (18, 1), (19, 0), (20, 0), (21, 1), (22, 0), (23, 0), (24, 0)] (by kernel_rfl) (by kernel_rfl) ?_
      refine LD.val rfl rfl (ov_move rfl) ?_
      refine LD.val rfl rfl (ov_nilCheck rfl) ?_
      refine LD.val rfl rfl (ov_field Tryd.underlying101 rfl Tryd.sizeOf3 rfl (k := 1) rfl rfl) ?_
      first | refine LD.rd rfl rfl (om_ld Tryd.isAgg3 rfl rfl) ?_
      refine LD.val rfl rfl (ov_move rfl) ?_
      refine LD.val rfl rfl (ov_nilCheck rfl) ?_
      refine LD.val rfl rfl (ov_field Tryd.underlying101 rfl Tryd.sizeOf24 rfl (k := 0) rfl rfl) ?_
      first | refine LD.rd rfl rfl (om_ld Tryd.isAgg24 rfl rfl) ?_
      refine LD.val rfl rfl (ov_len Tryd.underlying24 rfl) ?_
      refine LD.val rfl rfl (ov_geq rfl rfl) ?_
      refine LD.val rfl rfl (ov_move rfl) ?_
      first | refine LD.splitD (t := 27) rfl (fun h3 => ?_) (fun h3 => ?_) | refine LD.splitB (t := 27) rfl (fun h3 => ?_) (fun h3 => ?_)
      ·
        refine LD.drop rfl rfl ⟨27, _, rfl, rfl, rfl⟩ ?_
        refine LD.drop rfl rfl ⟨27, _, rfl, rfl, rfl⟩ ?_
        refine LD.drop rfl rfl ⟨27, _, rfl, rfl, rfl⟩ ?_
        refine LD.drop rfl rfl ⟨27, _, rfl, rfl, rfl⟩ ?_
        refine LD.drop rfl rfl ⟨27, _, rfl, rfl, rfl⟩ ?_
        refine LD.drop rfl rfl ⟨27, _, rfl, rfl, rfl⟩ ?_
        refine LD.drop rfl rfl ⟨27, _, rfl, rfl, rfl⟩ ?_
        refine LD.drop rfl rfl ⟨27, _, rfl, rfl, rfl⟩ ?_
        refine LD.drop rfl rfl ⟨27, _, rfl, rfl, rfl⟩ ?_
        refine LD.drop rfl rfl ⟨27, _, rfl, rfl, rfl⟩ ?_
        refine LD.drop rfl rfl ⟨27, _, rfl, rfl, rfl⟩ ?_
        refine LD.drop rfl rfl ⟨27, _, rfl, rfl, rfl⟩ ?_
        refine LD.val rfl rfl (ov_pickT rfl rfl) ?_
        refine LD.val rfl rfl (ov_assign rfl) ?_
        refine LD.nil ?_
        refine QM.sub (e' := [(0, _), (3, _), (16, _)]) ⟨rfl, rfl, rfl, trivial⟩ ?_
        refine QM.then ?_
        refine wpM.condT rfl ?_
        refine wpM.seq ?_
        refine wpM.region ?_
        refine LM.val (ov_move rfl) ?_
        refine LM.cW (oc_call (enters_fn Tryd.func62 (by kernel_rfl) rfl) rfl) (fun w hm hc hg => fail_spec b (ad := ad) (n := n) (cap := cap) i 0 _ w (hm.pick _)) rfl (fun _ => rfl) ?_
        refine LM.nil ?_
        refine QM.sub (e' := []) trivial ?_
        refine QM.then ?_
        refine wpM.seq ?_
        refine wpM.region ?_
        refine LM.val (ov_assign rfl) ?_
        refine LM.nil ?_
        refine QM.sub (e' := [(4, _)]) ⟨rfl, trivial⟩ ?_
        refine QM.then ?_
        refine wpM.ret ?_
        refine QM.block_ret ?_
        refine QM.then_ret ?_
        refine QM.leave (.inl rfl) [.tmp 4] Tryd.results89 rfl ?_
        intro w' hm' hc' hg'
        -- leaf 3: h1- h2- h3+
        rw [num_c h1 (.inl (by omega))]; exact ⟨rfl, hc', hm'.at b⟩
      ·
        refine LD.val rfl ⟨27, _, rfl, rfl, rfl⟩ (ov_move rfl) ?_
        refine LD.val rfl ⟨27, _, rfl, rfl, rfl⟩ (ov_nilCheck rfl) ?_
        refine LD.val rfl ⟨27, _, rfl, rfl, rfl⟩ (ov_field Tryd.underlying101 rfl Tryd.sizeOf24 rfl (k := 0) rfl rfl) ?_
        first | refine LD.rd rfl ⟨27, _, rfl, rfl, rfl⟩ (om_ld Tryd.isAgg24 rfl rfl) ?_
        refine LD.val rfl ⟨27, _, rfl, rfl, rfl⟩ (ov_move rfl) ?_
        refine LD.val rfl ⟨27, _, rfl, rfl, rfl⟩ (ov_nilCheck rfl) ?_
        refine LD.val rfl ⟨27, _, rfl, rfl, rfl⟩ (ov_field Tryd.underlying101 rfl Tryd.sizeOf3 rfl (k := 1) rfl rfl) ?_
        first | refine LD.rd rfl ⟨27, _, rfl, rfl, rfl⟩ (om_ld Tryd.isAgg3 rfl rfl) ?_
        first | refine LD.val rfl ⟨27, _, rfl, rfl, rfl⟩ (ov_idxSN (by first | exact Sr.spt (by assumption) | exact Sl.spt (by assumption)) Tryd.underlying24 Tryd.sizeOf72 rfl rfl (by omega)) ?_ | refine LD.val rfl ⟨27, _, rfl, rfl, rfl⟩ (ov_idxS (by first | exact Sr.spt (by assumption) | exact Sl.spt (by assumption)) Tryd.underlying24 Tryd.sizeOf72 rfl rfl (by omega)) ?_ | refine LD.val rfl ⟨27, _, rfl, rfl, rfl⟩ (ov_idx Tryd.underlying24 Tryd.sizeOf72 rfl rfl (by omega)) ?_
        refine LD.val rfl ⟨27, _, rfl, rfl, rfl⟩ (ov_field Tryd.underlying72 rfl Tryd.sizeOf3 rfl (k := 0) rfl rfl) ?_
        first | refine LD.rd rfl ⟨27, _, rfl, rfl, rfl⟩ (om_slE (j := 0) (by assumption) (by intro _; rfl) Tryd.isAgg3 rfl rfl (by exact getq default (by first | omega | (simp only [List.length_set, List.length_append, List.length_cons, List.length_nil]; omega))) rfl (by rfl)) ?_ | refine LD.rdC rfl ⟨27, _, rfl, rfl, rfl⟩ (om_srE (j := 0) (by assumption) Tryd.isAgg3 rfl rfl (by exact getq default (by first | omega | (simp only [List.length_set, List.length_append, List.length_cons, List.length_nil]; omega))) (by rfl) (by rfl) (by exact hab (by omega))) ?_ | refine LD.rd rfl ⟨27, _, rfl, rfl, rfl⟩ (om_ld Tryd.isAgg3 rfl rfl) ?_
        refine LD.val rfl ⟨27, _, rfl, rfl, rfl⟩ (ov_neq rfl rfl) ?_
        refine LD.val rfl rfl (ov_pickF rfl rfl) ?_
        refine LD.val rfl rfl (ov_assign rfl) ?_
        refine LD.nil ?_
        refine QM.sub (e' := [(0, _), (3, _), (16, _)]) ⟨rfl, rfl, rfl, trivial⟩ ?_
        refine QM.then ?_
        first | refine wpM.condD rfl (fun h4 => ?_) (fun h4 => ?_) | refine wpM.condB rfl (fun h4 => ?_) (fun h4 => ?_)
        ·
          refine wpM.seq ?_
          refine wpM.region ?_
          refine LM.val (ov_move rfl) ?_
          refine LM.cW (oc_call (enters_fn Tryd.func62 (by kernel_rfl) rfl) rfl) (fun w hm hc hg => fail_spec b (ad := ad) (n := n) (cap := cap) i 0 _ w (hm.pick _)) rfl (fun _ => rfl) ?_
          refine LM.nil ?_
          refine QM.sub (e' := []) trivial ?_
          refine QM.then ?_
          refine wpM.seq ?_
          refine wpM.region ?_
          refine LM.val (ov_assign rfl) ?_
          refine LM.nil ?_
          refine QM.sub (e' := [(4, _)]) ⟨rfl, trivial⟩ ?_
          refine QM.then ?_
          refine wpM.ret ?_
          refine QM.block_ret ?_
          refine QM.then_ret ?_
          refine QM.leave (.inl rfl) [.tmp 4] Tryd.results89 rfl ?_
          intro w' hm' hc' hg'
          -- leaf 4: h1- h2- h3- h4+
          rw [num_c h1 (.inr h4)]; exact ⟨rfl, hc', hm'.at b⟩
        ·
          refine wpM.seq ?_
          refine wpM.draw [(0, 1), (1, 0), (2, 0), (3, 0), (4, 1), (5, 0), (6, 0), (7, 0), (8, 1), (9, 0), (10, 0), (11, 1), (12, 2), (13, 0), (14, 0)] (by kernel_rfl) (by kernel_rfl) ?_
          first | refine LD.rd rfl rfl (om_ldW Tryd.isAgg114 Tryd.sizeOf114 rfl rfl) ?_ | refine LD.rd rfl rfl (om_ldA Tryd.isAgg114 Tryd.sizeOf114 rfl (vs := [_, _]) rfl ⟨rfl, rfl, trivial⟩) ?_
          refine LD.val rfl rfl (ov_move rfl) ?_
          refine LD.val rfl rfl (ov_nilCheck rfl) ?_
          refine LD.val rfl rfl (ov_field Tryd.underlying101 rfl Tryd.sizeOf24 rfl (k := 0) rfl rfl) ?_
          first | refine LD.rd rfl rfl (om_ld Tryd.isAgg24 rfl rfl) ?_
          refine LD.val rfl rfl (ov_move rfl) ?_
          refine LD.val rfl rfl (ov_nilCheck rfl) ?_
          refine LD.val rfl rfl (ov_field Tryd.underlying101 rfl Tryd.sizeOf3 rfl (k := 1) rfl rfl) ?_
          first | refine LD.rd rfl rfl (om_ld Tryd.isAgg3 rfl rfl) ?_
          first | refine LD.val rfl rfl (ov_idxSN (by first | exact Sr.spt (by assumption) | exact Sl.spt (by assumption)) Tryd.underlying24 Tryd.sizeOf72 rfl rfl (by omega)) ?_ | refine LD.val rfl rfl (ov_idxS (by first | exact Sr.spt (by assumption) | exact Sl.spt (by assumption)) Tryd.underlying24 Tryd.sizeOf72 rfl rfl (by omega)) ?_ | refine LD.val rfl rfl (ov_idx Tryd.underlying24 Tryd.sizeOf72 rfl rfl (by omega)) ?_
          refine LD.val rfl rfl (ov_field Tryd.underlying72 rfl Tryd.sizeOf3 rfl (k := 2) rfl rfl) ?_
          first | refine LD.rd rfl rfl (om_slE (j := 2) (by assumption) (by intro _; rfl) Tryd.isAgg3 rfl rfl (by exact getq default (by first | omega | (simp only [List.length_set, List.length_append, List.length_cons, List.length_nil]; omega))) rfl (by rfl)) ?_ | refine LD.rdC rfl rfl (om_srE (j := 2) (by assumption) Tryd.isAgg3 rfl rfl (by exact getq default (by first | omega | (simp only [List.length_set, List.length_append, List.length_cons, List.length_nil]; omega))) (by rfl) (by rfl) (by exact hab (by omega))) ?_ | refine LD.rd rfl rfl (om_ld Tryd.isAgg3 rfl rfl) ?_
          refine LD.callE rfl rfl (oc_call (enters_fn Tryd.func91 (by kernel_rfl) rfl) rfl) (fun w hm hc hg => has_spec lo hi _ w) ?_
          first | refine LD.val rfl rfl (ov_notD rfl) ?_ | refine LD.val rfl rfl (ov_not rfl) ?_
          refine LD.val rfl rfl (ov_assign rfl) ?_
          refine LD.nil ?_
          refine QM.sub (e' := [(0, _), (43, _)]) ⟨rfl, rfl, trivial⟩ ?_
          refine QM.then ?_
          first | refine wpM.condD rfl (fun h5 => ?_) (fun h5 => ?_) | refine wpM.condB rfl (fun h5 => ?_) (fun h5 => ?_)
          ·
            refine wpM.seq ?_
            refine wpM.region ?_
            refine LM.val (ov_move rfl) ?_
            refine LM.cW (oc_call (enters_fn Tryd.func62 (by kernel_rfl) rfl) rfl) (fun w hm hc hg => fail_spec b (ad := ad) (n := n) (cap := cap) i 0 _ w (hm.pick _)) rfl (fun _ => rfl) ?_
            refine LM.nil ?_
            refine QM.sub (e' := []) trivial ?_
            refine QM.then ?_
            refine wpM.seq ?_
            refine wpM.region ?_
            refine LM.val (ov_assign rfl) ?_
            refine LM.nil ?_
            refine QM.sub (e' := [(4, _)]) ⟨rfl, trivial⟩ ?_
            refine QM.then ?_
            refine wpM.ret ?_
            refine QM.block_ret ?_
            refine QM.then_ret ?_
            refine QM.leave (.inl rfl) [.tmp 4] Tryd.results89 rfl ?_
            intro w' hm' hc' hg'
            -- leaf 5: h1- h2- h3- h4- h5+
            rw [num_d h1 (by omega) (Classical.not_not.1 h4) (by simpa using h5)]; exact ⟨rfl, hc', hm'.at b⟩
          ·
            refine wpM.skip ?_
            refine QM.block_normal ?_
            refine QM.then ?_
            refine wpM.seq ?_
            refine wpM.region ?_
            refine LM.val (ov_move rfl) ?_
            refine LM.val (ov_nilCheck rfl) ?_
            refine LM.val (ov_field Tryd.underlying101 rfl Tryd.sizeOf3 rfl (k := 1) rfl rfl) ?_
            first | refine LM.rd (om_ld Tryd.isAgg3 rfl rfl) ?_
            refine LM.val (ov_add64 rfl rfl (by omega)) ?_
            refine LM.val (ov_nilCheck rfl) ?_
            refine LM.val (ov_field Tryd.underlying101 rfl Tryd.sizeOf3 rfl (k := 1) rfl rfl) ?_
            refine LM.st Tryd.sizeOf3 rfl rfl rfl (by first | decide | exact Nat.le_of_ble_eq_true rfl | (simp; done) | (simp; omega)) rfl (fun _ => rfl) ?_
            refine LM.nil ?_
            refine QM.sub (e' := [(0, _)]) ⟨rfl, trivial⟩ ?_
            refine QM.then ?_
            refine wpM.seq ?_
            refine wpM.draw [(0, 0), (1, 0), (2, 0), (3, 1), (4, 0), (5, 0), (6, 0), (7, 1), (8, 0), (9, 0), (10, 0), (11, 1), (12, 0)] (by kernel_rfl) (by kernel_rfl) ?_
            refine LD.val rfl rfl (ov_move rfl) ?_
            refine LD.val rfl rfl (ov_nilCheck rfl) ?_
            refine LD.val rfl rfl (ov_field Tryd.underlying101 rfl Tryd.sizeOf24 rfl (k := 0) rfl rfl) ?_
            first | refine LD.rd rfl rfl (om_ld Tryd.isAgg24 rfl rfl) ?_
            refine LD.val rfl rfl (ov_move rfl) ?_
            refine LD.val rfl rfl (ov_nilCheck rfl) ?_
            refine LD.val rfl rfl (ov_field Tryd.underlying101 rfl Tryd.sizeOf3 rfl (k := 1) rfl rfl) ?_
            first | refine LD.rd rfl rfl (om_ld Tryd.isAgg3 rfl rfl) ?_
            refine LD.val rfl rfl (ov_sub64 rfl rfl (by omega)) ?_
            first | refine LD.val rfl rfl (ov_idxSN (by first | exact Sr.spt (by assumption) | exact Sl.spt (by assumption)) Tryd.underlying24 Tryd.sizeOf72 rfl rfl (by omega)) ?_ | refine LD.val rfl rfl (ov_idxS (by first | exact Sr.spt (by assumption) | exact Sl.spt (by assumption)) Tryd.underlying24 Tryd.sizeOf72 rfl rfl (by omega)) ?_ | refine LD.val rfl rfl (ov_idx Tryd.underlying24 Tryd.sizeOf72 rfl rfl (by omega)) ?_
            refine LD.val rfl rfl (ov_field Tryd.underlying72 rfl Tryd.sizeOf3 rfl (k := 2) rfl rfl) ?_
            first | refine LD.rd rfl rfl (om_slE (j := 2) (by assumption) (by intro _; rfl) Tryd.isAgg3 rfl rfl (by exact getq default (by first | omega | (simp only [List.length_set, List.length_append, List.length_cons, List.length_nil]; omega))) rfl (by rfl)) ?_ | refine LD.rdC rfl rfl (om_srE (j := 2) (by assumption) Tryd.isAgg3 rfl rfl (by exact getq default (by first | omega | (simp only [List.length_set, List.length_append, List.length_cons, List.length_nil]; omega))) (by rfl) (by rfl) (by exact hab (by omega))) ?_ | refine LD.rd rfl rfl (om_ld Tryd.isAgg3 rfl rfl) ?_
            refine LD.val rfl rfl (ov_assign rfl) ?_
            refine LD.nil ?_
            refine QM.sub (e' := [(4, _)]) ⟨rfl, trivial⟩ ?_
            refine QM.then ?_
            refine wpM.ret ?_
            refine QM.leave (.inl rfl) [.tmp 4] Tryd.results89 rfl ?_
            intro w' hm' hc' hg'
            -- leaf 6: h1- h2- h3- h4- h5-
            rw [num_e h1 (by omega) (Classical.not_not.1 h4) (by simpa using h5), show ((i : Int) + 1 - 1).toNat = i by omega]; exact ⟨rfl, hc', hm'.at b⟩

end Go.Eng

