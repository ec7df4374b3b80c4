/- The walk of: are these the same words? No condition. -/
import Derived.Test.YtbndlommbpkijaaDoorTokB
set_option linter.unusedVariables false
set_option linter.unusedSimpArgs false
namespace Go.Eng
open Go Go.Proofs Go.RowKit

def eqW (at' : Bool) (x y : Wrd) : Bool := decide (x.k = y.k) && decide (x.t = y.t) && decide (x.n = y.n) && (!at' || decide (x.p = y.p))
def sameW (at' : Bool) : List Wrd → List Wrd → Bool
  | [], [] => true
  | x :: xs, y :: ys => eqW at' x y && sameW at' xs ys
  | _, _ => false
theorem sameW_len {at' : Bool} : ∀ {xs ys : List Wrd}, sameW at' xs ys = true → xs.length = ys.length
  | [], [], _ => rfl
  | _ :: xs, _ :: ys, h => by
    rw [sameW, Bool.and_eq_true] at h
    rw [List.length_cons, List.length_cons, sameW_len h.2]
  | [], _ :: _, h => by cases h
  | _ :: _, [], h => by cases h
theorem sameW_at {at' : Bool} : ∀ {xs ys : List Wrd} (i : Nat), sameW at' xs ys = true → i < xs.length → eqW at' (xs.getD i default) (ys.getD i default) = true
  | x :: xs, y :: ys, i, h, hi => by
    rw [sameW, Bool.and_eq_true] at h
    cases i with
    | zero => exact h.1
    | succ i => exact sameW_at i h.2 (by rw [List.length_cons] at hi; omega)
  | [], [], _, _, h => by cases h
  | [], _ :: _, _, h, _ => by cases h
  | _ :: _, [], _, h, _ => by cases h
theorem sameW_snoc {at' : Bool} : ∀ {xs ys : List Wrd} (x y : Wrd), sameW at' xs ys = true → eqW at' x y = true → sameW at' (xs ++ [x]) (ys ++ [y]) = true
  | [], [], x, y, _, h => by simp [sameW, h]
  | a :: xs, b :: ys, x, y, h, h2 => by
    rw [sameW, Bool.and_eq_true] at h
    rw [List.cons_append, List.cons_append, sameW, h.1, sameW_snoc x y h.2 h2]; rfl
  | [], _ :: _, _, _, h, _ => by cases h
  | _ :: _, [], _, _, h, _ => by cases h
theorem sameW_next {at' : Bool} {xs ys : List Wrd} {i : Nat} (h : sameW at' (xs.take i) (ys.take i) = true) (hl : xs.length = ys.length) (hi : i < xs.length) (he : eqW at' (xs.getD i default) (ys.getD i default) = true) : sameW at' (xs.take (i + 1)) (ys.take (i + 1)) = true := by
  rw [take_snoc default hi, take_snoc default (hl ▸ hi)]; exact sameW_snoc _ _ h he
theorem sameW_no {at' : Bool} {xs ys : List Wrd} {i : Nat} (hi : i < xs.length) (he : eqW at' (xs.getD i default) (ys.getD i default) = false) : sameW at' xs ys = false := by
  cases h : sameW at' xs ys with
  | false => rfl
  | true => rw [sameW_at i h hi] at he; cases he
theorem sameW_refl (at' : Bool) : ∀ (xs : List Wrd), sameW at' xs xs = true
  | [] => rfl
  | x :: xs => by rw [sameW, sameW_refl at' xs]; simp [eqW]
set_option maxRecDepth 100000 in
set_option maxHeartbeats 2000000 in
theorem wsame_spec {xs ys : List Wrd} {ad1 ad2 : Option Addr} {n1 n2 cap1 cap2 : Nat} (at' : Bool) (w : World) (hn1 : n1 = xs.length) (hl1 : Sr fW 4 xs (.slice ad1 n1 cap1) w) (hn2 : n2 = ys.length) (hl2 : Sr fW 4 ys (.slice ad2 n2 cap2) w) (hx : xs.length ≤ 1000000000) : Ret Tryd.prog 13 #[.slice ad1 n1 cap1, .slice ad2 n2 cap2, .bool at'] w (fun v w' => v = .bool (sameW at' xs ys) ∧ Ext w w') := by
 refine Ret.enterM (l := [.slice ad1 n1 cap1, .slice ad2 n2 cap2, .bool at']) Tryd.func13 rfl Tryd.ntmps13 rfl ([]) (no) (Mem.nil w) ?_
 refine wpM.seq ?_
 refine wpM.region ?_
 refine LM.val (ov_assign rfl) ?_
 refine LM.nil ?_
 refine QM.sub (e' := [(0, _), (1, _), (2, _)]) ⟨rfl, rfl, rfl, trivial⟩ ?_
 refine QM.then ?_
 refine wpM.seq ?_
 refine wpM.seq ?_
 refine wpM.region ?_
 refine LM.val (ov_move rfl) ?_
 refine LM.val (ov_len Tryd.underlying24 rfl) ?_
 refine LM.val (ov_move rfl) ?_
 refine LM.val (ov_len Tryd.underlying24 rfl) ?_
 refine LM.val (ov_neq rfl rfl) ?_
 refine LM.nil ?_
 refine QM.sub (e' := [(0, _), (1, _), (2, _), (12, _)]) ⟨rfl, rfl, rfl, rfl, trivial⟩ ?_
 refine QM.then ?_
 first | refine wpM.condD rfl (fun h1 => ?_) (fun h1 => ?_) | refine wpM.condB rfl (fun h1 => ?_) (fun h1 => ?_)
 ·
  refine wpM.seq ?_
  refine wpM.region ?_
  refine LM.val (ov_assign rfl) ?_
  refine LM.nil ?_
  refine QM.sub (e' := [(6, _)]) ⟨rfl, trivial⟩ ?_
  refine QM.then ?_
  refine wpM.ret ?_
  refine QM.then_ret ?_
  refine QM.leave (.inl rfl) [.tmp 6] Tryd.results13 rfl ?_
  intro w' hm' hc' hg'
  refine ⟨?_, hc'⟩; have hs : sameW at' xs ys = false := (by cases h : sameW at' xs ys with | false => rfl | true => have := sameW_len h; omega); show Value.bool false = _; rw [hs]
 ·
  refine wpM.skip ?_
  refine QM.then ?_
  refine wpM.seq ?_
  refine wpM.seq ?_
  refine wpM.region ?_
  refine LM.val (ov_assign rfl) ?_
  refine LM.nil ?_
  refine QM.sub (e' := [(0, _), (1, _), (2, _), (7, _)]) ⟨rfl, rfl, rfl, rfl, trivial⟩ ?_
  refine QM.then ?_
  refine wpM.block ?_
  refine wpM.loopK0 (α := Nat) (fun i => [(7, .int .i64 (i : Nat))]) [(0, _), (1, _), (2, _)] (fun i => []) (fun i => i ≤ xs.length ∧ sameW at' (xs.take i) (ys.take i) = true) (fun i => xs.length - i) (0) ⟨(by first | rfl | exact lk rfl (by congr 1; omega) | exact lk rfl (by simp)), rfl, rfl, rfl, trivial⟩ (by (repeat' (first | exact SubM.nil _ | refine SubM.cons rfl ?_ | refine SubM.app ?_))) ⟨Nat.zero_le _, by simp [sameW]⟩ ?_
  rintro i ⟨hi, ha⟩
  change wpM _ _ _ _ _ _ _ ([]) _ _ _
  refine wpM.seq ?_
  refine wpM.seq ?_
  refine wpM.region ?_
  refine LM.val (ov_move rfl) ?_
  refine LM.val (ov_move rfl) ?_
  refine LM.val (ov_len Tryd.underlying24 rfl) ?_
  refine LM.val (ov_lss rfl rfl) ?_
  refine LM.nil ?_
  refine QM.sub (e' := [(0, _), (1, _), (2, _), (7, _), (16, _)]) ⟨rfl, rfl, rfl, rfl, rfl, trivial⟩ ?_
  refine QM.then ?_
  first | refine wpM.condD rfl (fun h2 => ?_) (fun h2 => ?_) | refine wpM.condB rfl (fun h2 => ?_) (fun h2 => ?_)
  ·
   refine wpM.skip ?_
   refine QM.then ?_
   refine wpM.seq ?_
   refine wpM.block ?_
   refine wpM.seq ?_
   refine wpM.joinK (α := Bool) (fun q => [(71, .bool q)]) [(0, _), (1, _), (2, _), (7, _)] (fun q => []) (fun q => q = !eqW at' (xs.getD i default) (ys.getD i default)) ⟨rfl, rfl, rfl, rfl, trivial⟩ ?_ ?_
   ·
    refine wpM.draw [(0, 0), (1, 0), (2, 0), (3, 0), (4, 1), (5, 0), (6, 0), (7, 0), (8, 0), (9, 1), (10, 0), (11, 0), (12, 0), (13, 0), (14, 0), (15, 0), (16, 1), (17, 0), (18, 0), (19, 0), (20, 0), (21, 1), (22, 0), (23, 0), (24, 0), (25, 0), (26, 0), (27, 0), (28, 0), (29, 1), (30, 0), (31, 0), (32, 0), (33, 0), (34, 1), (35, 0), (36, 0), (37, 0), (38, 0), (39, 0), (40, 0), (41, 0), (42, 0), (43, 0), (44, 1), (45, 0), (46, 0), (47, 0), (48, 0), (49, 1), (50, 0), (51, 0), (52, 0)] (by kernel_rfl) (by kernel_rfl) ?_
    refine LD.val rfl rfl (ov_move rfl) ?_
    refine LD.val rfl rfl (ov_move rfl) ?_
    first | refine LD.val rfl rfl (ov_idxSN (by first | exact Sr.spt (by assumption) | exact Sl.spt (by assumption)) Tryd.underlying24 Tryd.sizeOf80 rfl rfl (by omega)) ?_ | refine LD.val rfl rfl (ov_idxS (by first | exact Sr.spt (by assumption) | exact Sl.spt (by assumption)) Tryd.underlying24 Tryd.sizeOf80 rfl rfl (by omega)) ?_ | refine LD.val rfl rfl (ov_idx Tryd.underlying24 Tryd.sizeOf80 rfl rfl (by omega)) ?_
    refine LD.val rfl rfl (ov_field Tryd.underlying80 rfl Tryd.sizeOf3 rfl (k := 0) rfl rfl) ?_
    first | refine LD.rd rfl rfl (om_slE (j := 0) (by assumption) (by intro _; rfl) Tryd.isAgg3 rfl rfl (by exact getq default (by first | omega | (simp only [List.length_set, List.length_append, List.length_cons, List.length_nil]; omega))) rfl (by rfl)) ?_ | refine LD.rdC rfl rfl (om_srE (j := 0) (by assumption) Tryd.isAgg3 rfl rfl (by exact getq default (by first | omega | (simp only [List.length_set, List.length_append, List.length_cons, List.length_nil]; omega))) (by rfl) (by rfl) id) ?_ | refine LD.rd rfl rfl (om_ld Tryd.isAgg3 rfl rfl) ?_
    refine LD.val rfl rfl (ov_move rfl) ?_
    refine LD.val rfl rfl (ov_move rfl) ?_
    first | refine LD.val rfl rfl (ov_idxSN (by first | exact Sr.spt (by assumption) | exact Sl.spt (by assumption)) Tryd.underlying24 Tryd.sizeOf80 rfl rfl (by omega)) ?_ | refine LD.val rfl rfl (ov_idxS (by first | exact Sr.spt (by assumption) | exact Sl.spt (by assumption)) Tryd.underlying24 Tryd.sizeOf80 rfl rfl (by omega)) ?_ | refine LD.val rfl rfl (ov_idx Tryd.underlying24 Tryd.sizeOf80 rfl rfl (by omega)) ?_
    refine LD.val rfl rfl (ov_field Tryd.underlying80 rfl Tryd.sizeOf3 rfl (k := 0) rfl rfl) ?_
    first | refine LD.rd rfl rfl (om_slE (j := 0) (by assumption) (by intro _; rfl) Tryd.isAgg3 rfl rfl (by exact getq default (by first | omega | (simp only [List.length_set, List.length_append, List.length_cons, List.length_nil]; omega))) rfl (by rfl)) ?_ | refine LD.rdC rfl rfl (om_srE (j := 0) (by assumption) Tryd.isAgg3 rfl rfl (by exact getq default (by first | omega | (simp only [List.length_set, List.length_append, List.length_cons, List.length_nil]; omega))) (by rfl) (by rfl) id) ?_ | refine LD.rd rfl rfl (om_ld Tryd.isAgg3 rfl rfl) ?_
    refine LD.val rfl rfl (ov_neq rfl rfl) ?_
    refine LD.val rfl rfl (ov_move rfl) ?_
    first | refine LD.splitD (t := 30) rfl (fun h3 => ?_) (fun h3 => ?_) | refine LD.splitB (t := 30) rfl (fun h3 => ?_) (fun h3 => ?_)
    ·
     refine LD.drop rfl rfl ⟨30, _, rfl, rfl, rfl⟩ ?_
     refine LD.drop rfl rfl ⟨30, _, rfl, rfl, rfl⟩ ?_
     refine LD.drop rfl rfl ⟨30, _, rfl, rfl, rfl⟩ ?_
     refine LD.drop rfl rfl ⟨30, _, rfl, rfl, rfl⟩ ?_
     refine LD.drop rfl rfl ⟨30, _, rfl, rfl, rfl⟩ ?_
     refine LD.drop rfl rfl ⟨30, _, rfl, rfl, rfl⟩ ?_
     refine LD.drop rfl rfl ⟨30, _, rfl, rfl, rfl⟩ ?_
     refine LD.drop rfl rfl ⟨30, _, rfl, rfl, rfl⟩ ?_
     refine LD.drop rfl rfl ⟨30, _, rfl, rfl, rfl⟩ ?_
     refine LD.drop rfl rfl ⟨30, _, rfl, rfl, rfl⟩ ?_
     refine LD.drop rfl rfl ⟨30, _, rfl, rfl, rfl⟩ ?_
     refine LD.val rfl rfl (ov_pickT rfl rfl) ?_
     refine LD.val rfl rfl (ov_move rfl) ?_
     refine LD.drop rfl rfl ⟨43, _, rfl, rfl, rfl⟩ ?_
     refine LD.drop rfl rfl ⟨43, _, rfl, rfl, rfl⟩ ?_
     refine LD.drop rfl rfl ⟨43, _, rfl, rfl, rfl⟩ ?_
     refine LD.drop rfl rfl ⟨43, _, rfl, rfl, rfl⟩ ?_
     refine LD.drop rfl rfl ⟨43, _, rfl, rfl, rfl⟩ ?_
     refine LD.drop rfl rfl ⟨43, _, rfl, rfl, rfl⟩ ?_
     refine LD.drop rfl rfl ⟨43, _, rfl, rfl, rfl⟩ ?_
     refine LD.drop rfl rfl ⟨43, _, rfl, rfl, rfl⟩ ?_
     refine LD.drop rfl rfl ⟨43, _, rfl, rfl, rfl⟩ ?_
     refine LD.drop rfl rfl ⟨43, _, rfl, rfl, rfl⟩ ?_
     refine LD.drop rfl rfl ⟨43, _, rfl, rfl, rfl⟩ ?_
     refine LD.val rfl rfl (ov_pickT rfl rfl) ?_
     refine LD.val rfl rfl (ov_move rfl) ?_
     refine LD.drop rfl rfl ⟨56, _, rfl, rfl, rfl⟩ ?_
     refine LD.dropU rfl rfl ⟨56, _, rfl, rfl, rfl⟩ ?_
     refine LD.dropX rfl rfl rfl rfl ?_
     refine LD.dropX rfl rfl rfl rfl ?_
     refine LD.dropX rfl rfl rfl rfl ?_
     refine LD.dropX rfl rfl rfl rfl ?_
     refine LD.dropX rfl rfl rfl rfl ?_
     refine LD.dropX rfl rfl rfl rfl ?_
     refine LD.dropX rfl rfl rfl rfl ?_
     refine LD.dropX rfl rfl rfl rfl ?_
     refine LD.dropX rfl rfl rfl rfl ?_
     refine LD.dropX rfl rfl rfl rfl ?_
     refine LD.dropX rfl rfl rfl rfl ?_
     refine LD.drop rfl rfl ⟨56, _, rfl, rfl, rfl⟩ ?_
     refine LD.val rfl rfl (ov_pickT rfl rfl) ?_
     refine LD.nil ?_
     refine QM.sub (e' := [(0, _), (1, _), (2, _), (7, _), (71, _)]) ⟨rfl, rfl, rfl, rfl, rfl, trivial⟩ ?_
     refine QM.meetK (_) ⟨(by first | rfl | exact lk rfl (by congr 1; omega) | exact lk rfl (by simp)), rfl, rfl, rfl, rfl, trivial⟩ (by (repeat' (first | exact SubM.nil _ | refine SubM.cons rfl ?_ | refine SubM.app ?_))) ?_
     · unfold eqW; first | (simp only [h1, h2, h3, decide_true, decide_false, Bool.true_and, Bool.false_and, Bool.and_true, Bool.and_false, Bool.not_true, Bool.not_false, Bool.true_or, Bool.false_or, Bool.or_true, Bool.or_false, ne_eq, not_true_eq_false, not_false_eq_true, Bool.and_self]; done) | (simp only [h1, h2, h3, decide_true, decide_false, Bool.true_and, Bool.false_and, Bool.and_true, Bool.and_false, Bool.not_true, Bool.not_false, Bool.true_or, Bool.false_or, Bool.or_true, Bool.or_false, ne_eq, not_true_eq_false, not_false_eq_true, Bool.and_self]; rfl) | (simp only [h1, h2, h3, decide_true, decide_false, Bool.true_and, Bool.false_and, Bool.and_true, Bool.and_false, Bool.not_true, Bool.not_false, Bool.true_or, Bool.false_or, Bool.or_true, Bool.or_false, ne_eq, not_true_eq_false, not_false_eq_true, Bool.and_self]; simp; done)
    ·
     refine LD.val rfl ⟨30, _, rfl, rfl, rfl⟩ (ov_move rfl) ?_
     refine LD.val rfl ⟨30, _, rfl, rfl, rfl⟩ (ov_move rfl) ?_
     first | refine LD.val rfl ⟨30, _, rfl, rfl, rfl⟩ (ov_idxSN (by first | exact Sr.spt (by assumption) | exact Sl.spt (by assumption)) Tryd.underlying24 Tryd.sizeOf80 rfl rfl (by omega)) ?_ | refine LD.val rfl ⟨30, _, rfl, rfl, rfl⟩ (ov_idxS (by first | exact Sr.spt (by assumption) | exact Sl.spt (by assumption)) Tryd.underlying24 Tryd.sizeOf80 rfl rfl (by omega)) ?_ | refine LD.val rfl ⟨30, _, rfl, rfl, rfl⟩ (ov_idx Tryd.underlying24 Tryd.sizeOf80 rfl rfl (by omega)) ?_
     refine LD.val rfl ⟨30, _, rfl, rfl, rfl⟩ (ov_field Tryd.underlying80 rfl Tryd.sizeOf9 rfl (k := 1) rfl rfl) ?_
     first | refine LD.rd rfl ⟨30, _, rfl, rfl, rfl⟩ (om_slE (j := 1) (by assumption) (by intro _; rfl) Tryd.isAgg9 rfl rfl (by exact getq default (by first | omega | (simp only [List.length_set, List.length_append, List.length_cons, List.length_nil]; omega))) rfl (by rfl)) ?_ | refine LD.rdC rfl ⟨30, _, rfl, rfl, rfl⟩ (om_srE (j := 1) (by assumption) Tryd.isAgg9 rfl rfl (by exact getq default (by first | omega | (simp only [List.length_set, List.length_append, List.length_cons, List.length_nil]; omega))) (by rfl) (by rfl) id) ?_ | refine LD.rd rfl ⟨30, _, rfl, rfl, rfl⟩ (om_ld Tryd.isAgg9 rfl rfl) ?_
     refine LD.val rfl ⟨30, _, rfl, rfl, rfl⟩ (ov_move rfl) ?_
     refine LD.val rfl ⟨30, _, rfl, rfl, rfl⟩ (ov_move rfl) ?_
     first | refine LD.val rfl ⟨30, _, rfl, rfl, rfl⟩ (ov_idxSN (by first | exact Sr.spt (by assumption) | exact Sl.spt (by assumption)) Tryd.underlying24 Tryd.sizeOf80 rfl rfl (by omega)) ?_ | refine LD.val rfl ⟨30, _, rfl, rfl, rfl⟩ (ov_idxS (by first | exact Sr.spt (by assumption) | exact Sl.spt (by assumption)) Tryd.underlying24 Tryd.sizeOf80 rfl rfl (by omega)) ?_ | refine LD.val rfl ⟨30, _, rfl, rfl, rfl⟩ (ov_idx Tryd.underlying24 Tryd.sizeOf80 rfl rfl (by omega)) ?_
     refine LD.val rfl ⟨30, _, rfl, rfl, rfl⟩ (ov_field Tryd.underlying80 rfl Tryd.sizeOf9 rfl (k := 1) rfl rfl) ?_
     first | refine LD.rd rfl ⟨30, _, rfl, rfl, rfl⟩ (om_slE (j := 1) (by assumption) (by intro _; rfl) Tryd.isAgg9 rfl rfl (by exact getq default (by first | omega | (simp only [List.length_set, List.length_append, List.length_cons, List.length_nil]; omega))) rfl (by rfl)) ?_ | refine LD.rdC rfl ⟨30, _, rfl, rfl, rfl⟩ (om_srE (j := 1) (by assumption) Tryd.isAgg9 rfl rfl (by exact getq default (by first | omega | (simp only [List.length_set, List.length_append, List.length_cons, List.length_nil]; omega))) (by rfl) (by rfl) id) ?_ | refine LD.rd rfl ⟨30, _, rfl, rfl, rfl⟩ (om_ld Tryd.isAgg9 rfl rfl) ?_
     refine LD.val rfl ⟨30, _, rfl, rfl, rfl⟩ (ov_sneqL rfl rfl) ?_
     refine LD.val rfl rfl (ov_pickF rfl rfl) ?_
     refine LD.val rfl rfl (ov_move rfl) ?_
     first | refine LD.splitD (t := 43) rfl (fun h4 => ?_) (fun h4 => ?_) | refine LD.splitB (t := 43) rfl (fun h4 => ?_) (fun h4 => ?_)
     ·
      refine LD.drop rfl rfl ⟨43, _, rfl, rfl, rfl⟩ ?_
      refine LD.drop rfl rfl ⟨43, _, rfl, rfl, rfl⟩ ?_
      refine LD.drop rfl rfl ⟨43, _, rfl, rfl, rfl⟩ ?_
      refine LD.drop rfl rfl ⟨43, _, rfl, rfl, rfl⟩ ?_
      refine LD.drop rfl rfl ⟨43, _, rfl, rfl, rfl⟩ ?_
      refine LD.drop rfl rfl ⟨43, _, rfl, rfl, rfl⟩ ?_
      refine LD.drop rfl rfl ⟨43, _, rfl, rfl, rfl⟩ ?_
      refine LD.drop rfl rfl ⟨43, _, rfl, rfl, rfl⟩ ?_
      refine LD.drop rfl rfl ⟨43, _, rfl, rfl, rfl⟩ ?_
      refine LD.drop rfl rfl ⟨43, _, rfl, rfl, rfl⟩ ?_
      refine LD.drop rfl rfl ⟨43, _, rfl, rfl, rfl⟩ ?_
      refine LD.val rfl rfl (ov_pickT rfl rfl) ?_
      refine LD.val rfl rfl (ov_move rfl) ?_
      refine LD.drop rfl rfl ⟨56, _, rfl, rfl, rfl⟩ ?_
      refine LD.dropU rfl rfl ⟨56, _, rfl, rfl, rfl⟩ ?_
      refine LD.dropX rfl rfl rfl rfl ?_
      refine LD.dropX rfl rfl rfl rfl ?_
      refine LD.dropX rfl rfl rfl rfl ?_
      refine LD.dropX rfl rfl rfl rfl ?_
      refine LD.dropX rfl rfl rfl rfl ?_
      refine LD.dropX rfl rfl rfl rfl ?_
      refine LD.dropX rfl rfl rfl rfl ?_
      refine LD.dropX rfl rfl rfl rfl ?_
      refine LD.dropX rfl rfl rfl rfl ?_
      refine LD.dropX rfl rfl rfl rfl ?_
      refine LD.dropX rfl rfl rfl rfl ?_
      refine LD.drop rfl rfl ⟨56, _, rfl, rfl, rfl⟩ ?_
      refine LD.val rfl rfl (ov_pickT rfl rfl) ?_
      refine LD.nil ?_
      refine QM.sub (e' := [(0, _), (1, _), (2, _), (7, _), (71, _)]) ⟨rfl, rfl, rfl, rfl, rfl, trivial⟩ ?_
      refine QM.meetK (_) ⟨(by first | rfl | exact lk rfl (by congr 1; omega) | exact lk rfl (by simp)), rfl, rfl, rfl, rfl, trivial⟩ (by (repeat' (first | exact SubM.nil _ | refine SubM.cons rfl ?_ | refine SubM.app ?_))) ?_
      · unfold eqW; first | (simp only [h1, h2, h3, h4, decide_true, decide_false, Bool.true_and, Bool.false_and, Bool.and_true, Bool.and_false, Bool.not_true, Bool.not_false, Bool.true_or, Bool.false_or, Bool.or_true, Bool.or_false, ne_eq, not_true_eq_false, not_false_eq_true, Bool.and_self]; done) | (simp only [h1, h2, h3, h4, decide_true, decide_false, Bool.true_and, Bool.false_and, Bool.and_true, Bool.and_false, Bool.not_true, Bool.not_false, Bool.true_or, Bool.false_or, Bool.or_true, Bool.or_false, ne_eq, not_true_eq_false, not_false_eq_true, Bool.and_self]; rfl) | (simp only [h1, h2, h3, h4, decide_true, decide_false, Bool.true_and, Bool.false_and, Bool.and_true, Bool.and_false, Bool.not_true, Bool.not_false, Bool.true_or, Bool.false_or, Bool.or_true, Bool.or_false, ne_eq, not_true_eq_false, not_false_eq_true, Bool.and_self]; simp; done)
     ·
      refine LD.val rfl ⟨43, _, rfl, rfl, rfl⟩ (ov_move rfl) ?_
      refine LD.val rfl ⟨43, _, rfl, rfl, rfl⟩ (ov_move rfl) ?_
      first | refine LD.val rfl ⟨43, _, rfl, rfl, rfl⟩ (ov_idxSN (by first | exact Sr.spt (by assumption) | exact Sl.spt (by assumption)) Tryd.underlying24 Tryd.sizeOf80 rfl rfl (by omega)) ?_ | refine LD.val rfl ⟨43, _, rfl, rfl, rfl⟩ (ov_idxS (by first | exact Sr.spt (by assumption) | exact Sl.spt (by assumption)) Tryd.underlying24 Tryd.sizeOf80 rfl rfl (by omega)) ?_ | refine LD.val rfl ⟨43, _, rfl, rfl, rfl⟩ (ov_idx Tryd.underlying24 Tryd.sizeOf80 rfl rfl (by omega)) ?_
      refine LD.val rfl ⟨43, _, rfl, rfl, rfl⟩ (ov_field Tryd.underlying80 rfl Tryd.sizeOf3 rfl (k := 2) rfl rfl) ?_
      first | refine LD.rd rfl ⟨43, _, rfl, rfl, rfl⟩ (om_slE (j := 2) (by assumption) (by intro _; rfl) Tryd.isAgg3 rfl rfl (by exact getq default (by first | omega | (simp only [List.length_set, List.length_append, List.length_cons, List.length_nil]; omega))) rfl (by rfl)) ?_ | refine LD.rdC rfl ⟨43, _, rfl, rfl, rfl⟩ (om_srE (j := 2) (by assumption) Tryd.isAgg3 rfl rfl (by exact getq default (by first | omega | (simp only [List.length_set, List.length_append, List.length_cons, List.length_nil]; omega))) (by rfl) (by rfl) id) ?_ | refine LD.rd rfl ⟨43, _, rfl, rfl, rfl⟩ (om_ld Tryd.isAgg3 rfl rfl) ?_
      refine LD.val rfl ⟨43, _, rfl, rfl, rfl⟩ (ov_move rfl) ?_
      refine LD.val rfl ⟨43, _, rfl, rfl, rfl⟩ (ov_move rfl) ?_
      first | refine LD.val rfl ⟨43, _, rfl, rfl, rfl⟩ (ov_idxSN (by first | exact Sr.spt (by assumption) | exact Sl.spt (by assumption)) Tryd.underlying24 Tryd.sizeOf80 rfl rfl (by omega)) ?_ | refine LD.val rfl ⟨43, _, rfl, rfl, rfl⟩ (ov_idxS (by first | exact Sr.spt (by assumption) | exact Sl.spt (by assumption)) Tryd.underlying24 Tryd.sizeOf80 rfl rfl (by omega)) ?_ | refine LD.val rfl ⟨43, _, rfl, rfl, rfl⟩ (ov_idx Tryd.underlying24 Tryd.sizeOf80 rfl rfl (by omega)) ?_
      refine LD.val rfl ⟨43, _, rfl, rfl, rfl⟩ (ov_field Tryd.underlying80 rfl Tryd.sizeOf3 rfl (k := 2) rfl rfl) ?_
      first | refine LD.rd rfl ⟨43, _, rfl, rfl, rfl⟩ (om_slE (j := 2) (by assumption) (by intro _; rfl) Tryd.isAgg3 rfl rfl (by exact getq default (by first | omega | (simp only [List.length_set, List.length_append, List.length_cons, List.length_nil]; omega))) rfl (by rfl)) ?_ | refine LD.rdC rfl ⟨43, _, rfl, rfl, rfl⟩ (om_srE (j := 2) (by assumption) Tryd.isAgg3 rfl rfl (by exact getq default (by first | omega | (simp only [List.length_set, List.length_append, List.length_cons, List.length_nil]; omega))) (by rfl) (by rfl) id) ?_ | refine LD.rd rfl ⟨43, _, rfl, rfl, rfl⟩ (om_ld Tryd.isAgg3 rfl rfl) ?_
      refine LD.val rfl ⟨43, _, rfl, rfl, rfl⟩ (ov_neq rfl rfl) ?_
      refine LD.val rfl rfl (ov_pickF rfl rfl) ?_
      refine LD.val rfl rfl (ov_move rfl) ?_
      first | refine LD.splitD (t := 56) rfl (fun h5 => ?_) (fun h5 => ?_) | refine LD.splitB (t := 56) rfl (fun h5 => ?_) (fun h5 => ?_)
      ·
       refine LD.drop rfl rfl ⟨56, _, rfl, rfl, rfl⟩ ?_
       refine LD.dropU rfl rfl ⟨56, _, rfl, rfl, rfl⟩ ?_
       refine LD.dropX rfl rfl rfl rfl ?_
       refine LD.dropX rfl rfl rfl rfl ?_
       refine LD.dropX rfl rfl rfl rfl ?_
       refine LD.dropX rfl rfl rfl rfl ?_
       refine LD.dropX rfl rfl rfl rfl ?_
       refine LD.dropX rfl rfl rfl rfl ?_
       refine LD.dropX rfl rfl rfl rfl ?_
       refine LD.dropX rfl rfl rfl rfl ?_
       refine LD.dropX rfl rfl rfl rfl ?_
       refine LD.dropX rfl rfl rfl rfl ?_
       refine LD.dropX rfl rfl rfl rfl ?_
       refine LD.drop rfl rfl ⟨56, _, rfl, rfl, rfl⟩ ?_
       refine LD.val rfl rfl (ov_pickT rfl rfl) ?_
       refine LD.nil ?_
       refine QM.sub (e' := [(0, _), (1, _), (2, _), (7, _), (71, _)]) ⟨rfl, rfl, rfl, rfl, rfl, trivial⟩ ?_
       refine QM.meetK (_) ⟨(by first | rfl | exact lk rfl (by congr 1; omega) | exact lk rfl (by simp)), rfl, rfl, rfl, rfl, trivial⟩ (by (repeat' (first | exact SubM.nil _ | refine SubM.cons rfl ?_ | refine SubM.app ?_))) ?_
       · unfold eqW; first | (simp only [h1, h2, h3, h4, h5, decide_true, decide_false, Bool.true_and, Bool.false_and, Bool.and_true, Bool.and_false, Bool.not_true, Bool.not_false, Bool.true_or, Bool.false_or, Bool.or_true, Bool.or_false, ne_eq, not_true_eq_false, not_false_eq_true, Bool.and_self]; done) | (simp only [h1, h2, h3, h4, h5, decide_true, decide_false, Bool.true_and, Bool.false_and, Bool.and_true, Bool.and_false, Bool.not_true, Bool.not_false, Bool.true_or, Bool.false_or, Bool.or_true, Bool.or_false, ne_eq, not_true_eq_false, not_false_eq_true, Bool.and_self]; rfl) | (simp only [h1, h2, h3, h4, h5, decide_true, decide_false, Bool.true_and, Bool.false_and, Bool.and_true, Bool.and_false, Bool.not_true, Bool.not_false, Bool.true_or, Bool.false_or, Bool.or_true, Bool.or_false, ne_eq, not_true_eq_false, not_false_eq_true, Bool.and_self]; simp; done)
      ·
       refine LD.val rfl ⟨56, _, rfl, rfl, rfl⟩ (ov_move rfl) ?_
       refine LD.val rfl ⟨56, _, rfl, rfl, rfl⟩ (ov_move rfl) ?_
       first | refine LD.splitD (t := 58) rfl (fun h6 => ?_) (fun h6 => ?_) | refine LD.splitB (t := 58) rfl (fun h6 => ?_) (fun h6 => ?_)
       ·
        refine LD.val rfl ⟨58, _, rfl, rfl, rfl⟩ (ov_move rfl) ?_
        refine LD.val rfl ⟨58, _, rfl, rfl, rfl⟩ (ov_move rfl) ?_
        first | refine LD.val rfl ⟨58, _, rfl, rfl, rfl⟩ (ov_idxSN (by first | exact Sr.spt (by assumption) | exact Sl.spt (by assumption)) Tryd.underlying24 Tryd.sizeOf80 rfl rfl (by omega)) ?_ | refine LD.val rfl ⟨58, _, rfl, rfl, rfl⟩ (ov_idxS (by first | exact Sr.spt (by assumption) | exact Sl.spt (by assumption)) Tryd.underlying24 Tryd.sizeOf80 rfl rfl (by omega)) ?_ | refine LD.val rfl ⟨58, _, rfl, rfl, rfl⟩ (ov_idx Tryd.underlying24 Tryd.sizeOf80 rfl rfl (by omega)) ?_
        refine LD.val rfl ⟨58, _, rfl, rfl, rfl⟩ (ov_field Tryd.underlying80 rfl Tryd.sizeOf3 rfl (k := 3) rfl rfl) ?_
        first | refine LD.rd rfl ⟨58, _, rfl, rfl, rfl⟩ (om_slE (j := 3) (by assumption) (by intro _; rfl) Tryd.isAgg3 rfl rfl (by exact getq default (by first | omega | (simp only [List.length_set, List.length_append, List.length_cons, List.length_nil]; omega))) rfl (by rfl)) ?_ | refine LD.rdC rfl ⟨58, _, rfl, rfl, rfl⟩ (om_srE (j := 3) (by assumption) Tryd.isAgg3 rfl rfl (by exact getq default (by first | omega | (simp only [List.length_set, List.length_append, List.length_cons, List.length_nil]; omega))) (by rfl) (by rfl) id) ?_ | refine LD.rd rfl ⟨58, _, rfl, rfl, rfl⟩ (om_ld Tryd.isAgg3 rfl rfl) ?_
        refine LD.val rfl ⟨58, _, rfl, rfl, rfl⟩ (ov_move rfl) ?_
        refine LD.val rfl ⟨58, _, rfl, rfl, rfl⟩ (ov_move rfl) ?_
        first | refine LD.val rfl ⟨58, _, rfl, rfl, rfl⟩ (ov_idxSN (by first | exact Sr.spt (by assumption) | exact Sl.spt (by assumption)) Tryd.underlying24 Tryd.sizeOf80 rfl rfl (by omega)) ?_ | refine LD.val rfl ⟨58, _, rfl, rfl, rfl⟩ (ov_idxS (by first | exact Sr.spt (by assumption) | exact Sl.spt (by assumption)) Tryd.underlying24 Tryd.sizeOf80 rfl rfl (by omega)) ?_ | refine LD.val rfl ⟨58, _, rfl, rfl, rfl⟩ (ov_idx Tryd.underlying24 Tryd.sizeOf80 rfl rfl (by omega)) ?_
        refine LD.val rfl ⟨58, _, rfl, rfl, rfl⟩ (ov_field Tryd.underlying80 rfl Tryd.sizeOf3 rfl (k := 3) rfl rfl) ?_
        first | refine LD.rd rfl ⟨58, _, rfl, rfl, rfl⟩ (om_slE (j := 3) (by assumption) (by intro _; rfl) Tryd.isAgg3 rfl rfl (by exact getq default (by first | omega | (simp only [List.length_set, List.length_append, List.length_cons, List.length_nil]; omega))) rfl (by rfl)) ?_ | refine LD.rdC rfl ⟨58, _, rfl, rfl, rfl⟩ (om_srE (j := 3) (by assumption) Tryd.isAgg3 rfl rfl (by exact getq default (by first | omega | (simp only [List.length_set, List.length_append, List.length_cons, List.length_nil]; omega))) (by rfl) (by rfl) id) ?_ | refine LD.rd rfl ⟨58, _, rfl, rfl, rfl⟩ (om_ld Tryd.isAgg3 rfl rfl) ?_
        refine LD.val rfl ⟨58, _, rfl, rfl, rfl⟩ (ov_neq rfl rfl) ?_
        refine LD.val rfl ⟨56, _, rfl, rfl, rfl⟩ (ov_pickT rfl rfl) ?_
        refine LD.val rfl rfl (ov_pickF rfl rfl) ?_
        refine LD.nil ?_
        refine QM.sub (e' := [(0, _), (1, _), (2, _), (7, _), (71, _)]) ⟨rfl, rfl, rfl, rfl, rfl, trivial⟩ ?_
        refine QM.meetK (_) ⟨(by first | rfl | exact lk rfl (by congr 1; omega) | exact lk rfl (by simp)), rfl, rfl, rfl, rfl, trivial⟩ (by (repeat' (first | exact SubM.nil _ | refine SubM.cons rfl ?_ | refine SubM.app ?_))) ?_
        · have e1 : (xs.getD i default).k = (ys.getD i default).k := (by simpa [-List.getD_eq_getElem?_getD] using h3); have e2 : (xs.getD i default).t = (ys.getD i default).t := (by simpa [-List.getD_eq_getElem?_getD] using h4); have e3 : (xs.getD i default).n = (ys.getD i default).n := (by simpa [-List.getD_eq_getElem?_getD] using h5); unfold eqW; rw [decide_eq_true e1, decide_eq_true e2, decide_eq_true e3, h6]; simp only [Bool.true_and, Bool.not_true, Bool.false_or, decide_not]
       ·
        refine LD.drop rfl rfl ⟨58, _, rfl, rfl, rfl⟩ ?_
        refine LD.drop rfl rfl ⟨58, _, rfl, rfl, rfl⟩ ?_
        refine LD.drop rfl rfl ⟨58, _, rfl, rfl, rfl⟩ ?_
        refine LD.drop rfl rfl ⟨58, _, rfl, rfl, rfl⟩ ?_
        refine LD.drop rfl rfl ⟨58, _, rfl, rfl, rfl⟩ ?_
        refine LD.drop rfl rfl ⟨58, _, rfl, rfl, rfl⟩ ?_
        refine LD.drop rfl rfl ⟨58, _, rfl, rfl, rfl⟩ ?_
        refine LD.drop rfl rfl ⟨58, _, rfl, rfl, rfl⟩ ?_
        refine LD.drop rfl rfl ⟨58, _, rfl, rfl, rfl⟩ ?_
        refine LD.drop rfl rfl ⟨58, _, rfl, rfl, rfl⟩ ?_
        refine LD.drop rfl rfl ⟨58, _, rfl, rfl, rfl⟩ ?_
        refine LD.val rfl ⟨56, _, rfl, rfl, rfl⟩ (ov_pickF rfl rfl) ?_
        refine LD.val rfl rfl (ov_pickF rfl rfl) ?_
        refine LD.nil ?_
        refine QM.sub (e' := [(0, _), (1, _), (2, _), (7, _), (71, _)]) ⟨rfl, rfl, rfl, rfl, rfl, trivial⟩ ?_
        refine QM.meetK (_) ⟨(by first | rfl | exact lk rfl (by congr 1; omega) | exact lk rfl (by simp)), rfl, rfl, rfl, rfl, trivial⟩ (by (repeat' (first | exact SubM.nil _ | refine SubM.cons rfl ?_ | refine SubM.app ?_))) ?_
        · have e1 : (xs.getD i default).k = (ys.getD i default).k := (by simpa [-List.getD_eq_getElem?_getD] using h3); have e2 : (xs.getD i default).t = (ys.getD i default).t := (by simpa [-List.getD_eq_getElem?_getD] using h4); have e3 : (xs.getD i default).n = (ys.getD i default).n := (by simpa [-List.getD_eq_getElem?_getD] using h5); unfold eqW; rw [decide_eq_true e1, decide_eq_true e2, decide_eq_true e3, h6]; rfl
   ·
    rintro q hq
    change QM _ _ _ _ _ ([]) _ _ _
    refine QM.then ?_
    first | refine wpM.condD rfl (fun h7 => ?_) (fun h7 => ?_) | refine wpM.condB rfl (fun h7 => ?_) (fun h7 => ?_)
    ·
     refine wpM.seq ?_
     refine wpM.region ?_
     refine LM.val (ov_assign rfl) ?_
     refine LM.nil ?_
     refine QM.sub (e' := [(6, _)]) ⟨rfl, trivial⟩ ?_
     refine QM.then ?_
     refine wpM.ret ?_
     refine QM.block_ret ?_
     refine QM.then_ret ?_
     refine QM.then_ret ?_
     refine QM.block_ret ?_
     refine QM.then_ret ?_
     refine QM.leave (.inl rfl) [.tmp 6] Tryd.results13 rfl ?_
     intro w' hm' hc' hg'
     refine ⟨?_, hc'⟩; have hs : sameW at' xs ys = false := sameW_no (i := i) (by omega) (by simpa using hq.symm.trans h7); show Value.bool false = _; rw [hs]
    ·
     refine wpM.skip ?_
     refine QM.block_normal ?_
     refine QM.then ?_
     refine wpM.region ?_
     refine LM.val (ov_move rfl) ?_
     refine LM.val (ov_add64 rfl rfl (by omega)) ?_
     refine LM.val (ov_assign rfl) ?_
     refine LM.nil ?_
     refine QM.sub (e' := [(0, _), (1, _), (2, _), (7, _)]) ⟨rfl, rfl, rfl, rfl, trivial⟩ ?_
     refine QM.againK (i + 1) ⟨(by first | rfl | exact lk rfl (by congr 1; omega) | exact lk rfl (by simp)), rfl, rfl, rfl, trivial⟩ (by (repeat' (first | exact SubM.nil _ | refine SubM.cons rfl ?_ | refine SubM.app ?_))) (fun _ h => h) ?_ ?_
     · exact ⟨by omega, sameW_next ha (by omega) (by omega) (by simpa using hq.symm.trans h7)⟩
     · first | omega | (dsimp only; omega)
  ·
   refine wpM.exit ?_
   refine QM.then_exit ?_
   refine QM.then_exit ?_
   refine QM.block_hit ?_
   refine QM.then ?_
   refine wpM.seq ?_
   refine wpM.region ?_
   refine LM.val (ov_assign rfl) ?_
   refine LM.nil ?_
   refine QM.sub (e' := [(6, _)]) ⟨rfl, trivial⟩ ?_
   refine QM.then ?_
   refine wpM.ret ?_
   refine QM.leave (.inl rfl) [.tmp 6] Tryd.results13 rfl ?_
   intro w' hm' hc' hg'
   refine ⟨?_, hc'⟩; rw [List.take_of_length_le (by omega), List.take_of_length_le (by omega)] at ha; show Value.bool true = _; rw [ha]

end Go.Eng

