/- The walks of an audit: the document's stays; stays are compared. No condition. -/
import Derived.Test.YtpemcncnehhgfaaStays
set_option linter.unusedVariables false
set_option linter.unusedSimpArgs false
namespace Go.Eng
open Go Go.Proofs Go.RowKit

theorem eachT_drop (en : St → Ev → Int) (kind : Int) {l : List Ev} {i : Nat} (h : i < l.length) : eachT en kind (l.drop i) = (if (l.getD i default).kind = kind then [(l.drop (i + 1)).foldl (stepT en) (mkT kind (l.getD i default))] else []) ++ eachT en kind (l.drop (i + 1)) := by
  rw [List.drop_eq_getElem_cons h, eachT, List.getD_eq_getElem?_getD, List.getElem?_eq_getElem h]; rfl
theorem eachT_len (en : St → Ev → Int) (kind : Int) : ∀ l : List Ev, (eachT en kind l).length ≤ l.length
  | [] => Nat.le_refl _
  | e :: l => by have := eachT_len en kind l; rw [eachT, List.length_append, List.length_cons]; split <;> simp <;> omega
theorem drop_take_snoc {α : Type} (d : α) {l : List α} {i k : Nat} (h : k < l.length) (hi : i ≤ k) : (l.take (k + 1)).drop i = (l.take k).drop i ++ [l.getD k d] := by
  rw [take_snoc d h, List.drop_append_of_le_length (by rw [List.length_take]; omega)]
theorem fold_task (en : St → Ev → Int) : ∀ (l : List Ev) (s : St), (l.foldl (stepT en) s).task = s.task ∧ (l.foldl (stepT en) s).lock = s.lock ∧ (l.foldl (stepT en) s).frm = s.frm ∧ (l.foldl (stepT en) s).read = s.read
  | [], s => ⟨rfl, rfl, rfl, rfl⟩
  | e :: l, s => by
    rw [List.foldl_cons]
    obtain ⟨h1, h2, h3, h4⟩ := fold_task en l (stepT en s e); obtain ⟨k1, k2, k3, k4⟩ := step_task en s e
    exact ⟨h1.trans k1, h2.trans k2, h3.trans k3, h4.trans k4⟩
theorem fold_split (en : St → Ev → Int) {l : List Ev} {i k : Nat} (hk : k ≤ l.length) (hi : i ≤ k) (s : St) : (l.drop i).foldl (stepT en) s = (l.drop k).foldl (stepT en) (((l.take k).drop i).foldl (stepT en) s) := by
  rw [← List.foldl_append]
  congr 1
  conv => lhs; rw [← List.take_append_drop k l]
  rw [List.drop_append_of_le_length (by rw [List.length_take]; omega)]
theorem stepT_ends2 {en : St → Ev → Int} {b : Ev} {s : St} {e : Ev} (h1 : s.fin = 0) (h : endsF b e = if s.task = e.task then en s e else 0) (h7 : endsF b e ≠ 0) : stepT en s e = { s with fin := endsF b e, to := e.time } := by
  by_cases ht : s.task = e.task
  · rw [if_pos ht] at h; unfold stepT; rw [if_pos ⟨h1, ht, by rw [← h]; exact h7⟩, h]
  · rw [if_neg ht] at h; exact absurd h h7
theorem stepT_ends3 {en : St → Ev → Int} {b : Ev} {s : St} {e : Ev} (h1 : s.fin = 0) (h : endsF b e = if s.task = e.task then en s e else 0) (h7 : ¬ endsF b e ≠ 0) : stepT en s e = { s with fin := endsF b e } := by
  have h8 : endsF b e = 0 := Classical.not_not.1 h7
  have : stepT en s e = s := by
    unfold stepT; rw [if_neg]; rintro ⟨_, ht, h3⟩; rw [if_pos ht, h8] at h; exact h3 h.symm
  rw [this, h8, ← h1]
theorem veqs_fT (a b : St) : veqs (fT a) (fT b) = decide (a = b) := by
  obtain ⟨a1, a2, a3, a4, a5, a6⟩ := a
  obtain ⟨b1, b2, b3, b4, b5, b6⟩ := b
  simp only [veqs, veq, fT, U, Bool.and_true]
  rw [Bool.eq_iff_iff]
  simp only [Bool.and_eq_true, beq_iff_eq, decide_eq_true_eq, St.mk.injEq]
  constructor
  · rintro ⟨h1, h2, h3, h4, h5, h6⟩; exact ⟨h1, h2, BitVec.eq_of_toNat_eq (by omega), BitVec.eq_of_toNat_eq (by omega), h5, h6⟩
  · rintro ⟨h1, h2, h3, h4, h5, h6⟩; subst h1; subst h2; subst h3; subst h4; subst h5; subst h6; simp
set_option maxRecDepth 100000 in
theorem rstays_waitEnd {evs : List Ev} {ad : Option Addr} {n cap : Nat} (w : World) (hn : n = evs.length) (hl : Sr fE 5 evs (.slice ad n cap) w) (hx2 : evs.length ≤ 1000000000000) : Ret Try.prog 40 #[.slice ad n cap, .int .i64 6] w (New fT 72 6 (eachT waitEnd 6 evs) w) := by
  refine Ret.enterM (l := [.slice ad n cap, .int .i64 6]) Try.func40 rfl Try.ntmps40 rfl ([]) (no) (Mem.nil w) ?_
  refine wpM.seq ?_
  refine wpM.region ?_
  refine LM.val (ov_assign rfl) ?_
  refine LM.nil ?_
  refine QM.sub (e' := [(0, _), (1, _)]) ⟨rfl, rfl, trivial⟩ ?_
  refine QM.then ?_
  refine wpM.seq ?_
  refine wpM.region ?_
  refine LM.val (ov_assign rfl) ?_
  refine LM.nil ?_
  refine QM.sub (e' := [(0, _), (1, _), (5, _)]) ⟨rfl, rfl, rfl, trivial⟩ ?_
  refine QM.then ?_
  refine wpM.seq ?_
  refine wpM.seq ?_
  refine wpM.region ?_
  refine LM.val (ov_assign rfl) ?_
  refine LM.nil ?_
  refine QM.sub (e' := [(0, _), (1, _), (5, _), (6, _)]) ⟨rfl, rfl, rfl, rfl, trivial⟩ ?_
  refine QM.then ?_
  refine wpM.block ?_
  refine wpM.loopK0 (α := Nat × List St × Option Addr × Nat × Nat × Mem0) (fun ⟨i, out, ado, no, capo, mo⟩ => [(5, .slice ado no capo), (6, .int .i64 (i : Nat))]) [(0, _), (1, _)] (fun ⟨i, out, ado, no, capo, mo⟩ => mo ++ []) (fun ⟨i, out, ado, no, capo, mo⟩ => i ≤ evs.length ∧ no = out.length ∧ Sl fT 72 6 w.heap.size out (.slice ado no capo) mo ∧ out ++ eachT waitEnd 6 (evs.drop i) = eachT waitEnd 6 evs) (fun ⟨i, out, ado, no, capo, mo⟩ => evs.length - i) ((0, [], none, 0, 0, [])) ⟨(by first | rfl | exact lk rfl (by congr 1; omega) | exact lk rfl (by simp)), (by first | rfl | exact lk rfl (by congr 1; omega) | exact lk rfl (by simp)), rfl, rfl, trivial⟩ (by (repeat' (first | exact SubM.nil _ | refine SubM.cons rfl ?_ | refine SubM.app ?_))) ⟨Nat.zero_le _, rfl, .nil _ _ _ _, rfl⟩ ?_
  rintro ⟨i, out, ado, no, capo, mo⟩ ⟨hi, hno, hso, hout⟩
  change wpM _ _ _ _ _ _ _ (mo ++ []) _ _ _
  have hol : out.length ≤ evs.length := (by have h1 := eachT_len waitEnd 6 evs; rw [← hout, List.length_append] at h1; omega)
  refine wpM.seq ?_
  refine wpM.seq ?_
  refine wpM.region ?_
  refine LM.val (ov_move rfl) ?_
  refine LM.val (ov_move rfl) ?_
  refine LM.val (ov_len Try.underlying59 rfl) ?_
  refine LM.val (ov_lss rfl rfl) ?_
  refine LM.nil ?_
  refine QM.sub (e' := [(0, _), (1, _), (5, _), (6, _), (12, _)]) ⟨rfl, rfl, rfl, rfl, rfl, trivial⟩ ?_
  refine QM.then ?_
  first | refine wpM.condD rfl (fun h1 => ?_) (fun h1 => ?_) | refine wpM.condB rfl (fun h1 => ?_) (fun h1 => ?_)
  ·
    refine wpM.skip ?_
    refine QM.then ?_
    refine wpM.seq ?_
    refine wpM.block ?_
    refine wpM.seq ?_
    refine wpM.seq ?_
    refine wpM.region ?_
    refine LM.val (ov_move rfl) ?_
    refine LM.val (ov_move rfl) ?_
    first | refine LM.val (ov_idxSN (by first | exact Sr.spt (by assumption) | exact Sl.spt (by assumption)) Try.underlying59 Try.sizeOf97 rfl rfl (by omega)) ?_ | refine LM.val (ov_idxS (by first | exact Sr.spt (by assumption) | exact Sl.spt (by assumption)) Try.underlying59 Try.sizeOf97 rfl rfl (by omega)) ?_ | refine LM.val (ov_idx Try.underlying59 Try.sizeOf97 rfl rfl (by omega)) ?_
    refine LM.val (ov_field Try.underlying97 rfl Try.sizeOf3 rfl (k := 1) rfl rfl) ?_
    first | refine LM.rd (om_slE (j := 1) (by assumption) (by intro _; rfl) Try.isAgg3 rfl rfl (by exact getq default (by first | omega | (simp only [List.length_set, List.length_append, List.length_cons, List.length_nil]; omega))) rfl (by rfl)) ?_ | refine LM.rdC (om_srE (j := 1) (by assumption) Try.isAgg3 rfl rfl (by exact getq default (by first | omega | (simp only [List.length_set, List.length_append, List.length_cons, List.length_nil]; omega))) (by rfl) (by rfl) id) ?_ | refine LM.rd (om_ld Try.isAgg3 rfl rfl) ?_
    refine LM.val (ov_move rfl) ?_
    refine LM.val (ov_neq rfl rfl) ?_
    refine LM.nil ?_
    refine QM.sub (e' := [(0, _), (1, _), (5, _), (6, _), (21, _)]) ⟨rfl, rfl, rfl, rfl, rfl, trivial⟩ ?_
    refine QM.then ?_
    first | refine wpM.condD rfl (fun h2 => ?_) (fun h2 => ?_) | refine wpM.condB rfl (fun h2 => ?_) (fun h2 => ?_)
    ·
      refine wpM.exit ?_
      refine QM.then_exit ?_
      refine QM.block_hit ?_
      refine QM.then ?_
      refine wpM.region ?_
      refine LM.val (ov_move rfl) ?_
      refine LM.val (ov_add64 rfl rfl (by omega)) ?_
      refine LM.val (ov_assign rfl) ?_
      refine LM.nil ?_
      refine QM.sub (e' := [(0, _), (1, _), (5, _), (6, _)]) ⟨rfl, rfl, rfl, rfl, trivial⟩ ?_
      -- again1: h1+ h2+
      have hdr := eachT_drop waitEnd 6 (l := evs) (i := i) (by omega); rw [if_neg h2, List.nil_append] at hdr
      refine QM.againK (i + 1, out, ado, no, capo, mo) ⟨(by first | rfl | exact lk rfl (by congr 1; omega) | exact lk rfl (by simp)), (by first | rfl | exact lk rfl (by congr 1; omega) | exact lk rfl (by simp)), rfl, rfl, trivial⟩ (by (repeat' (first | exact SubM.nil _ | refine SubM.cons rfl ?_ | refine SubM.app ?_))) (fun _ h => h) ?_ ?_
      · exact ⟨by omega, hno, hso, by rw [← hdr]; exact hout⟩
      · first | omega | (dsimp only; omega)
    ·
      have hkd : (evs.getD i default).kind = 6 := Classical.not_not.1 h2
      refine wpM.skip ?_
      refine QM.then ?_
      refine wpM.seq ?_
      refine wpM.joinK (α := Nat × Bool) (fun ⟨b7, rd⟩ => [(7, .pointer (some ⟨b7, 0, none⟩))]) [(0, _), (1, _), (5, _), (6, _)] (fun ⟨b7, rd⟩ => (b7, .cells (fT { mkT 6 (evs.getD i default) with read := rd }).toArray 72 (0, 0)) :: (mo ++ [])) (fun ⟨b7, rd⟩ => w.heap.size ≤ b7 ∧ rd = (mkT 6 (evs.getD i default)).read) ⟨rfl, rfl, rfl, rfl, trivial⟩ ?_ ?_
      ·
        refine wpM.draw [(0, 0), (1, 0), (2, 0), (3, 0), (4, 1), (5, 0), (6, 0), (7, 0), (8, 0), (9, 1), (10, 0), (11, 0), (12, 0), (13, 0), (14, 1), (15, 0), (16, 0), (17, 0), (18, 0), (19, 0), (20, 0), (21, 0), (22, 1), (23, 0), (24, 0), (25, 0), (26, 0), (27, 0), (28, 0), (29, 1), (30, 0), (31, 0), (32, 0), (33, 0), (34, 2), (35, 3)] (by kernel_rfl) (by kernel_rfl) ?_
        refine LD.val rfl rfl (ov_move rfl) ?_
        refine LD.val rfl rfl (ov_move rfl) ?_
        first | refine LD.val rfl rfl (ov_idxSN (by first | exact Sr.spt (by assumption) | exact Sl.spt (by assumption)) Try.underlying59 Try.sizeOf97 rfl rfl (by omega)) ?_ | refine LD.val rfl rfl (ov_idxS (by first | exact Sr.spt (by assumption) | exact Sl.spt (by assumption)) Try.underlying59 Try.sizeOf97 rfl rfl (by omega)) ?_ | refine LD.val rfl rfl (ov_idx Try.underlying59 Try.sizeOf97 rfl rfl (by omega)) ?_
        refine LD.val rfl rfl (ov_field Try.underlying97 rfl Try.sizeOf3 rfl (k := 2) rfl rfl) ?_
        first | refine LD.rd rfl rfl (om_slE (j := 2) (by assumption) (by intro _; rfl) Try.isAgg3 rfl rfl (by exact getq default (by first | omega | (simp only [List.length_set, List.length_append, List.length_cons, List.length_nil]; omega))) rfl (by rfl)) ?_ | refine LD.rdC rfl rfl (om_srE (j := 2) (by assumption) Try.isAgg3 rfl rfl (by exact getq default (by first | omega | (simp only [List.length_set, List.length_append, List.length_cons, List.length_nil]; omega))) (by rfl) (by rfl) id) ?_ | refine LD.rd rfl rfl (om_ld Try.isAgg3 rfl rfl) ?_
        refine LD.val rfl rfl (ov_move rfl) ?_
        refine LD.val rfl rfl (ov_move rfl) ?_
        first | refine LD.val rfl rfl (ov_idxSN (by first | exact Sr.spt (by assumption) | exact Sl.spt (by assumption)) Try.underlying59 Try.sizeOf97 rfl rfl (by omega)) ?_ | refine LD.val rfl rfl (ov_idxS (by first | exact Sr.spt (by assumption) | exact Sl.spt (by assumption)) Try.underlying59 Try.sizeOf97 rfl rfl (by omega)) ?_ | refine LD.val rfl rfl (ov_idx Try.underlying59 Try.sizeOf97 rfl rfl (by omega)) ?_
        refine LD.val rfl rfl (ov_field Try.underlying97 rfl Try.sizeOf3 rfl (k := 3) rfl rfl) ?_
        first | refine LD.rd rfl rfl (om_slE (j := 3) (by assumption) (by intro _; rfl) Try.isAgg3 rfl rfl (by exact getq default (by first | omega | (simp only [List.length_set, List.length_append, List.length_cons, List.length_nil]; omega))) rfl (by rfl)) ?_ | refine LD.rdC rfl rfl (om_srE (j := 3) (by assumption) Try.isAgg3 rfl rfl (by exact getq default (by first | omega | (simp only [List.length_set, List.length_append, List.length_cons, List.length_nil]; omega))) (by rfl) (by rfl) id) ?_ | refine LD.rd rfl rfl (om_ld Try.isAgg3 rfl rfl) ?_
        refine LD.val rfl rfl (ov_move rfl) ?_
        refine LD.val rfl rfl (ov_move rfl) ?_
        first | refine LD.val rfl rfl (ov_idxSN (by first | exact Sr.spt (by assumption) | exact Sl.spt (by assumption)) Try.underlying59 Try.sizeOf97 rfl rfl (by omega)) ?_ | refine LD.val rfl rfl (ov_idxS (by first | exact Sr.spt (by assumption) | exact Sl.spt (by assumption)) Try.underlying59 Try.sizeOf97 rfl rfl (by omega)) ?_ | refine LD.val rfl rfl (ov_idx Try.underlying59 Try.sizeOf97 rfl rfl (by omega)) ?_
        refine LD.val rfl rfl (ov_field Try.underlying97 rfl Try.sizeOf22 rfl (k := 0) rfl rfl) ?_
        first | refine LD.rd rfl rfl (om_slE (j := 0) (by assumption) (by intro _; rfl) Try.isAgg22 rfl rfl (by exact getq default (by first | omega | (simp only [List.length_set, List.length_append, List.length_cons, List.length_nil]; omega))) rfl (by rfl)) ?_ | refine LD.rdC rfl rfl (om_srE (j := 0) (by assumption) Try.isAgg22 rfl rfl (by exact getq default (by first | omega | (simp only [List.length_set, List.length_append, List.length_cons, List.length_nil]; omega))) (by rfl) (by rfl) id) ?_ | refine LD.rd rfl rfl (om_ld Try.isAgg22 rfl rfl) ?_
        refine LD.val rfl rfl (ov_move rfl) ?_
        refine LD.val rfl rfl (ov_eql rfl rfl) ?_
        refine LD.val rfl rfl (ov_move rfl) ?_
        first | refine LD.splitD (t := 39) rfl (fun h3 => ?_) (fun h3 => ?_) | refine LD.splitB (t := 39) rfl (fun h3 => ?_) (fun h3 => ?_)
        ·
          exact absurd h3 (by decide)
        ·
          refine LD.drop rfl rfl ⟨39, _, rfl, rfl, rfl⟩ ?_
          refine LD.drop rfl rfl ⟨39, _, rfl, rfl, rfl⟩ ?_
          refine LD.drop rfl rfl ⟨39, _, rfl, rfl, rfl⟩ ?_
          refine LD.drop rfl rfl ⟨39, _, rfl, rfl, rfl⟩ ?_
          refine LD.drop rfl rfl ⟨39, _, rfl, rfl, rfl⟩ ?_
          refine LD.drop rfl rfl ⟨39, _, rfl, rfl, rfl⟩ ?_
          refine LD.dropU rfl rfl ⟨39, _, rfl, rfl, rfl⟩ ?_
          refine LD.dropX rfl rfl rfl rfl ?_
          refine LD.dropX rfl rfl rfl rfl ?_
          refine LD.dropX rfl rfl rfl rfl ?_
          refine LD.dropX rfl rfl rfl rfl ?_
          refine LD.dropX rfl rfl rfl rfl ?_
          refine LD.dropX rfl rfl rfl rfl ?_
          refine LD.drop rfl rfl ⟨39, _, rfl, rfl, rfl⟩ ?_
          refine LD.val rfl rfl (ov_pickF rfl rfl) ?_
          refine LD.val rfl rfl (ov_build (cs := #[_, _, _, _, _, _]) rfl (by first | rfl | kernel_rfl)) ?_
          refine LD.alloc rfl rfl Try.zeroValue72 rfl (fun b7 hb7 => ?_)
          refine LD.tail rfl rfl ?_
          refine LM.st Try.sizeOf72 rfl rfl rfl (by first | decide | exact Nat.le_of_ble_eq_true rfl | (simp; done) | (simp; omega)) rfl (fun hlt => absurd hlt (by omega)) ?_
          refine LM.nil ?_
          refine QM.qn ?_
          refine QM.sub (e' := [(0, _), (1, _), (5, _), (6, _), (7, _)]) ⟨rfl, rfl, rfl, rfl, rfl, trivial⟩ ?_
          -- meet1: h1+ h2- h3-
          refine QM.meetK (b7, false) ⟨(by first | rfl | exact lk rfl (by congr 1; omega) | exact lk rfl (by simp)), rfl, rfl, rfl, rfl, trivial⟩ (by (repeat' (first | exact SubM.nil _ | refine SubM.cons rfl ?_ | refine SubM.app ?_))) ?_
          · exact ⟨hb7, by simp [mkT]⟩
      ·
        rintro ⟨b7, rd⟩ ⟨hb7, hrd⟩
        change QM _ _ _ _ _ ((b7, .cells (fT { mkT 6 (evs.getD i default) with read := rd }).toArray 72 (0, 0)) :: (mo ++ [])) _ _ _
        have hmk : ({ mkT 6 (evs.getD i default) with read := rd } : St) = mkT 6 (evs.getD i default) := (by rw [hrd]); rw [hmk]
        refine QM.then ?_
        refine wpM.seq ?_
        refine wpM.seq ?_
        refine wpM.region ?_
        refine LM.val (ov_move rfl) ?_
        refine LM.val (ov_add64 rfl rfl (by omega)) ?_
        refine LM.val (ov_assign rfl) ?_
        refine LM.nil ?_
        refine QM.sub (e' := [(0, _), (1, _), (5, _), (6, _), (7, _), (8, _)]) ⟨rfl, rfl, rfl, rfl, rfl, rfl, trivial⟩ ?_
        refine QM.then ?_
        refine wpM.block ?_
        refine wpM.loopK0 (α := Nat × St) (fun ⟨k, s⟩ => [(8, .int .i64 (k : Nat))]) [(0, _), (1, _), (5, _), (6, _), (7, _)] (fun ⟨k, s⟩ => mo ++ ((b7, .cells (fT s).toArray 72 (0, 0)) :: [])) (fun ⟨k, s⟩ => i + 1 ≤ k ∧ k ≤ evs.length ∧ s = ((evs.take k).drop (i + 1)).foldl (stepT waitEnd) (mkT 6 (evs.getD i default))) (fun ⟨k, s⟩ => evs.length - k) ((i + 1, mkT 6 (evs.getD i default))) ⟨(by first | rfl | exact lk rfl (by congr 1; omega) | exact lk rfl (by simp)), rfl, rfl, rfl, rfl, rfl, trivial⟩ (by (repeat' (first | exact SubM.nil _ | refine SubM.cons rfl ?_ | refine SubM.app ?_))) ⟨Nat.le_refl _, by omega, by rw [List.drop_of_length_le (by rw [List.length_take]; omega)]; rfl⟩ ?_
        rintro ⟨k, s⟩ ⟨hk0, hk, hs⟩
        change wpM _ _ _ _ _ _ _ (mo ++ ((b7, .cells (fT s).toArray 72 (0, 0)) :: [])) _ _ _
        obtain ⟨t1, t2, t3, t4⟩ := fold_task waitEnd ((evs.take k).drop (i + 1)) (mkT 6 (evs.getD i default)); rw [← hs] at t1 t2 t3 t4
        refine wpM.seq ?_
        refine wpM.seq ?_
        refine wpM.region ?_
        refine LM.val (ov_move rfl) ?_
        refine LM.val (ov_move rfl) ?_
        refine LM.val (ov_len Try.underlying59 rfl) ?_
        refine LM.val (ov_lss rfl rfl) ?_
        refine LM.val (ov_move rfl) ?_
        first | refine LM.splitD (t := 62) rfl (fun h4 => ?_) (fun h4 => ?_) | refine LM.splitB (t := 62) rfl (fun h4 => ?_) (fun h4 => ?_)
        ·
          refine LM.strip (t := 62) rfl rfl rfl ?_
          refine LM.val (ov_field Try.underlying72 rfl Try.sizeOf3 rfl (k := 4) rfl rfl) ?_
          refine LM.strip (t := 62) rfl rfl rfl ?_
          first | refine LM.rd (om_ld Try.isAgg3 rfl rfl) ?_
          refine LM.strip (t := 62) rfl rfl rfl ?_
          refine LM.val (ov_eql rfl rfl) ?_
          refine LM.val (ov_pickT rfl rfl) ?_
          refine LM.nil ?_
          refine QM.sub (e' := [(0, _), (1, _), (5, _), (6, _), (7, _), (8, _), (66, _)]) ⟨rfl, rfl, rfl, rfl, rfl, rfl, rfl, trivial⟩ ?_
          refine QM.then ?_
          first | refine wpM.condD rfl (fun h5 => ?_) (fun h5 => ?_) | refine wpM.condB rfl (fun h5 => ?_) (fun h5 => ?_)
          ·
            refine wpM.skip ?_
            refine QM.then ?_
            refine wpM.seq ?_
            refine wpM.block ?_
            refine wpM.seq ?_
            refine wpM.draw [(0, 0), (1, 0), (2, 0), (3, 1), (4, 0), (5, 0), (6, 0), (7, 1), (8, 2), (9, 0), (10, 3)] (by kernel_rfl) (by kernel_rfl) ?_
            refine LD.val rfl rfl (ov_move rfl) ?_
            refine LD.val rfl rfl (ov_move rfl) ?_
            first | refine LD.val rfl rfl (ov_idxSN (by first | exact Sr.spt (by assumption) | exact Sl.spt (by assumption)) Try.underlying59 Try.sizeOf97 rfl rfl (by omega)) ?_ | refine LD.val rfl rfl (ov_idxS (by first | exact Sr.spt (by assumption) | exact Sl.spt (by assumption)) Try.underlying59 Try.sizeOf97 rfl rfl (by omega)) ?_ | refine LD.val rfl rfl (ov_idx Try.underlying59 Try.sizeOf97 rfl rfl (by omega)) ?_
            first | refine LD.rd rfl rfl (om_slA (by assumption) (by intro _; rfl) Try.isAgg97 Try.sizeOf97 rfl (by exact getq default (by first | omega | (simp only [List.length_set, List.length_append, List.length_cons, List.length_nil]; omega)))) ?_ | refine LD.rdC rfl rfl (om_srEA (by assumption) (by intro _; rfl) Try.isAgg97 Try.sizeOf97 rfl (by exact getq default (by first | omega | (simp only [List.length_set, List.length_append, List.length_cons, List.length_nil]; omega))) id) ?_ | refine LD.rd rfl rfl (om_ldA Try.isAgg97 Try.sizeOf97 rfl (vs := [_, _, _, _, _]) rfl ⟨rfl, rfl, rfl, rfl, rfl, trivial⟩) ?_
            refine LD.val rfl rfl (ov_move rfl) ?_
            refine LD.val rfl rfl (ov_move rfl) ?_
            first | refine LD.val rfl rfl (ov_idxSN (by first | exact Sr.spt (by assumption) | exact Sl.spt (by assumption)) Try.underlying59 Try.sizeOf97 rfl rfl (by omega)) ?_ | refine LD.val rfl rfl (ov_idxS (by first | exact Sr.spt (by assumption) | exact Sl.spt (by assumption)) Try.underlying59 Try.sizeOf97 rfl rfl (by omega)) ?_ | refine LD.val rfl rfl (ov_idx Try.underlying59 Try.sizeOf97 rfl rfl (by omega)) ?_
            first | refine LD.rd rfl rfl (om_slA (by assumption) (by intro _; rfl) Try.isAgg97 Try.sizeOf97 rfl (by exact getq default (by first | omega | (simp only [List.length_set, List.length_append, List.length_cons, List.length_nil]; omega)))) ?_ | refine LD.rdC rfl rfl (om_srEA (by assumption) (by intro _; rfl) Try.isAgg97 Try.sizeOf97 rfl (by exact getq default (by first | omega | (simp only [List.length_set, List.length_append, List.length_cons, List.length_nil]; omega))) id) ?_ | refine LD.rd rfl rfl (om_ldA Try.isAgg97 Try.sizeOf97 rfl (vs := [_, _, _, _, _]) rfl ⟨rfl, rfl, rfl, rfl, rfl, trivial⟩) ?_
            have hen := ends_wait hkd (s := s) (e := evs.getD k default) t1 t2
            refine LD.callE rfl rfl (oc_call (enters_fn Try.func64 (by kernel_rfl) rfl) rfl) (fun w hm hc hg => ends_spec _ _ w) ?_
            refine LD.val rfl rfl (ov_field Try.underlying72 rfl Try.sizeOf3 rfl (k := 4) rfl rfl) ?_
            refine LD.tail rfl rfl ?_
            refine LM.st Try.sizeOf3 rfl rfl rfl (by first | decide | exact Nat.le_of_ble_eq_true rfl | (simp; done) | (simp; omega)) rfl (fun hlt => absurd hlt (by omega)) ?_
            refine LM.nil ?_
            refine QM.qn ?_
            refine QM.sub (e' := [(0, _), (1, _), (5, _), (6, _), (7, _), (8, _)]) ⟨rfl, rfl, rfl, rfl, rfl, rfl, trivial⟩ ?_
            refine QM.then ?_
            refine wpM.seq ?_
            refine wpM.region ?_
            refine LM.val (ov_field Try.underlying72 rfl Try.sizeOf3 rfl (k := 4) rfl rfl) ?_
            first | refine LM.rd (om_ld Try.isAgg3 rfl rfl) ?_
            refine LM.val (ov_neq rfl rfl) ?_
            refine LM.nil ?_
            refine QM.sub (e' := [(0, _), (1, _), (5, _), (6, _), (7, _), (8, _), (81, _)]) ⟨rfl, rfl, rfl, rfl, rfl, rfl, rfl, trivial⟩ ?_
            refine QM.then ?_
            first | refine wpM.condD rfl (fun h6 => ?_) (fun h6 => ?_) | refine wpM.condB rfl (fun h6 => ?_) (fun h6 => ?_)
            ·
              refine wpM.region ?_
              refine LM.val (ov_move rfl) ?_
              refine LM.val (ov_move rfl) ?_
              first | refine LM.val (ov_idxSN (by first | exact Sr.spt (by assumption) | exact Sl.spt (by assumption)) Try.underlying59 Try.sizeOf97 rfl rfl (by omega)) ?_ | refine LM.val (ov_idxS (by first | exact Sr.spt (by assumption) | exact Sl.spt (by assumption)) Try.underlying59 Try.sizeOf97 rfl rfl (by omega)) ?_ | refine LM.val (ov_idx Try.underlying59 Try.sizeOf97 rfl rfl (by omega)) ?_
              refine LM.val (ov_field Try.underlying97 rfl Try.sizeOf22 rfl (k := 0) rfl rfl) ?_
              first | refine LM.rd (om_slE (j := 0) (by assumption) (by intro _; rfl) Try.isAgg22 rfl rfl (by exact getq default (by first | omega | (simp only [List.length_set, List.length_append, List.length_cons, List.length_nil]; omega))) rfl (by rfl)) ?_ | refine LM.rdC (om_srE (j := 0) (by assumption) Try.isAgg22 rfl rfl (by exact getq default (by first | omega | (simp only [List.length_set, List.length_append, List.length_cons, List.length_nil]; omega))) (by rfl) (by rfl) id) ?_ | refine LM.rd (om_ld Try.isAgg22 rfl rfl) ?_
              refine LM.val (ov_field Try.underlying72 rfl Try.sizeOf22 rfl (k := 3) rfl rfl) ?_
              refine LM.st Try.sizeOf22 rfl rfl rfl (by first | decide | exact Nat.le_of_ble_eq_true rfl | (simp; done) | (simp; omega)) rfl (fun hlt => absurd hlt (by omega)) ?_
              refine LM.nil ?_
              refine QM.sub (e' := [(0, _), (1, _), (5, _), (6, _), (7, _), (8, _)]) ⟨rfl, rfl, rfl, rfl, rfl, rfl, trivial⟩ ?_
              refine QM.block_normal ?_
              refine QM.then ?_
              refine wpM.region ?_
              refine LM.val (ov_move rfl) ?_
              refine LM.val (ov_add64 rfl rfl (by omega)) ?_
              refine LM.val (ov_assign rfl) ?_
              refine LM.nil ?_
              refine QM.sub (e' := [(0, _), (1, _), (5, _), (6, _), (7, _), (8, _)]) ⟨rfl, rfl, rfl, rfl, rfl, rfl, trivial⟩ ?_
              -- again1: h1+ h2- h3- h4+ h5+ h6+
              refine QM.againK (k + 1, { s with fin := endsF (evs.getD i default) (evs.getD k default), to := (evs.getD k default).time }) ⟨(by first | rfl | exact lk rfl (by congr 1; omega) | exact lk rfl (by simp)), rfl, rfl, rfl, rfl, rfl, trivial⟩ (by (repeat' (first | exact SubM.nil _ | refine SubM.cons rfl ?_ | refine SubM.app ?_))) (fun _ h => h) ?_ ?_
              · exact ⟨by omega, by omega, by rw [drop_take_snoc default (by omega) (by omega), List.foldl_append, ← hs]; exact (stepT_ends2 h5 hen h6).symm⟩
              · first | omega | (dsimp only; omega)
            ·
              refine wpM.skip ?_
              refine QM.block_normal ?_
              refine QM.then ?_
              refine wpM.region ?_
              refine LM.val (ov_move rfl) ?_
              refine LM.val (ov_add64 rfl rfl (by omega)) ?_
              refine LM.val (ov_assign rfl) ?_
              refine LM.nil ?_
              refine QM.sub (e' := [(0, _), (1, _), (5, _), (6, _), (7, _), (8, _)]) ⟨rfl, rfl, rfl, rfl, rfl, rfl, trivial⟩ ?_
              -- again2: h1+ h2- h3- h4+ h5+ h6-
              refine QM.againK (k + 1, { s with fin := endsF (evs.getD i default) (evs.getD k default) }) ⟨(by first | rfl | exact lk rfl (by congr 1; omega) | exact lk rfl (by simp)), rfl, rfl, rfl, rfl, rfl, trivial⟩ (by (repeat' (first | exact SubM.nil _ | refine SubM.cons rfl ?_ | refine SubM.app ?_))) (fun _ h => h) ?_ ?_
              · exact ⟨by omega, by omega, by rw [drop_take_snoc default (by omega) (by omega), List.foldl_append, ← hs]; exact (stepT_ends3 h5 hen h6).symm⟩
              · first | omega | (dsimp only; omega)
          ·
            refine wpM.exit ?_
            refine QM.then_exit ?_
            refine QM.then_exit ?_
            refine QM.block_hit ?_
            refine QM.then ?_
            refine wpM.region ?_
            have hfull : s = (evs.drop (i + 1)).foldl (stepT waitEnd) (mkT 6 (evs.getD i default)) := (by by_cases hkl : k = evs.length; (subst hkl; rw [hs, List.take_length]); (rw [fold_split waitEnd hk hk0, ← hs]; exact (fold_over waitEnd (by omega) _).symm))
            refine LM.val (ov_move rfl) ?_
            first | refine LM.rd (om_ldA Try.isAgg72 Try.sizeOf72 rfl (vs := [_, _, _, _, _, _]) rfl ⟨rfl, rfl, rfl, rfl, rfl, rfl, trivial⟩) ?_
            refine LM.single Try.underlying61 Try.sizeOf72 Try.zeroValue72 rfl rfl rfl rfl rfl (fun b90 hb90 => ?_)
            refine LM.app Try.underlying61 Try.typeInfo72 rfl rfl rfl rfl rfl rfl rfl (by assumption) (by rfl) (by intro _; rfl) (by intro _ u hu; simp [fT] at hu; (repeat (first | (rcases hu with rfl | hu) | subst hu | rfl))) (by first | exact Nat.le_refl _ | omega) (fun p hp hlt => absurd hlt (Nat.not_lt_of_le (Sl.ge (by assumption) p hp))) (by first | omega | (unfold maxLen; omega)) (by simp only [Try.t72]; omega) (fun ad91 n91 cap91 m91 hn91 hs91 hin91 => ?_)
            refine LM.val (ov_assign rfl) ?_
            refine LM.nil ?_
            refine QM.sub (e' := [(0, _), (1, _), (5, _), (6, _)]) ⟨rfl, rfl, rfl, rfl, trivial⟩ ?_
            refine QM.block_normal ?_
            refine QM.then ?_
            refine wpM.region ?_
            refine LM.val (ov_move rfl) ?_
            refine LM.val (ov_add64 rfl rfl (by omega)) ?_
            refine LM.val (ov_assign rfl) ?_
            refine LM.nil ?_
            refine QM.sub (e' := [(0, _), (1, _), (5, _), (6, _)]) ⟨rfl, rfl, rfl, rfl, trivial⟩ ?_
            -- again2: h1+ h2- h3- h4+ h5-
            have hdr := eachT_drop waitEnd 6 (l := evs) (i := i) (by omega); rw [if_pos hkd, ← hfull] at hdr
            refine QM.againK (i + 1, out ++ [s], ad91, n91, cap91, m91) ⟨(by first | rfl | exact lk rfl (by congr 1; omega) | exact lk rfl (by simp)), (by first | rfl | exact lk rfl (by congr 1; omega) | exact lk rfl (by simp)), rfl, rfl, trivial⟩ (by (repeat' (first | exact SubM.nil _ | refine SubM.cons rfl ?_ | refine SubM.app ?_))) (fun _ h => h) ?_ ?_
            · exact ⟨by omega, by simp; omega, hs91, by rw [List.append_assoc, ← hdr]; exact hout⟩
            · first | omega | (dsimp only; omega)
        ·
          refine LM.drop (t := 62) rfl rfl rfl ?_
          refine LM.drop (t := 62) rfl rfl rfl ?_
          refine LM.drop (t := 62) rfl rfl rfl ?_
          refine LM.val (ov_pickF rfl rfl) ?_
          refine LM.nil ?_
          refine QM.sub (e' := [(0, _), (1, _), (5, _), (6, _), (7, _), (8, _), (66, _)]) ⟨rfl, rfl, rfl, rfl, rfl, rfl, rfl, trivial⟩ ?_
          refine QM.then ?_
          refine wpM.condF rfl ?_
          refine wpM.exit ?_
          refine QM.then_exit ?_
          refine QM.then_exit ?_
          refine QM.block_hit ?_
          refine QM.then ?_
          refine wpM.region ?_
          have hfull : s = (evs.drop (i + 1)).foldl (stepT waitEnd) (mkT 6 (evs.getD i default)) := (by by_cases hkl : k = evs.length; (subst hkl; rw [hs, List.take_length]); (rw [fold_split waitEnd hk hk0, ← hs]; exact (fold_over waitEnd (by omega) _).symm))
          refine LM.val (ov_move rfl) ?_
          first | refine LM.rd (om_ldA Try.isAgg72 Try.sizeOf72 rfl (vs := [_, _, _, _, _, _]) rfl ⟨rfl, rfl, rfl, rfl, rfl, rfl, trivial⟩) ?_
          refine LM.single Try.underlying61 Try.sizeOf72 Try.zeroValue72 rfl rfl rfl rfl rfl (fun b90 hb90 => ?_)
          refine LM.app Try.underlying61 Try.typeInfo72 rfl rfl rfl rfl rfl rfl rfl (by assumption) (by rfl) (by intro _; rfl) (by intro _ u hu; simp [fT] at hu; (repeat (first | (rcases hu with rfl | hu) | subst hu | rfl))) (by first | exact Nat.le_refl _ | omega) (fun p hp hlt => absurd hlt (Nat.not_lt_of_le (Sl.ge (by assumption) p hp))) (by first | omega | (unfold maxLen; omega)) (by simp only [Try.t72]; omega) (fun ad91 n91 cap91 m91 hn91 hs91 hin91 => ?_)
          refine LM.val (ov_assign rfl) ?_
          refine LM.nil ?_
          refine QM.sub (e' := [(0, _), (1, _), (5, _), (6, _)]) ⟨rfl, rfl, rfl, rfl, trivial⟩ ?_
          refine QM.block_normal ?_
          refine QM.then ?_
          refine wpM.region ?_
          refine LM.val (ov_move rfl) ?_
          refine LM.val (ov_add64 rfl rfl (by omega)) ?_
          refine LM.val (ov_assign rfl) ?_
          refine LM.nil ?_
          refine QM.sub (e' := [(0, _), (1, _), (5, _), (6, _)]) ⟨rfl, rfl, rfl, rfl, trivial⟩ ?_
          -- again3: h1+ h2- h3- h4-
          have hdr := eachT_drop waitEnd 6 (l := evs) (i := i) (by omega); rw [if_pos hkd, ← hfull] at hdr
          refine QM.againK (i + 1, out ++ [s], ad91, n91, cap91, m91) ⟨(by first | rfl | exact lk rfl (by congr 1; omega) | exact lk rfl (by simp)), (by first | rfl | exact lk rfl (by congr 1; omega) | exact lk rfl (by simp)), rfl, rfl, trivial⟩ (by (repeat' (first | exact SubM.nil _ | refine SubM.cons rfl ?_ | refine SubM.app ?_))) (fun _ h => h) ?_ ?_
          · exact ⟨by omega, by simp; omega, hs91, by rw [List.append_assoc, ← hdr]; exact hout⟩
          · first | omega | (dsimp only; omega)
  ·
    refine wpM.exit ?_
    refine QM.then_exit ?_
    refine QM.then_exit ?_
    refine QM.block_hit ?_
    refine QM.then ?_
    refine wpM.seq ?_
    refine wpM.region ?_
    refine LM.val (ov_move rfl) ?_
    refine LM.val (ov_assign rfl) ?_
    refine LM.nil ?_
    refine QM.sub (e' := [(4, _)]) ⟨rfl, trivial⟩ ?_
    refine QM.then ?_
    refine wpM.ret ?_
    refine QM.leave (.inl rfl) [.tmp 4] Try.results40 rfl ?_
    intro w' hm' hc' hg'
    -- leaf 1: h1-
    have hkl : i = evs.length := (by omega); subst hkl; rw [List.drop_length, eachT, List.append_nil] at hout; subst hout; exact ⟨hc', mo, hno ▸ hso, hm'.pick mo⟩

set_option maxRecDepth 100000 in
theorem rstays_holdEnd {evs : List Ev} {ad : Option Addr} {n cap : Nat} (w : World) (hn : n = evs.length) (hl : Sr fE 5 evs (.slice ad n cap) w) (hx2 : evs.length ≤ 1000000000000) : Ret Try.prog 40 #[.slice ad n cap, .int .i64 4] w (New fT 72 6 (eachT holdEnd 4 evs) w) := by
  refine Ret.enterM (l := [.slice ad n cap, .int .i64 4]) Try.func40 rfl Try.ntmps40 rfl ([]) (no) (Mem.nil w) ?_
  refine wpM.seq ?_
  refine wpM.region ?_
  refine LM.val (ov_assign rfl) ?_
  refine LM.nil ?_
  refine QM.sub (e' := [(0, _), (1, _)]) ⟨rfl, rfl, trivial⟩ ?_
  refine QM.then ?_
  refine wpM.seq ?_
  refine wpM.region ?_
  refine LM.val (ov_assign rfl) ?_
  refine LM.nil ?_
  refine QM.sub (e' := [(0, _), (1, _), (5, _)]) ⟨rfl, rfl, rfl, trivial⟩ ?_
  refine QM.then ?_
  refine wpM.seq ?_
  refine wpM.seq ?_
  refine wpM.region ?_
  refine LM.val (ov_assign rfl) ?_
  refine LM.nil ?_
  refine QM.sub (e' := [(0, _), (1, _), (5, _), (6, _)]) ⟨rfl, rfl, rfl, rfl, trivial⟩ ?_
  refine QM.then ?_
  refine wpM.block ?_
  refine wpM.loopK0 (α := Nat × List St × Option Addr × Nat × Nat × Mem0) (fun ⟨i, out, ado, no, capo, mo⟩ => [(5, .slice ado no capo), (6, .int .i64 (i : Nat))]) [(0, _), (1, _)] (fun ⟨i, out, ado, no, capo, mo⟩ => mo ++ []) (fun ⟨i, out, ado, no, capo, mo⟩ => i ≤ evs.length ∧ no = out.length ∧ Sl fT 72 6 w.heap.size out (.slice ado no capo) mo ∧ out ++ eachT holdEnd 4 (evs.drop i) = eachT holdEnd 4 evs) (fun ⟨i, out, ado, no, capo, mo⟩ => evs.length - i) ((0, [], none, 0, 0, [])) ⟨(by first | rfl | exact lk rfl (by congr 1; omega) | exact lk rfl (by simp)), (by first | rfl | exact lk rfl (by congr 1; omega) | exact lk rfl (by simp)), rfl, rfl, trivial⟩ (by (repeat' (first | exact SubM.nil _ | refine SubM.cons rfl ?_ | refine SubM.app ?_))) ⟨Nat.zero_le _, rfl, .nil _ _ _ _, rfl⟩ ?_
  rintro ⟨i, out, ado, no, capo, mo⟩ ⟨hi, hno, hso, hout⟩
  change wpM _ _ _ _ _ _ _ (mo ++ []) _ _ _
  have hol : out.length ≤ evs.length := (by have h1 := eachT_len holdEnd 4 evs; rw [← hout, List.length_append] at h1; omega)
  refine wpM.seq ?_
  refine wpM.seq ?_
  refine wpM.region ?_
  refine LM.val (ov_move rfl) ?_
  refine LM.val (ov_move rfl) ?_
  refine LM.val (ov_len Try.underlying59 rfl) ?_
  refine LM.val (ov_lss rfl rfl) ?_
  refine LM.nil ?_
  refine QM.sub (e' := [(0, _), (1, _), (5, _), (6, _), (12, _)]) ⟨rfl, rfl, rfl, rfl, rfl, trivial⟩ ?_
  refine QM.then ?_
  first | refine wpM.condD rfl (fun h1 => ?_) (fun h1 => ?_) | refine wpM.condB rfl (fun h1 => ?_) (fun h1 => ?_)
  ·
    refine wpM.skip ?_
    refine QM.then ?_
    refine wpM.seq ?_
    refine wpM.block ?_
    refine wpM.seq ?_
    refine wpM.seq ?_
    refine wpM.region ?_
    refine LM.val (ov_move rfl) ?_
    refine LM.val (ov_move rfl) ?_
    first | refine LM.val (ov_idxSN (by first | exact Sr.spt (by assumption) | exact Sl.spt (by assumption)) Try.underlying59 Try.sizeOf97 rfl rfl (by omega)) ?_ | refine LM.val (ov_idxS (by first | exact Sr.spt (by assumption) | exact Sl.spt (by assumption)) Try.underlying59 Try.sizeOf97 rfl rfl (by omega)) ?_ | refine LM.val (ov_idx Try.underlying59 Try.sizeOf97 rfl rfl (by omega)) ?_
    refine LM.val (ov_field Try.underlying97 rfl Try.sizeOf3 rfl (k := 1) rfl rfl) ?_
    first | refine LM.rd (om_slE (j := 1) (by assumption) (by intro _; rfl) Try.isAgg3 rfl rfl (by exact getq default (by first | omega | (simp only [List.length_set, List.length_append, List.length_cons, List.length_nil]; omega))) rfl (by rfl)) ?_ | refine LM.rdC (om_srE (j := 1) (by assumption) Try.isAgg3 rfl rfl (by exact getq default (by first | omega | (simp only [List.length_set, List.length_append, List.length_cons, List.length_nil]; omega))) (by rfl) (by rfl) id) ?_ | refine LM.rd (om_ld Try.isAgg3 rfl rfl) ?_
    refine LM.val (ov_move rfl) ?_
    refine LM.val (ov_neq rfl rfl) ?_
    refine LM.nil ?_
    refine QM.sub (e' := [(0, _), (1, _), (5, _), (6, _), (21, _)]) ⟨rfl, rfl, rfl, rfl, rfl, trivial⟩ ?_
    refine QM.then ?_
    first | refine wpM.condD rfl (fun h2 => ?_) (fun h2 => ?_) | refine wpM.condB rfl (fun h2 => ?_) (fun h2 => ?_)
    ·
      refine wpM.exit ?_
      refine QM.then_exit ?_
      refine QM.block_hit ?_
      refine QM.then ?_
      refine wpM.region ?_
      refine LM.val (ov_move rfl) ?_
      refine LM.val (ov_add64 rfl rfl (by omega)) ?_
      refine LM.val (ov_assign rfl) ?_
      refine LM.nil ?_
      refine QM.sub (e' := [(0, _), (1, _), (5, _), (6, _)]) ⟨rfl, rfl, rfl, rfl, trivial⟩ ?_
      -- again1: h1+ h2+
      have hdr := eachT_drop holdEnd 4 (l := evs) (i := i) (by omega); rw [if_neg h2, List.nil_append] at hdr
      refine QM.againK (i + 1, out, ado, no, capo, mo) ⟨(by first | rfl | exact lk rfl (by congr 1; omega) | exact lk rfl (by simp)), (by first | rfl | exact lk rfl (by congr 1; omega) | exact lk rfl (by simp)), rfl, rfl, trivial⟩ (by (repeat' (first | exact SubM.nil _ | refine SubM.cons rfl ?_ | refine SubM.app ?_))) (fun _ h => h) ?_ ?_
      · exact ⟨by omega, hno, hso, by rw [← hdr]; exact hout⟩
      · first | omega | (dsimp only; omega)
    ·
      have hkd : (evs.getD i default).kind = 4 := Classical.not_not.1 h2
      refine wpM.skip ?_
      refine QM.then ?_
      refine wpM.seq ?_
      refine wpM.joinK (α := Nat × Bool) (fun ⟨b7, rd⟩ => [(7, .pointer (some ⟨b7, 0, none⟩))]) [(0, _), (1, _), (5, _), (6, _)] (fun ⟨b7, rd⟩ => (b7, .cells (fT { mkT 4 (evs.getD i default) with read := rd }).toArray 72 (0, 0)) :: (mo ++ [])) (fun ⟨b7, rd⟩ => w.heap.size ≤ b7 ∧ rd = (mkT 4 (evs.getD i default)).read) ⟨rfl, rfl, rfl, rfl, trivial⟩ ?_ ?_
      ·
        refine wpM.draw [(0, 0), (1, 0), (2, 0), (3, 0), (4, 1), (5, 0), (6, 0), (7, 0), (8, 0), (9, 1), (10, 0), (11, 0), (12, 0), (13, 0), (14, 1), (15, 0), (16, 0), (17, 0), (18, 0), (19, 0), (20, 0), (21, 0), (22, 1), (23, 0), (24, 0), (25, 0), (26, 0), (27, 0), (28, 0), (29, 1), (30, 0), (31, 0), (32, 0), (33, 0), (34, 2), (35, 3)] (by kernel_rfl) (by kernel_rfl) ?_
        refine LD.val rfl rfl (ov_move rfl) ?_
        refine LD.val rfl rfl (ov_move rfl) ?_
        first | refine LD.val rfl rfl (ov_idxSN (by first | exact Sr.spt (by assumption) | exact Sl.spt (by assumption)) Try.underlying59 Try.sizeOf97 rfl rfl (by omega)) ?_ | refine LD.val rfl rfl (ov_idxS (by first | exact Sr.spt (by assumption) | exact Sl.spt (by assumption)) Try.underlying59 Try.sizeOf97 rfl rfl (by omega)) ?_ | refine LD.val rfl rfl (ov_idx Try.underlying59 Try.sizeOf97 rfl rfl (by omega)) ?_
        refine LD.val rfl rfl (ov_field Try.underlying97 rfl Try.sizeOf3 rfl (k := 2) rfl rfl) ?_
        first | refine LD.rd rfl rfl (om_slE (j := 2) (by assumption) (by intro _; rfl) Try.isAgg3 rfl rfl (by exact getq default (by first | omega | (simp only [List.length_set, List.length_append, List.length_cons, List.length_nil]; omega))) rfl (by rfl)) ?_ | refine LD.rdC rfl rfl (om_srE (j := 2) (by assumption) Try.isAgg3 rfl rfl (by exact getq default (by first | omega | (simp only [List.length_set, List.length_append, List.length_cons, List.length_nil]; omega))) (by rfl) (by rfl) id) ?_ | refine LD.rd rfl rfl (om_ld Try.isAgg3 rfl rfl) ?_
        refine LD.val rfl rfl (ov_move rfl) ?_
        refine LD.val rfl rfl (ov_move rfl) ?_
        first | refine LD.val rfl rfl (ov_idxSN (by first | exact Sr.spt (by assumption) | exact Sl.spt (by assumption)) Try.underlying59 Try.sizeOf97 rfl rfl (by omega)) ?_ | refine LD.val rfl rfl (ov_idxS (by first | exact Sr.spt (by assumption) | exact Sl.spt (by assumption)) Try.underlying59 Try.sizeOf97 rfl rfl (by omega)) ?_ | refine LD.val rfl rfl (ov_idx Try.underlying59 Try.sizeOf97 rfl rfl (by omega)) ?_
        refine LD.val rfl rfl (ov_field Try.underlying97 rfl Try.sizeOf3 rfl (k := 3) rfl rfl) ?_
        first | refine LD.rd rfl rfl (om_slE (j := 3) (by assumption) (by intro _; rfl) Try.isAgg3 rfl rfl (by exact getq default (by first | omega | (simp only [List.length_set, List.length_append, List.length_cons, List.length_nil]; omega))) rfl (by rfl)) ?_ | refine LD.rdC rfl rfl (om_srE (j := 3) (by assumption) Try.isAgg3 rfl rfl (by exact getq default (by first | omega | (simp only [List.length_set, List.length_append, List.length_cons, List.length_nil]; omega))) (by rfl) (by rfl) id) ?_ | refine LD.rd rfl rfl (om_ld Try.isAgg3 rfl rfl) ?_
        refine LD.val rfl rfl (ov_move rfl) ?_
        refine LD.val rfl rfl (ov_move rfl) ?_
        first | refine LD.val rfl rfl (ov_idxSN (by first | exact Sr.spt (by assumption) | exact Sl.spt (by assumption)) Try.underlying59 Try.sizeOf97 rfl rfl (by omega)) ?_ | refine LD.val rfl rfl (ov_idxS (by first | exact Sr.spt (by assumption) | exact Sl.spt (by assumption)) Try.underlying59 Try.sizeOf97 rfl rfl (by omega)) ?_ | refine LD.val rfl rfl (ov_idx Try.underlying59 Try.sizeOf97 rfl rfl (by omega)) ?_
        refine LD.val rfl rfl (ov_field Try.underlying97 rfl Try.sizeOf22 rfl (k := 0) rfl rfl) ?_
        first | refine LD.rd rfl rfl (om_slE (j := 0) (by assumption) (by intro _; rfl) Try.isAgg22 rfl rfl (by exact getq default (by first | omega | (simp only [List.length_set, List.length_append, List.length_cons, List.length_nil]; omega))) rfl (by rfl)) ?_ | refine LD.rdC rfl rfl (om_srE (j := 0) (by assumption) Try.isAgg22 rfl rfl (by exact getq default (by first | omega | (simp only [List.length_set, List.length_append, List.length_cons, List.length_nil]; omega))) (by rfl) (by rfl) id) ?_ | refine LD.rd rfl rfl (om_ld Try.isAgg22 rfl rfl) ?_
        refine LD.val rfl rfl (ov_move rfl) ?_
        refine LD.val rfl rfl (ov_eql rfl rfl) ?_
        refine LD.val rfl rfl (ov_move rfl) ?_
        first | refine LD.splitD (t := 39) rfl (fun h3 => ?_) (fun h3 => ?_) | refine LD.splitB (t := 39) rfl (fun h3 => ?_) (fun h3 => ?_)
        ·
          refine LD.val rfl ⟨39, _, rfl, rfl, rfl⟩ (ov_move rfl) ?_
          refine LD.val rfl ⟨39, _, rfl, rfl, rfl⟩ (ov_move rfl) ?_
          first | refine LD.val rfl ⟨39, _, rfl, rfl, rfl⟩ (ov_idxSN (by first | exact Sr.spt (by assumption) | exact Sl.spt (by assumption)) Try.underlying59 Try.sizeOf97 rfl rfl (by omega)) ?_ | refine LD.val rfl ⟨39, _, rfl, rfl, rfl⟩ (ov_idxS (by first | exact Sr.spt (by assumption) | exact Sl.spt (by assumption)) Try.underlying59 Try.sizeOf97 rfl rfl (by omega)) ?_ | refine LD.val rfl ⟨39, _, rfl, rfl, rfl⟩ (ov_idx Try.underlying59 Try.sizeOf97 rfl rfl (by omega)) ?_
          refine LD.val rfl ⟨39, _, rfl, rfl, rfl⟩ (ov_field Try.underlying97 rfl Try.sizeOf3 rfl (k := 4) rfl rfl) ?_
          first | refine LD.rd rfl ⟨39, _, rfl, rfl, rfl⟩ (om_slE (j := 4) (by assumption) (by intro _; rfl) Try.isAgg3 rfl rfl (by exact getq default (by first | omega | (simp only [List.length_set, List.length_append, List.length_cons, List.length_nil]; omega))) rfl (by rfl)) ?_ | refine LD.rdC rfl ⟨39, _, rfl, rfl, rfl⟩ (om_srE (j := 4) (by assumption) Try.isAgg3 rfl rfl (by exact getq default (by first | omega | (simp only [List.length_set, List.length_append, List.length_cons, List.length_nil]; omega))) (by rfl) (by rfl) id) ?_ | refine LD.rd rfl ⟨39, _, rfl, rfl, rfl⟩ (om_ld Try.isAgg3 rfl rfl) ?_
          refine LD.val rfl ⟨39, _, rfl, rfl, rfl⟩ (ov_eql rfl rfl) ?_
          refine LD.val rfl ⟨39, _, rfl, rfl, rfl⟩ (ov_move rfl) ?_
          first | refine LD.splitD (t := 46) rfl (fun h4 => ?_) (fun h4 => ?_) | refine LD.splitB (t := 46) rfl (fun h4 => ?_) (fun h4 => ?_)
          ·
            refine LD.drop rfl rfl ⟨46, _, rfl, rfl, rfl⟩ ?_
            refine LD.drop rfl rfl ⟨46, _, rfl, rfl, rfl⟩ ?_
            refine LD.drop rfl rfl ⟨46, _, rfl, rfl, rfl⟩ ?_
            refine LD.drop rfl rfl ⟨46, _, rfl, rfl, rfl⟩ ?_
            refine LD.drop rfl rfl ⟨46, _, rfl, rfl, rfl⟩ ?_
            refine LD.drop rfl rfl ⟨46, _, rfl, rfl, rfl⟩ ?_
            refine LD.val rfl ⟨39, _, rfl, rfl, rfl⟩ (ov_pickT rfl rfl) ?_
            refine LD.val rfl rfl (ov_pickT rfl rfl) ?_
            refine LD.val rfl rfl (ov_build (cs := #[_, _, _, _, _, _]) rfl (by first | rfl | kernel_rfl)) ?_
            refine LD.alloc rfl rfl Try.zeroValue72 rfl (fun b7 hb7 => ?_)
            refine LD.tail rfl rfl ?_
            refine LM.st Try.sizeOf72 rfl rfl rfl (by first | decide | exact Nat.le_of_ble_eq_true rfl | (simp; done) | (simp; omega)) rfl (fun hlt => absurd hlt (by omega)) ?_
            refine LM.nil ?_
            refine QM.qn ?_
            refine QM.sub (e' := [(0, _), (1, _), (5, _), (6, _), (7, _)]) ⟨rfl, rfl, rfl, rfl, rfl, trivial⟩ ?_
            -- meet1: h1+ h2- h3+ h4+
            refine QM.meetK (b7, true) ⟨(by first | rfl | exact lk rfl (by congr 1; omega) | exact lk rfl (by simp)), rfl, rfl, rfl, rfl, trivial⟩ (by (repeat' (first | exact SubM.nil _ | refine SubM.cons rfl ?_ | refine SubM.app ?_))) ?_
            · exact ⟨hb7, by simp only [mkT, h4]; rfl⟩
          ·
            refine LD.val rfl ⟨46, _, rfl, rfl, rfl⟩ (ov_move rfl) ?_
            refine LD.val rfl ⟨46, _, rfl, rfl, rfl⟩ (ov_move rfl) ?_
            first | refine LD.val rfl ⟨46, _, rfl, rfl, rfl⟩ (ov_idxSN (by first | exact Sr.spt (by assumption) | exact Sl.spt (by assumption)) Try.underlying59 Try.sizeOf97 rfl rfl (by omega)) ?_ | refine LD.val rfl ⟨46, _, rfl, rfl, rfl⟩ (ov_idxS (by first | exact Sr.spt (by assumption) | exact Sl.spt (by assumption)) Try.underlying59 Try.sizeOf97 rfl rfl (by omega)) ?_ | refine LD.val rfl ⟨46, _, rfl, rfl, rfl⟩ (ov_idx Try.underlying59 Try.sizeOf97 rfl rfl (by omega)) ?_
            refine LD.val rfl ⟨46, _, rfl, rfl, rfl⟩ (ov_field Try.underlying97 rfl Try.sizeOf3 rfl (k := 4) rfl rfl) ?_
            first | refine LD.rd rfl ⟨46, _, rfl, rfl, rfl⟩ (om_slE (j := 4) (by assumption) (by intro _; rfl) Try.isAgg3 rfl rfl (by exact getq default (by first | omega | (simp only [List.length_set, List.length_append, List.length_cons, List.length_nil]; omega))) rfl (by rfl)) ?_ | refine LD.rdC rfl ⟨46, _, rfl, rfl, rfl⟩ (om_srE (j := 4) (by assumption) Try.isAgg3 rfl rfl (by exact getq default (by first | omega | (simp only [List.length_set, List.length_append, List.length_cons, List.length_nil]; omega))) (by rfl) (by rfl) id) ?_ | refine LD.rd rfl ⟨46, _, rfl, rfl, rfl⟩ (om_ld Try.isAgg3 rfl rfl) ?_
            refine LD.val rfl ⟨46, _, rfl, rfl, rfl⟩ (ov_eql rfl rfl) ?_
            refine LD.val rfl ⟨39, _, rfl, rfl, rfl⟩ (ov_pickF rfl rfl) ?_
            refine LD.val rfl rfl (ov_pickT rfl rfl) ?_
            refine LD.val rfl rfl (ov_build (cs := #[_, _, _, _, _, _]) rfl (by first | rfl | kernel_rfl)) ?_
            refine LD.alloc rfl rfl Try.zeroValue72 rfl (fun b7 hb7 => ?_)
            refine LD.tail rfl rfl ?_
            refine LM.st Try.sizeOf72 rfl rfl rfl (by first | decide | exact Nat.le_of_ble_eq_true rfl | (simp; done) | (simp; omega)) rfl (fun hlt => absurd hlt (by omega)) ?_
            refine LM.nil ?_
            refine QM.qn ?_
            refine QM.sub (e' := [(0, _), (1, _), (5, _), (6, _), (7, _)]) ⟨rfl, rfl, rfl, rfl, rfl, trivial⟩ ?_
            -- meet2: h1+ h2- h3+ h4-
            refine QM.meetK (b7, decide ((evs.getD i default).n = 3)) ⟨(by first | rfl | exact lk rfl (by congr 1; omega) | exact lk rfl (by simp)), rfl, rfl, rfl, rfl, trivial⟩ (by (repeat' (first | exact SubM.nil _ | refine SubM.cons rfl ?_ | refine SubM.app ?_))) ?_
            · exact ⟨hb7, by simp only [mkT, decide_eq_false h4]; rfl⟩
        ·
          exact absurd h3 (by decide)
      ·
        rintro ⟨b7, rd⟩ ⟨hb7, hrd⟩
        change QM _ _ _ _ _ ((b7, .cells (fT { mkT 4 (evs.getD i default) with read := rd }).toArray 72 (0, 0)) :: (mo ++ [])) _ _ _
        have hmk : ({ mkT 4 (evs.getD i default) with read := rd } : St) = mkT 4 (evs.getD i default) := (by rw [hrd]); rw [hmk]
        refine QM.then ?_
        refine wpM.seq ?_
        refine wpM.seq ?_
        refine wpM.region ?_
        refine LM.val (ov_move rfl) ?_
        refine LM.val (ov_add64 rfl rfl (by omega)) ?_
        refine LM.val (ov_assign rfl) ?_
        refine LM.nil ?_
        refine QM.sub (e' := [(0, _), (1, _), (5, _), (6, _), (7, _), (8, _)]) ⟨rfl, rfl, rfl, rfl, rfl, rfl, trivial⟩ ?_
        refine QM.then ?_
        refine wpM.block ?_
        refine wpM.loopK0 (α := Nat × St) (fun ⟨k, s⟩ => [(8, .int .i64 (k : Nat))]) [(0, _), (1, _), (5, _), (6, _), (7, _)] (fun ⟨k, s⟩ => mo ++ ((b7, .cells (fT s).toArray 72 (0, 0)) :: [])) (fun ⟨k, s⟩ => i + 1 ≤ k ∧ k ≤ evs.length ∧ s = ((evs.take k).drop (i + 1)).foldl (stepT holdEnd) (mkT 4 (evs.getD i default))) (fun ⟨k, s⟩ => evs.length - k) ((i + 1, mkT 4 (evs.getD i default))) ⟨(by first | rfl | exact lk rfl (by congr 1; omega) | exact lk rfl (by simp)), rfl, rfl, rfl, rfl, rfl, trivial⟩ (by (repeat' (first | exact SubM.nil _ | refine SubM.cons rfl ?_ | refine SubM.app ?_))) ⟨Nat.le_refl _, by omega, by rw [List.drop_of_length_le (by rw [List.length_take]; omega)]; rfl⟩ ?_
        rintro ⟨k, s⟩ ⟨hk0, hk, hs⟩
        change wpM _ _ _ _ _ _ _ (mo ++ ((b7, .cells (fT s).toArray 72 (0, 0)) :: [])) _ _ _
        obtain ⟨t1, t2, t3, t4⟩ := fold_task holdEnd ((evs.take k).drop (i + 1)) (mkT 4 (evs.getD i default)); rw [← hs] at t1 t2 t3 t4
        refine wpM.seq ?_
        refine wpM.seq ?_
        refine wpM.region ?_
        refine LM.val (ov_move rfl) ?_
        refine LM.val (ov_move rfl) ?_
        refine LM.val (ov_len Try.underlying59 rfl) ?_
        refine LM.val (ov_lss rfl rfl) ?_
        refine LM.val (ov_move rfl) ?_
        first | refine LM.splitD (t := 62) rfl (fun h5 => ?_) (fun h5 => ?_) | refine LM.splitB (t := 62) rfl (fun h5 => ?_) (fun h5 => ?_)
        ·
          refine LM.strip (t := 62) rfl rfl rfl ?_
          refine LM.val (ov_field Try.underlying72 rfl Try.sizeOf3 rfl (k := 4) rfl rfl) ?_
          refine LM.strip (t := 62) rfl rfl rfl ?_
          first | refine LM.rd (om_ld Try.isAgg3 rfl rfl) ?_
          refine LM.strip (t := 62) rfl rfl rfl ?_
          refine LM.val (ov_eql rfl rfl) ?_
          refine LM.val (ov_pickT rfl rfl) ?_
          refine LM.nil ?_
          refine QM.sub (e' := [(0, _), (1, _), (5, _), (6, _), (7, _), (8, _), (66, _)]) ⟨rfl, rfl, rfl, rfl, rfl, rfl, rfl, trivial⟩ ?_
          refine QM.then ?_
          first | refine wpM.condD rfl (fun h6 => ?_) (fun h6 => ?_) | refine wpM.condB rfl (fun h6 => ?_) (fun h6 => ?_)
          ·
            refine wpM.skip ?_
            refine QM.then ?_
            refine wpM.seq ?_
            refine wpM.block ?_
            refine wpM.seq ?_
            refine wpM.draw [(0, 0), (1, 0), (2, 0), (3, 1), (4, 0), (5, 0), (6, 0), (7, 1), (8, 2), (9, 0), (10, 3)] (by kernel_rfl) (by kernel_rfl) ?_
            refine LD.val rfl rfl (ov_move rfl) ?_
            refine LD.val rfl rfl (ov_move rfl) ?_
            first | refine LD.val rfl rfl (ov_idxSN (by first | exact Sr.spt (by assumption) | exact Sl.spt (by assumption)) Try.underlying59 Try.sizeOf97 rfl rfl (by omega)) ?_ | refine LD.val rfl rfl (ov_idxS (by first | exact Sr.spt (by assumption) | exact Sl.spt (by assumption)) Try.underlying59 Try.sizeOf97 rfl rfl (by omega)) ?_ | refine LD.val rfl rfl (ov_idx Try.underlying59 Try.sizeOf97 rfl rfl (by omega)) ?_
            first | refine LD.rd rfl rfl (om_slA (by assumption) (by intro _; rfl) Try.isAgg97 Try.sizeOf97 rfl (by exact getq default (by first | omega | (simp only [List.length_set, List.length_append, List.length_cons, List.length_nil]; omega)))) ?_ | refine LD.rdC rfl rfl (om_srEA (by assumption) (by intro _; rfl) Try.isAgg97 Try.sizeOf97 rfl (by exact getq default (by first | omega | (simp only [List.length_set, List.length_append, List.length_cons, List.length_nil]; omega))) id) ?_ | refine LD.rd rfl rfl (om_ldA Try.isAgg97 Try.sizeOf97 rfl (vs := [_, _, _, _, _]) rfl ⟨rfl, rfl, rfl, rfl, rfl, trivial⟩) ?_
            refine LD.val rfl rfl (ov_move rfl) ?_
            refine LD.val rfl rfl (ov_move rfl) ?_
            first | refine LD.val rfl rfl (ov_idxSN (by first | exact Sr.spt (by assumption) | exact Sl.spt (by assumption)) Try.underlying59 Try.sizeOf97 rfl rfl (by omega)) ?_ | refine LD.val rfl rfl (ov_idxS (by first | exact Sr.spt (by assumption) | exact Sl.spt (by assumption)) Try.underlying59 Try.sizeOf97 rfl rfl (by omega)) ?_ | refine LD.val rfl rfl (ov_idx Try.underlying59 Try.sizeOf97 rfl rfl (by omega)) ?_
            first | refine LD.rd rfl rfl (om_slA (by assumption) (by intro _; rfl) Try.isAgg97 Try.sizeOf97 rfl (by exact getq default (by first | omega | (simp only [List.length_set, List.length_append, List.length_cons, List.length_nil]; omega)))) ?_ | refine LD.rdC rfl rfl (om_srEA (by assumption) (by intro _; rfl) Try.isAgg97 Try.sizeOf97 rfl (by exact getq default (by first | omega | (simp only [List.length_set, List.length_append, List.length_cons, List.length_nil]; omega))) id) ?_ | refine LD.rd rfl rfl (om_ldA Try.isAgg97 Try.sizeOf97 rfl (vs := [_, _, _, _, _]) rfl ⟨rfl, rfl, rfl, rfl, rfl, trivial⟩) ?_
            have hen := ends_hold hkd (s := s) (e := evs.getD k default) t1 t2
            refine LD.callE rfl rfl (oc_call (enters_fn Try.func64 (by kernel_rfl) rfl) rfl) (fun w hm hc hg => ends_spec _ _ w) ?_
            refine LD.val rfl rfl (ov_field Try.underlying72 rfl Try.sizeOf3 rfl (k := 4) rfl rfl) ?_
            refine LD.tail rfl rfl ?_
            refine LM.st Try.sizeOf3 rfl rfl rfl (by first | decide | exact Nat.le_of_ble_eq_true rfl | (simp; done) | (simp; omega)) rfl (fun hlt => absurd hlt (by omega)) ?_
            refine LM.nil ?_
            refine QM.qn ?_
            refine QM.sub (e' := [(0, _), (1, _), (5, _), (6, _), (7, _), (8, _)]) ⟨rfl, rfl, rfl, rfl, rfl, rfl, trivial⟩ ?_
            refine QM.then ?_
            refine wpM.seq ?_
            refine wpM.region ?_
            refine LM.val (ov_field Try.underlying72 rfl Try.sizeOf3 rfl (k := 4) rfl rfl) ?_
            first | refine LM.rd (om_ld Try.isAgg3 rfl rfl) ?_
            refine LM.val (ov_neq rfl rfl) ?_
            refine LM.nil ?_
            refine QM.sub (e' := [(0, _), (1, _), (5, _), (6, _), (7, _), (8, _), (81, _)]) ⟨rfl, rfl, rfl, rfl, rfl, rfl, rfl, trivial⟩ ?_
            refine QM.then ?_
            first | refine wpM.condD rfl (fun h7 => ?_) (fun h7 => ?_) | refine wpM.condB rfl (fun h7 => ?_) (fun h7 => ?_)
            ·
              refine wpM.region ?_
              refine LM.val (ov_move rfl) ?_
              refine LM.val (ov_move rfl) ?_
              first | refine LM.val (ov_idxSN (by first | exact Sr.spt (by assumption) | exact Sl.spt (by assumption)) Try.underlying59 Try.sizeOf97 rfl rfl (by omega)) ?_ | refine LM.val (ov_idxS (by first | exact Sr.spt (by assumption) | exact Sl.spt (by assumption)) Try.underlying59 Try.sizeOf97 rfl rfl (by omega)) ?_ | refine LM.val (ov_idx Try.underlying59 Try.sizeOf97 rfl rfl (by omega)) ?_
              refine LM.val (ov_field Try.underlying97 rfl Try.sizeOf22 rfl (k := 0) rfl rfl) ?_
              first | refine LM.rd (om_slE (j := 0) (by assumption) (by intro _; rfl) Try.isAgg22 rfl rfl (by exact getq default (by first | omega | (simp only [List.length_set, List.length_append, List.length_cons, List.length_nil]; omega))) rfl (by rfl)) ?_ | refine LM.rdC (om_srE (j := 0) (by assumption) Try.isAgg22 rfl rfl (by exact getq default (by first | omega | (simp only [List.length_set, List.length_append, List.length_cons, List.length_nil]; omega))) (by rfl) (by rfl) id) ?_ | refine LM.rd (om_ld Try.isAgg22 rfl rfl) ?_
              refine LM.val (ov_field Try.underlying72 rfl Try.sizeOf22 rfl (k := 3) rfl rfl) ?_
              refine LM.st Try.sizeOf22 rfl rfl rfl (by first | decide | exact Nat.le_of_ble_eq_true rfl | (simp; done) | (simp; omega)) rfl (fun hlt => absurd hlt (by omega)) ?_
              refine LM.nil ?_
              refine QM.sub (e' := [(0, _), (1, _), (5, _), (6, _), (7, _), (8, _)]) ⟨rfl, rfl, rfl, rfl, rfl, rfl, trivial⟩ ?_
              refine QM.block_normal ?_
              refine QM.then ?_
              refine wpM.region ?_
              refine LM.val (ov_move rfl) ?_
              refine LM.val (ov_add64 rfl rfl (by omega)) ?_
              refine LM.val (ov_assign rfl) ?_
              refine LM.nil ?_
              refine QM.sub (e' := [(0, _), (1, _), (5, _), (6, _), (7, _), (8, _)]) ⟨rfl, rfl, rfl, rfl, rfl, rfl, trivial⟩ ?_
              -- again1: h1+ h2- h3- h5+ h6+ h7+
              refine QM.againK (k + 1, { s with fin := endsF (evs.getD i default) (evs.getD k default), to := (evs.getD k default).time }) ⟨(by first | rfl | exact lk rfl (by congr 1; omega) | exact lk rfl (by simp)), rfl, rfl, rfl, rfl, rfl, trivial⟩ (by (repeat' (first | exact SubM.nil _ | refine SubM.cons rfl ?_ | refine SubM.app ?_))) (fun _ h => h) ?_ ?_
              · exact ⟨by omega, by omega, by rw [drop_take_snoc default (by omega) (by omega), List.foldl_append, ← hs]; exact (stepT_ends2 h6 hen h7).symm⟩
              · first | omega | (dsimp only; omega)
            ·
              refine wpM.skip ?_
              refine QM.block_normal ?_
              refine QM.then ?_
              refine wpM.region ?_
              refine LM.val (ov_move rfl) ?_
              refine LM.val (ov_add64 rfl rfl (by omega)) ?_
              refine LM.val (ov_assign rfl) ?_
              refine LM.nil ?_
              refine QM.sub (e' := [(0, _), (1, _), (5, _), (6, _), (7, _), (8, _)]) ⟨rfl, rfl, rfl, rfl, rfl, rfl, trivial⟩ ?_
              -- again2: h1+ h2- h3- h5+ h6+ h7-
              refine QM.againK (k + 1, { s with fin := endsF (evs.getD i default) (evs.getD k default) }) ⟨(by first | rfl | exact lk rfl (by congr 1; omega) | exact lk rfl (by simp)), rfl, rfl, rfl, rfl, rfl, trivial⟩ (by (repeat' (first | exact SubM.nil _ | refine SubM.cons rfl ?_ | refine SubM.app ?_))) (fun _ h => h) ?_ ?_
              · exact ⟨by omega, by omega, by rw [drop_take_snoc default (by omega) (by omega), List.foldl_append, ← hs]; exact (stepT_ends3 h6 hen h7).symm⟩
              · first | omega | (dsimp only; omega)
          ·
            refine wpM.exit ?_
            refine QM.then_exit ?_
            refine QM.then_exit ?_
            refine QM.block_hit ?_
            refine QM.then ?_
            refine wpM.region ?_
            have hfull : s = (evs.drop (i + 1)).foldl (stepT holdEnd) (mkT 4 (evs.getD i default)) := (by by_cases hkl : k = evs.length; (subst hkl; rw [hs, List.take_length]); (rw [fold_split holdEnd hk hk0, ← hs]; exact (fold_over holdEnd (by omega) _).symm))
            refine LM.val (ov_move rfl) ?_
            first | refine LM.rd (om_ldA Try.isAgg72 Try.sizeOf72 rfl (vs := [_, _, _, _, _, _]) rfl ⟨rfl, rfl, rfl, rfl, rfl, rfl, trivial⟩) ?_
            refine LM.single Try.underlying61 Try.sizeOf72 Try.zeroValue72 rfl rfl rfl rfl rfl (fun b90 hb90 => ?_)
            refine LM.app Try.underlying61 Try.typeInfo72 rfl rfl rfl rfl rfl rfl rfl (by assumption) (by rfl) (by intro _; rfl) (by intro _ u hu; simp [fT] at hu; (repeat (first | (rcases hu with rfl | hu) | subst hu | rfl))) (by first | exact Nat.le_refl _ | omega) (fun p hp hlt => absurd hlt (Nat.not_lt_of_le (Sl.ge (by assumption) p hp))) (by first | omega | (unfold maxLen; omega)) (by simp only [Try.t72]; omega) (fun ad91 n91 cap91 m91 hn91 hs91 hin91 => ?_)
            refine LM.val (ov_assign rfl) ?_
            refine LM.nil ?_
            refine QM.sub (e' := [(0, _), (1, _), (5, _), (6, _)]) ⟨rfl, rfl, rfl, rfl, trivial⟩ ?_
            refine QM.block_normal ?_
            refine QM.then ?_
            refine wpM.region ?_
            refine LM.val (ov_move rfl) ?_
            refine LM.val (ov_add64 rfl rfl (by omega)) ?_
            refine LM.val (ov_assign rfl) ?_
            refine LM.nil ?_
            refine QM.sub (e' := [(0, _), (1, _), (5, _), (6, _)]) ⟨rfl, rfl, rfl, rfl, trivial⟩ ?_
            -- again2: h1+ h2- h3- h5+ h6-
            have hdr := eachT_drop holdEnd 4 (l := evs) (i := i) (by omega); rw [if_pos hkd, ← hfull] at hdr
            refine QM.againK (i + 1, out ++ [s], ad91, n91, cap91, m91) ⟨(by first | rfl | exact lk rfl (by congr 1; omega) | exact lk rfl (by simp)), (by first | rfl | exact lk rfl (by congr 1; omega) | exact lk rfl (by simp)), rfl, rfl, trivial⟩ (by (repeat' (first | exact SubM.nil _ | refine SubM.cons rfl ?_ | refine SubM.app ?_))) (fun _ h => h) ?_ ?_
            · exact ⟨by omega, by simp; omega, hs91, by rw [List.append_assoc, ← hdr]; exact hout⟩
            · first | omega | (dsimp only; omega)
        ·
          refine LM.drop (t := 62) rfl rfl rfl ?_
          refine LM.drop (t := 62) rfl rfl rfl ?_
          refine LM.drop (t := 62) rfl rfl rfl ?_
          refine LM.val (ov_pickF rfl rfl) ?_
          refine LM.nil ?_
          refine QM.sub (e' := [(0, _), (1, _), (5, _), (6, _), (7, _), (8, _), (66, _)]) ⟨rfl, rfl, rfl, rfl, rfl, rfl, rfl, trivial⟩ ?_
          refine QM.then ?_
          refine wpM.condF rfl ?_
          refine wpM.exit ?_
          refine QM.then_exit ?_
          refine QM.then_exit ?_
          refine QM.block_hit ?_
          refine QM.then ?_
          refine wpM.region ?_
          have hfull : s = (evs.drop (i + 1)).foldl (stepT holdEnd) (mkT 4 (evs.getD i default)) := (by by_cases hkl : k = evs.length; (subst hkl; rw [hs, List.take_length]); (rw [fold_split holdEnd hk hk0, ← hs]; exact (fold_over holdEnd (by omega) _).symm))
          refine LM.val (ov_move rfl) ?_
          first | refine LM.rd (om_ldA Try.isAgg72 Try.sizeOf72 rfl (vs := [_, _, _, _, _, _]) rfl ⟨rfl, rfl, rfl, rfl, rfl, rfl, trivial⟩) ?_
          refine LM.single Try.underlying61 Try.sizeOf72 Try.zeroValue72 rfl rfl rfl rfl rfl (fun b90 hb90 => ?_)
          refine LM.app Try.underlying61 Try.typeInfo72 rfl rfl rfl rfl rfl rfl rfl (by assumption) (by rfl) (by intro _; rfl) (by intro _ u hu; simp [fT] at hu; (repeat (first | (rcases hu with rfl | hu) | subst hu | rfl))) (by first | exact Nat.le_refl _ | omega) (fun p hp hlt => absurd hlt (Nat.not_lt_of_le (Sl.ge (by assumption) p hp))) (by first | omega | (unfold maxLen; omega)) (by simp only [Try.t72]; omega) (fun ad91 n91 cap91 m91 hn91 hs91 hin91 => ?_)
          refine LM.val (ov_assign rfl) ?_
          refine LM.nil ?_
          refine QM.sub (e' := [(0, _), (1, _), (5, _), (6, _)]) ⟨rfl, rfl, rfl, rfl, trivial⟩ ?_
          refine QM.block_normal ?_
          refine QM.then ?_
          refine wpM.region ?_
          refine LM.val (ov_move rfl) ?_
          refine LM.val (ov_add64 rfl rfl (by omega)) ?_
          refine LM.val (ov_assign rfl) ?_
          refine LM.nil ?_
          refine QM.sub (e' := [(0, _), (1, _), (5, _), (6, _)]) ⟨rfl, rfl, rfl, rfl, trivial⟩ ?_
          -- again3: h1+ h2- h3- h5-
          have hdr := eachT_drop holdEnd 4 (l := evs) (i := i) (by omega); rw [if_pos hkd, ← hfull] at hdr
          refine QM.againK (i + 1, out ++ [s], ad91, n91, cap91, m91) ⟨(by first | rfl | exact lk rfl (by congr 1; omega) | exact lk rfl (by simp)), (by first | rfl | exact lk rfl (by congr 1; omega) | exact lk rfl (by simp)), rfl, rfl, trivial⟩ (by (repeat' (first | exact SubM.nil _ | refine SubM.cons rfl ?_ | refine SubM.app ?_))) (fun _ h => h) ?_ ?_
          · exact ⟨by omega, by simp; omega, hs91, by rw [List.append_assoc, ← hdr]; exact hout⟩
          · first | omega | (dsimp only; omega)
  ·
    refine wpM.exit ?_
    refine QM.then_exit ?_
    refine QM.then_exit ?_
    refine QM.block_hit ?_
    refine QM.then ?_
    refine wpM.seq ?_
    refine wpM.region ?_
    refine LM.val (ov_move rfl) ?_
    refine LM.val (ov_assign rfl) ?_
    refine LM.nil ?_
    refine QM.sub (e' := [(4, _)]) ⟨rfl, trivial⟩ ?_
    refine QM.then ?_
    refine wpM.ret ?_
    refine QM.leave (.inl rfl) [.tmp 4] Try.results40 rfl ?_
    intro w' hm' hc' hg'
    -- leaf 1: h1-
    have hkl : i = evs.length := (by omega); subst hkl; rw [List.drop_length, eachT, List.append_nil] at hout; subst hout; exact ⟨hc', mo, hno ▸ hso, hm'.pick mo⟩

set_option maxRecDepth 100000 in
theorem same28_spec {xs ys : List St} {ad ad2 : Option Addr} {n cap n2 cap2 : Nat} (w : World) (hn : n = xs.length) (hn2 : n2 = ys.length) (hl : Sr fT 6 xs (.slice ad n cap) w) (hl2 : Sr fT 6 ys (.slice ad2 n2 cap2) w) (hx : xs.length ≤ 1000000000000) : Ret Try.prog 38 #[.slice ad n cap, .slice ad2 n2 cap2] w (fun v w' => v = .bool (decide (xs = ys)) ∧ Ext w w') := by
  refine Ret.enterM (l := [.slice ad n cap, .slice ad2 n2 cap2]) Try.func38 rfl Try.ntmps38 rfl ([]) (no) (Mem.nil w) ?_
  refine wpM.seq ?_
  refine wpM.region ?_
  refine LM.val (ov_assign rfl) ?_
  refine LM.nil ?_
  refine QM.sub (e' := [(0, _), (1, _)]) ⟨rfl, rfl, trivial⟩ ?_
  refine QM.then ?_
  refine wpM.seq ?_
  refine wpM.seq ?_
  refine wpM.region ?_
  refine LM.val (ov_move rfl) ?_
  refine LM.val (ov_len Try.underlying61 rfl) ?_
  refine LM.val (ov_move rfl) ?_
  refine LM.val (ov_len Try.underlying61 rfl) ?_
  refine LM.val (ov_neq rfl rfl) ?_
  refine LM.nil ?_
  refine QM.sub (e' := [(0, _), (1, _), (10, _)]) ⟨rfl, rfl, rfl, trivial⟩ ?_
  refine QM.then ?_
  first | refine wpM.condD rfl (fun h1 => ?_) (fun h1 => ?_) | refine wpM.condB rfl (fun h1 => ?_) (fun h1 => ?_)
  ·
    refine wpM.seq ?_
    refine wpM.region ?_
    refine LM.val (ov_assign rfl) ?_
    refine LM.nil ?_
    refine QM.sub (e' := [(4, _)]) ⟨rfl, trivial⟩ ?_
    refine QM.then ?_
    refine wpM.ret ?_
    refine QM.then_ret ?_
    refine QM.leave (.inl rfl) [.tmp 4] Try.results38 rfl ?_
    intro w' hm' hc' hg'
    -- leaf 1: h1+
    refine ⟨?_, hc'⟩; simp only [resV]; congr 1; exact (decide_eq_false (fun h => h1 (by rw [hn, hn2, h]))).symm
  ·
    refine wpM.skip ?_
    refine QM.then ?_
    refine wpM.seq ?_
    refine wpM.seq ?_
    refine wpM.region ?_
    refine LM.val (ov_move rfl) ?_
    refine LM.val (ov_len Try.underlying61 rfl) ?_
    refine LM.val (ov_move rfl) ?_
    refine LM.nil ?_
    refine QM.sub (e' := [(0, _), (1, _), (12, _), (13, _)]) ⟨rfl, rfl, rfl, rfl, trivial⟩ ?_
    refine QM.then ?_
    refine wpM.block ?_
    refine wpM.loopK0 (α := Nat) (fun i => [(13, .int .i64 (i : Nat))]) [(0, _), (1, _), (12, _)] (fun i => []) (fun i => i ≤ xs.length ∧ xs.take i = ys.take i) (fun i => xs.length - i) (0) ⟨(by first | rfl | exact lk rfl (by congr 1; omega) | exact lk rfl (by simp)), rfl, rfl, rfl, trivial⟩ (by (repeat' (first | exact SubM.nil _ | refine SubM.cons rfl ?_ | refine SubM.app ?_))) ⟨Nat.zero_le _, rfl⟩ ?_
    rintro i ⟨hi, ht⟩
    change wpM _ _ _ _ _ _ _ ([]) _ _ _
    refine wpM.seq ?_
    refine wpM.region ?_
    refine LM.val (ov_lss rfl rfl) ?_
    refine LM.nil ?_
    refine QM.sub (e' := [(0, _), (1, _), (12, _), (13, _), (14, _)]) ⟨rfl, rfl, rfl, rfl, rfl, trivial⟩ ?_
    refine QM.then ?_
    refine wpM.seq ?_
    first | refine wpM.condD rfl (fun h2 => ?_) (fun h2 => ?_) | refine wpM.condB rfl (fun h2 => ?_) (fun h2 => ?_)
    ·
      refine wpM.skip ?_
      refine QM.then ?_
      refine wpM.seq ?_
      refine wpM.block ?_
      refine wpM.seq ?_
      refine wpM.region ?_
      refine LM.val (ov_move rfl) ?_
      refine LM.val (ov_assign rfl) ?_
      refine LM.nil ?_
      refine QM.sub (e' := [(0, _), (1, _), (5, _), (12, _), (13, _)]) ⟨rfl, rfl, rfl, rfl, rfl, trivial⟩ ?_
      refine QM.then ?_
      refine wpM.seq ?_
      refine wpM.draw [(0, 0), (1, 0), (2, 0), (3, 1), (4, 0), (5, 0), (6, 0), (7, 1), (8, 0)] (by kernel_rfl) (by kernel_rfl) ?_
      refine LD.val rfl rfl (ov_move rfl) ?_
      refine LD.val rfl rfl (ov_move rfl) ?_
      first | refine LD.val rfl rfl (ov_idxSN (by first | exact Sr.spt (by assumption) | exact Sl.spt (by assumption)) Try.underlying61 Try.sizeOf72 rfl rfl (by omega)) ?_ | refine LD.val rfl rfl (ov_idxS (by first | exact Sr.spt (by assumption) | exact Sl.spt (by assumption)) Try.underlying61 Try.sizeOf72 rfl rfl (by omega)) ?_ | refine LD.val rfl rfl (ov_idx Try.underlying61 Try.sizeOf72 rfl rfl (by omega)) ?_
      first | refine LD.rd rfl rfl (om_slA (by assumption) (by intro _; rfl) Try.isAgg72 Try.sizeOf72 rfl (by exact getq default (by first | omega | (simp only [List.length_set, List.length_append, List.length_cons, List.length_nil]; omega)))) ?_ | refine LD.rdC rfl rfl (om_srEA (by assumption) (by intro _; rfl) Try.isAgg72 Try.sizeOf72 rfl (by exact getq default (by first | omega | (simp only [List.length_set, List.length_append, List.length_cons, List.length_nil]; omega))) id) ?_ | refine LD.rd rfl rfl (om_ldA Try.isAgg72 Try.sizeOf72 rfl (vs := [_, _, _, _, _, _]) rfl ⟨rfl, rfl, rfl, rfl, rfl, rfl, trivial⟩) ?_
      refine LD.val rfl rfl (ov_move rfl) ?_
      refine LD.val rfl rfl (ov_move rfl) ?_
      first | refine LD.val rfl rfl (ov_idxSN (by first | exact Sr.spt (by assumption) | exact Sl.spt (by assumption)) Try.underlying61 Try.sizeOf72 rfl rfl (by omega)) ?_ | refine LD.val rfl rfl (ov_idxS (by first | exact Sr.spt (by assumption) | exact Sl.spt (by assumption)) Try.underlying61 Try.sizeOf72 rfl rfl (by omega)) ?_ | refine LD.val rfl rfl (ov_idx Try.underlying61 Try.sizeOf72 rfl rfl (by omega)) ?_
      first | refine LD.rd rfl rfl (om_slA (by assumption) (by intro _; rfl) Try.isAgg72 Try.sizeOf72 rfl (by exact getq default (by first | omega | (simp only [List.length_set, List.length_append, List.length_cons, List.length_nil]; omega)))) ?_ | refine LD.rdC rfl rfl (om_srEA (by assumption) (by intro _; rfl) Try.isAgg72 Try.sizeOf72 rfl (by exact getq default (by first | omega | (simp only [List.length_set, List.length_append, List.length_cons, List.length_nil]; omega))) id) ?_ | refine LD.rd rfl rfl (om_ldA Try.isAgg72 Try.sizeOf72 rfl (vs := [_, _, _, _, _, _]) rfl ⟨rfl, rfl, rfl, rfl, rfl, rfl, trivial⟩) ?_
      refine LD.val rfl rfl (ov_aneq Try.underlying72 (by kernel_rfl) (by kernel_rfl) (by decide) rfl rfl (by rfl) ⟨(by first | rfl | trivial), (by first | rfl | trivial), (by first | rfl | trivial), (by first | rfl | trivial), (by first | rfl | trivial), (by first | rfl | trivial), trivial⟩) ?_
      refine LD.nil ?_
      refine QM.sub (e' := [(0, _), (1, _), (12, _), (13, _), (24, _)]) ⟨rfl, rfl, rfl, rfl, rfl, trivial⟩ ?_
      refine QM.then ?_
      first | refine wpM.condD rfl (fun h3 => ?_) (fun h3 => ?_) | refine wpM.condB rfl (fun h3 => ?_) (fun h3 => ?_)
      ·
        refine wpM.seq ?_
        refine wpM.region ?_
        refine LM.val (ov_assign rfl) ?_
        refine LM.nil ?_
        refine QM.sub (e' := [(4, _)]) ⟨rfl, trivial⟩ ?_
        refine QM.then ?_
        refine wpM.ret ?_
        refine QM.block_ret ?_
        refine QM.then_ret ?_
        refine QM.then_ret ?_
        refine QM.block_ret ?_
        refine QM.then_ret ?_
        refine QM.leave (.inl rfl) [.tmp 4] Try.results38 rfl ?_
        intro w' hm' hc' hg'
        -- leaf 2: h1- h2+ h3+
        refine ⟨?_, hc'⟩; simp only [resV]; congr 1; exact (decide_eq_false (fun h => by subst h; rw [veqs_fT] at h3; simp at h3)).symm
      ·
        refine wpM.skip ?_
        refine QM.block_normal ?_
        refine QM.then ?_
        refine wpM.region ?_
        refine LM.val (ov_add64 rfl rfl (by omega)) ?_
        refine LM.val (ov_move rfl) ?_
        refine LM.nil ?_
        refine QM.sub (e' := [(0, _), (1, _), (12, _), (13, _)]) ⟨rfl, rfl, rfl, rfl, trivial⟩ ?_
        -- again1: h1- h2+ h3-
        refine QM.againK (i + 1) ⟨(by first | rfl | exact lk rfl (by congr 1; omega) | exact lk rfl (by simp)), rfl, rfl, rfl, trivial⟩ (by (repeat' (first | exact SubM.nil _ | refine SubM.cons rfl ?_ | refine SubM.app ?_))) (fun _ h => h) ?_ ?_
        · exact ⟨by omega, by rw [take_snoc default (by omega), take_snoc default (by omega), ht]; congr 2; rw [veqs_fT] at h3; simpa [-List.getD_eq_getElem?_getD] using h3⟩
        · first | omega | (dsimp only; omega)
    ·
      refine wpM.exit ?_
      refine QM.then_exit ?_
      refine QM.then_exit ?_
      refine QM.block_hit ?_
      refine QM.then ?_
      refine wpM.seq ?_
      refine wpM.region ?_
      refine LM.val (ov_assign rfl) ?_
      refine LM.nil ?_
      refine QM.sub (e' := [(4, _)]) ⟨rfl, trivial⟩ ?_
      refine QM.then ?_
      refine wpM.ret ?_
      refine QM.leave (.inl rfl) [.tmp 4] Try.results38 rfl ?_
      intro w' hm' hc' hg'
      -- leaf 3: h1- h2-
      refine ⟨?_, hc'⟩; simp only [resV]; congr 1; rw [List.take_of_length_le (by omega), List.take_of_length_le (by omega)] at ht; exact (decide_eq_true ht).symm

end Go.Eng

