/- The walk of an audit's stays: one pass over all events. No condition. -/
import Derived.Test.YtpemcncnehhgfaaAud
import Derived.Test.YtpemcncnehhgfaaStayLaw2
set_option linter.unusedVariables false
set_option linter.unusedSimpArgs false
namespace Go.Eng
open Go Go.Proofs Go.RowKit

theorem passT_take (en : St → Ev → Int) (kind : Int) {l : List Ev} {k : Nat} (h : k < l.length) : passT en kind (l.take (k + 1)) = stepAll en kind (passT en kind (l.take k)) (l.getD k default) := by
  unfold passT
  rw [List.take_add_one, getq default h, Option.toList_some, List.foldl_append]; rfl
theorem passT_len (en : St → Ev → Int) (kind : Int) (l : List Ev) : (passT en kind l).length ≤ l.length := by
  have : ∀ (l : List Ev) (o : List St), (l.foldl (stepAll en kind) o).length ≤ o.length + l.length := by
    intro l
    induction l with
    | nil => intro o; simp
    | cons e l ih => intro o; rw [List.foldl_cons]; refine Nat.le_trans (ih _) ?_; unfold stepAll; simp; split <;> simp <;> omega
  have := this l []; simpa [passT] using this
theorem stepT_ends' {en : St → Ev → Int} {s : St} {e : Ev} (h1 : s.fin = 0) (h2 : s.task = e.task) (h : en s e ≠ 0) : stepT en s e = { s with fin := en s e, to := e.time } := by
  unfold stepT; rw [if_pos ⟨h1, h2, h⟩]
set_option maxRecDepth 100000 in
theorem stays_waitEnd {evs : List Ev} {ad : Option Addr} {n cap : Nat} (w : World) (hn : n = evs.length) (hl : Sr fE 5 evs (.slice ad n cap) w) (hx : evs.length ≤ maxLen) (hx2 : evs.length ≤ 1000000000000) : Ret Try.prog 62 #[.slice ad n cap, .int .i64 6, .func (.func 63) #[] #[]] w (New fT 72 6 (passT waitEnd 6 evs) w) := by
  refine Ret.enterM (l := [.slice ad n cap, .int .i64 6, .func (.func 63) #[] #[]]) Try.func62 rfl Try.ntmps62 rfl ([]) (no) (Mem.nil w) ?_
  refine wpM.seq ?_
  refine wpM.region ?_
  refine LM.val (ov_assign rfl) ?_
  refine LM.nil ?_
  refine QM.sub (e' := [(0, _), (1, _), (2, _)]) ⟨rfl, rfl, rfl, trivial⟩ ?_
  refine QM.then ?_
  refine wpM.seq ?_
  refine wpM.region ?_
  refine LM.val (ov_assign rfl) ?_
  refine LM.nil ?_
  refine QM.sub (e' := [(0, _), (1, _), (2, _), (7, _)]) ⟨rfl, rfl, rfl, rfl, trivial⟩ ?_
  refine QM.then ?_
  refine wpM.seq ?_
  refine wpM.region ?_
  refine LM.makeMap rfl (fun b15 hb15 => ?_)
  refine LM.val (ov_assign rfl) ?_
  refine LM.nil ?_
  refine QM.sub (e' := [(0, _), (1, _), (2, _), (7, _), (8, _)]) ⟨rfl, rfl, rfl, rfl, rfl, trivial⟩ ?_
  refine QM.then ?_
  refine wpM.seq ?_
  refine wpM.seq ?_
  refine wpM.region ?_
  refine LM.val (ov_move rfl) ?_
  refine LM.val (ov_len Try.underlying59 rfl) ?_
  refine LM.val (ov_move rfl) ?_
  refine LM.nil ?_
  refine QM.sub (e' := [(1, _), (2, _), (7, _), (8, _), (16, _), (17, _), (18, _)]) ⟨rfl, rfl, rfl, rfl, rfl, rfl, rfl, trivial⟩ ?_
  refine QM.then ?_
  refine wpM.block ?_
  refine wpM.loopK0 (α := Nat × Option Addr × Nat × Nat × Mem0 × Array MapEntry × Nat × List (Int × Value) × Mem0) (fun ⟨k, ado, no, capo, mo, es, clk, l, mm⟩ => [(7, .slice ado no capo), (18, .int .i64 (k : Nat))]) [(1, _), (2, _), (8, _), (16, _), (17, _)] (fun ⟨k, ado, no, capo, mo, es, clk, l, mm⟩ => mo ++ ((b15, .map es clk) :: (mm ++ []))) (fun ⟨k, ado, no, capo, mo, es, clk, l, mm⟩ => k ≤ evs.length ∧ no = (passT waitEnd 6 (evs.take k)).length ∧ Sl fT 72 6 w.heap.size (passT waitEnd 6 (evs.take k)) (.slice ado no capo) mo ∧ Ens .i64 es.toList l ∧ Own 3 w.heap.size (opn (passT waitEnd 6 (evs.take k))) l mm) (fun ⟨k, ado, no, capo, mo, es, clk, l, mm⟩ => evs.length - k) ((0, none, 0, 0, [], #[], 0, [], [])) ⟨(by first | rfl | exact lk rfl (by congr 1; omega) | exact lk rfl (by simp)), (by first | rfl | exact lk rfl (by congr 1; omega) | exact lk rfl (by simp)), rfl, rfl, rfl, rfl, rfl, trivial⟩ (by (repeat' (first | exact SubM.nil _ | refine SubM.cons rfl ?_ | refine SubM.app ?_))) ⟨Nat.zero_le _, rfl, .nil _ _ _ _, rfl, Own.nil _ _⟩ ?_
  rintro ⟨k, ado, no, capo, mo, es, clk, l, mm⟩ ⟨hk, hno, hso, hes, how⟩
  change wpM _ _ _ _ _ _ _ (mo ++ ((b15, .map es clk) :: (mm ++ []))) _ _ _
  have hpl := passT_len waitEnd 6 (evs.take k); have htl : (evs.take k).length = k := (by rw [List.length_take]; omega); generalize hout : passT waitEnd 6 (evs.take k) = out at *
  refine wpM.seq ?_
  refine wpM.region ?_
  refine LM.val (ov_lss rfl rfl) ?_
  refine LM.nil ?_
  refine QM.sub (e' := [(1, _), (2, _), (7, _), (8, _), (16, _), (17, _), (18, _), (19, _)]) ⟨rfl, rfl, rfl, rfl, rfl, rfl, rfl, rfl, trivial⟩ ?_
  refine QM.then ?_
  refine wpM.seq ?_
  first | refine wpM.condD rfl (fun h1 => ?_) (fun h1 => ?_) | refine wpM.condB rfl (fun h1 => ?_) (fun h1 => ?_)
  ·
    refine wpM.skip ?_
    refine QM.then ?_
    refine wpM.seq ?_
    refine wpM.block ?_
    refine wpM.seq ?_
    refine wpM.region ?_
    first | refine LM.val (ov_idxSN (by first | exact Sr.spt (by assumption) | exact Sl.spt (by assumption)) Try.underlying59 Try.sizeOf97 rfl rfl (by omega)) ?_ | refine LM.val (ov_idxS (by first | exact Sr.spt (by assumption) | exact Sl.spt (by assumption)) Try.underlying59 Try.sizeOf97 rfl rfl (by omega)) ?_ | refine LM.val (ov_idx Try.underlying59 Try.sizeOf97 rfl rfl (by omega)) ?_
    first | refine LM.rd (om_slA (by assumption) (by intro _; rfl) Try.isAgg97 Try.sizeOf97 rfl (by exact getq default (by first | omega | (simp only [List.length_set, List.length_append, List.length_cons, List.length_nil]; omega)))) ?_ | refine LM.rdC (om_srEA (by assumption) (by intro _; rfl) Try.isAgg97 Try.sizeOf97 rfl (by exact getq default (by first | omega | (simp only [List.length_set, List.length_append, List.length_cons, List.length_nil]; omega))) id) ?_ | refine LM.rd (om_ldA Try.isAgg97 Try.sizeOf97 rfl (vs := [_, _, _, _, _]) rfl ⟨rfl, rfl, rfl, rfl, rfl, trivial⟩) ?_
    refine LM.alloc Try.zeroValue97 rfl (fun b10 hb10 => ?_)
    refine LM.st Try.sizeOf97 rfl rfl rfl (by first | decide | (simp; done) | (simp; omega)) rfl (fun hlt => absurd hlt (by omega)) ?_
    refine LM.nil ?_
    refine QM.sub (e' := [(1, _), (2, _), (7, _), (8, _), (10, _), (16, _), (17, _), (18, _)]) ⟨rfl, rfl, rfl, rfl, rfl, rfl, rfl, rfl, trivial⟩ ?_
    refine QM.then ?_
    refine wpM.seq ?_
    refine wpM.region ?_
    refine LM.val (ov_assign rfl) ?_
    refine LM.nil ?_
    refine QM.sub (e' := [(1, _), (2, _), (7, _), (8, _), (10, _), (11, _), (16, _), (17, _), (18, _)]) ⟨rfl, rfl, rfl, rfl, rfl, rfl, rfl, rfl, rfl, trivial⟩ ?_
    refine QM.then ?_
    refine wpM.seq ?_
    refine wpM.seq ?_
    refine wpM.region ?_
    obtain ⟨e, he⟩ : ∃ e, e = evs.getD k default := ⟨_, rfl⟩; rw [← he]
    refine LM.val (ov_move rfl) ?_
    refine LM.val (ov_field Try.underlying97 rfl Try.sizeOf3 rfl (k := 2) rfl rfl) ?_
    first | refine LM.rd (om_ld Try.isAgg3 rfl rfl) ?_
    obtain ⟨ad5, n5, cap5, m1, m2, hv5, hn5, hs5, hp5, hup⟩ := how.look e.task; refine LM.repl hp5 (LM.assoc ?_); have hol := opn_len out e.task; obtain ⟨xs, hxs⟩ : ∃ xs, xs = opn out e.task := ⟨_, rfl⟩; rw [← hxs] at hs5 hn5 hol
    refine LM.rd (om_lk Try.underlying108 Try.underlying3 Try.zeroValue26 rfl rfl (by assumption) hv5) ?_
    refine LM.val (ov_len Try.underlying26 rfl) ?_
    refine LM.val (ov_move rfl) ?_
    refine LM.nil ?_
    refine QM.sub (e' := [(1, _), (2, _), (7, _), (8, _), (10, _), (11, _), (16, _), (17, _), (18, _), (25, _), (26, _), (27, _)]) ⟨rfl, rfl, rfl, rfl, rfl, rfl, rfl, rfl, rfl, rfl, rfl, rfl, trivial⟩ ?_
    refine QM.then ?_
    refine wpM.block ?_
    refine wpM.loopK0 (α := Nat × List St × Mem0 × List Int × Option Addr × Nat × Nat × Mem0) (fun ⟨i, o, mo', st, ads, ns, caps, ms⟩ => [(11, .slice ads ns caps), (27, .int .i64 (i : Nat))]) [(1, _), (2, _), (7, _), (8, _), (10, _), (16, _), (17, _), (18, _), (25, _), (26, _)] (fun ⟨i, o, mo', st, ads, ns, caps, ms⟩ => mo' ++ (ms ++ ((b10, .cells (fE e).toArray 97 (0, 0)) :: (b15, .map es clk) :: (m1 ++ (m2 ++ []))))) (fun ⟨i, o, mo', st, ads, ns, caps, ms⟩ => i ≤ xs.length ∧ midT waitEnd out e (xs.take i) o ∧ Sl fT 72 6 w.heap.size o (.slice ado no capo) mo' ∧ ns = st.length ∧ st = (xs.take i).filter (fun p => decide (waitEnd (out.getD p.toNat default) e = 0)) ∧ Sl fI 3 1 w.heap.size st (.slice ads ns caps) ms) (fun ⟨i, o, mo', st, ads, ns, caps, ms⟩ => xs.length - i) ((0, out, mo, [], none, 0, 0, [])) ⟨(by first | rfl | exact lk rfl (by congr 1; omega) | exact lk rfl (by simp)), (by first | rfl | exact lk rfl (by congr 1; omega) | exact lk rfl (by simp)), rfl, rfl, rfl, rfl, rfl, rfl, rfl, rfl, rfl, rfl, trivial⟩ (by (repeat' (first | exact SubM.nil _ | refine SubM.cons rfl ?_ | refine SubM.app ?_))) ⟨Nat.zero_le _, midT_nil _ _ _, hso, rfl, rfl, .nil _ _ _ _⟩ ?_
    rintro ⟨i, o, mo', st, ads, ns, caps, ms⟩ ⟨hi, ho, hso2, hns, hste, hst⟩
    change wpM _ _ _ _ _ _ _ (mo' ++ (ms ++ ((b10, .cells (fE e).toArray 97 (0, 0)) :: (b15, .map es clk) :: (m1 ++ (m2 ++ []))))) _ _ _
    have hsl := len_filter hste; have hol2 := ho.1
    refine wpM.seq ?_
    refine wpM.region ?_
    refine LM.val (ov_lss rfl rfl) ?_
    refine LM.nil ?_
    refine QM.sub (e' := [(1, _), (2, _), (7, _), (8, _), (10, _), (11, _), (16, _), (17, _), (18, _), (25, _), (26, _), (27, _), (28, _)]) ⟨rfl, rfl, rfl, rfl, rfl, rfl, rfl, rfl, rfl, rfl, rfl, rfl, rfl, trivial⟩ ?_
    refine QM.then ?_
    refine wpM.seq ?_
    first | refine wpM.condD rfl (fun h2 => ?_) (fun h2 => ?_) | refine wpM.condB rfl (fun h2 => ?_) (fun h2 => ?_)
    ·
      refine wpM.skip ?_
      refine QM.then ?_
      refine wpM.seq ?_
      refine wpM.block ?_
      refine wpM.seq ?_
      refine wpM.region ?_
      first | refine LM.val (ov_idxSN (by first | exact Sr.spt (by assumption) | exact Sl.spt (by assumption)) Try.underlying26 Try.sizeOf3 rfl rfl (by omega)) ?_ | refine LM.val (ov_idxS (by first | exact Sr.spt (by assumption) | exact Sl.spt (by assumption)) Try.underlying26 Try.sizeOf3 rfl rfl (by omega)) ?_ | refine LM.val (ov_idx1 Try.underlying26 Try.sizeOf3 rfl rfl (by omega)) ?_
      first | refine LM.rd (om_sl1 (by assumption) (by intro _; rfl) Try.isAgg3 rfl rfl (by exact getq 0 (by first | omega | (simp only [List.length_set, List.length_append, List.length_cons, List.length_nil]; omega))) (by rfl)) ?_ | refine LM.rdC (om_sr1 (by assumption) Try.isAgg3 rfl rfl (by exact getq 0 (by first | omega | (simp only [List.length_set, List.length_append, List.length_cons, List.length_nil]; omega))) (by rfl) id) ?_ | refine LM.rd (om_ld Try.isAgg3 rfl rfl) ?_
      refine LM.val (ov_assign rfl) ?_
      refine LM.nil ?_
      refine QM.sub (e' := [(1, _), (2, _), (7, _), (8, _), (10, _), (11, _), (13, _), (16, _), (17, _), (18, _), (25, _), (26, _), (27, _)]) ⟨rfl, rfl, rfl, rfl, rfl, rfl, rfl, rfl, rfl, rfl, rfl, rfl, rfl, trivial⟩ ?_
      refine QM.then ?_
      refine wpM.seq ?_
      refine wpM.draw [(0, 0), (1, 0), (2, 0), (3, 0), (4, 1), (5, 1), (6, 2), (7, 0)] (by kernel_rfl) (by kernel_rfl) ?_
      refine LD.val rfl rfl (ov_move rfl) ?_
      refine LD.val rfl rfl (ov_move rfl) ?_
      refine LD.val rfl rfl (ov_move rfl) ?_
      have hpm := (opn_mem.1 (show xs.getD i 0 ∈ opn out e.task from hxs ▸ List.mem_of_getElem? (getq 0 (by omega)))); obtain ⟨p, hp, hpo, hisp⟩ := hpm; rw [hp]; have hnot : (p : Int) ∉ xs.take i := (by rw [← hp]; exact not_in_take (hxs ▸ opn_nodup out e.task) (by omega) 0); have htk : xs.take (i + 1) = xs.take i ++ [(p : Int)] := (by rw [take_snoc 0 (by omega), hp]); have hpo2 : p < o.length := (by rw [ho.1]; exact hpo); have hop : o.getD p default = out.getD p default := (by rw [ho.2 p hpo, if_neg hnot]); have hq := hisp; simp only [isOpn, Bool.and_eq_true, decide_eq_true_eq] at hq; rw [← hop] at hq; obtain ⟨hq2, hq1⟩ := hq
      first | refine LD.val rfl rfl (ov_idxSN (by first | exact Sr.spt (by assumption) | exact Sl.spt (by assumption)) Try.underlying61 Try.sizeOf72 rfl rfl (by omega)) ?_ | refine LD.val rfl rfl (ov_idxS (by first | exact Sr.spt (by assumption) | exact Sl.spt (by assumption)) Try.underlying61 Try.sizeOf72 rfl rfl (by omega)) ?_ | refine LD.val rfl rfl (ov_idx Try.underlying61 Try.sizeOf72 rfl rfl (by omega)) ?_
      first | refine LD.rd rfl rfl (om_slA (by assumption) (by intro _; rfl) Try.isAgg72 Try.sizeOf72 rfl (by exact getq default (by first | omega | (simp only [List.length_set, List.length_append, List.length_cons, List.length_nil]; omega)))) ?_ | refine LD.rdC rfl rfl (om_srEA (by assumption) (by intro _; rfl) Try.isAgg72 Try.sizeOf72 rfl (by exact getq default (by first | omega | (simp only [List.length_set, List.length_append, List.length_cons, List.length_nil]; omega))) id) ?_ | refine LD.rd rfl rfl (om_ldA Try.isAgg72 Try.sizeOf72 rfl (vs := [_, _, _, _, _, _]) rfl ⟨rfl, rfl, rfl, rfl, rfl, rfl, trivial⟩) ?_
      first | refine LD.rd rfl rfl (om_ldA Try.isAgg97 Try.sizeOf97 rfl (vs := [_, _, _, _, _]) rfl ⟨rfl, rfl, rfl, rfl, rfl, trivial⟩) ?_
      refine LD.callE rfl rfl (oc_callV rfl (enters_fn Try.func63 (by kernel_rfl) rfl) rfl) (fun w hm hc hg => waitEnd_spec _ _ w) ?_
      refine LD.val rfl rfl (ov_assign rfl) ?_
      refine LD.nil ?_
      refine QM.sub (e' := [(1, _), (2, _), (7, _), (8, _), (10, _), (11, _), (13, _), (14, _), (16, _), (17, _), (18, _), (25, _), (26, _), (27, _)]) ⟨rfl, rfl, rfl, rfl, rfl, rfl, rfl, rfl, rfl, rfl, rfl, rfl, rfl, rfl, trivial⟩ ?_
      refine QM.then ?_
      refine wpM.seq ?_
      refine wpM.region ?_
      refine LM.val (ov_move rfl) ?_
      refine LM.val (ov_neq rfl rfl) ?_
      refine LM.nil ?_
      refine QM.sub (e' := [(1, _), (2, _), (7, _), (8, _), (10, _), (11, _), (13, _), (14, _), (16, _), (17, _), (18, _), (25, _), (26, _), (27, _), (39, _)]) ⟨rfl, rfl, rfl, rfl, rfl, rfl, rfl, rfl, rfl, rfl, rfl, rfl, rfl, rfl, rfl, trivial⟩ ?_
      refine QM.then ?_
      first | refine wpM.condD rfl (fun h3 => ?_) (fun h3 => ?_) | refine wpM.condB rfl (fun h3 => ?_) (fun h3 => ?_)
      ·
        refine wpM.toAltS [o.set p { o.getD p default with fin := waitEnd (o.getD p default) e }, o.set p (stepT waitEnd (o.getD p default) e)] hso2 (by omega) (fun junk hfj hMc => ?_)
        refine wpM.draw [(0, 0), (1, 0), (2, 0), (3, 0), (4, 0), (5, 0), (6, 1), (7, 0), (8, 0), (9, 2), (10, 0), (11, 0), (12, 2)] (by kernel_rfl) (by kernel_rfl) ?_
        refine LD.val rfl rfl (ov_move rfl) ?_
        refine LD.val rfl rfl (ov_move rfl) ?_
        refine LD.val rfl rfl (ov_move rfl) ?_
        refine LD.val rfl rfl (ov_move rfl) ?_
        refine LD.val rfl rfl (ov_move rfl) ?_
        refine LD.val rfl rfl (ov_field Try.underlying97 rfl Try.sizeOf22 rfl (k := 0) rfl rfl) ?_
        first | refine LD.rd rfl rfl (om_ld Try.isAgg22 rfl rfl) ?_
        first | refine LD.val rfl rfl (ov_idxSN (by first | exact Sr.spt (by assumption) | exact Sl.spt (by assumption)) Try.underlying61 Try.sizeOf72 rfl rfl (by omega)) ?_ | refine LD.val rfl rfl (ov_idxS (by first | exact Sr.spt (by assumption) | exact Sl.spt (by assumption)) Try.underlying61 Try.sizeOf72 rfl rfl (by omega)) ?_ | refine LD.val rfl rfl (ov_idx Try.underlying61 Try.sizeOf72 rfl rfl (by omega)) ?_
        refine LD.val rfl rfl (ov_field Try.underlying72 rfl Try.sizeOf3 rfl (k := 4) rfl rfl) ?_
        refine LD.stAltS [o.set p { o.getD p default with fin := waitEnd (o.getD p default) e }, o.set p (stepT waitEnd (o.getD p default) e)] (j := 4) rfl rfl (by assumption) Try.sizeOf3 (by intro _; rfl) rfl rfl rfl rfl (by decide) rfl (by simp) (by have hst := stepT_ends' hq1 hq2 h3; simp only [List.forall_mem_cons, List.not_mem_nil, false_implies, implies_true, and_true]; refine ⟨⟨_, { o.getD p default with fin := waitEnd (o.getD p default) e }, getq default (by omega), rfl, by simp⟩, ⟨_, { o.getD p default with fin := waitEnd (o.getD p default) e }, List.getElem?_set_self hpo2, rfl, by simp⟩, ⟨_, stepT waitEnd (o.getD p default) e, List.getElem?_set_self hpo2, by rw [hst]; rfl, by simp⟩⟩) (fun hlt => absurd hlt (by have := hfj.1; omega)) (by assumption) ?_
        first | refine LD.val rfl rfl (ov_idxSN (by first | exact Sr.spt (by assumption) | exact Sl.spt (by assumption)) Try.underlying61 Try.sizeOf72 rfl rfl (by omega)) ?_ | refine LD.val rfl rfl (ov_idxS (by first | exact Sr.spt (by assumption) | exact Sl.spt (by assumption)) Try.underlying61 Try.sizeOf72 rfl rfl (by omega)) ?_ | refine LD.val rfl rfl (ov_idx Try.underlying61 Try.sizeOf72 rfl rfl (by omega)) ?_
        refine LD.val rfl rfl (ov_field Try.underlying72 rfl Try.sizeOf22 rfl (k := 3) rfl rfl) ?_
        refine LD.stAltS [o.set p (stepT waitEnd (o.getD p default) e)] (j := 3) rfl rfl (by assumption) Try.sizeOf22 (by intro _; rfl) rfl rfl rfl rfl (by decide) rfl (by simp) (by have hst := stepT_ends' hq1 hq2 h3; simp only [List.forall_mem_cons, List.not_mem_nil, false_implies, implies_true, and_true]; refine ⟨⟨_, stepT waitEnd (o.getD p default) e, List.getElem?_set_self hpo2, by rw [hst]; rfl, by simp⟩, ⟨_, stepT waitEnd (o.getD p default) e, List.getElem?_set_self hpo2, by rw [hst]; rfl, by simp⟩⟩) (fun hlt => absurd hlt (by have := hfj.1; omega)) (by assumption) ?_
        refine LD.nil ?_
        refine QM.ofAltS (n := no) (by assumption) (by simp only [List.length_set]) (by omega) (fun ms3 hss3 => ?_)
        refine QM.sub (e' := [(1, _), (2, _), (7, _), (8, _), (10, _), (11, _), (16, _), (17, _), (18, _), (25, _), (26, _), (27, _)]) ⟨rfl, rfl, rfl, rfl, rfl, rfl, rfl, rfl, rfl, rfl, rfl, rfl, trivial⟩ ?_
        refine QM.block_normal ?_
        refine QM.then ?_
        refine wpM.region ?_
        refine LM.val (ov_add64 rfl rfl (by omega)) ?_
        refine LM.val (ov_move rfl) ?_
        refine LM.nil ?_
        refine QM.sub (e' := [(1, _), (2, _), (7, _), (8, _), (10, _), (11, _), (16, _), (17, _), (18, _), (25, _), (26, _), (27, _)]) ⟨rfl, rfl, rfl, rfl, rfl, rfl, rfl, rfl, rfl, rfl, rfl, rfl, trivial⟩ ?_
        -- again1: h1+ h2+ h3+
        refine QM.againK (i + 1, o.set p (stepT waitEnd (o.getD p default) e), ms3, st, ads, ns, caps, ms) ⟨(by first | rfl | exact lk rfl (by congr 1; omega) | exact lk rfl (by simp)), (by first | rfl | exact lk rfl (by congr 1; omega) | exact lk rfl (by simp)), rfl, rfl, rfl, rfl, rfl, rfl, rfl, rfl, rfl, rfl, trivial⟩ (by (repeat' (first | exact SubM.nil _ | refine SubM.cons rfl ?_ | refine SubM.app ?_))) (fun _ h => h) ?_ ?_
        · exact ⟨show i + 1 ≤ _ by omega, by rw [htk]; exact midT_put ho hnot hpo, hss3, hns, by rw [htk, List.filter_append, ← hste, flt_no (by rw [← hop]; exact h3), List.append_nil], hst⟩
        · first | omega | (dsimp only; omega)
      ·
        refine wpM.region ?_
        refine LM.val (ov_move rfl) ?_
        refine LM.val (ov_move rfl) ?_
        refine LM.single Try.underlying26 Try.sizeOf3 Try.zeroValue3 rfl rfl rfl rfl rfl (fun b53 hb53 => ?_)
        refine LM.app Try.underlying26 Try.typeInfo3 rfl rfl rfl rfl rfl rfl rfl (by assumption) (by rfl) (by intro _; rfl) (by intro _ u hu; simp [fI] at hu; (repeat (first | (rcases hu with rfl | hu) | subst hu | rfl))) (by first | exact Nat.le_refl _ | omega) (fun p hp hlt => absurd hlt (Nat.not_lt_of_le (Sl.ge (by assumption) p hp))) (by first | omega | (unfold maxLen; omega)) (by simp only [Try.t3]; omega) (fun ad54 n54 cap54 m54 hn54 hs54 hin54 => ?_)
        refine LM.val (ov_assign rfl) ?_
        refine LM.nil ?_
        refine QM.sub (e' := [(1, _), (2, _), (7, _), (8, _), (10, _), (11, _), (16, _), (17, _), (18, _), (25, _), (26, _), (27, _)]) ⟨rfl, rfl, rfl, rfl, rfl, rfl, rfl, rfl, rfl, rfl, rfl, rfl, trivial⟩ ?_
        refine QM.block_normal ?_
        refine QM.then ?_
        refine wpM.region ?_
        refine LM.val (ov_add64 rfl rfl (by omega)) ?_
        refine LM.val (ov_move rfl) ?_
        refine LM.nil ?_
        refine QM.sub (e' := [(1, _), (2, _), (7, _), (8, _), (10, _), (11, _), (16, _), (17, _), (18, _), (25, _), (26, _), (27, _)]) ⟨rfl, rfl, rfl, rfl, rfl, rfl, rfl, rfl, rfl, rfl, rfl, rfl, trivial⟩ ?_
        -- again2: h1+ h2+ h3-
        refine QM.againK (i + 1, o, mo', st ++ [(p : Int)], ad54, n54, cap54, m54) ⟨(by first | rfl | exact lk rfl (by congr 1; omega) | exact lk rfl (by simp)), (by first | rfl | exact lk rfl (by congr 1; omega) | exact lk rfl (by simp)), rfl, rfl, rfl, rfl, rfl, rfl, rfl, rfl, rfl, rfl, trivial⟩ (by (repeat' (first | exact SubM.nil _ | refine SubM.cons rfl ?_ | refine SubM.app ?_))) (fun _ h => h) ?_ ?_
        · exact ⟨show i + 1 ≤ _ by omega, by rw [htk]; exact midT_keep ho hpo (by rw [← hop]; exact Classical.not_not.1 h3), hso2, by simp; omega, by rw [htk, List.filter_append, ← hste, flt_yes (by rw [← hop]; exact Classical.not_not.1 h3)], hs54⟩
        · first | omega | (dsimp only; omega)
    ·
      have hix : i = xs.length := (by omega); subst hix; rw [List.take_length] at ho hste; rw [hxs] at ho; have hmid := midT_done ho; have hKf : xs.filter (fun p => decide (waitEnd (out.getD p.toNat default) e = 0)) = st := hste.symm; rw [hxs] at hKf
      refine wpM.exit ?_
      refine QM.then_exit ?_
      refine QM.then_exit ?_
      refine QM.block_hit ?_
      refine QM.then ?_
      refine wpM.seq ?_
      refine wpM.seq ?_
      refine wpM.region ?_
      refine LM.val (ov_field Try.underlying97 rfl Try.sizeOf3 rfl (k := 1) rfl rfl) ?_
      first | refine LM.rd (om_ld Try.isAgg3 rfl rfl) ?_
      refine LM.val (ov_move rfl) ?_
      refine LM.val (ov_eql rfl rfl) ?_
      refine LM.nil ?_
      refine QM.sub (e' := [(1, _), (2, _), (7, _), (8, _), (10, _), (11, _), (16, _), (17, _), (18, _), (59, _)]) ⟨rfl, rfl, rfl, rfl, rfl, rfl, rfl, rfl, rfl, rfl, trivial⟩ ?_
      refine QM.then ?_
      first | refine wpM.condD rfl (fun h4 => ?_) (fun h4 => ?_) | refine wpM.condB rfl (fun h4 => ?_) (fun h4 => ?_)
      ·
        refine wpM.seq ?_
        refine wpM.region ?_
        refine LM.val (ov_move rfl) ?_
        refine LM.val (ov_move rfl) ?_
        refine LM.val (ov_len Try.underlying61 rfl) ?_
        refine LM.single Try.underlying26 Try.sizeOf3 Try.zeroValue3 rfl rfl rfl rfl rfl (fun b63 hb63 => ?_)
        refine LM.app Try.underlying26 Try.typeInfo3 rfl rfl rfl rfl rfl rfl rfl (by assumption) (by rfl) (by intro _; rfl) (by intro _ u hu; simp [fI] at hu; (repeat (first | (rcases hu with rfl | hu) | subst hu | rfl))) (by first | exact Nat.le_refl _ | omega) (fun p hp hlt => absurd hlt (Nat.not_lt_of_le (Sl.ge (by assumption) p hp))) (by first | omega | (unfold maxLen; omega)) (by simp only [Try.t3]; omega) (fun ad64 n64 cap64 m64 hn64 hs64 hin64 => ?_)
        refine LM.val (ov_assign rfl) ?_
        refine LM.nil ?_
        refine QM.sub (e' := [(1, _), (2, _), (7, _), (8, _), (10, _), (11, _), (16, _), (17, _), (18, _)]) ⟨rfl, rfl, rfl, rfl, rfl, rfl, rfl, rfl, rfl, trivial⟩ ?_
        refine QM.then ?_
        refine wpM.region ?_
        refine LM.val (ov_move rfl) ?_
        refine LM.val (ov_field Try.underlying97 rfl Try.sizeOf3 rfl (k := 2) rfl rfl) ?_
        first | refine LM.rd (om_ld Try.isAgg3 rfl rfl) ?_
        refine LM.val (ov_field Try.underlying97 rfl Try.sizeOf3 rfl (k := 3) rfl rfl) ?_
        first | refine LM.rd (om_ld Try.isAgg3 rfl rfl) ?_
        refine LM.val (ov_field Try.underlying97 rfl Try.sizeOf22 rfl (k := 0) rfl rfl) ?_
        first | refine LM.rd (om_ld Try.isAgg22 rfl rfl) ?_
        refine LM.val (ov_move rfl) ?_
        refine LM.val (ov_eql rfl rfl) ?_
        refine LM.val (ov_move rfl) ?_
        first | refine LM.splitD (t := 74) rfl (fun h5 => ?_) (fun h5 => ?_) | refine LM.splitB (t := 74) rfl (fun h5 => ?_) (fun h5 => ?_)
        ·
          exact absurd h5 (by decide)
        ·
          refine LM.drop (t := 74) rfl rfl rfl ?_
          refine LM.drop (t := 74) rfl rfl rfl ?_
          refine LM.drop (t := 74) rfl rfl rfl ?_
          refine LM.dropU (t := 74) rfl rfl rfl ?_
          refine LM.dropX (t := 78) rfl rfl ?_
          refine LM.dropX (t := 78) rfl rfl ?_
          refine LM.dropX (t := 78) rfl rfl ?_
          refine LM.drop (t := 74) rfl rfl rfl ?_
          refine LM.val (ov_pickF rfl rfl) ?_
          refine LM.val (ov_build (cs := #[_, _, _, _, _, _]) rfl (by first | rfl | kernel_rfl)) ?_
          refine LM.single Try.underlying61 Try.sizeOf72 Try.zeroValue72 rfl rfl rfl rfl rfl (fun b85 hb85 => ?_)
          refine LM.app (a := mkT 6 e) Try.underlying61 Try.typeInfo72 rfl rfl rfl rfl rfl rfl rfl (by assumption) (by first | rfl | (have hq : (mkT 6 e).read = true := (by simp [mkT, h6]); unfold fT; rw [hq]; rfl) | (have hq : (mkT 6 e).read = decide (e.n = 3) := (by simp [mkT, h6]); unfold fT; rw [hq]; rfl)) (by intro _; rfl) (by intro _ u hu; simp [fT] at hu; (repeat (first | (rcases hu with rfl | hu) | subst hu | rfl))) (by first | exact Nat.le_refl _ | omega) (fun p hp hlt => absurd hlt (Nat.not_lt_of_le (Sl.ge (by assumption) p hp))) (by first | omega | (unfold maxLen; omega)) (by simp only [Try.t72]; omega) (fun ad86 n86 cap86 m86 hn86 hs86 hin86 => ?_)
          refine LM.val (ov_assign rfl) ?_
          refine LM.nil ?_
          refine QM.sub (e' := [(1, _), (2, _), (7, _), (8, _), (10, _), (11, _), (16, _), (17, _), (18, _)]) ⟨rfl, rfl, rfl, rfl, rfl, rfl, rfl, rfl, rfl, trivial⟩ ?_
          refine QM.then ?_
          refine wpM.region ?_
          refine LM.val (ov_move rfl) ?_
          refine LM.val (ov_field Try.underlying97 rfl Try.sizeOf3 rfl (k := 2) rfl rfl) ?_
          first | refine LM.rd (om_ld Try.isAgg3 rfl rfl) ?_
          refine LM.val (ov_move rfl) ?_
          refine LM.mU Try.underlying108 Try.underlying3 rfl rfl rfl (by assumption) (fun hlt => absurd hlt (by omega)) (fun esu1 clu hesu1 => ?_)
          refine LM.nil ?_
          refine QM.sub (e' := [(1, _), (2, _), (7, _), (8, _), (16, _), (17, _), (18, _)]) ⟨rfl, rfl, rfl, rfl, rfl, rfl, rfl, trivial⟩ ?_
          refine QM.block_normal ?_
          refine QM.then ?_
          refine wpM.region ?_
          refine LM.val (ov_add64 rfl rfl (by omega)) ?_
          refine LM.val (ov_move rfl) ?_
          refine LM.nil ?_
          refine QM.sub (e' := [(1, _), (2, _), (7, _), (8, _), (16, _), (17, _), (18, _)]) ⟨rfl, rfl, rfl, rfl, rfl, rfl, rfl, trivial⟩ ?_
          -- again1: h1+ h2- h4+ h5-
          have hK : ∀ x, x ≠ e.task → opn (out.map (fun s => stepT waitEnd s e) ++ [mkT 6 e]) x = opn out x := (fun x hx => by rw [opn_snoc, opn_step, if_neg hx, if_neg (by simp [isOpn, mkT, Ne.symm hx]), List.append_nil]); have hKe : opn (out.map (fun s => stepT waitEnd s e) ++ [mkT 6 e]) e.task = st ++ [(no : Int)] := (by rw [opn_snoc, opn_step, if_pos rfl, if_pos (by simp [isOpn, mkT]), List.length_map, hKf, hno]); obtain ⟨mm', hpm, how'⟩ := hup (opn (out.map (fun s => stepT waitEnd s e) ++ [mkT 6 e])) _ _ (by rw [hKe]; exact hs64) hK; have hnew : passT waitEnd 6 (evs.take (k + 1)) = out.map (fun s => stepT waitEnd s e) ++ [mkT 6 e] := (by rw [passT_take waitEnd 6 (l := evs) (k := k) (by omega), hout, ← he]; unfold stepAll; rw [if_pos (by omega)]); rw [hmid] at hs86; refine QM.repl (m := m64 ++ m2) hpm.symm ?_
          refine QM.againK (k + 1, ad86, n86, cap86, m86, esu1, clu, aput l e.task (.slice ad64 n64 cap64), mm') ⟨(by first | rfl | exact lk rfl (by congr 1; omega) | exact lk rfl (by simp)), (by first | rfl | exact lk rfl (by congr 1; omega) | exact lk rfl (by simp)), rfl, rfl, rfl, rfl, rfl, trivial⟩ (by (repeat' (first | exact SubM.nil _ | refine SubM.cons rfl ?_ | refine SubM.app ?_))) (fun _ h => h) ?_ ?_
          · exact ⟨by omega, by rw [hnew]; simp; omega, by rw [hnew]; exact hs86, hesu1, by rw [hnew]; exact how'⟩
          · first | omega | (dsimp only; omega)
      ·
        refine wpM.skip ?_
        refine QM.then ?_
        refine wpM.region ?_
        refine LM.val (ov_move rfl) ?_
        refine LM.val (ov_field Try.underlying97 rfl Try.sizeOf3 rfl (k := 2) rfl rfl) ?_
        first | refine LM.rd (om_ld Try.isAgg3 rfl rfl) ?_
        refine LM.val (ov_move rfl) ?_
        refine LM.mU Try.underlying108 Try.underlying3 rfl rfl rfl (by assumption) (fun hlt => absurd hlt (by omega)) (fun esu1 clu hesu1 => ?_)
        refine LM.nil ?_
        refine QM.sub (e' := [(1, _), (2, _), (7, _), (8, _), (16, _), (17, _), (18, _)]) ⟨rfl, rfl, rfl, rfl, rfl, rfl, rfl, trivial⟩ ?_
        refine QM.block_normal ?_
        refine QM.then ?_
        refine wpM.region ?_
        refine LM.val (ov_add64 rfl rfl (by omega)) ?_
        refine LM.val (ov_move rfl) ?_
        refine LM.nil ?_
        refine QM.sub (e' := [(1, _), (2, _), (7, _), (8, _), (16, _), (17, _), (18, _)]) ⟨rfl, rfl, rfl, rfl, rfl, rfl, rfl, trivial⟩ ?_
        -- again2: h1+ h2- h4-
        have hK : ∀ x, x ≠ e.task → opn (out.map (fun s => stepT waitEnd s e)) x = opn out x := (fun x hx => by rw [opn_step, if_neg hx]); have hKe : opn (out.map (fun s => stepT waitEnd s e)) e.task = st := (by rw [opn_step, if_pos rfl, hKf]); obtain ⟨mm', hpm, how'⟩ := hup (opn (out.map (fun s => stepT waitEnd s e))) _ _ (by rw [hKe]; exact hst) hK; have hnew : passT waitEnd 6 (evs.take (k + 1)) = out.map (fun s => stepT waitEnd s e) := (by rw [passT_take waitEnd 6 (l := evs) (k := k) (by omega), hout, ← he]; unfold stepAll; rw [if_neg (by omega), List.append_nil]); rw [hmid] at hso2; refine QM.repl (m := ms ++ m2) hpm.symm ?_
        refine QM.againK (k + 1, ado, no, capo, mo', esu1, clu, aput l e.task (.slice ads ns caps), mm') ⟨(by first | rfl | exact lk rfl (by congr 1; omega) | exact lk rfl (by simp)), (by first | rfl | exact lk rfl (by congr 1; omega) | exact lk rfl (by simp)), rfl, rfl, rfl, rfl, rfl, trivial⟩ (by (repeat' (first | exact SubM.nil _ | refine SubM.cons rfl ?_ | refine SubM.app ?_))) (fun _ h => h) ?_ ?_
        · exact ⟨by omega, by rw [hnew]; simp; omega, by rw [hnew]; exact hso2, hesu1, by rw [hnew]; exact how'⟩
        · first | omega | (dsimp only; omega)
  ·
    refine wpM.exit ?_
    refine QM.then_exit ?_
    refine QM.then_exit ?_
    refine QM.block_hit ?_
    refine QM.then ?_
    refine wpM.seq ?_
    refine wpM.region ?_
    refine LM.val (ov_move rfl) ?_
    refine LM.val (ov_assign rfl) ?_
    refine LM.nil ?_
    refine QM.sub (e' := [(6, _)]) ⟨rfl, trivial⟩ ?_
    refine QM.then ?_
    refine wpM.ret ?_
    refine QM.leave (.inl rfl) [.tmp 6] Try.results62 rfl ?_
    intro w' hm' hc' hg'
    -- leaf 1: h1-
    have hkl : k = evs.length := (by omega); subst hkl; rw [List.take_length] at hout; subst hout; exact ⟨hc', mo, hno ▸ hso, hm'.pick mo⟩

set_option maxRecDepth 100000 in
theorem stays_holdEnd {evs : List Ev} {ad : Option Addr} {n cap : Nat} (w : World) (hn : n = evs.length) (hl : Sr fE 5 evs (.slice ad n cap) w) (hx : evs.length ≤ maxLen) (hx2 : evs.length ≤ 1000000000000) : Ret Try.prog 62 #[.slice ad n cap, .int .i64 4, .func (.func 65) #[] #[]] w (New fT 72 6 (passT holdEnd 4 evs) w) := by
  refine Ret.enterM (l := [.slice ad n cap, .int .i64 4, .func (.func 65) #[] #[]]) Try.func62 rfl Try.ntmps62 rfl ([]) (no) (Mem.nil w) ?_
  refine wpM.seq ?_
  refine wpM.region ?_
  refine LM.val (ov_assign rfl) ?_
  refine LM.nil ?_
  refine QM.sub (e' := [(0, _), (1, _), (2, _)]) ⟨rfl, rfl, rfl, trivial⟩ ?_
  refine QM.then ?_
  refine wpM.seq ?_
  refine wpM.region ?_
  refine LM.val (ov_assign rfl) ?_
  refine LM.nil ?_
  refine QM.sub (e' := [(0, _), (1, _), (2, _), (7, _)]) ⟨rfl, rfl, rfl, rfl, trivial⟩ ?_
  refine QM.then ?_
  refine wpM.seq ?_
  refine wpM.region ?_
  refine LM.makeMap rfl (fun b15 hb15 => ?_)
  refine LM.val (ov_assign rfl) ?_
  refine LM.nil ?_
  refine QM.sub (e' := [(0, _), (1, _), (2, _), (7, _), (8, _)]) ⟨rfl, rfl, rfl, rfl, rfl, trivial⟩ ?_
  refine QM.then ?_
  refine wpM.seq ?_
  refine wpM.seq ?_
  refine wpM.region ?_
  refine LM.val (ov_move rfl) ?_
  refine LM.val (ov_len Try.underlying59 rfl) ?_
  refine LM.val (ov_move rfl) ?_
  refine LM.nil ?_
  refine QM.sub (e' := [(1, _), (2, _), (7, _), (8, _), (16, _), (17, _), (18, _)]) ⟨rfl, rfl, rfl, rfl, rfl, rfl, rfl, trivial⟩ ?_
  refine QM.then ?_
  refine wpM.block ?_
  refine wpM.loopK0 (α := Nat × Option Addr × Nat × Nat × Mem0 × Array MapEntry × Nat × List (Int × Value) × Mem0) (fun ⟨k, ado, no, capo, mo, es, clk, l, mm⟩ => [(7, .slice ado no capo), (18, .int .i64 (k : Nat))]) [(1, _), (2, _), (8, _), (16, _), (17, _)] (fun ⟨k, ado, no, capo, mo, es, clk, l, mm⟩ => mo ++ ((b15, .map es clk) :: (mm ++ []))) (fun ⟨k, ado, no, capo, mo, es, clk, l, mm⟩ => k ≤ evs.length ∧ no = (passT holdEnd 4 (evs.take k)).length ∧ Sl fT 72 6 w.heap.size (passT holdEnd 4 (evs.take k)) (.slice ado no capo) mo ∧ Ens .i64 es.toList l ∧ Own 3 w.heap.size (opn (passT holdEnd 4 (evs.take k))) l mm) (fun ⟨k, ado, no, capo, mo, es, clk, l, mm⟩ => evs.length - k) ((0, none, 0, 0, [], #[], 0, [], [])) ⟨(by first | rfl | exact lk rfl (by congr 1; omega) | exact lk rfl (by simp)), (by first | rfl | exact lk rfl (by congr 1; omega) | exact lk rfl (by simp)), rfl, rfl, rfl, rfl, rfl, trivial⟩ (by (repeat' (first | exact SubM.nil _ | refine SubM.cons rfl ?_ | refine SubM.app ?_))) ⟨Nat.zero_le _, rfl, .nil _ _ _ _, rfl, Own.nil _ _⟩ ?_
  rintro ⟨k, ado, no, capo, mo, es, clk, l, mm⟩ ⟨hk, hno, hso, hes, how⟩
  change wpM _ _ _ _ _ _ _ (mo ++ ((b15, .map es clk) :: (mm ++ []))) _ _ _
  have hpl := passT_len holdEnd 4 (evs.take k); have htl : (evs.take k).length = k := (by rw [List.length_take]; omega); generalize hout : passT holdEnd 4 (evs.take k) = out at *
  refine wpM.seq ?_
  refine wpM.region ?_
  refine LM.val (ov_lss rfl rfl) ?_
  refine LM.nil ?_
  refine QM.sub (e' := [(1, _), (2, _), (7, _), (8, _), (16, _), (17, _), (18, _), (19, _)]) ⟨rfl, rfl, rfl, rfl, rfl, rfl, rfl, rfl, trivial⟩ ?_
  refine QM.then ?_
  refine wpM.seq ?_
  first | refine wpM.condD rfl (fun h1 => ?_) (fun h1 => ?_) | refine wpM.condB rfl (fun h1 => ?_) (fun h1 => ?_)
  ·
    refine wpM.skip ?_
    refine QM.then ?_
    refine wpM.seq ?_
    refine wpM.block ?_
    refine wpM.seq ?_
    refine wpM.region ?_
    first | refine LM.val (ov_idxSN (by first | exact Sr.spt (by assumption) | exact Sl.spt (by assumption)) Try.underlying59 Try.sizeOf97 rfl rfl (by omega)) ?_ | refine LM.val (ov_idxS (by first | exact Sr.spt (by assumption) | exact Sl.spt (by assumption)) Try.underlying59 Try.sizeOf97 rfl rfl (by omega)) ?_ | refine LM.val (ov_idx Try.underlying59 Try.sizeOf97 rfl rfl (by omega)) ?_
    first | refine LM.rd (om_slA (by assumption) (by intro _; rfl) Try.isAgg97 Try.sizeOf97 rfl (by exact getq default (by first | omega | (simp only [List.length_set, List.length_append, List.length_cons, List.length_nil]; omega)))) ?_ | refine LM.rdC (om_srEA (by assumption) (by intro _; rfl) Try.isAgg97 Try.sizeOf97 rfl (by exact getq default (by first | omega | (simp only [List.length_set, List.length_append, List.length_cons, List.length_nil]; omega))) id) ?_ | refine LM.rd (om_ldA Try.isAgg97 Try.sizeOf97 rfl (vs := [_, _, _, _, _]) rfl ⟨rfl, rfl, rfl, rfl, rfl, trivial⟩) ?_
    refine LM.alloc Try.zeroValue97 rfl (fun b10 hb10 => ?_)
    refine LM.st Try.sizeOf97 rfl rfl rfl (by first | decide | (simp; done) | (simp; omega)) rfl (fun hlt => absurd hlt (by omega)) ?_
    refine LM.nil ?_
    refine QM.sub (e' := [(1, _), (2, _), (7, _), (8, _), (10, _), (16, _), (17, _), (18, _)]) ⟨rfl, rfl, rfl, rfl, rfl, rfl, rfl, rfl, trivial⟩ ?_
    refine QM.then ?_
    refine wpM.seq ?_
    refine wpM.region ?_
    refine LM.val (ov_assign rfl) ?_
    refine LM.nil ?_
    refine QM.sub (e' := [(1, _), (2, _), (7, _), (8, _), (10, _), (11, _), (16, _), (17, _), (18, _)]) ⟨rfl, rfl, rfl, rfl, rfl, rfl, rfl, rfl, rfl, trivial⟩ ?_
    refine QM.then ?_
    refine wpM.seq ?_
    refine wpM.seq ?_
    refine wpM.region ?_
    obtain ⟨e, he⟩ : ∃ e, e = evs.getD k default := ⟨_, rfl⟩; rw [← he]
    refine LM.val (ov_move rfl) ?_
    refine LM.val (ov_field Try.underlying97 rfl Try.sizeOf3 rfl (k := 2) rfl rfl) ?_
    first | refine LM.rd (om_ld Try.isAgg3 rfl rfl) ?_
    obtain ⟨ad5, n5, cap5, m1, m2, hv5, hn5, hs5, hp5, hup⟩ := how.look e.task; refine LM.repl hp5 (LM.assoc ?_); have hol := opn_len out e.task; obtain ⟨xs, hxs⟩ : ∃ xs, xs = opn out e.task := ⟨_, rfl⟩; rw [← hxs] at hs5 hn5 hol
    refine LM.rd (om_lk Try.underlying108 Try.underlying3 Try.zeroValue26 rfl rfl (by assumption) hv5) ?_
    refine LM.val (ov_len Try.underlying26 rfl) ?_
    refine LM.val (ov_move rfl) ?_
    refine LM.nil ?_
    refine QM.sub (e' := [(1, _), (2, _), (7, _), (8, _), (10, _), (11, _), (16, _), (17, _), (18, _), (25, _), (26, _), (27, _)]) ⟨rfl, rfl, rfl, rfl, rfl, rfl, rfl, rfl, rfl, rfl, rfl, rfl, trivial⟩ ?_
    refine QM.then ?_
    refine wpM.block ?_
    refine wpM.loopK0 (α := Nat × List St × Mem0 × List Int × Option Addr × Nat × Nat × Mem0) (fun ⟨i, o, mo', st, ads, ns, caps, ms⟩ => [(11, .slice ads ns caps), (27, .int .i64 (i : Nat))]) [(1, _), (2, _), (7, _), (8, _), (10, _), (16, _), (17, _), (18, _), (25, _), (26, _)] (fun ⟨i, o, mo', st, ads, ns, caps, ms⟩ => mo' ++ (ms ++ ((b10, .cells (fE e).toArray 97 (0, 0)) :: (b15, .map es clk) :: (m1 ++ (m2 ++ []))))) (fun ⟨i, o, mo', st, ads, ns, caps, ms⟩ => i ≤ xs.length ∧ midT holdEnd out e (xs.take i) o ∧ Sl fT 72 6 w.heap.size o (.slice ado no capo) mo' ∧ ns = st.length ∧ st = (xs.take i).filter (fun p => decide (holdEnd (out.getD p.toNat default) e = 0)) ∧ Sl fI 3 1 w.heap.size st (.slice ads ns caps) ms) (fun ⟨i, o, mo', st, ads, ns, caps, ms⟩ => xs.length - i) ((0, out, mo, [], none, 0, 0, [])) ⟨(by first | rfl | exact lk rfl (by congr 1; omega) | exact lk rfl (by simp)), (by first | rfl | exact lk rfl (by congr 1; omega) | exact lk rfl (by simp)), rfl, rfl, rfl, rfl, rfl, rfl, rfl, rfl, rfl, rfl, trivial⟩ (by (repeat' (first | exact SubM.nil _ | refine SubM.cons rfl ?_ | refine SubM.app ?_))) ⟨Nat.zero_le _, midT_nil _ _ _, hso, rfl, rfl, .nil _ _ _ _⟩ ?_
    rintro ⟨i, o, mo', st, ads, ns, caps, ms⟩ ⟨hi, ho, hso2, hns, hste, hst⟩
    change wpM _ _ _ _ _ _ _ (mo' ++ (ms ++ ((b10, .cells (fE e).toArray 97 (0, 0)) :: (b15, .map es clk) :: (m1 ++ (m2 ++ []))))) _ _ _
    have hsl := len_filter hste; have hol2 := ho.1
    refine wpM.seq ?_
    refine wpM.region ?_
    refine LM.val (ov_lss rfl rfl) ?_
    refine LM.nil ?_
    refine QM.sub (e' := [(1, _), (2, _), (7, _), (8, _), (10, _), (11, _), (16, _), (17, _), (18, _), (25, _), (26, _), (27, _), (28, _)]) ⟨rfl, rfl, rfl, rfl, rfl, rfl, rfl, rfl, rfl, rfl, rfl, rfl, rfl, trivial⟩ ?_
    refine QM.then ?_
    refine wpM.seq ?_
    first | refine wpM.condD rfl (fun h2 => ?_) (fun h2 => ?_) | refine wpM.condB rfl (fun h2 => ?_) (fun h2 => ?_)
    ·
      refine wpM.skip ?_
      refine QM.then ?_
      refine wpM.seq ?_
      refine wpM.block ?_
      refine wpM.seq ?_
      refine wpM.region ?_
      first | refine LM.val (ov_idxSN (by first | exact Sr.spt (by assumption) | exact Sl.spt (by assumption)) Try.underlying26 Try.sizeOf3 rfl rfl (by omega)) ?_ | refine LM.val (ov_idxS (by first | exact Sr.spt (by assumption) | exact Sl.spt (by assumption)) Try.underlying26 Try.sizeOf3 rfl rfl (by omega)) ?_ | refine LM.val (ov_idx1 Try.underlying26 Try.sizeOf3 rfl rfl (by omega)) ?_
      first | refine LM.rd (om_sl1 (by assumption) (by intro _; rfl) Try.isAgg3 rfl rfl (by exact getq 0 (by first | omega | (simp only [List.length_set, List.length_append, List.length_cons, List.length_nil]; omega))) (by rfl)) ?_ | refine LM.rdC (om_sr1 (by assumption) Try.isAgg3 rfl rfl (by exact getq 0 (by first | omega | (simp only [List.length_set, List.length_append, List.length_cons, List.length_nil]; omega))) (by rfl) id) ?_ | refine LM.rd (om_ld Try.isAgg3 rfl rfl) ?_
      refine LM.val (ov_assign rfl) ?_
      refine LM.nil ?_
      refine QM.sub (e' := [(1, _), (2, _), (7, _), (8, _), (10, _), (11, _), (13, _), (16, _), (17, _), (18, _), (25, _), (26, _), (27, _)]) ⟨rfl, rfl, rfl, rfl, rfl, rfl, rfl, rfl, rfl, rfl, rfl, rfl, rfl, trivial⟩ ?_
      refine QM.then ?_
      refine wpM.seq ?_
      refine wpM.draw [(0, 0), (1, 0), (2, 0), (3, 0), (4, 1), (5, 1), (6, 2), (7, 0)] (by kernel_rfl) (by kernel_rfl) ?_
      refine LD.val rfl rfl (ov_move rfl) ?_
      refine LD.val rfl rfl (ov_move rfl) ?_
      refine LD.val rfl rfl (ov_move rfl) ?_
      have hpm := (opn_mem.1 (show xs.getD i 0 ∈ opn out e.task from hxs ▸ List.mem_of_getElem? (getq 0 (by omega)))); obtain ⟨p, hp, hpo, hisp⟩ := hpm; rw [hp]; have hnot : (p : Int) ∉ xs.take i := (by rw [← hp]; exact not_in_take (hxs ▸ opn_nodup out e.task) (by omega) 0); have htk : xs.take (i + 1) = xs.take i ++ [(p : Int)] := (by rw [take_snoc 0 (by omega), hp]); have hpo2 : p < o.length := (by rw [ho.1]; exact hpo); have hop : o.getD p default = out.getD p default := (by rw [ho.2 p hpo, if_neg hnot]); have hq := hisp; simp only [isOpn, Bool.and_eq_true, decide_eq_true_eq] at hq; rw [← hop] at hq; obtain ⟨hq2, hq1⟩ := hq
      first | refine LD.val rfl rfl (ov_idxSN (by first | exact Sr.spt (by assumption) | exact Sl.spt (by assumption)) Try.underlying61 Try.sizeOf72 rfl rfl (by omega)) ?_ | refine LD.val rfl rfl (ov_idxS (by first | exact Sr.spt (by assumption) | exact Sl.spt (by assumption)) Try.underlying61 Try.sizeOf72 rfl rfl (by omega)) ?_ | refine LD.val rfl rfl (ov_idx Try.underlying61 Try.sizeOf72 rfl rfl (by omega)) ?_
      first | refine LD.rd rfl rfl (om_slA (by assumption) (by intro _; rfl) Try.isAgg72 Try.sizeOf72 rfl (by exact getq default (by first | omega | (simp only [List.length_set, List.length_append, List.length_cons, List.length_nil]; omega)))) ?_ | refine LD.rdC rfl rfl (om_srEA (by assumption) (by intro _; rfl) Try.isAgg72 Try.sizeOf72 rfl (by exact getq default (by first | omega | (simp only [List.length_set, List.length_append, List.length_cons, List.length_nil]; omega))) id) ?_ | refine LD.rd rfl rfl (om_ldA Try.isAgg72 Try.sizeOf72 rfl (vs := [_, _, _, _, _, _]) rfl ⟨rfl, rfl, rfl, rfl, rfl, rfl, trivial⟩) ?_
      first | refine LD.rd rfl rfl (om_ldA Try.isAgg97 Try.sizeOf97 rfl (vs := [_, _, _, _, _]) rfl ⟨rfl, rfl, rfl, rfl, rfl, trivial⟩) ?_
      refine LD.callE rfl rfl (oc_callV rfl (enters_fn Try.func65 (by kernel_rfl) rfl) rfl) (fun w hm hc hg => holdEnd_spec _ _ w) ?_
      refine LD.val rfl rfl (ov_assign rfl) ?_
      refine LD.nil ?_
      refine QM.sub (e' := [(1, _), (2, _), (7, _), (8, _), (10, _), (11, _), (13, _), (14, _), (16, _), (17, _), (18, _), (25, _), (26, _), (27, _)]) ⟨rfl, rfl, rfl, rfl, rfl, rfl, rfl, rfl, rfl, rfl, rfl, rfl, rfl, rfl, trivial⟩ ?_
      refine QM.then ?_
      refine wpM.seq ?_
      refine wpM.region ?_
      refine LM.val (ov_move rfl) ?_
      refine LM.val (ov_neq rfl rfl) ?_
      refine LM.nil ?_
      refine QM.sub (e' := [(1, _), (2, _), (7, _), (8, _), (10, _), (11, _), (13, _), (14, _), (16, _), (17, _), (18, _), (25, _), (26, _), (27, _), (39, _)]) ⟨rfl, rfl, rfl, rfl, rfl, rfl, rfl, rfl, rfl, rfl, rfl, rfl, rfl, rfl, rfl, trivial⟩ ?_
      refine QM.then ?_
      first | refine wpM.condD rfl (fun h3 => ?_) (fun h3 => ?_) | refine wpM.condB rfl (fun h3 => ?_) (fun h3 => ?_)
      ·
        refine wpM.toAltS [o.set p { o.getD p default with fin := holdEnd (o.getD p default) e }, o.set p (stepT holdEnd (o.getD p default) e)] hso2 (by omega) (fun junk hfj hMc => ?_)
        refine wpM.draw [(0, 0), (1, 0), (2, 0), (3, 0), (4, 0), (5, 0), (6, 1), (7, 0), (8, 0), (9, 2), (10, 0), (11, 0), (12, 2)] (by kernel_rfl) (by kernel_rfl) ?_
        refine LD.val rfl rfl (ov_move rfl) ?_
        refine LD.val rfl rfl (ov_move rfl) ?_
        refine LD.val rfl rfl (ov_move rfl) ?_
        refine LD.val rfl rfl (ov_move rfl) ?_
        refine LD.val rfl rfl (ov_move rfl) ?_
        refine LD.val rfl rfl (ov_field Try.underlying97 rfl Try.sizeOf22 rfl (k := 0) rfl rfl) ?_
        first | refine LD.rd rfl rfl (om_ld Try.isAgg22 rfl rfl) ?_
        first | refine LD.val rfl rfl (ov_idxSN (by first | exact Sr.spt (by assumption) | exact Sl.spt (by assumption)) Try.underlying61 Try.sizeOf72 rfl rfl (by omega)) ?_ | refine LD.val rfl rfl (ov_idxS (by first | exact Sr.spt (by assumption) | exact Sl.spt (by assumption)) Try.underlying61 Try.sizeOf72 rfl rfl (by omega)) ?_ | refine LD.val rfl rfl (ov_idx Try.underlying61 Try.sizeOf72 rfl rfl (by omega)) ?_
        refine LD.val rfl rfl (ov_field Try.underlying72 rfl Try.sizeOf3 rfl (k := 4) rfl rfl) ?_
        refine LD.stAltS [o.set p { o.getD p default with fin := holdEnd (o.getD p default) e }, o.set p (stepT holdEnd (o.getD p default) e)] (j := 4) rfl rfl (by assumption) Try.sizeOf3 (by intro _; rfl) rfl rfl rfl rfl (by decide) rfl (by simp) (by have hst := stepT_ends' hq1 hq2 h3; simp only [List.forall_mem_cons, List.not_mem_nil, false_implies, implies_true, and_true]; refine ⟨⟨_, { o.getD p default with fin := holdEnd (o.getD p default) e }, getq default (by omega), rfl, by simp⟩, ⟨_, { o.getD p default with fin := holdEnd (o.getD p default) e }, List.getElem?_set_self hpo2, rfl, by simp⟩, ⟨_, stepT holdEnd (o.getD p default) e, List.getElem?_set_self hpo2, by rw [hst]; rfl, by simp⟩⟩) (fun hlt => absurd hlt (by have := hfj.1; omega)) (by assumption) ?_
        first | refine LD.val rfl rfl (ov_idxSN (by first | exact Sr.spt (by assumption) | exact Sl.spt (by assumption)) Try.underlying61 Try.sizeOf72 rfl rfl (by omega)) ?_ | refine LD.val rfl rfl (ov_idxS (by first | exact Sr.spt (by assumption) | exact Sl.spt (by assumption)) Try.underlying61 Try.sizeOf72 rfl rfl (by omega)) ?_ | refine LD.val rfl rfl (ov_idx Try.underlying61 Try.sizeOf72 rfl rfl (by omega)) ?_
        refine LD.val rfl rfl (ov_field Try.underlying72 rfl Try.sizeOf22 rfl (k := 3) rfl rfl) ?_
        refine LD.stAltS [o.set p (stepT holdEnd (o.getD p default) e)] (j := 3) rfl rfl (by assumption) Try.sizeOf22 (by intro _; rfl) rfl rfl rfl rfl (by decide) rfl (by simp) (by have hst := stepT_ends' hq1 hq2 h3; simp only [List.forall_mem_cons, List.not_mem_nil, false_implies, implies_true, and_true]; refine ⟨⟨_, stepT holdEnd (o.getD p default) e, List.getElem?_set_self hpo2, by rw [hst]; rfl, by simp⟩, ⟨_, stepT holdEnd (o.getD p default) e, List.getElem?_set_self hpo2, by rw [hst]; rfl, by simp⟩⟩) (fun hlt => absurd hlt (by have := hfj.1; omega)) (by assumption) ?_
        refine LD.nil ?_
        refine QM.ofAltS (n := no) (by assumption) (by simp only [List.length_set]) (by omega) (fun ms3 hss3 => ?_)
        refine QM.sub (e' := [(1, _), (2, _), (7, _), (8, _), (10, _), (11, _), (16, _), (17, _), (18, _), (25, _), (26, _), (27, _)]) ⟨rfl, rfl, rfl, rfl, rfl, rfl, rfl, rfl, rfl, rfl, rfl, rfl, trivial⟩ ?_
        refine QM.block_normal ?_
        refine QM.then ?_
        refine wpM.region ?_
        refine LM.val (ov_add64 rfl rfl (by omega)) ?_
        refine LM.val (ov_move rfl) ?_
        refine LM.nil ?_
        refine QM.sub (e' := [(1, _), (2, _), (7, _), (8, _), (10, _), (11, _), (16, _), (17, _), (18, _), (25, _), (26, _), (27, _)]) ⟨rfl, rfl, rfl, rfl, rfl, rfl, rfl, rfl, rfl, rfl, rfl, rfl, trivial⟩ ?_
        -- again1: h1+ h2+ h3+
        refine QM.againK (i + 1, o.set p (stepT holdEnd (o.getD p default) e), ms3, st, ads, ns, caps, ms) ⟨(by first | rfl | exact lk rfl (by congr 1; omega) | exact lk rfl (by simp)), (by first | rfl | exact lk rfl (by congr 1; omega) | exact lk rfl (by simp)), rfl, rfl, rfl, rfl, rfl, rfl, rfl, rfl, rfl, rfl, trivial⟩ (by (repeat' (first | exact SubM.nil _ | refine SubM.cons rfl ?_ | refine SubM.app ?_))) (fun _ h => h) ?_ ?_
        · exact ⟨show i + 1 ≤ _ by omega, by rw [htk]; exact midT_put ho hnot hpo, hss3, hns, by rw [htk, List.filter_append, ← hste, flt_no (by rw [← hop]; exact h3), List.append_nil], hst⟩
        · first | omega | (dsimp only; omega)
      ·
        refine wpM.region ?_
        refine LM.val (ov_move rfl) ?_
        refine LM.val (ov_move rfl) ?_
        refine LM.single Try.underlying26 Try.sizeOf3 Try.zeroValue3 rfl rfl rfl rfl rfl (fun b53 hb53 => ?_)
        refine LM.app Try.underlying26 Try.typeInfo3 rfl rfl rfl rfl rfl rfl rfl (by assumption) (by rfl) (by intro _; rfl) (by intro _ u hu; simp [fI] at hu; (repeat (first | (rcases hu with rfl | hu) | subst hu | rfl))) (by first | exact Nat.le_refl _ | omega) (fun p hp hlt => absurd hlt (Nat.not_lt_of_le (Sl.ge (by assumption) p hp))) (by first | omega | (unfold maxLen; omega)) (by simp only [Try.t3]; omega) (fun ad54 n54 cap54 m54 hn54 hs54 hin54 => ?_)
        refine LM.val (ov_assign rfl) ?_
        refine LM.nil ?_
        refine QM.sub (e' := [(1, _), (2, _), (7, _), (8, _), (10, _), (11, _), (16, _), (17, _), (18, _), (25, _), (26, _), (27, _)]) ⟨rfl, rfl, rfl, rfl, rfl, rfl, rfl, rfl, rfl, rfl, rfl, rfl, trivial⟩ ?_
        refine QM.block_normal ?_
        refine QM.then ?_
        refine wpM.region ?_
        refine LM.val (ov_add64 rfl rfl (by omega)) ?_
        refine LM.val (ov_move rfl) ?_
        refine LM.nil ?_
        refine QM.sub (e' := [(1, _), (2, _), (7, _), (8, _), (10, _), (11, _), (16, _), (17, _), (18, _), (25, _), (26, _), (27, _)]) ⟨rfl, rfl, rfl, rfl, rfl, rfl, rfl, rfl, rfl, rfl, rfl, rfl, trivial⟩ ?_
        -- again2: h1+ h2+ h3-
        refine QM.againK (i + 1, o, mo', st ++ [(p : Int)], ad54, n54, cap54, m54) ⟨(by first | rfl | exact lk rfl (by congr 1; omega) | exact lk rfl (by simp)), (by first | rfl | exact lk rfl (by congr 1; omega) | exact lk rfl (by simp)), rfl, rfl, rfl, rfl, rfl, rfl, rfl, rfl, rfl, rfl, trivial⟩ (by (repeat' (first | exact SubM.nil _ | refine SubM.cons rfl ?_ | refine SubM.app ?_))) (fun _ h => h) ?_ ?_
        · exact ⟨show i + 1 ≤ _ by omega, by rw [htk]; exact midT_keep ho hpo (by rw [← hop]; exact Classical.not_not.1 h3), hso2, by simp; omega, by rw [htk, List.filter_append, ← hste, flt_yes (by rw [← hop]; exact Classical.not_not.1 h3)], hs54⟩
        · first | omega | (dsimp only; omega)
    ·
      have hix : i = xs.length := (by omega); subst hix; rw [List.take_length] at ho hste; rw [hxs] at ho; have hmid := midT_done ho; have hKf : xs.filter (fun p => decide (holdEnd (out.getD p.toNat default) e = 0)) = st := hste.symm; rw [hxs] at hKf
      refine wpM.exit ?_
      refine QM.then_exit ?_
      refine QM.then_exit ?_
      refine QM.block_hit ?_
      refine QM.then ?_
      refine wpM.seq ?_
      refine wpM.seq ?_
      refine wpM.region ?_
      refine LM.val (ov_field Try.underlying97 rfl Try.sizeOf3 rfl (k := 1) rfl rfl) ?_
      first | refine LM.rd (om_ld Try.isAgg3 rfl rfl) ?_
      refine LM.val (ov_move rfl) ?_
      refine LM.val (ov_eql rfl rfl) ?_
      refine LM.nil ?_
      refine QM.sub (e' := [(1, _), (2, _), (7, _), (8, _), (10, _), (11, _), (16, _), (17, _), (18, _), (59, _)]) ⟨rfl, rfl, rfl, rfl, rfl, rfl, rfl, rfl, rfl, rfl, trivial⟩ ?_
      refine QM.then ?_
      first | refine wpM.condD rfl (fun h4 => ?_) (fun h4 => ?_) | refine wpM.condB rfl (fun h4 => ?_) (fun h4 => ?_)
      ·
        refine wpM.seq ?_
        refine wpM.region ?_
        refine LM.val (ov_move rfl) ?_
        refine LM.val (ov_move rfl) ?_
        refine LM.val (ov_len Try.underlying61 rfl) ?_
        refine LM.single Try.underlying26 Try.sizeOf3 Try.zeroValue3 rfl rfl rfl rfl rfl (fun b63 hb63 => ?_)
        refine LM.app Try.underlying26 Try.typeInfo3 rfl rfl rfl rfl rfl rfl rfl (by assumption) (by rfl) (by intro _; rfl) (by intro _ u hu; simp [fI] at hu; (repeat (first | (rcases hu with rfl | hu) | subst hu | rfl))) (by first | exact Nat.le_refl _ | omega) (fun p hp hlt => absurd hlt (Nat.not_lt_of_le (Sl.ge (by assumption) p hp))) (by first | omega | (unfold maxLen; omega)) (by simp only [Try.t3]; omega) (fun ad64 n64 cap64 m64 hn64 hs64 hin64 => ?_)
        refine LM.val (ov_assign rfl) ?_
        refine LM.nil ?_
        refine QM.sub (e' := [(1, _), (2, _), (7, _), (8, _), (10, _), (11, _), (16, _), (17, _), (18, _)]) ⟨rfl, rfl, rfl, rfl, rfl, rfl, rfl, rfl, rfl, trivial⟩ ?_
        refine QM.then ?_
        refine wpM.region ?_
        refine LM.val (ov_move rfl) ?_
        refine LM.val (ov_field Try.underlying97 rfl Try.sizeOf3 rfl (k := 2) rfl rfl) ?_
        first | refine LM.rd (om_ld Try.isAgg3 rfl rfl) ?_
        refine LM.val (ov_field Try.underlying97 rfl Try.sizeOf3 rfl (k := 3) rfl rfl) ?_
        first | refine LM.rd (om_ld Try.isAgg3 rfl rfl) ?_
        refine LM.val (ov_field Try.underlying97 rfl Try.sizeOf22 rfl (k := 0) rfl rfl) ?_
        first | refine LM.rd (om_ld Try.isAgg22 rfl rfl) ?_
        refine LM.val (ov_move rfl) ?_
        refine LM.val (ov_eql rfl rfl) ?_
        refine LM.val (ov_move rfl) ?_
        first | refine LM.splitD (t := 74) rfl (fun h5 => ?_) (fun h5 => ?_) | refine LM.splitB (t := 74) rfl (fun h5 => ?_) (fun h5 => ?_)
        ·
          refine LM.strip (t := 74) rfl rfl rfl ?_
          refine LM.val (ov_field Try.underlying97 rfl Try.sizeOf3 rfl (k := 4) rfl rfl) ?_
          refine LM.strip (t := 74) rfl rfl rfl ?_
          first | refine LM.rd (om_ld Try.isAgg3 rfl rfl) ?_
          refine LM.strip (t := 74) rfl rfl rfl ?_
          refine LM.val (ov_eql rfl rfl) ?_
          refine LM.strip (t := 74) rfl rfl rfl ?_
          refine LM.val (ov_move rfl) ?_
          first | refine LM.splitD (t := 78) rfl (fun h6 => ?_) (fun h6 => ?_) | refine LM.splitB (t := 78) rfl (fun h6 => ?_) (fun h6 => ?_)
          ·
            refine LM.drop (t := 78) rfl rfl rfl ?_
            refine LM.drop (t := 78) rfl rfl rfl ?_
            refine LM.drop (t := 78) rfl rfl rfl ?_
            refine LM.strip (t := 74) rfl rfl rfl ?_
            refine LM.val (ov_pickT rfl rfl) ?_
            refine LM.val (ov_pickT rfl rfl) ?_
            refine LM.val (ov_build (cs := #[_, _, _, _, _, _]) rfl (by first | rfl | kernel_rfl)) ?_
            refine LM.single Try.underlying61 Try.sizeOf72 Try.zeroValue72 rfl rfl rfl rfl rfl (fun b85 hb85 => ?_)
            refine LM.app (a := mkT 4 e) Try.underlying61 Try.typeInfo72 rfl rfl rfl rfl rfl rfl rfl (by assumption) (by first | rfl | (have hq : (mkT 4 e).read = true := (by simp [mkT, h6]); unfold fT; rw [hq]; rfl) | (have hq : (mkT 4 e).read = decide (e.n = 3) := (by simp [mkT, h6]); unfold fT; rw [hq]; rfl)) (by intro _; rfl) (by intro _ u hu; simp [fT] at hu; (repeat (first | (rcases hu with rfl | hu) | subst hu | rfl))) (by first | exact Nat.le_refl _ | omega) (fun p hp hlt => absurd hlt (Nat.not_lt_of_le (Sl.ge (by assumption) p hp))) (by first | omega | (unfold maxLen; omega)) (by simp only [Try.t72]; omega) (fun ad86 n86 cap86 m86 hn86 hs86 hin86 => ?_)
            refine LM.val (ov_assign rfl) ?_
            refine LM.nil ?_
            refine QM.sub (e' := [(1, _), (2, _), (7, _), (8, _), (10, _), (11, _), (16, _), (17, _), (18, _)]) ⟨rfl, rfl, rfl, rfl, rfl, rfl, rfl, rfl, rfl, trivial⟩ ?_
            refine QM.then ?_
            refine wpM.region ?_
            refine LM.val (ov_move rfl) ?_
            refine LM.val (ov_field Try.underlying97 rfl Try.sizeOf3 rfl (k := 2) rfl rfl) ?_
            first | refine LM.rd (om_ld Try.isAgg3 rfl rfl) ?_
            refine LM.val (ov_move rfl) ?_
            refine LM.mU Try.underlying108 Try.underlying3 rfl rfl rfl (by assumption) (fun hlt => absurd hlt (by omega)) (fun esu1 clu hesu1 => ?_)
            refine LM.nil ?_
            refine QM.sub (e' := [(1, _), (2, _), (7, _), (8, _), (16, _), (17, _), (18, _)]) ⟨rfl, rfl, rfl, rfl, rfl, rfl, rfl, trivial⟩ ?_
            refine QM.block_normal ?_
            refine QM.then ?_
            refine wpM.region ?_
            refine LM.val (ov_add64 rfl rfl (by omega)) ?_
            refine LM.val (ov_move rfl) ?_
            refine LM.nil ?_
            refine QM.sub (e' := [(1, _), (2, _), (7, _), (8, _), (16, _), (17, _), (18, _)]) ⟨rfl, rfl, rfl, rfl, rfl, rfl, rfl, trivial⟩ ?_
            -- again1: h1+ h2- h4+ h5+ h6+
            have hK : ∀ x, x ≠ e.task → opn (out.map (fun s => stepT holdEnd s e) ++ [mkT 4 e]) x = opn out x := (fun x hx => by rw [opn_snoc, opn_step, if_neg hx, if_neg (by simp [isOpn, mkT, Ne.symm hx]), List.append_nil]); have hKe : opn (out.map (fun s => stepT holdEnd s e) ++ [mkT 4 e]) e.task = st ++ [(no : Int)] := (by rw [opn_snoc, opn_step, if_pos rfl, if_pos (by simp [isOpn, mkT]), List.length_map, hKf, hno]); obtain ⟨mm', hpm, how'⟩ := hup (opn (out.map (fun s => stepT holdEnd s e) ++ [mkT 4 e])) _ _ (by rw [hKe]; exact hs64) hK; have hnew : passT holdEnd 4 (evs.take (k + 1)) = out.map (fun s => stepT holdEnd s e) ++ [mkT 4 e] := (by rw [passT_take holdEnd 4 (l := evs) (k := k) (by omega), hout, ← he]; unfold stepAll; rw [if_pos (by omega)]); rw [hmid] at hs86; refine QM.repl (m := m64 ++ m2) hpm.symm ?_
            refine QM.againK (k + 1, ad86, n86, cap86, m86, esu1, clu, aput l e.task (.slice ad64 n64 cap64), mm') ⟨(by first | rfl | exact lk rfl (by congr 1; omega) | exact lk rfl (by simp)), (by first | rfl | exact lk rfl (by congr 1; omega) | exact lk rfl (by simp)), rfl, rfl, rfl, rfl, rfl, trivial⟩ (by (repeat' (first | exact SubM.nil _ | refine SubM.cons rfl ?_ | refine SubM.app ?_))) (fun _ h => h) ?_ ?_
            · exact ⟨by omega, by rw [hnew]; simp; omega, by rw [hnew]; exact hs86, hesu1, by rw [hnew]; exact how'⟩
            · first | omega | (dsimp only; omega)
          ·
            refine LM.strip (t := 78) rfl rfl rfl ?_
            refine LM.val (ov_field Try.underlying97 rfl Try.sizeOf3 rfl (k := 4) rfl rfl) ?_
            refine LM.strip (t := 78) rfl rfl rfl ?_
            first | refine LM.rd (om_ld Try.isAgg3 rfl rfl) ?_
            refine LM.strip (t := 78) rfl rfl rfl ?_
            refine LM.val (ov_eql rfl rfl) ?_
            refine LM.strip (t := 74) rfl rfl rfl ?_
            refine LM.val (ov_pickF rfl rfl) ?_
            refine LM.val (ov_pickT rfl rfl) ?_
            refine LM.val (ov_build (cs := #[_, _, _, _, _, _]) rfl (by first | rfl | kernel_rfl)) ?_
            refine LM.single Try.underlying61 Try.sizeOf72 Try.zeroValue72 rfl rfl rfl rfl rfl (fun b85 hb85 => ?_)
            refine LM.app (a := mkT 4 e) Try.underlying61 Try.typeInfo72 rfl rfl rfl rfl rfl rfl rfl (by assumption) (by first | rfl | (have hq : (mkT 4 e).read = true := (by simp [mkT, h6]); unfold fT; rw [hq]; rfl) | (have hq : (mkT 4 e).read = decide (e.n = 3) := (by simp [mkT, h6]); unfold fT; rw [hq]; rfl)) (by intro _; rfl) (by intro _ u hu; simp [fT] at hu; (repeat (first | (rcases hu with rfl | hu) | subst hu | rfl))) (by first | exact Nat.le_refl _ | omega) (fun p hp hlt => absurd hlt (Nat.not_lt_of_le (Sl.ge (by assumption) p hp))) (by first | omega | (unfold maxLen; omega)) (by simp only [Try.t72]; omega) (fun ad86 n86 cap86 m86 hn86 hs86 hin86 => ?_)
            refine LM.val (ov_assign rfl) ?_
            refine LM.nil ?_
            refine QM.sub (e' := [(1, _), (2, _), (7, _), (8, _), (10, _), (11, _), (16, _), (17, _), (18, _)]) ⟨rfl, rfl, rfl, rfl, rfl, rfl, rfl, rfl, rfl, trivial⟩ ?_
            refine QM.then ?_
            refine wpM.region ?_
            refine LM.val (ov_move rfl) ?_
            refine LM.val (ov_field Try.underlying97 rfl Try.sizeOf3 rfl (k := 2) rfl rfl) ?_
            first | refine LM.rd (om_ld Try.isAgg3 rfl rfl) ?_
            refine LM.val (ov_move rfl) ?_
            refine LM.mU Try.underlying108 Try.underlying3 rfl rfl rfl (by assumption) (fun hlt => absurd hlt (by omega)) (fun esu1 clu hesu1 => ?_)
            refine LM.nil ?_
            refine QM.sub (e' := [(1, _), (2, _), (7, _), (8, _), (16, _), (17, _), (18, _)]) ⟨rfl, rfl, rfl, rfl, rfl, rfl, rfl, trivial⟩ ?_
            refine QM.block_normal ?_
            refine QM.then ?_
            refine wpM.region ?_
            refine LM.val (ov_add64 rfl rfl (by omega)) ?_
            refine LM.val (ov_move rfl) ?_
            refine LM.nil ?_
            refine QM.sub (e' := [(1, _), (2, _), (7, _), (8, _), (16, _), (17, _), (18, _)]) ⟨rfl, rfl, rfl, rfl, rfl, rfl, rfl, trivial⟩ ?_
            -- again2: h1+ h2- h4+ h5+ h6-
            have hK : ∀ x, x ≠ e.task → opn (out.map (fun s => stepT holdEnd s e) ++ [mkT 4 e]) x = opn out x := (fun x hx => by rw [opn_snoc, opn_step, if_neg hx, if_neg (by simp [isOpn, mkT, Ne.symm hx]), List.append_nil]); have hKe : opn (out.map (fun s => stepT holdEnd s e) ++ [mkT 4 e]) e.task = st ++ [(no : Int)] := (by rw [opn_snoc, opn_step, if_pos rfl, if_pos (by simp [isOpn, mkT]), List.length_map, hKf, hno]); obtain ⟨mm', hpm, how'⟩ := hup (opn (out.map (fun s => stepT holdEnd s e) ++ [mkT 4 e])) _ _ (by rw [hKe]; exact hs64) hK; have hnew : passT holdEnd 4 (evs.take (k + 1)) = out.map (fun s => stepT holdEnd s e) ++ [mkT 4 e] := (by rw [passT_take holdEnd 4 (l := evs) (k := k) (by omega), hout, ← he]; unfold stepAll; rw [if_pos (by omega)]); rw [hmid] at hs86; refine QM.repl (m := m64 ++ m2) hpm.symm ?_
            refine QM.againK (k + 1, ad86, n86, cap86, m86, esu1, clu, aput l e.task (.slice ad64 n64 cap64), mm') ⟨(by first | rfl | exact lk rfl (by congr 1; omega) | exact lk rfl (by simp)), (by first | rfl | exact lk rfl (by congr 1; omega) | exact lk rfl (by simp)), rfl, rfl, rfl, rfl, rfl, trivial⟩ (by (repeat' (first | exact SubM.nil _ | refine SubM.cons rfl ?_ | refine SubM.app ?_))) (fun _ h => h) ?_ ?_
            · exact ⟨by omega, by rw [hnew]; simp; omega, by rw [hnew]; exact hs86, hesu1, by rw [hnew]; exact how'⟩
            · first | omega | (dsimp only; omega)
        ·
          exact absurd h5 (by decide)
      ·
        refine wpM.skip ?_
        refine QM.then ?_
        refine wpM.region ?_
        refine LM.val (ov_move rfl) ?_
        refine LM.val (ov_field Try.underlying97 rfl Try.sizeOf3 rfl (k := 2) rfl rfl) ?_
        first | refine LM.rd (om_ld Try.isAgg3 rfl rfl) ?_
        refine LM.val (ov_move rfl) ?_
        refine LM.mU Try.underlying108 Try.underlying3 rfl rfl rfl (by assumption) (fun hlt => absurd hlt (by omega)) (fun esu1 clu hesu1 => ?_)
        refine LM.nil ?_
        refine QM.sub (e' := [(1, _), (2, _), (7, _), (8, _), (16, _), (17, _), (18, _)]) ⟨rfl, rfl, rfl, rfl, rfl, rfl, rfl, trivial⟩ ?_
        refine QM.block_normal ?_
        refine QM.then ?_
        refine wpM.region ?_
        refine LM.val (ov_add64 rfl rfl (by omega)) ?_
        refine LM.val (ov_move rfl) ?_
        refine LM.nil ?_
        refine QM.sub (e' := [(1, _), (2, _), (7, _), (8, _), (16, _), (17, _), (18, _)]) ⟨rfl, rfl, rfl, rfl, rfl, rfl, rfl, trivial⟩ ?_
        -- again3: h1+ h2- h4-
        have hK : ∀ x, x ≠ e.task → opn (out.map (fun s => stepT holdEnd s e)) x = opn out x := (fun x hx => by rw [opn_step, if_neg hx]); have hKe : opn (out.map (fun s => stepT holdEnd s e)) e.task = st := (by rw [opn_step, if_pos rfl, hKf]); obtain ⟨mm', hpm, how'⟩ := hup (opn (out.map (fun s => stepT holdEnd s e))) _ _ (by rw [hKe]; exact hst) hK; have hnew : passT holdEnd 4 (evs.take (k + 1)) = out.map (fun s => stepT holdEnd s e) := (by rw [passT_take holdEnd 4 (l := evs) (k := k) (by omega), hout, ← he]; unfold stepAll; rw [if_neg (by omega), List.append_nil]); rw [hmid] at hso2; refine QM.repl (m := ms ++ m2) hpm.symm ?_
        refine QM.againK (k + 1, ado, no, capo, mo', esu1, clu, aput l e.task (.slice ads ns caps), mm') ⟨(by first | rfl | exact lk rfl (by congr 1; omega) | exact lk rfl (by simp)), (by first | rfl | exact lk rfl (by congr 1; omega) | exact lk rfl (by simp)), rfl, rfl, rfl, rfl, rfl, trivial⟩ (by (repeat' (first | exact SubM.nil _ | refine SubM.cons rfl ?_ | refine SubM.app ?_))) (fun _ h => h) ?_ ?_
        · exact ⟨by omega, by rw [hnew]; simp; omega, by rw [hnew]; exact hso2, hesu1, by rw [hnew]; exact how'⟩
        · first | omega | (dsimp only; omega)
  ·
    refine wpM.exit ?_
    refine QM.then_exit ?_
    refine QM.then_exit ?_
    refine QM.block_hit ?_
    refine QM.then ?_
    refine wpM.seq ?_
    refine wpM.region ?_
    refine LM.val (ov_move rfl) ?_
    refine LM.val (ov_assign rfl) ?_
    refine LM.nil ?_
    refine QM.sub (e' := [(6, _)]) ⟨rfl, trivial⟩ ?_
    refine QM.then ?_
    refine wpM.ret ?_
    refine QM.leave (.inl rfl) [.tmp 6] Try.results62 rfl ?_
    intro w' hm' hc' hg'
    -- leaf 1: h1-
    have hkl : k = evs.length := (by omega); subst hkl; rw [List.take_length] at hout; subst hout; exact ⟨hc', mo, hno ▸ hso, hm'.pick mo⟩

end Go.Eng

