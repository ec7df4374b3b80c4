/- The walks of an audit: which stays are beside one another, which is longest, which go on. No condition. -/
import Derived.Test.YtpemcncnehhgfaaStays2
import Derived.Test.YtpemcncnehhgfaaAskLaw
set_option linter.unusedVariables false
set_option linter.unusedSimpArgs false
namespace Go.Eng
open Go Go.Proofs Go.RowKit

set_option maxRecDepth 100000 in
theorem Waits_spec {evs : List Ev} {ad : Option Addr} {n cap : Nat} (w : World) (hn : n = evs.length) (hl : Sr fE 5 evs (.slice ad n cap) w) (hx2 : evs.length ≤ 1000000000000) : Ret Try.prog 39 #[.slice ad n cap] w (New fT 72 6 (eachT waitEnd 6 evs) w) := by
  refine Ret.enterM (l := [.slice ad n cap]) Try.func39 rfl Try.ntmps39 rfl ([]) (no) (Mem.nil w) ?_
  refine wpM.seq ?_
  refine wpM.region ?_
  refine LM.val (ov_assign rfl) ?_
  refine LM.nil ?_
  refine QM.sub (e' := [(0, _)]) ⟨rfl, trivial⟩ ?_
  refine QM.then ?_
  refine wpM.seq ?_
  refine wpM.region ?_
  refine LM.val (ov_move rfl) ?_
  refine LM.cS (oc_call (enters_fn Try.func62 (by kernel_rfl) rfl) rfl) (fun w hm hc hg => (passT_eq waitEnd 6 evs) ▸ stays_waitEnd w hn (hl.ext hc) (by unfold maxLen; omega) hx2) (fun ad4 n4 cap4 m4 hn4 hs4 => ?_)
  refine LM.val (ov_assign rfl) ?_
  refine LM.nil ?_
  refine QM.sub (e' := [(2, _)]) ⟨rfl, trivial⟩ ?_
  refine QM.then ?_
  refine wpM.ret ?_
  refine QM.leave (.inl rfl) [.tmp 2] Try.results39 rfl ?_
  intro w' hm' hc' hg'
  -- leaf 1: 
  exact ⟨hc', _, hn4 ▸ hs4, hm'.pick m4⟩

set_option maxRecDepth 100000 in
theorem Holds_spec {evs : List Ev} {ad : Option Addr} {n cap : Nat} (w : World) (hn : n = evs.length) (hl : Sr fE 5 evs (.slice ad n cap) w) (hx2 : evs.length ≤ 1000000000000) : Ret Try.prog 41 #[.slice ad n cap] w (New fT 72 6 (eachT holdEnd 4 evs) w) := by
  refine Ret.enterM (l := [.slice ad n cap]) Try.func41 rfl Try.ntmps41 rfl ([]) (no) (Mem.nil w) ?_
  refine wpM.seq ?_
  refine wpM.region ?_
  refine LM.val (ov_assign rfl) ?_
  refine LM.nil ?_
  refine QM.sub (e' := [(0, _)]) ⟨rfl, trivial⟩ ?_
  refine QM.then ?_
  refine wpM.seq ?_
  refine wpM.region ?_
  refine LM.val (ov_move rfl) ?_
  refine LM.cS (oc_call (enters_fn Try.func62 (by kernel_rfl) rfl) rfl) (fun w hm hc hg => (passT_eq holdEnd 4 evs) ▸ stays_holdEnd w hn (hl.ext hc) (by unfold maxLen; omega) hx2) (fun ad4 n4 cap4 m4 hn4 hs4 => ?_)
  refine LM.val (ov_assign rfl) ?_
  refine LM.nil ?_
  refine QM.sub (e' := [(2, _)]) ⟨rfl, trivial⟩ ?_
  refine QM.then ?_
  refine wpM.ret ?_
  refine QM.leave (.inl rfl) [.tmp 2] Try.results41 rfl ?_
  intro w' hm' hc' hg'
  -- leaf 1: 
  exact ⟨hc', _, hn4 ▸ hs4, hm'.pick m4⟩

set_option maxRecDepth 100000 in
set_option maxHeartbeats 1000000 in
theorem beside_spec {l : List St} {ad : Option Addr} {n cap : Nat} (w : World) (hn : n = l.length) (hl : Sr fT 6 l (.slice ad n cap) w) (hx2 : l.length ≤ 1000000000000) : Ret Try.prog 42 #[.slice ad n cap] w (fun v w' => v = besV (bOf l) ∧ Ext w w') := by
  refine Ret.enterM (l := [.slice ad n cap]) Try.func42 rfl Try.ntmps42 rfl ([]) (no) (Mem.nil w) ?_
  refine wpM.seq ?_
  refine wpM.region ?_
  refine LM.val (ov_assign rfl) ?_
  refine LM.val (ov_assign rfl) ?_
  refine LM.val (ov_assign rfl) ?_
  refine LM.nil ?_
  refine QM.sub (e' := [(0, _)]) ⟨rfl, trivial⟩ ?_
  refine QM.then ?_
  refine wpM.seq ?_
  refine wpM.seq ?_
  refine wpM.region ?_
  refine LM.val (ov_move rfl) ?_
  refine LM.val (ov_len Try.underlying61 rfl) ?_
  refine LM.val (ov_move rfl) ?_
  refine LM.nil ?_
  refine QM.sub (e' := [(0, _), (9, _), (10, _), (11, _)]) ⟨rfl, rfl, rfl, rfl, trivial⟩ ?_
  refine QM.then ?_
  refine wpM.block ?_
  refine wpM.loopK0 (α := Nat) (fun k => [(11, .int .i64 (k : Nat))]) [(0, _), (9, _), (10, _)] (fun k => []) (fun k => k ≤ l.length ∧ bOut l k (l.length - k) = bOf l) (fun k => l.length - k) (0) ⟨(by first | rfl | exact lk rfl (by congr 1; omega) | exact lk rfl (by simp)), rfl, rfl, rfl, trivial⟩ (by (repeat' (first | exact SubM.nil _ | refine SubM.cons rfl ?_ | refine SubM.app ?_))) ⟨Nat.zero_le _, rfl⟩ ?_
  rintro k ⟨hk, ho⟩
  change wpM _ _ _ _ _ _ _ ([]) _ _ _
  refine wpM.seq ?_
  refine wpM.region ?_
  refine LM.val (ov_lss rfl rfl) ?_
  refine LM.nil ?_
  refine QM.sub (e' := [(0, _), (9, _), (10, _), (11, _), (12, _)]) ⟨rfl, rfl, rfl, rfl, rfl, trivial⟩ ?_
  refine QM.then ?_
  refine wpM.seq ?_
  first | refine wpM.condD rfl (fun h1 => ?_) (fun h1 => ?_) | refine wpM.condB rfl (fun h1 => ?_) (fun h1 => ?_)
  ·
    refine wpM.skip ?_
    refine QM.then ?_
    refine wpM.seq ?_
    refine wpM.block ?_
    refine wpM.seq ?_
    refine wpM.region ?_
    refine LM.val (ov_move rfl) ?_
    first | refine LM.val (ov_idxSN (by first | exact Sr.spt (by assumption) | exact Sl.spt (by assumption)) Try.underlying61 Try.sizeOf72 rfl rfl (by omega)) ?_ | refine LM.val (ov_idxS (by first | exact Sr.spt (by assumption) | exact Sl.spt (by assumption)) Try.underlying61 Try.sizeOf72 rfl rfl (by omega)) ?_ | refine LM.val (ov_idx Try.underlying61 Try.sizeOf72 rfl rfl (by omega)) ?_
    first | refine LM.rd (om_slA (by assumption) (by intro _; rfl) Try.isAgg72 Try.sizeOf72 rfl (by exact getq default (by first | omega | (simp only [List.length_set, List.length_append, List.length_cons, List.length_nil]; omega)))) ?_ | refine LM.rdC (om_srEA (by assumption) (by intro _; rfl) Try.isAgg72 Try.sizeOf72 rfl (by exact getq default (by first | omega | (simp only [List.length_set, List.length_append, List.length_cons, List.length_nil]; omega))) id) ?_ | refine LM.rd (om_ldW Try.isAgg72 Try.sizeOf72 rfl rfl) ?_ | refine LM.rd (om_ldA Try.isAgg72 Try.sizeOf72 rfl (vs := [_, _, _, _, _, _]) rfl ⟨rfl, rfl, rfl, rfl, rfl, rfl, trivial⟩) ?_
    refine LM.alloc Try.zeroValue72 rfl (fun b6 hb6 => ?_)
    refine LM.val (ov_assign rfl) ?_
    first | refine LM.stW Try.sizeOf72 rfl rfl rfl rfl (by first | rfl | decide | (simp; done)) (fun hlt => absurd hlt (by omega)) ?_ | refine LM.st Try.sizeOf72 rfl rfl rfl (by first | decide | exact Nat.le_of_ble_eq_true rfl | (simp; done) | (simp; omega)) rfl (fun hlt => absurd hlt (by omega)) ?_
    refine LM.nil ?_
    refine QM.sub (e' := [(0, _), (5, _), (6, _), (9, _), (10, _), (11, _)]) ⟨rfl, rfl, rfl, rfl, rfl, rfl, trivial⟩ ?_
    refine QM.then ?_
    refine wpM.seq ?_
    refine wpM.region ?_
    refine LM.val (ov_move rfl) ?_
    refine LM.val (ov_move rfl) ?_
    have hsk := Sr.take (k := k) hl (by omega)
    refine LM.val (ov_subHi Try.underlying61 Try.sizeOf72 rfl rfl (by omega) (by have := hl.open; omega)) ?_
    refine LM.val (ov_len Try.underlying61 rfl) ?_
    refine LM.val (ov_move rfl) ?_
    refine LM.nil ?_
    refine QM.sub (e' := [(0, _), (5, _), (6, _), (9, _), (10, _), (11, _), (18, _), (19, _), (20, _)]) ⟨rfl, rfl, rfl, rfl, rfl, rfl, rfl, rfl, rfl, trivial⟩ ?_
    refine QM.then ?_
    refine wpM.block ?_
    refine wpM.loopK0 (α := Nat) (fun i => [(20, .int .i64 (i : Nat))]) [(0, _), (5, _), (6, _), (9, _), (10, _), (11, _), (18, _), (19, _)] (fun i => (b6, .cells (fT (l.getD k default)).toArray 72 (0, 0)) :: []) (fun i => i ≤ k ∧ bIn l (l.getD k default) i (k - i) = bIn l (l.getD k default) 0 k) (fun i => k - i) (0) ⟨(by first | rfl | exact lk rfl (by congr 1; omega) | exact lk rfl (by simp)), rfl, rfl, rfl, rfl, rfl, rfl, rfl, rfl, trivial⟩ (by (repeat' (first | exact SubM.nil _ | refine SubM.cons rfl ?_ | refine SubM.app ?_))) ⟨Nat.zero_le _, rfl⟩ ?_
    rintro i ⟨hi, hq⟩
    change wpM _ _ _ _ _ _ _ ((b6, .cells (fT (l.getD k default)).toArray 72 (0, 0)) :: []) _ _ _
    refine wpM.seq ?_
    refine wpM.region ?_
    refine LM.val (ov_lss rfl rfl) ?_
    refine LM.nil ?_
    refine QM.sub (e' := [(0, _), (5, _), (6, _), (9, _), (10, _), (11, _), (18, _), (19, _), (20, _), (21, _)]) ⟨rfl, rfl, rfl, rfl, rfl, rfl, rfl, rfl, rfl, rfl, trivial⟩ ?_
    refine QM.then ?_
    refine wpM.seq ?_
    first | refine wpM.condD rfl (fun h2 => ?_) (fun h2 => ?_) | refine wpM.condB rfl (fun h2 => ?_) (fun h2 => ?_)
    ·
      refine wpM.skip ?_
      refine QM.then ?_
      refine wpM.seq ?_
      refine wpM.block ?_
      refine wpM.seq ?_
      refine wpM.region ?_
      refine LM.val (ov_move rfl) ?_
      first | refine LM.val (ov_idxSN (by first | exact Sr.spt (by assumption) | exact Sl.spt (by assumption)) Try.underlying61 Try.sizeOf72 rfl rfl (by omega)) ?_ | refine LM.val (ov_idxS (by first | exact Sr.spt (by assumption) | exact Sl.spt (by assumption)) Try.underlying61 Try.sizeOf72 rfl rfl (by omega)) ?_ | refine LM.val (ov_idx Try.underlying61 Try.sizeOf72 rfl rfl (by omega)) ?_
      have htg : (l.take k).getD i default = l.getD i default := (by rw [List.getD_eq_getElem?_getD, List.getD_eq_getElem?_getD, List.getElem?_take_of_lt (by omega)])
      refine LM.rdC (om_srEA hl (by intro _; rfl) Try.isAgg72 Try.sizeOf72 rfl (getq default (show i < l.length by omega)) id) ?_
      refine LM.alloc Try.zeroValue72 rfl (fun b8 hb8 => ?_)
      refine LM.val (ov_assign rfl) ?_
      first | refine LM.stW Try.sizeOf72 rfl rfl rfl rfl (by first | rfl | decide | (simp; done)) (fun hlt => absurd hlt (by omega)) ?_ | refine LM.st Try.sizeOf72 rfl rfl rfl (by first | decide | exact Nat.le_of_ble_eq_true rfl | (simp; done) | (simp; omega)) rfl (fun hlt => absurd hlt (by omega)) ?_
      refine LM.nil ?_
      refine QM.sub (e' := [(0, _), (5, _), (6, _), (7, _), (8, _), (9, _), (10, _), (11, _), (18, _), (19, _), (20, _)]) ⟨rfl, rfl, rfl, rfl, rfl, rfl, rfl, rfl, rfl, rfl, rfl, trivial⟩ ?_
      refine QM.then ?_
      refine wpM.seq ?_
      refine wpM.joinK (α := Bool) (fun b => [(55, .bool b)]) [(0, _), (5, _), (6, _), (7, _), (9, _), (10, _), (11, _), (18, _), (19, _), (20, _)] (fun b => (b8, .cells (fT (l.getD i default)).toArray 72 (0, 0)) :: (b6, .cells (fT (l.getD k default)).toArray 72 (0, 0)) :: []) (fun b => b = bes (l.getD i default) (l.getD k default)) ⟨rfl, rfl, rfl, rfl, rfl, rfl, rfl, rfl, rfl, rfl, trivial⟩ ?_ ?_
      ·
        refine wpM.region ?_
        refine LM.val (ov_field Try.underlying72 rfl Try.sizeOf3 rfl (k := 1) rfl rfl) ?_
        first | refine LM.rd (om_ld Try.isAgg3 rfl rfl) ?_
        refine LM.val (ov_field Try.underlying72 rfl Try.sizeOf3 rfl (k := 1) rfl rfl) ?_
        first | refine LM.rd (om_ld Try.isAgg3 rfl rfl) ?_
        refine LM.val (ov_eql rfl rfl) ?_
        refine LM.val (ov_move rfl) ?_
        first | refine LM.splitD (t := 30) rfl (fun h3 => ?_) (fun h3 => ?_) | refine LM.splitB (t := 30) rfl (fun h3 => ?_) (fun h3 => ?_)
        ·
          refine LM.strip (t := 30) rfl rfl rfl ?_
          refine LM.val (ov_field Try.underlying72 rfl Try.sizeOf3 rfl (k := 0) rfl rfl) ?_
          refine LM.strip (t := 30) rfl rfl rfl ?_
          first | refine LM.rd (om_ld Try.isAgg3 rfl rfl) ?_
          refine LM.strip (t := 30) rfl rfl rfl ?_
          refine LM.val (ov_field Try.underlying72 rfl Try.sizeOf3 rfl (k := 0) rfl rfl) ?_
          refine LM.strip (t := 30) rfl rfl rfl ?_
          first | refine LM.rd (om_ld Try.isAgg3 rfl rfl) ?_
          refine LM.strip (t := 30) rfl rfl rfl ?_
          refine LM.val (ov_neq rfl rfl) ?_
          refine LM.val (ov_pickT rfl rfl) ?_
          refine LM.val (ov_move rfl) ?_
          first | refine LM.splitD (t := 37) rfl (fun h4 => ?_) (fun h4 => ?_) | refine LM.splitB (t := 37) rfl (fun h4 => ?_) (fun h4 => ?_)
          ·
            refine LM.strip (t := 37) rfl rfl rfl ?_
            refine LM.val (ov_field Try.underlying72 rfl Try.sizeOf4 rfl (k := 5) rfl rfl) ?_
            refine LM.strip (t := 37) rfl rfl rfl ?_
            first | refine LM.rd (om_ld Try.isAgg4 rfl rfl) ?_
            refine LM.strip (t := 37) rfl rfl rfl ?_
            refine LM.val (ov_move rfl) ?_
            first | refine LM.splitD (t := 40) rfl (fun h5 => ?_) (fun h5 => ?_) | refine LM.splitB (t := 40) rfl (fun h5 => ?_) (fun h5 => ?_)
            ·
              refine LM.strip (t := 40) rfl rfl rfl ?_
              refine LM.val (ov_field Try.underlying72 rfl Try.sizeOf4 rfl (k := 5) rfl rfl) ?_
              refine LM.strip (t := 40) rfl rfl rfl ?_
              first | refine LM.rd (om_ld Try.isAgg4 rfl rfl) ?_
              refine LM.strip (t := 37) rfl rfl rfl ?_
              refine LM.val (ov_pickT rfl rfl) ?_
              refine LM.strip (t := 37) rfl rfl rfl ?_
              first | refine LM.val (ov_notD rfl) ?_ | refine LM.val (ov_not rfl) ?_
              refine LM.val (ov_pickT rfl rfl) ?_
              refine LM.val (ov_move rfl) ?_
              first | refine LM.splitD (t := 46) rfl (fun h6 => ?_) (fun h6 => ?_) | refine LM.splitB (t := 46) rfl (fun h6 => ?_) (fun h6 => ?_)
              ·
                refine LM.strip (t := 46) rfl rfl rfl ?_
                first | refine LM.rd (om_ldW Try.isAgg72 Try.sizeOf72 rfl rfl) ?_ | refine LM.rd (om_ldA Try.isAgg72 Try.sizeOf72 rfl (vs := [_, _, _, _, _, _]) rfl ⟨rfl, rfl, rfl, rfl, rfl, rfl, trivial⟩) ?_
                refine LM.strip (t := 46) rfl rfl rfl ?_
                first | refine LM.rd (om_ldW Try.isAgg72 Try.sizeOf72 rfl rfl) ?_ | refine LM.rd (om_ldA Try.isAgg72 Try.sizeOf72 rfl (vs := [_, _, _, _, _, _]) rfl ⟨rfl, rfl, rfl, rfl, rfl, rfl, trivial⟩) ?_
                refine LM.strip (t := 46) rfl rfl rfl ?_
                refine LM.callE (oc_call (enters_fn Try.func66 (by kernel_rfl) rfl) rfl) (fun w hm hc hg => meets_spec _ _ w) ?_
                refine LM.val (ov_pickT rfl rfl) ?_
                refine LM.val (ov_move rfl) ?_
                first | refine LM.splitD (t := 51) rfl (fun h7 => ?_) (fun h7 => ?_) | refine LM.splitB (t := 51) rfl (fun h7 => ?_) (fun h7 => ?_)
                ·
                  refine LM.strip (t := 51) rfl rfl rfl ?_
                  first | refine LM.rd (om_ldW Try.isAgg72 Try.sizeOf72 rfl rfl) ?_ | refine LM.rd (om_ldA Try.isAgg72 Try.sizeOf72 rfl (vs := [_, _, _, _, _, _]) rfl ⟨rfl, rfl, rfl, rfl, rfl, rfl, trivial⟩) ?_
                  refine LM.strip (t := 51) rfl rfl rfl ?_
                  first | refine LM.rd (om_ldW Try.isAgg72 Try.sizeOf72 rfl rfl) ?_ | refine LM.rd (om_ldA Try.isAgg72 Try.sizeOf72 rfl (vs := [_, _, _, _, _, _]) rfl ⟨rfl, rfl, rfl, rfl, rfl, rfl, trivial⟩) ?_
                  refine LM.strip (t := 51) rfl rfl rfl ?_
                  refine LM.callE (oc_call (enters_fn Try.func66 (by kernel_rfl) rfl) rfl) (fun w hm hc hg => meets_spec _ _ w) ?_
                  refine LM.val (ov_pickT rfl rfl) ?_
                  refine LM.nil ?_
                  refine QM.sub (e' := [(0, _), (5, _), (6, _), (7, _), (9, _), (10, _), (11, _), (18, _), (19, _), (20, _), (55, _)]) ⟨rfl, rfl, rfl, rfl, rfl, rfl, rfl, rfl, rfl, rfl, rfl, trivial⟩ ?_
                  -- meet1: h1+ h2+ h3+ h4+ h5+ h6+ h7+
                  refine QM.meetK (_) ⟨(by first | rfl | exact lk rfl (by congr 1; omega) | exact lk rfl (by simp)), rfl, rfl, rfl, rfl, rfl, rfl, rfl, rfl, rfl, rfl, trivial⟩ (by (repeat' (first | exact SubM.nil _ | refine SubM.cons rfl ?_ | refine SubM.app ?_))) ?_
                  · simp only [bes, h1, h2, h3, h4, h5, h6, h7, decide_true, decide_false, Bool.true_and, Bool.false_and, Bool.and_true, Bool.and_false, Bool.not_true, Bool.not_false, Bool.true_or, Bool.false_or, Bool.or_true, Bool.or_false, ne_eq, not_true_eq_false, not_false_eq_true, Bool.and_self]
                ·
                  refine LM.drop (t := 51) rfl rfl rfl ?_
                  refine LM.drop (t := 51) rfl rfl rfl ?_
                  refine LM.drop (t := 51) rfl rfl rfl ?_
                  refine LM.val (ov_pickF rfl rfl) ?_
                  refine LM.nil ?_
                  refine QM.sub (e' := [(0, _), (5, _), (6, _), (7, _), (9, _), (10, _), (11, _), (18, _), (19, _), (20, _), (55, _)]) ⟨rfl, rfl, rfl, rfl, rfl, rfl, rfl, rfl, rfl, rfl, rfl, trivial⟩ ?_
                  -- meet2: h1+ h2+ h3+ h4+ h5+ h6+ h7-
                  refine QM.meetK (_) ⟨(by first | rfl | exact lk rfl (by congr 1; omega) | exact lk rfl (by simp)), rfl, rfl, rfl, rfl, rfl, rfl, rfl, rfl, rfl, rfl, trivial⟩ (by (repeat' (first | exact SubM.nil _ | refine SubM.cons rfl ?_ | refine SubM.app ?_))) ?_
                  · simp only [bes, h1, h2, h3, h4, h5, h6, h7, decide_true, decide_false, Bool.true_and, Bool.false_and, Bool.and_true, Bool.and_false, Bool.not_true, Bool.not_false, Bool.true_or, Bool.false_or, Bool.or_true, Bool.or_false, ne_eq, not_true_eq_false, not_false_eq_true, Bool.and_self]
              ·
                refine LM.drop (t := 46) rfl rfl rfl ?_
                refine LM.drop (t := 46) rfl rfl rfl ?_
                refine LM.drop (t := 46) rfl rfl rfl ?_
                refine LM.val (ov_pickF rfl rfl) ?_
                refine LM.val (ov_move rfl) ?_
                refine LM.drop (t := 51) rfl rfl rfl ?_
                refine LM.drop (t := 51) rfl rfl rfl ?_
                refine LM.drop (t := 51) rfl rfl rfl ?_
                refine LM.val (ov_pickF rfl rfl) ?_
                refine LM.nil ?_
                refine QM.sub (e' := [(0, _), (5, _), (6, _), (7, _), (9, _), (10, _), (11, _), (18, _), (19, _), (20, _), (55, _)]) ⟨rfl, rfl, rfl, rfl, rfl, rfl, rfl, rfl, rfl, rfl, rfl, trivial⟩ ?_
                -- meet3: h1+ h2+ h3+ h4+ h5+ h6-
                refine QM.meetK (_) ⟨(by first | rfl | exact lk rfl (by congr 1; omega) | exact lk rfl (by simp)), rfl, rfl, rfl, rfl, rfl, rfl, rfl, rfl, rfl, rfl, trivial⟩ (by (repeat' (first | exact SubM.nil _ | refine SubM.cons rfl ?_ | refine SubM.app ?_))) ?_
                · simp only [bes, h1, h2, h3, h4, h5, h6, decide_true, decide_false, Bool.true_and, Bool.false_and, Bool.and_true, Bool.and_false, Bool.not_true, Bool.not_false, Bool.true_or, Bool.false_or, Bool.or_true, Bool.or_false, ne_eq, not_true_eq_false, not_false_eq_true, Bool.and_self]
            ·
              refine LM.drop (t := 40) rfl rfl rfl ?_
              refine LM.drop (t := 40) rfl rfl rfl ?_
              refine LM.strip (t := 37) rfl rfl rfl ?_
              refine LM.val (ov_pickF rfl rfl) ?_
              refine LM.strip (t := 37) rfl rfl rfl ?_
              first | refine LM.val (ov_notD rfl) ?_ | refine LM.val (ov_not rfl) ?_
              refine LM.val (ov_pickT rfl rfl) ?_
              refine LM.val (ov_move rfl) ?_
              refine LM.strip (t := 46) rfl rfl rfl ?_
              first | refine LM.rd (om_ldW Try.isAgg72 Try.sizeOf72 rfl rfl) ?_ | refine LM.rd (om_ldA Try.isAgg72 Try.sizeOf72 rfl (vs := [_, _, _, _, _, _]) rfl ⟨rfl, rfl, rfl, rfl, rfl, rfl, trivial⟩) ?_
              refine LM.strip (t := 46) rfl rfl rfl ?_
              first | refine LM.rd (om_ldW Try.isAgg72 Try.sizeOf72 rfl rfl) ?_ | refine LM.rd (om_ldA Try.isAgg72 Try.sizeOf72 rfl (vs := [_, _, _, _, _, _]) rfl ⟨rfl, rfl, rfl, rfl, rfl, rfl, trivial⟩) ?_
              refine LM.strip (t := 46) rfl rfl rfl ?_
              refine LM.callE (oc_call (enters_fn Try.func66 (by kernel_rfl) rfl) rfl) (fun w hm hc hg => meets_spec _ _ w) ?_
              refine LM.val (ov_pickT rfl rfl) ?_
              refine LM.val (ov_move rfl) ?_
              first | refine LM.splitD (t := 51) rfl (fun h8 => ?_) (fun h8 => ?_) | refine LM.splitB (t := 51) rfl (fun h8 => ?_) (fun h8 => ?_)
              ·
                refine LM.strip (t := 51) rfl rfl rfl ?_
                first | refine LM.rd (om_ldW Try.isAgg72 Try.sizeOf72 rfl rfl) ?_ | refine LM.rd (om_ldA Try.isAgg72 Try.sizeOf72 rfl (vs := [_, _, _, _, _, _]) rfl ⟨rfl, rfl, rfl, rfl, rfl, rfl, trivial⟩) ?_
                refine LM.strip (t := 51) rfl rfl rfl ?_
                first | refine LM.rd (om_ldW Try.isAgg72 Try.sizeOf72 rfl rfl) ?_ | refine LM.rd (om_ldA Try.isAgg72 Try.sizeOf72 rfl (vs := [_, _, _, _, _, _]) rfl ⟨rfl, rfl, rfl, rfl, rfl, rfl, trivial⟩) ?_
                refine LM.strip (t := 51) rfl rfl rfl ?_
                refine LM.callE (oc_call (enters_fn Try.func66 (by kernel_rfl) rfl) rfl) (fun w hm hc hg => meets_spec _ _ w) ?_
                refine LM.val (ov_pickT rfl rfl) ?_
                refine LM.nil ?_
                refine QM.sub (e' := [(0, _), (5, _), (6, _), (7, _), (9, _), (10, _), (11, _), (18, _), (19, _), (20, _), (55, _)]) ⟨rfl, rfl, rfl, rfl, rfl, rfl, rfl, rfl, rfl, rfl, rfl, trivial⟩ ?_
                -- meet4: h1+ h2+ h3+ h4+ h5- h8+
                refine QM.meetK (_) ⟨(by first | rfl | exact lk rfl (by congr 1; omega) | exact lk rfl (by simp)), rfl, rfl, rfl, rfl, rfl, rfl, rfl, rfl, rfl, rfl, trivial⟩ (by (repeat' (first | exact SubM.nil _ | refine SubM.cons rfl ?_ | refine SubM.app ?_))) ?_
                · simp only [bes, h1, h2, h3, h4, h5, h8, decide_true, decide_false, Bool.true_and, Bool.false_and, Bool.and_true, Bool.and_false, Bool.not_true, Bool.not_false, Bool.true_or, Bool.false_or, Bool.or_true, Bool.or_false, ne_eq, not_true_eq_false, not_false_eq_true, Bool.and_self]
              ·
                refine LM.drop (t := 51) rfl rfl rfl ?_
                refine LM.drop (t := 51) rfl rfl rfl ?_
                refine LM.drop (t := 51) rfl rfl rfl ?_
                refine LM.val (ov_pickF rfl rfl) ?_
                refine LM.nil ?_
                refine QM.sub (e' := [(0, _), (5, _), (6, _), (7, _), (9, _), (10, _), (11, _), (18, _), (19, _), (20, _), (55, _)]) ⟨rfl, rfl, rfl, rfl, rfl, rfl, rfl, rfl, rfl, rfl, rfl, trivial⟩ ?_
                -- meet5: h1+ h2+ h3+ h4+ h5- h8-
                refine QM.meetK (_) ⟨(by first | rfl | exact lk rfl (by congr 1; omega) | exact lk rfl (by simp)), rfl, rfl, rfl, rfl, rfl, rfl, rfl, rfl, rfl, rfl, trivial⟩ (by (repeat' (first | exact SubM.nil _ | refine SubM.cons rfl ?_ | refine SubM.app ?_))) ?_
                · simp only [bes, h1, h2, h3, h4, h5, h8, decide_true, decide_false, Bool.true_and, Bool.false_and, Bool.and_true, Bool.and_false, Bool.not_true, Bool.not_false, Bool.true_or, Bool.false_or, Bool.or_true, Bool.or_false, ne_eq, not_true_eq_false, not_false_eq_true, Bool.and_self]
          ·
            refine LM.drop (t := 37) rfl rfl rfl ?_
            refine LM.drop (t := 37) rfl rfl rfl ?_
            refine LM.dropU (t := 37) rfl rfl rfl ?_
            refine LM.dropX (t := 40) rfl rfl ?_
            refine LM.dropX (t := 40) rfl rfl ?_
            refine LM.drop (t := 37) rfl rfl rfl ?_
            refine LM.drop (t := 37) rfl rfl rfl ?_
            refine LM.val (ov_pickF rfl rfl) ?_
            refine LM.val (ov_move rfl) ?_
            refine LM.drop (t := 46) rfl rfl rfl ?_
            refine LM.drop (t := 46) rfl rfl rfl ?_
            refine LM.drop (t := 46) rfl rfl rfl ?_
            refine LM.val (ov_pickF rfl rfl) ?_
            refine LM.val (ov_move rfl) ?_
            refine LM.drop (t := 51) rfl rfl rfl ?_
            refine LM.drop (t := 51) rfl rfl rfl ?_
            refine LM.drop (t := 51) rfl rfl rfl ?_
            refine LM.val (ov_pickF rfl rfl) ?_
            refine LM.nil ?_
            refine QM.sub (e' := [(0, _), (5, _), (6, _), (7, _), (9, _), (10, _), (11, _), (18, _), (19, _), (20, _), (55, _)]) ⟨rfl, rfl, rfl, rfl, rfl, rfl, rfl, rfl, rfl, rfl, rfl, trivial⟩ ?_
            -- meet6: h1+ h2+ h3+ h4-
            refine QM.meetK (_) ⟨(by first | rfl | exact lk rfl (by congr 1; omega) | exact lk rfl (by simp)), rfl, rfl, rfl, rfl, rfl, rfl, rfl, rfl, rfl, rfl, trivial⟩ (by (repeat' (first | exact SubM.nil _ | refine SubM.cons rfl ?_ | refine SubM.app ?_))) ?_
            · simp only [bes, h1, h2, h3, h4, decide_true, decide_false, Bool.true_and, Bool.false_and, Bool.and_true, Bool.and_false, Bool.not_true, Bool.not_false, Bool.true_or, Bool.false_or, Bool.or_true, Bool.or_false, ne_eq, not_true_eq_false, not_false_eq_true, Bool.and_self]
        ·
          refine LM.drop (t := 30) rfl rfl rfl ?_
          refine LM.drop (t := 30) rfl rfl rfl ?_
          refine LM.drop (t := 30) rfl rfl rfl ?_
          refine LM.drop (t := 30) rfl rfl rfl ?_
          refine LM.drop (t := 30) rfl rfl rfl ?_
          refine LM.val (ov_pickF rfl rfl) ?_
          refine LM.val (ov_move rfl) ?_
          refine LM.drop (t := 37) rfl rfl rfl ?_
          refine LM.drop (t := 37) rfl rfl rfl ?_
          refine LM.dropU (t := 37) rfl rfl rfl ?_
          refine LM.dropX (t := 40) rfl rfl ?_
          refine LM.dropX (t := 40) rfl rfl ?_
          refine LM.drop (t := 37) rfl rfl rfl ?_
          refine LM.drop (t := 37) rfl rfl rfl ?_
          refine LM.val (ov_pickF rfl rfl) ?_
          refine LM.val (ov_move rfl) ?_
          refine LM.drop (t := 46) rfl rfl rfl ?_
          refine LM.drop (t := 46) rfl rfl rfl ?_
          refine LM.drop (t := 46) rfl rfl rfl ?_
          refine LM.val (ov_pickF rfl rfl) ?_
          refine LM.val (ov_move rfl) ?_
          refine LM.drop (t := 51) rfl rfl rfl ?_
          refine LM.drop (t := 51) rfl rfl rfl ?_
          refine LM.drop (t := 51) rfl rfl rfl ?_
          refine LM.val (ov_pickF rfl rfl) ?_
          refine LM.nil ?_
          refine QM.sub (e' := [(0, _), (5, _), (6, _), (7, _), (9, _), (10, _), (11, _), (18, _), (19, _), (20, _), (55, _)]) ⟨rfl, rfl, rfl, rfl, rfl, rfl, rfl, rfl, rfl, rfl, rfl, trivial⟩ ?_
          -- meet7: h1+ h2+ h3-
          refine QM.meetK (_) ⟨(by first | rfl | exact lk rfl (by congr 1; omega) | exact lk rfl (by simp)), rfl, rfl, rfl, rfl, rfl, rfl, rfl, rfl, rfl, rfl, trivial⟩ (by (repeat' (first | exact SubM.nil _ | refine SubM.cons rfl ?_ | refine SubM.app ?_))) ?_
          · simp only [bes, h1, h2, h3, decide_true, decide_false, Bool.true_and, Bool.false_and, Bool.and_true, Bool.and_false, Bool.not_true, Bool.not_false, Bool.true_or, Bool.false_or, Bool.or_true, Bool.or_false, ne_eq, not_true_eq_false, not_false_eq_true, Bool.and_self]
      ·
        rintro b hb
        change QM _ _ _ _ _ ((b8, .cells (fT (l.getD i default)).toArray 72 (0, 0)) :: (b6, .cells (fT (l.getD k default)).toArray 72 (0, 0)) :: []) _ _ _
        subst hb
        refine QM.then ?_
        first | refine wpM.condD rfl (fun h9 => ?_) (fun h9 => ?_) | refine wpM.condB rfl (fun h9 => ?_) (fun h9 => ?_)
        ·
          refine wpM.seq ?_
          refine wpM.region ?_
          refine LM.val (ov_move rfl) ?_
          refine LM.val (ov_move rfl) ?_
          refine LM.val (ov_assign rfl) ?_
          refine LM.val (ov_assign rfl) ?_
          refine LM.val (ov_assign rfl) ?_
          refine LM.nil ?_
          refine QM.sub (e' := [(2, _), (3, _), (4, _)]) ⟨rfl, rfl, rfl, trivial⟩ ?_
          refine QM.then ?_
          refine wpM.ret ?_
          refine QM.block_ret ?_
          refine QM.then_ret ?_
          refine QM.then_ret ?_
          refine QM.block_ret ?_
          refine QM.block_ret ?_
          refine QM.then_ret ?_
          refine QM.then_ret ?_
          refine QM.block_ret ?_
          refine QM.then_ret ?_
          refine QM.leave (.inl rfl) [.tmp 2, .tmp 3, .tmp 4] Try.results42 rfl ?_
          intro w' hm' hc' hg'
          -- leaf 1: h1+ h2+ h9+
          refine ⟨?_, hc'⟩; rw [bIn_step l _ (show i < k by omega), if_pos h9] at hq; rw [bOut_step l (show k < l.length by omega), ← hq] at ho; rw [← ho]; rfl
        ·
          refine wpM.skip ?_
          refine QM.block_normal ?_
          refine QM.then ?_
          refine wpM.region ?_
          refine LM.val (ov_add64 rfl rfl (by omega)) ?_
          refine LM.val (ov_move rfl) ?_
          refine LM.nil ?_
          refine QM.sub (e' := [(0, _), (5, _), (6, _), (9, _), (10, _), (11, _), (18, _), (19, _), (20, _)]) ⟨rfl, rfl, rfl, rfl, rfl, rfl, rfl, rfl, rfl, trivial⟩ ?_
          -- again1: h1+ h2+ h9-
          refine QM.againK (i + 1) ⟨(by first | rfl | exact lk rfl (by congr 1; omega) | exact lk rfl (by simp)), rfl, rfl, rfl, rfl, rfl, rfl, rfl, rfl, trivial⟩ (by (repeat' (first | exact SubM.nil _ | refine SubM.cons rfl ?_ | refine SubM.app ?_))) (fun _ h => h) ?_ ?_
          · refine ⟨by omega, ?_⟩; rw [bIn_step l _ (show i < k by omega), if_neg (by rw [h9]; simp)] at hq; exact hq
          · first | omega | (dsimp only; omega)
    ·
      refine wpM.exit ?_
      refine QM.then_exit ?_
      refine QM.then_exit ?_
      refine QM.block_hit ?_
      refine QM.block_normal ?_
      refine QM.then ?_
      refine wpM.region ?_
      refine LM.val (ov_add64 rfl rfl (by omega)) ?_
      refine LM.val (ov_move rfl) ?_
      refine LM.nil ?_
      refine QM.sub (e' := [(0, _), (9, _), (10, _), (11, _)]) ⟨rfl, rfl, rfl, rfl, trivial⟩ ?_
      -- again1: h1+ h2-
      refine QM.againK (k + 1) ⟨(by first | rfl | exact lk rfl (by congr 1; omega) | exact lk rfl (by simp)), rfl, rfl, rfl, trivial⟩ (by (repeat' (first | exact SubM.nil _ | refine SubM.cons rfl ?_ | refine SubM.app ?_))) (fun _ h => h) ?_ ?_
      · refine ⟨by omega, ?_⟩; rw [bOut_step l (show k < l.length by omega), ← hq] at ho; have hik : i = k := (by omega); subst hik; rw [Nat.sub_self] at ho; exact ho
      · first | omega | (dsimp only; omega)
  ·
    refine wpM.exit ?_
    refine QM.then_exit ?_
    refine QM.then_exit ?_
    refine QM.block_hit ?_
    refine QM.then ?_
    refine wpM.seq ?_
    refine wpM.region ?_
    refine LM.val (ov_assign rfl) ?_
    refine LM.val (ov_assign rfl) ?_
    refine LM.val (ov_assign rfl) ?_
    refine LM.nil ?_
    refine QM.sub (e' := [(2, _), (3, _), (4, _)]) ⟨rfl, rfl, rfl, trivial⟩ ?_
    refine QM.then ?_
    refine wpM.ret ?_
    refine QM.leave (.inl rfl) [.tmp 2, .tmp 3, .tmp 4] Try.results42 rfl ?_
    intro w' hm' hc' hg'
    -- leaf 2: h1-
    refine ⟨?_, hc'⟩; have hkl : l.length - k = 0 := (by omega); rw [hkl] at ho; rw [← ho]; rfl

set_option maxRecDepth 100000 in
set_option maxHeartbeats 1000000 in
theorem rbeside_spec {l : List St} {ad : Option Addr} {n cap : Nat} (w : World) (hn : n = l.length) (hl : Sr fT 6 l (.slice ad n cap) w) (hx2 : l.length ≤ 1000000000000) : Ret Try.prog 43 #[.slice ad n cap] w (fun v w' => v = besV (bOf l) ∧ Ext w w') := by
  refine Ret.enterM (l := [.slice ad n cap]) Try.func43 rfl Try.ntmps43 rfl ([]) (no) (Mem.nil w) ?_
  refine wpM.seq ?_
  refine wpM.region ?_
  refine LM.val (ov_assign rfl) ?_
  refine LM.val (ov_assign rfl) ?_
  refine LM.val (ov_assign rfl) ?_
  refine LM.nil ?_
  refine QM.sub (e' := [(0, _)]) ⟨rfl, trivial⟩ ?_
  refine QM.then ?_
  refine wpM.seq ?_
  refine wpM.seq ?_
  refine wpM.region ?_
  refine LM.val (ov_assign rfl) ?_
  refine LM.nil ?_
  refine QM.sub (e' := [(0, _), (5, _)]) ⟨rfl, rfl, trivial⟩ ?_
  refine QM.then ?_
  refine wpM.block ?_
  refine wpM.loopK0 (α := Nat) (fun k => [(5, .int .i64 (k : Nat))]) [(0, _)] (fun k => []) (fun k => k ≤ l.length ∧ bOut l k (l.length - k) = bOf l) (fun k => l.length - k) (0) ⟨(by first | rfl | exact lk rfl (by congr 1; omega) | exact lk rfl (by simp)), rfl, trivial⟩ (by (repeat' (first | exact SubM.nil _ | refine SubM.cons rfl ?_ | refine SubM.app ?_))) ⟨Nat.zero_le _, rfl⟩ ?_
  rintro k ⟨hk, ho⟩
  change wpM _ _ _ _ _ _ _ ([]) _ _ _
  refine wpM.seq ?_
  refine wpM.seq ?_
  refine wpM.region ?_
  refine LM.val (ov_move rfl) ?_
  refine LM.val (ov_move rfl) ?_
  refine LM.val (ov_len Try.underlying61 rfl) ?_
  refine LM.val (ov_lss rfl rfl) ?_
  refine LM.nil ?_
  refine QM.sub (e' := [(0, _), (5, _), (12, _)]) ⟨rfl, rfl, rfl, trivial⟩ ?_
  refine QM.then ?_
  first | refine wpM.condD rfl (fun h1 => ?_) (fun h1 => ?_) | refine wpM.condB rfl (fun h1 => ?_) (fun h1 => ?_)
  ·
    refine wpM.skip ?_
    refine QM.then ?_
    refine wpM.seq ?_
    refine wpM.block ?_
    refine wpM.seq ?_
    refine wpM.region ?_
    refine LM.val (ov_assign rfl) ?_
    refine LM.nil ?_
    refine QM.sub (e' := [(0, _), (5, _), (6, _)]) ⟨rfl, rfl, rfl, trivial⟩ ?_
    refine QM.then ?_
    refine wpM.block ?_
    refine wpM.loopK0 (α := Nat) (fun i => [(6, .int .i64 (i : Nat))]) [(0, _), (5, _)] (fun i => []) (fun i => i ≤ k ∧ bIn l (l.getD k default) i (k - i) = bIn l (l.getD k default) 0 k) (fun i => k - i) (0) ⟨(by first | rfl | exact lk rfl (by congr 1; omega) | exact lk rfl (by simp)), rfl, rfl, trivial⟩ (by (repeat' (first | exact SubM.nil _ | refine SubM.cons rfl ?_ | refine SubM.app ?_))) ⟨Nat.zero_le _, rfl⟩ ?_
    rintro i ⟨hi, hq⟩
    change wpM _ _ _ _ _ _ _ ([]) _ _ _
    refine wpM.seq ?_
    refine wpM.seq ?_
    refine wpM.region ?_
    refine LM.val (ov_move rfl) ?_
    refine LM.val (ov_move rfl) ?_
    refine LM.val (ov_lss rfl rfl) ?_
    refine LM.nil ?_
    refine QM.sub (e' := [(0, _), (5, _), (6, _), (17, _)]) ⟨rfl, rfl, rfl, rfl, trivial⟩ ?_
    refine QM.then ?_
    first | refine wpM.condD rfl (fun h2 => ?_) (fun h2 => ?_) | refine wpM.condB rfl (fun h2 => ?_) (fun h2 => ?_)
    ·
      refine wpM.skip ?_
      refine QM.then ?_
      refine wpM.seq ?_
      refine wpM.block ?_
      refine wpM.seq ?_
      refine wpM.region ?_
      refine LM.val (ov_move rfl) ?_
      refine LM.val (ov_move rfl) ?_
      first | refine LM.val (ov_idxSN (by first | exact Sr.spt (by assumption) | exact Sl.spt (by assumption)) Try.underlying61 Try.sizeOf72 rfl rfl (by omega)) ?_ | refine LM.val (ov_idxS (by first | exact Sr.spt (by assumption) | exact Sl.spt (by assumption)) Try.underlying61 Try.sizeOf72 rfl rfl (by omega)) ?_ | refine LM.val (ov_idx Try.underlying61 Try.sizeOf72 rfl rfl (by omega)) ?_
      first | refine LM.rd (om_slA (by assumption) (by intro _; rfl) Try.isAgg72 Try.sizeOf72 rfl (by exact getq default (by first | omega | (simp only [List.length_set, List.length_append, List.length_cons, List.length_nil]; omega)))) ?_ | refine LM.rdC (om_srEA (by assumption) (by intro _; rfl) Try.isAgg72 Try.sizeOf72 rfl (by exact getq default (by first | omega | (simp only [List.length_set, List.length_append, List.length_cons, List.length_nil]; omega))) id) ?_ | refine LM.rd (om_ldW Try.isAgg72 Try.sizeOf72 rfl rfl) ?_ | refine LM.rd (om_ldA Try.isAgg72 Try.sizeOf72 rfl (vs := [_, _, _, _, _, _]) rfl ⟨rfl, rfl, rfl, rfl, rfl, rfl, trivial⟩) ?_
      refine LM.alloc Try.zeroValue72 rfl (fun b7 hb7 => ?_)
      first | refine LM.stW Try.sizeOf72 rfl rfl rfl rfl (by first | rfl | decide | (simp; done)) (fun hlt => absurd hlt (by omega)) ?_ | refine LM.st Try.sizeOf72 rfl rfl rfl (by first | decide | exact Nat.le_of_ble_eq_true rfl | (simp; done) | (simp; omega)) rfl (fun hlt => absurd hlt (by omega)) ?_
      refine LM.nil ?_
      refine QM.sub (e' := [(0, _), (5, _), (6, _), (7, _)]) ⟨rfl, rfl, rfl, rfl, trivial⟩ ?_
      refine QM.then ?_
      refine wpM.seq ?_
      refine wpM.region ?_
      refine LM.val (ov_move rfl) ?_
      refine LM.val (ov_move rfl) ?_
      first | refine LM.val (ov_idxSN (by first | exact Sr.spt (by assumption) | exact Sl.spt (by assumption)) Try.underlying61 Try.sizeOf72 rfl rfl (by omega)) ?_ | refine LM.val (ov_idxS (by first | exact Sr.spt (by assumption) | exact Sl.spt (by assumption)) Try.underlying61 Try.sizeOf72 rfl rfl (by omega)) ?_ | refine LM.val (ov_idx Try.underlying61 Try.sizeOf72 rfl rfl (by omega)) ?_
      first | refine LM.rd (om_slA (by assumption) (by intro _; rfl) Try.isAgg72 Try.sizeOf72 rfl (by exact getq default (by first | omega | (simp only [List.length_set, List.length_append, List.length_cons, List.length_nil]; omega)))) ?_ | refine LM.rdC (om_srEA (by assumption) (by intro _; rfl) Try.isAgg72 Try.sizeOf72 rfl (by exact getq default (by first | omega | (simp only [List.length_set, List.length_append, List.length_cons, List.length_nil]; omega))) id) ?_ | refine LM.rd (om_ldW Try.isAgg72 Try.sizeOf72 rfl rfl) ?_ | refine LM.rd (om_ldA Try.isAgg72 Try.sizeOf72 rfl (vs := [_, _, _, _, _, _]) rfl ⟨rfl, rfl, rfl, rfl, rfl, rfl, trivial⟩) ?_
      refine LM.alloc Try.zeroValue72 rfl (fun b8 hb8 => ?_)
      first | refine LM.stW Try.sizeOf72 rfl rfl rfl rfl (by first | rfl | decide | (simp; done)) (fun hlt => absurd hlt (by omega)) ?_ | refine LM.st Try.sizeOf72 rfl rfl rfl (by first | decide | exact Nat.le_of_ble_eq_true rfl | (simp; done) | (simp; omega)) rfl (fun hlt => absurd hlt (by omega)) ?_
      refine LM.nil ?_
      refine QM.sub (e' := [(0, _), (5, _), (6, _), (7, _), (8, _)]) ⟨rfl, rfl, rfl, rfl, rfl, trivial⟩ ?_
      refine QM.then ?_
      refine wpM.seq ?_
      refine wpM.joinK (α := Bool) (fun b => [(53, .bool b)]) [(0, _), (5, _), (6, _)] (fun b => []) (fun b => b = bes (l.getD i default) (l.getD k default)) ⟨rfl, rfl, rfl, trivial⟩ ?_ ?_
      ·
        refine wpM.region ?_
        refine LM.val (ov_field Try.underlying72 rfl Try.sizeOf3 rfl (k := 1) rfl rfl) ?_
        first | refine LM.rd (om_ld Try.isAgg3 rfl rfl) ?_
        refine LM.val (ov_field Try.underlying72 rfl Try.sizeOf3 rfl (k := 1) rfl rfl) ?_
        first | refine LM.rd (om_ld Try.isAgg3 rfl rfl) ?_
        refine LM.val (ov_eql rfl rfl) ?_
        refine LM.val (ov_move rfl) ?_
        first | refine LM.splitD (t := 33) rfl (fun h3 => ?_) (fun h3 => ?_) | refine LM.splitB (t := 33) rfl (fun h3 => ?_) (fun h3 => ?_)
        ·
          refine LM.strip (t := 33) rfl rfl rfl ?_
          refine LM.val (ov_field Try.underlying72 rfl Try.sizeOf3 rfl (k := 0) rfl rfl) ?_
          refine LM.strip (t := 33) rfl rfl rfl ?_
          first | refine LM.rd (om_ld Try.isAgg3 rfl rfl) ?_
          refine LM.strip (t := 33) rfl rfl rfl ?_
          refine LM.val (ov_field Try.underlying72 rfl Try.sizeOf3 rfl (k := 0) rfl rfl) ?_
          refine LM.strip (t := 33) rfl rfl rfl ?_
          first | refine LM.rd (om_ld Try.isAgg3 rfl rfl) ?_
          refine LM.strip (t := 33) rfl rfl rfl ?_
          refine LM.val (ov_neq rfl rfl) ?_
          refine LM.val (ov_pickT rfl rfl) ?_
          refine LM.val (ov_move rfl) ?_
          first | refine LM.splitD (t := 40) rfl (fun h4 => ?_) (fun h4 => ?_) | refine LM.splitB (t := 40) rfl (fun h4 => ?_) (fun h4 => ?_)
          ·
            refine LM.strip (t := 40) rfl rfl rfl ?_
            refine LM.val (ov_field Try.underlying72 rfl Try.sizeOf4 rfl (k := 5) rfl rfl) ?_
            refine LM.strip (t := 40) rfl rfl rfl ?_
            first | refine LM.rd (om_ld Try.isAgg4 rfl rfl) ?_
            refine LM.strip (t := 40) rfl rfl rfl ?_
            refine LM.val (ov_move rfl) ?_
            first | refine LM.splitD (t := 43) rfl (fun h5 => ?_) (fun h5 => ?_) | refine LM.splitB (t := 43) rfl (fun h5 => ?_) (fun h5 => ?_)
            ·
              refine LM.strip (t := 43) rfl rfl rfl ?_
              refine LM.val (ov_field Try.underlying72 rfl Try.sizeOf4 rfl (k := 5) rfl rfl) ?_
              refine LM.strip (t := 43) rfl rfl rfl ?_
              first | refine LM.rd (om_ld Try.isAgg4 rfl rfl) ?_
              refine LM.strip (t := 40) rfl rfl rfl ?_
              refine LM.val (ov_pickT rfl rfl) ?_
              refine LM.strip (t := 40) rfl rfl rfl ?_
              first | refine LM.val (ov_notD rfl) ?_ | refine LM.val (ov_not rfl) ?_
              refine LM.val (ov_pickT rfl rfl) ?_
              refine LM.val (ov_move rfl) ?_
              first | refine LM.splitD (t := 49) rfl (fun h6 => ?_) (fun h6 => ?_) | refine LM.splitB (t := 49) rfl (fun h6 => ?_) (fun h6 => ?_)
              ·
                refine LM.strip (t := 49) rfl rfl rfl ?_
                first | refine LM.rd (om_ldW Try.isAgg72 Try.sizeOf72 rfl rfl) ?_ | refine LM.rd (om_ldA Try.isAgg72 Try.sizeOf72 rfl (vs := [_, _, _, _, _, _]) rfl ⟨rfl, rfl, rfl, rfl, rfl, rfl, trivial⟩) ?_
                refine LM.strip (t := 49) rfl rfl rfl ?_
                first | refine LM.rd (om_ldW Try.isAgg72 Try.sizeOf72 rfl rfl) ?_ | refine LM.rd (om_ldA Try.isAgg72 Try.sizeOf72 rfl (vs := [_, _, _, _, _, _]) rfl ⟨rfl, rfl, rfl, rfl, rfl, rfl, trivial⟩) ?_
                refine LM.strip (t := 49) rfl rfl rfl ?_
                refine LM.callE (oc_call (enters_fn Try.func67 (by kernel_rfl) rfl) rfl) (fun w hm hc hg => overlap_spec _ _ w) ?_
                refine LM.val (ov_pickT rfl rfl) ?_
                refine LM.nil ?_
                refine QM.sub (e' := [(0, _), (5, _), (6, _), (53, _)]) ⟨rfl, rfl, rfl, rfl, trivial⟩ ?_
                -- meet1: h1+ h2+ h3+ h4+ h5+ h6+
                refine QM.meetK (_) ⟨(by first | rfl | exact lk rfl (by congr 1; omega) | exact lk rfl (by simp)), rfl, rfl, rfl, trivial⟩ (by (repeat' (first | exact SubM.nil _ | refine SubM.cons rfl ?_ | refine SubM.app ?_))) ?_
                · simp only [bes, overlapB, h1, h2, h3, h4, h5, h6, decide_true, decide_false, Bool.true_and, Bool.false_and, Bool.and_true, Bool.and_false, Bool.not_true, Bool.not_false, Bool.true_or, Bool.false_or, Bool.or_true, Bool.or_false, ne_eq, not_true_eq_false, not_false_eq_true, Bool.and_self]
              ·
                refine LM.drop (t := 49) rfl rfl rfl ?_
                refine LM.drop (t := 49) rfl rfl rfl ?_
                refine LM.drop (t := 49) rfl rfl rfl ?_
                refine LM.val (ov_pickF rfl rfl) ?_
                refine LM.nil ?_
                refine QM.sub (e' := [(0, _), (5, _), (6, _), (53, _)]) ⟨rfl, rfl, rfl, rfl, trivial⟩ ?_
                -- meet2: h1+ h2+ h3+ h4+ h5+ h6-
                refine QM.meetK (_) ⟨(by first | rfl | exact lk rfl (by congr 1; omega) | exact lk rfl (by simp)), rfl, rfl, rfl, trivial⟩ (by (repeat' (first | exact SubM.nil _ | refine SubM.cons rfl ?_ | refine SubM.app ?_))) ?_
                · simp only [bes, overlapB, h1, h2, h3, h4, h5, h6, decide_true, decide_false, Bool.true_and, Bool.false_and, Bool.and_true, Bool.and_false, Bool.not_true, Bool.not_false, Bool.true_or, Bool.false_or, Bool.or_true, Bool.or_false, ne_eq, not_true_eq_false, not_false_eq_true, Bool.and_self]
            ·
              refine LM.drop (t := 43) rfl rfl rfl ?_
              refine LM.drop (t := 43) rfl rfl rfl ?_
              refine LM.strip (t := 40) rfl rfl rfl ?_
              refine LM.val (ov_pickF rfl rfl) ?_
              refine LM.strip (t := 40) rfl rfl rfl ?_
              first | refine LM.val (ov_notD rfl) ?_ | refine LM.val (ov_not rfl) ?_
              refine LM.val (ov_pickT rfl rfl) ?_
              refine LM.val (ov_move rfl) ?_
              refine LM.strip (t := 49) rfl rfl rfl ?_
              first | refine LM.rd (om_ldW Try.isAgg72 Try.sizeOf72 rfl rfl) ?_ | refine LM.rd (om_ldA Try.isAgg72 Try.sizeOf72 rfl (vs := [_, _, _, _, _, _]) rfl ⟨rfl, rfl, rfl, rfl, rfl, rfl, trivial⟩) ?_
              refine LM.strip (t := 49) rfl rfl rfl ?_
              first | refine LM.rd (om_ldW Try.isAgg72 Try.sizeOf72 rfl rfl) ?_ | refine LM.rd (om_ldA Try.isAgg72 Try.sizeOf72 rfl (vs := [_, _, _, _, _, _]) rfl ⟨rfl, rfl, rfl, rfl, rfl, rfl, trivial⟩) ?_
              refine LM.strip (t := 49) rfl rfl rfl ?_
              refine LM.callE (oc_call (enters_fn Try.func67 (by kernel_rfl) rfl) rfl) (fun w hm hc hg => overlap_spec _ _ w) ?_
              refine LM.val (ov_pickT rfl rfl) ?_
              refine LM.nil ?_
              refine QM.sub (e' := [(0, _), (5, _), (6, _), (53, _)]) ⟨rfl, rfl, rfl, rfl, trivial⟩ ?_
              -- meet3: h1+ h2+ h3+ h4+ h5-
              refine QM.meetK (_) ⟨(by first | rfl | exact lk rfl (by congr 1; omega) | exact lk rfl (by simp)), rfl, rfl, rfl, trivial⟩ (by (repeat' (first | exact SubM.nil _ | refine SubM.cons rfl ?_ | refine SubM.app ?_))) ?_
              · simp only [bes, overlapB, h1, h2, h3, h4, h5, decide_true, decide_false, Bool.true_and, Bool.false_and, Bool.and_true, Bool.and_false, Bool.not_true, Bool.not_false, Bool.true_or, Bool.false_or, Bool.or_true, Bool.or_false, ne_eq, not_true_eq_false, not_false_eq_true, Bool.and_self]
          ·
            refine LM.drop (t := 40) rfl rfl rfl ?_
            refine LM.drop (t := 40) rfl rfl rfl ?_
            refine LM.dropU (t := 40) rfl rfl rfl ?_
            refine LM.dropX (t := 43) rfl rfl ?_
            refine LM.dropX (t := 43) rfl rfl ?_
            refine LM.drop (t := 40) rfl rfl rfl ?_
            refine LM.drop (t := 40) rfl rfl rfl ?_
            refine LM.val (ov_pickF rfl rfl) ?_
            refine LM.val (ov_move rfl) ?_
            refine LM.drop (t := 49) rfl rfl rfl ?_
            refine LM.drop (t := 49) rfl rfl rfl ?_
            refine LM.drop (t := 49) rfl rfl rfl ?_
            refine LM.val (ov_pickF rfl rfl) ?_
            refine LM.nil ?_
            refine QM.sub (e' := [(0, _), (5, _), (6, _), (53, _)]) ⟨rfl, rfl, rfl, rfl, trivial⟩ ?_
            -- meet4: h1+ h2+ h3+ h4-
            refine QM.meetK (_) ⟨(by first | rfl | exact lk rfl (by congr 1; omega) | exact lk rfl (by simp)), rfl, rfl, rfl, trivial⟩ (by (repeat' (first | exact SubM.nil _ | refine SubM.cons rfl ?_ | refine SubM.app ?_))) ?_
            · simp only [bes, overlapB, h1, h2, h3, h4, decide_true, decide_false, Bool.true_and, Bool.false_and, Bool.and_true, Bool.and_false, Bool.not_true, Bool.not_false, Bool.true_or, Bool.false_or, Bool.or_true, Bool.or_false, ne_eq, not_true_eq_false, not_false_eq_true, Bool.and_self]
        ·
          refine LM.drop (t := 33) rfl rfl rfl ?_
          refine LM.drop (t := 33) rfl rfl rfl ?_
          refine LM.drop (t := 33) rfl rfl rfl ?_
          refine LM.drop (t := 33) rfl rfl rfl ?_
          refine LM.drop (t := 33) rfl rfl rfl ?_
          refine LM.val (ov_pickF rfl rfl) ?_
          refine LM.val (ov_move rfl) ?_
          refine LM.drop (t := 40) rfl rfl rfl ?_
          refine LM.drop (t := 40) rfl rfl rfl ?_
          refine LM.dropU (t := 40) rfl rfl rfl ?_
          refine LM.dropX (t := 43) rfl rfl ?_
          refine LM.dropX (t := 43) rfl rfl ?_
          refine LM.drop (t := 40) rfl rfl rfl ?_
          refine LM.drop (t := 40) rfl rfl rfl ?_
          refine LM.val (ov_pickF rfl rfl) ?_
          refine LM.val (ov_move rfl) ?_
          refine LM.drop (t := 49) rfl rfl rfl ?_
          refine LM.drop (t := 49) rfl rfl rfl ?_
          refine LM.drop (t := 49) rfl rfl rfl ?_
          refine LM.val (ov_pickF rfl rfl) ?_
          refine LM.nil ?_
          refine QM.sub (e' := [(0, _), (5, _), (6, _), (53, _)]) ⟨rfl, rfl, rfl, rfl, trivial⟩ ?_
          -- meet5: h1+ h2+ h3-
          refine QM.meetK (_) ⟨(by first | rfl | exact lk rfl (by congr 1; omega) | exact lk rfl (by simp)), rfl, rfl, rfl, trivial⟩ (by (repeat' (first | exact SubM.nil _ | refine SubM.cons rfl ?_ | refine SubM.app ?_))) ?_
          · simp only [bes, overlapB, h1, h2, h3, decide_true, decide_false, Bool.true_and, Bool.false_and, Bool.and_true, Bool.and_false, Bool.not_true, Bool.not_false, Bool.true_or, Bool.false_or, Bool.or_true, Bool.or_false, ne_eq, not_true_eq_false, not_false_eq_true, Bool.and_self]
      ·
        rintro b hb
        change QM _ _ _ _ _ ([]) _ _ _
        subst hb
        refine QM.then ?_
        first | refine wpM.condD rfl (fun h7 => ?_) (fun h7 => ?_) | refine wpM.condB rfl (fun h7 => ?_) (fun h7 => ?_)
        ·
          refine wpM.seq ?_
          refine wpM.region ?_
          refine LM.val (ov_move rfl) ?_
          refine LM.val (ov_move rfl) ?_
          refine LM.val (ov_assign rfl) ?_
          refine LM.val (ov_assign rfl) ?_
          refine LM.val (ov_assign rfl) ?_
          refine LM.nil ?_
          refine QM.sub (e' := [(2, _), (3, _), (4, _)]) ⟨rfl, rfl, rfl, trivial⟩ ?_
          refine QM.then ?_
          refine wpM.ret ?_
          refine QM.block_ret ?_
          refine QM.then_ret ?_
          refine QM.then_ret ?_
          refine QM.block_ret ?_
          refine QM.block_ret ?_
          refine QM.then_ret ?_
          refine QM.then_ret ?_
          refine QM.block_ret ?_
          refine QM.then_ret ?_
          refine QM.leave (.inl rfl) [.tmp 2, .tmp 3, .tmp 4] Try.results43 rfl ?_
          intro w' hm' hc' hg'
          -- leaf 1: h1+ h2+ h7+
          refine ⟨?_, hc'⟩; rw [bIn_step l _ (show i < k by omega), if_pos h7] at hq; rw [bOut_step l (show k < l.length by omega), ← hq] at ho; rw [← ho]; rfl
        ·
          refine wpM.skip ?_
          refine QM.block_normal ?_
          refine QM.then ?_
          refine wpM.region ?_
          refine LM.val (ov_move rfl) ?_
          refine LM.val (ov_add64 rfl rfl (by omega)) ?_
          refine LM.val (ov_assign rfl) ?_
          refine LM.nil ?_
          refine QM.sub (e' := [(0, _), (5, _), (6, _)]) ⟨rfl, rfl, rfl, trivial⟩ ?_
          -- again1: h1+ h2+ h7-
          refine QM.againK (i + 1) ⟨(by first | rfl | exact lk rfl (by congr 1; omega) | exact lk rfl (by simp)), rfl, rfl, trivial⟩ (by (repeat' (first | exact SubM.nil _ | refine SubM.cons rfl ?_ | refine SubM.app ?_))) (fun _ h => h) ?_ ?_
          · refine ⟨by omega, ?_⟩; rw [bIn_step l _ (show i < k by omega), if_neg (by rw [h7]; simp)] at hq; exact hq
          · first | omega | (dsimp only; omega)
    ·
      refine wpM.exit ?_
      refine QM.then_exit ?_
      refine QM.then_exit ?_
      refine QM.block_hit ?_
      refine QM.block_normal ?_
      refine QM.then ?_
      refine wpM.region ?_
      refine LM.val (ov_move rfl) ?_
      refine LM.val (ov_add64 rfl rfl (by omega)) ?_
      refine LM.val (ov_assign rfl) ?_
      refine LM.nil ?_
      refine QM.sub (e' := [(0, _), (5, _)]) ⟨rfl, rfl, trivial⟩ ?_
      -- again1: h1+ h2-
      refine QM.againK (k + 1) ⟨(by first | rfl | exact lk rfl (by congr 1; omega) | exact lk rfl (by simp)), rfl, trivial⟩ (by (repeat' (first | exact SubM.nil _ | refine SubM.cons rfl ?_ | refine SubM.app ?_))) (fun _ h => h) ?_ ?_
      · refine ⟨by omega, ?_⟩; rw [bOut_step l (show k < l.length by omega), ← hq] at ho; have hik : i = k := (by omega); subst hik; rw [Nat.sub_self] at ho; exact ho
      · first | omega | (dsimp only; omega)
  ·
    refine wpM.exit ?_
    refine QM.then_exit ?_
    refine QM.then_exit ?_
    refine QM.block_hit ?_
    refine QM.then ?_
    refine wpM.seq ?_
    refine wpM.region ?_
    refine LM.val (ov_assign rfl) ?_
    refine LM.val (ov_assign rfl) ?_
    refine LM.val (ov_assign rfl) ?_
    refine LM.nil ?_
    refine QM.sub (e' := [(2, _), (3, _), (4, _)]) ⟨rfl, rfl, rfl, trivial⟩ ?_
    refine QM.then ?_
    refine wpM.ret ?_
    refine QM.leave (.inl rfl) [.tmp 2, .tmp 3, .tmp 4] Try.results43 rfl ?_
    intro w' hm' hc' hg'
    -- leaf 2: h1-
    refine ⟨?_, hc'⟩; have hkl : l.length - k = 0 := (by omega); rw [hkl] at ho; rw [← ho]; rfl

set_option maxRecDepth 100000 in
theorem longest_spec {l : List St} {ad : Option Addr} {n cap : Nat} (w : World) (hn : n = l.length) (hl : Sr fT 6 l (.slice ad n cap) w) (hx2 : l.length ≤ 1000000000000) : Ret Try.prog 44 #[.slice ad n cap] w (fun v w' => v = (match lonF l l.length with | some p => .tuple #[.int .i64 (p.1 : Nat), .bool true] | none => .tuple #[.int .i64 0, .bool false]) ∧ Ext w w') := by
  refine Ret.enterM (l := [.slice ad n cap]) Try.func44 rfl Try.ntmps44 rfl ([]) (no) (Mem.nil w) ?_
  refine wpM.seq ?_
  refine wpM.region ?_
  refine LM.val (ov_assign rfl) ?_
  refine LM.val (ov_assign rfl) ?_
  refine LM.nil ?_
  refine QM.sub (e' := [(0, _)]) ⟨rfl, trivial⟩ ?_
  refine QM.then ?_
  refine wpM.seq ?_
  refine wpM.region ?_
  refine LM.val (ov_assign rfl) ?_
  refine LM.val (ov_assign rfl) ?_
  refine LM.nil ?_
  refine QM.sub (e' := [(0, _), (4, _), (5, _)]) ⟨rfl, rfl, rfl, trivial⟩ ?_
  refine QM.then ?_
  refine wpM.seq ?_
  refine wpM.region ?_
  refine LM.val (ov_assign rfl) ?_
  refine LM.nil ?_
  refine QM.sub (e' := [(0, _), (4, _), (5, _), (6, _)]) ⟨rfl, rfl, rfl, rfl, trivial⟩ ?_
  refine QM.then ?_
  refine wpM.seq ?_
  refine wpM.seq ?_
  refine wpM.region ?_
  refine LM.val (ov_move rfl) ?_
  refine LM.val (ov_len Try.underlying61 rfl) ?_
  refine LM.val (ov_move rfl) ?_
  refine LM.nil ?_
  refine QM.sub (e' := [(4, _), (5, _), (6, _), (10, _), (11, _), (12, _)]) ⟨rfl, rfl, rfl, rfl, rfl, rfl, trivial⟩ ?_
  refine QM.then ?_
  refine wpM.block ?_
  refine wpM.loopK0 (α := Nat × Nat × Bool × BitVec 64) (fun ⟨i, bp, fo, mo⟩ => [(4, .int .i64 (bp : Nat)), (5, .bool fo), (6, U mo), (12, .int .i64 (i : Nat))]) [(10, _), (11, _)] (fun ⟨i, bp, fo, mo⟩ => []) (fun ⟨i, bp, fo, mo⟩ => i ≤ l.length ∧ (match lonF l i with | some p => bp = p.1 ∧ fo = true ∧ mo = p.2 | none => bp = 0 ∧ fo = false ∧ mo = 0#64)) (fun ⟨i, bp, fo, mo⟩ => l.length - i) ((0, 0, false, 0#64)) ⟨(by first | rfl | exact lk rfl (by congr 1; omega) | exact lk rfl (by simp)), (by first | rfl | exact lk rfl (by congr 1; omega) | exact lk rfl (by simp)), (by first | rfl | exact lk rfl (by congr 1; omega) | exact lk rfl (by simp)), (by first | rfl | exact lk rfl (by congr 1; omega) | exact lk rfl (by simp)), rfl, rfl, trivial⟩ (by (repeat' (first | exact SubM.nil _ | refine SubM.cons rfl ?_ | refine SubM.app ?_))) ⟨Nat.zero_le _, rfl, rfl, rfl⟩ ?_
  rintro ⟨i, bp, fo, mo⟩ ⟨hi, hf⟩
  change wpM _ _ _ _ _ _ _ ([]) _ _ _
  refine wpM.seq ?_
  refine wpM.region ?_
  refine LM.val (ov_lss rfl rfl) ?_
  refine LM.nil ?_
  refine QM.sub (e' := [(4, _), (5, _), (6, _), (10, _), (11, _), (12, _), (13, _)]) ⟨rfl, rfl, rfl, rfl, rfl, rfl, rfl, trivial⟩ ?_
  refine QM.then ?_
  refine wpM.seq ?_
  first | refine wpM.condD rfl (fun h1 => ?_) (fun h1 => ?_) | refine wpM.condB rfl (fun h1 => ?_) (fun h1 => ?_)
  ·
    refine wpM.skip ?_
    refine QM.then ?_
    refine wpM.seq ?_
    refine wpM.block ?_
    refine wpM.seq ?_
    refine wpM.region ?_
    refine LM.val (ov_move rfl) ?_
    first | refine LM.val (ov_idxSN (by first | exact Sr.spt (by assumption) | exact Sl.spt (by assumption)) Try.underlying61 Try.sizeOf72 rfl rfl (by omega)) ?_ | refine LM.val (ov_idxS (by first | exact Sr.spt (by assumption) | exact Sl.spt (by assumption)) Try.underlying61 Try.sizeOf72 rfl rfl (by omega)) ?_ | refine LM.val (ov_idx Try.underlying61 Try.sizeOf72 rfl rfl (by omega)) ?_
    first | refine LM.rd (om_slA (by assumption) (by intro _; rfl) Try.isAgg72 Try.sizeOf72 rfl (by exact getq default (by first | omega | (simp only [List.length_set, List.length_append, List.length_cons, List.length_nil]; omega)))) ?_ | refine LM.rdC (om_srEA (by assumption) (by intro _; rfl) Try.isAgg72 Try.sizeOf72 rfl (by exact getq default (by first | omega | (simp only [List.length_set, List.length_append, List.length_cons, List.length_nil]; omega))) id) ?_ | refine LM.rd (om_ldW Try.isAgg72 Try.sizeOf72 rfl rfl) ?_ | refine LM.rd (om_ldA Try.isAgg72 Try.sizeOf72 rfl (vs := [_, _, _, _, _, _]) rfl ⟨rfl, rfl, rfl, rfl, rfl, rfl, trivial⟩) ?_
    refine LM.alloc Try.zeroValue72 rfl (fun b8 hb8 => ?_)
    refine LM.val (ov_assign rfl) ?_
    first | refine LM.stW Try.sizeOf72 rfl rfl rfl rfl (by first | rfl | decide | (simp; done)) (fun hlt => absurd hlt (by omega)) ?_ | refine LM.st Try.sizeOf72 rfl rfl rfl (by first | decide | exact Nat.le_of_ble_eq_true rfl | (simp; done) | (simp; omega)) rfl (fun hlt => absurd hlt (by omega)) ?_
    refine LM.nil ?_
    refine QM.sub (e' := [(4, _), (5, _), (6, _), (7, _), (8, _), (10, _), (11, _), (12, _)]) ⟨rfl, rfl, rfl, rfl, rfl, rfl, rfl, rfl, trivial⟩ ?_
    refine QM.then ?_
    refine wpM.seq ?_
    refine wpM.region ?_
    refine LM.val (ov_field Try.underlying72 rfl Try.sizeOf22 rfl (k := 3) rfl rfl) ?_
    first | refine LM.rd (om_ld Try.isAgg22 rfl rfl) ?_
    refine LM.val (ov_field Try.underlying72 rfl Try.sizeOf22 rfl (k := 2) rfl rfl) ?_
    first | refine LM.rd (om_ld Try.isAgg22 rfl rfl) ?_
    refine LM.val (ov_umax rfl rfl) ?_
    refine LM.val (ov_field Try.underlying72 rfl Try.sizeOf22 rfl (k := 2) rfl rfl) ?_
    first | refine LM.rd (om_ld Try.isAgg22 rfl rfl) ?_
    refine LM.val (ov_usub rfl rfl) ?_
    refine LM.val (ov_assign rfl) ?_
    refine LM.nil ?_
    refine QM.sub (e' := [(4, _), (5, _), (6, _), (7, _), (8, _), (9, _), (10, _), (11, _), (12, _)]) ⟨rfl, rfl, rfl, rfl, rfl, rfl, rfl, rfl, rfl, trivial⟩ ?_
    refine QM.then ?_
    refine wpM.seq ?_
    refine wpM.joinK (α := Bool) (fun b => [(36, .bool b)]) [(4, _), (5, _), (6, _), (7, _), (9, _), (10, _), (11, _), (12, _)] (fun b => (b8, .cells (fT (l.getD i default)).toArray 72 (0, 0)) :: []) (fun b => b = (decide ((l.getD i default).fin ≠ 0) && (!fo || decide (mo.toNat < (lenT (l.getD i default)).toNat)))) ⟨rfl, rfl, rfl, rfl, rfl, rfl, rfl, rfl, trivial⟩ ?_ ?_
    ·
      refine wpM.region ?_
      refine LM.val (ov_field Try.underlying72 rfl Try.sizeOf3 rfl (k := 4) rfl rfl) ?_
      first | refine LM.rd (om_ld Try.isAgg3 rfl rfl) ?_
      refine LM.val (ov_neq rfl rfl) ?_
      refine LM.val (ov_move rfl) ?_
      first | refine LM.splitD (t := 28) rfl (fun h2 => ?_) (fun h2 => ?_) | refine LM.splitB (t := 28) rfl (fun h2 => ?_) (fun h2 => ?_)
      ·
        refine LM.strip (t := 28) rfl rfl rfl ?_
        refine LM.val (ov_move rfl) ?_
        refine LM.strip (t := 28) rfl rfl rfl ?_
        first | refine LM.val (ov_notD rfl) ?_ | refine LM.val (ov_not rfl) ?_
        refine LM.strip (t := 28) rfl rfl rfl ?_
        refine LM.val (ov_move rfl) ?_
        first | refine LM.splitD (t := 31) rfl (fun h3 => ?_) (fun h3 => ?_) | refine LM.splitB (t := 31) rfl (fun h3 => ?_) (fun h3 => ?_)
        ·
          refine LM.drop (t := 31) rfl rfl rfl ?_
          refine LM.drop (t := 31) rfl rfl rfl ?_
          refine LM.drop (t := 31) rfl rfl rfl ?_
          refine LM.strip (t := 28) rfl rfl rfl ?_
          refine LM.val (ov_pickT rfl rfl) ?_
          refine LM.val (ov_pickT rfl rfl) ?_
          refine LM.nil ?_
          refine QM.sub (e' := [(4, _), (5, _), (6, _), (7, _), (9, _), (10, _), (11, _), (12, _), (36, _)]) ⟨rfl, rfl, rfl, rfl, rfl, rfl, rfl, rfl, rfl, trivial⟩ ?_
          -- meet1: h1+ h2+ h3+
          refine QM.meetK (_) ⟨(by first | rfl | exact lk rfl (by congr 1; omega) | exact lk rfl (by simp)), rfl, rfl, rfl, rfl, rfl, rfl, rfl, rfl, trivial⟩ (by (repeat' (first | exact SubM.nil _ | refine SubM.cons rfl ?_ | refine SubM.app ?_))) ?_
          · first | (simp only [h1, h2, h3, decide_true, decide_false, Bool.true_and, Bool.false_and, Bool.and_true, Bool.and_false, Bool.not_true, Bool.not_false, Bool.true_or, Bool.false_or, Bool.or_true, Bool.or_false, ne_eq, not_true_eq_false, not_false_eq_true, Bool.and_self]; done) | (simp only [h1, h2, h3, decide_true, decide_false, Bool.true_and, Bool.false_and, Bool.and_true, Bool.and_false, Bool.not_true, Bool.not_false, Bool.true_or, Bool.false_or, Bool.or_true, Bool.or_false, ne_eq, not_true_eq_false, not_false_eq_true, Bool.and_self]; rfl)
        ·
          refine LM.strip (t := 31) rfl rfl rfl ?_
          refine LM.val (ov_move rfl) ?_
          refine LM.strip (t := 31) rfl rfl rfl ?_
          refine LM.val (ov_move rfl) ?_
          refine LM.strip (t := 31) rfl rfl rfl ?_
          refine LM.val (ov_ugtr rfl rfl) ?_
          refine LM.strip (t := 28) rfl rfl rfl ?_
          refine LM.val (ov_pickF rfl rfl) ?_
          refine LM.val (ov_pickT rfl rfl) ?_
          refine LM.nil ?_
          refine QM.sub (e' := [(4, _), (5, _), (6, _), (7, _), (9, _), (10, _), (11, _), (12, _), (36, _)]) ⟨rfl, rfl, rfl, rfl, rfl, rfl, rfl, rfl, rfl, trivial⟩ ?_
          -- meet2: h1+ h2+ h3-
          refine QM.meetK (_) ⟨(by first | rfl | exact lk rfl (by congr 1; omega) | exact lk rfl (by simp)), rfl, rfl, rfl, rfl, rfl, rfl, rfl, rfl, trivial⟩ (by (repeat' (first | exact SubM.nil _ | refine SubM.cons rfl ?_ | refine SubM.app ?_))) ?_
          · first | (simp only [h1, h2, h3, decide_true, decide_false, Bool.true_and, Bool.false_and, Bool.and_true, Bool.and_false, Bool.not_true, Bool.not_false, Bool.true_or, Bool.false_or, Bool.or_true, Bool.or_false, ne_eq, not_true_eq_false, not_false_eq_true, Bool.and_self]; done) | (simp only [h1, h2, h3, decide_true, decide_false, Bool.true_and, Bool.false_and, Bool.and_true, Bool.and_false, Bool.not_true, Bool.not_false, Bool.true_or, Bool.false_or, Bool.or_true, Bool.or_false, ne_eq, not_true_eq_false, not_false_eq_true, Bool.and_self]; rfl)
      ·
        refine LM.drop (t := 28) rfl rfl rfl ?_
        refine LM.drop (t := 28) rfl rfl rfl ?_
        refine LM.dropU (t := 28) rfl rfl rfl ?_
        refine LM.dropX (t := 31) rfl rfl ?_
        refine LM.dropX (t := 31) rfl rfl ?_
        refine LM.dropX (t := 31) rfl rfl ?_
        refine LM.drop (t := 28) rfl rfl rfl ?_
        refine LM.val (ov_pickF rfl rfl) ?_
        refine LM.nil ?_
        refine QM.sub (e' := [(4, _), (5, _), (6, _), (7, _), (9, _), (10, _), (11, _), (12, _), (36, _)]) ⟨rfl, rfl, rfl, rfl, rfl, rfl, rfl, rfl, rfl, trivial⟩ ?_
        -- meet3: h1+ h2-
        refine QM.meetK (_) ⟨(by first | rfl | exact lk rfl (by congr 1; omega) | exact lk rfl (by simp)), rfl, rfl, rfl, rfl, rfl, rfl, rfl, rfl, trivial⟩ (by (repeat' (first | exact SubM.nil _ | refine SubM.cons rfl ?_ | refine SubM.app ?_))) ?_
        · first | (simp only [h1, h2, decide_true, decide_false, Bool.true_and, Bool.false_and, Bool.and_true, Bool.and_false, Bool.not_true, Bool.not_false, Bool.true_or, Bool.false_or, Bool.or_true, Bool.or_false, ne_eq, not_true_eq_false, not_false_eq_true, Bool.and_self]; done) | (simp only [h1, h2, decide_true, decide_false, Bool.true_and, Bool.false_and, Bool.and_true, Bool.and_false, Bool.not_true, Bool.not_false, Bool.true_or, Bool.false_or, Bool.or_true, Bool.or_false, ne_eq, not_true_eq_false, not_false_eq_true, Bool.and_self]; rfl)
    ·
      rintro b hb
      change QM _ _ _ _ _ ((b8, .cells (fT (l.getD i default)).toArray 72 (0, 0)) :: []) _ _ _
      subst hb
      refine QM.then ?_
      first | refine wpM.condD rfl (fun h4 => ?_) (fun h4 => ?_) | refine wpM.condB rfl (fun h4 => ?_) (fun h4 => ?_)
      ·
        refine wpM.region ?_
        refine LM.val (ov_move rfl) ?_
        refine LM.val (ov_move rfl) ?_
        refine LM.val (ov_assign rfl) ?_
        refine LM.val (ov_assign rfl) ?_
        refine LM.val (ov_assign rfl) ?_
        refine LM.nil ?_
        refine QM.sub (e' := [(4, _), (5, _), (6, _), (10, _), (11, _), (12, _)]) ⟨rfl, rfl, rfl, rfl, rfl, rfl, trivial⟩ ?_
        refine QM.block_normal ?_
        refine QM.then ?_
        refine wpM.region ?_
        refine LM.val (ov_add64 rfl rfl (by omega)) ?_
        refine LM.val (ov_move rfl) ?_
        refine LM.nil ?_
        refine QM.sub (e' := [(4, _), (5, _), (6, _), (10, _), (11, _), (12, _)]) ⟨rfl, rfl, rfl, rfl, rfl, rfl, trivial⟩ ?_
        -- again1: h1+ h4+
        refine QM.againK (i + 1, i, true, lenT (l.getD i default)) ⟨(by first | rfl | exact lk rfl (by congr 1; omega) | exact lk rfl (by simp)), (by first | rfl | exact lk rfl (by congr 1; omega) | exact lk rfl (by simp)), (by first | rfl | exact lk rfl (by congr 1; omega) | exact lk rfl (by simp)), (by first | rfl | exact lk rfl (by congr 1; omega) | exact lk rfl (by simp)), rfl, rfl, trivial⟩ (by (repeat' (first | exact SubM.nil _ | refine SubM.cons rfl ?_ | refine SubM.app ?_))) (fun _ h => h) ?_ ?_
        · refine ⟨by omega, ?_⟩; simp only [Bool.and_eq_true, Bool.or_eq_true, decide_eq_true_eq, Bool.not_eq_true'] at h4; simp only [lonF, lonS]; rw [if_neg h4.1]; revert hf; cases lonF l i with | none => (intro hf; (repeat' (first | exact trivial | exact rfl | constructor))) | some p => (obtain ⟨j, m⟩ := p; intro ⟨_, h6, h7⟩; rcases h4.2 with h8 | h8; (rw [h6] at h8; cases h8); (subst h7; simp only [if_pos h8]; (repeat' (first | exact trivial | exact rfl | constructor))))
        · first | omega | (dsimp only; omega)
      ·
        refine wpM.skip ?_
        refine QM.block_normal ?_
        refine QM.then ?_
        refine wpM.region ?_
        refine LM.val (ov_add64 rfl rfl (by omega)) ?_
        refine LM.val (ov_move rfl) ?_
        refine LM.nil ?_
        refine QM.sub (e' := [(4, _), (5, _), (6, _), (10, _), (11, _), (12, _)]) ⟨rfl, rfl, rfl, rfl, rfl, rfl, trivial⟩ ?_
        -- again2: h1+ h4-
        refine QM.againK (i + 1, bp, fo, mo) ⟨(by first | rfl | exact lk rfl (by congr 1; omega) | exact lk rfl (by simp)), (by first | rfl | exact lk rfl (by congr 1; omega) | exact lk rfl (by simp)), (by first | rfl | exact lk rfl (by congr 1; omega) | exact lk rfl (by simp)), (by first | rfl | exact lk rfl (by congr 1; omega) | exact lk rfl (by simp)), rfl, rfl, trivial⟩ (by (repeat' (first | exact SubM.nil _ | refine SubM.cons rfl ?_ | refine SubM.app ?_))) (fun _ h => h) ?_ ?_
        · refine ⟨by omega, ?_⟩; simp only [lonF, lonS]; by_cases hz : (l.getD i default).fin = 0; (rw [if_pos hz]; exact hf); (rw [if_neg hz]; revert hf; cases lonF l i with | none => (intro ⟨_, h6, _⟩; subst h6; simp [hz, -List.getD_eq_getElem?_getD] at h4) | some p => (obtain ⟨j, m⟩ := p; intro ⟨h5, h6, h7⟩; subst h6; subst h7; simp [hz, -List.getD_eq_getElem?_getD] at h4; simp only [if_neg (Nat.not_lt.2 h4)]; (repeat' (first | exact trivial | exact rfl | exact h5 | constructor))))
        · first | omega | (dsimp only; omega)
  ·
    refine wpM.exit ?_
    refine QM.then_exit ?_
    refine QM.then_exit ?_
    refine QM.block_hit ?_
    refine QM.then ?_
    refine wpM.seq ?_
    refine wpM.region ?_
    refine LM.val (ov_move rfl) ?_
    refine LM.val (ov_move rfl) ?_
    refine LM.val (ov_assign rfl) ?_
    refine LM.val (ov_assign rfl) ?_
    refine LM.nil ?_
    refine QM.sub (e' := [(2, _), (3, _)]) ⟨rfl, rfl, trivial⟩ ?_
    refine QM.then ?_
    refine wpM.ret ?_
    refine QM.leave (.inl rfl) [.tmp 2, .tmp 3] Try.results44 rfl ?_
    intro w' hm' hc' hg'
    -- leaf 1: h1-
    have hkl : i = l.length := (by omega); subst hkl; refine ⟨?_, hc'⟩; revert hf; cases lonF l l.length with | none => (intro ⟨h5, h6, _⟩; subst h5; subst h6; rfl) | some p => (intro ⟨h5, h6, _⟩; subst h5; subst h6; rfl)

set_option maxRecDepth 100000 in
theorem rlongest_spec {l : List St} {ad : Option Addr} {n cap : Nat} (w : World) (hn : n = l.length) (hl : Sr fT 6 l (.slice ad n cap) w) (hx2 : l.length ≤ 1000000000000) : Ret Try.prog 45 #[.slice ad n cap] w (fun v w' => v = .int .i64 (lonI (lonF l l.length)) ∧ Ext w w') := by
  refine Ret.enterM (l := [.slice ad n cap]) Try.func45 rfl Try.ntmps45 rfl ([]) (no) (Mem.nil w) ?_
  refine wpM.seq ?_
  refine wpM.region ?_
  refine LM.val (ov_assign rfl) ?_
  refine LM.nil ?_
  refine QM.sub (e' := [(0, _)]) ⟨rfl, trivial⟩ ?_
  refine QM.then ?_
  refine wpM.seq ?_
  refine wpM.region ?_
  refine LM.val (ov_assign rfl) ?_
  refine LM.nil ?_
  refine QM.sub (e' := [(0, _), (3, _)]) ⟨rfl, rfl, trivial⟩ ?_
  refine QM.then ?_
  refine wpM.seq ?_
  refine wpM.region ?_
  refine LM.val (ov_assign rfl) ?_
  refine LM.nil ?_
  refine QM.sub (e' := [(0, _), (3, _), (4, _)]) ⟨rfl, rfl, rfl, trivial⟩ ?_
  refine QM.then ?_
  refine wpM.seq ?_
  refine wpM.seq ?_
  refine wpM.region ?_
  refine LM.val (ov_assign rfl) ?_
  refine LM.nil ?_
  refine QM.sub (e' := [(0, _), (3, _), (4, _), (5, _)]) ⟨rfl, rfl, rfl, rfl, trivial⟩ ?_
  refine QM.then ?_
  refine wpM.block ?_
  refine wpM.loopK0 (α := Nat × Int × BitVec 64) (fun ⟨i, bp, mo⟩ => [(3, .int .i64 bp), (4, U mo), (5, .int .i64 (i : Nat))]) [(0, _)] (fun ⟨i, bp, mo⟩ => []) (fun ⟨i, bp, mo⟩ => i ≤ l.length ∧ bp = lonI (lonF l i) ∧ (match lonF l i with | some p => mo = p.2 | none => mo = 0#64)) (fun ⟨i, bp, mo⟩ => l.length - i) ((0, -1, 0#64)) ⟨(by first | rfl | exact lk rfl (by congr 1; omega) | exact lk rfl (by simp)), (by first | rfl | exact lk rfl (by congr 1; omega) | exact lk rfl (by simp)), (by first | rfl | exact lk rfl (by congr 1; omega) | exact lk rfl (by simp)), rfl, trivial⟩ (by (repeat' (first | exact SubM.nil _ | refine SubM.cons rfl ?_ | refine SubM.app ?_))) ⟨Nat.zero_le _, rfl, rfl⟩ ?_
  rintro ⟨i, bp, mo⟩ ⟨hi, hb, hf⟩
  change wpM _ _ _ _ _ _ _ ([]) _ _ _
  refine wpM.seq ?_
  refine wpM.seq ?_
  refine wpM.region ?_
  refine LM.val (ov_move rfl) ?_
  refine LM.val (ov_move rfl) ?_
  refine LM.val (ov_len Try.underlying61 rfl) ?_
  refine LM.val (ov_lss rfl rfl) ?_
  refine LM.nil ?_
  refine QM.sub (e' := [(0, _), (3, _), (4, _), (5, _), (10, _)]) ⟨rfl, rfl, rfl, rfl, rfl, trivial⟩ ?_
  refine QM.then ?_
  first | refine wpM.condD rfl (fun h1 => ?_) (fun h1 => ?_) | refine wpM.condB rfl (fun h1 => ?_) (fun h1 => ?_)
  ·
    refine wpM.skip ?_
    refine QM.then ?_
    refine wpM.seq ?_
    refine wpM.block ?_
    refine wpM.seq ?_
    refine wpM.seq ?_
    refine wpM.region ?_
    refine LM.val (ov_move rfl) ?_
    refine LM.val (ov_move rfl) ?_
    first | refine LM.val (ov_idxSN (by first | exact Sr.spt (by assumption) | exact Sl.spt (by assumption)) Try.underlying61 Try.sizeOf72 rfl rfl (by omega)) ?_ | refine LM.val (ov_idxS (by first | exact Sr.spt (by assumption) | exact Sl.spt (by assumption)) Try.underlying61 Try.sizeOf72 rfl rfl (by omega)) ?_ | refine LM.val (ov_idx Try.underlying61 Try.sizeOf72 rfl rfl (by omega)) ?_
    refine LM.val (ov_field Try.underlying72 rfl Try.sizeOf3 rfl (k := 4) rfl rfl) ?_
    first | refine LM.rd (om_slE (j := 4) (by assumption) (by intro _; rfl) Try.isAgg3 rfl rfl (by exact getq default (by first | omega | (simp only [List.length_set, List.length_append, List.length_cons, List.length_nil]; omega))) rfl (by rfl)) ?_ | refine LM.rdC (om_srE (j := 4) (by assumption) Try.isAgg3 rfl rfl (by exact getq default (by first | omega | (simp only [List.length_set, List.length_append, List.length_cons, List.length_nil]; omega))) (by rfl) (by rfl) id) ?_ | refine LM.rd (om_ld Try.isAgg3 rfl rfl) ?_
    refine LM.val (ov_eql rfl rfl) ?_
    refine LM.nil ?_
    refine QM.sub (e' := [(0, _), (3, _), (4, _), (5, _), (18, _)]) ⟨rfl, rfl, rfl, rfl, rfl, trivial⟩ ?_
    refine QM.then ?_
    first | refine wpM.condD rfl (fun h2 => ?_) (fun h2 => ?_) | refine wpM.condB rfl (fun h2 => ?_) (fun h2 => ?_)
    ·
      refine wpM.exit ?_
      refine QM.then_exit ?_
      refine QM.block_hit ?_
      refine QM.then ?_
      refine wpM.region ?_
      refine LM.val (ov_move rfl) ?_
      refine LM.val (ov_add64 rfl rfl (by omega)) ?_
      refine LM.val (ov_assign rfl) ?_
      refine LM.nil ?_
      refine QM.sub (e' := [(0, _), (3, _), (4, _), (5, _)]) ⟨rfl, rfl, rfl, rfl, trivial⟩ ?_
      -- again1: h1+ h2+
      refine QM.againK (i + 1, bp, mo) ⟨(by first | rfl | exact lk rfl (by congr 1; omega) | exact lk rfl (by simp)), (by first | rfl | exact lk rfl (by congr 1; omega) | exact lk rfl (by simp)), (by first | rfl | exact lk rfl (by congr 1; omega) | exact lk rfl (by simp)), rfl, trivial⟩ (by (repeat' (first | exact SubM.nil _ | refine SubM.cons rfl ?_ | refine SubM.app ?_))) (fun _ h => h) ?_ ?_
      · exact ⟨by omega, by rw [hb]; simp only [lonF, lonS]; rw [if_pos h2], by simp only [lonF, lonS]; rw [if_pos h2]; exact hf⟩
      · first | omega | (dsimp only; omega)
    ·
      refine wpM.skip ?_
      refine QM.then ?_
      refine wpM.seq ?_
      refine wpM.region ?_
      refine LM.val (ov_assign rfl) ?_
      refine LM.nil ?_
      refine QM.sub (e' := [(0, _), (3, _), (4, _), (5, _), (6, _)]) ⟨rfl, rfl, rfl, rfl, rfl, trivial⟩ ?_
      refine QM.then ?_
      refine wpM.seq ?_
      refine wpM.seq ?_
      refine wpM.draw [(0, 0), (1, 0), (2, 0), (3, 0), (4, 1), (5, 0), (6, 0), (7, 0), (8, 0), (9, 1), (10, 0)] (by kernel_rfl) (by kernel_rfl) ?_
      refine LD.val rfl rfl (ov_move rfl) ?_
      refine LD.val rfl rfl (ov_move rfl) ?_
      first | refine LD.val rfl rfl (ov_idxSN (by first | exact Sr.spt (by assumption) | exact Sl.spt (by assumption)) Try.underlying61 Try.sizeOf72 rfl rfl (by omega)) ?_ | refine LD.val rfl rfl (ov_idxS (by first | exact Sr.spt (by assumption) | exact Sl.spt (by assumption)) Try.underlying61 Try.sizeOf72 rfl rfl (by omega)) ?_ | refine LD.val rfl rfl (ov_idx Try.underlying61 Try.sizeOf72 rfl rfl (by omega)) ?_
      refine LD.val rfl rfl (ov_field Try.underlying72 rfl Try.sizeOf22 rfl (k := 3) rfl rfl) ?_
      first | refine LD.rd rfl rfl (om_slE (j := 3) (by assumption) (by intro _; rfl) Try.isAgg22 rfl rfl (by exact getq default (by first | omega | (simp only [List.length_set, List.length_append, List.length_cons, List.length_nil]; omega))) rfl (by rfl)) ?_ | refine LD.rdC rfl rfl (om_srE (j := 3) (by assumption) Try.isAgg22 rfl rfl (by exact getq default (by first | omega | (simp only [List.length_set, List.length_append, List.length_cons, List.length_nil]; omega))) (by rfl) (by rfl) id) ?_ | refine LD.rd rfl rfl (om_ld Try.isAgg22 rfl rfl) ?_
      refine LD.val rfl rfl (ov_move rfl) ?_
      refine LD.val rfl rfl (ov_move rfl) ?_
      first | refine LD.val rfl rfl (ov_idxSN (by first | exact Sr.spt (by assumption) | exact Sl.spt (by assumption)) Try.underlying61 Try.sizeOf72 rfl rfl (by omega)) ?_ | refine LD.val rfl rfl (ov_idxS (by first | exact Sr.spt (by assumption) | exact Sl.spt (by assumption)) Try.underlying61 Try.sizeOf72 rfl rfl (by omega)) ?_ | refine LD.val rfl rfl (ov_idx Try.underlying61 Try.sizeOf72 rfl rfl (by omega)) ?_
      refine LD.val rfl rfl (ov_field Try.underlying72 rfl Try.sizeOf22 rfl (k := 2) rfl rfl) ?_
      first | refine LD.rd rfl rfl (om_slE (j := 2) (by assumption) (by intro _; rfl) Try.isAgg22 rfl rfl (by exact getq default (by first | omega | (simp only [List.length_set, List.length_append, List.length_cons, List.length_nil]; omega))) rfl (by rfl)) ?_ | refine LD.rdC rfl rfl (om_srE (j := 2) (by assumption) Try.isAgg22 rfl rfl (by exact getq default (by first | omega | (simp only [List.length_set, List.length_append, List.length_cons, List.length_nil]; omega))) (by rfl) (by rfl) id) ?_ | refine LD.rd rfl rfl (om_ld Try.isAgg22 rfl rfl) ?_
      refine LD.val rfl rfl (ov_ugtr rfl rfl) ?_
      refine LD.nil ?_
      refine QM.sub (e' := [(0, _), (3, _), (4, _), (5, _), (6, _), (29, _)]) ⟨rfl, rfl, rfl, rfl, rfl, rfl, trivial⟩ ?_
      refine QM.then ?_
      refine wpM.joinK (α := BitVec 64) (fun n => [(6, U n)]) [(0, _), (3, _), (4, _), (5, _)] (fun n => []) (fun n => n = lenT (l.getD i default)) ⟨rfl, rfl, rfl, rfl, trivial⟩ ?_ ?_
      ·
        first | refine wpM.condD rfl (fun h3 => ?_) (fun h3 => ?_) | refine wpM.condB rfl (fun h3 => ?_) (fun h3 => ?_)
        ·
          refine wpM.draw [(0, 0), (1, 0), (2, 0), (3, 0), (4, 1), (5, 0), (6, 0), (7, 0), (8, 0), (9, 1), (10, 0), (11, 0)] (by kernel_rfl) (by kernel_rfl) ?_
          refine LD.val rfl rfl (ov_move rfl) ?_
          refine LD.val rfl rfl (ov_move rfl) ?_
          first | refine LD.val rfl rfl (ov_idxSN (by first | exact Sr.spt (by assumption) | exact Sl.spt (by assumption)) Try.underlying61 Try.sizeOf72 rfl rfl (by omega)) ?_ | refine LD.val rfl rfl (ov_idxS (by first | exact Sr.spt (by assumption) | exact Sl.spt (by assumption)) Try.underlying61 Try.sizeOf72 rfl rfl (by omega)) ?_ | refine LD.val rfl rfl (ov_idx Try.underlying61 Try.sizeOf72 rfl rfl (by omega)) ?_
          refine LD.val rfl rfl (ov_field Try.underlying72 rfl Try.sizeOf22 rfl (k := 3) rfl rfl) ?_
          first | refine LD.rd rfl rfl (om_slE (j := 3) (by assumption) (by intro _; rfl) Try.isAgg22 rfl rfl (by exact getq default (by first | omega | (simp only [List.length_set, List.length_append, List.length_cons, List.length_nil]; omega))) rfl (by rfl)) ?_ | refine LD.rdC rfl rfl (om_srE (j := 3) (by assumption) Try.isAgg22 rfl rfl (by exact getq default (by first | omega | (simp only [List.length_set, List.length_append, List.length_cons, List.length_nil]; omega))) (by rfl) (by rfl) id) ?_ | refine LD.rd rfl rfl (om_ld Try.isAgg22 rfl rfl) ?_
          refine LD.val rfl rfl (ov_move rfl) ?_
          refine LD.val rfl rfl (ov_move rfl) ?_
          first | refine LD.val rfl rfl (ov_idxSN (by first | exact Sr.spt (by assumption) | exact Sl.spt (by assumption)) Try.underlying61 Try.sizeOf72 rfl rfl (by omega)) ?_ | refine LD.val rfl rfl (ov_idxS (by first | exact Sr.spt (by assumption) | exact Sl.spt (by assumption)) Try.underlying61 Try.sizeOf72 rfl rfl (by omega)) ?_ | refine LD.val rfl rfl (ov_idx Try.underlying61 Try.sizeOf72 rfl rfl (by omega)) ?_
          refine LD.val rfl rfl (ov_field Try.underlying72 rfl Try.sizeOf22 rfl (k := 2) rfl rfl) ?_
          first | refine LD.rd rfl rfl (om_slE (j := 2) (by assumption) (by intro _; rfl) Try.isAgg22 rfl rfl (by exact getq default (by first | omega | (simp only [List.length_set, List.length_append, List.length_cons, List.length_nil]; omega))) rfl (by rfl)) ?_ | refine LD.rdC rfl rfl (om_srE (j := 2) (by assumption) Try.isAgg22 rfl rfl (by exact getq default (by first | omega | (simp only [List.length_set, List.length_append, List.length_cons, List.length_nil]; omega))) (by rfl) (by rfl) id) ?_ | refine LD.rd rfl rfl (om_ld Try.isAgg22 rfl rfl) ?_
          refine LD.val rfl rfl (ov_usub rfl rfl) ?_
          refine LD.val rfl rfl (ov_assign rfl) ?_
          refine LD.nil ?_
          refine QM.sub (e' := [(0, _), (3, _), (4, _), (5, _), (6, _)]) ⟨rfl, rfl, rfl, rfl, rfl, trivial⟩ ?_
          -- meet1: h1+ h2- h3+
          refine QM.meetK (_) ⟨(by first | rfl | exact lk rfl (by congr 1; omega) | exact lk rfl (by simp)), rfl, rfl, rfl, rfl, trivial⟩ (by (repeat' (first | exact SubM.nil _ | refine SubM.cons rfl ?_ | refine SubM.app ?_))) ?_
          · unfold lenT; rw [if_neg (by omega)]
        ·
          refine wpM.skip ?_
          -- meet2: h1+ h2- h3-
          refine QM.meetK (0#64) ⟨(by first | rfl | exact lk rfl (by congr 1; omega) | exact lk rfl (by simp)), rfl, rfl, rfl, rfl, trivial⟩ (by (repeat' (first | exact SubM.nil _ | refine SubM.cons rfl ?_ | refine SubM.app ?_))) ?_
          · exact (lenT_zero h3).symm
      ·
        rintro n hn6
        change QM _ _ _ _ _ ([]) _ _ _
        subst hn6
        refine QM.then ?_
        refine wpM.seq ?_
        refine wpM.joinK (α := Bool) (fun b => [(47, .bool b)]) [(0, _), (3, _), (4, _), (5, _), (6, _)] (fun b => []) (fun b => b = (decide (bp < 0) || decide (mo.toNat < (lenT (l.getD i default)).toNat))) ⟨rfl, rfl, rfl, rfl, rfl, trivial⟩ ?_ ?_
        ·
          refine wpM.region ?_
          refine LM.val (ov_move rfl) ?_
          refine LM.val (ov_lss rfl rfl) ?_
          refine LM.val (ov_move rfl) ?_
          first | refine LM.splitD (t := 43) rfl (fun h4 => ?_) (fun h4 => ?_) | refine LM.splitB (t := 43) rfl (fun h4 => ?_) (fun h4 => ?_)
          ·
            refine LM.drop (t := 43) rfl rfl rfl ?_
            refine LM.drop (t := 43) rfl rfl rfl ?_
            refine LM.drop (t := 43) rfl rfl rfl ?_
            refine LM.val (ov_pickT rfl rfl) ?_
            refine LM.nil ?_
            refine QM.sub (e' := [(0, _), (3, _), (4, _), (5, _), (6, _), (47, _)]) ⟨rfl, rfl, rfl, rfl, rfl, rfl, trivial⟩ ?_
            -- meet1: h1+ h2- h4+
            refine QM.meetK (_) ⟨(by first | rfl | exact lk rfl (by congr 1; omega) | exact lk rfl (by simp)), rfl, rfl, rfl, rfl, rfl, trivial⟩ (by (repeat' (first | exact SubM.nil _ | refine SubM.cons rfl ?_ | refine SubM.app ?_))) ?_
            · simp only [h1, h2, h4, decide_true, decide_false, Bool.true_and, Bool.false_and, Bool.and_true, Bool.and_false, Bool.not_true, Bool.not_false, Bool.true_or, Bool.false_or, Bool.or_true, Bool.or_false, ne_eq, not_true_eq_false, not_false_eq_true, Bool.and_self]
          ·
            refine LM.strip (t := 43) rfl rfl rfl ?_
            refine LM.val (ov_move rfl) ?_
            refine LM.strip (t := 43) rfl rfl rfl ?_
            refine LM.val (ov_move rfl) ?_
            refine LM.strip (t := 43) rfl rfl rfl ?_
            refine LM.val (ov_ugtr rfl rfl) ?_
            refine LM.val (ov_pickF rfl rfl) ?_
            refine LM.nil ?_
            refine QM.sub (e' := [(0, _), (3, _), (4, _), (5, _), (6, _), (47, _)]) ⟨rfl, rfl, rfl, rfl, rfl, rfl, trivial⟩ ?_
            -- meet2: h1+ h2- h4-
            refine QM.meetK (_) ⟨(by first | rfl | exact lk rfl (by congr 1; omega) | exact lk rfl (by simp)), rfl, rfl, rfl, rfl, rfl, trivial⟩ (by (repeat' (first | exact SubM.nil _ | refine SubM.cons rfl ?_ | refine SubM.app ?_))) ?_
            · simp only [h1, h2, h4, decide_true, decide_false, Bool.true_and, Bool.false_and, Bool.and_true, Bool.and_false, Bool.not_true, Bool.not_false, Bool.true_or, Bool.false_or, Bool.or_true, Bool.or_false, ne_eq, not_true_eq_false, not_false_eq_true, Bool.and_self]
        ·
          rintro b hb47
          change QM _ _ _ _ _ ([]) _ _ _
          subst hb47
          refine QM.then ?_
          first | refine wpM.condD rfl (fun h5 => ?_) (fun h5 => ?_) | refine wpM.condB rfl (fun h5 => ?_) (fun h5 => ?_)
          ·
            refine wpM.seq ?_
            refine wpM.region ?_
            refine LM.val (ov_move rfl) ?_
            refine LM.val (ov_assign rfl) ?_
            refine LM.nil ?_
            refine QM.sub (e' := [(0, _), (3, _), (5, _), (6, _)]) ⟨rfl, rfl, rfl, rfl, trivial⟩ ?_
            refine QM.then ?_
            refine wpM.region ?_
            refine LM.val (ov_move rfl) ?_
            refine LM.val (ov_assign rfl) ?_
            refine LM.nil ?_
            refine QM.sub (e' := [(0, _), (3, _), (4, _), (5, _)]) ⟨rfl, rfl, rfl, rfl, trivial⟩ ?_
            refine QM.block_normal ?_
            refine QM.then ?_
            refine wpM.region ?_
            refine LM.val (ov_move rfl) ?_
            refine LM.val (ov_add64 rfl rfl (by omega)) ?_
            refine LM.val (ov_assign rfl) ?_
            refine LM.nil ?_
            refine QM.sub (e' := [(0, _), (3, _), (4, _), (5, _)]) ⟨rfl, rfl, rfl, rfl, trivial⟩ ?_
            -- again2: h1+ h2- h5+
            refine QM.againK (i + 1, (i : Nat), lenT (l.getD i default)) ⟨(by first | rfl | exact lk rfl (by congr 1; omega) | exact lk rfl (by simp)), (by first | rfl | exact lk rfl (by congr 1; omega) | exact lk rfl (by simp)), (by first | rfl | exact lk rfl (by congr 1; omega) | exact lk rfl (by simp)), rfl, trivial⟩ (by (repeat' (first | exact SubM.nil _ | refine SubM.cons rfl ?_ | refine SubM.app ?_))) (fun _ h => h) ?_ ?_
            · refine ⟨by omega, ?_⟩; simp only [Bool.or_eq_true, decide_eq_true_eq] at h5; simp only [lonF, lonS]; rw [if_neg h2]; revert hf hb; cases lonF l i with | none => (intro hb hf; exact ⟨rfl, rfl⟩) | some p => (obtain ⟨j, m⟩ := p; intro hb hf; subst hf; rcases h5 with h8 | h8; (rw [hb] at h8; simp only [lonI] at h8; omega); (simp only [if_pos h8]; (repeat' (first | exact trivial | exact rfl | constructor))))
            · first | omega | (dsimp only; omega)
          ·
            refine wpM.skip ?_
            refine QM.block_normal ?_
            refine QM.then ?_
            refine wpM.region ?_
            refine LM.val (ov_move rfl) ?_
            refine LM.val (ov_add64 rfl rfl (by omega)) ?_
            refine LM.val (ov_assign rfl) ?_
            refine LM.nil ?_
            refine QM.sub (e' := [(0, _), (3, _), (4, _), (5, _)]) ⟨rfl, rfl, rfl, rfl, trivial⟩ ?_
            -- again3: h1+ h2- h5-
            refine QM.againK (i + 1, bp, mo) ⟨(by first | rfl | exact lk rfl (by congr 1; omega) | exact lk rfl (by simp)), (by first | rfl | exact lk rfl (by congr 1; omega) | exact lk rfl (by simp)), (by first | rfl | exact lk rfl (by congr 1; omega) | exact lk rfl (by simp)), rfl, trivial⟩ (by (repeat' (first | exact SubM.nil _ | refine SubM.cons rfl ?_ | refine SubM.app ?_))) (fun _ h => h) ?_ ?_
            · refine ⟨by omega, ?_⟩; simp only [Bool.or_eq_false_iff, decide_eq_false_iff_not] at h5; simp only [lonF, lonS]; rw [if_neg h2]; revert hf hb; cases lonF l i with | none => (intro hb hf; exact absurd (show bp < 0 by rw [hb]; decide) h5.1) | some p => (obtain ⟨j, m⟩ := p; intro hb hf; subst hf; simp only [if_neg h5.2]; (repeat' (first | exact trivial | exact rfl | exact hb | constructor)))
            · first | omega | (dsimp only; omega)
  ·
    refine wpM.exit ?_
    refine QM.then_exit ?_
    refine QM.then_exit ?_
    refine QM.block_hit ?_
    refine QM.then ?_
    refine wpM.seq ?_
    refine wpM.region ?_
    refine LM.val (ov_move rfl) ?_
    refine LM.val (ov_assign rfl) ?_
    refine LM.nil ?_
    refine QM.sub (e' := [(2, _)]) ⟨rfl, trivial⟩ ?_
    refine QM.then ?_
    refine wpM.ret ?_
    refine QM.leave (.inl rfl) [.tmp 2] Try.results45 rfl ?_
    intro w' hm' hc' hg'
    -- leaf 1: h1-
    have hkl : i = l.length := (by omega); subst hkl; exact ⟨by rw [hb]; rfl, hc'⟩

end Go.Eng

