/- The walks of ops that fit; of the ops, and the sections, that are gone over. No condition. -/
import Derived.Test.YtkopodpfmdnlcaaCritC
set_option linter.unusedVariables false
set_option linter.unusedSimpArgs false
namespace Go.Eng
open Go Go.Proofs Go.RowKit

abbrev lB (b : Nat) (ad : Option Addr) (n cap : Nat) : Nat × Obj := (b, .cells #[.slice ad n cap] 25 (0, 0))
abbrev iB (b : Nat) (x : Int) : Nat × Obj := (b, .cells #[.int .i64 x] 3 (0, 0))
abbrev eB (b : Nat) (x : Int) : Nat × Obj := (b, .cells #[.int .i64 x] 28 (0, 0))
def EachT (fv : Bool) (ad : Option Addr) (n cap : Nat) (n0 : Nat) (v : Value) (m : Mem0) : Prop := ∃ b1, v = .func (.func 25) #[] #[.pointer (some ⟨b1, 0, none⟩)] ∧ m = [pB b1 fv ad n cap] ∧ n0 ≤ b1
theorem EachT.mono {fv : Bool} {ad : Option Addr} {n cap : Nat} : ∀ (k k' : Nat) u m, k' ≤ k → EachT fv ad n cap k u m → EachT fv ad n cap k' u m := fun k k' u m h ⟨b1, h1, h2, h3⟩ => ⟨b1, h1, h2, by omega⟩
def SecsT (fv : Bool) (ad : Option Addr) (n cap : Nat) (n0 : Nat) (v : Value) (m : Mem0) : Prop := ∃ b1, v = .func (.func 20) #[] #[.pointer (some ⟨b1, 0, none⟩)] ∧ m = [pB b1 fv ad n cap] ∧ n0 ≤ b1
theorem SecsT.mono {fv : Bool} {ad : Option Addr} {n cap : Nat} : ∀ (k k' : Nat) u m, k' ≤ k → SecsT fv ad n cap k u m → SecsT fv ad n cap k' u m := fun k k' u m h ⟨b1, h1, h2, h3⟩ => ⟨b1, h1, h2, by omega⟩
theorem fits_lt {T K : Bool} {q : Bool} {a : Int} {n : Nat} (hq : q = ((T || K) && decide (a ≥ n))) (h : q = false) (ht : T = true) : a < n := by
  rw [h, ht, Bool.true_or, Bool.true_and] at hq
  have := of_decide_eq_false hq.symm
  omega
set_option maxRecDepth 100000 in
set_option maxHeartbeats 1000000 in
theorem fits_spec {xs : List COp} {ls : List CLk} {fv : Bool} {ad ad2 : Option Addr} {n cap n2 cap2 : Nat} (i : Nat) (progs : Int) (w : World) (hn : n = xs.length) (hl : Sr fO 3 xs (.slice ad n cap) w) (hn2 : n2 = ls.length) (hl2 : Sr fL 5 ls (.slice ad2 n2 cap2) w) (hm0 : mayB xs = true) (hi : i < xs.length) : Ret Try.prog 14 #[pV fv ad n cap, .int .i64 (i : Nat), .slice ad2 n2 cap2, .int .i64 progs] w (fun v w' => v = .int .i64 (fitsO fv xs ls progs i) ∧ Ext w w') := by
  have hs := may_small hm0; have hr := right_a (may_at hm0 hi)
  refine Ret.enterM (l := [pV fv ad n cap, .int .i64 (i : Nat), .slice ad2 n2 cap2, .int .i64 progs]) Try.func14 rfl Try.ntmps14 rfl ([]) (no) (Mem.nil w) ?_
  refine wpM.seq ?_
  refine wpM.region ?_
  refine LM.box rfl rfl (fun b4 hb4 => ?_)
  refine LM.val (ov_assign rfl) ?_
  refine LM.nil ?_
  refine QM.sub (e' := [(1, _), (2, _), (3, _), (4, _)]) ⟨rfl, rfl, rfl, rfl, trivial⟩ ?_
  refine QM.then ?_
  refine wpM.seq ?_
  refine wpM.region ?_
  refine LM.val (ov_field Try.underlying24 rfl Try.sizeOf22 rfl (k := 1) rfl rfl) ?_
  first | refine LM.rd (om_ld Try.isAgg22 rfl rfl) ?_
  refine LM.val (ov_move rfl) ?_
  first | refine LM.val (ov_idxSN (by first | exact Sr.spt (by assumption) | exact Sl.spt (by assumption)) Try.underlying22 Try.sizeOf38 rfl rfl (by omega)) ?_ | refine LM.val (ov_idxS (by first | exact Sr.spt (by assumption) | exact Sl.spt (by assumption)) Try.underlying22 Try.sizeOf38 rfl rfl (by omega)) ?_ | refine LM.val (ov_idx Try.underlying22 Try.sizeOf38 rfl rfl (by omega)) ?_
  first | refine LM.rd (om_slA (by assumption) (by intro _; rfl) Try.isAgg38 Try.sizeOf38 rfl (by exact getq default (by first | omega | (simp only [List.length_set, List.length_append, List.length_cons, List.length_nil]; omega)))) ?_ | refine LM.rdC (om_srEA (by assumption) (by intro _; rfl) Try.isAgg38 Try.sizeOf38 rfl (by exact getq default (by first | omega | (simp only [List.length_set, List.length_append, List.length_cons, List.length_nil]; omega))) id) ?_ | refine LM.rd (om_ldW Try.isAgg38 Try.sizeOf38 rfl rfl) ?_ | refine LM.rd (om_ldA Try.isAgg38 Try.sizeOf38 rfl (vs := [_, _, _]) rfl ⟨rfl, rfl, rfl, trivial⟩) ?_
  refine LM.alloc Try.zeroValue38 rfl (fun b9 hb9 => ?_)
  first | refine LM.stW Try.sizeOf38 rfl rfl rfl rfl (by first | rfl | decide | (simp; done)) (fun hlt => absurd hlt (by omega)) ?_ | refine LM.st Try.sizeOf38 rfl rfl rfl (by first | decide | exact Nat.le_of_ble_eq_true rfl | (simp; done) | (simp; omega)) rfl (fun hlt => absurd hlt (by omega)) ?_
  refine LM.nil ?_
  refine QM.sub (e' := [(1, _), (2, _), (3, _), (4, _), (9, _)]) ⟨rfl, rfl, rfl, rfl, rfl, trivial⟩ ?_
  refine QM.then ?_
  refine wpM.seq ?_
  refine wpM.region ?_
  refine LM.val (ov_field Try.underlying38 rfl Try.sizeOf3 rfl (k := 0) rfl rfl) ?_
  first | refine LM.rd (om_ld Try.isAgg3 rfl rfl) ?_
  refine LM.callE (oc_call (enters_fn Try.func21 (by kernel_rfl) rfl) rfl) (fun w hm hc hg => takes_spec _ w) ?_
  refine LM.val (ov_assign rfl) ?_
  refine LM.nil ?_
  refine QM.sub (e' := [(1, _), (2, _), (3, _), (4, _), (9, _), (10, _)]) ⟨rfl, rfl, rfl, rfl, rfl, rfl, trivial⟩ ?_
  refine QM.then ?_
  refine wpM.seq ?_
  refine wpM.block ?_
  refine wpM.seq ?_
  refine wpM.seq ?_
  refine wpM.joinK (α := Bool) (fun q => [(20, .bool q)]) [(1, _), (2, _), (3, _), (4, _), (9, _), (10, _)] (fun q => oB b9 (xs.getD i default) :: pB b4 fv ad n cap :: []) (fun q => q = ((takesB (xs.getD i default).k || decide ((xs.getD i default).k = 6)) && decide ((xs.getD i default).a ≥ n2))) ⟨rfl, rfl, rfl, rfl, rfl, rfl, trivial⟩ ?_ ?_
  ·
    refine wpM.region ?_
    refine LM.val (ov_move rfl) ?_
    refine LM.val (ov_move rfl) ?_
    first | refine LM.splitD (t := 22) rfl (fun h1 => ?_) (fun h1 => ?_) | refine LM.splitB (t := 22) rfl (fun h1 => ?_) (fun h1 => ?_)
    ·
      refine LM.drop (t := 22) rfl rfl rfl ?_
      refine LM.drop (t := 22) rfl rfl rfl ?_
      refine LM.drop (t := 22) rfl rfl rfl ?_
      refine LM.val (ov_pickT rfl rfl) ?_
      refine LM.val (ov_move rfl) ?_
      refine LM.strip (t := 27) rfl rfl rfl ?_
      refine LM.val (ov_field Try.underlying38 rfl Try.sizeOf3 rfl (k := 1) rfl rfl) ?_
      refine LM.strip (t := 27) rfl rfl rfl ?_
      first | refine LM.rd (om_ld Try.isAgg3 rfl rfl) ?_
      refine LM.strip (t := 27) rfl rfl rfl ?_
      refine LM.val (ov_move rfl) ?_
      refine LM.strip (t := 27) rfl rfl rfl ?_
      refine LM.val (ov_len Try.underlying25 rfl) ?_
      refine LM.strip (t := 27) rfl rfl rfl ?_
      refine LM.val (ov_geq rfl rfl) ?_
      refine LM.val (ov_pickT rfl rfl) ?_
      refine LM.val (ov_assign rfl) ?_
      refine LM.nil ?_
      refine QM.sub (e' := [(1, _), (2, _), (3, _), (4, _), (9, _), (10, _), (20, _)]) ⟨rfl, rfl, rfl, rfl, rfl, rfl, rfl, trivial⟩ ?_
      -- meet1: h1+
      refine QM.meetK (_) ⟨(by first | rfl | exact lk rfl (by congr 1; omega) | exact lk rfl (by simp)), rfl, rfl, rfl, rfl, rfl, rfl, trivial⟩ (by (repeat' (first | exact SubM.nil _ | refine SubM.cons rfl ?_ | refine SubM.app ?_))) ?_
      · simp only [h1, decide_true, decide_false, Bool.true_and, Bool.false_and, Bool.and_true, Bool.and_false, Bool.not_true, Bool.not_false, Bool.true_or, Bool.false_or, Bool.or_true, Bool.or_false, ne_eq, not_true_eq_false, not_false_eq_true, Bool.and_self]
    ·
      refine LM.strip (t := 22) rfl rfl rfl ?_
      refine LM.val (ov_field Try.underlying38 rfl Try.sizeOf3 rfl (k := 0) rfl rfl) ?_
      refine LM.strip (t := 22) rfl rfl rfl ?_
      first | refine LM.rd (om_ld Try.isAgg3 rfl rfl) ?_
      refine LM.strip (t := 22) rfl rfl rfl ?_
      refine LM.val (ov_eql rfl rfl) ?_
      refine LM.val (ov_pickF rfl rfl) ?_
      refine LM.val (ov_move rfl) ?_
      first | refine LM.splitD (t := 27) rfl (fun h2 => ?_) (fun h2 => ?_) | refine LM.splitB (t := 27) rfl (fun h2 => ?_) (fun h2 => ?_)
      ·
        refine LM.strip (t := 27) rfl rfl rfl ?_
        refine LM.val (ov_field Try.underlying38 rfl Try.sizeOf3 rfl (k := 1) rfl rfl) ?_
        refine LM.strip (t := 27) rfl rfl rfl ?_
        first | refine LM.rd (om_ld Try.isAgg3 rfl rfl) ?_
        refine LM.strip (t := 27) rfl rfl rfl ?_
        refine LM.val (ov_move rfl) ?_
        refine LM.strip (t := 27) rfl rfl rfl ?_
        refine LM.val (ov_len Try.underlying25 rfl) ?_
        refine LM.strip (t := 27) rfl rfl rfl ?_
        refine LM.val (ov_geq rfl rfl) ?_
        refine LM.val (ov_pickT rfl rfl) ?_
        refine LM.val (ov_assign rfl) ?_
        refine LM.nil ?_
        refine QM.sub (e' := [(1, _), (2, _), (3, _), (4, _), (9, _), (10, _), (20, _)]) ⟨rfl, rfl, rfl, rfl, rfl, rfl, rfl, trivial⟩ ?_
        -- meet2: h1- h2+
        refine QM.meetK (_) ⟨(by first | rfl | exact lk rfl (by congr 1; omega) | exact lk rfl (by simp)), rfl, rfl, rfl, rfl, rfl, rfl, trivial⟩ (by (repeat' (first | exact SubM.nil _ | refine SubM.cons rfl ?_ | refine SubM.app ?_))) ?_
        · simp only [h1, h2, decide_true, decide_false, Bool.true_and, Bool.false_and, Bool.and_true, Bool.and_false, Bool.not_true, Bool.not_false, Bool.true_or, Bool.false_or, Bool.or_true, Bool.or_false, ne_eq, not_true_eq_false, not_false_eq_true, Bool.and_self]
      ·
        refine LM.drop (t := 27) rfl rfl rfl ?_
        refine LM.drop (t := 27) rfl rfl rfl ?_
        refine LM.drop (t := 27) rfl rfl rfl ?_
        refine LM.drop (t := 27) rfl rfl rfl ?_
        refine LM.drop (t := 27) rfl rfl rfl ?_
        refine LM.val (ov_pickF rfl rfl) ?_
        refine LM.val (ov_assign rfl) ?_
        refine LM.nil ?_
        refine QM.sub (e' := [(1, _), (2, _), (3, _), (4, _), (9, _), (10, _), (20, _)]) ⟨rfl, rfl, rfl, rfl, rfl, rfl, rfl, trivial⟩ ?_
        -- meet3: h1- h2-
        refine QM.meetK (_) ⟨(by first | rfl | exact lk rfl (by congr 1; omega) | exact lk rfl (by simp)), rfl, rfl, rfl, rfl, rfl, rfl, trivial⟩ (by (repeat' (first | exact SubM.nil _ | refine SubM.cons rfl ?_ | refine SubM.app ?_))) ?_
        · simp only [h1, h2, decide_true, decide_false, Bool.true_and, Bool.false_and, Bool.and_true, Bool.and_false, Bool.not_true, Bool.not_false, Bool.true_or, Bool.false_or, Bool.or_true, Bool.or_false, ne_eq, not_true_eq_false, not_false_eq_true, Bool.and_self]
  ·
    rintro q hq
    change QM _ _ _ _ _ (oB b9 (xs.getD i default) :: pB b4 fv ad n cap :: []) _ _ _
    refine QM.then ?_
    first | refine wpM.condXD (t := 20) rfl (fun h3 => ?_) (fun h3 => ?_) | refine wpM.condXB (t := 20) rfl (fun h3 => ?_) (fun h3 => ?_)
    ·
      refine wpM.skip ?_
      refine QM.then ?_
      refine wpM.condT rfl ?_
      refine wpM.seq ?_
      refine wpM.region ?_
      refine LM.val (ov_assign rfl) ?_
      refine LM.nil ?_
      refine QM.sub (e' := [(8, _)]) ⟨rfl, trivial⟩ ?_
      refine QM.then ?_
      refine wpM.ret ?_
      refine QM.block_ret ?_
      refine QM.then_ret ?_
      refine QM.leave (.inl rfl) [.tmp 8] Try.results14 rfl ?_
      intro w' hm' hc' hg'
      -- leaf 1: h3+
      refine ⟨?_, hc'⟩; simp only [resV, fitsO, ← hn, ← hn2, ← hq]; simp only [h3, decide_true, decide_false, Bool.true_and, Bool.false_and, Bool.and_true, Bool.and_false, Bool.not_true, Bool.not_false, Bool.true_or, Bool.false_or, Bool.or_true, Bool.or_false, ne_eq, not_true_eq_false, not_false_eq_true, Bool.and_self, if_true, ite_true]
    ·
      refine wpM.joinK (α := Bool) (fun q2 => [(20, .bool q2)]) [(1, _), (2, _), (4, _), (9, _), (10, _)] (fun q2 => oB b9 (xs.getD i default) :: pB b4 fv ad n cap :: []) (fun q2 => q2 = (decide ((xs.getD i default).k = 9) && decide ((xs.getD i default).a ≥ progs))) ⟨rfl, rfl, rfl, rfl, rfl, trivial⟩ ?_ ?_
      ·
        refine wpM.region ?_
        refine LM.val (ov_field Try.underlying38 rfl Try.sizeOf3 rfl (k := 0) rfl rfl) ?_
        first | refine LM.rd (om_ld Try.isAgg3 rfl rfl) ?_
        refine LM.val (ov_eql rfl rfl) ?_
        refine LM.val (ov_move rfl) ?_
        first | refine LM.splitD (t := 37) rfl (fun h4 => ?_) (fun h4 => ?_) | refine LM.splitB (t := 37) rfl (fun h4 => ?_) (fun h4 => ?_)
        ·
          refine LM.strip (t := 37) rfl rfl rfl ?_
          refine LM.val (ov_field Try.underlying38 rfl Try.sizeOf3 rfl (k := 1) rfl rfl) ?_
          refine LM.strip (t := 37) rfl rfl rfl ?_
          first | refine LM.rd (om_ld Try.isAgg3 rfl rfl) ?_
          refine LM.strip (t := 37) rfl rfl rfl ?_
          refine LM.val (ov_move rfl) ?_
          refine LM.strip (t := 37) rfl rfl rfl ?_
          refine LM.val (ov_geq rfl rfl) ?_
          refine LM.val (ov_pickT rfl rfl) ?_
          refine LM.val (ov_assign rfl) ?_
          refine LM.nil ?_
          refine QM.sub (e' := [(1, _), (2, _), (4, _), (9, _), (10, _), (20, _)]) ⟨rfl, rfl, rfl, rfl, rfl, rfl, trivial⟩ ?_
          -- meet1: h3- h4+
          refine QM.meetK (_) ⟨(by first | rfl | exact lk rfl (by congr 1; omega) | exact lk rfl (by simp)), rfl, rfl, rfl, rfl, rfl, trivial⟩ (by (repeat' (first | exact SubM.nil _ | refine SubM.cons rfl ?_ | refine SubM.app ?_))) ?_
          · simp only [h3, h4, decide_true, decide_false, Bool.true_and, Bool.false_and, Bool.and_true, Bool.and_false, Bool.not_true, Bool.not_false, Bool.true_or, Bool.false_or, Bool.or_true, Bool.or_false, ne_eq, not_true_eq_false, not_false_eq_true, Bool.and_self]
        ·
          refine LM.drop (t := 37) rfl rfl rfl ?_
          refine LM.drop (t := 37) rfl rfl rfl ?_
          refine LM.drop (t := 37) rfl rfl rfl ?_
          refine LM.drop (t := 37) rfl rfl rfl ?_
          refine LM.val (ov_pickF rfl rfl) ?_
          refine LM.val (ov_assign rfl) ?_
          refine LM.nil ?_
          refine QM.sub (e' := [(1, _), (2, _), (4, _), (9, _), (10, _), (20, _)]) ⟨rfl, rfl, rfl, rfl, rfl, rfl, trivial⟩ ?_
          -- meet2: h3- h4-
          refine QM.meetK (_) ⟨(by first | rfl | exact lk rfl (by congr 1; omega) | exact lk rfl (by simp)), rfl, rfl, rfl, rfl, rfl, trivial⟩ (by (repeat' (first | exact SubM.nil _ | refine SubM.cons rfl ?_ | refine SubM.app ?_))) ?_
          · simp only [h3, h4, decide_true, decide_false, Bool.true_and, Bool.false_and, Bool.and_true, Bool.and_false, Bool.not_true, Bool.not_false, Bool.true_or, Bool.false_or, Bool.or_true, Bool.or_false, ne_eq, not_true_eq_false, not_false_eq_true, Bool.and_self]
      ·
        rintro q2 hq2
        change QM _ _ _ _ _ (oB b9 (xs.getD i default) :: pB b4 fv ad n cap :: []) _ _ _
        refine QM.then ?_
        first | refine wpM.condD rfl (fun h5 => ?_) (fun h5 => ?_) | refine wpM.condB rfl (fun h5 => ?_) (fun h5 => ?_)
        ·
          refine wpM.seq ?_
          refine wpM.region ?_
          refine LM.val (ov_assign rfl) ?_
          refine LM.nil ?_
          refine QM.sub (e' := [(8, _)]) ⟨rfl, trivial⟩ ?_
          refine QM.then ?_
          refine wpM.ret ?_
          refine QM.block_ret ?_
          refine QM.then_ret ?_
          refine QM.leave (.inl rfl) [.tmp 8] Try.results14 rfl ?_
          intro w' hm' hc' hg'
          -- leaf 2: h3- h5+
          refine ⟨?_, hc'⟩; simp only [resV, fitsO, ← hn, ← hn2, ← hq, ← hq2]; simp only [h3, h5, decide_true, decide_false, Bool.true_and, Bool.false_and, Bool.and_true, Bool.and_false, Bool.not_true, Bool.not_false, Bool.true_or, Bool.false_or, Bool.or_true, Bool.or_false, ne_eq, not_true_eq_false, not_false_eq_true, Bool.and_self, if_true, ite_true]
        ·
          refine wpM.seq ?_
          refine wpM.joinK (α := Bool) (fun q3 => [(43, .bool q3)]) [(1, _), (2, _), (4, _), (9, _), (10, _)] (fun q3 => oB b9 (xs.getD i default) :: pB b4 fv ad n cap :: []) (fun q3 => q3 = (decide ((xs.getD i default).k = 3) && !(ls.getD (xs.getD i default).a.toNat default).sh)) ⟨rfl, rfl, rfl, rfl, rfl, trivial⟩ ?_ ?_
          ·
            refine wpM.region ?_
            refine LM.val (ov_field Try.underlying38 rfl Try.sizeOf3 rfl (k := 0) rfl rfl) ?_
            first | refine LM.rd (om_ld Try.isAgg3 rfl rfl) ?_
            refine LM.val (ov_eql rfl rfl) ?_
            refine LM.val (ov_move rfl) ?_
            first | refine LM.splitD (t := 47) rfl (fun h6 => ?_) (fun h6 => ?_) | refine LM.splitB (t := 47) rfl (fun h6 => ?_) (fun h6 => ?_)
            ·
              have hlt := fits_lt hq h3 (by rw [h6]; rfl)
              refine LM.strip (t := 47) rfl rfl rfl ?_
              refine LM.val (ov_move rfl) ?_
              refine LM.strip (t := 47) rfl rfl rfl ?_
              refine LM.val (ov_field Try.underlying38 rfl Try.sizeOf3 rfl (k := 1) rfl rfl) ?_
              refine LM.strip (t := 47) rfl rfl rfl ?_
              first | refine LM.rd (om_ld Try.isAgg3 rfl rfl) ?_
              refine LM.strip (t := 47) rfl rfl rfl ?_
              first | refine LM.val (ov_idxSN (by first | exact Sr.spt (by assumption) | exact Sl.spt (by assumption)) Try.underlying25 Try.sizeOf35 rfl rfl (by omega)) ?_ | refine LM.val (ov_idxS (by first | exact Sr.spt (by assumption) | exact Sl.spt (by assumption)) Try.underlying25 Try.sizeOf35 rfl rfl (by omega)) ?_ | refine LM.val (ov_idx Try.underlying25 Try.sizeOf35 rfl rfl (by omega)) ?_
              refine LM.strip (t := 47) rfl rfl rfl ?_
              refine LM.val (ov_field Try.underlying35 rfl Try.sizeOf4 rfl (k := 0) rfl rfl) ?_
              refine LM.strip (t := 47) rfl rfl rfl ?_
              first | refine LM.rd (om_slE (j := 0) (by assumption) (by intro _; rfl) Try.isAgg4 rfl rfl (by exact getq default (by first | omega | (simp only [List.length_set, List.length_append, List.length_cons, List.length_nil]; omega))) rfl (by rfl)) ?_ | refine LM.rdC (om_srE (j := 0) (by assumption) Try.isAgg4 rfl rfl (by exact getq default (by first | omega | (simp only [List.length_set, List.length_append, List.length_cons, List.length_nil]; omega))) (by rfl) (by rfl) id) ?_ | refine LM.rd (om_ld Try.isAgg4 rfl rfl) ?_
              refine LM.strip (t := 47) rfl rfl rfl ?_
              first | refine LM.val (ov_notD rfl) ?_ | refine LM.val (ov_not rfl) ?_
              refine LM.val (ov_pickT rfl rfl) ?_
              refine LM.val (ov_assign rfl) ?_
              refine LM.nil ?_
              refine QM.sub (e' := [(1, _), (2, _), (4, _), (9, _), (10, _), (43, _)]) ⟨rfl, rfl, rfl, rfl, rfl, rfl, trivial⟩ ?_
              -- meet1: h3- h5- h6+
              refine QM.meetK (_) ⟨(by first | rfl | exact lk rfl (by congr 1; omega) | exact lk rfl (by simp)), rfl, rfl, rfl, rfl, rfl, trivial⟩ (by (repeat' (first | exact SubM.nil _ | refine SubM.cons rfl ?_ | refine SubM.app ?_))) ?_
              · simp only [h3, h5, h6, decide_true, decide_false, Bool.true_and, Bool.false_and, Bool.and_true, Bool.and_false, Bool.not_true, Bool.not_false, Bool.true_or, Bool.false_or, Bool.or_true, Bool.or_false, ne_eq, not_true_eq_false, not_false_eq_true, Bool.and_self]
            ·
              refine LM.drop (t := 47) rfl rfl rfl ?_
              refine LM.drop (t := 47) rfl rfl rfl ?_
              refine LM.drop (t := 47) rfl rfl rfl ?_
              refine LM.drop (t := 47) rfl rfl rfl ?_
              refine LM.drop (t := 47) rfl rfl rfl ?_
              refine LM.drop (t := 47) rfl rfl rfl ?_
              refine LM.drop (t := 47) rfl rfl rfl ?_
              refine LM.val (ov_pickF rfl rfl) ?_
              refine LM.val (ov_assign rfl) ?_
              refine LM.nil ?_
              refine QM.sub (e' := [(1, _), (2, _), (4, _), (9, _), (10, _), (43, _)]) ⟨rfl, rfl, rfl, rfl, rfl, rfl, trivial⟩ ?_
              -- meet2: h3- h5- h6-
              refine QM.meetK (_) ⟨(by first | rfl | exact lk rfl (by congr 1; omega) | exact lk rfl (by simp)), rfl, rfl, rfl, rfl, rfl, trivial⟩ (by (repeat' (first | exact SubM.nil _ | refine SubM.cons rfl ?_ | refine SubM.app ?_))) ?_
              · simp only [h3, h5, h6, decide_true, decide_false, Bool.true_and, Bool.false_and, Bool.and_true, Bool.and_false, Bool.not_true, Bool.not_false, Bool.true_or, Bool.false_or, Bool.or_true, Bool.or_false, ne_eq, not_true_eq_false, not_false_eq_true, Bool.and_self]
          ·
            rintro q3 hq3
            change QM _ _ _ _ _ (oB b9 (xs.getD i default) :: pB b4 fv ad n cap :: []) _ _ _
            refine QM.then ?_
            first | refine wpM.condD rfl (fun h7 => ?_) (fun h7 => ?_) | refine wpM.condB rfl (fun h7 => ?_) (fun h7 => ?_)
            ·
              refine wpM.seq ?_
              refine wpM.region ?_
              refine LM.val (ov_assign rfl) ?_
              refine LM.nil ?_
              refine QM.sub (e' := [(8, _)]) ⟨rfl, trivial⟩ ?_
              refine QM.then ?_
              refine wpM.ret ?_
              refine QM.block_ret ?_
              refine QM.then_ret ?_
              refine QM.leave (.inl rfl) [.tmp 8] Try.results14 rfl ?_
              intro w' hm' hc' hg'
              -- leaf 3: h3- h5- h7+
              refine ⟨?_, hc'⟩; simp only [resV, fitsO, ← hn, ← hn2, ← hq, ← hq2, ← hq3]; simp only [h3, h5, h7, decide_true, decide_false, Bool.true_and, Bool.false_and, Bool.and_true, Bool.and_false, Bool.not_true, Bool.not_false, Bool.true_or, Bool.false_or, Bool.or_true, Bool.or_false, ne_eq, not_true_eq_false, not_false_eq_true, Bool.and_self, if_true, if_false, ite_true, Bool.false_eq_true]
            ·
              refine wpM.seq ?_
              refine wpM.region ?_
              refine LM.val (ov_move rfl) ?_
              first | refine LM.val (ov_notD rfl) ?_ | refine LM.val (ov_not rfl) ?_
              refine LM.val (ov_assign rfl) ?_
              refine LM.nil ?_
              refine QM.sub (e' := [(1, _), (2, _), (4, _), (9, _), (56, _)]) ⟨rfl, rfl, rfl, rfl, rfl, trivial⟩ ?_
              refine QM.then ?_
              first | refine wpM.condD rfl (fun h8 => ?_) (fun h8 => ?_) | refine wpM.condB rfl (fun h8 => ?_) (fun h8 => ?_)
              ·
                refine wpM.seq ?_
                refine wpM.region ?_
                refine LM.val (ov_assign rfl) ?_
                refine LM.nil ?_
                refine QM.sub (e' := [(8, _)]) ⟨rfl, trivial⟩ ?_
                refine QM.then ?_
                refine wpM.ret ?_
                refine QM.block_ret ?_
                refine QM.then_ret ?_
                refine QM.leave (.inl rfl) [.tmp 8] Try.results14 rfl ?_
                intro w' hm' hc' hg'
                -- leaf 4: h3- h5- h7- h8+
                refine ⟨?_, hc'⟩; simp only [resV, fitsO, ← hn, ← hn2, ← hq, ← hq2, ← hq3]; simp only [h3, h5, h7, h8, decide_true, decide_false, Bool.true_and, Bool.false_and, Bool.and_true, Bool.and_false, Bool.not_true, Bool.not_false, Bool.true_or, Bool.false_or, Bool.or_true, Bool.or_false, ne_eq, not_true_eq_false, not_false_eq_true, Bool.and_self, if_true, if_false, ite_true, Bool.false_eq_true]
              ·
                have hlt := fits_lt hq h3 (by simpa using h8)
                refine wpM.skip ?_
                refine QM.block_normal ?_
                refine QM.then ?_
                refine wpM.seq ?_
                refine wpM.region ?_
                first | refine LM.rd (om_ldW Try.isAgg24 Try.sizeOf24 rfl rfl) ?_ | refine LM.rd (om_ldA Try.isAgg24 Try.sizeOf24 rfl (vs := [_, _]) rfl ⟨rfl, rfl, trivial⟩) ?_
                refine LM.val (ov_move rfl) ?_
                refine LM.callE (oc_call (enters_fn Try.func22 (by kernel_rfl) rfl) rfl) (fun w hm hc hg => section_spec i w hn (hl.ext hc) hs hi) ?_
                refine LM.alloc Try.zeroValue44 rfl (fun b11 hb11 => ?_)
                first | refine LM.stW Try.sizeOf44 rfl rfl rfl rfl (by first | rfl | decide | (simp; done)) (fun hlt => absurd hlt (by omega)) ?_ | refine LM.st Try.sizeOf44 rfl rfl rfl (by first | decide | exact Nat.le_of_ble_eq_true rfl | (simp; done) | (simp; omega)) rfl (fun hlt => absurd hlt (by omega)) ?_
                refine LM.nil ?_
                refine QM.sub (e' := [(2, _), (4, _), (9, _), (11, _)]) ⟨rfl, rfl, rfl, rfl, trivial⟩ ?_
                refine QM.then ?_
                refine wpM.seq ?_
                refine wpM.seq ?_
                refine wpM.joinK (α := Bool) (fun q4 => [(87, .bool q4)]) [] (fun q4 => []) (fun q4 => q4 = (decide ((secO xs i).2 < 1) || decide ((secO xs i).2 > (ls.getD (xs.getD i default).a.toNat default).cr) || fv && decide (((i + 1 + (secO xs i).1 : Nat) : Int) = n))) trivial ?_ ?_
                ·
                  refine wpM.draw [(0, 0), (1, 1), (2, 0), (3, 0), (4, 0), (5, 1), (6, 0), (7, 0), (8, 1), (9, 0), (10, 0), (11, 1), (12, 0), (13, 0), (14, 0), (15, 0), (16, 1), (17, 0), (18, 0), (19, 1), (20, 0), (21, 1), (22, 0), (23, 0), (24, 0), (25, 0)] (by kernel_rfl) (by kernel_rfl) ?_
                  refine LD.val rfl rfl (ov_field Try.underlying44 rfl Try.sizeOf3 rfl (k := 3) rfl rfl) ?_
                  first | refine LD.rd rfl rfl (om_ld Try.isAgg3 rfl rfl) ?_
                  refine LD.val rfl rfl (ov_lss rfl rfl) ?_
                  refine LD.val rfl rfl (ov_move rfl) ?_
                  first | refine LD.splitD (t := 65) rfl (fun h9 => ?_) (fun h9 => ?_) | refine LD.splitB (t := 65) rfl (fun h9 => ?_) (fun h9 => ?_)
                  ·
                    refine LD.drop rfl rfl ⟨65, _, rfl, rfl, rfl⟩ ?_
                    refine LD.drop rfl rfl ⟨65, _, rfl, rfl, rfl⟩ ?_
                    refine LD.drop rfl rfl ⟨65, _, rfl, rfl, rfl⟩ ?_
                    refine LD.drop rfl rfl ⟨65, _, rfl, rfl, rfl⟩ ?_
                    refine LD.drop rfl rfl ⟨65, _, rfl, rfl, rfl⟩ ?_
                    refine LD.drop rfl rfl ⟨65, _, rfl, rfl, rfl⟩ ?_
                    refine LD.drop rfl rfl ⟨65, _, rfl, rfl, rfl⟩ ?_
                    refine LD.drop rfl rfl ⟨65, _, rfl, rfl, rfl⟩ ?_
                    refine LD.drop rfl rfl ⟨65, _, rfl, rfl, rfl⟩ ?_
                    refine LD.val rfl rfl (ov_pickT rfl rfl) ?_
                    refine LD.val rfl rfl (ov_move rfl) ?_
                    refine LD.drop rfl rfl ⟨76, _, rfl, rfl, rfl⟩ ?_
                    refine LD.drop rfl rfl ⟨76, _, rfl, rfl, rfl⟩ ?_
                    refine LD.dropU rfl rfl ⟨76, _, rfl, rfl, rfl⟩ ?_
                    refine LD.dropX rfl rfl rfl rfl ?_
                    refine LD.dropX rfl rfl rfl rfl ?_
                    refine LD.dropX rfl rfl rfl rfl ?_
                    refine LD.dropX rfl rfl rfl rfl ?_
                    refine LD.dropX rfl rfl rfl rfl ?_
                    refine LD.dropX rfl rfl rfl rfl ?_
                    refine LD.drop rfl rfl ⟨76, _, rfl, rfl, rfl⟩ ?_
                    refine LD.val rfl rfl (ov_pickT rfl rfl) ?_
                    refine LD.nil ?_
                    refine QM.sub (e' := [(87, _)]) ⟨rfl, trivial⟩ ?_
                    -- meet1: h3- h5- h7- h8- h9+
                    refine QM.meetK (_) ⟨(by first | rfl | exact lk rfl (by congr 1; omega) | exact lk rfl (by simp)), trivial⟩ (by (repeat' (first | exact SubM.nil _ | refine SubM.cons rfl ?_ | refine SubM.app ?_))) ?_
                    · simp only [h3, h5, h7, h8, h9, decide_true, decide_false, Bool.true_and, Bool.false_and, Bool.and_true, Bool.and_false, Bool.not_true, Bool.not_false, Bool.true_or, Bool.false_or, Bool.or_true, Bool.or_false, ne_eq, not_true_eq_false, not_false_eq_true, Bool.and_self]
                  ·
                    refine LD.val rfl ⟨65, _, rfl, rfl, rfl⟩ (ov_field Try.underlying44 rfl Try.sizeOf3 rfl (k := 3) rfl rfl) ?_
                    first | refine LD.rd rfl ⟨65, _, rfl, rfl, rfl⟩ (om_ld Try.isAgg3 rfl rfl) ?_
                    refine LD.val rfl ⟨65, _, rfl, rfl, rfl⟩ (ov_move rfl) ?_
                    refine LD.val rfl ⟨65, _, rfl, rfl, rfl⟩ (ov_field Try.underlying38 rfl Try.sizeOf3 rfl (k := 1) rfl rfl) ?_
                    first | refine LD.rd rfl ⟨65, _, rfl, rfl, rfl⟩ (om_ld Try.isAgg3 rfl rfl) ?_
                    first | refine LD.val rfl ⟨65, _, rfl, rfl, rfl⟩ (ov_idxSN (by first | exact Sr.spt (by assumption) | exact Sl.spt (by assumption)) Try.underlying25 Try.sizeOf35 rfl rfl (by omega)) ?_ | refine LD.val rfl ⟨65, _, rfl, rfl, rfl⟩ (ov_idxS (by first | exact Sr.spt (by assumption) | exact Sl.spt (by assumption)) Try.underlying25 Try.sizeOf35 rfl rfl (by omega)) ?_ | refine LD.val rfl ⟨65, _, rfl, rfl, rfl⟩ (ov_idx Try.underlying25 Try.sizeOf35 rfl rfl (by omega)) ?_
                    refine LD.val rfl ⟨65, _, rfl, rfl, rfl⟩ (ov_field Try.underlying35 rfl Try.sizeOf3 rfl (k := 2) rfl rfl) ?_
                    first | refine LD.rd rfl ⟨65, _, rfl, rfl, rfl⟩ (om_slE (j := 2) (by assumption) (by intro _; rfl) Try.isAgg3 rfl rfl (by exact getq default (by first | omega | (simp only [List.length_set, List.length_append, List.length_cons, List.length_nil]; omega))) rfl (by rfl)) ?_ | refine LD.rdC rfl ⟨65, _, rfl, rfl, rfl⟩ (om_srE (j := 2) (by assumption) Try.isAgg3 rfl rfl (by exact getq default (by first | omega | (simp only [List.length_set, List.length_append, List.length_cons, List.length_nil]; omega))) (by rfl) (by rfl) id) ?_ | refine LD.rd rfl ⟨65, _, rfl, rfl, rfl⟩ (om_ld Try.isAgg3 rfl rfl) ?_
                    refine LD.val rfl ⟨65, _, rfl, rfl, rfl⟩ (ov_gtr rfl rfl) ?_
                    refine LD.val rfl rfl (ov_pickF rfl rfl) ?_
                    refine LD.val rfl rfl (ov_move rfl) ?_
                    first | refine LD.splitD (t := 76) rfl (fun h10 => ?_) (fun h10 => ?_) | refine LD.splitB (t := 76) rfl (fun h10 => ?_) (fun h10 => ?_)
                    ·
                      refine LD.drop rfl rfl ⟨76, _, rfl, rfl, rfl⟩ ?_
                      refine LD.drop rfl rfl ⟨76, _, rfl, rfl, rfl⟩ ?_
                      refine LD.dropU rfl rfl ⟨76, _, rfl, rfl, rfl⟩ ?_
                      refine LD.dropX rfl rfl rfl rfl ?_
                      refine LD.dropX rfl rfl rfl rfl ?_
                      refine LD.dropX rfl rfl rfl rfl ?_
                      refine LD.dropX rfl rfl rfl rfl ?_
                      refine LD.dropX rfl rfl rfl rfl ?_
                      refine LD.dropX rfl rfl rfl rfl ?_
                      refine LD.drop rfl rfl ⟨76, _, rfl, rfl, rfl⟩ ?_
                      refine LD.val rfl rfl (ov_pickT rfl rfl) ?_
                      refine LD.nil ?_
                      refine QM.sub (e' := [(87, _)]) ⟨rfl, trivial⟩ ?_
                      -- meet2: h3- h5- h7- h8- h9- h10+
                      refine QM.meetK (_) ⟨(by first | rfl | exact lk rfl (by congr 1; omega) | exact lk rfl (by simp)), trivial⟩ (by (repeat' (first | exact SubM.nil _ | refine SubM.cons rfl ?_ | refine SubM.app ?_))) ?_
                      · simp only [h3, h5, h7, h8, h9, h10, decide_true, decide_false, Bool.true_and, Bool.false_and, Bool.and_true, Bool.and_false, Bool.not_true, Bool.not_false, Bool.true_or, Bool.false_or, Bool.or_true, Bool.or_false, ne_eq, not_true_eq_false, not_false_eq_true, Bool.and_self]
                    ·
                      refine LD.val rfl ⟨76, _, rfl, rfl, rfl⟩ (ov_field Try.underlying24 rfl Try.sizeOf4 rfl (k := 0) rfl rfl) ?_
                      first | refine LD.rd rfl ⟨76, _, rfl, rfl, rfl⟩ (om_ld Try.isAgg4 rfl rfl) ?_
                      refine LD.val rfl ⟨76, _, rfl, rfl, rfl⟩ (ov_move rfl) ?_
                      first | refine LD.splitD (t := 79) rfl (fun h11 => ?_) (fun h11 => ?_) | refine LD.splitB (t := 79) rfl (fun h11 => ?_) (fun h11 => ?_)
                      ·
                        refine LD.val rfl ⟨79, _, rfl, rfl, rfl⟩ (ov_field Try.underlying44 rfl Try.sizeOf3 rfl (k := 1) rfl rfl) ?_
                        first | refine LD.rd rfl ⟨79, _, rfl, rfl, rfl⟩ (om_ld Try.isAgg3 rfl rfl) ?_
                        refine LD.val rfl ⟨79, _, rfl, rfl, rfl⟩ (ov_field Try.underlying24 rfl Try.sizeOf22 rfl (k := 1) rfl rfl) ?_
                        first | refine LD.rd rfl ⟨79, _, rfl, rfl, rfl⟩ (om_ld Try.isAgg22 rfl rfl) ?_
                        refine LD.val rfl ⟨79, _, rfl, rfl, rfl⟩ (ov_len Try.underlying22 rfl) ?_
                        refine LD.val rfl ⟨79, _, rfl, rfl, rfl⟩ (ov_eql rfl rfl) ?_
                        refine LD.val rfl ⟨76, _, rfl, rfl, rfl⟩ (ov_pickT rfl rfl) ?_
                        refine LD.val rfl rfl (ov_pickF rfl rfl) ?_
                        refine LD.nil ?_
                        refine QM.sub (e' := [(87, _)]) ⟨rfl, trivial⟩ ?_
                        -- meet3: h3- h5- h7- h8- h9- h10- h11+
                        refine QM.meetK (_) ⟨(by first | rfl | exact lk rfl (by congr 1; omega) | exact lk rfl (by simp)), trivial⟩ (by (repeat' (first | exact SubM.nil _ | refine SubM.cons rfl ?_ | refine SubM.app ?_))) ?_
                        · simp only [h3, h5, h7, h8, h9, h10, h11, decide_true, decide_false, Bool.true_and, Bool.false_and, Bool.and_true, Bool.and_false, Bool.not_true, Bool.not_false, Bool.true_or, Bool.false_or, Bool.or_true, Bool.or_false, ne_eq, not_true_eq_false, not_false_eq_true, Bool.and_self]
                      ·
                        refine LD.drop rfl rfl ⟨79, _, rfl, rfl, rfl⟩ ?_
                        refine LD.drop rfl rfl ⟨79, _, rfl, rfl, rfl⟩ ?_
                        refine LD.drop rfl rfl ⟨79, _, rfl, rfl, rfl⟩ ?_
                        refine LD.drop rfl rfl ⟨79, _, rfl, rfl, rfl⟩ ?_
                        refine LD.drop rfl rfl ⟨79, _, rfl, rfl, rfl⟩ ?_
                        refine LD.drop rfl rfl ⟨79, _, rfl, rfl, rfl⟩ ?_
                        refine LD.val rfl ⟨76, _, rfl, rfl, rfl⟩ (ov_pickF rfl rfl) ?_
                        refine LD.val rfl rfl (ov_pickF rfl rfl) ?_
                        refine LD.nil ?_
                        refine QM.sub (e' := [(87, _)]) ⟨rfl, trivial⟩ ?_
                        -- meet4: h3- h5- h7- h8- h9- h10- h11-
                        refine QM.meetK (_) ⟨(by first | rfl | exact lk rfl (by congr 1; omega) | exact lk rfl (by simp)), trivial⟩ (by (repeat' (first | exact SubM.nil _ | refine SubM.cons rfl ?_ | refine SubM.app ?_))) ?_
                        · simp only [h3, h5, h7, h8, h9, h10, h11, decide_true, decide_false, Bool.true_and, Bool.false_and, Bool.and_true, Bool.and_false, Bool.not_true, Bool.not_false, Bool.true_or, Bool.false_or, Bool.or_true, Bool.or_false, ne_eq, not_true_eq_false, not_false_eq_true, Bool.and_self]
                ·
                  rintro q4 hq4
                  change QM _ _ _ _ _ ([]) _ _ _
                  refine QM.then ?_
                  first | refine wpM.condD rfl (fun h12 => ?_) (fun h12 => ?_) | refine wpM.condB rfl (fun h12 => ?_) (fun h12 => ?_)
                  ·
                    refine wpM.seq ?_
                    refine wpM.region ?_
                    refine LM.val (ov_assign rfl) ?_
                    refine LM.nil ?_
                    refine QM.sub (e' := [(8, _)]) ⟨rfl, trivial⟩ ?_
                    refine QM.then ?_
                    refine wpM.ret ?_
                    refine QM.then_ret ?_
                    refine QM.leave (.inl rfl) [.tmp 8] Try.results14 rfl ?_
                    intro w' hm' hc' hg'
                    -- leaf 5: h3- h5- h7- h8- h12+
                    refine ⟨?_, hc'⟩; simp only [resV, fitsO, ← hn, ← hn2, ← hq, ← hq2, ← hq3, ← hq4]; simp only [h3, h5, h7, h8, h12, decide_true, decide_false, Bool.true_and, Bool.false_and, Bool.and_true, Bool.and_false, Bool.not_true, Bool.not_false, Bool.true_or, Bool.false_or, Bool.or_true, Bool.or_false, ne_eq, not_true_eq_false, not_false_eq_true, Bool.and_self, if_true, if_false, ite_true, Bool.false_eq_true]
                  ·
                    refine wpM.skip ?_
                    refine QM.then ?_
                    refine wpM.seq ?_
                    refine wpM.region ?_
                    refine LM.val (ov_assign rfl) ?_
                    refine LM.nil ?_
                    refine QM.sub (e' := [(8, _)]) ⟨rfl, trivial⟩ ?_
                    refine QM.then ?_
                    refine wpM.ret ?_
                    refine QM.leave (.inl rfl) [.tmp 8] Try.results14 rfl ?_
                    intro w' hm' hc' hg'
                    -- leaf 6: h3- h5- h7- h8- h12-
                    refine ⟨?_, hc'⟩; simp only [resV, fitsO, ← hn, ← hn2, ← hq, ← hq2, ← hq3, ← hq4]; simp only [h3, h5, h7, h8, h12, decide_true, decide_false, Bool.true_and, Bool.false_and, Bool.and_true, Bool.and_false, Bool.not_true, Bool.not_false, Bool.true_or, Bool.false_or, Bool.or_true, Bool.or_false, ne_eq, not_true_eq_false, not_false_eq_true, Bool.and_self, if_true, if_false, ite_true, Bool.false_eq_true]

set_option maxRecDepth 100000 in
theorem each_spec (fv : Bool) (ad : Option Addr) (n cap : Nat) (w : World) : Ret Try.prog 13 #[pV fv ad n cap] w (fun v w' => Ext w w' ∧ ∃ m, EachT fv ad n cap w.heap.size v m ∧ Mem w' m ∧ ∀ p ∈ m, w.heap.size ≤ p.1) := by
  refine Ret.enterM (l := [pV fv ad n cap]) Try.func13 rfl Try.ntmps13 rfl ([]) (no) (Mem.nil w) ?_
  refine wpM.seq ?_
  refine wpM.region ?_
  refine LM.box rfl rfl (fun b1 hb1 => ?_)
  refine LM.val (ov_assign rfl) ?_
  refine LM.nil ?_
  refine QM.sub (e' := [(1, _)]) ⟨rfl, trivial⟩ ?_
  refine QM.then ?_
  refine wpM.seq ?_
  refine wpM.region ?_
  refine LM.val (ov_makeFunc rfl) ?_
  refine LM.val (ov_assign rfl) ?_
  refine LM.nil ?_
  refine QM.sub (e' := [(2, _)]) ⟨rfl, trivial⟩ ?_
  refine QM.then ?_
  refine wpM.ret ?_
  refine QM.leave (.inl rfl) [.tmp 2] Try.results13 rfl ?_
  intro w' hm' hc' hg'
  -- leaf 1: 
  exact ⟨hc', _, ⟨b1, rfl, rfl, hb1⟩, hm', fun p hp => by simp only [List.mem_cons, List.not_mem_nil, or_false] at hp; subst hp; assumption⟩

set_option maxRecDepth 100000 in
theorem secs_spec (fv : Bool) (ad : Option Addr) (n cap : Nat) (w : World) : Ret Try.prog 11 #[pV fv ad n cap] w (fun v w' => Ext w w' ∧ ∃ m, SecsT fv ad n cap w.heap.size v m ∧ Mem w' m ∧ ∀ p ∈ m, w.heap.size ≤ p.1) := by
  refine Ret.enterM (l := [pV fv ad n cap]) Try.func11 rfl Try.ntmps11 rfl ([]) (no) (Mem.nil w) ?_
  refine wpM.seq ?_
  refine wpM.region ?_
  refine LM.box rfl rfl (fun b1 hb1 => ?_)
  refine LM.val (ov_assign rfl) ?_
  refine LM.nil ?_
  refine QM.sub (e' := [(1, _)]) ⟨rfl, trivial⟩ ?_
  refine QM.then ?_
  refine wpM.seq ?_
  refine wpM.region ?_
  refine LM.val (ov_makeFunc rfl) ?_
  refine LM.val (ov_assign rfl) ?_
  refine LM.nil ?_
  refine QM.sub (e' := [(2, _)]) ⟨rfl, trivial⟩ ?_
  refine QM.then ?_
  refine wpM.ret ?_
  refine QM.leave (.inl rfl) [.tmp 2] Try.results11 rfl ?_
  intro w' hm' hc' hg'
  -- leaf 1: 
  exact ⟨hc', _, ⟨b1, rfl, rfl, hb1⟩, hm', fun p hp => by simp only [List.mem_cons, List.not_mem_nil, or_false] at hp; subst hp; assumption⟩

set_option maxRecDepth 100000 in
set_option maxHeartbeats 1000000 in
theorem each_seq {xs : List COp} {fv : Bool} {ad : Option Addr} {n cap : Nat} {b1 : Nat} (hn : n = xs.length) (hx2 : xs.length ≤ 1000000000000) : SeqC Try.prog 25 #[.pointer (some ⟨b1, 0, none⟩)] (eachA xs) (fun w => Mem w [pB b1 fv ad n cap] ∧ Sr fO 3 xs (.slice ad n cap) w) (True) := by
  refine SeqC.enter (lb := [.pointer (some ⟨b1, 0, none⟩)]) Try.func25 rfl Try.ntmps25 rfl ?_
  intro l n0 J Jx w0 hfin hJr gJ gJx hy
  refine wpM.seq ?_
  refine wpM.region ?_
  refine LM.val (ov_field Try.underlying24 rfl Try.sizeOf22 rfl (k := 1) rfl rfl) ?_
  refine LM.rdC (fun w _ _ hg => om_load 0 Try.isAgg22 rfl rfl rfl w (hJr _ w hg).1) ?_
  refine LM.val (ov_len Try.underlying22 rfl) ?_
  refine LM.val (ov_move rfl) ?_
  refine LM.nil ?_
  refine QM.sub (e' := [(0, _), (6, _), (7, _), (8, _)]) ⟨rfl, rfl, rfl, rfl, trivial⟩ ?_
  refine QM.then ?_
  refine wpM.block ?_
  refine wpM.loopK (α := Nat) (fun i => [(8, .int .i64 (i : Nat))]) [(0, _), (6, _), (7, _)] (fun i => []) (fun i => J i) (fun i => i ≤ xs.length) (fun i => xs.length - i) (0) ⟨(by first | rfl | exact lk rfl (by congr 1; omega) | exact lk rfl (by simp)), rfl, rfl, rfl, trivial⟩ (by (repeat' (first | exact SubM.nil _ | refine SubM.cons rfl ?_ | refine SubM.app ?_))) (fun _ h => h) (Nat.zero_le _) ?_
  rintro i hi
  change wpM _ _ _ _ _ _ _ ([]) _ _ _
  refine wpM.seq ?_
  refine wpM.region ?_
  refine LM.val (ov_lss rfl rfl) ?_
  refine LM.nil ?_
  refine QM.sub (e' := [(0, _), (6, _), (7, _), (8, _), (9, _)]) ⟨rfl, rfl, rfl, rfl, rfl, trivial⟩ ?_
  refine QM.then ?_
  refine wpM.seq ?_
  first | refine wpM.condD rfl (fun h1 => ?_) (fun h1 => ?_) | refine wpM.condB rfl (fun h1 => ?_) (fun h1 => ?_)
  ·
    refine wpM.skip ?_
    refine QM.then ?_
    refine wpM.seq ?_
    refine wpM.block ?_
    refine wpM.seq ?_
    refine wpM.region ?_
    refine LM.val (ov_move rfl) ?_
    refine LM.know (fun w _ _ hg => (hJr _ w hg).2.spt) (fun hsp => ?_); refine LM.val (ov_idxSN hsp Try.underlying22 Try.sizeOf38 rfl rfl (by omega)) ?_
    refine LM.rdC (fun w hm hc hg => ow_srEA (hJr _ w hg).2 (by intro _; rfl) Try.isAgg38 Try.sizeOf38 rfl (getq default (by omega))) ?_
    refine LM.allocF Try.zeroValue38 rfl (fun b4 hb4 => ?_)
    refine LM.val (ov_assign rfl) ?_
    first | refine LM.stWF Try.sizeOf38 rfl rfl rfl rfl (by first | rfl | decide | (simp; done)) (fun hlt => absurd hlt (by omega)) (by omega) ?_ | refine LM.stF Try.sizeOf38 rfl rfl rfl (by first | decide | exact Nat.le_of_ble_eq_true rfl | (simp; done) | (simp; omega)) rfl (fun hlt => absurd hlt (by omega)) (by omega) ?_
    refine LM.unF ?_
    refine LM.nil ?_
    refine QM.sub (e' := [(0, _), (3, _), (4, _), (6, _), (7, _), (8, _)]) ⟨rfl, rfl, rfl, rfl, rfl, rfl, trivial⟩ ?_
    refine QM.then ?_
    refine wpM.seq ?_
    refine wpM.region ?_
    refine LM.val (ov_move rfl) ?_
    refine LM.val (ov_move rfl) ?_
    first | refine LM.rd (om_ldW Try.isAgg38 Try.sizeOf38 rfl rfl) ?_ | refine LM.rd (om_ldA Try.isAgg38 Try.sizeOf38 rfl (vs := [_, _, _]) rfl ⟨rfl, rfl, rfl, trivial⟩) ?_
    refine LM.mem (M' := []) (fun w _ => Mem.nil w) ?_
    refine LM.yield (n := n0) (G1 := J (i + 1)) (G2 := Jx) rfl rfl (fun w hj => hy (i) _ w (eachA_get (by omega)) hj) (fun _ => trivial) ?_ ?_
    ·
      first | refine LM.val (ov_notD rfl) ?_ | refine LM.val (ov_not rfl) ?_
      refine LM.nil ?_
      refine QM.sub (e' := [(0, _), (6, _), (7, _), (8, _), (17, _)]) ⟨rfl, rfl, rfl, rfl, rfl, trivial⟩ ?_
      refine QM.then ?_
      refine wpM.condF rfl ?_
      refine wpM.skip ?_
      refine QM.block_normal ?_
      refine QM.then ?_
      refine wpM.region ?_
      refine LM.val (ov_add64 rfl rfl (by omega)) ?_
      refine LM.val (ov_move rfl) ?_
      refine LM.nil ?_
      refine QM.sub (e' := [(0, _), (6, _), (7, _), (8, _)]) ⟨rfl, rfl, rfl, rfl, trivial⟩ ?_
      -- again1: h1+
      refine QM.againK (i + 1) ⟨(by first | rfl | exact lk rfl (by congr 1; omega) | exact lk rfl (by simp)), rfl, rfl, rfl, trivial⟩ (by (repeat' (first | exact SubM.nil _ | refine SubM.cons rfl ?_ | refine SubM.app ?_))) (fun w h => h) ?_ ?_
      · omega
      · first | omega | (dsimp only; omega)
    ·
      first | refine LM.val (ov_notD rfl) ?_ | refine LM.val (ov_not rfl) ?_
      refine LM.nil ?_
      refine QM.sub (e' := [(0, _), (6, _), (7, _), (8, _), (17, _)]) ⟨rfl, rfl, rfl, rfl, rfl, trivial⟩ ?_
      refine QM.then ?_
      refine wpM.condT rfl ?_
      refine wpM.ret ?_
      refine QM.block_ret ?_
      refine QM.then_ret ?_
      refine QM.then_ret ?_
      refine QM.block_ret ?_
      refine QM.leave (.inl rfl) [] Try.results25 rfl ?_
      intro w' hm' hc' hg'
      -- leaf 1: h1+
      first | exact .inr hg' | (have hil : i = xs.length := (by omega); subst hil; exact .inl (by rw [eachA_len]; exact hg'))
  ·
    refine wpM.exit ?_
    refine QM.then_exit ?_
    refine QM.then_exit ?_
    refine QM.block_hit ?_
    refine QM.leave (.inr rfl) [] Try.results25 rfl ?_
    intro w' hm' hc' hg'
    -- leaf 2: h1-
    first | exact .inr hg' | (have hil : i = xs.length := (by omega); subst hil; exact .inl (by rw [eachA_len]; exact hg'))

set_option maxRecDepth 100000 in
set_option maxHeartbeats 1000000 in
theorem secs_seq {xs : List COp} {fv : Bool} {ad : Option Addr} {n cap : Nat} {b1 : Nat} (hn : n = xs.length) (hs : smallO xs) : SeqC Try.prog 20 #[.pointer (some ⟨b1, 0, none⟩)] (secA xs) (fun w => Mem w [pB b1 fv ad n cap] ∧ Sr fO 3 xs (.slice ad n cap) w) (True) := by
  refine SeqC.enter (lb := [.pointer (some ⟨b1, 0, none⟩)]) Try.func20 rfl Try.ntmps20 rfl ?_
  intro l n0 J Jx w0 hfin hJr gJ gJx hy
  have hx20 := hs.1
  refine wpM.seq ?_
  refine wpM.region ?_
  refine LM.val (ov_field Try.underlying24 rfl Try.sizeOf22 rfl (k := 1) rfl rfl) ?_
  refine LM.rdC (fun w _ _ hg => om_load 0 Try.isAgg22 rfl rfl rfl w (hJr _ w hg).1) ?_
  refine LM.val (ov_len Try.underlying22 rfl) ?_
  refine LM.val (ov_move rfl) ?_
  refine LM.nil ?_
  refine QM.sub (e' := [(0, _), (1, _), (6, _), (7, _), (8, _)]) ⟨rfl, rfl, rfl, rfl, rfl, trivial⟩ ?_
  refine QM.then ?_
  refine wpM.block ?_
  refine wpM.loopK (α := Nat) (fun i => [(8, .int .i64 (i : Nat))]) [(0, _), (1, _), (6, _), (7, _)] (fun i => []) (fun i => J (filN (tkT xs) i)) (fun i => i ≤ xs.length) (fun i => xs.length - i) (0) ⟨(by first | rfl | exact lk rfl (by congr 1; omega) | exact lk rfl (by simp)), rfl, rfl, rfl, rfl, trivial⟩ (by (repeat' (first | exact SubM.nil _ | refine SubM.cons rfl ?_ | refine SubM.app ?_))) (fun _ h => h) (Nat.zero_le _) ?_
  rintro i hi
  change wpM _ _ _ _ _ _ _ ([]) _ _ _
  refine wpM.seq ?_
  refine wpM.region ?_
  refine LM.val (ov_lss rfl rfl) ?_
  refine LM.nil ?_
  refine QM.sub (e' := [(0, _), (1, _), (6, _), (7, _), (8, _), (9, _)]) ⟨rfl, rfl, rfl, rfl, rfl, rfl, trivial⟩ ?_
  refine QM.then ?_
  refine wpM.seq ?_
  first | refine wpM.condD rfl (fun h1 => ?_) (fun h1 => ?_) | refine wpM.condB rfl (fun h1 => ?_) (fun h1 => ?_)
  ·
    refine wpM.skip ?_
    refine QM.then ?_
    refine wpM.seq ?_
    refine wpM.block ?_
    refine wpM.seq ?_
    refine wpM.region ?_
    refine LM.val (ov_move rfl) ?_
    refine LM.know (fun w _ _ hg => (hJr _ w hg).2.spt) (fun hsp => ?_); refine LM.val (ov_idxSN hsp Try.underlying22 Try.sizeOf38 rfl rfl (by omega)) ?_
    refine LM.rdC (fun w hm hc hg => ow_srEA (hJr _ w hg).2 (by intro _; rfl) Try.isAgg38 Try.sizeOf38 rfl (getq default (by omega))) ?_
    refine LM.allocF Try.zeroValue38 rfl (fun b4 hb4 => ?_)
    refine LM.val (ov_assign rfl) ?_
    first | refine LM.stWF Try.sizeOf38 rfl rfl rfl rfl (by first | rfl | decide | (simp; done)) (fun hlt => absurd hlt (by omega)) (by omega) ?_ | refine LM.stF Try.sizeOf38 rfl rfl rfl (by first | decide | exact Nat.le_of_ble_eq_true rfl | (simp; done) | (simp; omega)) rfl (fun hlt => absurd hlt (by omega)) (by omega) ?_
    refine LM.unF ?_
    refine LM.nil ?_
    refine QM.sub (e' := [(0, _), (1, _), (3, _), (4, _), (6, _), (7, _), (8, _)]) ⟨rfl, rfl, rfl, rfl, rfl, rfl, rfl, trivial⟩ ?_
    refine QM.then ?_
    refine wpM.seq ?_
    refine wpM.region ?_
    refine LM.val (ov_field Try.underlying38 rfl Try.sizeOf3 rfl (k := 0) rfl rfl) ?_
    first | refine LM.rd (om_ld Try.isAgg3 rfl rfl) ?_
    refine LM.callE (oc_call (enters_fn Try.func21 (by kernel_rfl) rfl) rfl) (fun w hm hc hg => takes_spec _ w) ?_
    refine LM.val (ov_move rfl) ?_
    first | refine LM.splitD (t := 16) rfl (fun h2 => ?_) (fun h2 => ?_) | refine LM.splitB (t := 16) rfl (fun h2 => ?_) (fun h2 => ?_)
    ·
      refine LM.strip (t := 16) rfl rfl rfl ?_
      refine LM.val (ov_move rfl) ?_
      refine LM.strip (t := 16) rfl rfl rfl ?_
      refine LM.rdC (fun w _ _ hg => om_loadA 0 Try.isAgg24 Try.sizeOf24 rfl rfl (vs := [.bool fv, .slice ad n cap]) rfl ⟨rfl, rfl, trivial⟩ w (hJr _ w hg).1) ?_
      refine LM.strip (t := 16) rfl rfl rfl ?_
      refine LM.val (ov_move rfl) ?_
      refine LM.strip (t := 16) rfl rfl rfl ?_
      refine LM.callE (oc_call (enters_fn Try.func22 (by kernel_rfl) rfl) rfl) (fun w hm hc hg => section_spec i w hn (hJr _ w hg).2 hs (by omega)) ?_
      refine LM.strip (t := 16) rfl rfl rfl ?_
      refine LM.mem (M' := []) (fun w _ => Mem.nil w) ?_
      refine LM.yield (n := n0) (G1 := J ((filN (tkT xs) i) + 1)) (G2 := Jx) rfl rfl (fun w hj => hy ((filN (tkT xs) i)) _ w (secA_get (by omega) h2) hj) (fun _ => trivial) ?_ ?_
      ·
        refine LM.strip (t := 16) rfl rfl rfl ?_
        first | refine LM.val (ov_notD rfl) ?_ | refine LM.val (ov_not rfl) ?_
        refine LM.val (ov_pickT rfl rfl) ?_
        refine LM.nil ?_
        refine QM.sub (e' := [(0, _), (1, _), (6, _), (7, _), (8, _), (23, _)]) ⟨rfl, rfl, rfl, rfl, rfl, rfl, trivial⟩ ?_
        refine QM.then ?_
        refine wpM.condF rfl ?_
        refine wpM.skip ?_
        refine QM.block_normal ?_
        refine QM.then ?_
        refine wpM.region ?_
        refine LM.val (ov_add64 rfl rfl (by omega)) ?_
        refine LM.val (ov_move rfl) ?_
        refine LM.nil ?_
        refine QM.sub (e' := [(0, _), (1, _), (6, _), (7, _), (8, _)]) ⟨rfl, rfl, rfl, rfl, rfl, trivial⟩ ?_
        -- again1: h1+ h2+
        refine QM.againK (i + 1) ⟨(by first | rfl | exact lk rfl (by congr 1; omega) | exact lk rfl (by simp)), rfl, rfl, rfl, rfl, trivial⟩ (by (repeat' (first | exact SubM.nil _ | refine SubM.cons rfl ?_ | refine SubM.app ?_))) (fun w h => by rw [filN_succ, if_pos (by exact h2)]; exact h) ?_ ?_
        · omega
        · first | omega | (dsimp only; omega)
      ·
        refine LM.strip (t := 16) rfl rfl rfl ?_
        first | refine LM.val (ov_notD rfl) ?_ | refine LM.val (ov_not rfl) ?_
        refine LM.val (ov_pickT rfl rfl) ?_
        refine LM.nil ?_
        refine QM.sub (e' := [(0, _), (1, _), (6, _), (7, _), (8, _), (23, _)]) ⟨rfl, rfl, rfl, rfl, rfl, rfl, trivial⟩ ?_
        refine QM.then ?_
        refine wpM.condT rfl ?_
        refine wpM.ret ?_
        refine QM.block_ret ?_
        refine QM.then_ret ?_
        refine QM.then_ret ?_
        refine QM.block_ret ?_
        refine QM.leave (.inl rfl) [] Try.results20 rfl ?_
        intro w' hm' hc' hg'
        -- leaf 1: h1+ h2+
        first | exact .inr hg' | (have hil : i = xs.length := (by omega); subst hil; exact .inl (by rw [secA_len]; exact hg'))
    ·
      refine LM.drop (t := 16) rfl rfl rfl ?_
      refine LM.drop (t := 16) rfl rfl rfl ?_
      refine LM.drop (t := 16) rfl rfl rfl ?_
      refine LM.drop (t := 16) rfl rfl rfl ?_
      refine LM.drop (t := 16) rfl rfl rfl ?_
      refine LM.drop (t := 16) rfl rfl rfl ?_
      refine LM.val (ov_pickF rfl rfl) ?_
      refine LM.nil ?_
      refine QM.sub (e' := [(0, _), (1, _), (6, _), (7, _), (8, _), (23, _)]) ⟨rfl, rfl, rfl, rfl, rfl, rfl, trivial⟩ ?_
      refine QM.then ?_
      refine wpM.condF rfl ?_
      refine wpM.skip ?_
      refine QM.block_normal ?_
      refine QM.then ?_
      refine wpM.region ?_
      refine LM.val (ov_add64 rfl rfl (by omega)) ?_
      refine LM.val (ov_move rfl) ?_
      refine LM.nil ?_
      refine QM.sub (e' := [(0, _), (1, _), (6, _), (7, _), (8, _)]) ⟨rfl, rfl, rfl, rfl, rfl, trivial⟩ ?_
      -- again2: h1+ h2-
      refine QM.againK (i + 1) ⟨(by first | rfl | exact lk rfl (by congr 1; omega) | exact lk rfl (by simp)), rfl, rfl, rfl, rfl, trivial⟩ (by (repeat' (first | exact SubM.nil _ | refine SubM.cons rfl ?_ | refine SubM.app ?_))) (fun w h => by rw [filN_succ, if_neg (by show ¬ takesB _ = true; rw [h2]; decide), Nat.add_zero]; exact h) ?_ ?_
      · omega
      · first | omega | (dsimp only; omega)
  ·
    refine wpM.exit ?_
    refine QM.then_exit ?_
    refine QM.then_exit ?_
    refine QM.block_hit ?_
    refine QM.leave (.inr rfl) [] Try.results20 rfl ?_
    intro w' hm' hc' hg'
    -- leaf 2: h1-
    first | exact .inr hg' | (have hil : i = xs.length := (by omega); subst hil; exact .inl (by rw [secA_len]; exact hg'))

end Go.Eng

