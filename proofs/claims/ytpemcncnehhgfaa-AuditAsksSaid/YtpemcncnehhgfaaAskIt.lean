/- The walks of an audit: which stays go on at a time. No condition. -/
import Derived.Test.YtpemcncnehhgfaaAsk
set_option linter.unusedVariables false
set_option linter.unusedSimpArgs false
namespace Go.Eng
open Go Go.Proofs Go.RowKit

abbrev slT (b : Nat) (ad : Option Addr) (n cap : Nat) : Nat × Obj := (b, .cells #[.slice ad n cap] 61 (0, 0))
abbrev iB9 (b : Nat) (n : Int) : Nat × Obj := (b, .cells #[.int .i64 n] 3 (0, 0))
abbrev uB9 (b : Nat) (x : BitVec 64) : Nat × Obj := (b, .cells #[U x] 22 (0, 0))
def AtT (ad : Option Addr) (n cap : Nat) (lock : Int) (x : BitVec 64) (n0 : Nat) (v : Value) (m : Mem0) : Prop :=
  ∃ b1 b2 b3, v = .func (.func 68) #[] #[.pointer (some ⟨b1, 0, none⟩), .pointer (some ⟨b2, 0, none⟩), .pointer (some ⟨b3, 0, none⟩)] ∧ m = [slT b1 ad n cap, iB9 b2 lock, uB9 b3 x] ∧ n0 ≤ b1 ∧ n0 ≤ b2 ∧ n0 ≤ b3
theorem AtT.mono {ad : Option Addr} {n cap : Nat} {lock : Int} {x : BitVec 64} : ∀ (k k' : Nat) u m, k' ≤ k → AtT ad n cap lock x k u m → AtT ad n cap lock x k' u m := fun k k' u m h ⟨b1, b2, b3, h1, h2, h3, h4, h5⟩ => ⟨b1, b2, b3, h1, h2, by omega, by omega, by omega⟩
set_option maxRecDepth 100000 in
theorem at_spec (ad : Option Addr) (n cap : Nat) (lock : Int) (x : BitVec 64) (w : World) : Ret Try.prog 47 #[.slice ad n cap, .int .i64 lock, U x] w (fun v w' => Ext w w' ∧ ∃ m, AtT ad n cap lock x w.heap.size v m ∧ Mem w' m ∧ ∀ p ∈ m, w.heap.size ≤ p.1) := by
  refine Ret.enterM (l := [.slice ad n cap, .int .i64 lock, U x]) Try.func47 rfl Try.ntmps47 rfl ([]) (no) (Mem.nil w) ?_
  refine wpM.seq ?_
  refine wpM.region ?_
  refine LM.box rfl rfl (fun b3 hb3 => ?_)
  refine LM.box rfl rfl (fun b4 hb4 => ?_)
  refine LM.box rfl rfl (fun b5 hb5 => ?_)
  refine LM.val (ov_assign rfl) ?_
  refine LM.nil ?_
  refine QM.sub (e' := [(3, _), (4, _), (5, _)]) ⟨rfl, rfl, rfl, trivial⟩ ?_
  refine QM.then ?_
  refine wpM.seq ?_
  refine wpM.region ?_
  refine LM.val (ov_makeFunc rfl) ?_
  refine LM.val (ov_assign rfl) ?_
  refine LM.nil ?_
  refine QM.sub (e' := [(6, _)]) ⟨rfl, trivial⟩ ?_
  refine QM.then ?_
  refine wpM.ret ?_
  refine QM.leave (.inl rfl) [.tmp 6] Try.results47 rfl ?_
  intro w' hm' hc' hg'
  -- leaf 1: 
  exact ⟨hc', _, ⟨b3, b4, b5, rfl, rfl, hb3, hb4, hb5⟩, SubM.mem (by (repeat' (first | exact SubM.nil _ | refine SubM.cons rfl ?_ | refine SubM.app ?_))) _ hm', fun p hp => by simp only [List.mem_cons, List.not_mem_nil, or_false] at hp; rcases hp with rfl | rfl | rfl <;> assumption⟩

set_option maxRecDepth 100000 in
set_option maxHeartbeats 1000000 in
theorem at_seq {ss : List St} {ad : Option Addr} {n cap : Nat} {lock : Int} {x : BitVec 64} {b1 b2 b3 : Nat} (hn : n = ss.length) (hx2 : ss.length ≤ 1000000000000) : SeqC Try.prog 68 #[.pointer (some ⟨b1, 0, none⟩),  .pointer (some ⟨b2, 0, none⟩),  .pointer (some ⟨b3, 0, none⟩)] (onA ss lock x) (fun w => Mem w [slT b1 ad n cap, iB9 b2 lock, uB9 b3 x] ∧ Sr fT 6 ss (.slice ad n cap) w) (True) := by
  refine SeqC.enter (lb := [.pointer (some ⟨b1, 0, none⟩),  .pointer (some ⟨b2, 0, none⟩),  .pointer (some ⟨b3, 0, none⟩)]) Try.func68 rfl Try.ntmps68 rfl ?_
  intro l n0 J Jx w0 hfin hJr gJ gJx hy
  refine wpM.seq ?_
  refine wpM.region ?_
  refine LM.rdC (fun w _ _ hg => om_load 0 Try.isAgg61 rfl rfl rfl w (hJr _ w hg).1) ?_
  refine LM.val (ov_len Try.underlying61 rfl) ?_
  refine LM.val (ov_move rfl) ?_
  refine LM.nil ?_
  refine QM.sub (e' := [(0, _), (2, _), (3, _), (7, _), (8, _), (9, _)]) ⟨rfl, rfl, rfl, rfl, rfl, rfl, trivial⟩ ?_
  refine QM.then ?_
  refine wpM.block ?_
  refine wpM.loopK (α := Nat) (fun i => [(9, .int .i64 (i : Nat))]) [(0, _), (2, _), (3, _), (7, _), (8, _)] (fun i => []) (fun i => J (onN ss lock x i)) (fun i => i ≤ ss.length) (fun i => ss.length - i) (0) ⟨(by first | rfl | exact lk rfl (by congr 1; omega) | exact lk rfl (by simp)), rfl, rfl, rfl, rfl, rfl, trivial⟩ (by (repeat' (first | exact SubM.nil _ | refine SubM.cons rfl ?_ | refine SubM.app ?_))) (fun _ h => h) (Nat.zero_le _) ?_
  rintro i hi
  change wpM _ _ _ _ _ _ _ ([]) _ _ _
  refine wpM.seq ?_
  refine wpM.region ?_
  refine LM.val (ov_lss rfl rfl) ?_
  refine LM.nil ?_
  refine QM.sub (e' := [(0, _), (2, _), (3, _), (7, _), (8, _), (9, _), (10, _)]) ⟨rfl, rfl, rfl, rfl, rfl, rfl, rfl, trivial⟩ ?_
  refine QM.then ?_
  refine wpM.seq ?_
  first | refine wpM.condD rfl (fun h1 => ?_) (fun h1 => ?_) | refine wpM.condB rfl (fun h1 => ?_) (fun h1 => ?_)
  ·
    refine wpM.skip ?_
    refine QM.then ?_
    refine wpM.seq ?_
    refine wpM.block ?_
    refine wpM.seq ?_
    refine wpM.region ?_
    refine LM.val (ov_move rfl) ?_
    refine LM.know (fun w _ _ hg => (hJr _ w hg).2.spt) (fun hsp => ?_); refine LM.val (ov_idxSN hsp Try.underlying61 Try.sizeOf72 rfl rfl (by omega)) ?_
    refine LM.rdC (fun w hm hc hg => ow_srEA (hJr _ w hg).2 (by intro _; rfl) Try.isAgg72 Try.sizeOf72 rfl (getq default (by omega))) ?_
    refine LM.allocF Try.zeroValue72 rfl (fun b6 hb6 => ?_)
    refine LM.val (ov_assign rfl) ?_
    first | refine LM.stWF Try.sizeOf72 rfl rfl rfl rfl (by first | rfl | decide | (simp; done)) (fun hlt => absurd hlt (by omega)) (by omega) ?_ | refine LM.stF Try.sizeOf72 rfl rfl rfl (by first | decide | exact Nat.le_of_ble_eq_true rfl | (simp; done) | (simp; omega)) rfl (fun hlt => absurd hlt (by omega)) (by omega) ?_
    refine LM.unF ?_
    refine LM.nil ?_
    refine QM.sub (e' := [(0, _), (2, _), (3, _), (5, _), (6, _), (7, _), (8, _), (9, _)]) ⟨rfl, rfl, rfl, rfl, rfl, rfl, rfl, rfl, trivial⟩ ?_
    refine QM.then ?_
    refine wpM.seq ?_
    refine wpM.region ?_
    refine LM.val (ov_field Try.underlying72 rfl Try.sizeOf3 rfl (k := 1) rfl rfl) ?_
    first | refine LM.rd (om_ld Try.isAgg3 rfl rfl) ?_
    refine LM.rdC (fun w _ _ hg => om_load 1 Try.isAgg3 rfl rfl rfl w (hJr _ w hg).1) ?_
    refine LM.val (ov_eql rfl rfl) ?_
    refine LM.val (ov_move rfl) ?_
    first | refine LM.splitD (t := 18) rfl (fun h2 => ?_) (fun h2 => ?_) | refine LM.splitB (t := 18) rfl (fun h2 => ?_) (fun h2 => ?_)
    ·
      refine LM.strip (t := 18) rfl rfl rfl ?_
      refine LM.val (ov_field Try.underlying72 rfl Try.sizeOf22 rfl (k := 2) rfl rfl) ?_
      refine LM.strip (t := 18) rfl rfl rfl ?_
      first | refine LM.rd (om_ld Try.isAgg22 rfl rfl) ?_
      refine LM.strip (t := 18) rfl rfl rfl ?_
      refine LM.rdC (fun w _ _ hg => om_load 2 Try.isAgg22 rfl rfl rfl w (hJr _ w hg).1) ?_
      refine LM.strip (t := 18) rfl rfl rfl ?_
      refine LM.val (ov_uleq rfl rfl) ?_
      refine LM.val (ov_pickT rfl rfl) ?_
      refine LM.val (ov_move rfl) ?_
      first | refine LM.splitD (t := 24) rfl (fun h3 => ?_) (fun h3 => ?_) | refine LM.splitB (t := 24) rfl (fun h3 => ?_) (fun h3 => ?_)
      ·
        refine LM.strip (t := 24) rfl rfl rfl ?_
        refine LM.val (ov_field Try.underlying72 rfl Try.sizeOf3 rfl (k := 4) rfl rfl) ?_
        refine LM.strip (t := 24) rfl rfl rfl ?_
        first | refine LM.rd (om_ld Try.isAgg3 rfl rfl) ?_
        refine LM.strip (t := 24) rfl rfl rfl ?_
        refine LM.val (ov_eql rfl rfl) ?_
        refine LM.strip (t := 24) rfl rfl rfl ?_
        refine LM.val (ov_move rfl) ?_
        first | refine LM.splitD (t := 28) rfl (fun h4 => ?_) (fun h4 => ?_) | refine LM.splitB (t := 28) rfl (fun h4 => ?_) (fun h4 => ?_)
        ·
          refine LM.drop (t := 28) rfl rfl rfl ?_
          refine LM.drop (t := 28) rfl rfl rfl ?_
          refine LM.drop (t := 28) rfl rfl rfl ?_
          refine LM.drop (t := 28) rfl rfl rfl ?_
          refine LM.strip (t := 24) rfl rfl rfl ?_
          refine LM.val (ov_pickT rfl rfl) ?_
          refine LM.val (ov_pickT rfl rfl) ?_
          refine LM.val (ov_move rfl) ?_
          refine LM.strip (t := 35) rfl rfl rfl ?_
          refine LM.val (ov_move rfl) ?_
          refine LM.strip (t := 35) rfl rfl rfl ?_
          refine LM.val (ov_move rfl) ?_
          refine LM.strip (t := 35) rfl rfl rfl ?_
          first | refine LM.rd (om_ldW Try.isAgg72 Try.sizeOf72 rfl rfl) ?_ | refine LM.rd (om_ldA Try.isAgg72 Try.sizeOf72 rfl (vs := [_, _, _, _, _, _]) rfl ⟨rfl, rfl, rfl, rfl, rfl, rfl, trivial⟩) ?_
          refine LM.strip (t := 35) rfl rfl rfl ?_
          refine LM.mem (M' := []) (fun w _ => Mem.nil w) ?_
          refine LM.yield (n := n0) (G1 := J ((onN ss lock x i) + 1)) (G2 := Jx) rfl rfl (fun w hj => hy ((onN ss lock x i)) _ w (onA_get (by omega) (by simp only [onT, h1, h2, h3, h4, decide_true, decide_false, Bool.true_and, Bool.false_and, Bool.and_true, Bool.and_false, Bool.not_true, Bool.not_false, Bool.true_or, Bool.false_or, Bool.or_true, Bool.or_false, ne_eq, not_true_eq_false, not_false_eq_true, Bool.and_self])) hj) (fun _ => trivial) ?_ ?_
          ·
            refine LM.strip (t := 35) rfl rfl rfl ?_
            first | refine LM.val (ov_notD rfl) ?_ | refine LM.val (ov_not rfl) ?_
            refine LM.val (ov_pickT rfl rfl) ?_
            refine LM.nil ?_
            refine QM.sub (e' := [(0, _), (2, _), (3, _), (7, _), (8, _), (9, _), (41, _)]) ⟨rfl, rfl, rfl, rfl, rfl, rfl, rfl, trivial⟩ ?_
            refine QM.then ?_
            refine wpM.condF rfl ?_
            refine wpM.skip ?_
            refine QM.block_normal ?_
            refine QM.then ?_
            refine wpM.region ?_
            refine LM.val (ov_add64 rfl rfl (by omega)) ?_
            refine LM.val (ov_move rfl) ?_
            refine LM.nil ?_
            refine QM.sub (e' := [(0, _), (2, _), (3, _), (7, _), (8, _), (9, _)]) ⟨rfl, rfl, rfl, rfl, rfl, rfl, trivial⟩ ?_
            -- again1: h1+ h2+ h3+ h4+
            refine QM.againK (i + 1) ⟨(by first | rfl | exact lk rfl (by congr 1; omega) | exact lk rfl (by simp)), rfl, rfl, rfl, rfl, rfl, trivial⟩ (by (repeat' (first | exact SubM.nil _ | refine SubM.cons rfl ?_ | refine SubM.app ?_))) (fun w h => by rw [onN_succ, if_pos (by simp only [onT, h1, h2, h3, h4, decide_true, decide_false, Bool.true_and, Bool.false_and, Bool.and_true, Bool.and_false, Bool.not_true, Bool.not_false, Bool.true_or, Bool.false_or, Bool.or_true, Bool.or_false, ne_eq, not_true_eq_false, not_false_eq_true, Bool.and_self])]; exact h) ?_ ?_
            · omega
            · first | omega | (dsimp only; omega)
          ·
            refine LM.strip (t := 35) rfl rfl rfl ?_
            first | refine LM.val (ov_notD rfl) ?_ | refine LM.val (ov_not rfl) ?_
            refine LM.val (ov_pickT rfl rfl) ?_
            refine LM.nil ?_
            refine QM.sub (e' := [(0, _), (2, _), (3, _), (7, _), (8, _), (9, _), (41, _)]) ⟨rfl, rfl, rfl, rfl, rfl, rfl, rfl, trivial⟩ ?_
            refine QM.then ?_
            refine wpM.condT rfl ?_
            refine wpM.ret ?_
            refine QM.block_ret ?_
            refine QM.then_ret ?_
            refine QM.then_ret ?_
            refine QM.block_ret ?_
            refine QM.leave (.inl rfl) [] Try.results68 rfl ?_
            intro w' hm' hc' hg'
            -- leaf 1: h1+ h2+ h3+ h4+
            exact .inr hg'
        ·
          refine LM.strip (t := 28) rfl rfl rfl ?_
          refine LM.val (ov_field Try.underlying72 rfl Try.sizeOf22 rfl (k := 3) rfl rfl) ?_
          refine LM.strip (t := 28) rfl rfl rfl ?_
          first | refine LM.rd (om_ld Try.isAgg22 rfl rfl) ?_
          refine LM.strip (t := 28) rfl rfl rfl ?_
          refine LM.rdC (fun w _ _ hg => om_load 2 Try.isAgg22 rfl rfl rfl w (hJr _ w hg).1) ?_
          refine LM.strip (t := 28) rfl rfl rfl ?_
          refine LM.val (ov_ugtr rfl rfl) ?_
          refine LM.strip (t := 24) rfl rfl rfl ?_
          refine LM.val (ov_pickF rfl rfl) ?_
          refine LM.val (ov_pickT rfl rfl) ?_
          refine LM.val (ov_move rfl) ?_
          first | refine LM.splitD (t := 35) rfl (fun h5 => ?_) (fun h5 => ?_) | refine LM.splitB (t := 35) rfl (fun h5 => ?_) (fun h5 => ?_)
          ·
            refine LM.strip (t := 35) rfl rfl rfl ?_
            refine LM.val (ov_move rfl) ?_
            refine LM.strip (t := 35) rfl rfl rfl ?_
            refine LM.val (ov_move rfl) ?_
            refine LM.strip (t := 35) rfl rfl rfl ?_
            first | refine LM.rd (om_ldW Try.isAgg72 Try.sizeOf72 rfl rfl) ?_ | refine LM.rd (om_ldA Try.isAgg72 Try.sizeOf72 rfl (vs := [_, _, _, _, _, _]) rfl ⟨rfl, rfl, rfl, rfl, rfl, rfl, trivial⟩) ?_
            refine LM.strip (t := 35) rfl rfl rfl ?_
            refine LM.mem (M' := []) (fun w _ => Mem.nil w) ?_
            refine LM.yield (n := n0) (G1 := J ((onN ss lock x i) + 1)) (G2 := Jx) rfl rfl (fun w hj => hy ((onN ss lock x i)) _ w (onA_get (by omega) (by simp only [onT, h1, h2, h3, h4, h5, decide_true, decide_false, Bool.true_and, Bool.false_and, Bool.and_true, Bool.and_false, Bool.not_true, Bool.not_false, Bool.true_or, Bool.false_or, Bool.or_true, Bool.or_false, ne_eq, not_true_eq_false, not_false_eq_true, Bool.and_self])) hj) (fun _ => trivial) ?_ ?_
            ·
              refine LM.strip (t := 35) rfl rfl rfl ?_
              first | refine LM.val (ov_notD rfl) ?_ | refine LM.val (ov_not rfl) ?_
              refine LM.val (ov_pickT rfl rfl) ?_
              refine LM.nil ?_
              refine QM.sub (e' := [(0, _), (2, _), (3, _), (7, _), (8, _), (9, _), (41, _)]) ⟨rfl, rfl, rfl, rfl, rfl, rfl, rfl, trivial⟩ ?_
              refine QM.then ?_
              refine wpM.condF rfl ?_
              refine wpM.skip ?_
              refine QM.block_normal ?_
              refine QM.then ?_
              refine wpM.region ?_
              refine LM.val (ov_add64 rfl rfl (by omega)) ?_
              refine LM.val (ov_move rfl) ?_
              refine LM.nil ?_
              refine QM.sub (e' := [(0, _), (2, _), (3, _), (7, _), (8, _), (9, _)]) ⟨rfl, rfl, rfl, rfl, rfl, rfl, trivial⟩ ?_
              -- again2: h1+ h2+ h3+ h4- h5+
              refine QM.againK (i + 1) ⟨(by first | rfl | exact lk rfl (by congr 1; omega) | exact lk rfl (by simp)), rfl, rfl, rfl, rfl, rfl, trivial⟩ (by (repeat' (first | exact SubM.nil _ | refine SubM.cons rfl ?_ | refine SubM.app ?_))) (fun w h => by rw [onN_succ, if_pos (by simp only [onT, h1, h2, h3, h4, h5, decide_true, decide_false, Bool.true_and, Bool.false_and, Bool.and_true, Bool.and_false, Bool.not_true, Bool.not_false, Bool.true_or, Bool.false_or, Bool.or_true, Bool.or_false, ne_eq, not_true_eq_false, not_false_eq_true, Bool.and_self])]; exact h) ?_ ?_
              · omega
              · first | omega | (dsimp only; omega)
            ·
              refine LM.strip (t := 35) rfl rfl rfl ?_
              first | refine LM.val (ov_notD rfl) ?_ | refine LM.val (ov_not rfl) ?_
              refine LM.val (ov_pickT rfl rfl) ?_
              refine LM.nil ?_
              refine QM.sub (e' := [(0, _), (2, _), (3, _), (7, _), (8, _), (9, _), (41, _)]) ⟨rfl, rfl, rfl, rfl, rfl, rfl, rfl, trivial⟩ ?_
              refine QM.then ?_
              refine wpM.condT rfl ?_
              refine wpM.ret ?_
              refine QM.block_ret ?_
              refine QM.then_ret ?_
              refine QM.then_ret ?_
              refine QM.block_ret ?_
              refine QM.leave (.inl rfl) [] Try.results68 rfl ?_
              intro w' hm' hc' hg'
              -- leaf 2: h1+ h2+ h3+ h4- h5+
              exact .inr hg'
          ·
            refine LM.drop (t := 35) rfl rfl rfl ?_
            refine LM.drop (t := 35) rfl rfl rfl ?_
            refine LM.drop (t := 35) rfl rfl rfl ?_
            refine LM.drop (t := 35) rfl rfl rfl ?_
            refine LM.drop (t := 35) rfl rfl rfl ?_
            refine LM.val (ov_pickF rfl rfl) ?_
            refine LM.nil ?_
            refine QM.sub (e' := [(0, _), (2, _), (3, _), (7, _), (8, _), (9, _), (41, _)]) ⟨rfl, rfl, rfl, rfl, rfl, rfl, rfl, trivial⟩ ?_
            refine QM.then ?_
            refine wpM.condF rfl ?_
            refine wpM.skip ?_
            refine QM.block_normal ?_
            refine QM.then ?_
            refine wpM.region ?_
            refine LM.val (ov_add64 rfl rfl (by omega)) ?_
            refine LM.val (ov_move rfl) ?_
            refine LM.nil ?_
            refine QM.sub (e' := [(0, _), (2, _), (3, _), (7, _), (8, _), (9, _)]) ⟨rfl, rfl, rfl, rfl, rfl, rfl, trivial⟩ ?_
            -- again3: h1+ h2+ h3+ h4- h5-
            refine QM.againK (i + 1) ⟨(by first | rfl | exact lk rfl (by congr 1; omega) | exact lk rfl (by simp)), rfl, rfl, rfl, rfl, rfl, trivial⟩ (by (repeat' (first | exact SubM.nil _ | refine SubM.cons rfl ?_ | refine SubM.app ?_))) (fun w h => by rw [onN_succ, if_neg (by simp only [onT, h1, h2, h3, h4, h5, decide_true, decide_false, Bool.true_and, Bool.false_and, Bool.and_true, Bool.and_false, Bool.not_true, Bool.not_false, Bool.true_or, Bool.false_or, Bool.or_true, Bool.or_false, ne_eq, not_true_eq_false, not_false_eq_true, Bool.and_self]; decide), Nat.add_zero]; exact h) ?_ ?_
            · omega
            · first | omega | (dsimp only; omega)
      ·
        refine LM.drop (t := 24) rfl rfl rfl ?_
        refine LM.drop (t := 24) rfl rfl rfl ?_
        refine LM.drop (t := 24) rfl rfl rfl ?_
        refine LM.dropU (t := 24) rfl rfl rfl ?_
        refine LM.dropX (t := 28) rfl rfl ?_
        refine LM.dropX (t := 28) rfl rfl ?_
        refine LM.dropX (t := 28) rfl rfl ?_
        refine LM.dropX (t := 28) rfl rfl ?_
        refine LM.drop (t := 24) rfl rfl rfl ?_
        refine LM.val (ov_pickF rfl rfl) ?_
        refine LM.val (ov_move rfl) ?_
        refine LM.drop (t := 35) rfl rfl rfl ?_
        refine LM.drop (t := 35) rfl rfl rfl ?_
        refine LM.drop (t := 35) rfl rfl rfl ?_
        refine LM.drop (t := 35) rfl rfl rfl ?_
        refine LM.drop (t := 35) rfl rfl rfl ?_
        refine LM.val (ov_pickF rfl rfl) ?_
        refine LM.nil ?_
        refine QM.sub (e' := [(0, _), (2, _), (3, _), (7, _), (8, _), (9, _), (41, _)]) ⟨rfl, rfl, rfl, rfl, rfl, rfl, rfl, trivial⟩ ?_
        refine QM.then ?_
        refine wpM.condF rfl ?_
        refine wpM.skip ?_
        refine QM.block_normal ?_
        refine QM.then ?_
        refine wpM.region ?_
        refine LM.val (ov_add64 rfl rfl (by omega)) ?_
        refine LM.val (ov_move rfl) ?_
        refine LM.nil ?_
        refine QM.sub (e' := [(0, _), (2, _), (3, _), (7, _), (8, _), (9, _)]) ⟨rfl, rfl, rfl, rfl, rfl, rfl, trivial⟩ ?_
        -- again4: h1+ h2+ h3-
        refine QM.againK (i + 1) ⟨(by first | rfl | exact lk rfl (by congr 1; omega) | exact lk rfl (by simp)), rfl, rfl, rfl, rfl, rfl, trivial⟩ (by (repeat' (first | exact SubM.nil _ | refine SubM.cons rfl ?_ | refine SubM.app ?_))) (fun w h => by rw [onN_succ, if_neg (by simp only [onT, h1, h2, h3, decide_true, decide_false, Bool.true_and, Bool.false_and, Bool.and_true, Bool.and_false, Bool.not_true, Bool.not_false, Bool.true_or, Bool.false_or, Bool.or_true, Bool.or_false, ne_eq, not_true_eq_false, not_false_eq_true, Bool.and_self]; decide), Nat.add_zero]; exact h) ?_ ?_
        · omega
        · first | omega | (dsimp only; omega)
    ·
      refine LM.drop (t := 18) rfl rfl rfl ?_
      refine LM.drop (t := 18) rfl rfl rfl ?_
      refine LM.drop (t := 18) rfl rfl rfl ?_
      refine LM.drop (t := 18) rfl rfl rfl ?_
      refine LM.val (ov_pickF rfl rfl) ?_
      refine LM.val (ov_move rfl) ?_
      refine LM.drop (t := 24) rfl rfl rfl ?_
      refine LM.drop (t := 24) rfl rfl rfl ?_
      refine LM.drop (t := 24) rfl rfl rfl ?_
      refine LM.dropU (t := 24) rfl rfl rfl ?_
      refine LM.dropX (t := 28) rfl rfl ?_
      refine LM.dropX (t := 28) rfl rfl ?_
      refine LM.dropX (t := 28) rfl rfl ?_
      refine LM.dropX (t := 28) rfl rfl ?_
      refine LM.drop (t := 24) rfl rfl rfl ?_
      refine LM.val (ov_pickF rfl rfl) ?_
      refine LM.val (ov_move rfl) ?_
      refine LM.drop (t := 35) rfl rfl rfl ?_
      refine LM.drop (t := 35) rfl rfl rfl ?_
      refine LM.drop (t := 35) rfl rfl rfl ?_
      refine LM.drop (t := 35) rfl rfl rfl ?_
      refine LM.drop (t := 35) rfl rfl rfl ?_
      refine LM.val (ov_pickF rfl rfl) ?_
      refine LM.nil ?_
      refine QM.sub (e' := [(0, _), (2, _), (3, _), (7, _), (8, _), (9, _), (41, _)]) ⟨rfl, rfl, rfl, rfl, rfl, rfl, rfl, trivial⟩ ?_
      refine QM.then ?_
      refine wpM.condF rfl ?_
      refine wpM.skip ?_
      refine QM.block_normal ?_
      refine QM.then ?_
      refine wpM.region ?_
      refine LM.val (ov_add64 rfl rfl (by omega)) ?_
      refine LM.val (ov_move rfl) ?_
      refine LM.nil ?_
      refine QM.sub (e' := [(0, _), (2, _), (3, _), (7, _), (8, _), (9, _)]) ⟨rfl, rfl, rfl, rfl, rfl, rfl, trivial⟩ ?_
      -- again5: h1+ h2-
      refine QM.againK (i + 1) ⟨(by first | rfl | exact lk rfl (by congr 1; omega) | exact lk rfl (by simp)), rfl, rfl, rfl, rfl, rfl, trivial⟩ (by (repeat' (first | exact SubM.nil _ | refine SubM.cons rfl ?_ | refine SubM.app ?_))) (fun w h => by rw [onN_succ, if_neg (by simp only [onT, h1, h2, decide_true, decide_false, Bool.true_and, Bool.false_and, Bool.and_true, Bool.and_false, Bool.not_true, Bool.not_false, Bool.true_or, Bool.false_or, Bool.or_true, Bool.or_false, ne_eq, not_true_eq_false, not_false_eq_true, Bool.and_self]; decide), Nat.add_zero]; exact h) ?_ ?_
      · omega
      · first | omega | (dsimp only; omega)
  ·
    refine wpM.exit ?_
    refine QM.then_exit ?_
    refine QM.then_exit ?_
    refine QM.block_hit ?_
    refine QM.leave (.inr rfl) [] Try.results68 rfl ?_
    intro w' hm' hc' hg'
    -- leaf 3: h1-
    have hil : i = ss.length := (by omega); subst hil; rw [← onA_len] at hg'; exact .inl hg'

end Go.Eng

