/- The walks of sets of numbers. No condition. -/
import Derived.Test.YtpemcncnehhgfaaDoorIdsLaw
import Derived.Test.YtpemcncnehhgfaaDoorRows
set_option linter.unusedVariables false
set_option linter.unusedSimpArgs false
namespace Go.Eng
open Go Go.Proofs Go.RowKit

def lenI (x : BitVec 64) : Int := iand (pc64 x).toInt 127
def ofL (l : List Int) : BitVec 64 := l.foldl withS 0#64
theorem ofL_take {l : List Int} {i : Nat} (h : i < l.length) : ofL (l.take (i + 1)) = withS (ofL (l.take i)) (l.getD i 0) := by
  unfold ofL; rw [take_snoc 0 h, List.foldl_append]; rfl
abbrev uBx (b : Nat) (x : BitVec 64) : Nat × Obj := (b, .cells #[U x] 23 (0, 0))
set_option maxRecDepth 100000 in
theorem bit_spec (i : Int) (w : World) : Ret Tryd.prog 55 #[.int .i64 i] w (fun v w' => v = U (bitU i) ∧ Ext w w') := by
  refine Ret.enterM (l := [.int .i64 i]) Tryd.func55 rfl Tryd.ntmps55 rfl ([]) (no) (Mem.nil w) ?_
  refine wpM.seq ?_
  refine wpM.region ?_
  refine LM.val (ov_assign rfl) ?_
  refine LM.nil ?_
  refine QM.sub (e' := [(0, _)]) ⟨rfl, trivial⟩ ?_
  refine QM.then ?_
  refine wpM.seq ?_
  refine wpM.seq ?_
  refine wpM.region ?_
  refine LM.val (ov_move rfl) ?_
  refine LM.val (ov_lss rfl rfl) ?_
  refine LM.val (ov_move rfl) ?_
  first | refine LM.splitD (t := 5) rfl (fun h1 => ?_) (fun h1 => ?_) | refine LM.splitB (t := 5) rfl (fun h1 => ?_) (fun h1 => ?_)
  ·
    refine LM.drop (t := 5) rfl rfl rfl ?_
    refine LM.drop (t := 5) rfl rfl rfl ?_
    refine LM.val (ov_pickT rfl rfl) ?_
    refine LM.nil ?_
    refine QM.sub (e' := [(0, _), (8, _)]) ⟨rfl, rfl, trivial⟩ ?_
    refine QM.then ?_
    refine wpM.condT rfl ?_
    refine wpM.seq ?_
    refine wpM.region ?_
    refine LM.val (ov_assign rfl) ?_
    refine LM.nil ?_
    refine QM.sub (e' := [(2, _)]) ⟨rfl, trivial⟩ ?_
    refine QM.then ?_
    refine wpM.ret ?_
    refine QM.then_ret ?_
    refine QM.leave (.inl rfl) [.tmp 2] Tryd.results55 rfl ?_
    intro w' hm' hc' hg'
    -- leaf 1: h1+
    refine ⟨?_, hc'⟩; simp only [resV, bitU]; first | (rw [if_pos (by omega)]; done) | (rw [if_neg (by omega)]; done) | (rw [if_pos (by omega)]; rfl)
  ·
    refine LM.strip (t := 5) rfl rfl rfl ?_
    refine LM.val (ov_move rfl) ?_
    refine LM.strip (t := 5) rfl rfl rfl ?_
    refine LM.val (ov_gtr rfl rfl) ?_
    refine LM.val (ov_pickF rfl rfl) ?_
    refine LM.nil ?_
    refine QM.sub (e' := [(0, _), (8, _)]) ⟨rfl, rfl, trivial⟩ ?_
    refine QM.then ?_
    first | refine wpM.condD rfl (fun h2 => ?_) (fun h2 => ?_) | refine wpM.condB rfl (fun h2 => ?_) (fun h2 => ?_)
    ·
      refine wpM.seq ?_
      refine wpM.region ?_
      refine LM.val (ov_assign rfl) ?_
      refine LM.nil ?_
      refine QM.sub (e' := [(2, _)]) ⟨rfl, trivial⟩ ?_
      refine QM.then ?_
      refine wpM.ret ?_
      refine QM.then_ret ?_
      refine QM.leave (.inl rfl) [.tmp 2] Tryd.results55 rfl ?_
      intro w' hm' hc' hg'
      -- leaf 2: h1- h2+
      refine ⟨?_, hc'⟩; simp only [resV, bitU]; first | (rw [if_pos (by omega)]; done) | (rw [if_neg (by omega)]; done) | (rw [if_pos (by omega)]; rfl)
    ·
      refine wpM.skip ?_
      refine QM.then ?_
      refine wpM.seq ?_
      refine wpM.region ?_
      refine LM.val (ov_move rfl) ?_
      refine LM.val (ov_ushl (a := 1#64) rfl rfl (by omega)) ?_
      refine LM.val (ov_assign rfl) ?_
      refine LM.nil ?_
      refine QM.sub (e' := [(2, _)]) ⟨rfl, trivial⟩ ?_
      refine QM.then ?_
      refine wpM.ret ?_
      refine QM.leave (.inl rfl) [.tmp 2] Tryd.results55 rfl ?_
      intro w' hm' hc' hg'
      -- leaf 3: h1- h2-
      refine ⟨?_, hc'⟩; simp only [resV, bitU]; first | (rw [if_pos (by omega)]; done) | (rw [if_neg (by omega)]; done) | (rw [if_pos (by omega)]; rfl)

set_option maxRecDepth 100000 in
theorem of_spec {l : List Int} {ad : Option Addr} {n cap : Nat} (w : World) (hn : n = l.length) (hl : Sr fI 1 l (.slice ad n cap) w) (hx : l.length ≤ 1000000000000) : Ret Tryd.prog 14 #[.slice ad n cap] w (fun v w' => v = U (ofL l) ∧ Ext w w') := by
  refine Ret.enterM (l := [.slice ad n cap]) Tryd.func14 rfl Tryd.ntmps14 rfl ([]) (no) (Mem.nil w) ?_
  refine wpM.seq ?_
  refine wpM.region ?_
  refine LM.val (ov_assign rfl) ?_
  refine LM.nil ?_
  refine QM.sub (e' := [(0, _)]) ⟨rfl, trivial⟩ ?_
  refine QM.then ?_
  refine wpM.seq ?_
  refine wpM.region ?_
  refine LM.val (ov_assign rfl) ?_
  refine LM.nil ?_
  refine QM.sub (e' := [(0, _), (3, _)]) ⟨rfl, rfl, trivial⟩ ?_
  refine QM.then ?_
  refine wpM.seq ?_
  refine wpM.seq ?_
  refine wpM.region ?_
  refine LM.val (ov_move rfl) ?_
  refine LM.val (ov_len Tryd.underlying22 rfl) ?_
  refine LM.val (ov_move rfl) ?_
  refine LM.nil ?_
  refine QM.sub (e' := [(3, _), (6, _), (7, _), (8, _)]) ⟨rfl, rfl, rfl, rfl, trivial⟩ ?_
  refine QM.then ?_
  refine wpM.block ?_
  refine wpM.loopK0 (α := Nat) (fun i => [(3, U (ofL (l.take i))), (8, .int .i64 (i : Nat))]) [(6, _), (7, _)] (fun i => []) (fun i => i ≤ l.length) (fun i => l.length - i) (0) ⟨(by first | rfl | exact lk rfl (by rw [ofL_take (by omega)]; rfl)), (by first | rfl | exact lk rfl (by simp)), rfl, rfl, trivial⟩ (by (repeat' (first | exact SubM.nil _ | refine SubM.cons rfl ?_ | refine SubM.app ?_))) (Nat.zero_le _) ?_
  rintro i hi
  change wpM _ _ _ _ _ _ _ ([]) _ _ _
  refine wpM.seq ?_
  refine wpM.region ?_
  refine LM.val (ov_lss rfl rfl) ?_
  refine LM.nil ?_
  refine QM.sub (e' := [(3, _), (6, _), (7, _), (8, _), (9, _)]) ⟨rfl, rfl, rfl, rfl, rfl, trivial⟩ ?_
  refine QM.then ?_
  refine wpM.seq ?_
  first | refine wpM.condD rfl (fun h1 => ?_) (fun h1 => ?_) | refine wpM.condB rfl (fun h1 => ?_) (fun h1 => ?_)
  ·
    refine wpM.skip ?_
    refine QM.then ?_
    refine wpM.seq ?_
    refine wpM.block ?_
    refine wpM.seq ?_
    refine wpM.region ?_
    first | refine LM.val (ov_idxSN (by first | exact Sr.spt (by assumption) | exact Sl.spt (by assumption)) Tryd.underlying22 Tryd.sizeOf3 rfl rfl (by omega)) ?_ | refine LM.val (ov_idxS (by first | exact Sr.spt (by assumption) | exact Sl.spt (by assumption)) Tryd.underlying22 Tryd.sizeOf3 rfl rfl (by omega)) ?_ | refine LM.val (ov_idx1 Tryd.underlying22 Tryd.sizeOf3 rfl rfl (by omega)) ?_
    first | refine LM.rd (om_sl1 (by assumption) (by intro _; rfl) Tryd.isAgg3 rfl rfl (by exact getq 0 (by first | omega | (simp only [List.length_set, List.length_append, List.length_cons, List.length_nil]; omega))) (by rfl)) ?_ | refine LM.rdC (om_sr1 (by assumption) Tryd.isAgg3 rfl rfl (by exact getq 0 (by first | omega | (simp only [List.length_set, List.length_append, List.length_cons, List.length_nil]; omega))) (by rfl) id) ?_ | refine LM.rd (om_ld Tryd.isAgg3 rfl rfl) ?_
    refine LM.val (ov_assign rfl) ?_
    refine LM.nil ?_
    refine QM.sub (e' := [(3, _), (5, _), (6, _), (7, _), (8, _)]) ⟨rfl, rfl, rfl, rfl, rfl, trivial⟩ ?_
    refine QM.then ?_
    refine wpM.region ?_
    refine LM.val (ov_move rfl) ?_
    refine LM.val (ov_move rfl) ?_
    refine LM.callE (oc_call (enters_fn Tryd.func55 (by kernel_rfl) rfl) rfl) (fun w hm hc hg => bit_spec _ w) ?_
    refine LM.val (ov_uor rfl rfl) ?_
    refine LM.val (ov_assign rfl) ?_
    refine LM.nil ?_
    refine QM.sub (e' := [(3, _), (6, _), (7, _), (8, _)]) ⟨rfl, rfl, rfl, rfl, trivial⟩ ?_
    refine QM.block_normal ?_
    refine QM.then ?_
    refine wpM.region ?_
    refine LM.val (ov_add64 rfl rfl (by omega)) ?_
    refine LM.val (ov_move rfl) ?_
    refine LM.nil ?_
    refine QM.sub (e' := [(3, _), (6, _), (7, _), (8, _)]) ⟨rfl, rfl, rfl, rfl, trivial⟩ ?_
    -- again1: h1+
    refine QM.againK (i + 1) ⟨(by first | rfl | exact lk rfl (by rw [ofL_take (by omega)]; rfl)), (by first | rfl | exact lk rfl (by simp)), rfl, rfl, trivial⟩ (by (repeat' (first | exact SubM.nil _ | refine SubM.cons rfl ?_ | refine SubM.app ?_))) (fun _ h => h) ?_ ?_
    · omega
    · first | omega | (dsimp only; omega)
  ·
    refine wpM.exit ?_
    refine QM.then_exit ?_
    refine QM.then_exit ?_
    refine QM.block_hit ?_
    refine QM.then ?_
    refine wpM.seq ?_
    refine wpM.region ?_
    refine LM.val (ov_move rfl) ?_
    refine LM.val (ov_assign rfl) ?_
    refine LM.nil ?_
    refine QM.sub (e' := [(2, _)]) ⟨rfl, trivial⟩ ?_
    refine QM.then ?_
    refine wpM.ret ?_
    refine QM.leave (.inl rfl) [.tmp 2] Tryd.results14 rfl ?_
    intro w' hm' hc' hg'
    -- leaf 1: h1-
    have e1 : l.take i = l := List.take_of_length_le (by omega)
    refine ⟨?_, hc'⟩; simp only [resV]; rw [e1]

set_option maxRecDepth 100000 in
theorem has_spec (s : BitVec 64) (i : Int) (w : World) : Ret Tryd.prog 19 #[U s, .int .i64 i] w (fun v w' => v = .bool (hasB s i) ∧ Ext w w') := by
  refine Ret.enterM (l := [U s, .int .i64 i]) Tryd.func19 rfl Tryd.ntmps19 rfl ([]) (no) (Mem.nil w) ?_
  refine wpM.seq ?_
  refine wpM.region ?_
  refine LM.val (ov_assign rfl) ?_
  refine LM.nil ?_
  refine QM.sub (e' := [(0, _), (1, _)]) ⟨rfl, rfl, trivial⟩ ?_
  refine QM.then ?_
  refine wpM.seq ?_
  refine wpM.region ?_
  refine LM.val (ov_move rfl) ?_
  refine LM.val (ov_move rfl) ?_
  refine LM.callE (oc_call (enters_fn Tryd.func55 (by kernel_rfl) rfl) rfl) (fun w hm hc hg => bit_spec _ w) ?_
  refine LM.val (ov_uand rfl rfl) ?_
  refine LM.val (ov_uneq (b := 0#64) rfl rfl) ?_
  refine LM.val (ov_assign rfl) ?_
  refine LM.nil ?_
  refine QM.sub (e' := [(4, _)]) ⟨rfl, trivial⟩ ?_
  refine QM.then ?_
  refine wpM.ret ?_
  refine QM.leave (.inl rfl) [.tmp 4] Tryd.results19 rfl ?_
  intro w' hm' hc' hg'
  -- leaf 1: 
  exact ⟨by simp only [resV]; rw [has_bit], hc'⟩

set_option maxRecDepth 100000 in
theorem with_spec (s : BitVec 64) (i : Int) (w : World) : Ret Tryd.prog 21 #[U s, .int .i64 i] w (fun v w' => v = U (withS s i) ∧ Ext w w') := by
  refine Ret.enterM (l := [U s, .int .i64 i]) Tryd.func21 rfl Tryd.ntmps21 rfl ([]) (no) (Mem.nil w) ?_
  refine wpM.seq ?_
  refine wpM.region ?_
  refine LM.val (ov_assign rfl) ?_
  refine LM.nil ?_
  refine QM.sub (e' := [(0, _), (1, _)]) ⟨rfl, rfl, trivial⟩ ?_
  refine QM.then ?_
  refine wpM.seq ?_
  refine wpM.region ?_
  refine LM.val (ov_move rfl) ?_
  refine LM.val (ov_move rfl) ?_
  refine LM.callE (oc_call (enters_fn Tryd.func55 (by kernel_rfl) rfl) rfl) (fun w hm hc hg => bit_spec _ w) ?_
  refine LM.val (ov_uor rfl rfl) ?_
  refine LM.val (ov_assign rfl) ?_
  refine LM.nil ?_
  refine QM.sub (e' := [(4, _)]) ⟨rfl, trivial⟩ ?_
  refine QM.then ?_
  refine wpM.ret ?_
  refine QM.leave (.inl rfl) [.tmp 4] Tryd.results21 rfl ?_
  intro w' hm' hc' hg'
  -- leaf 1: 
  exact ⟨rfl, hc'⟩

set_option maxRecDepth 100000 in
theorem without_spec (s : BitVec 64) (i : Int) (w : World) : Ret Tryd.prog 22 #[U s, .int .i64 i] w (fun v w' => v = U (witho s i) ∧ Ext w w') := by
  refine Ret.enterM (l := [U s, .int .i64 i]) Tryd.func22 rfl Tryd.ntmps22 rfl ([]) (no) (Mem.nil w) ?_
  refine wpM.seq ?_
  refine wpM.region ?_
  refine LM.val (ov_assign rfl) ?_
  refine LM.nil ?_
  refine QM.sub (e' := [(0, _), (1, _)]) ⟨rfl, rfl, trivial⟩ ?_
  refine QM.then ?_
  refine wpM.seq ?_
  refine wpM.region ?_
  refine LM.val (ov_move rfl) ?_
  refine LM.val (ov_move rfl) ?_
  refine LM.callE (oc_call (enters_fn Tryd.func55 (by kernel_rfl) rfl) rfl) (fun w hm hc hg => bit_spec _ w) ?_
  refine LM.val (ov_uandNot rfl rfl) ?_
  refine LM.val (ov_assign rfl) ?_
  refine LM.nil ?_
  refine QM.sub (e' := [(4, _)]) ⟨rfl, trivial⟩ ?_
  refine QM.then ?_
  refine wpM.ret ?_
  refine QM.leave (.inl rfl) [.tmp 4] Tryd.results22 rfl ?_
  intro w' hm' hc' hg'
  -- leaf 1: 
  exact ⟨rfl, hc'⟩

set_option maxRecDepth 100000 in
theorem within_spec (a b : BitVec 64) (w : World) : Ret Tryd.prog 16 #[U a, U b] w (fun v w' => v = .bool (decide (a &&& ~~~b = 0#64)) ∧ Ext w w') := by
  refine Ret.enterM (l := [U a, U b]) Tryd.func16 rfl Tryd.ntmps16 rfl ([]) (no) (Mem.nil w) ?_
  refine wpM.seq ?_
  refine wpM.region ?_
  refine LM.val (ov_assign rfl) ?_
  refine LM.nil ?_
  refine QM.sub (e' := [(0, _), (1, _)]) ⟨rfl, rfl, trivial⟩ ?_
  refine QM.then ?_
  refine wpM.seq ?_
  refine wpM.region ?_
  refine LM.val (ov_move rfl) ?_
  refine LM.val (ov_move rfl) ?_
  refine LM.val (ov_uandNot rfl rfl) ?_
  refine LM.val (ov_ueql (b := 0#64) rfl rfl) ?_
  refine LM.val (ov_assign rfl) ?_
  refine LM.nil ?_
  refine QM.sub (e' := [(4, _)]) ⟨rfl, trivial⟩ ?_
  refine QM.then ?_
  refine wpM.ret ?_
  refine QM.leave (.inl rfl) [.tmp 4] Tryd.results16 rfl ?_
  intro w' hm' hc' hg'
  -- leaf 1: 
  exact ⟨rfl, hc'⟩

set_option maxRecDepth 100000 in
theorem ones_spec (x : BitVec 64) (w : World) : Ret Tryd.prog 58 #[U x] w (fun v w' => v = .int .i64 (lenI x) ∧ Ext w w') := by
  refine Ret.enterM (l := [U x]) Tryd.func58 rfl Tryd.ntmps58 rfl ([]) (no) (Mem.nil w) ?_
  refine wpM.seq ?_
  refine wpM.region ?_
  refine LM.val (ov_assign rfl) ?_
  refine LM.nil ?_
  refine QM.sub (e' := [(0, _)]) ⟨rfl, trivial⟩ ?_
  refine QM.then ?_
  refine wpM.seq ?_
  refine wpM.region ?_
  refine LM.val (ov_move rfl) ?_
  refine LM.val (ov_ushr rfl rfl (by omega)) ?_
  refine LM.val (ov_uand (b := 6148914691236517205#64) rfl rfl) ?_
  refine LM.val (ov_move rfl) ?_
  refine LM.val (ov_uand (b := 6148914691236517205#64) rfl rfl) ?_
  refine LM.val (ov_uadd rfl rfl) ?_
  refine LM.val (ov_assign rfl) ?_
  refine LM.nil ?_
  refine QM.sub (e' := [(0, _)]) ⟨rfl, trivial⟩ ?_
  refine QM.then ?_
  refine wpM.seq ?_
  refine wpM.region ?_
  refine LM.val (ov_move rfl) ?_
  refine LM.val (ov_ushr rfl rfl (by omega)) ?_
  refine LM.val (ov_uand (b := 3689348814741910323#64) rfl rfl) ?_
  refine LM.val (ov_move rfl) ?_
  refine LM.val (ov_uand (b := 3689348814741910323#64) rfl rfl) ?_
  refine LM.val (ov_uadd rfl rfl) ?_
  refine LM.val (ov_assign rfl) ?_
  refine LM.nil ?_
  refine QM.sub (e' := [(0, _)]) ⟨rfl, trivial⟩ ?_
  refine QM.then ?_
  refine wpM.seq ?_
  refine wpM.region ?_
  refine LM.val (ov_move rfl) ?_
  refine LM.val (ov_ushr rfl rfl (by omega)) ?_
  refine LM.val (ov_move rfl) ?_
  refine LM.val (ov_uadd rfl rfl) ?_
  refine LM.val (ov_uand (b := 1085102592571150095#64) rfl rfl) ?_
  refine LM.val (ov_assign rfl) ?_
  refine LM.nil ?_
  refine QM.sub (e' := [(0, _)]) ⟨rfl, trivial⟩ ?_
  refine QM.then ?_
  refine wpM.seq ?_
  refine wpM.region ?_
  refine LM.val (ov_move rfl) ?_
  refine LM.val (ov_move rfl) ?_
  refine LM.val (ov_ushr rfl rfl (by omega)) ?_
  refine LM.val (ov_uadd rfl rfl) ?_
  refine LM.val (ov_assign rfl) ?_
  refine LM.nil ?_
  refine QM.sub (e' := [(0, _)]) ⟨rfl, trivial⟩ ?_
  refine QM.then ?_
  refine wpM.seq ?_
  refine wpM.region ?_
  refine LM.val (ov_move rfl) ?_
  refine LM.val (ov_move rfl) ?_
  refine LM.val (ov_ushr rfl rfl (by omega)) ?_
  refine LM.val (ov_uadd rfl rfl) ?_
  refine LM.val (ov_assign rfl) ?_
  refine LM.nil ?_
  refine QM.sub (e' := [(0, _)]) ⟨rfl, trivial⟩ ?_
  refine QM.then ?_
  refine wpM.seq ?_
  refine wpM.region ?_
  refine LM.val (ov_move rfl) ?_
  refine LM.val (ov_move rfl) ?_
  refine LM.val (ov_ushr rfl rfl (by omega)) ?_
  refine LM.val (ov_uadd rfl rfl) ?_
  refine LM.val (ov_assign rfl) ?_
  refine LM.nil ?_
  refine QM.sub (e' := [(0, _)]) ⟨rfl, trivial⟩ ?_
  refine QM.then ?_
  refine wpM.seq ?_
  refine wpM.region ?_
  refine LM.val (ov_move rfl) ?_
  refine LM.val (ov_ofU Tryd.underlying23 Tryd.underlying3 rfl) ?_
  refine LM.val (ov_and64 rfl rfl) ?_
  refine LM.val (ov_assign rfl) ?_
  refine LM.nil ?_
  refine QM.sub (e' := [(2, _)]) ⟨rfl, trivial⟩ ?_
  refine QM.then ?_
  refine wpM.ret ?_
  refine QM.leave (.inl rfl) [.tmp 2] Tryd.results58 rfl ?_
  intro w' hm' hc' hg'
  -- leaf 1: 
  exact ⟨rfl, hc'⟩

set_option maxRecDepth 100000 in
theorem trail_spec (x : BitVec 64) (w : World) (hT : Tab w) : Ret Tryd.prog 57 #[U x] w (fun v w' => v = .int .i64 (lsb x : Nat) ∧ Ext w w') := by
  refine Ret.enterM (l := [U x]) Tryd.func57 rfl Tryd.ntmps57 rfl ([]) (no) (Mem.nil w) ?_
  refine wpM.seq ?_
  refine wpM.region ?_
  refine LM.val (ov_assign rfl) ?_
  refine LM.nil ?_
  refine QM.sub (e' := [(0, _)]) ⟨rfl, trivial⟩ ?_
  refine QM.then ?_
  refine wpM.seq ?_
  refine wpM.seq ?_
  refine wpM.region ?_
  refine LM.val (ov_move rfl) ?_
  refine LM.val (ov_ueql (b := 0#64) rfl rfl) ?_
  refine LM.nil ?_
  refine QM.sub (e' := [(0, _), (4, _)]) ⟨rfl, rfl, trivial⟩ ?_
  refine QM.then ?_
  first | refine wpM.condD rfl (fun h1 => ?_) (fun h1 => ?_) | refine wpM.condB rfl (fun h1 => ?_) (fun h1 => ?_)
  ·
    refine wpM.seq ?_
    refine wpM.region ?_
    refine LM.val (ov_assign rfl) ?_
    refine LM.nil ?_
    refine QM.sub (e' := [(2, _)]) ⟨rfl, trivial⟩ ?_
    refine QM.then ?_
    refine wpM.ret ?_
    refine QM.then_ret ?_
    refine QM.leave (.inl rfl) [.tmp 2] Tryd.results57 rfl ?_
    intro w' hm' hc' hg'
    -- leaf 1: h1+
    exact ⟨by simp only [resV]; rw [h1, lsb_zero]; rfl, hc'⟩
  ·
    refine wpM.skip ?_
    refine QM.then ?_
    refine wpM.seq ?_
    refine wpM.region ?_
    refine LM.val (ov_move rfl) ?_
    refine LM.val (ov_move rfl) ?_
    refine LM.val (ov_uneg rfl) ?_
    refine LM.val (ov_uand rfl rfl) ?_
    refine LM.val (ov_umul (b := 285870213051353865#64) rfl rfl) ?_
    refine LM.val (ov_ushr rfl rfl (by omega)) ?_
    have hb : (((x &&& -x) * 285870213051353865#64) >>> (58 : Int).toNat).toNat < 64 := (by rw [and_neg h1]; exact (deb_at _ (lsb_spec h1).1).2); have hd : debT.getD (((x &&& -x) * 285870213051353865#64) >>> (58 : Int).toNat).toNat 0 = (lsb x : Nat) := (by rw [and_neg h1]; exact (deb_at _ (lsb_spec h1).1).1); have hlb := (lsb_spec h1).1
    first | refine LM.val (ov_idxAN Tryd.underlying92 Tryd.sizeOf5 rfl rfl (by omega)) ?_ | refine LM.val (ov_idxA Tryd.underlying92 Tryd.sizeOf5 rfl rfl (by omega)) ?_
    refine LM.rdC (v := .int .u8 (lsb x : Nat)) (fun w _ hc _ => hd ▸ om_tab (hT.ext hc) Tryd.isAgg5 rfl (by omega) hb) ?_
    refine LM.val (ov_to64 Tryd.underlying5 Tryd.underlying3 rfl (by omega)) ?_
    refine LM.val (ov_assign rfl) ?_
    refine LM.nil ?_
    refine QM.sub (e' := [(2, _)]) ⟨rfl, trivial⟩ ?_
    refine QM.then ?_
    refine wpM.ret ?_
    refine QM.leave (.inl rfl) [.tmp 2] Tryd.results57 rfl ?_
    intro w' hm' hc' hg'
    -- leaf 2: h1-
    exact ⟨rfl, hc'⟩

set_option maxRecDepth 100000 in
theorem len_spec (s : BitVec 64) (w : World) : Ret Tryd.prog 24 #[U s] w (fun v w' => v = .int .i64 (lenI s) ∧ Ext w w') := by
  refine Ret.enterM (l := [U s]) Tryd.func24 rfl Tryd.ntmps24 rfl ([]) (no) (Mem.nil w) ?_
  refine wpM.seq ?_
  refine wpM.region ?_
  refine LM.val (ov_assign rfl) ?_
  refine LM.nil ?_
  refine QM.sub (e' := [(0, _)]) ⟨rfl, trivial⟩ ?_
  refine QM.then ?_
  refine wpM.seq ?_
  refine wpM.region ?_
  refine LM.val (ov_move rfl) ?_
  refine LM.callE (oc_call (enters_fn Tryd.func58 (by kernel_rfl) rfl) rfl) (fun w hm hc hg => ones_spec _ w) ?_
  refine LM.val (ov_assign rfl) ?_
  refine LM.nil ?_
  refine QM.sub (e' := [(2, _)]) ⟨rfl, trivial⟩ ?_
  refine QM.then ?_
  refine wpM.ret ?_
  refine QM.leave (.inl rfl) [.tmp 2] Tryd.results24 rfl ?_
  intro w' hm' hc' hg'
  -- leaf 1: 
  exact ⟨rfl, hc'⟩

set_option maxRecDepth 100000 in
theorem first_spec (s : BitVec 64) (w : World) (hT : Tab w) : Ret Tryd.prog 25 #[U s] w (fun v w' => v = .int .i64 (firstI s) ∧ Ext w w') := by
  refine Ret.enterM (l := [U s]) Tryd.func25 rfl Tryd.ntmps25 rfl ([]) (no) (Mem.nil w) ?_
  refine wpM.seq ?_
  refine wpM.region ?_
  refine LM.val (ov_assign rfl) ?_
  refine LM.nil ?_
  refine QM.sub (e' := [(0, _)]) ⟨rfl, trivial⟩ ?_
  refine QM.then ?_
  refine wpM.seq ?_
  refine wpM.seq ?_
  refine wpM.region ?_
  refine LM.val (ov_move rfl) ?_
  refine LM.val (ov_ueql (b := 0#64) rfl rfl) ?_
  refine LM.nil ?_
  refine QM.sub (e' := [(0, _), (4, _)]) ⟨rfl, rfl, trivial⟩ ?_
  refine QM.then ?_
  first | refine wpM.condD rfl (fun h1 => ?_) (fun h1 => ?_) | refine wpM.condB rfl (fun h1 => ?_) (fun h1 => ?_)
  ·
    refine wpM.seq ?_
    refine wpM.region ?_
    refine LM.val (ov_assign rfl) ?_
    refine LM.nil ?_
    refine QM.sub (e' := [(2, _)]) ⟨rfl, trivial⟩ ?_
    refine QM.then ?_
    refine wpM.ret ?_
    refine QM.then_ret ?_
    refine QM.leave (.inl rfl) [.tmp 2] Tryd.results25 rfl ?_
    intro w' hm' hc' hg'
    -- leaf 1: h1+
    refine ⟨?_, hc'⟩; simp only [resV, firstI]; first | (rw [if_pos h1]; done) | (rw [if_neg h1])
  ·
    refine wpM.skip ?_
    refine QM.then ?_
    refine wpM.seq ?_
    refine wpM.region ?_
    refine LM.val (ov_move rfl) ?_
    refine LM.callE (oc_call (enters_fn Tryd.func57 (by kernel_rfl) rfl) rfl) (fun w hm hc hg => trail_spec _ w (hT.ext hc)) ?_
    refine LM.val (ov_assign rfl) ?_
    refine LM.nil ?_
    refine QM.sub (e' := [(2, _)]) ⟨rfl, trivial⟩ ?_
    refine QM.then ?_
    refine wpM.ret ?_
    refine QM.leave (.inl rfl) [.tmp 2] Tryd.results25 rfl ?_
    intro w' hm' hc' hg'
    -- leaf 2: h1-
    refine ⟨?_, hc'⟩; simp only [resV, firstI]; first | (rw [if_pos h1]; done) | (rw [if_neg h1])

set_option maxRecDepth 100000 in
theorem rhas_spec (s : BitVec 64) (i : Int) (w : World) : Ret Tryd.prog 20 #[U s, .int .i64 i] w (fun v w' => v = .bool (hasB s i) ∧ Ext w w') := by
  refine Ret.enterM (l := [U s, .int .i64 i]) Tryd.func20 rfl Tryd.ntmps20 rfl ([]) (no) (Mem.nil w) ?_
  refine wpM.seq ?_
  refine wpM.region ?_
  refine LM.val (ov_assign rfl) ?_
  refine LM.nil ?_
  refine QM.sub (e' := [(0, _), (1, _)]) ⟨rfl, rfl, trivial⟩ ?_
  refine QM.then ?_
  refine wpM.seq ?_
  refine wpM.region ?_
  refine LM.val (ov_move rfl) ?_
  refine LM.val (ov_geq rfl rfl) ?_
  refine LM.val (ov_move rfl) ?_
  first | refine LM.splitD (t := 7) rfl (fun h1 => ?_) (fun h1 => ?_) | refine LM.splitB (t := 7) rfl (fun h1 => ?_) (fun h1 => ?_)
  ·
    refine LM.strip (t := 7) rfl rfl rfl ?_
    refine LM.val (ov_move rfl) ?_
    refine LM.strip (t := 7) rfl rfl rfl ?_
    refine LM.val (ov_lss rfl rfl) ?_
    refine LM.val (ov_pickT rfl rfl) ?_
    refine LM.val (ov_move rfl) ?_
    first | refine LM.splitD (t := 11) rfl (fun h2 => ?_) (fun h2 => ?_) | refine LM.splitB (t := 11) rfl (fun h2 => ?_) (fun h2 => ?_)
    ·
      refine LM.strip (t := 11) rfl rfl rfl ?_
      refine LM.val (ov_move rfl) ?_
      refine LM.strip (t := 11) rfl rfl rfl ?_
      refine LM.val (ov_move rfl) ?_
      refine LM.strip (t := 11) rfl rfl rfl ?_
      refine LM.val (ov_ushr rfl rfl (by omega)) ?_
      refine LM.strip (t := 11) rfl rfl rfl ?_
      refine LM.val (ov_urem (b := 2#64) rfl rfl (by first | decide | assumption)) ?_
      refine LM.strip (t := 11) rfl rfl rfl ?_
      refine LM.val (ov_ueql (b := 1#64) rfl rfl) ?_
      refine LM.val (ov_pickT rfl rfl) ?_
      refine LM.val (ov_assign rfl) ?_
      refine LM.nil ?_
      refine QM.sub (e' := [(4, _)]) ⟨rfl, trivial⟩ ?_
      refine QM.then ?_
      refine wpM.ret ?_
      refine QM.leave (.inl rfl) [.tmp 4] Tryd.results20 rfl ?_
      intro w' hm' hc' hg'
      -- leaf 1: h1+ h2+
      refine ⟨?_, hc'⟩; simp only [resV, hasB, h1, h2, decide_true, decide_false, Bool.true_and, Bool.false_and, Bool.and_true, Bool.and_false, Bool.not_true, Bool.not_false, Bool.true_or, Bool.false_or, Bool.or_true, Bool.or_false, ne_eq, not_true_eq_false, not_false_eq_true, Bool.and_self]; rw [shr_mod]
    ·
      refine LM.drop (t := 11) rfl rfl rfl ?_
      refine LM.drop (t := 11) rfl rfl rfl ?_
      refine LM.drop (t := 11) rfl rfl rfl ?_
      refine LM.drop (t := 11) rfl rfl rfl ?_
      refine LM.drop (t := 11) rfl rfl rfl ?_
      refine LM.val (ov_pickF rfl rfl) ?_
      refine LM.val (ov_assign rfl) ?_
      refine LM.nil ?_
      refine QM.sub (e' := [(4, _)]) ⟨rfl, trivial⟩ ?_
      refine QM.then ?_
      refine wpM.ret ?_
      refine QM.leave (.inl rfl) [.tmp 4] Tryd.results20 rfl ?_
      intro w' hm' hc' hg'
      -- leaf 2: h1+ h2-
      refine ⟨?_, hc'⟩; simp only [resV, hasB, h1, h2, decide_true, decide_false, Bool.true_and, Bool.false_and, Bool.and_true, Bool.and_false, Bool.not_true, Bool.not_false, Bool.true_or, Bool.false_or, Bool.or_true, Bool.or_false, ne_eq, not_true_eq_false, not_false_eq_true, Bool.and_self]
  ·
    refine LM.drop (t := 7) rfl rfl rfl ?_
    refine LM.drop (t := 7) rfl rfl rfl ?_
    refine LM.val (ov_pickF rfl rfl) ?_
    refine LM.val (ov_move rfl) ?_
    refine LM.drop (t := 11) rfl rfl rfl ?_
    refine LM.drop (t := 11) rfl rfl rfl ?_
    refine LM.drop (t := 11) rfl rfl rfl ?_
    refine LM.drop (t := 11) rfl rfl rfl ?_
    refine LM.drop (t := 11) rfl rfl rfl ?_
    refine LM.val (ov_pickF rfl rfl) ?_
    refine LM.val (ov_assign rfl) ?_
    refine LM.nil ?_
    refine QM.sub (e' := [(4, _)]) ⟨rfl, trivial⟩ ?_
    refine QM.then ?_
    refine wpM.ret ?_
    refine QM.leave (.inl rfl) [.tmp 4] Tryd.results20 rfl ?_
    intro w' hm' hc' hg'
    -- leaf 3: h1-
    refine ⟨?_, hc'⟩; simp only [resV, hasB, h1, decide_true, decide_false, Bool.true_and, Bool.false_and, Bool.and_true, Bool.and_false, Bool.not_true, Bool.not_false, Bool.true_or, Bool.false_or, Bool.or_true, Bool.or_false, ne_eq, not_true_eq_false, not_false_eq_true, Bool.and_self]

set_option maxRecDepth 100000 in
theorem rwith_spec (s : BitVec 64) (i : Int) (w : World) : Ret Tryd.prog 15 #[U s, .int .i64 i] w (fun v w' => v = U (withS s i) ∧ Ext w w') := by
  refine Ret.enterM (l := [U s, .int .i64 i]) Tryd.func15 rfl Tryd.ntmps15 rfl ([]) (no) (Mem.nil w) ?_
  refine wpM.seq ?_
  refine wpM.region ?_
  refine LM.val (ov_assign rfl) ?_
  refine LM.nil ?_
  refine QM.sub (e' := [(0, _), (1, _)]) ⟨rfl, rfl, trivial⟩ ?_
  refine QM.then ?_
  refine wpM.seq ?_
  refine wpM.seq ?_
  refine wpM.region ?_
  refine LM.val (ov_move rfl) ?_
  refine LM.val (ov_lss rfl rfl) ?_
  refine LM.val (ov_move rfl) ?_
  first | refine LM.splitD (t := 7) rfl (fun h1 => ?_) (fun h1 => ?_) | refine LM.splitB (t := 7) rfl (fun h1 => ?_) (fun h1 => ?_)
  ·
    refine LM.drop (t := 7) rfl rfl rfl ?_
    refine LM.drop (t := 7) rfl rfl rfl ?_
    refine LM.val (ov_pickT rfl rfl) ?_
    refine LM.val (ov_move rfl) ?_
    refine LM.drop (t := 11) rfl rfl rfl ?_
    refine LM.drop (t := 11) rfl rfl rfl ?_
    refine LM.drop (t := 11) rfl rfl rfl ?_
    refine LM.val (ov_pickT rfl rfl) ?_
    refine LM.nil ?_
    refine QM.sub (e' := [(0, _), (1, _), (15, _)]) ⟨rfl, rfl, rfl, trivial⟩ ?_
    refine QM.then ?_
    refine wpM.condT rfl ?_
    refine wpM.seq ?_
    refine wpM.region ?_
    refine LM.val (ov_move rfl) ?_
    refine LM.val (ov_assign rfl) ?_
    refine LM.nil ?_
    refine QM.sub (e' := [(4, _)]) ⟨rfl, trivial⟩ ?_
    refine QM.then ?_
    refine wpM.ret ?_
    refine QM.then_ret ?_
    refine QM.leave (.inl rfl) [.tmp 4] Tryd.results15 rfl ?_
    intro w' hm' hc' hg'
    -- leaf 1: h1+
    refine ⟨?_, hc'⟩; simp only [resV]; first | exact congrArg U (with_out (by omega)).symm | exact congrArg U (with_has (by assumption)).symm | exact congrArg U (add_bit (by omega) (by assumption))
  ·
    refine LM.strip (t := 7) rfl rfl rfl ?_
    refine LM.val (ov_move rfl) ?_
    refine LM.strip (t := 7) rfl rfl rfl ?_
    refine LM.val (ov_gtr rfl rfl) ?_
    refine LM.val (ov_pickF rfl rfl) ?_
    refine LM.val (ov_move rfl) ?_
    first | refine LM.splitD (t := 11) rfl (fun h2 => ?_) (fun h2 => ?_) | refine LM.splitB (t := 11) rfl (fun h2 => ?_) (fun h2 => ?_)
    ·
      refine LM.drop (t := 11) rfl rfl rfl ?_
      refine LM.drop (t := 11) rfl rfl rfl ?_
      refine LM.drop (t := 11) rfl rfl rfl ?_
      refine LM.val (ov_pickT rfl rfl) ?_
      refine LM.nil ?_
      refine QM.sub (e' := [(0, _), (1, _), (15, _)]) ⟨rfl, rfl, rfl, trivial⟩ ?_
      refine QM.then ?_
      refine wpM.condT rfl ?_
      refine wpM.seq ?_
      refine wpM.region ?_
      refine LM.val (ov_move rfl) ?_
      refine LM.val (ov_assign rfl) ?_
      refine LM.nil ?_
      refine QM.sub (e' := [(4, _)]) ⟨rfl, trivial⟩ ?_
      refine QM.then ?_
      refine wpM.ret ?_
      refine QM.then_ret ?_
      refine QM.leave (.inl rfl) [.tmp 4] Tryd.results15 rfl ?_
      intro w' hm' hc' hg'
      -- leaf 2: h1- h2+
      refine ⟨?_, hc'⟩; simp only [resV]; first | exact congrArg U (with_out (by omega)).symm | exact congrArg U (with_has (by assumption)).symm | exact congrArg U (add_bit (by omega) (by assumption))
    ·
      refine LM.strip (t := 11) rfl rfl rfl ?_
      refine LM.val (ov_move rfl) ?_
      refine LM.strip (t := 11) rfl rfl rfl ?_
      refine LM.val (ov_move rfl) ?_
      refine LM.strip (t := 11) rfl rfl rfl ?_
      refine LM.callE (oc_call (enters_fn Tryd.func20 (by kernel_rfl) rfl) rfl) (fun w hm hc hg => rhas_spec _ _ w) ?_
      refine LM.val (ov_pickF rfl rfl) ?_
      refine LM.nil ?_
      refine QM.sub (e' := [(0, _), (1, _), (15, _)]) ⟨rfl, rfl, rfl, trivial⟩ ?_
      refine QM.then ?_
      first | refine wpM.condD rfl (fun h3 => ?_) (fun h3 => ?_) | refine wpM.condB rfl (fun h3 => ?_) (fun h3 => ?_)
      ·
        refine wpM.seq ?_
        refine wpM.region ?_
        refine LM.val (ov_move rfl) ?_
        refine LM.val (ov_assign rfl) ?_
        refine LM.nil ?_
        refine QM.sub (e' := [(4, _)]) ⟨rfl, trivial⟩ ?_
        refine QM.then ?_
        refine wpM.ret ?_
        refine QM.then_ret ?_
        refine QM.leave (.inl rfl) [.tmp 4] Tryd.results15 rfl ?_
        intro w' hm' hc' hg'
        -- leaf 3: h1- h2- h3+
        refine ⟨?_, hc'⟩; simp only [resV]; first | exact congrArg U (with_out (by omega)).symm | exact congrArg U (with_has (by assumption)).symm | exact congrArg U (add_bit (by omega) (by assumption))
      ·
        refine wpM.skip ?_
        refine QM.then ?_
        refine wpM.seq ?_
        refine wpM.region ?_
        refine LM.val (ov_move rfl) ?_
        refine LM.val (ov_move rfl) ?_
        refine LM.val (ov_ushl (a := 1#64) rfl rfl (by omega)) ?_
        refine LM.val (ov_uadd rfl rfl) ?_
        refine LM.val (ov_assign rfl) ?_
        refine LM.nil ?_
        refine QM.sub (e' := [(4, _)]) ⟨rfl, trivial⟩ ?_
        refine QM.then ?_
        refine wpM.ret ?_
        refine QM.leave (.inl rfl) [.tmp 4] Tryd.results15 rfl ?_
        intro w' hm' hc' hg'
        -- leaf 4: h1- h2- h3-
        refine ⟨?_, hc'⟩; simp only [resV]; first | exact congrArg U (with_out (by omega)).symm | exact congrArg U (with_has (by assumption)).symm | exact congrArg U (add_bit (by omega) (by assumption))

set_option maxRecDepth 100000 in
theorem rwithout_spec (s : BitVec 64) (i : Int) (w : World) : Ret Tryd.prog 23 #[U s, .int .i64 i] w (fun v w' => v = U (witho s i) ∧ Ext w w') := by
  refine Ret.enterM (l := [U s, .int .i64 i]) Tryd.func23 rfl Tryd.ntmps23 rfl ([]) (no) (Mem.nil w) ?_
  refine wpM.seq ?_
  refine wpM.region ?_
  refine LM.val (ov_assign rfl) ?_
  refine LM.nil ?_
  refine QM.sub (e' := [(0, _), (1, _)]) ⟨rfl, rfl, trivial⟩ ?_
  refine QM.then ?_
  refine wpM.seq ?_
  refine wpM.seq ?_
  refine wpM.region ?_
  refine LM.val (ov_move rfl) ?_
  refine LM.val (ov_move rfl) ?_
  refine LM.callE (oc_call (enters_fn Tryd.func20 (by kernel_rfl) rfl) rfl) (fun w hm hc hg => rhas_spec _ _ w) ?_
  first | refine LM.val (ov_notD rfl) ?_ | refine LM.val (ov_not rfl) ?_
  refine LM.nil ?_
  refine QM.sub (e' := [(0, _), (1, _), (8, _)]) ⟨rfl, rfl, rfl, trivial⟩ ?_
  refine QM.then ?_
  first | refine wpM.condD rfl (fun h1 => ?_) (fun h1 => ?_) | refine wpM.condB rfl (fun h1 => ?_) (fun h1 => ?_)
  ·
    refine wpM.seq ?_
    refine wpM.region ?_
    refine LM.val (ov_move rfl) ?_
    refine LM.val (ov_assign rfl) ?_
    refine LM.nil ?_
    refine QM.sub (e' := [(4, _)]) ⟨rfl, trivial⟩ ?_
    refine QM.then ?_
    refine wpM.ret ?_
    refine QM.then_ret ?_
    refine QM.leave (.inl rfl) [.tmp 4] Tryd.results23 rfl ?_
    intro w' hm' hc' hg'
    -- leaf 1: h1+
    refine ⟨?_, hc'⟩; simp only [resV]; exact congrArg U (witho_no (by simpa using h1)).symm
  ·
    have hr := hasB_rng (s := s) (i := i) (by simpa using h1)
    refine wpM.skip ?_
    refine QM.then ?_
    refine wpM.seq ?_
    refine wpM.region ?_
    refine LM.val (ov_move rfl) ?_
    refine LM.val (ov_move rfl) ?_
    refine LM.val (ov_ushl (a := 1#64) rfl rfl (by omega)) ?_
    refine LM.val (ov_usub rfl rfl) ?_
    refine LM.val (ov_assign rfl) ?_
    refine LM.nil ?_
    refine QM.sub (e' := [(4, _)]) ⟨rfl, trivial⟩ ?_
    refine QM.then ?_
    refine wpM.ret ?_
    refine QM.leave (.inl rfl) [.tmp 4] Tryd.results23 rfl ?_
    intro w' hm' hc' hg'
    -- leaf 2: h1-
    refine ⟨?_, hc'⟩; simp only [resV]; exact congrArg U (sub_bit (by simpa using h1))

end Go.Eng

