/- The walk of the law of edges. No condition. -/
import Derived.Test.YtpemcncnehhgfaaDoorGraph5
set_option linter.unusedVariables false
set_option linter.unusedSimpArgs false
namespace Go.Eng
open Go Go.Proofs Go.RowKit

set_option maxRecDepth 100000 in
theorem graphEdges {l : List Ed} {ad : Option Addr} {n cap : Nat} (who : Int) (s : BitVec 64) (w : World) (hT : Tab w) (hn : n = l.length) (hl : Sr fEd 2 l (.slice ad n cap) w) : Ret Tryd.prog 12 #[.slice ad n cap, .int .i64 who, U s] w (fun v w' => v = .bool true ∧ Ext w w') := by
  have hpos := hT.pos
  refine Ret.enterM (l := [.slice ad n cap, .int .i64 who, U s]) Tryd.func12 rfl Tryd.ntmps12 rfl ([]) (no) (Mem.nil w) ?_
  refine wpM.seq ?_
  refine wpM.region ?_
  refine LM.alloc Tryd.zeroValue4 rfl (fun b6 hb6 => ?_)
  refine LM.nil ?_
  refine QM.sub (e' := [(0, _), (1, _), (2, _), (6, _)]) ⟨rfl, rfl, rfl, rfl, trivial⟩ ?_
  refine QM.then ?_
  refine wpM.seq ?_
  refine wpM.seq ?_
  refine wpM.region ?_
  refine LM.callE (oc_call (enters_fn Tryd.func26 (by kernel_rfl) rfl) rfl) (fun w hm hc hg => awake22 w (hT.ext hc)) ?_
  first | refine LM.val (ov_notD rfl) ?_ | refine LM.val (ov_not rfl) ?_
  refine LM.nil ?_
  refine QM.sub (e' := [(0, _), (1, _), (2, _), (6, _), (9, _)]) ⟨rfl, rfl, rfl, rfl, rfl, trivial⟩ ?_
  refine QM.then ?_
  first | refine wpM.condD rfl (fun h1 => ?_) (fun h1 => ?_) | refine wpM.condB rfl (fun h1 => ?_) (fun h1 => ?_)
  ·
    refine wpM.seq ?_
    refine wpM.region ?_
    refine LM.st Tryd.sizeOf4 rfl rfl rfl (by first | decide | exact Nat.le_of_ble_eq_true rfl | (simp; done) | (simp; omega)) rfl (fun hlt => absurd hlt (by omega)) ?_
    refine LM.nil ?_
    refine QM.sub (e' := [(6, _)]) ⟨rfl, trivial⟩ ?_
    refine QM.then ?_
    refine wpM.ret ?_
    refine QM.then_ret ?_
    refine QM.leaveCF Tryd.results12 rfl Tryd.isAgg4 rfl ?_
    intro w' hm' hc' hg'
    -- leaf 1: h1+
    first | exact ⟨rfl, hc'⟩ | (refine ⟨?_, hc'⟩; simp [resV]; done) | (exfalso; simp at *; done)
  ·
    refine wpM.skip ?_
    refine QM.then ?_
    refine wpM.seq ?_
    refine wpM.seq ?_
    refine wpM.region ?_
    refine LM.val (ov_move rfl) ?_
    refine LM.val (ov_len Tryd.underlying75 rfl) ?_
    refine LM.val (ov_gtr rfl rfl) ?_
    refine LM.nil ?_
    refine QM.sub (e' := [(0, _), (1, _), (2, _), (6, _), (12, _)]) ⟨rfl, rfl, rfl, rfl, rfl, trivial⟩ ?_
    refine QM.then ?_
    first | refine wpM.condD rfl (fun h2 => ?_) (fun h2 => ?_) | refine wpM.condB rfl (fun h2 => ?_) (fun h2 => ?_)
    ·
      refine wpM.seq ?_
      refine wpM.region ?_
      refine LM.st Tryd.sizeOf4 rfl rfl rfl (by first | decide | exact Nat.le_of_ble_eq_true rfl | (simp; done) | (simp; omega)) rfl (fun hlt => absurd hlt (by omega)) ?_
      refine LM.nil ?_
      refine QM.sub (e' := [(6, _)]) ⟨rfl, trivial⟩ ?_
      refine QM.then ?_
      refine wpM.ret ?_
      refine QM.then_ret ?_
      refine QM.leaveCF Tryd.results12 rfl Tryd.isAgg4 rfl ?_
      intro w' hm' hc' hg'
      -- leaf 2: h1- h2+
      first | exact ⟨rfl, hc'⟩ | (refine ⟨?_, hc'⟩; simp [resV]; done) | (exfalso; simp at *; done)
    ·
      refine wpM.skip ?_
      refine QM.then ?_
      refine wpM.seq ?_
      refine wpM.region ?_
      refine LM.val (ov_assign rfl) ?_
      refine LM.nil ?_
      refine QM.sub (e' := [(0, _), (1, _), (2, _), (6, _), (7, _)]) ⟨rfl, rfl, rfl, rfl, rfl, trivial⟩ ?_
      refine QM.then ?_
      refine wpM.seq ?_
      refine wpM.seq ?_
      refine wpM.region ?_
      refine LM.val (ov_move rfl) ?_
      refine LM.callT (oc_call (enters_fn Tryd.func52 (by kernel_rfl) rfl) rfl) EdgT.mono (fun w hm hc hg => edges_spec _ w) ?_
      rintro u14 m14 ⟨c1, rfl, rfl, hc1⟩ -
      refine LM.nil ?_
      refine QM.sub (e' := [(0, _), (1, _), (2, _), (6, _), (7, _), (14, _)]) ⟨rfl, rfl, rfl, rfl, rfl, rfl, trivial⟩ ?_
      refine QM.then ?_
      refine wpM.block ?_
      refine wpM.toRange (α := Unit) (fun k ⟨⟩ => pB c1 none :: (b6, .cells #[.bool false] 4 (0, 0)) :: []) (⟨⟩) (by (repeat' (first | exact SubM.nil _ | refine SubM.cons rfl ?_ | refine SubM.app ?_))) ?_
      refine wpM.rangeP (α := Unit) (β := Unit) (enters_fn Tryd.func68 (by kernel_rfl) rfl) rfl (edges_nil) (fun k ⟨⟩ Mp => pB c1 none :: (b6, .cells #[.bool false] 4 (0, 0)) :: Mp) (by rintro k ⟨⟩ Mp; first | rfl | simp) (fun _ _ => top) (fun k ⟨⟩ => True) (fun ⟨⟩ => pB c1 none :: (b6, .cells #[.bool false] 4 (0, 0)) :: []) (fun _ => top) (fun c ⟨⟩ => False) ⟨⟩ rfl (fun _ h => h) trivial (by kernel_rfl) (by intro k av hav; cases hav) (.inl trivial) (fun k a w hm hc _ _ => ⟨SubM.mem (by (repeat' (first | exact SubM.nil _ | refine SubM.cons rfl ?_ | refine SubM.app ?_))) w hm, hT.ext hc⟩) (fun _ _ _ _ => gl_top _) (fun _ _ _ => gl_top _) (fun k x _ => by ((repeat (refine mm_cons rfl ?_)); exact fun p hp => .inl (by first | exact hp | (simp at hp; done) | (simp [hp]; done) | (simp at hp ⊢; first | exact .inl hp | exact hp | (simp [hp]; done))))) (fun c z _ => by ((repeat (refine mm_cons rfl ?_)); exact fun p hp => .inl (by first | exact hp | (simp at hp; done) | (simp [hp]; done) | (simp at hp ⊢; first | exact .inl hp | exact hp | (simp [hp]; done))))) ?_ ?_ ?_ ?_
      ·
        rintro k av ⟨⟩ l D rc n1 W1 Mp hD hll hput hrc hav -
        change wpM _ _ _ _ _ _ _ ((l, Obj.loop rc) :: ([(D, Obj.deferred (some []))] ++ (pB c1 none :: (b6, .cells #[.bool false] 4 (0, 0)) :: Mp))) _ _ _
        skip
        cases hav
      ·
        rintro ⟨⟩ D0 hD0 -
        refine QM.sub (e' := [(0, _), (1, _), (2, _), (6, _), (7, _)]) ⟨rfl, rfl, rfl, rfl, rfl, trivial⟩ ?_
        refine QM.block_normal ?_
        refine QM.then ?_
        refine wpM.seq ?_
        refine wpM.region ?_
        refine LM.val (ov_move rfl) ?_
        refine LM.callE (oc_call (enters_fn Tryd.func54 (by kernel_rfl) rfl) rfl) (fun w hm hc hg => cyclic_spec w (hT.ext hc) hn (hl.ext hc) (by omega)) ?_
        refine LM.val (ov_move rfl) ?_
        refine LM.callE (oc_call (enters_fn Tryd.func53 (by kernel_rfl) rfl) rfl) (fun w hm hc hg => rcyclic_spec w hn (hl.ext hc) (by omega)) ?_
        refine LM.val (ov_beql Tryd.underlying4 rfl rfl) ?_
        refine LM.val (ov_move rfl) ?_
        first | refine LM.splitD (t := 21) rfl (fun h3 => ?_) (fun h3 => ?_) | refine LM.splitB (t := 21) rfl (fun h3 => ?_) (fun h3 => ?_)
        ·
          refine LM.strip (t := 21) rfl rfl rfl ?_
          refine LM.val (ov_move rfl) ?_
          refine LM.strip (t := 21) rfl rfl rfl ?_
          refine LM.val (ov_move rfl) ?_
          refine LM.strip (t := 21) rfl rfl rfl ?_
          refine LM.val (ov_move rfl) ?_
          refine LM.strip (t := 21) rfl rfl rfl ?_
          refine LM.callE (oc_call (enters_fn Tryd.func28 (by kernel_rfl) rfl) rfl) (fun w hm hc hg => wait_nil _ _ w) ?_
          refine LM.strip (t := 21) rfl rfl rfl ?_
          refine LM.val (ov_eql rfl rfl) ?_
          refine LM.val (ov_pickT rfl rfl) ?_
          refine LM.val (ov_move rfl) ?_
          first | refine LM.splitD (t := 28) rfl (fun h4 => ?_) (fun h4 => ?_) | refine LM.splitB (t := 28) rfl (fun h4 => ?_) (fun h4 => ?_)
          ·
            refine LM.strip (t := 28) rfl rfl rfl ?_
            refine LM.val (ov_move rfl) ?_
            refine LM.strip (t := 28) rfl rfl rfl ?_
            refine LM.val (ov_move rfl) ?_
            refine LM.strip (t := 28) rfl rfl rfl ?_
            refine LM.callE (oc_call (enters_fn Tryd.func36 (by kernel_rfl) rfl) rfl) (fun w hm hc hg => clear_nil _ w) ?_
            refine LM.strip (t := 28) rfl rfl rfl ?_
            first | refine LM.val (ov_notD rfl) ?_ | refine LM.val (ov_not rfl) ?_
            refine LM.val (ov_pickT rfl rfl) ?_
            refine LM.val (ov_move rfl) ?_
            first | refine LM.splitD (t := 34) rfl (fun h5 => ?_) (fun h5 => ?_) | refine LM.splitB (t := 34) rfl (fun h5 => ?_) (fun h5 => ?_)
            ·
              refine LM.strip (t := 34) rfl rfl rfl ?_
              refine LM.val (ov_move rfl) ?_
              refine LM.strip (t := 34) rfl rfl rfl ?_
              refine LM.val (ov_move rfl) ?_
              refine LM.strip (t := 34) rfl rfl rfl ?_
              refine LM.callE (oc_call (enters_fn Tryd.func31 (by kernel_rfl) rfl) rfl) (fun w hm hc hg => gof_nil _ w) ?_
              refine LM.strip (t := 34) rfl rfl rfl ?_
              refine LM.val (ov_move rfl) ?_
              refine LM.strip (t := 34) rfl rfl rfl ?_
              refine LM.val (ov_move rfl) ?_
              refine LM.strip (t := 34) rfl rfl rfl ?_
              refine LM.callE (oc_call (enters_fn Tryd.func29 (by kernel_rfl) rfl) rfl) (fun w hm hc hg => reach_nil _ w) ?_
              refine LM.strip (t := 34) rfl rfl rfl ?_
              refine LM.val (ov_uor rfl rfl) ?_
              refine LM.strip (t := 34) rfl rfl rfl ?_
              refine LM.val (ov_move rfl) ?_
              refine LM.strip (t := 34) rfl rfl rfl ?_
              refine LM.val (ov_move rfl) ?_
              refine LM.strip (t := 34) rfl rfl rfl ?_
              refine LM.callE (oc_call (enters_fn Tryd.func30 (by kernel_rfl) rfl) rfl) (fun w hm hc hg => behind_nil _ w) ?_
              refine LM.strip (t := 34) rfl rfl rfl ?_
              refine LM.val (ov_uor rfl rfl) ?_
              refine LM.strip (t := 34) rfl rfl rfl ?_
              refine LM.val (ov_ueql (b := 0#64) rfl rfl) ?_
              refine LM.val (ov_pickT rfl rfl) ?_
              refine LM.val (ov_move rfl) ?_
              first | refine LM.splitD (t := 48) rfl (fun h6 => ?_) (fun h6 => ?_) | refine LM.splitB (t := 48) rfl (fun h6 => ?_) (fun h6 => ?_)
              ·
                refine LM.strip (t := 48) rfl rfl rfl ?_
                refine LM.val (ov_move rfl) ?_
                refine LM.strip (t := 48) rfl rfl rfl ?_
                refine LM.val (ov_move rfl) ?_
                refine LM.strip (t := 48) rfl rfl rfl ?_
                refine LM.val (ov_move rfl) ?_
                refine LM.strip (t := 48) rfl rfl rfl ?_
                refine LM.callE (oc_call (enters_fn Tryd.func45 (by kernel_rfl) rfl) rfl) (fun w hm hc hg => closes_nil _ _ w) ?_
                refine LM.strip (t := 48) rfl rfl rfl ?_
                first | refine LM.val (ov_notD rfl) ?_ | refine LM.val (ov_not rfl) ?_
                refine LM.val (ov_pickT rfl rfl) ?_
                refine LM.val (ov_move rfl) ?_
                first | refine LM.splitD (t := 55) rfl (fun h7 => ?_) (fun h7 => ?_) | refine LM.splitB (t := 55) rfl (fun h7 => ?_) (fun h7 => ?_)
                ·
                  refine LM.strip (t := 55) rfl rfl rfl ?_
                  refine LM.val (ov_move rfl) ?_
                  refine LM.strip (t := 55) rfl rfl rfl ?_
                  refine LM.val (ov_move rfl) ?_
                  refine LM.strip (t := 55) rfl rfl rfl ?_
                  refine LM.cS (oc_call (enters_fn Tryd.func32 (by kernel_rfl) rfl) rfl) (fun w hm hc hg => chain_nil _ w) (fun ad58 n58 cap58 m58 hn58 hs58 => ?_)
                  refine LM.strip (t := 55) rfl rfl rfl ?_
                  refine LM.val (ov_len Tryd.underlying22 rfl) ?_
                  refine LM.strip (t := 55) rfl rfl rfl ?_
                  refine LM.val (ov_eql rfl rfl) ?_
                  refine LM.val (ov_pickT rfl rfl) ?_
                  refine LM.st Tryd.sizeOf4 rfl rfl rfl (by first | decide | exact Nat.le_of_ble_eq_true rfl | (simp; done) | (simp; omega)) rfl (fun hlt => absurd hlt (by omega)) ?_
                  refine LM.nil ?_
                  refine QM.sub (e' := [(6, _)]) ⟨rfl, trivial⟩ ?_
                  refine QM.then ?_
                  refine wpM.ret ?_
                  refine QM.leaveCDF (ds := [D0]) Tryd.results12 rfl (fun D h => by simp only [List.mem_cons, List.not_mem_nil, or_false] at h; omega) Tryd.isAgg4 rfl ?_
                  intro w' hm' hc'
                  -- leaf 3: h1- h2- h3+ h4+ h5+ h6+ h7+
                  refine ⟨?_, hc'⟩; show Value.bool (decide ((n58 : Int) = 0)) = _; rw [hn58]; rfl
                ·
                  refine LM.drop (t := 55) rfl rfl rfl ?_
                  refine LM.drop (t := 55) rfl rfl rfl ?_
                  refine LM.drop (t := 55) rfl rfl rfl ?_
                  refine LM.drop (t := 55) rfl rfl rfl ?_
                  refine LM.drop (t := 55) rfl rfl rfl ?_
                  refine LM.val (ov_pickF rfl rfl) ?_
                  refine LM.st Tryd.sizeOf4 rfl rfl rfl (by first | decide | exact Nat.le_of_ble_eq_true rfl | (simp; done) | (simp; omega)) rfl (fun hlt => absurd hlt (by omega)) ?_
                  refine LM.nil ?_
                  refine QM.sub (e' := [(6, _)]) ⟨rfl, trivial⟩ ?_
                  refine QM.then ?_
                  refine wpM.ret ?_
                  refine QM.leaveCDF (ds := [D0]) Tryd.results12 rfl (fun D h => by simp only [List.mem_cons, List.not_mem_nil, or_false] at h; omega) Tryd.isAgg4 rfl ?_
                  intro w' hm' hc'
                  -- leaf 4: h1- h2- h3+ h4+ h5+ h6+ h7-
                  first | exact ⟨rfl, hc'⟩ | (refine ⟨?_, hc'⟩; simp [resV]; done) | (exfalso; simp at *; done)
              ·
                refine LM.drop (t := 48) rfl rfl rfl ?_
                refine LM.drop (t := 48) rfl rfl rfl ?_
                refine LM.drop (t := 48) rfl rfl rfl ?_
                refine LM.drop (t := 48) rfl rfl rfl ?_
                refine LM.drop (t := 48) rfl rfl rfl ?_
                refine LM.val (ov_pickF rfl rfl) ?_
                refine LM.val (ov_move rfl) ?_
                refine LM.drop (t := 55) rfl rfl rfl ?_
                refine LM.drop (t := 55) rfl rfl rfl ?_
                refine LM.drop (t := 55) rfl rfl rfl ?_
                refine LM.drop (t := 55) rfl rfl rfl ?_
                refine LM.drop (t := 55) rfl rfl rfl ?_
                refine LM.val (ov_pickF rfl rfl) ?_
                refine LM.st Tryd.sizeOf4 rfl rfl rfl (by first | decide | exact Nat.le_of_ble_eq_true rfl | (simp; done) | (simp; omega)) rfl (fun hlt => absurd hlt (by omega)) ?_
                refine LM.nil ?_
                refine QM.sub (e' := [(6, _)]) ⟨rfl, trivial⟩ ?_
                refine QM.then ?_
                refine wpM.ret ?_
                refine QM.leaveCDF (ds := [D0]) Tryd.results12 rfl (fun D h => by simp only [List.mem_cons, List.not_mem_nil, or_false] at h; omega) Tryd.isAgg4 rfl ?_
                intro w' hm' hc'
                -- leaf 5: h1- h2- h3+ h4+ h5+ h6-
                first | exact ⟨rfl, hc'⟩ | (refine ⟨?_, hc'⟩; simp [resV]; done) | (exfalso; simp at *; done)
            ·
              refine LM.drop (t := 34) rfl rfl rfl ?_
              refine LM.drop (t := 34) rfl rfl rfl ?_
              refine LM.drop (t := 34) rfl rfl rfl ?_
              refine LM.drop (t := 34) rfl rfl rfl ?_
              refine LM.drop (t := 34) rfl rfl rfl ?_
              refine LM.drop (t := 34) rfl rfl rfl ?_
              refine LM.drop (t := 34) rfl rfl rfl ?_
              refine LM.drop (t := 34) rfl rfl rfl ?_
              refine LM.drop (t := 34) rfl rfl rfl ?_
              refine LM.drop (t := 34) rfl rfl rfl ?_
              refine LM.drop (t := 34) rfl rfl rfl ?_
              refine LM.drop (t := 34) rfl rfl rfl ?_
              refine LM.val (ov_pickF rfl rfl) ?_
              refine LM.val (ov_move rfl) ?_
              refine LM.drop (t := 48) rfl rfl rfl ?_
              refine LM.drop (t := 48) rfl rfl rfl ?_
              refine LM.drop (t := 48) rfl rfl rfl ?_
              refine LM.drop (t := 48) rfl rfl rfl ?_
              refine LM.drop (t := 48) rfl rfl rfl ?_
              refine LM.val (ov_pickF rfl rfl) ?_
              refine LM.val (ov_move rfl) ?_
              refine LM.drop (t := 55) rfl rfl rfl ?_
              refine LM.drop (t := 55) rfl rfl rfl ?_
              refine LM.drop (t := 55) rfl rfl rfl ?_
              refine LM.drop (t := 55) rfl rfl rfl ?_
              refine LM.drop (t := 55) rfl rfl rfl ?_
              refine LM.val (ov_pickF rfl rfl) ?_
              refine LM.st Tryd.sizeOf4 rfl rfl rfl (by first | decide | exact Nat.le_of_ble_eq_true rfl | (simp; done) | (simp; omega)) rfl (fun hlt => absurd hlt (by omega)) ?_
              refine LM.nil ?_
              refine QM.sub (e' := [(6, _)]) ⟨rfl, trivial⟩ ?_
              refine QM.then ?_
              refine wpM.ret ?_
              refine QM.leaveCDF (ds := [D0]) Tryd.results12 rfl (fun D h => by simp only [List.mem_cons, List.not_mem_nil, or_false] at h; omega) Tryd.isAgg4 rfl ?_
              intro w' hm' hc'
              -- leaf 6: h1- h2- h3+ h4+ h5-
              first | exact ⟨rfl, hc'⟩ | (refine ⟨?_, hc'⟩; simp [resV]; done) | (exfalso; simp at *; done)
          ·
            refine LM.drop (t := 28) rfl rfl rfl ?_
            refine LM.drop (t := 28) rfl rfl rfl ?_
            refine LM.drop (t := 28) rfl rfl rfl ?_
            refine LM.drop (t := 28) rfl rfl rfl ?_
            refine LM.val (ov_pickF rfl rfl) ?_
            refine LM.val (ov_move rfl) ?_
            refine LM.drop (t := 34) rfl rfl rfl ?_
            refine LM.drop (t := 34) rfl rfl rfl ?_
            refine LM.drop (t := 34) rfl rfl rfl ?_
            refine LM.drop (t := 34) rfl rfl rfl ?_
            refine LM.drop (t := 34) rfl rfl rfl ?_
            refine LM.drop (t := 34) rfl rfl rfl ?_
            refine LM.drop (t := 34) rfl rfl rfl ?_
            refine LM.drop (t := 34) rfl rfl rfl ?_
            refine LM.drop (t := 34) rfl rfl rfl ?_
            refine LM.drop (t := 34) rfl rfl rfl ?_
            refine LM.drop (t := 34) rfl rfl rfl ?_
            refine LM.drop (t := 34) rfl rfl rfl ?_
            refine LM.val (ov_pickF rfl rfl) ?_
            refine LM.val (ov_move rfl) ?_
            refine LM.drop (t := 48) rfl rfl rfl ?_
            refine LM.drop (t := 48) rfl rfl rfl ?_
            refine LM.drop (t := 48) rfl rfl rfl ?_
            refine LM.drop (t := 48) rfl rfl rfl ?_
            refine LM.drop (t := 48) rfl rfl rfl ?_
            refine LM.val (ov_pickF rfl rfl) ?_
            refine LM.val (ov_move rfl) ?_
            refine LM.drop (t := 55) rfl rfl rfl ?_
            refine LM.drop (t := 55) rfl rfl rfl ?_
            refine LM.drop (t := 55) rfl rfl rfl ?_
            refine LM.drop (t := 55) rfl rfl rfl ?_
            refine LM.drop (t := 55) rfl rfl rfl ?_
            refine LM.val (ov_pickF rfl rfl) ?_
            refine LM.st Tryd.sizeOf4 rfl rfl rfl (by first | decide | exact Nat.le_of_ble_eq_true rfl | (simp; done) | (simp; omega)) rfl (fun hlt => absurd hlt (by omega)) ?_
            refine LM.nil ?_
            refine QM.sub (e' := [(6, _)]) ⟨rfl, trivial⟩ ?_
            refine QM.then ?_
            refine wpM.ret ?_
            refine QM.leaveCDF (ds := [D0]) Tryd.results12 rfl (fun D h => by simp only [List.mem_cons, List.not_mem_nil, or_false] at h; omega) Tryd.isAgg4 rfl ?_
            intro w' hm' hc'
            -- leaf 7: h1- h2- h3+ h4-
            first | exact ⟨rfl, hc'⟩ | (refine ⟨?_, hc'⟩; simp [resV]; done) | (exfalso; simp at *; done)
        ·
          refine LM.drop (t := 21) rfl rfl rfl ?_
          refine LM.drop (t := 21) rfl rfl rfl ?_
          refine LM.drop (t := 21) rfl rfl rfl ?_
          refine LM.drop (t := 21) rfl rfl rfl ?_
          refine LM.drop (t := 21) rfl rfl rfl ?_
          refine LM.val (ov_pickF rfl rfl) ?_
          refine LM.val (ov_move rfl) ?_
          refine LM.drop (t := 28) rfl rfl rfl ?_
          refine LM.drop (t := 28) rfl rfl rfl ?_
          refine LM.drop (t := 28) rfl rfl rfl ?_
          refine LM.drop (t := 28) rfl rfl rfl ?_
          refine LM.val (ov_pickF rfl rfl) ?_
          refine LM.val (ov_move rfl) ?_
          refine LM.drop (t := 34) rfl rfl rfl ?_
          refine LM.drop (t := 34) rfl rfl rfl ?_
          refine LM.drop (t := 34) rfl rfl rfl ?_
          refine LM.drop (t := 34) rfl rfl rfl ?_
          refine LM.drop (t := 34) rfl rfl rfl ?_
          refine LM.drop (t := 34) rfl rfl rfl ?_
          refine LM.drop (t := 34) rfl rfl rfl ?_
          refine LM.drop (t := 34) rfl rfl rfl ?_
          refine LM.drop (t := 34) rfl rfl rfl ?_
          refine LM.drop (t := 34) rfl rfl rfl ?_
          refine LM.drop (t := 34) rfl rfl rfl ?_
          refine LM.drop (t := 34) rfl rfl rfl ?_
          refine LM.val (ov_pickF rfl rfl) ?_
          refine LM.val (ov_move rfl) ?_
          refine LM.drop (t := 48) rfl rfl rfl ?_
          refine LM.drop (t := 48) rfl rfl rfl ?_
          refine LM.drop (t := 48) rfl rfl rfl ?_
          refine LM.drop (t := 48) rfl rfl rfl ?_
          refine LM.drop (t := 48) rfl rfl rfl ?_
          refine LM.val (ov_pickF rfl rfl) ?_
          refine LM.val (ov_move rfl) ?_
          refine LM.drop (t := 55) rfl rfl rfl ?_
          refine LM.drop (t := 55) rfl rfl rfl ?_
          refine LM.drop (t := 55) rfl rfl rfl ?_
          refine LM.drop (t := 55) rfl rfl rfl ?_
          refine LM.drop (t := 55) rfl rfl rfl ?_
          refine LM.val (ov_pickF rfl rfl) ?_
          refine LM.st Tryd.sizeOf4 rfl rfl rfl (by first | decide | exact Nat.le_of_ble_eq_true rfl | (simp; done) | (simp; omega)) rfl (fun hlt => absurd hlt (by omega)) ?_
          refine LM.nil ?_
          refine QM.sub (e' := [(6, _)]) ⟨rfl, trivial⟩ ?_
          refine QM.then ?_
          refine wpM.ret ?_
          refine QM.leaveCDF (ds := [D0]) Tryd.results12 rfl (fun D h => by simp only [List.mem_cons, List.not_mem_nil, or_false] at h; omega) Tryd.isAgg4 rfl ?_
          intro w' hm' hc'
          -- leaf 8: h1- h2- h3-
          first | exact ⟨rfl, hc'⟩ | (refine ⟨?_, hc'⟩; simp [resV]; done) | (exfalso; simp at *; done)
      ·
        rintro ⟨⟩ D0 hD0 hx
        first | exact hx.elim | cases hx.1
      ·
        rintro id ⟨⟩ D0 hD0 hx
        first | exact hx.elim | cases hx.1 | cases hx

end Go.Eng

