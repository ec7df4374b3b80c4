/- The walks of where two lists are not the same. No condition. -/
import Derived.Test.YtpemcncnehhgfaaDoorInh4
import Derived.Test.YtpemcncnehhgfaaDoorInhLaw3
set_option linter.unusedVariables false
set_option linter.unusedSimpArgs false
namespace Go.Eng
open Go Go.Proofs Go.RowKit

theorem getD_out {l : List Int} {i : Nat} (h : l.length ≤ i) : l.getD i 0 = 0 := by rw [List.getD_eq_getElem?_getD, List.getElem?_eq_none h]; rfl
def ChgT (ad : Option Addr) (n cap : Nat) (ad2 : Option Addr) (n2 cap2 : Nat) (n0 : Nat) (v : Value) (m : Mem0) : Prop :=
  ∃ b1 b2, v = .func (.func 61) #[] #[.pointer (some ⟨b1, 0, none⟩), .pointer (some ⟨b2, 0, none⟩)] ∧ m = [slI b1 ad n cap, slI b2 ad2 n2 cap2] ∧ n0 ≤ b1 ∧ n0 ≤ b2
theorem ChgT.mono {ad : Option Addr} {n cap : Nat} {ad2 : Option Addr} {n2 cap2 : Nat} : ∀ (k k' : Nat) u m, k' ≤ k → ChgT ad n cap ad2 n2 cap2 k u m → ChgT ad n cap ad2 n2 cap2 k' u m := fun k k' u m h ⟨b1, b2, h1, h2, h3, h4⟩ => ⟨b1, b2, h1, h2, by omega, by omega⟩
set_option maxRecDepth 100000 in
theorem at_spec {l : List Int} {ad : Option Addr} {n cap : Nat} (i : Nat) (w : World) (hn : n = l.length) (hl : Sr fI 1 l (.slice ad n cap) w) : Ret Tryd.prog 62 #[.slice ad n cap, .int .i64 (i : Nat)] w (fun v w' => v = .int .i64 (l.getD i 0) ∧ Ext w w') := by
  refine Ret.enterM (l := [.slice ad n cap, .int .i64 (i : Nat)]) Tryd.func62 rfl Tryd.ntmps62 rfl ([]) (no) (Mem.nil w) ?_
  refine wpM.seq ?_
  refine wpM.region ?_
  refine LM.val (ov_assign rfl) ?_
  refine LM.nil ?_
  refine QM.sub (e' := [(0, _), (1, _)]) ⟨rfl, rfl, trivial⟩ ?_
  refine QM.then ?_
  refine wpM.seq ?_
  refine wpM.seq ?_
  refine wpM.region ?_
  refine LM.val (ov_move rfl) ?_
  refine LM.val (ov_move rfl) ?_
  refine LM.val (ov_len Tryd.underlying22 rfl) ?_
  refine LM.val (ov_lss rfl rfl) ?_
  refine LM.nil ?_
  refine QM.sub (e' := [(0, _), (1, _), (8, _)]) ⟨rfl, rfl, rfl, trivial⟩ ?_
  refine QM.then ?_
  first | refine wpM.condD rfl (fun h1 => ?_) (fun h1 => ?_) | refine wpM.condB rfl (fun h1 => ?_) (fun h1 => ?_)
  ·
    refine wpM.seq ?_
    refine wpM.region ?_
    refine LM.val (ov_move rfl) ?_
    refine LM.val (ov_move rfl) ?_
    first | refine LM.val (ov_idxSN (by first | exact Sr.spt (by assumption) | exact Sl.spt (by assumption)) Tryd.underlying22 Tryd.sizeOf3 rfl rfl (by omega)) ?_ | refine LM.val (ov_idxS (by first | exact Sr.spt (by assumption) | exact Sl.spt (by assumption)) Tryd.underlying22 Tryd.sizeOf3 rfl rfl (by omega)) ?_ | refine LM.val (ov_idx1 Tryd.underlying22 Tryd.sizeOf3 rfl rfl (by omega)) ?_
    first | refine LM.rd (om_sl1 (by assumption) (by intro _; rfl) Tryd.isAgg3 rfl rfl (by exact getq 0 (by first | omega | (simp only [List.length_set, List.length_append, List.length_cons, List.length_nil]; omega))) (by rfl)) ?_ | refine LM.rdC (om_sr1 (by assumption) Tryd.isAgg3 rfl rfl (by exact getq 0 (by first | omega | (simp only [List.length_set, List.length_append, List.length_cons, List.length_nil]; omega))) (by rfl) id) ?_ | refine LM.rd (om_ld Tryd.isAgg3 rfl rfl) ?_
    refine LM.val (ov_assign rfl) ?_
    refine LM.nil ?_
    refine QM.sub (e' := [(4, _)]) ⟨rfl, trivial⟩ ?_
    refine QM.then ?_
    refine wpM.ret ?_
    refine QM.then_ret ?_
    refine QM.leave (.inl rfl) [.tmp 4] Tryd.results62 rfl ?_
    intro w' hm' hc' hg'
    -- leaf 1: h1+
    exact ⟨rfl, hc'⟩
  ·
    refine wpM.skip ?_
    refine QM.then ?_
    refine wpM.seq ?_
    refine wpM.region ?_
    refine LM.val (ov_assign rfl) ?_
    refine LM.nil ?_
    refine QM.sub (e' := [(4, _)]) ⟨rfl, trivial⟩ ?_
    refine QM.then ?_
    refine wpM.ret ?_
    refine QM.leave (.inl rfl) [.tmp 4] Tryd.results62 rfl ?_
    intro w' hm' hc' hg'
    -- leaf 2: h1-
    exact ⟨by simp only [resV]; rw [getD_out (by omega)], hc'⟩

set_option maxRecDepth 100000 in
theorem at23_spec {l : List Int} {ad : Option Addr} {n cap : Nat} (i : Nat) (w : World) (hn : n = l.length) (hl : Sr fI 1 l (.slice ad n cap) w) : Ret Tryd.prog 38 #[.slice ad n cap, .int .i64 (i : Nat)] w (fun v w' => v = .int .i64 (l.getD i 0) ∧ Ext w w') := by
  refine Ret.enterM (l := [.slice ad n cap, .int .i64 (i : Nat)]) Tryd.func38 rfl Tryd.ntmps38 rfl ([]) (no) (Mem.nil w) ?_
  refine wpM.seq ?_
  refine wpM.region ?_
  refine LM.val (ov_assign rfl) ?_
  refine LM.nil ?_
  refine QM.sub (e' := [(0, _), (1, _)]) ⟨rfl, rfl, trivial⟩ ?_
  refine QM.then ?_
  refine wpM.seq ?_
  refine wpM.seq ?_
  refine wpM.region ?_
  refine LM.val (ov_move rfl) ?_
  refine LM.val (ov_move rfl) ?_
  refine LM.val (ov_len Tryd.underlying22 rfl) ?_
  refine LM.val (ov_lss rfl rfl) ?_
  refine LM.nil ?_
  refine QM.sub (e' := [(0, _), (1, _), (8, _)]) ⟨rfl, rfl, rfl, trivial⟩ ?_
  refine QM.then ?_
  first | refine wpM.condD rfl (fun h1 => ?_) (fun h1 => ?_) | refine wpM.condB rfl (fun h1 => ?_) (fun h1 => ?_)
  ·
    refine wpM.seq ?_
    refine wpM.region ?_
    refine LM.val (ov_move rfl) ?_
    refine LM.val (ov_move rfl) ?_
    first | refine LM.val (ov_idxSN (by first | exact Sr.spt (by assumption) | exact Sl.spt (by assumption)) Tryd.underlying22 Tryd.sizeOf3 rfl rfl (by omega)) ?_ | refine LM.val (ov_idxS (by first | exact Sr.spt (by assumption) | exact Sl.spt (by assumption)) Tryd.underlying22 Tryd.sizeOf3 rfl rfl (by omega)) ?_ | refine LM.val (ov_idx1 Tryd.underlying22 Tryd.sizeOf3 rfl rfl (by omega)) ?_
    first | refine LM.rd (om_sl1 (by assumption) (by intro _; rfl) Tryd.isAgg3 rfl rfl (by exact getq 0 (by first | omega | (simp only [List.length_set, List.length_append, List.length_cons, List.length_nil]; omega))) (by rfl)) ?_ | refine LM.rdC (om_sr1 (by assumption) Tryd.isAgg3 rfl rfl (by exact getq 0 (by first | omega | (simp only [List.length_set, List.length_append, List.length_cons, List.length_nil]; omega))) (by rfl) id) ?_ | refine LM.rd (om_ld Tryd.isAgg3 rfl rfl) ?_
    refine LM.val (ov_assign rfl) ?_
    refine LM.nil ?_
    refine QM.sub (e' := [(4, _)]) ⟨rfl, trivial⟩ ?_
    refine QM.then ?_
    refine wpM.ret ?_
    refine QM.then_ret ?_
    refine QM.leave (.inl rfl) [.tmp 4] Tryd.results38 rfl ?_
    intro w' hm' hc' hg'
    -- leaf 1: h1+
    exact ⟨rfl, hc'⟩
  ·
    refine wpM.skip ?_
    refine QM.then ?_
    refine wpM.seq ?_
    refine wpM.region ?_
    refine LM.val (ov_assign rfl) ?_
    refine LM.nil ?_
    refine QM.sub (e' := [(4, _)]) ⟨rfl, trivial⟩ ?_
    refine QM.then ?_
    refine wpM.ret ?_
    refine QM.leave (.inl rfl) [.tmp 4] Tryd.results38 rfl ?_
    intro w' hm' hc' hg'
    -- leaf 2: h1-
    exact ⟨by simp only [resV]; rw [getD_out (by omega)], hc'⟩

set_option maxRecDepth 100000 in
theorem changes_spec (ad : Option Addr) (n cap : Nat) (ad2 : Option Addr) (n2 cap2 : Nat) (w : World) : Ret Tryd.prog 39 #[.slice ad n cap, .slice ad2 n2 cap2] w (fun v w' => Ext w w' ∧ ∃ m, ChgT ad n cap ad2 n2 cap2 w.heap.size v m ∧ Mem w' m ∧ ∀ p ∈ m, w.heap.size ≤ p.1) := by
  refine Ret.enterM (l := [.slice ad n cap, .slice ad2 n2 cap2]) Tryd.func39 rfl Tryd.ntmps39 rfl ([]) (no) (Mem.nil w) ?_
  refine wpM.seq ?_
  refine wpM.region ?_
  refine LM.box rfl rfl (fun b2 hb2 => ?_)
  refine LM.box rfl rfl (fun b3 hb3 => ?_)
  refine LM.val (ov_assign rfl) ?_
  refine LM.nil ?_
  refine QM.sub (e' := [(2, _), (3, _)]) ⟨rfl, rfl, trivial⟩ ?_
  refine QM.then ?_
  refine wpM.seq ?_
  refine wpM.region ?_
  refine LM.val (ov_makeFunc rfl) ?_
  refine LM.val (ov_assign rfl) ?_
  refine LM.nil ?_
  refine QM.sub (e' := [(4, _)]) ⟨rfl, trivial⟩ ?_
  refine QM.then ?_
  refine wpM.ret ?_
  refine QM.leave (.inl rfl) [.tmp 4] Tryd.results39 rfl ?_
  intro w' hm' hc' hg'
  -- leaf 1: 
  exact ⟨hc', _, ⟨b2, b3, rfl, rfl, hb2, hb3⟩, SubM.mem (by (repeat' (first | exact SubM.nil _ | refine SubM.cons rfl ?_ | refine SubM.app ?_))) _ hm', fun p hp => by simp only [List.mem_cons, List.not_mem_nil, or_false] at hp; rcases hp with rfl | rfl <;> assumption⟩

set_option maxRecDepth 100000 in
theorem changes_seq {a b : List Int} {ad : Option Addr} {n cap : Nat} {ad2 : Option Addr} {n2 cap2 : Nat} {b1 b2 : Nat} (hn : n = a.length) (hn2 : n2 = b.length) (hx : a.length ≤ 1000000000000) (hx2 : b.length ≤ 1000000000000) : SeqC Tryd.prog 61 #[.pointer (some ⟨b1, 0, none⟩),  .pointer (some ⟨b2, 0, none⟩)] (chA a b) (fun w => Mem w [slI b1 ad n cap, slI b2 ad2 n2 cap2] ∧ Sr fI 1 a (.slice ad n cap) w ∧ Sr fI 1 b (.slice ad2 n2 cap2) w) (True) := by
  refine SeqC.enter (lb := [.pointer (some ⟨b1, 0, none⟩),  .pointer (some ⟨b2, 0, none⟩)]) Tryd.func61 rfl Tryd.ntmps61 rfl ?_
  intro l n0 J Jx w0 hfin hJr gJ gJx hy
  refine wpM.seq ?_
  refine wpM.region ?_
  refine LM.rdC (fun w _ _ hg => om_load 0 Tryd.isAgg22 rfl rfl rfl w (hJr _ w hg).1) ?_
  refine LM.val (ov_len Tryd.underlying22 rfl) ?_
  refine LM.rdC (fun w _ _ hg => om_load 1 Tryd.isAgg22 rfl rfl rfl w (hJr _ w hg).1) ?_
  refine LM.val (ov_len Tryd.underlying22 rfl) ?_
  refine LM.val (ov_max rfl rfl) ?_
  refine LM.val (ov_move rfl) ?_
  refine LM.nil ?_
  refine QM.sub (e' := [(0, _), (1, _), (2, _), (9, _), (10, _)]) ⟨rfl, rfl, rfl, rfl, rfl, trivial⟩ ?_
  refine QM.then ?_
  refine wpM.block ?_
  refine wpM.loopK (α := Nat) (fun i => [(10, .int .i64 (i : Nat))]) [(0, _), (1, _), (2, _), (9, _)] (fun i => []) (fun i => J (chN a b i)) (fun i => i ≤ max a.length b.length) (fun i => max a.length b.length - i) (0) ⟨(by first | rfl | exact lk rfl (by congr 1; omega) | exact lk rfl (by simp)), rfl, rfl, rfl, rfl, trivial⟩ (by (repeat' (first | exact SubM.nil _ | refine SubM.cons rfl ?_ | refine SubM.app ?_))) (fun _ h => h) (Nat.zero_le _) ?_
  rintro i hi
  change wpM _ _ _ _ _ _ _ ([]) _ _ _
  refine wpM.seq ?_
  refine wpM.region ?_
  refine LM.val (ov_lss rfl rfl) ?_
  refine LM.nil ?_
  refine QM.sub (e' := [(0, _), (1, _), (2, _), (9, _), (10, _), (11, _)]) ⟨rfl, rfl, rfl, rfl, rfl, rfl, trivial⟩ ?_
  refine QM.then ?_
  refine wpM.seq ?_
  first | refine wpM.condD rfl (fun h1 => ?_) (fun h1 => ?_) | refine wpM.condB rfl (fun h1 => ?_) (fun h1 => ?_)
  ·
    refine wpM.skip ?_
    refine QM.then ?_
    refine wpM.seq ?_
    refine wpM.block ?_
    refine wpM.seq ?_
    refine wpM.region ?_
    refine LM.val (ov_move rfl) ?_
    refine LM.val (ov_assign rfl) ?_
    refine LM.nil ?_
    refine QM.sub (e' := [(0, _), (1, _), (2, _), (4, _), (9, _), (10, _)]) ⟨rfl, rfl, rfl, rfl, rfl, rfl, trivial⟩ ?_
    refine QM.then ?_
    refine wpM.seq ?_
    refine wpM.draw [(0, 1), (1, 0), (3, 1), (4, 0), (2, 2), (5, 2), (6, 0), (7, 0), (8, 0), (9, 0), (10, 1), (11, 0), (12, 2), (13, 3), (14, 3), (15, 3)] (by kernel_rfl) (by kernel_rfl) ?_
    refine LD.rdC rfl rfl (fun w _ _ hg => om_load 0 Tryd.isAgg22 rfl rfl rfl w (hJr _ w hg).1) ?_
    refine LD.val rfl rfl (ov_move rfl) ?_
    refine LD.rdC rfl rfl (fun w _ _ hg => om_load 1 Tryd.isAgg22 rfl rfl rfl w (hJr _ w hg).1) ?_
    refine LD.val rfl rfl (ov_move rfl) ?_
    refine LD.callE rfl rfl (oc_call (enters_fn Tryd.func62 (by kernel_rfl) rfl) rfl) (fun w hm hc hg => at_spec _ w hn (hJr _ w hg).2.1) ?_
    refine LD.callE rfl rfl (oc_call (enters_fn Tryd.func62 (by kernel_rfl) rfl) rfl) (fun w hm hc hg => at_spec _ w hn2 (hJr _ w hg).2.2) ?_
    refine LD.val rfl rfl (ov_neq rfl rfl) ?_
    refine LD.val rfl rfl (ov_move rfl) ?_
    first | refine LD.splitD (t := 20) rfl (fun h2 => ?_) (fun h2 => ?_) | refine LD.splitB (t := 20) rfl (fun h2 => ?_) (fun h2 => ?_)
    ·
      refine LD.val rfl ⟨20, _, rfl, rfl, rfl⟩ (ov_move rfl) ?_
      refine LD.val rfl ⟨20, _, rfl, rfl, rfl⟩ (ov_move rfl) ?_
      refine LD.rdC rfl ⟨20, _, rfl, rfl, rfl⟩ (fun w _ _ hg => om_load 1 Tryd.isAgg22 rfl rfl rfl w (hJr _ w hg).1) ?_
      refine LD.val rfl ⟨20, _, rfl, rfl, rfl⟩ (ov_move rfl) ?_
      refine LD.callE rfl ⟨20, _, rfl, rfl, rfl⟩ (oc_call (enters_fn Tryd.func62 (by kernel_rfl) rfl) rfl) (fun w hm hc hg => at_spec _ w hn2 (hJr _ w hg).2.2) ?_
      refine LD.tail rfl rfl ?_
      refine LM.strip (t := 20) rfl rfl rfl ?_
      refine LM.mem (M' := []) (fun w _ => Mem.nil w) ?_
      refine LM.yield (n := n0) (G1 := J ((chN a b i) + 1)) (G2 := Jx) rfl rfl (fun w hj => hy ((chN a b i)) _ w (chA_get h2 (by omega)) hj) (fun _ => trivial) ?_ ?_
      ·
        refine LM.strip (t := 20) rfl rfl rfl ?_
        first | refine LM.val (ov_notD rfl) ?_ | refine LM.val (ov_not rfl) ?_
        refine LM.val (ov_pickT rfl rfl) ?_
        refine LM.nil ?_
        refine QM.qn ?_
        refine QM.sub (e' := [(0, _), (1, _), (2, _), (9, _), (10, _), (28, _)]) ⟨rfl, rfl, rfl, rfl, rfl, rfl, trivial⟩ ?_
        refine QM.then ?_
        refine wpM.condF rfl ?_
        refine wpM.skip ?_
        refine QM.block_normal ?_
        refine QM.then ?_
        refine wpM.region ?_
        refine LM.val (ov_add64 rfl rfl (by omega)) ?_
        refine LM.val (ov_move rfl) ?_
        refine LM.nil ?_
        refine QM.sub (e' := [(0, _), (1, _), (2, _), (9, _), (10, _)]) ⟨rfl, rfl, rfl, rfl, rfl, trivial⟩ ?_
        -- again1: h1+ h2+
        refine QM.againK (i + 1) ⟨(by first | rfl | exact lk rfl (by congr 1; omega) | exact lk rfl (by simp)), rfl, rfl, rfl, rfl, trivial⟩ (by (repeat' (first | exact SubM.nil _ | refine SubM.cons rfl ?_ | refine SubM.app ?_))) (fun w h => by rw [chN_yes h2]; exact h) ?_ ?_
        · omega
        · first | omega | (dsimp only; omega)
      ·
        refine LM.strip (t := 20) rfl rfl rfl ?_
        first | refine LM.val (ov_notD rfl) ?_ | refine LM.val (ov_not rfl) ?_
        refine LM.val (ov_pickT rfl rfl) ?_
        refine LM.nil ?_
        refine QM.qn ?_
        refine QM.sub (e' := [(0, _), (1, _), (2, _), (9, _), (10, _), (28, _)]) ⟨rfl, rfl, rfl, rfl, rfl, rfl, trivial⟩ ?_
        refine QM.then ?_
        refine wpM.condT rfl ?_
        refine wpM.ret ?_
        refine QM.block_ret ?_
        refine QM.then_ret ?_
        refine QM.then_ret ?_
        refine QM.block_ret ?_
        refine QM.leave (.inl rfl) [] Tryd.results61 rfl ?_
        intro w' hm' hc' hg'
        -- leaf 1: h1+ h2+
        exact .inr hg'
    ·
      refine LD.drop rfl rfl ⟨20, _, rfl, rfl, rfl⟩ ?_
      refine LD.drop rfl rfl ⟨20, _, rfl, rfl, rfl⟩ ?_
      refine LD.drop rfl rfl ⟨20, _, rfl, rfl, rfl⟩ ?_
      refine LD.drop rfl rfl ⟨20, _, rfl, rfl, rfl⟩ ?_
      refine LD.drop rfl rfl ⟨20, _, rfl, rfl, rfl⟩ ?_
      refine LD.tail rfl rfl ?_
      refine LM.drop (t := 20) rfl rfl rfl ?_
      refine LM.drop (t := 20) rfl rfl rfl ?_
      refine LM.val (ov_pickF rfl rfl) ?_
      refine LM.nil ?_
      refine QM.qn ?_
      refine QM.sub (e' := [(0, _), (1, _), (2, _), (9, _), (10, _), (28, _)]) ⟨rfl, rfl, rfl, rfl, rfl, rfl, trivial⟩ ?_
      refine QM.then ?_
      refine wpM.condF rfl ?_
      refine wpM.skip ?_
      refine QM.block_normal ?_
      refine QM.then ?_
      refine wpM.region ?_
      refine LM.val (ov_add64 rfl rfl (by omega)) ?_
      refine LM.val (ov_move rfl) ?_
      refine LM.nil ?_
      refine QM.sub (e' := [(0, _), (1, _), (2, _), (9, _), (10, _)]) ⟨rfl, rfl, rfl, rfl, rfl, trivial⟩ ?_
      -- again2: h1+ h2-
      refine QM.againK (i + 1) ⟨(by first | rfl | exact lk rfl (by congr 1; omega) | exact lk rfl (by simp)), rfl, rfl, rfl, rfl, trivial⟩ (by (repeat' (first | exact SubM.nil _ | refine SubM.cons rfl ?_ | refine SubM.app ?_))) (fun w h => by rw [chN_no h2]; exact h) ?_ ?_
      · omega
      · first | omega | (dsimp only; omega)
  ·
    refine wpM.exit ?_
    refine QM.then_exit ?_
    refine QM.then_exit ?_
    refine QM.block_hit ?_
    refine QM.leave (.inr rfl) [] Tryd.results61 rfl ?_
    intro w' hm' hc' hg'
    -- leaf 2: h1-
    have hil : i = max a.length b.length := (by omega); subst hil; rw [← chA_len] at hg'; exact .inl hg'

end Go.Eng

