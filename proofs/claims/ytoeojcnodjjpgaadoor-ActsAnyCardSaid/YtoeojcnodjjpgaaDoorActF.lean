/- Acts are gone over; ActsAny, walked. No condition. -/
import Derived.Test.YtoeojcnodjjpgaaDoorActE
set_option linter.unusedVariables false
set_option linter.unusedSimpArgs false
namespace Go.Eng
open Go Go.Proofs Go.RowKit

def rowA (xs : List Act) : List (Array Value) := (List.range xs.length).map (fun i => #[.int .i64 (i : Nat), .agg (fA (xs.getD i default)).toArray])
theorem rowA_get {xs : List Act} {i : Nat} (h : i < xs.length) : (rowA xs)[i]? = some #[.int .i64 (i : Nat), .agg (fA (xs.getD i default)).toArray] := by
  unfold rowA; rw [List.getElem?_map, List.getElem?_range h]; rfl
theorem rowA_inv {xs : List Act} {k : Nat} {a : Array Value} (h : (rowA xs)[k]? = some a) : k < xs.length ∧ a = #[.int .i64 (k : Nat), .agg (fA (xs.getD k default)).toArray] := by
  have hk : k < xs.length := by
    have := (List.getElem?_eq_some_iff.1 h).1
    simpa [rowA] using this
  rw [rowA_get hk] at h
  exact ⟨hk, (Option.some.inj h).symm⟩
theorem rowA_len (xs : List Act) : (rowA xs).length = xs.length := by simp [rowA]
abbrev sB (b : Nat) (ad : Option Addr) (n cap : Nat) : Nat × Obj := (b, .cells #[.slice ad n cap] 22 (0, 0))
def EachAT (ad : Option Addr) (n cap : Nat) (n0 : Nat) (v : Value) (m : Mem0) : Prop := ∃ b1, v = .func (.func 57) #[] #[.pointer (some ⟨b1, 0, none⟩)] ∧ m = [sB b1 ad n cap] ∧ n0 ≤ b1
theorem EachAT.mono {ad : Option Addr} {n cap : Nat} : ∀ (k k' : Nat) u m, k' ≤ k → EachAT ad n cap k u m → EachAT ad n cap k' u m := fun k k' u m h ⟨b1, h1, h2, h3⟩ => ⟨b1, h1, h2, by omega⟩
def awaL : List UInt8 := [120, 32, 116, 105, 99, 107, 32, 51, 59, 32, 102, 105, 114, 101, 59]
theorem awa_len : (scanO awaL).1.length = 6 := by decide +kernel
theorem awa_par1 : actsO (scanO awaL).1 1 = ([⟨1, 3, 0, 0, 0⟩, ⟨2, 0, 0, 0, 0⟩], 6, 0) := by decide +kernel
theorem awa_par0 : actsO (scanO awaL).1 0 = ([], 0, 5) := by decide +kernel
theorem awa_pri : printA [⟨1, 3, 0, 0, 0⟩, ⟨2, 0, 0, 0, 0⟩] = (awaL.drop 2, 0) := by decide +kernel
set_option maxRecDepth 100000 in
theorem asame_spec {xs ys : List Act} {ad1 ad2 : Option Addr} {n1 n2 cap1 cap2 : Nat} (w : World) (hn1 : n1 = xs.length) (hl1 : Sr fA 5 xs (.slice ad1 n1 cap1) w) (hn2 : n2 = ys.length) (hl2 : Sr fA 5 ys (.slice ad2 n2 cap2) w) (hx : xs.length ≤ 1000000000) : Ret Tryd.prog 19 #[.slice ad1 n1 cap1, .slice ad2 n2 cap2] w (fun v w' => v = .bool (decide (xs = ys)) ∧ Ext w w') := by
  refine Ret.enterM (l := [.slice ad1 n1 cap1, .slice ad2 n2 cap2]) Tryd.func19 rfl Tryd.ntmps19 rfl ([]) (no) (Mem.nil w) ?_
  refine wpM.seq ?_
  refine wpM.region ?_
  refine LM.val (ov_assign rfl) ?_
  refine LM.nil ?_
  refine QM.sub (e' := [(0, _), (1, _)]) ⟨rfl, rfl, trivial⟩ ?_
  refine QM.then ?_
  refine wpM.seq ?_
  refine wpM.seq ?_
  refine wpM.region ?_
  refine LM.val (ov_move rfl) ?_
  refine LM.val (ov_len Tryd.underlying22 rfl) ?_
  refine LM.val (ov_move rfl) ?_
  refine LM.val (ov_len Tryd.underlying22 rfl) ?_
  refine LM.val (ov_neq rfl rfl) ?_
  refine LM.nil ?_
  refine QM.sub (e' := [(0, _), (1, _), (10, _)]) ⟨rfl, rfl, rfl, trivial⟩ ?_
  refine QM.then ?_
  first | refine wpM.condD rfl (fun h1 => ?_) (fun h1 => ?_) | refine wpM.condB rfl (fun h1 => ?_) (fun h1 => ?_)
  ·
    refine wpM.seq ?_
    refine wpM.region ?_
    refine LM.val (ov_assign rfl) ?_
    refine LM.nil ?_
    refine QM.sub (e' := [(4, _)]) ⟨rfl, trivial⟩ ?_
    refine QM.then ?_
    refine wpM.ret ?_
    refine QM.then_ret ?_
    refine QM.leave (.inl rfl) [.tmp 4] Tryd.results19 rfl ?_
    intro w' hm' hc' hg'
    -- leaf 1: h1+
    refine ⟨?_, hc'⟩; show Value.bool false = _; rw [decide_eq_false (show ¬ xs = ys by intro q; have := congrArg List.length q; omega)]
  ·
    refine wpM.skip ?_
    refine QM.then ?_
    refine wpM.seq ?_
    refine wpM.seq ?_
    refine wpM.region ?_
    refine LM.val (ov_assign rfl) ?_
    refine LM.nil ?_
    refine QM.sub (e' := [(0, _), (1, _), (5, _)]) ⟨rfl, rfl, rfl, trivial⟩ ?_
    refine QM.then ?_
    refine wpM.block ?_
    refine wpM.loopK0 (α := Nat) (fun i => [(5, .int .i64 (i : Nat))]) [(0, _), (1, _)] (fun i => []) (fun i => i ≤ xs.length ∧ xs.take i = ys.take i) (fun i => xs.length - i) (0) ⟨(by first | rfl | exact lk rfl (by congr 1; omega) | exact lk rfl (by simp)), rfl, rfl, trivial⟩ (by (repeat' (first | exact SubM.nil _ | refine SubM.cons rfl ?_ | refine SubM.app ?_))) ⟨Nat.zero_le _, rfl⟩ ?_
    rintro i ⟨hi, ha⟩
    change wpM _ _ _ _ _ _ _ ([]) _ _ _
    refine wpM.seq ?_
    refine wpM.seq ?_
    refine wpM.region ?_
    refine LM.val (ov_move rfl) ?_
    refine LM.val (ov_move rfl) ?_
    refine LM.val (ov_len Tryd.underlying22 rfl) ?_
    refine LM.val (ov_lss rfl rfl) ?_
    refine LM.nil ?_
    refine QM.sub (e' := [(0, _), (1, _), (5, _), (14, _)]) ⟨rfl, rfl, rfl, rfl, trivial⟩ ?_
    refine QM.then ?_
    first | refine wpM.condD rfl (fun h2 => ?_) (fun h2 => ?_) | refine wpM.condB rfl (fun h2 => ?_) (fun h2 => ?_)
    ·
      refine wpM.skip ?_
      refine QM.then ?_
      refine wpM.seq ?_
      refine wpM.block ?_
      refine wpM.seq ?_
      refine wpM.draw [(0, 0), (1, 0), (2, 0), (3, 1), (4, 0), (5, 0), (6, 0), (7, 1), (8, 0)] (by kernel_rfl) (by kernel_rfl) ?_
      refine LD.val rfl rfl (ov_move rfl) ?_
      refine LD.val rfl rfl (ov_move rfl) ?_
      first | refine LD.val rfl rfl (ov_idxSN (by first | exact Sr.spt (by assumption) | exact Sl.spt (by assumption)) Tryd.underlying22 Tryd.sizeOf49 rfl rfl (by omega)) ?_ | refine LD.val rfl rfl (ov_idxS (by first | exact Sr.spt (by assumption) | exact Sl.spt (by assumption)) Tryd.underlying22 Tryd.sizeOf49 rfl rfl (by omega)) ?_ | refine LD.val rfl rfl (ov_idx Tryd.underlying22 Tryd.sizeOf49 rfl rfl (by omega)) ?_
      first | refine LD.rd rfl rfl (om_slA (by assumption) (by intro _; rfl) Tryd.isAgg49 Tryd.sizeOf49 rfl (by exact getq default (by first | omega | (simp only [List.length_set, List.length_append, List.length_cons, List.length_nil]; omega)))) ?_ | refine LD.rdC rfl rfl (om_srEA (by assumption) (by intro _; rfl) Tryd.isAgg49 Tryd.sizeOf49 rfl (by exact getq default (by first | omega | (simp only [List.length_set, List.length_append, List.length_cons, List.length_nil]; omega))) id) ?_ | refine LD.rd rfl rfl (om_ldW Tryd.isAgg49 Tryd.sizeOf49 rfl rfl) ?_ | refine LD.rd rfl rfl (om_ldA Tryd.isAgg49 Tryd.sizeOf49 rfl (vs := [_, _, _, _, _]) rfl ⟨rfl, rfl, rfl, rfl, rfl, trivial⟩) ?_
      refine LD.val rfl rfl (ov_move rfl) ?_
      refine LD.val rfl rfl (ov_move rfl) ?_
      first | refine LD.val rfl rfl (ov_idxSN (by first | exact Sr.spt (by assumption) | exact Sl.spt (by assumption)) Tryd.underlying22 Tryd.sizeOf49 rfl rfl (by omega)) ?_ | refine LD.val rfl rfl (ov_idxS (by first | exact Sr.spt (by assumption) | exact Sl.spt (by assumption)) Tryd.underlying22 Tryd.sizeOf49 rfl rfl (by omega)) ?_ | refine LD.val rfl rfl (ov_idx Tryd.underlying22 Tryd.sizeOf49 rfl rfl (by omega)) ?_
      first | refine LD.rd rfl rfl (om_slA (by assumption) (by intro _; rfl) Tryd.isAgg49 Tryd.sizeOf49 rfl (by exact getq default (by first | omega | (simp only [List.length_set, List.length_append, List.length_cons, List.length_nil]; omega)))) ?_ | refine LD.rdC rfl rfl (om_srEA (by assumption) (by intro _; rfl) Tryd.isAgg49 Tryd.sizeOf49 rfl (by exact getq default (by first | omega | (simp only [List.length_set, List.length_append, List.length_cons, List.length_nil]; omega))) id) ?_ | refine LD.rd rfl rfl (om_ldW Tryd.isAgg49 Tryd.sizeOf49 rfl rfl) ?_ | refine LD.rd rfl rfl (om_ldA Tryd.isAgg49 Tryd.sizeOf49 rfl (vs := [_, _, _, _, _]) rfl ⟨rfl, rfl, rfl, rfl, rfl, trivial⟩) ?_
      refine LD.val rfl rfl (ov_aneq Tryd.underlying49 (by kernel_rfl) (by kernel_rfl) (by decide) rfl rfl (by rfl) ⟨(by first | rfl | trivial), (by first | rfl | trivial), (by first | rfl | trivial), (by first | rfl | trivial), (by first | rfl | trivial), trivial⟩) ?_
      refine LD.nil ?_
      refine QM.sub (e' := [(0, _), (1, _), (5, _), (25, _)]) ⟨rfl, rfl, rfl, rfl, trivial⟩ ?_
      refine QM.then ?_
      first | refine wpM.condD rfl (fun h3 => ?_) (fun h3 => ?_) | refine wpM.condB rfl (fun h3 => ?_) (fun h3 => ?_)
      ·
        refine wpM.seq ?_
        refine wpM.region ?_
        refine LM.val (ov_assign rfl) ?_
        refine LM.nil ?_
        refine QM.sub (e' := [(4, _)]) ⟨rfl, trivial⟩ ?_
        refine QM.then ?_
        refine wpM.ret ?_
        refine QM.block_ret ?_
        refine QM.then_ret ?_
        refine QM.then_ret ?_
        refine QM.block_ret ?_
        refine QM.then_ret ?_
        refine QM.leave (.inl rfl) [.tmp 4] Tryd.results19 rfl ?_
        intro w' hm' hc' hg'
        -- leaf 2: h1- h2+ h3+
        refine ⟨?_, hc'⟩; show Value.bool false = _; rw [decide_eq_false (show ¬ xs = ys by intro q; rw [fA_veqs, q] at h3; simp at h3)]
      ·
        refine wpM.skip ?_
        refine QM.block_normal ?_
        refine QM.then ?_
        refine wpM.region ?_
        refine LM.val (ov_move rfl) ?_
        refine LM.val (ov_add64 rfl rfl (by omega)) ?_
        refine LM.val (ov_assign rfl) ?_
        refine LM.nil ?_
        refine QM.sub (e' := [(0, _), (1, _), (5, _)]) ⟨rfl, rfl, rfl, trivial⟩ ?_
        -- again1: h1- h2+ h3-
        refine QM.againK (i + 1) ⟨(by first | rfl | exact lk rfl (by congr 1; omega) | exact lk rfl (by simp)), rfl, rfl, trivial⟩ (by (repeat' (first | exact SubM.nil _ | refine SubM.cons rfl ?_ | refine SubM.app ?_))) (fun _ h => h) ?_ ?_
        · exact ⟨by omega, eqA_at (by omega) (by omega) ha (by rw [fA_veqs] at h3; simpa using h3)⟩
        · first | omega | (dsimp only; omega)
    ·
      refine wpM.exit ?_
      refine QM.then_exit ?_
      refine QM.then_exit ?_
      refine QM.block_hit ?_
      refine QM.then ?_
      refine wpM.seq ?_
      refine wpM.region ?_
      refine LM.val (ov_assign rfl) ?_
      refine LM.nil ?_
      refine QM.sub (e' := [(4, _)]) ⟨rfl, trivial⟩ ?_
      refine QM.then ?_
      refine wpM.ret ?_
      refine QM.leave (.inl rfl) [.tmp 4] Tryd.results19 rfl ?_
      intro w' hm' hc' hg'
      -- leaf 3: h1- h2-
      refine ⟨?_, hc'⟩; show Value.bool true = _; rw [decide_eq_true]; have e1 : xs.take i = xs := List.take_of_length_le (by omega); have e2 : ys.take i = ys := List.take_of_length_le (by omega); rw [← e1, ← e2, ha]

set_option maxRecDepth 100000 in
set_option maxHeartbeats 1000000 in
theorem aeach_seq {xs : List Act} {ad : Option Addr} {n cap : Nat} {b1 : Nat} (hn : n = xs.length) (hx2 : xs.length ≤ 1000000000000) : SeqC Tryd.prog 57 #[.pointer (some ⟨b1, 0, none⟩)] (rowA xs) (fun w => Mem w [sB b1 ad n cap] ∧ Sr fA 5 xs (.slice ad n cap) w) (True) := by
  refine SeqC.enter (lb := [.pointer (some ⟨b1, 0, none⟩)]) Tryd.func57 rfl Tryd.ntmps57 rfl ?_
  intro l n0 J Jx w0 hfin hJr gJ gJx hy
  refine wpM.seq ?_
  refine wpM.region ?_
  refine LM.rdC (fun w _ _ hg => om_load 0 Tryd.isAgg22 rfl rfl rfl w (hJr _ w hg).1) ?_
  refine LM.val (ov_len Tryd.underlying22 rfl) ?_
  refine LM.val (ov_move rfl) ?_
  refine LM.nil ?_
  refine QM.sub (e' := [(0, _), (5, _), (6, _), (7, _)]) ⟨rfl, rfl, rfl, rfl, trivial⟩ ?_
  refine QM.then ?_
  refine wpM.block ?_
  refine wpM.loopK (α := Nat) (fun i => [(7, .int .i64 (i : Nat))]) [(0, _), (5, _), (6, _)] (fun i => []) (fun i => J i) (fun i => i ≤ xs.length) (fun i => xs.length - i) (0) ⟨(by first | rfl | exact lk rfl (by congr 1; omega) | exact lk rfl (by simp)), rfl, rfl, rfl, trivial⟩ (by (repeat' (first | exact SubM.nil _ | refine SubM.cons rfl ?_ | refine SubM.app ?_))) (fun _ h => h) (Nat.zero_le _) ?_
  rintro i hi
  change wpM _ _ _ _ _ _ _ ([]) _ _ _
  refine wpM.seq ?_
  refine wpM.region ?_
  refine LM.val (ov_lss rfl rfl) ?_
  refine LM.nil ?_
  refine QM.sub (e' := [(0, _), (5, _), (6, _), (7, _), (8, _)]) ⟨rfl, rfl, rfl, rfl, rfl, trivial⟩ ?_
  refine QM.then ?_
  refine wpM.seq ?_
  first | refine wpM.condD rfl (fun h1 => ?_) (fun h1 => ?_) | refine wpM.condB rfl (fun h1 => ?_) (fun h1 => ?_)
  ·
    refine wpM.skip ?_
    refine QM.then ?_
    refine wpM.seq ?_
    refine wpM.block ?_
    refine wpM.seq ?_
    refine wpM.region ?_
    refine LM.val (ov_move rfl) ?_
    refine LM.know (fun w _ _ hg => (hJr _ w hg).2.spt) (fun hsp => ?_); refine LM.val (ov_idxSN hsp Tryd.underlying22 Tryd.sizeOf49 rfl rfl (by omega)) ?_
    refine LM.rdC (fun w hm hc hg => ow_srEA (hJr _ w hg).2 (by intro _; rfl) Tryd.isAgg49 Tryd.sizeOf49 rfl (getq default (by omega))) ?_
    refine LM.allocF Tryd.zeroValue49 rfl (fun b4 hb4 => ?_)
    refine LM.val (ov_assign rfl) ?_
    first | refine LM.stWF Tryd.sizeOf49 rfl rfl rfl rfl (by first | rfl | decide | (simp; done)) (fun hlt => absurd hlt (by omega)) (by omega) ?_ | refine LM.stF Tryd.sizeOf49 rfl rfl rfl (by first | decide | exact Nat.le_of_ble_eq_true rfl | (simp; done) | (simp; omega)) rfl (fun hlt => absurd hlt (by omega)) (by omega) ?_
    refine LM.unF ?_
    refine LM.nil ?_
    refine QM.sub (e' := [(0, _), (3, _), (4, _), (5, _), (6, _), (7, _)]) ⟨rfl, rfl, rfl, rfl, rfl, rfl, trivial⟩ ?_
    refine QM.then ?_
    refine wpM.seq ?_
    refine wpM.region ?_
    refine LM.val (ov_move rfl) ?_
    refine LM.val (ov_move rfl) ?_
    first | refine LM.rd (om_ldW Tryd.isAgg49 Tryd.sizeOf49 rfl rfl) ?_ | refine LM.rd (om_ldA Tryd.isAgg49 Tryd.sizeOf49 rfl (vs := [_, _, _, _, _]) rfl ⟨rfl, rfl, rfl, rfl, rfl, trivial⟩) ?_
    refine LM.mem (M' := []) (fun w _ => Mem.nil w) ?_
    refine LM.yield (n := n0) (G1 := J (i + 1)) (G2 := Jx) rfl rfl (fun w hj => hy (i) _ w (rowA_get (by omega)) hj) (fun _ => trivial) ?_ ?_
    ·
      first | refine LM.val (ov_notD rfl) ?_ | refine LM.val (ov_not rfl) ?_
      refine LM.nil ?_
      refine QM.sub (e' := [(0, _), (5, _), (6, _), (7, _), (16, _)]) ⟨rfl, rfl, rfl, rfl, rfl, trivial⟩ ?_
      refine QM.then ?_
      refine wpM.condF rfl ?_
      refine wpM.skip ?_
      refine QM.block_normal ?_
      refine QM.then ?_
      refine wpM.region ?_
      refine LM.val (ov_add64 rfl rfl (by omega)) ?_
      refine LM.val (ov_move rfl) ?_
      refine LM.nil ?_
      refine QM.sub (e' := [(0, _), (5, _), (6, _), (7, _)]) ⟨rfl, rfl, rfl, rfl, trivial⟩ ?_
      -- again1: h1+
      refine QM.againK (i + 1) ⟨(by first | rfl | exact lk rfl (by congr 1; omega) | exact lk rfl (by simp)), rfl, rfl, rfl, trivial⟩ (by (repeat' (first | exact SubM.nil _ | refine SubM.cons rfl ?_ | refine SubM.app ?_))) (fun w h => h) ?_ ?_
      · omega
      · first | omega | (dsimp only; omega)
    ·
      first | refine LM.val (ov_notD rfl) ?_ | refine LM.val (ov_not rfl) ?_
      refine LM.nil ?_
      refine QM.sub (e' := [(0, _), (5, _), (6, _), (7, _), (16, _)]) ⟨rfl, rfl, rfl, rfl, rfl, trivial⟩ ?_
      refine QM.then ?_
      refine wpM.condT rfl ?_
      refine wpM.ret ?_
      refine QM.block_ret ?_
      refine QM.then_ret ?_
      refine QM.then_ret ?_
      refine QM.block_ret ?_
      refine QM.leave (.inl rfl) [] Tryd.results57 rfl ?_
      intro w' hm' hc' hg'
      -- leaf 1: h1+
      first | exact .inr hg' | (have hil : i = xs.length := (by omega); subst hil; exact .inl (by rw [rowA_len]; exact hg'))
  ·
    refine wpM.exit ?_
    refine QM.then_exit ?_
    refine QM.then_exit ?_
    refine QM.block_hit ?_
    refine QM.leave (.inr rfl) [] Tryd.results57 rfl ?_
    intro w' hm' hc' hg'
    -- leaf 2: h1-
    first | exact .inr hg' | (have hil : i = xs.length := (by omega); subst hil; exact .inl (by rw [rowA_len]; exact hg'))

set_option maxRecDepth 100000 in
theorem aeach_spec (ad : Option Addr) (n cap : Nat) (w : World) : Ret Tryd.prog 24 #[.slice ad n cap] w (fun v w' => Ext w w' ∧ ∃ m, EachAT ad n cap w.heap.size v m ∧ Mem w' m ∧ ∀ p ∈ m, w.heap.size ≤ p.1) := by
  refine Ret.enterM (l := [.slice ad n cap]) Tryd.func24 rfl Tryd.ntmps24 rfl ([]) (no) (Mem.nil w) ?_
  refine wpM.seq ?_
  refine wpM.region ?_
  refine LM.box rfl rfl (fun b1 hb1 => ?_)
  refine LM.val (ov_assign rfl) ?_
  refine LM.nil ?_
  refine QM.sub (e' := [(1, _)]) ⟨rfl, trivial⟩ ?_
  refine QM.then ?_
  refine wpM.seq ?_
  refine wpM.region ?_
  refine LM.val (ov_makeFunc rfl) ?_
  refine LM.val (ov_assign rfl) ?_
  refine LM.nil ?_
  refine QM.sub (e' := [(2, _)]) ⟨rfl, trivial⟩ ?_
  refine QM.then ?_
  refine wpM.ret ?_
  refine QM.leave (.inl rfl) [.tmp 2] Tryd.results24 rfl ?_
  intro w' hm' hc' hg'
  -- leaf 1: 
  exact ⟨hc', _, ⟨b1, rfl, rfl, hb1⟩, hm', fun p hp => by simp only [List.mem_cons, List.not_mem_nil, or_false] at hp; subst hp; assumption⟩

set_option maxRecDepth 100000 in
theorem awake13_spec (w : World) (hT : Tb w) : Ret Tryd.prog 11 #[] w (fun v w' => v = .bool true ∧ Ext w w') := by
  refine Ret.enterM (l := []) Tryd.func11 rfl Tryd.ntmps11 rfl ([]) (no) (Mem.nil w) ?_
  refine wpM.seq ?_
  refine wpM.region ?_
  refine LM.val (ov_assign rfl) ?_
  refine LM.nil ?_
  refine QM.sub (e' := []) trivial ?_
  refine QM.then ?_
  refine wpM.seq ?_
  refine wpM.region ?_
  refine LM.callT (oc_call (enters_fn Tryd.func20 (by kernel_rfl) rfl) rfl) ScT.mono (fun w hm hc hg => scan_spec (s := awaL) w (by decide)) ?_
  rintro u13 m13 ⟨ad13, n13, cap13, rfl, hn13, hs13⟩ -; have hl13 : (scanO awaL).1.length = 6 := awa_len
  refine LM.val (ov_move rfl) ?_
  refine LM.val (ov_extract rfl rfl) ?_
  refine LM.val (ov_extract rfl rfl) ?_
  refine LM.val (ov_extract rfl rfl) ?_
  refine LM.val (ov_assign rfl) ?_
  refine LM.val (ov_assign rfl) ?_
  refine LM.val (ov_assign rfl) ?_
  refine LM.nil ?_
  refine QM.sub (e' := [(1, _)]) ⟨rfl, trivial⟩ ?_
  refine QM.then ?_
  refine wpM.seq ?_
  refine wpM.region ?_
  refine LM.val (ov_move rfl) ?_
  refine LM.callT (oc_call (enters_fn Tryd.func18 (by kernel_rfl) rfl) rfl) AcT.mono (fun w hm hc hg => aparse_spec 1 w hn13 (by omega) (hs13.srM (by intro _; rfl) hm)) ?_
  rw [awa_par1]; rintro u19 m19 ⟨ad19, n19, cap19, rfl, hn19, hs19⟩ -; have hn19' : n19 = 2 := hn19
  refine LM.val (ov_move rfl) ?_
  refine LM.val (ov_extract rfl rfl) ?_
  refine LM.val (ov_extract rfl rfl) ?_
  refine LM.val (ov_extract rfl rfl) ?_
  refine LM.val (ov_assign rfl) ?_
  refine LM.val (ov_assign rfl) ?_
  refine LM.val (ov_assign rfl) ?_
  refine LM.nil ?_
  refine QM.sub (e' := [(1, _), (4, _), (5, _), (6, _)]) ⟨rfl, rfl, rfl, rfl, trivial⟩ ?_
  refine QM.then ?_
  refine wpM.seq ?_
  refine wpM.region ?_
  refine LM.val (ov_move rfl) ?_
  refine LM.callE (oc_call (enters_fn Tryd.func14 (by kernel_rfl) rfl) rfl) (fun w hm hc hg => (awa_pri ▸ aprint_spec w hn19 (hs19.srM (by intro _; rfl) hm) (by decide) (hT.ext hc))) ?_
  refine LM.val (ov_move rfl) ?_
  refine LM.val (ov_extract rfl rfl) ?_
  refine LM.val (ov_extract rfl rfl) ?_
  refine LM.val (ov_assign rfl) ?_
  refine LM.val (ov_assign rfl) ?_
  refine LM.nil ?_
  refine QM.sub (e' := [(1, _), (4, _), (5, _), (6, _), (7, _), (8, _)]) ⟨rfl, rfl, rfl, rfl, rfl, rfl, trivial⟩ ?_
  refine QM.then ?_
  refine wpM.seq ?_
  refine wpM.region ?_
  refine LM.val (ov_move rfl) ?_
  refine LM.callT (oc_call (enters_fn Tryd.func18 (by kernel_rfl) rfl) rfl) AcT.mono (fun w hm hc hg => aparse_spec 0 w hn13 (by omega) (hs13.srM (by intro _; rfl) hm)) ?_
  rw [awa_par0]; rintro u30 m30 ⟨ad30, n30, cap30, rfl, hn30, hs30⟩ -
  refine LM.val (ov_move rfl) ?_
  refine LM.val (ov_extract rfl rfl) ?_
  refine LM.val (ov_extract rfl rfl) ?_
  refine LM.val (ov_extract rfl rfl) ?_
  refine LM.val (ov_assign rfl) ?_
  refine LM.val (ov_assign rfl) ?_
  refine LM.val (ov_assign rfl) ?_
  refine LM.nil ?_
  refine QM.sub (e' := [(4, _), (5, _), (6, _), (7, _), (8, _), (10, _), (11, _)]) ⟨rfl, rfl, rfl, rfl, rfl, rfl, rfl, trivial⟩ ?_
  refine QM.then ?_
  refine wpM.seq ?_
  refine wpM.region ?_
  refine LM.val (ov_move rfl) ?_
  refine LM.val (ov_eql rfl rfl) ?_
  refine LM.val (ov_move rfl) ?_
  first | refine LM.splitD (t := 36) rfl (fun h1 => ?_) (fun h1 => ?_) | refine LM.splitB (t := 36) rfl (fun h1 => ?_) (fun h1 => ?_)
  ·
    refine LM.strip (t := 36) rfl rfl rfl ?_
    refine LM.val (ov_move rfl) ?_
    refine LM.strip (t := 36) rfl rfl rfl ?_
    refine LM.val (ov_eql rfl rfl) ?_
    refine LM.val (ov_pickT rfl rfl) ?_
    refine LM.val (ov_move rfl) ?_
    first | refine LM.splitD (t := 40) rfl (fun h2 => ?_) (fun h2 => ?_) | refine LM.splitB (t := 40) rfl (fun h2 => ?_) (fun h2 => ?_)
    ·
      refine LM.strip (t := 40) rfl rfl rfl ?_
      refine LM.val (ov_move rfl) ?_
      refine LM.strip (t := 40) rfl rfl rfl ?_
      refine LM.val (ov_len Tryd.underlying22 rfl) ?_
      refine LM.strip (t := 40) rfl rfl rfl ?_
      refine LM.val (ov_eql rfl rfl) ?_
      refine LM.val (ov_pickT rfl rfl) ?_
      refine LM.val (ov_move rfl) ?_
      first | refine LM.splitD (t := 45) rfl (fun h3 => ?_) (fun h3 => ?_) | refine LM.splitB (t := 45) rfl (fun h3 => ?_) (fun h3 => ?_)
      ·
        refine LM.strip (t := 45) rfl rfl rfl ?_
        refine LM.val (ov_move rfl) ?_
        refine LM.strip (t := 45) rfl rfl rfl ?_
        first | refine LM.val (ov_idxSN (i := 0) (by first | exact Sr.spt (by assumption) | exact Sl.spt (by assumption)) Tryd.underlying22 Tryd.sizeOf49 rfl rfl (by omega)) ?_ | refine LM.val (ov_idxSN (by first | exact Sr.spt (by assumption) | exact Sl.spt (by assumption)) Tryd.underlying22 Tryd.sizeOf49 rfl rfl (by omega)) ?_ | refine LM.val (ov_idxS (by first | exact Sr.spt (by assumption) | exact Sl.spt (by assumption)) Tryd.underlying22 Tryd.sizeOf49 rfl rfl (by omega)) ?_ | refine LM.val (ov_idx Tryd.underlying22 Tryd.sizeOf49 rfl rfl (by omega)) ?_
        refine LM.strip (t := 45) rfl rfl rfl ?_
        first | refine LM.rd (om_slA (by assumption) (by intro _; rfl) Tryd.isAgg49 Tryd.sizeOf49 rfl (by exact getq default (by first | omega | (simp only [List.length_set, List.length_append, List.length_cons, List.length_nil]; omega)))) ?_ | refine LM.rdC (om_srEA (by assumption) (by intro _; rfl) Tryd.isAgg49 Tryd.sizeOf49 rfl (by exact getq default (by first | omega | (simp only [List.length_set, List.length_append, List.length_cons, List.length_nil]; omega))) id) ?_ | refine LM.rd (om_ldW Tryd.isAgg49 Tryd.sizeOf49 rfl rfl) ?_ | refine LM.rd (om_ldA Tryd.isAgg49 Tryd.sizeOf49 rfl (vs := [_, _, _, _, _]) rfl ⟨rfl, rfl, rfl, rfl, rfl, trivial⟩) ?_
        refine LM.strip (t := 45) rfl rfl rfl ?_
        refine LM.val (ov_build (cs := #[_, _, _, _, _]) rfl (by first | rfl | kernel_rfl)) ?_
        refine LM.strip (t := 45) rfl rfl rfl ?_
        refine LM.val (ov_aeql Tryd.underlying49 (by kernel_rfl) (by kernel_rfl) (by decide) rfl rfl (by rfl) ⟨(by first | rfl | trivial), (by first | rfl | trivial), (by first | rfl | trivial), (by first | rfl | trivial), (by first | rfl | trivial), trivial⟩) ?_
        refine LM.val (ov_pickT rfl rfl) ?_
        refine LM.val (ov_move rfl) ?_
        first | refine LM.splitD (t := 52) rfl (fun h4 => ?_) (fun h4 => ?_) | refine LM.splitB (t := 52) rfl (fun h4 => ?_) (fun h4 => ?_)
        ·
          refine LM.strip (t := 52) rfl rfl rfl ?_
          refine LM.val (ov_move rfl) ?_
          refine LM.strip (t := 52) rfl rfl rfl ?_
          refine LM.val (ov_eql rfl rfl) ?_
          refine LM.val (ov_pickT rfl rfl) ?_
          refine LM.val (ov_move rfl) ?_
          first | refine LM.splitD (t := 56) rfl (fun h5 => ?_) (fun h5 => ?_) | refine LM.splitB (t := 56) rfl (fun h5 => ?_) (fun h5 => ?_)
          ·
            refine LM.strip (t := 56) rfl rfl rfl ?_
            refine LM.val (ov_move rfl) ?_
            refine LM.strip (t := 56) rfl rfl rfl ?_
            refine LM.val (ov_seqlL rfl rfl) ?_
            refine LM.val (ov_pickT rfl rfl) ?_
            refine LM.val (ov_move rfl) ?_
            first | refine LM.splitD (t := 60) rfl (fun h6 => ?_) (fun h6 => ?_) | refine LM.splitB (t := 60) rfl (fun h6 => ?_) (fun h6 => ?_)
            ·
              refine LM.strip (t := 60) rfl rfl rfl ?_
              refine LM.val (ov_move rfl) ?_
              refine LM.strip (t := 60) rfl rfl rfl ?_
              refine LM.val (ov_eql rfl rfl) ?_
              refine LM.val (ov_pickT rfl rfl) ?_
              refine LM.val (ov_move rfl) ?_
              first | refine LM.splitD (t := 64) rfl (fun h7 => ?_) (fun h7 => ?_) | refine LM.splitB (t := 64) rfl (fun h7 => ?_) (fun h7 => ?_)
              ·
                refine LM.strip (t := 64) rfl rfl rfl ?_
                refine LM.val (ov_move rfl) ?_
                refine LM.strip (t := 64) rfl rfl rfl ?_
                refine LM.val (ov_eql rfl rfl) ?_
                refine LM.val (ov_pickT rfl rfl) ?_
                refine LM.val (ov_move rfl) ?_
                first | refine LM.splitD (t := 68) rfl (fun h8 => ?_) (fun h8 => ?_) | refine LM.splitB (t := 68) rfl (fun h8 => ?_) (fun h8 => ?_)
                ·
                  refine LM.strip (t := 68) rfl rfl rfl ?_
                  refine LM.callE (oc_call (enters_fn Tryd.func22 (by kernel_rfl) rfl) rfl) (fun w hm hc hg => aname_spec 4 w) ?_
                  refine LM.strip (t := 68) rfl rfl rfl ?_
                  refine LM.val (ov_seqlL rfl rfl) ?_
                  refine LM.val (ov_pickT rfl rfl) ?_
                  refine LM.val (ov_assign rfl) ?_
                  refine LM.nil ?_
                  refine QM.sub (e' := [(0, _)]) ⟨rfl, trivial⟩ ?_
                  refine QM.then ?_
                  refine wpM.ret ?_
                  refine QM.leave (.inl rfl) [.tmp 0] Tryd.results11 rfl ?_
                  intro w' hm' hc' hg'
                  -- leaf 1: h1+ h2+ h3+ h4+ h5+ h6+ h7+ h8+
                  first | exact ⟨rfl, hc'⟩ | (exfalso; first | omega | (simp at *; done) | (simp_all; done))
                ·
                  refine LM.drop (t := 68) rfl rfl rfl ?_
                  refine LM.drop (t := 68) rfl rfl rfl ?_
                  refine LM.val (ov_pickF rfl rfl) ?_
                  refine LM.val (ov_assign rfl) ?_
                  refine LM.nil ?_
                  refine QM.sub (e' := [(0, _)]) ⟨rfl, trivial⟩ ?_
                  refine QM.then ?_
                  refine wpM.ret ?_
                  refine QM.leave (.inl rfl) [.tmp 0] Tryd.results11 rfl ?_
                  intro w' hm' hc' hg'
                  -- leaf 2: h1+ h2+ h3+ h4+ h5+ h6+ h7+ h8-
                  first | exact ⟨rfl, hc'⟩ | (exfalso; first | omega | (simp at *; done) | (simp_all; done))
              ·
                refine LM.drop (t := 64) rfl rfl rfl ?_
                refine LM.drop (t := 64) rfl rfl rfl ?_
                refine LM.val (ov_pickF rfl rfl) ?_
                refine LM.val (ov_move rfl) ?_
                refine LM.drop (t := 68) rfl rfl rfl ?_
                refine LM.drop (t := 68) rfl rfl rfl ?_
                refine LM.val (ov_pickF rfl rfl) ?_
                refine LM.val (ov_assign rfl) ?_
                refine LM.nil ?_
                refine QM.sub (e' := [(0, _)]) ⟨rfl, trivial⟩ ?_
                refine QM.then ?_
                refine wpM.ret ?_
                refine QM.leave (.inl rfl) [.tmp 0] Tryd.results11 rfl ?_
                intro w' hm' hc' hg'
                -- leaf 3: h1+ h2+ h3+ h4+ h5+ h6+ h7-
                first | exact ⟨rfl, hc'⟩ | (exfalso; first | omega | (simp at *; done) | (simp_all; done))
            ·
              refine LM.drop (t := 60) rfl rfl rfl ?_
              refine LM.drop (t := 60) rfl rfl rfl ?_
              refine LM.val (ov_pickF rfl rfl) ?_
              refine LM.val (ov_move rfl) ?_
              refine LM.drop (t := 64) rfl rfl rfl ?_
              refine LM.drop (t := 64) rfl rfl rfl ?_
              refine LM.val (ov_pickF rfl rfl) ?_
              refine LM.val (ov_move rfl) ?_
              refine LM.drop (t := 68) rfl rfl rfl ?_
              refine LM.drop (t := 68) rfl rfl rfl ?_
              refine LM.val (ov_pickF rfl rfl) ?_
              refine LM.val (ov_assign rfl) ?_
              refine LM.nil ?_
              refine QM.sub (e' := [(0, _)]) ⟨rfl, trivial⟩ ?_
              refine QM.then ?_
              refine wpM.ret ?_
              refine QM.leave (.inl rfl) [.tmp 0] Tryd.results11 rfl ?_
              intro w' hm' hc' hg'
              -- leaf 4: h1+ h2+ h3+ h4+ h5+ h6-
              exact absurd h6 (by decide +kernel)
          ·
            refine LM.drop (t := 56) rfl rfl rfl ?_
            refine LM.drop (t := 56) rfl rfl rfl ?_
            refine LM.val (ov_pickF rfl rfl) ?_
            refine LM.val (ov_move rfl) ?_
            refine LM.drop (t := 60) rfl rfl rfl ?_
            refine LM.drop (t := 60) rfl rfl rfl ?_
            refine LM.val (ov_pickF rfl rfl) ?_
            refine LM.val (ov_move rfl) ?_
            refine LM.drop (t := 64) rfl rfl rfl ?_
            refine LM.drop (t := 64) rfl rfl rfl ?_
            refine LM.val (ov_pickF rfl rfl) ?_
            refine LM.val (ov_move rfl) ?_
            refine LM.drop (t := 68) rfl rfl rfl ?_
            refine LM.drop (t := 68) rfl rfl rfl ?_
            refine LM.val (ov_pickF rfl rfl) ?_
            refine LM.val (ov_assign rfl) ?_
            refine LM.nil ?_
            refine QM.sub (e' := [(0, _)]) ⟨rfl, trivial⟩ ?_
            refine QM.then ?_
            refine wpM.ret ?_
            refine QM.leave (.inl rfl) [.tmp 0] Tryd.results11 rfl ?_
            intro w' hm' hc' hg'
            -- leaf 5: h1+ h2+ h3+ h4+ h5-
            first | exact ⟨rfl, hc'⟩ | (exfalso; first | omega | (simp at *; done) | (simp_all; done))
        ·
          refine LM.drop (t := 52) rfl rfl rfl ?_
          refine LM.drop (t := 52) rfl rfl rfl ?_
          refine LM.val (ov_pickF rfl rfl) ?_
          refine LM.val (ov_move rfl) ?_
          refine LM.drop (t := 56) rfl rfl rfl ?_
          refine LM.drop (t := 56) rfl rfl rfl ?_
          refine LM.val (ov_pickF rfl rfl) ?_
          refine LM.val (ov_move rfl) ?_
          refine LM.drop (t := 60) rfl rfl rfl ?_
          refine LM.drop (t := 60) rfl rfl rfl ?_
          refine LM.val (ov_pickF rfl rfl) ?_
          refine LM.val (ov_move rfl) ?_
          refine LM.drop (t := 64) rfl rfl rfl ?_
          refine LM.drop (t := 64) rfl rfl rfl ?_
          refine LM.val (ov_pickF rfl rfl) ?_
          refine LM.val (ov_move rfl) ?_
          refine LM.drop (t := 68) rfl rfl rfl ?_
          refine LM.drop (t := 68) rfl rfl rfl ?_
          refine LM.val (ov_pickF rfl rfl) ?_
          refine LM.val (ov_assign rfl) ?_
          refine LM.nil ?_
          refine QM.sub (e' := [(0, _)]) ⟨rfl, trivial⟩ ?_
          refine QM.then ?_
          refine wpM.ret ?_
          refine QM.leave (.inl rfl) [.tmp 0] Tryd.results11 rfl ?_
          intro w' hm' hc' hg'
          -- leaf 6: h1+ h2+ h3+ h4-
          exact absurd (show true = false from h4) (by decide)
      ·
        refine LM.drop (t := 45) rfl rfl rfl ?_
        refine LM.drop (t := 45) rfl rfl rfl ?_
        refine LM.drop (t := 45) rfl rfl rfl ?_
        refine LM.drop (t := 45) rfl rfl rfl ?_
        refine LM.drop (t := 45) rfl rfl rfl ?_
        refine LM.val (ov_pickF rfl rfl) ?_
        refine LM.val (ov_move rfl) ?_
        refine LM.drop (t := 52) rfl rfl rfl ?_
        refine LM.drop (t := 52) rfl rfl rfl ?_
        refine LM.val (ov_pickF rfl rfl) ?_
        refine LM.val (ov_move rfl) ?_
        refine LM.drop (t := 56) rfl rfl rfl ?_
        refine LM.drop (t := 56) rfl rfl rfl ?_
        refine LM.val (ov_pickF rfl rfl) ?_
        refine LM.val (ov_move rfl) ?_
        refine LM.drop (t := 60) rfl rfl rfl ?_
        refine LM.drop (t := 60) rfl rfl rfl ?_
        refine LM.val (ov_pickF rfl rfl) ?_
        refine LM.val (ov_move rfl) ?_
        refine LM.drop (t := 64) rfl rfl rfl ?_
        refine LM.drop (t := 64) rfl rfl rfl ?_
        refine LM.val (ov_pickF rfl rfl) ?_
        refine LM.val (ov_move rfl) ?_
        refine LM.drop (t := 68) rfl rfl rfl ?_
        refine LM.drop (t := 68) rfl rfl rfl ?_
        refine LM.val (ov_pickF rfl rfl) ?_
        refine LM.val (ov_assign rfl) ?_
        refine LM.nil ?_
        refine QM.sub (e' := [(0, _)]) ⟨rfl, trivial⟩ ?_
        refine QM.then ?_
        refine wpM.ret ?_
        refine QM.leave (.inl rfl) [.tmp 0] Tryd.results11 rfl ?_
        intro w' hm' hc' hg'
        -- leaf 7: h1+ h2+ h3-
        first | exact ⟨rfl, hc'⟩ | (exfalso; first | omega | (simp at *; done) | (simp_all; done))
    ·
      refine LM.drop (t := 40) rfl rfl rfl ?_
      refine LM.drop (t := 40) rfl rfl rfl ?_
      refine LM.drop (t := 40) rfl rfl rfl ?_
      refine LM.val (ov_pickF rfl rfl) ?_
      refine LM.val (ov_move rfl) ?_
      refine LM.drop (t := 45) rfl rfl rfl ?_
      refine LM.drop (t := 45) rfl rfl rfl ?_
      refine LM.drop (t := 45) rfl rfl rfl ?_
      refine LM.drop (t := 45) rfl rfl rfl ?_
      refine LM.drop (t := 45) rfl rfl rfl ?_
      refine LM.val (ov_pickF rfl rfl) ?_
      refine LM.val (ov_move rfl) ?_
      refine LM.drop (t := 52) rfl rfl rfl ?_
      refine LM.drop (t := 52) rfl rfl rfl ?_
      refine LM.val (ov_pickF rfl rfl) ?_
      refine LM.val (ov_move rfl) ?_
      refine LM.drop (t := 56) rfl rfl rfl ?_
      refine LM.drop (t := 56) rfl rfl rfl ?_
      refine LM.val (ov_pickF rfl rfl) ?_
      refine LM.val (ov_move rfl) ?_
      refine LM.drop (t := 60) rfl rfl rfl ?_
      refine LM.drop (t := 60) rfl rfl rfl ?_
      refine LM.val (ov_pickF rfl rfl) ?_
      refine LM.val (ov_move rfl) ?_
      refine LM.drop (t := 64) rfl rfl rfl ?_
      refine LM.drop (t := 64) rfl rfl rfl ?_
      refine LM.val (ov_pickF rfl rfl) ?_
      refine LM.val (ov_move rfl) ?_
      refine LM.drop (t := 68) rfl rfl rfl ?_
      refine LM.drop (t := 68) rfl rfl rfl ?_
      refine LM.val (ov_pickF rfl rfl) ?_
      refine LM.val (ov_assign rfl) ?_
      refine LM.nil ?_
      refine QM.sub (e' := [(0, _)]) ⟨rfl, trivial⟩ ?_
      refine QM.then ?_
      refine wpM.ret ?_
      refine QM.leave (.inl rfl) [.tmp 0] Tryd.results11 rfl ?_
      intro w' hm' hc' hg'
      -- leaf 8: h1+ h2-
      first | exact ⟨rfl, hc'⟩ | (exfalso; first | omega | (simp at *; done) | (simp_all; done))
  ·
    refine LM.drop (t := 36) rfl rfl rfl ?_
    refine LM.drop (t := 36) rfl rfl rfl ?_
    refine LM.val (ov_pickF rfl rfl) ?_
    refine LM.val (ov_move rfl) ?_
    refine LM.drop (t := 40) rfl rfl rfl ?_
    refine LM.drop (t := 40) rfl rfl rfl ?_
    refine LM.drop (t := 40) rfl rfl rfl ?_
    refine LM.val (ov_pickF rfl rfl) ?_
    refine LM.val (ov_move rfl) ?_
    refine LM.drop (t := 45) rfl rfl rfl ?_
    refine LM.drop (t := 45) rfl rfl rfl ?_
    refine LM.drop (t := 45) rfl rfl rfl ?_
    refine LM.drop (t := 45) rfl rfl rfl ?_
    refine LM.drop (t := 45) rfl rfl rfl ?_
    refine LM.val (ov_pickF rfl rfl) ?_
    refine LM.val (ov_move rfl) ?_
    refine LM.drop (t := 52) rfl rfl rfl ?_
    refine LM.drop (t := 52) rfl rfl rfl ?_
    refine LM.val (ov_pickF rfl rfl) ?_
    refine LM.val (ov_move rfl) ?_
    refine LM.drop (t := 56) rfl rfl rfl ?_
    refine LM.drop (t := 56) rfl rfl rfl ?_
    refine LM.val (ov_pickF rfl rfl) ?_
    refine LM.val (ov_move rfl) ?_
    refine LM.drop (t := 60) rfl rfl rfl ?_
    refine LM.drop (t := 60) rfl rfl rfl ?_
    refine LM.val (ov_pickF rfl rfl) ?_
    refine LM.val (ov_move rfl) ?_
    refine LM.drop (t := 64) rfl rfl rfl ?_
    refine LM.drop (t := 64) rfl rfl rfl ?_
    refine LM.val (ov_pickF rfl rfl) ?_
    refine LM.val (ov_move rfl) ?_
    refine LM.drop (t := 68) rfl rfl rfl ?_
    refine LM.drop (t := 68) rfl rfl rfl ?_
    refine LM.val (ov_pickF rfl rfl) ?_
    refine LM.val (ov_assign rfl) ?_
    refine LM.nil ?_
    refine QM.sub (e' := [(0, _)]) ⟨rfl, trivial⟩ ?_
    refine QM.then ?_
    refine wpM.ret ?_
    refine QM.leave (.inl rfl) [.tmp 0] Tryd.results11 rfl ?_
    intro w' hm' hc' hg'
    -- leaf 9: h1-
    first | exact ⟨rfl, hc'⟩ | (exfalso; first | omega | (simp at *; done) | (simp_all; done))

set_option maxRecDepth 100000 in
set_option maxHeartbeats 2000000 in
theorem actsAny (s : List UInt8) (p kind : Int) (w : World) (hT : Tb w) (hsx : s.length ≤ 9223372036854775807) : Ret Tryd.prog 4 #[vS s, .int .i64 p, .int .i64 kind] w (fun v w' => v = .bool true ∧ Ext w w') := by
  refine Ret.enterM (l := [vS s, .int .i64 p, .int .i64 kind]) Tryd.func4 rfl Tryd.ntmps4 rfl ([]) (no) (Mem.nil w) ?_
  refine wpM.seq ?_
  refine wpM.region ?_
  refine LM.alloc Tryd.zeroValue4 rfl (fun b6 hb6 => ?_)
  refine LM.nil ?_
  refine QM.sub (e' := [(0, _), (1, _), (2, _), (6, _)]) ⟨rfl, rfl, rfl, rfl, trivial⟩ ?_
  refine QM.then ?_
  refine wpM.seq ?_
  refine wpM.seq ?_
  refine wpM.region ?_
  refine LM.callE (oc_call (enters_fn Tryd.func11 (by kernel_rfl) rfl) rfl) (fun w hm hc hg => awake13_spec w (hT.ext hc)) ?_
  first | refine LM.val (ov_notD rfl) ?_ | refine LM.val (ov_not rfl) ?_
  refine LM.nil ?_
  refine QM.sub (e' := [(0, _), (1, _), (2, _), (6, _), (20, _)]) ⟨rfl, rfl, rfl, rfl, rfl, trivial⟩ ?_
  refine QM.then ?_
  first | refine wpM.condD rfl (fun h1 => ?_) (fun h1 => ?_) | refine wpM.condB rfl (fun h1 => ?_) (fun h1 => ?_)
  ·
    refine wpM.seq ?_
    refine wpM.region ?_
    refine LM.st Tryd.sizeOf4 rfl rfl rfl (by first | decide | exact Nat.le_of_ble_eq_true rfl | (simp; done) | (simp; omega)) rfl (fun hlt => absurd hlt (by omega)) ?_
    refine LM.nil ?_
    refine QM.sub (e' := [(6, _)]) ⟨rfl, trivial⟩ ?_
    refine QM.then ?_
    refine wpM.ret ?_
    refine QM.then_ret ?_
    refine QM.leaveCF Tryd.results4 rfl Tryd.isAgg4 rfl ?_
    intro w' hm' hc' hg'
    -- leaf 1: h1+
    first | exact ⟨rfl, hc'⟩ | (exfalso; first | omega | (simp at *; done) | (simp_all; done))
  ·
    refine wpM.skip ?_
    refine QM.then ?_
    refine wpM.seq ?_
    refine wpM.seq ?_
    refine wpM.region ?_
    refine LM.val (ov_move rfl) ?_
    refine LM.val (ov_slenL Tryd.underlying9 rfl) ?_
    refine LM.val (ov_gtr rfl rfl) ?_
    refine LM.nil ?_
    refine QM.sub (e' := [(0, _), (1, _), (2, _), (6, _), (23, _)]) ⟨rfl, rfl, rfl, rfl, rfl, trivial⟩ ?_
    refine QM.then ?_
    first | refine wpM.condD rfl (fun h2 => ?_) (fun h2 => ?_) | refine wpM.condB rfl (fun h2 => ?_) (fun h2 => ?_)
    ·
      refine wpM.seq ?_
      refine wpM.region ?_
      refine LM.st Tryd.sizeOf4 rfl rfl rfl (by first | decide | exact Nat.le_of_ble_eq_true rfl | (simp; done) | (simp; omega)) rfl (fun hlt => absurd hlt (by omega)) ?_
      refine LM.nil ?_
      refine QM.sub (e' := [(6, _)]) ⟨rfl, trivial⟩ ?_
      refine QM.then ?_
      refine wpM.ret ?_
      refine QM.then_ret ?_
      refine QM.leaveCF Tryd.results4 rfl Tryd.isAgg4 rfl ?_
      intro w' hm' hc' hg'
      -- leaf 2: h1- h2+
      first | exact ⟨rfl, hc'⟩ | (exfalso; first | omega | (simp at *; done) | (simp_all; done))
    ·
      refine wpM.skip ?_
      refine QM.then ?_
      refine wpM.seq ?_
      refine wpM.region ?_
      refine LM.val (ov_move rfl) ?_
      refine LM.callT (oc_call (enters_fn Tryd.func20 (by kernel_rfl) rfl) rfl) ScT.mono (fun w hm hc hg => scan_spec w (by omega)) ?_
      rintro u26 m26 ⟨ad26, n26, cap26, rfl, hn26, hs26⟩ -; have hl26 := scan_len s
      refine LM.val (ov_move rfl) ?_
      refine LM.val (ov_extract rfl rfl) ?_
      refine LM.val (ov_extract rfl rfl) ?_
      refine LM.val (ov_extract rfl rfl) ?_
      refine LM.val (ov_assign rfl) ?_
      refine LM.val (ov_assign rfl) ?_
      refine LM.val (ov_assign rfl) ?_
      refine LM.nil ?_
      refine QM.sub (e' := [(1, _), (2, _), (6, _), (7, _)]) ⟨rfl, rfl, rfl, rfl, trivial⟩ ?_
      refine QM.then ?_
      refine wpM.seq ?_
      refine wpM.region ?_
      refine LM.val (ov_move rfl) ?_
      refine LM.val (ov_move rfl) ?_
      refine LM.callT (oc_call (enters_fn Tryd.func18 (by kernel_rfl) rfl) rfl) AcT.mono (fun w hm hc hg => aparse_spec p w hn26 (by omega) (hs26.srM (by intro _; rfl) hm)) ?_
      rintro u33 m33 ⟨ad33, n33, cap33, rfl, hn33, hs33⟩ -; have hmay := acts_may (s := s) (p := p); have hl33 := acts_len hmay
      refine LM.val (ov_move rfl) ?_
      refine LM.val (ov_extract rfl rfl) ?_
      refine LM.val (ov_extract rfl rfl) ?_
      refine LM.val (ov_extract rfl rfl) ?_
      refine LM.alloc Tryd.zeroValue22 rfl (fun b10 hb10 => ?_)
      refine LM.st Tryd.sizeOf22 rfl rfl rfl (by first | decide | exact Nat.le_of_ble_eq_true rfl | (simp; done) | (simp; omega)) rfl (fun hlt => absurd hlt (by omega)) ?_
      refine LM.val (ov_assign rfl) ?_
      refine LM.val (ov_assign rfl) ?_
      refine LM.nil ?_
      refine QM.sub (e' := [(1, _), (2, _), (6, _), (7, _), (10, _), (11, _), (12, _)]) ⟨rfl, rfl, rfl, rfl, rfl, rfl, rfl, trivial⟩ ?_
      refine QM.then ?_
      refine wpM.seq ?_
      refine wpM.region ?_
      refine LM.val (ov_move rfl) ?_
      refine LM.val (ov_move rfl) ?_
      refine LM.callT (oc_call (enters_fn Tryd.func21 (by kernel_rfl) rfl) rfl) AcT.mono (fun w hm hc hg => raparse_spec p w hn26 (by omega) (hs26.srM (by intro _; rfl) hm)) ?_
      rintro u40 m40 ⟨ad40, n40, cap40, rfl, hn40, hs40⟩ -
      refine LM.val (ov_move rfl) ?_
      refine LM.val (ov_extract rfl rfl) ?_
      refine LM.val (ov_extract rfl rfl) ?_
      refine LM.val (ov_extract rfl rfl) ?_
      refine LM.val (ov_assign rfl) ?_
      refine LM.val (ov_assign rfl) ?_
      refine LM.val (ov_assign rfl) ?_
      refine LM.nil ?_
      refine QM.sub (e' := [(2, _), (6, _), (10, _), (11, _), (12, _), (13, _), (14, _), (15, _)]) ⟨rfl, rfl, rfl, rfl, rfl, rfl, rfl, rfl, trivial⟩ ?_
      refine QM.then ?_
      refine wpM.seq ?_
      refine wpM.seq ?_
      refine wpM.region ?_
      first | refine LM.rd (om_ld Tryd.isAgg22 rfl rfl) ?_
      refine LM.val (ov_move rfl) ?_
      refine LM.callE (oc_call (enters_fn Tryd.func19 (by kernel_rfl) rfl) rfl) (fun w hm hc hg => asame_spec w hn33 (hs33.srM (by intro _; rfl) hm) hn40 (hs40.srM (by intro _; rfl) hm) (by omega)) ?_
      first | refine LM.val (ov_notD rfl) ?_ | refine LM.val (ov_not rfl) ?_
      refine LM.val (ov_move rfl) ?_
      first | refine LM.splitD (t := 48) rfl (fun h3 => ?_) (fun h3 => ?_) | refine LM.splitB (t := 48) rfl (fun h3 => ?_) (fun h3 => ?_)
      ·
        exfalso; simp at h3
      ·
        refine LM.strip (t := 48) rfl rfl rfl ?_
        refine LM.val (ov_move rfl) ?_
        refine LM.strip (t := 48) rfl rfl rfl ?_
        refine LM.val (ov_move rfl) ?_
        refine LM.strip (t := 48) rfl rfl rfl ?_
        refine LM.val (ov_neq rfl rfl) ?_
        refine LM.val (ov_pickF rfl rfl) ?_
        refine LM.val (ov_move rfl) ?_
        first | refine LM.splitD (t := 53) rfl (fun h4 => ?_) (fun h4 => ?_) | refine LM.splitB (t := 53) rfl (fun h4 => ?_) (fun h4 => ?_)
        ·
          exfalso; simp at h4
        ·
          refine LM.strip (t := 53) rfl rfl rfl ?_
          refine LM.val (ov_move rfl) ?_
          refine LM.strip (t := 53) rfl rfl rfl ?_
          refine LM.val (ov_move rfl) ?_
          refine LM.strip (t := 53) rfl rfl rfl ?_
          refine LM.val (ov_neq rfl rfl) ?_
          refine LM.val (ov_pickF rfl rfl) ?_
          refine LM.val (ov_move rfl) ?_
          first | refine LM.splitD (t := 58) rfl (fun h5 => ?_) (fun h5 => ?_) | refine LM.splitB (t := 58) rfl (fun h5 => ?_) (fun h5 => ?_)
          ·
            exfalso; simp at h5
          ·
            refine LM.strip (t := 58) rfl rfl rfl ?_
            refine LM.val (ov_move rfl) ?_
            refine LM.strip (t := 58) rfl rfl rfl ?_
            refine LM.callE (oc_call (enters_fn Tryd.func22 (by kernel_rfl) rfl) rfl) (fun w hm hc hg => aname_spec _ w) ?_
            refine LM.strip (t := 58) rfl rfl rfl ?_
            refine LM.val (ov_move rfl) ?_
            refine LM.strip (t := 58) rfl rfl rfl ?_
            refine LM.callE (oc_call (enters_fn Tryd.func23 (by kernel_rfl) rfl) rfl) (fun w hm hc hg => raname_spec _ w) ?_
            refine LM.strip (t := 58) rfl rfl rfl ?_
            refine LM.val (ov_sneqL rfl rfl) ?_
            refine LM.val (ov_pickF rfl rfl) ?_
            refine LM.nil ?_
            refine QM.sub (e' := [(6, _), (10, _), (12, _), (64, _)]) ⟨rfl, rfl, rfl, rfl, trivial⟩ ?_
            refine QM.then ?_
            first | refine wpM.condD rfl (fun h6 => ?_) (fun h6 => ?_) | refine wpM.condB rfl (fun h6 => ?_) (fun h6 => ?_)
            ·
              refine wpM.seq ?_
              refine wpM.region ?_
              refine LM.st Tryd.sizeOf4 rfl rfl rfl (by first | decide | exact Nat.le_of_ble_eq_true rfl | (simp; done) | (simp; omega)) rfl (fun hlt => absurd hlt (by omega)) ?_
              refine LM.nil ?_
              refine QM.sub (e' := [(6, _)]) ⟨rfl, trivial⟩ ?_
              refine QM.then ?_
              refine wpM.ret ?_
              refine QM.then_ret ?_
              refine QM.leaveCF Tryd.results4 rfl Tryd.isAgg4 rfl ?_
              intro w' hm' hc' hg'
              -- leaf 3: h1- h2- h3- h4- h5- h6+
              first | exact ⟨rfl, hc'⟩ | (exfalso; first | omega | (simp at *; done) | (simp_all; done))
            ·
              refine wpM.skip ?_
              refine QM.then ?_
              refine wpM.seq ?_
              refine wpM.region ?_
              refine LM.alloc Tryd.zeroValue3 rfl (fun b16 hb16 => ?_)
              refine LM.st Tryd.sizeOf3 rfl rfl rfl (by first | decide | exact Nat.le_of_ble_eq_true rfl | (simp; done) | (simp; omega)) rfl (fun hlt => absurd hlt (by omega)) ?_
              refine LM.nil ?_
              refine QM.sub (e' := [(6, _), (10, _), (12, _), (16, _)]) ⟨rfl, rfl, rfl, rfl, trivial⟩ ?_
              refine QM.then ?_
              refine wpM.seq ?_
              refine wpM.seq ?_
              refine wpM.region ?_
              first | refine LM.rd (om_ld Tryd.isAgg22 rfl rfl) ?_
              refine LM.callT (oc_call (enters_fn Tryd.func24 (by kernel_rfl) rfl) rfl) EachAT.mono (fun w hm hc hg => aeach_spec ad33 n33 cap33 w) ?_
              rintro u66 m66 ⟨c1, rfl, rfl, hc1⟩ -
              refine LM.nil ?_
              refine QM.sub (e' := [(6, _), (10, _), (12, _), (16, _), (66, _)]) ⟨rfl, rfl, rfl, rfl, rfl, trivial⟩ ?_
              refine QM.then ?_
              refine wpM.block ?_
              refine wpM.toRange (α := Nat) (fun k kk => sB c1 ad33 n33 cap33 :: (iB b16 (kk : Nat) :: (m40 ++ (sB b10 ad33 n33 cap33 :: (m33 ++ (m26 ++ (bB b6 false :: []))))))) (0) (by (repeat' (first | exact SubM.nil _ | refine SubM.cons rfl ?_ | refine SubM.app ?_))) ?_
              refine wpM.range (α := Nat) (β := Unit) (enters_fn Tryd.func57 (by kernel_rfl) rfl) rfl (aeach_seq (xs := (actsO (scanO s).1 p).1) hn33 (by omega)) (fun k kk => sB c1 ad33 n33 cap33 :: (iB b16 (kk : Nat) :: (m40 ++ (sB b10 ad33 n33 cap33 :: (m33 ++ (m26 ++ (bB b6 false :: []))))))) (fun _ _ => top) (fun k kk => kk = k ∧ k ≤ (actsO (scanO s).1 p).1.length) (fun ⟨⟩ => []) (fun _ => top) (fun c ⟨⟩ => False) 0 rfl (fun _ h => h) ⟨rfl, Nat.zero_le _⟩ (by kernel_rfl) (by intro k av hav; obtain ⟨hkx, rfl⟩ := rowA_inv hav; rfl) (.inl trivial) (fun k a w hm hc _ _ => ⟨SubM.mem (by (repeat' (first | exact SubM.nil _ | refine SubM.cons rfl ?_ | refine SubM.app ?_))) w hm, hs33.srM (by intro _; rfl) hm⟩) (fun _ _ _ _ => gl_top _) (fun _ _ _ => gl_top _) (fun k x _ => mm_cons rfl (mm_cons rfl (mm_app hs40.wlk (mm_cons rfl (mm_app hs33.wlk (mm_app hs26.wlk (mm_cons rfl mm_nil))))))) (fun c z _ => by ((repeat (refine mm_cons rfl ?_)); exact fun p hp => .inl (by first | exact hp | (simp at hp; done) | (simp [hp]; done) | (simp at hp ⊢; first | exact .inl hp | exact hp | (simp [hp]; done))))) ?_ ?_ ?_ ?_
              ·
                rintro k av kk l D rc n1 W1 hD hll hput hrc hav ⟨hkk, hk⟩
                change wpM _ _ _ _ _ _ _ ((l, Obj.loop rc) :: ([(D, Obj.deferred (some []))] ++ (sB c1 ad33 n33 cap33 :: (iB b16 (kk : Nat) :: (m40 ++ (sB b10 ad33 n33 cap33 :: (m33 ++ (m26 ++ (bB b6 false :: []))))))))) _ _ _
                obtain ⟨hkx, rfl⟩ := rowA_inv hav
                refine wpM.seq ?_
                refine wpM.region ?_
                refine LM.val (ov_assign rfl) ?_
                refine LM.nil ?_
                refine QM.sub (e' := [(6, _), (10, _), (16, _), (17, _), (68, _)]) ⟨rfl, rfl, rfl, rfl, rfl, trivial⟩ ?_
                refine QM.then ?_
                refine wpM.region ?_
                refine LM.alloc Tryd.zeroValue49 rfl (fun b18 hb18 => ?_)
                first | refine LM.stW Tryd.sizeOf49 rfl rfl rfl rfl (by first | rfl | decide | (simp; done)) (fun hlt => absurd hlt (by omega)) ?_ | refine LM.st Tryd.sizeOf49 rfl rfl rfl (by first | decide | exact Nat.le_of_ble_eq_true rfl | (simp; done) | (simp; omega)) rfl (fun hlt => absurd hlt (by omega)) ?_
                refine LM.nil ?_
                refine QM.sub (e' := [(6, _), (10, _), (16, _), (17, _), (18, _)]) ⟨rfl, rfl, rfl, rfl, rfl, trivial⟩ ?_
                refine QM.toBodyF (hput k kk) hll ?_
                refine wpM.block ?_
                refine wpM.seq ?_
                refine wpM.seq ?_
                refine wpM.draw [(0, 0), (1, 1), (2, 0), (3, 0), (4, 1), (5, 1), (6, 0), (7, 0), (8, 1), (9, 0), (10, 0)] (by kernel_rfl) (by kernel_rfl) ?_
                refine LD.val rfl rfl (ov_move rfl) ?_
                first | refine LD.rd rfl rfl (om_ld Tryd.isAgg3 rfl rfl) ?_
                refine LD.val rfl rfl (ov_neq rfl rfl) ?_
                refine LD.val rfl rfl (ov_move rfl) ?_
                first | refine LD.splitD (t := 72) rfl (fun h7 => ?_) (fun h7 => ?_) | refine LD.splitB (t := 72) rfl (fun h7 => ?_) (fun h7 => ?_)
                ·
                  exfalso; subst hkk; simp at h7
                ·
                  first | refine LD.rd rfl ⟨72, _, rfl, rfl, rfl⟩ (om_ldW Tryd.isAgg49 Tryd.sizeOf49 rfl rfl) ?_ | refine LD.rd rfl ⟨72, _, rfl, rfl, rfl⟩ (om_ldA Tryd.isAgg49 Tryd.sizeOf49 rfl (vs := [_, _, _, _, _]) rfl ⟨rfl, rfl, rfl, rfl, rfl, trivial⟩) ?_
                  first | refine LD.rd rfl ⟨72, _, rfl, rfl, rfl⟩ (om_ld Tryd.isAgg22 rfl rfl) ?_
                  refine LD.val rfl ⟨72, _, rfl, rfl, rfl⟩ (ov_move rfl) ?_
                  first | refine LD.val rfl ⟨72, _, rfl, rfl, rfl⟩ (ov_idxSN (by first | exact Sr.spt (by assumption) | exact Sl.spt (by assumption)) Tryd.underlying22 Tryd.sizeOf49 rfl rfl (by omega)) ?_ | refine LD.val rfl ⟨72, _, rfl, rfl, rfl⟩ (ov_idxS (by first | exact Sr.spt (by assumption) | exact Sl.spt (by assumption)) Tryd.underlying22 Tryd.sizeOf49 rfl rfl (by omega)) ?_ | refine LD.val rfl ⟨72, _, rfl, rfl, rfl⟩ (ov_idx Tryd.underlying22 Tryd.sizeOf49 rfl rfl (by omega)) ?_
                  first | refine LD.rd rfl ⟨72, _, rfl, rfl, rfl⟩ (om_slA (by assumption) (by intro _; rfl) Tryd.isAgg49 Tryd.sizeOf49 rfl (by exact getq default (by first | omega | (simp only [List.length_set, List.length_append, List.length_cons, List.length_nil]; omega)))) ?_ | refine LD.rdC rfl ⟨72, _, rfl, rfl, rfl⟩ (om_srEA (by assumption) (by intro _; rfl) Tryd.isAgg49 Tryd.sizeOf49 rfl (by exact getq default (by first | omega | (simp only [List.length_set, List.length_append, List.length_cons, List.length_nil]; omega))) id) ?_ | refine LD.rd rfl ⟨72, _, rfl, rfl, rfl⟩ (om_ldW Tryd.isAgg49 Tryd.sizeOf49 rfl rfl) ?_ | refine LD.rd rfl ⟨72, _, rfl, rfl, rfl⟩ (om_ldA Tryd.isAgg49 Tryd.sizeOf49 rfl (vs := [_, _, _, _, _]) rfl ⟨rfl, rfl, rfl, rfl, rfl, trivial⟩) ?_
                  refine LD.val rfl ⟨72, _, rfl, rfl, rfl⟩ (ov_aneq Tryd.underlying49 (by kernel_rfl) (by kernel_rfl) (by decide) rfl rfl (by rfl) ⟨(by first | rfl | trivial), (by first | rfl | trivial), (by first | rfl | trivial), (by first | rfl | trivial), (by first | rfl | trivial), trivial⟩) ?_
                  refine LD.val rfl rfl (ov_pickF rfl rfl) ?_
                  refine LD.nil ?_
                  refine QM.sub (e' := [(6, _), (16, _), (79, _)]) ⟨rfl, rfl, rfl, trivial⟩ ?_
                  refine QM.then ?_
                  first | refine wpM.condD rfl (fun h8 => ?_) (fun h8 => ?_) | refine wpM.condB rfl (fun h8 => ?_) (fun h8 => ?_)
                  ·
                    exfalso; rw [fA_veqs] at h8; simp at h8
                  ·
                    refine wpM.skip ?_
                    refine QM.then ?_
                    refine wpM.region ?_
                    first | refine LM.rd (om_ld Tryd.isAgg3 rfl rfl) ?_
                    refine LM.val (ov_add64 rfl rfl (by omega)) ?_
                    refine LM.st Tryd.sizeOf3 rfl rfl rfl (by first | decide | exact Nat.le_of_ble_eq_true rfl | (simp; done) | (simp; omega)) rfl (fun hlt => absurd hlt (by omega)) ?_
                    refine LM.nil ?_
                    refine QM.sub (e' := []) trivial ?_
                    refine QM.block_normal ?_
                    -- next1: h1- h2- h3- h4- h5- h6- h7- h8-
                    refine QM.next (kk + 1) (SubM.mem (by (repeat' (first | exact SubM.nil _ | refine SubM.cons rfl ?_ | refine SubM.app ?_)))) (fun _ h => h) ?_
                    · omega
              ·
                rintro kk D0 hD0 ⟨hkk, hk⟩
                refine QM.sub (e' := [(6, _), (10, _), (12, _), (16, _)]) ⟨rfl, rfl, rfl, rfl, trivial⟩ ?_
                refine QM.block_normal ?_
                refine QM.then ?_
                refine wpM.seq ?_
                refine wpM.region ?_
                first | refine LM.rd (om_ld Tryd.isAgg3 rfl rfl) ?_
                first | refine LM.rd (om_ld Tryd.isAgg22 rfl rfl) ?_
                refine LM.val (ov_len Tryd.underlying22 rfl) ?_
                refine LM.val (ov_eql rfl rfl) ?_
                refine LM.val (ov_move rfl) ?_
                first | refine LM.splitD (t := 86) rfl (fun h9 => ?_) (fun h9 => ?_) | refine LM.splitB (t := 86) rfl (fun h9 => ?_) (fun h9 => ?_)
                ·
                  refine LM.strip (t := 86) rfl rfl rfl ?_
                  refine LM.val (ov_move rfl) ?_
                  refine LM.strip (t := 86) rfl rfl rfl ?_
                  refine LM.val (ov_neq rfl rfl) ?_
                  refine LM.strip (t := 86) rfl rfl rfl ?_
                  refine LM.val (ov_move rfl) ?_
                  first | refine LM.splitD (t := 89) rfl (fun h10 => ?_) (fun h10 => ?_) | refine LM.splitB (t := 89) rfl (fun h10 => ?_) (fun h10 => ?_)
                  ·
                    refine LM.drop (t := 89) rfl rfl rfl ?_
                    refine LM.drop (t := 89) rfl rfl rfl ?_
                    refine LM.strip (t := 86) rfl rfl rfl ?_
                    refine LM.val (ov_pickT rfl rfl) ?_
                    refine LM.val (ov_pickT rfl rfl) ?_
                    refine LM.st Tryd.sizeOf4 rfl rfl rfl (by first | decide | exact Nat.le_of_ble_eq_true rfl | (simp; done) | (simp; omega)) rfl (fun hlt => absurd hlt (by omega)) ?_
                    refine LM.nil ?_
                    refine QM.sub (e' := [(6, _)]) ⟨rfl, trivial⟩ ?_
                    refine QM.then ?_
                    refine wpM.ret ?_
                    refine QM.leaveCDF (ds := [D0]) Tryd.results4 rfl (fun D h => by simp only [List.mem_cons, List.not_mem_nil, or_false] at h; omega) Tryd.isAgg4 rfl ?_
                    intro w' hm' hc'
                    -- leaf 4: h1- h2- h3- h4- h5- h6- h9+ h10+
                    first | exact ⟨rfl, hc'⟩ | (exfalso; first | omega | (simp at *; done) | (simp_all; done))
                  ·
                    refine LM.strip (t := 89) rfl rfl rfl ?_
                    first | refine LM.rd (om_ld Tryd.isAgg22 rfl rfl) ?_
                    refine LM.strip (t := 89) rfl rfl rfl ?_
                    refine LM.callE (oc_call (enters_fn Tryd.func17 (by kernel_rfl) rfl) rfl) (fun w hm hc hg => amay_spec w hn33 (hs33.srM (by intro _; rfl) hm)) ?_
                    refine LM.strip (t := 86) rfl rfl rfl ?_
                    refine LM.val (ov_pickF rfl rfl) ?_
                    refine LM.val (ov_pickT rfl rfl) ?_
                    refine LM.st Tryd.sizeOf4 rfl rfl rfl (by first | decide | exact Nat.le_of_ble_eq_true rfl | (simp; done) | (simp; omega)) rfl (fun hlt => absurd hlt (by omega)) ?_
                    refine LM.nil ?_
                    refine QM.sub (e' := [(6, _)]) ⟨rfl, trivial⟩ ?_
                    refine QM.then ?_
                    refine wpM.ret ?_
                    refine QM.leaveCDF (ds := [D0]) Tryd.results4 rfl (fun D h => by simp only [List.mem_cons, List.not_mem_nil, or_false] at h; omega) Tryd.isAgg4 rfl ?_
                    intro w' hm' hc'
                    -- leaf 5: h1- h2- h3- h4- h5- h6- h9+ h10-
                    refine ⟨?_, hc'⟩; show Value.bool (mayA _) = _; rw [hmay]
                ·
                  exfalso; rw [rowA_len] at hkk; omega
              ·
                rintro ⟨⟩ D0 hD0 hx
                first | exact hx.elim | cases hx.1
              ·
                rintro id ⟨⟩ D0 hD0 hx
                first | exact hx.elim | cases hx.1 | cases hx

end Go.Eng

