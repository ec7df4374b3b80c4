/- Acts are gone over; ActsAny, walked. No condition. -/
import Derived.Test.YtoeojcnodjjpgaaDoorActE
set_option linter.unusedVariables false
set_option linter.unusedSimpArgs false
namespace Go.Eng
open Go Go.Proofs Go.RowKit

abbrev sB (b : Nat) (ad : Option Addr) (n cap : Nat) : Nat × Obj := (b, .cells #[.slice ad n cap] 22 (0, 0))
def EachAT (ad : Option Addr) (n cap : Nat) (n0 : Nat) (v : Value) (m : Mem0) : Prop := ∃ b1, v = .func (.func 57) #[] #[.pointer (some ⟨b1, 0, none⟩)] ∧ m = [sB b1 ad n cap] ∧ n0 ≤ b1
theorem EachAT.mono {ad : Option Addr} {n cap : Nat} : ∀ (k k' : Nat) u m, k' ≤ k → EachAT ad n cap k u m → EachAT ad n cap k' u m := fun k k' u m h ⟨b1, h1, h2, h3⟩ => ⟨b1, h1, h2, by omega⟩
def awaL : List UInt8 := [120, 32, 116, 105, 99, 107, 32, 51, 59, 32, 102, 105, 114, 101, 59]
theorem awa_len : (scanO awaL).1.length = 6 := by decide +kernel
theorem awa_par1 : actsO (scanO awaL).1 1 = ([⟨1, 3, 0, 0, 0⟩, ⟨2, 0, 0, 0, 0⟩], 6, 0) := by decide +kernel
theorem awa_par0 : actsO (scanO awaL).1 0 = ([], 0, 5) := by decide +kernel
theorem awa_pri : printA [⟨1, 3, 0, 0, 0⟩, ⟨2, 0, 0, 0, 0⟩] = (awaL.drop 2, 0) := by decide +kernel
set_option maxRecDepth 100000 in
theorem asame_spec {xs ys : List Act} {ad1 ad2 : Option Addr} {n1 n2 cap1 cap2 : Nat} (w : World) (hn1 : n1 = xs.length) (hl1 : Sr fA 5 xs (.slice ad1 n1 cap1) w) (hn2 : n2 = ys.length) (hl2 : Sr fA 5 ys (.slice ad2 n2 cap2) w) (hx : xs.length ≤ 1000000000) : Ret Tryd.prog 19 #[.slice ad1 n1 cap1, .slice ad2 n2 cap2] w (fun v w' => v = .bool (decide (xs = ys)) ∧ Ext w w') := by
  refine Ret.enterM (l := [.slice ad1 n1 cap1, .slice ad2 n2 cap2]) Tryd.func19 rfl Tryd.ntmps19 rfl ([]) (no) (Mem.nil w) ?_
  refine wpM.seq ?_
  refine wpM.region ?_
  refine LM.val (ov_assign rfl) ?_
  refine LM.nil ?_
  refine QM.sub (e' := [(0, _), (1, _)]) ⟨rfl, rfl, trivial⟩ ?_
  refine QM.then ?_
  refine wpM.seq ?_
  refine wpM.seq ?_
  refine wpM.region ?_
  refine LM.val (ov_move rfl) ?_
  refine LM.val (ov_len Tryd.underlying22 rfl) ?_
  refine LM.val (ov_move rfl) ?_
  refine LM.val (ov_len Tryd.underlying22 rfl) ?_
  refine LM.val (ov_neq rfl rfl) ?_
  refine LM.nil ?_
  refine QM.sub (e' := [(0, _), (1, _), (10, _)]) ⟨rfl, rfl, rfl, trivial⟩ ?_
  refine QM.then ?_
  first | refine wpM.condD rfl (fun h1 => ?_) (fun h1 => ?_) | refine wpM.condB rfl (fun h1 => ?_) (fun h1 => ?_)
  ·
    refine wpM.seq ?_
    refine wpM.region ?_
    refine LM.val (ov_assign rfl) ?_
    refine LM.nil ?_
    refine QM.sub (e' := [(4, _)]) ⟨rfl, trivial⟩ ?_
    refine QM.then ?_
    refine wpM.ret ?_
    refine QM.then_ret ?_
    refine QM.leave (.inl rfl) [.tmp 4] Tryd.results19 rfl ?_
    intro w' hm' hc' hg'
    -- leaf 1: h1+
    refine ⟨?_, hc'⟩; show Value.bool false = _; rw [decide_eq_false (show ¬ xs = ys by intro q; have := congrArg List.length q; omega)]
  ·
    refine wpM.skip ?_
    refine QM.then ?_
    refine wpM.seq ?_
    refine wpM.seq ?_
    refine wpM.region ?_
    refine LM.val (ov_assign rfl) ?_
    refine LM.nil ?_
    refine QM.sub (e' := [(0, _), (1, _), (5, _)]) ⟨rfl, rfl, rfl, trivial⟩ ?_
    refine QM.then ?_
    refine wpM.block ?_
    refine wpM.loopK0 (α := Nat) (fun i => [(5, .int .i64 (i : Nat))]) [(0, _), (1, _)] (fun i => []) (fun i => i ≤ xs.length ∧ xs.take i = ys.take i) (fun i => xs.length - i) (0) ⟨(by first | rfl | exact lk rfl (by congr 1; omega) | exact lk rfl (by simp)), rfl, rfl, trivial⟩ (by (repeat' (first | exact SubM.nil _ | refine SubM.cons rfl ?_ | refine SubM.app ?_))) ⟨Nat.zero_le _, rfl⟩ ?_
    rintro i ⟨hi, ha⟩
    change wpM _ _ _ _ _ _ _ ([]) _ _ _
    refine wpM.seq ?_
    refine wpM.seq ?_
    refine wpM.region ?_
    refine LM.val (ov_move rfl) ?_
    refine LM.val (ov_move rfl) ?_
    refine LM.val (ov_len Tryd.underlying22 rfl) ?_
    refine LM.val (ov_lss rfl rfl) ?_
    refine LM.nil ?_
    refine QM.sub (e' := [(0, _), (1, _), (5, _), (14, _)]) ⟨rfl, rfl, rfl, rfl, trivial⟩ ?_
    refine QM.then ?_
    first | refine wpM.condD rfl (fun h2 => ?_) (fun h2 => ?_) | refine wpM.condB rfl (fun h2 => ?_) (fun h2 => ?_)
    ·
      refine wpM.skip ?_
      refine QM.then ?_
      refine wpM.seq ?_
      refine wpM.block ?_
      refine wpM.seq ?_
      refine wpM.draw [(0, 0), (1, 0), (2, 0), (3, 1), (4, 0), (5, 0), (6, 0), (7, 1), (8, 0)] (by kernel_rfl) (by kernel_rfl) ?_
      refine LD.val rfl rfl (ov_move rfl) ?_
      refine LD.val rfl rfl (ov_move rfl) ?_
      first | refine LD.val rfl rfl (ov_idxSN (by first | exact Sr.spt (by assumption) | exact Sl.spt (by assumption)) Tryd.underlying22 Tryd.sizeOf49 rfl rfl (by omega)) ?_ | refine LD.val rfl rfl (ov_idxS (by first | exact Sr.spt (by assumption) | exact Sl.spt (by assumption)) Tryd.underlying22 Tryd.sizeOf49 rfl rfl (by omega)) ?_ | refine LD.val rfl rfl (ov_idx Tryd.underlying22 Tryd.sizeOf49 rfl rfl (by omega)) ?_
      first | refine LD.rd rfl rfl (om_slA (by assumption) (by intro _; rfl) Tryd.isAgg49 Tryd.sizeOf49 rfl (by exact getq default (by first | omega | (simp only [List.length_set, List.length_append, List.length_cons, List.length_nil]; omega)))) ?_ | refine LD.rdC rfl rfl (om_srEA (by assumption) (by intro _; rfl) Tryd.isAgg49 Tryd.sizeOf49 rfl (by exact getq default (by first | omega | (simp only [List.length_set, List.length_append, List.length_cons, List.length_nil]; omega))) id) ?_ | refine LD.rd rfl rfl (om_ldW Tryd.isAgg49 Tryd.sizeOf49 rfl rfl) ?_ | refine LD.rd rfl rfl (om_ldA Tryd.isAgg49 Tryd.sizeOf49 rfl (vs := [_, _, _, _, _]) rfl ⟨rfl, rfl, rfl, rfl, rfl, trivial⟩) ?_
      refine LD.val rfl rfl (ov_move rfl) ?_
      refine LD.val rfl rfl (ov_move rfl) ?_
      first | refine LD.val rfl rfl (ov_idxSN (by first | exact Sr.spt (by assumption) | exact Sl.spt (by assumption)) Tryd.underlying22 Tryd.sizeOf49 rfl rfl (by omega)) ?_ | refine LD.val rfl rfl (ov_idxS (by first | exact Sr.spt (by assumption) | exact Sl.spt (by assumption)) Tryd.underlying22 Tryd.sizeOf49 rfl rfl (by omega)) ?_ | refine LD.val rfl rfl (ov_idx Tryd.underlying22 Tryd.sizeOf49 rfl rfl (by omega)) ?_
      first | refine LD.rd rfl rfl (om_slA (by assumption) (by intro _; rfl) Tryd.isAgg49 Tryd.sizeOf49 rfl (by exact getq default (by first | omega | (simp only [List.length_set, List.length_append, List.length_cons, List.length_nil]; omega)))) ?_ | refine LD.rdC rfl rfl (om_srEA (by assumption) (by intro _; rfl) Tryd.isAgg49 Tryd.sizeOf49 rfl (by exact getq default (by first | omega | (simp only [List.length_set, List.length_append, List.length_cons, List.length_nil]; omega))) id) ?_ | refine LD.rd rfl rfl (om_ldW Tryd.isAgg49 Tryd.sizeOf49 rfl rfl) ?_ | refine LD.rd rfl rfl (om_ldA Tryd.isAgg49 Tryd.sizeOf49 rfl (vs := [_, _, _, _, _]) rfl ⟨rfl, rfl, rfl, rfl, rfl, trivial⟩) ?_
      refine LD.val rfl rfl (ov_aneq Tryd.underlying49 (by kernel_rfl) (by kernel_rfl) (by decide) rfl rfl (by rfl) ⟨(by first | rfl | trivial), (by first | rfl | trivial), (by first | rfl | trivial), (by first | rfl | trivial), (by first | rfl | trivial), trivial⟩) ?_
      refine LD.nil ?_
      refine QM.sub (e' := [(0, _), (1, _), (5, _), (25, _)]) ⟨rfl, rfl, rfl, rfl, trivial⟩ ?_
      refine QM.then ?_
      first | refine wpM.condD rfl (fun h3 => ?_) (fun h3 => ?_) | refine wpM.condB rfl (fun h3 => ?_) (fun h3 => ?_)
      ·
        refine wpM.seq ?_
        refine wpM.region ?_
        refine LM.val (ov_assign rfl) ?_
        refine LM.nil ?_
        refine QM.sub (e' := [(4, _)]) ⟨rfl, trivial⟩ ?_
        refine QM.then ?_
        refine wpM.ret ?_
        refine QM.block_ret ?_
        refine QM.then_ret ?_
        refine QM.then_ret ?_
        refine QM.block_ret ?_
        refine QM.then_ret ?_
        refine QM.leave (.inl rfl) [.tmp 4] Tryd.results19 rfl ?_
        intro w' hm' hc' hg'
        -- leaf 2: h1- h2+ h3+
        refine ⟨?_, hc'⟩; show Value.bool false = _; rw [decide_eq_false (show ¬ xs = ys by intro q; rw [fA_veqs, q] at h3; simp at h3)]
      ·
        refine wpM.skip ?_
        refine QM.block_normal ?_
        refine QM.then ?_
        refine wpM.region ?_
        refine LM.val (ov_move rfl) ?_
        refine LM.val (ov_add64 rfl rfl (by omega)) ?_
        refine LM.val (ov_assign rfl) ?_
        refine LM.nil ?_
        refine QM.sub (e' := [(0, _), (1, _), (5, _)]) ⟨rfl, rfl, rfl, trivial⟩ ?_
        -- again1: h1- h2+ h3-
        refine QM.againK (i + 1) ⟨(by first | rfl | exact lk rfl (by congr 1; omega) | exact lk rfl (by simp)), rfl, rfl, trivial⟩ (by (repeat' (first | exact SubM.nil _ | refine SubM.cons rfl ?_ | refine SubM.app ?_))) (fun _ h => h) ?_ ?_
        · exact ⟨by omega, eqA_at (by omega) (by omega) ha (by rw [fA_veqs] at h3; simpa using h3)⟩
        · first | omega | (dsimp only; omega)
    ·
      refine wpM.exit ?_
      refine QM.then_exit ?_
      refine QM.then_exit ?_
      refine QM.block_hit ?_
      refine QM.then ?_
      refine wpM.seq ?_
      refine wpM.region ?_
      refine LM.val (ov_assign rfl) ?_
      refine LM.nil ?_
      refine QM.sub (e' := [(4, _)]) ⟨rfl, trivial⟩ ?_
      refine QM.then ?_
      refine wpM.ret ?_
      refine QM.leave (.inl rfl) [.tmp 4] Tryd.results19 rfl ?_
      intro w' hm' hc' hg'
      -- leaf 3: h1- h2-
      refine ⟨?_, hc'⟩; show Value.bool true = _; rw [decide_eq_true]; have e1 : xs.take i = xs := List.take_of_length_le (by omega); have e2 : ys.take i = ys := List.take_of_length_le (by omega); rw [← e1, ← e2, ha]

set_option maxRecDepth 100000 in
theorem awake13_spec (w : World) (hT : Tb w) : Ret Tryd.prog 11 #[] w (fun v w' => v = .bool true ∧ Ext w w') := by
  refine Ret.enterM (l := []) Tryd.func11 rfl Tryd.ntmps11 rfl ([]) (no) (Mem.nil w) ?_
  refine wpM.seq ?_
  refine wpM.region ?_
  refine LM.val (ov_assign rfl) ?_
  refine LM.nil ?_
  refine QM.sub (e' := []) trivial ?_
  refine QM.then ?_
  refine wpM.seq ?_
  refine wpM.region ?_
  refine LM.callT (oc_call (enters_fn Tryd.func20 (by kernel_rfl) rfl) rfl) ScT.mono (fun w hm hc hg => scan_spec (s := awaL) w (by decide)) ?_
  rintro u13 m13 ⟨ad13, n13, cap13, rfl, hn13, hs13⟩ -; have hl13 : (scanO awaL).1.length = 6 := awa_len
  refine LM.val (ov_move rfl) ?_
  refine LM.val (ov_extract rfl rfl) ?_
  refine LM.val (ov_extract rfl rfl) ?_
  refine LM.val (ov_extract rfl rfl) ?_
  refine LM.val (ov_assign rfl) ?_
  refine LM.val (ov_assign rfl) ?_
  refine LM.val (ov_assign rfl) ?_
  refine LM.nil ?_
  refine QM.sub (e' := [(1, _)]) ⟨rfl, trivial⟩ ?_
  refine QM.then ?_
  refine wpM.seq ?_
  refine wpM.region ?_
  refine LM.val (ov_move rfl) ?_
  refine LM.callT (oc_call (enters_fn Tryd.func18 (by kernel_rfl) rfl) rfl) AcT.mono (fun w hm hc hg => aparse_spec 1 w hn13 (by omega) (hs13.srM (by intro _; rfl) hm)) ?_
  rw [awa_par1]; rintro u19 m19 ⟨ad19, n19, cap19, rfl, hn19, hs19⟩ -; have hn19' : n19 = 2 := hn19
  refine LM.val (ov_move rfl) ?_
  refine LM.val (ov_extract rfl rfl) ?_
  refine LM.val (ov_extract rfl rfl) ?_
  refine LM.val (ov_extract rfl rfl) ?_
  refine LM.val (ov_assign rfl) ?_
  refine LM.val (ov_assign rfl) ?_
  refine LM.val (ov_assign rfl) ?_
  refine LM.nil ?_
  refine QM.sub (e' := [(1, _), (4, _), (5, _), (6, _)]) ⟨rfl, rfl, rfl, rfl, trivial⟩ ?_
  refine QM.then ?_
  refine wpM.seq ?_
  refine wpM.region ?_
  refine LM.val (ov_move rfl) ?_
  refine LM.callE (oc_call (enters_fn Tryd.func14 (by kernel_rfl) rfl) rfl) (fun w hm hc hg => (awa_pri ▸ aprint_spec w hn19 (hs19.srM (by intro _; rfl) hm) (by decide) (hT.ext hc))) ?_
  refine LM.val (ov_move rfl) ?_
  refine LM.val (ov_extract rfl rfl) ?_
  refine LM.val (ov_extract rfl rfl) ?_
  refine LM.val (ov_assign rfl) ?_
  refine LM.val (ov_assign rfl) ?_
  refine LM.nil ?_
  refine QM.sub (e' := [(1, _), (4, _), (5, _), (6, _), (7, _), (8, _)]) ⟨rfl, rfl, rfl, rfl, rfl, rfl, trivial⟩ ?_
  refine QM.then ?_
  refine wpM.seq ?_
  refine wpM.region ?_
  refine LM.val (ov_move rfl) ?_
  refine LM.callT (oc_call (enters_fn Tryd.func18 (by kernel_rfl) rfl) rfl) AcT.mono (fun w hm hc hg => aparse_spec 0 w hn13 (by omega) (hs13.srM (by intro _; rfl) hm)) ?_
  rw [awa_par0]; rintro u30 m30 ⟨ad30, n30, cap30, rfl, hn30, hs30⟩ -
  refine LM.val (ov_move rfl) ?_
  refine LM.val (ov_extract rfl rfl) ?_
  refine LM.val (ov_extract rfl rfl) ?_
  refine LM.val (ov_extract rfl rfl) ?_
  refine LM.val (ov_assign rfl) ?_
  refine LM.val (ov_assign rfl) ?_
  refine LM.val (ov_assign rfl) ?_
  refine LM.nil ?_
  refine QM.sub (e' := [(4, _), (5, _), (6, _), (7, _), (8, _), (10, _), (11, _)]) ⟨rfl, rfl, rfl, rfl, rfl, rfl, rfl, trivial⟩ ?_
  refine QM.then ?_
  refine wpM.seq ?_
  refine wpM.region ?_
  refine LM.val (ov_move rfl) ?_
  refine LM.val (ov_eql rfl rfl) ?_
  refine LM.val (ov_move rfl) ?_
  first | refine LM.splitD (t := 36) rfl (fun h1 => ?_) (fun h1 => ?_) | refine LM.splitB (t := 36) rfl (fun h1 => ?_) (fun h1 => ?_)
  ·
    refine LM.strip (t := 36) rfl rfl rfl ?_
    refine LM.val (ov_move rfl) ?_
    refine LM.strip (t := 36) rfl rfl rfl ?_
    refine LM.val (ov_eql rfl rfl) ?_
    refine LM.val (ov_pickT rfl rfl) ?_
    refine LM.val (ov_move rfl) ?_
    first | refine LM.splitD (t := 40) rfl (fun h2 => ?_) (fun h2 => ?_) | refine LM.splitB (t := 40) rfl (fun h2 => ?_) (fun h2 => ?_)
    ·
      refine LM.strip (t := 40) rfl rfl rfl ?_
      refine LM.val (ov_move rfl) ?_
      refine LM.strip (t := 40) rfl rfl rfl ?_
      refine LM.val (ov_len Tryd.underlying22 rfl) ?_
      refine LM.strip (t := 40) rfl rfl rfl ?_
      refine LM.val (ov_eql rfl rfl) ?_
      refine LM.val (ov_pickT rfl rfl) ?_
      refine LM.val (ov_move rfl) ?_
      first | refine LM.splitD (t := 45) rfl (fun h3 => ?_) (fun h3 => ?_) | refine LM.splitB (t := 45) rfl (fun h3 => ?_) (fun h3 => ?_)
      ·
        refine LM.strip (t := 45) rfl rfl rfl ?_
        refine LM.val (ov_move rfl) ?_
        refine LM.strip (t := 45) rfl rfl rfl ?_
        first | refine LM.val (ov_idxSN (i := 0) (by first | exact Sr.spt (by assumption) | exact Sl.spt (by assumption)) Tryd.underlying22 Tryd.sizeOf49 rfl rfl (by omega)) ?_ | refine LM.val (ov_idxSN (by first | exact Sr.spt (by assumption) | exact Sl.spt (by assumption)) Tryd.underlying22 Tryd.sizeOf49 rfl rfl (by omega)) ?_ | refine LM.val (ov_idxS (by first | exact Sr.spt (by assumption) | exact Sl.spt (by assumption)) Tryd.underlying22 Tryd.sizeOf49 rfl rfl (by omega)) ?_ | refine LM.val (ov_idx Tryd.underlying22 Tryd.sizeOf49 rfl rfl (by omega)) ?_
        refine LM.strip (t := 45) rfl rfl rfl ?_
        first | refine LM.rd (om_slA (by assumption) (by intro _; rfl) Tryd.isAgg49 Tryd.sizeOf49 rfl (by exact getq default (by first | omega | (simp only [List.length_set, List.length_append, List.length_cons, List.length_nil]; omega)))) ?_ | refine LM.rdC (om_srEA (by assumption) (by intro _; rfl) Tryd.isAgg49 Tryd.sizeOf49 rfl (by exact getq default (by first | omega | (simp only [List.length_set, List.length_append, List.length_cons, List.length_nil]; omega))) id) ?_ | refine LM.rd (om_ldW Tryd.isAgg49 Tryd.sizeOf49 rfl rfl) ?_ | refine LM.rd (om_ldA Tryd.isAgg49 Tryd.sizeOf49 rfl (vs := [_, _, _, _, _]) rfl ⟨rfl, rfl, rfl, rfl, rfl, trivial⟩) ?_
        refine LM.strip (t := 45) rfl rfl rfl ?_
        refine LM.val (ov_build (cs := #[_, _, _, _, _]) rfl (by first | rfl | kernel_rfl)) ?_
        refine LM.strip (t := 45) rfl rfl rfl ?_
        refine LM.val (ov_aeql Tryd.underlying49 (by kernel_rfl) (by kernel_rfl) (by decide) rfl rfl (by rfl) ⟨(by first | rfl | trivial), (by first | rfl | trivial), (by first | rfl | trivial), (by first | rfl | trivial), (by first | rfl | trivial), trivial⟩) ?_
        refine LM.val (ov_pickT rfl rfl) ?_
        refine LM.val (ov_move rfl) ?_
        first | refine LM.splitD (t := 52) rfl (fun h4 => ?_) (fun h4 => ?_) | refine LM.splitB (t := 52) rfl (fun h4 => ?_) (fun h4 => ?_)
        ·
          refine LM.strip (t := 52) rfl rfl rfl ?_
          refine LM.val (ov_move rfl) ?_
          refine LM.strip (t := 52) rfl rfl rfl ?_
          refine LM.val (ov_eql rfl rfl) ?_
          refine LM.val (ov_pickT rfl rfl) ?_
          refine LM.val (ov_move rfl) ?_
          first | refine LM.splitD (t := 56) rfl (fun h5 => ?_) (fun h5 => ?_) | refine LM.splitB (t := 56) rfl (fun h5 => ?_) (fun h5 => ?_)
          ·
            refine LM.strip (t := 56) rfl rfl rfl ?_
            refine LM.val (ov_move rfl) ?_
            refine LM.strip (t := 56) rfl rfl rfl ?_
            refine LM.val (ov_seqlL rfl rfl) ?_
            refine LM.val (ov_pickT rfl rfl) ?_
            refine LM.val (ov_move rfl) ?_
            first | refine LM.splitD (t := 60) rfl (fun h6 => ?_) (fun h6 => ?_) | refine LM.splitB (t := 60) rfl (fun h6 => ?_) (fun h6 => ?_)
            ·
              refine LM.strip (t := 60) rfl rfl rfl ?_
              refine LM.val (ov_move rfl) ?_
              refine LM.strip (t := 60) rfl rfl rfl ?_
              refine LM.val (ov_eql rfl rfl) ?_
              refine LM.val (ov_pickT rfl rfl) ?_
              refine LM.val (ov_move rfl) ?_
              first | refine LM.splitD (t := 64) rfl (fun h7 => ?_) (fun h7 => ?_) | refine LM.splitB (t := 64) rfl (fun h7 => ?_) (fun h7 => ?_)
              ·
                refine LM.strip (t := 64) rfl rfl rfl ?_
                refine LM.val (ov_move rfl) ?_
                refine LM.strip (t := 64) rfl rfl rfl ?_
                refine LM.val (ov_eql rfl rfl) ?_
                refine LM.val (ov_pickT rfl rfl) ?_
                refine LM.val (ov_move rfl) ?_
                first | refine LM.splitD (t := 68) rfl (fun h8 => ?_) (fun h8 => ?_) | refine LM.splitB (t := 68) rfl (fun h8 => ?_) (fun h8 => ?_)
                ·
                  refine LM.strip (t := 68) rfl rfl rfl ?_
                  refine LM.callE (oc_call (enters_fn Tryd.func22 (by kernel_rfl) rfl) rfl) (fun w hm hc hg => aname_spec 4 w) ?_
                  refine LM.strip (t := 68) rfl rfl rfl ?_
                  refine LM.val (ov_seqlL rfl rfl) ?_
                  refine LM.val (ov_pickT rfl rfl) ?_
                  refine LM.val (ov_assign rfl) ?_
                  refine LM.nil ?_
                  refine QM.sub (e' := [(0, _)]) ⟨rfl, trivial⟩ ?_
                  refine QM.then ?_
                  refine wpM.ret ?_
                  refine QM.leave (.inl rfl) [.tmp 0] Tryd.results11 rfl ?_
                  intro w' hm' hc' hg'
                  -- leaf 1: h1+ h2+ h3+ h4+ h5+ h6+ h7+ h8+
                  first | exact ⟨rfl, hc'⟩ | (exfalso; first | omega | (simp at *; done) | (simp_all; done))
                ·
                  refine LM.drop (t := 68) rfl rfl rfl ?_
                  refine LM.drop (t := 68) rfl rfl rfl ?_
                  refine LM.val (ov_pickF rfl rfl) ?_
                  refine LM.val (ov_assign rfl) ?_
                  refine LM.nil ?_
                  refine QM.sub (e' := [(0, _)]) ⟨rfl, trivial⟩ ?_
                  refine QM.then ?_
                  refine wpM.ret ?_
                  refine QM.leave (.inl rfl) [.tmp 0] Tryd.results11 rfl ?_
                  intro w' hm' hc' hg'
                  -- leaf 2: h1+ h2+ h3+ h4+ h5+ h6+ h7+ h8-
                  first | exact ⟨rfl, hc'⟩ | (exfalso; first | omega | (simp at *; done) | (simp_all; done))
              ·
                refine LM.drop (t := 64) rfl rfl rfl ?_
                refine LM.drop (t := 64) rfl rfl rfl ?_
                refine LM.val (ov_pickF rfl rfl) ?_
                refine LM.val (ov_move rfl) ?_
                refine LM.drop (t := 68) rfl rfl rfl ?_
                refine LM.drop (t := 68) rfl rfl rfl ?_
                refine LM.val (ov_pickF rfl rfl) ?_
                refine LM.val (ov_assign rfl) ?_
                refine LM.nil ?_
                refine QM.sub (e' := [(0, _)]) ⟨rfl, trivial⟩ ?_
                refine QM.then ?_
                refine wpM.ret ?_
                refine QM.leave (.inl rfl) [.tmp 0] Tryd.results11 rfl ?_
                intro w' hm' hc' hg'
                -- leaf 3: h1+ h2+ h3+ h4+ h5+ h6+ h7-
                first | exact ⟨rfl, hc'⟩ | (exfalso; first | omega | (simp at *; done) | (simp_all; done))
            ·
              refine LM.drop (t := 60) rfl rfl rfl ?_
              refine LM.drop (t := 60) rfl rfl rfl ?_
              refine LM.val (ov_pickF rfl rfl) ?_
              refine LM.val (ov_move rfl) ?_
              refine LM.drop (t := 64) rfl rfl rfl ?_
              refine LM.drop (t := 64) rfl rfl rfl ?_
              refine LM.val (ov_pickF rfl rfl) ?_
              refine LM.val (ov_move rfl) ?_
              refine LM.drop (t := 68) rfl rfl rfl ?_
              refine LM.drop (t := 68) rfl rfl rfl ?_
              refine LM.val (ov_pickF rfl rfl) ?_
              refine LM.val (ov_assign rfl) ?_
              refine LM.nil ?_
              refine QM.sub (e' := [(0, _)]) ⟨rfl, trivial⟩ ?_
              refine QM.then ?_
              refine wpM.ret ?_
              refine QM.leave (.inl rfl) [.tmp 0] Tryd.results11 rfl ?_
              intro w' hm' hc' hg'
              -- leaf 4: h1+ h2+ h3+ h4+ h5+ h6-
              exact absurd h6 (by decide +kernel)
          ·
            refine LM.drop (t := 56) rfl rfl rfl ?_
            refine LM.drop (t := 56) rfl rfl rfl ?_
            refine LM.val (ov_pickF rfl rfl) ?_
            refine LM.val (ov_move rfl) ?_
            refine LM.drop (t := 60) rfl rfl rfl ?_
            refine LM.drop (t := 60) rfl rfl rfl ?_
            refine LM.val (ov_pickF rfl rfl) ?_
            refine LM.val (ov_move rfl) ?_
            refine LM.drop (t := 64) rfl rfl rfl ?_
            refine LM.drop (t := 64) rfl rfl rfl ?_
            refine LM.val (ov_pickF rfl rfl) ?_
            refine LM.val (ov_move rfl) ?_
            refine LM.drop (t := 68) rfl rfl rfl ?_
            refine LM.drop (t := 68) rfl rfl rfl ?_
            refine LM.val (ov_pickF rfl rfl) ?_
            refine LM.val (ov_assign rfl) ?_
            refine LM.nil ?_
            refine QM.sub (e' := [(0, _)]) ⟨rfl, trivial⟩ ?_
            refine QM.then ?_
            refine wpM.ret ?_
            refine QM.leave (.inl rfl) [.tmp 0] Tryd.results11 rfl ?_
            intro w' hm' hc' hg'
            -- leaf 5: h1+ h2+ h3+ h4+ h5-
            first | exact ⟨rfl, hc'⟩ | (exfalso; first | omega | (simp at *; done) | (simp_all; done))
        ·
          refine LM.drop (t := 52) rfl rfl rfl ?_
          refine LM.drop (t := 52) rfl rfl rfl ?_
          refine LM.val (ov_pickF rfl rfl) ?_
          refine LM.val (ov_move rfl) ?_
          refine LM.drop (t := 56) rfl rfl rfl ?_
          refine LM.drop (t := 56) rfl rfl rfl ?_
          refine LM.val (ov_pickF rfl rfl) ?_
          refine LM.val (ov_move rfl) ?_
          refine LM.drop (t := 60) rfl rfl rfl ?_
          refine LM.drop (t := 60) rfl rfl rfl ?_
          refine LM.val (ov_pickF rfl rfl) ?_
          refine LM.val (ov_move rfl) ?_
          refine LM.drop (t := 64) rfl rfl rfl ?_
          refine LM.drop (t := 64) rfl rfl rfl ?_
          refine LM.val (ov_pickF rfl rfl) ?_
          refine LM.val (ov_move rfl) ?_
          refine LM.drop (t := 68) rfl rfl rfl ?_
          refine LM.drop (t := 68) rfl rfl rfl ?_
          refine LM.val (ov_pickF rfl rfl) ?_
          refine LM.val (ov_assign rfl) ?_
          refine LM.nil ?_
          refine QM.sub (e' := [(0, _)]) ⟨rfl, trivial⟩ ?_
          refine QM.then ?_
          refine wpM.ret ?_
          refine QM.leave (.inl rfl) [.tmp 0] Tryd.results11 rfl ?_
          intro w' hm' hc' hg'
          -- leaf 6: h1+ h2+ h3+ h4-
          exact absurd (show true = false from h4) (by decide)
      ·
        refine LM.drop (t := 45) rfl rfl rfl ?_
        refine LM.drop (t := 45) rfl rfl rfl ?_
        refine LM.drop (t := 45) rfl rfl rfl ?_
        refine LM.drop (t := 45) rfl rfl rfl ?_
        refine LM.drop (t := 45) rfl rfl rfl ?_
        refine LM.val (ov_pickF rfl rfl) ?_
        refine LM.val (ov_move rfl) ?_
        refine LM.drop (t := 52) rfl rfl rfl ?_
        refine LM.drop (t := 52) rfl rfl rfl ?_
        refine LM.val (ov_pickF rfl rfl) ?_
        refine LM.val (ov_move rfl) ?_
        refine LM.drop (t := 56) rfl rfl rfl ?_
        refine LM.drop (t := 56) rfl rfl rfl ?_
        refine LM.val (ov_pickF rfl rfl) ?_
        refine LM.val (ov_move rfl) ?_
        refine LM.drop (t := 60) rfl rfl rfl ?_
        refine LM.drop (t := 60) rfl rfl rfl ?_
        refine LM.val (ov_pickF rfl rfl) ?_
        refine LM.val (ov_move rfl) ?_
        refine LM.drop (t := 64) rfl rfl rfl ?_
        refine LM.drop (t := 64) rfl rfl rfl ?_
        refine LM.val (ov_pickF rfl rfl) ?_
        refine LM.val (ov_move rfl) ?_
        refine LM.drop (t := 68) rfl rfl rfl ?_
        refine LM.drop (t := 68) rfl rfl rfl ?_
        refine LM.val (ov_pickF rfl rfl) ?_
        refine LM.val (ov_assign rfl) ?_
        refine LM.nil ?_
        refine QM.sub (e' := [(0, _)]) ⟨rfl, trivial⟩ ?_
        refine QM.then ?_
        refine wpM.ret ?_
        refine QM.leave (.inl rfl) [.tmp 0] Tryd.results11 rfl ?_
        intro w' hm' hc' hg'
        -- leaf 7: h1+ h2+ h3-
        first | exact ⟨rfl, hc'⟩ | (exfalso; first | omega | (simp at *; done) | (simp_all; done))
    ·
      refine LM.drop (t := 40) rfl rfl rfl ?_
      refine LM.drop (t := 40) rfl rfl rfl ?_
      refine LM.drop (t := 40) rfl rfl rfl ?_
      refine LM.val (ov_pickF rfl rfl) ?_
      refine LM.val (ov_move rfl) ?_
      refine LM.drop (t := 45) rfl rfl rfl ?_
      refine LM.drop (t := 45) rfl rfl rfl ?_
      refine LM.drop (t := 45) rfl rfl rfl ?_
      refine LM.drop (t := 45) rfl rfl rfl ?_
      refine LM.drop (t := 45) rfl rfl rfl ?_
      refine LM.val (ov_pickF rfl rfl) ?_
      refine LM.val (ov_move rfl) ?_
      refine LM.drop (t := 52) rfl rfl rfl ?_
      refine LM.drop (t := 52) rfl rfl rfl ?_
      refine LM.val (ov_pickF rfl rfl) ?_
      refine LM.val (ov_move rfl) ?_
      refine LM.drop (t := 56) rfl rfl rfl ?_
      refine LM.drop (t := 56) rfl rfl rfl ?_
      refine LM.val (ov_pickF rfl rfl) ?_
      refine LM.val (ov_move rfl) ?_
      refine LM.drop (t := 60) rfl rfl rfl ?_
      refine LM.drop (t := 60) rfl rfl rfl ?_
      refine LM.val (ov_pickF rfl rfl) ?_
      refine LM.val (ov_move rfl) ?_
      refine LM.drop (t := 64) rfl rfl rfl ?_
      refine LM.drop (t := 64) rfl rfl rfl ?_
      refine LM.val (ov_pickF rfl rfl) ?_
      refine LM.val (ov_move rfl) ?_
      refine LM.drop (t := 68) rfl rfl rfl ?_
      refine LM.drop (t := 68) rfl rfl rfl ?_
      refine LM.val (ov_pickF rfl rfl) ?_
      refine LM.val (ov_assign rfl) ?_
      refine LM.nil ?_
      refine QM.sub (e' := [(0, _)]) ⟨rfl, trivial⟩ ?_
      refine QM.then ?_
      refine wpM.ret ?_
      refine QM.leave (.inl rfl) [.tmp 0] Tryd.results11 rfl ?_
      intro w' hm' hc' hg'
      -- leaf 8: h1+ h2-
      first | exact ⟨rfl, hc'⟩ | (exfalso; first | omega | (simp at *; done) | (simp_all; done))
  ·
    refine LM.drop (t := 36) rfl rfl rfl ?_
    refine LM.drop (t := 36) rfl rfl rfl ?_
    refine LM.val (ov_pickF rfl rfl) ?_
    refine LM.val (ov_move rfl) ?_
    refine LM.drop (t := 40) rfl rfl rfl ?_
    refine LM.drop (t := 40) rfl rfl rfl ?_
    refine LM.drop (t := 40) rfl rfl rfl ?_
    refine LM.val (ov_pickF rfl rfl) ?_
    refine LM.val (ov_move rfl) ?_
    refine LM.drop (t := 45) rfl rfl rfl ?_
    refine LM.drop (t := 45) rfl rfl rfl ?_
    refine LM.drop (t := 45) rfl rfl rfl ?_
    refine LM.drop (t := 45) rfl rfl rfl ?_
    refine LM.drop (t := 45) rfl rfl rfl ?_
    refine LM.val (ov_pickF rfl rfl) ?_
    refine LM.val (ov_move rfl) ?_
    refine LM.drop (t := 52) rfl rfl rfl ?_
    refine LM.drop (t := 52) rfl rfl rfl ?_
    refine LM.val (ov_pickF rfl rfl) ?_
    refine LM.val (ov_move rfl) ?_
    refine LM.drop (t := 56) rfl rfl rfl ?_
    refine LM.drop (t := 56) rfl rfl rfl ?_
    refine LM.val (ov_pickF rfl rfl) ?_
    refine LM.val (ov_move rfl) ?_
    refine LM.drop (t := 60) rfl rfl rfl ?_
    refine LM.drop (t := 60) rfl rfl rfl ?_
    refine LM.val (ov_pickF rfl rfl) ?_
    refine LM.val (ov_move rfl) ?_
    refine LM.drop (t := 64) rfl rfl rfl ?_
    refine LM.drop (t := 64) rfl rfl rfl ?_
    refine LM.val (ov_pickF rfl rfl) ?_
    refine LM.val (ov_move rfl) ?_
    refine LM.drop (t := 68) rfl rfl rfl ?_
    refine LM.drop (t := 68) rfl rfl rfl ?_
    refine LM.val (ov_pickF rfl rfl) ?_
    refine LM.val (ov_assign rfl) ?_
    refine LM.nil ?_
    refine QM.sub (e' := [(0, _)]) ⟨rfl, trivial⟩ ?_
    refine QM.then ?_
    refine wpM.ret ?_
    refine QM.leave (.inl rfl) [.tmp 0] Tryd.results11 rfl ?_
    intro w' hm' hc' hg'
    -- leaf 9: h1-
    first | exact ⟨rfl, hc'⟩ | (exfalso; first | omega | (simp at *; done) | (simp_all; done))

end Go.Eng

