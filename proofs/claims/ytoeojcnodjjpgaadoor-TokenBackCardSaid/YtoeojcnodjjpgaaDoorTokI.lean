/- TokenBack, walked. No condition. -/
import Derived.Test.YtoeojcnodjjpgaaDoorTokH
set_option linter.unusedVariables false
set_option linter.unusedSimpArgs false
namespace Go.Eng
open Go Go.Proofs Go.RowKit

def aw1L : List UInt8 := [99, 111, 114, 101, 115, 32, 50, 59, 32, 35, 32, 120]
def aw2L : List UInt8 := [97, 32, 48, 49]
def aw1W : List Wrd := [⟨1, [99, 111, 114, 101, 115], 0, 0⟩, ⟨2, [], 2, 6⟩, ⟨3, [59], 0, 7⟩]
theorem aw1_scan : scanO aw1L = (aw1W, 0, 0) := by decide +kernel
theorem aw2_scan : scanO aw2L = ([], 2, 5) := by decide +kernel
theorem aw1_join : joinO aw1W = (aw1L.take 8, 0) := by decide +kernel
theorem take_all {xs : List Wrd} {i : Nat} {p : Wrd → Prop} (hi : i < xs.length) (h : ∀ x ∈ xs.take i, p x) (h1 : p (xs.getD i default)) : ∀ x ∈ xs.take (i + 1), p x := by
  rw [take_snoc default hi]
  intro x hx
  rcases List.mem_append.1 hx with hx | hx
  · exact h x hx
  · rw [List.mem_singleton] at hx; subst hx; exact h1
set_option maxRecDepth 100000 in
theorem awake09_spec (w : World) (hT : Tb w) : Ret Tryd.prog 38 #[] w (fun v w' => v = .bool true ∧ Ext w w') := by
 refine Ret.enterM (l := []) Tryd.func38 rfl Tryd.ntmps38 rfl ([]) (no) (Mem.nil w) ?_
 refine wpM.seq ?_
 refine wpM.region ?_
 refine LM.val (ov_assign rfl) ?_
 refine LM.nil ?_
 refine QM.sub (e' := []) trivial ?_
 refine QM.then ?_
 refine wpM.seq ?_
 refine wpM.region ?_
 refine LM.callT (oc_call (enters_fn Tryd.func43 (by kernel_rfl) rfl) rfl) ScT.mono (fun w hm hc hg => tscan_spec (s := aw1L) w) ?_
 rw [aw1_scan]; rintro u10 m10 ⟨ad10, n10, cap10, rfl, hn10, hs10⟩ -; have hs10b : Sl fW 72 4 w.heap.size aw1W (.slice ad10 n10 cap10) m10 := hs10; have hl10 : aw1W.length = 3 := rfl; have hn10' : n10 = 3 := hn10
 refine LM.val (ov_move rfl) ?_
 refine LM.val (ov_extract rfl rfl) ?_
 refine LM.val (ov_extract rfl rfl) ?_
 refine LM.val (ov_extract rfl rfl) ?_
 refine LM.val (ov_assign rfl) ?_
 refine LM.val (ov_assign rfl) ?_
 refine LM.val (ov_assign rfl) ?_
 refine LM.nil ?_
 refine QM.sub (e' := [(1, _), (3, _)]) ⟨rfl, rfl, trivial⟩ ?_
 refine QM.then ?_
 refine wpM.seq ?_
 refine wpM.region ?_
 refine LM.val (ov_move rfl) ?_
 refine LM.callE (oc_call (enters_fn Tryd.func39 (by kernel_rfl) rfl) rfl) (fun w hm hc hg => (aw1_join ▸ join_spec (ws := aw1W) w hn10 (by decide) (hs10.srM (by intro _; rfl) hm) (by decide) (hT.ext hc))) ?_
 refine LM.val (ov_move rfl) ?_
 refine LM.val (ov_extract rfl rfl) ?_
 refine LM.val (ov_extract rfl rfl) ?_
 refine LM.val (ov_assign rfl) ?_
 refine LM.val (ov_assign rfl) ?_
 refine LM.nil ?_
 refine QM.sub (e' := [(1, _), (3, _), (4, _), (5, _)]) ⟨rfl, rfl, rfl, rfl, trivial⟩ ?_
 refine QM.then ?_
 refine wpM.seq ?_
 refine wpM.region ?_
 refine LM.callT (oc_call (enters_fn Tryd.func43 (by kernel_rfl) rfl) rfl) ScT.mono (fun w hm hc hg => tscan_spec (s := aw2L) w) ?_
 rw [aw2_scan]; rintro u20 m20 ⟨ad20, n20, cap20, rfl, hn20, -⟩ -
 refine LM.val (ov_move rfl) ?_
 refine LM.val (ov_extract rfl rfl) ?_
 refine LM.val (ov_extract rfl rfl) ?_
 refine LM.val (ov_extract rfl rfl) ?_
 refine LM.val (ov_assign rfl) ?_
 refine LM.val (ov_assign rfl) ?_
 refine LM.val (ov_assign rfl) ?_
 refine LM.nil ?_
 refine QM.sub (e' := [(1, _), (3, _), (4, _), (5, _), (7, _), (8, _)]) ⟨rfl, rfl, rfl, rfl, rfl, rfl, trivial⟩ ?_
 refine QM.then ?_
 refine wpM.seq ?_
 refine wpM.region ?_
 refine LM.val (ov_move rfl) ?_
 refine LM.val (ov_eql rfl rfl) ?_
 refine LM.val (ov_move rfl) ?_
 first | refine LM.splitD (t := 26) rfl (fun h1 => ?_) (fun h1 => ?_) | refine LM.splitB (t := 26) rfl (fun h1 => ?_) (fun h1 => ?_)
 ·
  refine LM.strip (t := 26) rfl rfl rfl ?_
  refine LM.val (ov_move rfl) ?_
  refine LM.strip (t := 26) rfl rfl rfl ?_
  refine LM.val (ov_len Tryd.underlying24 rfl) ?_
  refine LM.strip (t := 26) rfl rfl rfl ?_
  refine LM.val (ov_eql rfl rfl) ?_
  refine LM.val (ov_pickT rfl rfl) ?_
  refine LM.val (ov_move rfl) ?_
  first | refine LM.splitD (t := 31) rfl (fun h2 => ?_) (fun h2 => ?_) | refine LM.splitB (t := 31) rfl (fun h2 => ?_) (fun h2 => ?_)
  ·
   refine LM.strip (t := 31) rfl rfl rfl ?_
   refine LM.val (ov_move rfl) ?_
   refine LM.strip (t := 31) rfl rfl rfl ?_
   first | refine LM.val (ov_idxSN (i := 1) (by first | exact Sr.spt (by assumption) | exact Sl.spt (by assumption)) Tryd.underlying24 Tryd.sizeOf72 rfl rfl (by omega)) ?_ | refine LM.val (ov_idxSN (by first | exact Sr.spt (by assumption) | exact Sl.spt (by assumption)) Tryd.underlying24 Tryd.sizeOf72 rfl rfl (by omega)) ?_ | refine LM.val (ov_idxS (by first | exact Sr.spt (by assumption) | exact Sl.spt (by assumption)) Tryd.underlying24 Tryd.sizeOf72 rfl rfl (by omega)) ?_ | refine LM.val (ov_idx Tryd.underlying24 Tryd.sizeOf72 rfl rfl (by omega)) ?_
   refine LM.strip (t := 31) rfl rfl rfl ?_
   refine LM.val (ov_field Tryd.underlying72 rfl Tryd.sizeOf3 rfl (k := 2) rfl rfl) ?_
   refine LM.strip (t := 31) rfl rfl rfl ?_
   refine LM.rd (om_slE (i := 1) (j := 2) hs10b (by intro _; rfl) Tryd.isAgg3 rfl rfl (show aw1W[1]? = some ⟨2, [], 2, 6⟩ from rfl) rfl (by rfl)) ?_
   refine LM.strip (t := 31) rfl rfl rfl ?_
   refine LM.val (ov_eql rfl rfl) ?_
   refine LM.val (ov_pickT rfl rfl) ?_
   refine LM.val (ov_move rfl) ?_
   first | refine LM.splitD (t := 38) rfl (fun h3 => ?_) (fun h3 => ?_) | refine LM.splitB (t := 38) rfl (fun h3 => ?_) (fun h3 => ?_)
   ·
    refine LM.strip (t := 38) rfl rfl rfl ?_
    refine LM.val (ov_move rfl) ?_
    refine LM.strip (t := 38) rfl rfl rfl ?_
    refine LM.val (ov_eql rfl rfl) ?_
    refine LM.val (ov_pickT rfl rfl) ?_
    refine LM.val (ov_move rfl) ?_
    first | refine LM.splitD (t := 42) rfl (fun h4 => ?_) (fun h4 => ?_) | refine LM.splitB (t := 42) rfl (fun h4 => ?_) (fun h4 => ?_)
    ·
     refine LM.strip (t := 42) rfl rfl rfl ?_
     refine LM.val (ov_move rfl) ?_
     refine LM.strip (t := 42) rfl rfl rfl ?_
     refine LM.val (ov_seqlL rfl rfl) ?_
     refine LM.val (ov_pickT rfl rfl) ?_
     refine LM.val (ov_move rfl) ?_
     first | refine LM.splitD (t := 46) rfl (fun h5 => ?_) (fun h5 => ?_) | refine LM.splitB (t := 46) rfl (fun h5 => ?_) (fun h5 => ?_)
     ·
      refine LM.strip (t := 46) rfl rfl rfl ?_
      refine LM.val (ov_move rfl) ?_
      refine LM.strip (t := 46) rfl rfl rfl ?_
      refine LM.val (ov_eql rfl rfl) ?_
      refine LM.val (ov_pickT rfl rfl) ?_
      refine LM.val (ov_move rfl) ?_
      first | refine LM.splitD (t := 50) rfl (fun h6 => ?_) (fun h6 => ?_) | refine LM.splitB (t := 50) rfl (fun h6 => ?_) (fun h6 => ?_)
      ·
       refine LM.strip (t := 50) rfl rfl rfl ?_
       refine LM.val (ov_move rfl) ?_
       refine LM.strip (t := 50) rfl rfl rfl ?_
       refine LM.val (ov_eql rfl rfl) ?_
       refine LM.val (ov_pickT rfl rfl) ?_
       refine LM.val (ov_assign rfl) ?_
       refine LM.nil ?_
       refine QM.sub (e' := [(0, _)]) ⟨rfl, trivial⟩ ?_
       refine QM.then ?_
       refine wpM.ret ?_
       refine QM.leave (.inl rfl) [.tmp 0] Tryd.results38 rfl ?_
       intro w' hm' hc' hg'
       first | exact ⟨rfl, hc'⟩ | (exfalso; first | omega | (simp at *; done) | (simp_all; done))
      ·
       refine LM.drop (t := 50) rfl rfl rfl ?_
       refine LM.drop (t := 50) rfl rfl rfl ?_
       refine LM.val (ov_pickF rfl rfl) ?_
       refine LM.val (ov_assign rfl) ?_
       refine LM.nil ?_
       refine QM.sub (e' := [(0, _)]) ⟨rfl, trivial⟩ ?_
       refine QM.then ?_
       refine wpM.ret ?_
       refine QM.leave (.inl rfl) [.tmp 0] Tryd.results38 rfl ?_
       intro w' hm' hc' hg'
       first | exact ⟨rfl, hc'⟩ | (exfalso; first | omega | (simp at *; done) | (simp_all; done))
     ·
      refine LM.drop (t := 46) rfl rfl rfl ?_
      refine LM.drop (t := 46) rfl rfl rfl ?_
      refine LM.val (ov_pickF rfl rfl) ?_
      refine LM.val (ov_move rfl) ?_
      refine LM.drop (t := 50) rfl rfl rfl ?_
      refine LM.drop (t := 50) rfl rfl rfl ?_
      refine LM.val (ov_pickF rfl rfl) ?_
      refine LM.val (ov_assign rfl) ?_
      refine LM.nil ?_
      refine QM.sub (e' := [(0, _)]) ⟨rfl, trivial⟩ ?_
      refine QM.then ?_
      refine wpM.ret ?_
      refine QM.leave (.inl rfl) [.tmp 0] Tryd.results38 rfl ?_
      intro w' hm' hc' hg'
      exact absurd h5 (by decide +kernel)
    ·
     refine LM.drop (t := 42) rfl rfl rfl ?_
     refine LM.drop (t := 42) rfl rfl rfl ?_
     refine LM.val (ov_pickF rfl rfl) ?_
     refine LM.val (ov_move rfl) ?_
     refine LM.drop (t := 46) rfl rfl rfl ?_
     refine LM.drop (t := 46) rfl rfl rfl ?_
     refine LM.val (ov_pickF rfl rfl) ?_
     refine LM.val (ov_move rfl) ?_
     refine LM.drop (t := 50) rfl rfl rfl ?_
     refine LM.drop (t := 50) rfl rfl rfl ?_
     refine LM.val (ov_pickF rfl rfl) ?_
     refine LM.val (ov_assign rfl) ?_
     refine LM.nil ?_
     refine QM.sub (e' := [(0, _)]) ⟨rfl, trivial⟩ ?_
     refine QM.then ?_
     refine wpM.ret ?_
     refine QM.leave (.inl rfl) [.tmp 0] Tryd.results38 rfl ?_
     intro w' hm' hc' hg'
     first | exact ⟨rfl, hc'⟩ | (exfalso; first | omega | (simp at *; done) | (simp_all; done))
   ·
    refine LM.drop (t := 38) rfl rfl rfl ?_
    refine LM.drop (t := 38) rfl rfl rfl ?_
    refine LM.val (ov_pickF rfl rfl) ?_
    refine LM.val (ov_move rfl) ?_
    refine LM.drop (t := 42) rfl rfl rfl ?_
    refine LM.drop (t := 42) rfl rfl rfl ?_
    refine LM.val (ov_pickF rfl rfl) ?_
    refine LM.val (ov_move rfl) ?_
    refine LM.drop (t := 46) rfl rfl rfl ?_
    refine LM.drop (t := 46) rfl rfl rfl ?_
    refine LM.val (ov_pickF rfl rfl) ?_
    refine LM.val (ov_move rfl) ?_
    refine LM.drop (t := 50) rfl rfl rfl ?_
    refine LM.drop (t := 50) rfl rfl rfl ?_
    refine LM.val (ov_pickF rfl rfl) ?_
    refine LM.val (ov_assign rfl) ?_
    refine LM.nil ?_
    refine QM.sub (e' := [(0, _)]) ⟨rfl, trivial⟩ ?_
    refine QM.then ?_
    refine wpM.ret ?_
    refine QM.leave (.inl rfl) [.tmp 0] Tryd.results38 rfl ?_
    intro w' hm' hc' hg'
    first | exact ⟨rfl, hc'⟩ | (exfalso; first | omega | (simp at *; done) | (simp_all; done))
  ·
   refine LM.drop (t := 31) rfl rfl rfl ?_
   refine LM.drop (t := 31) rfl rfl rfl ?_
   refine LM.drop (t := 31) rfl rfl rfl ?_
   refine LM.drop (t := 31) rfl rfl rfl ?_
   refine LM.drop (t := 31) rfl rfl rfl ?_
   refine LM.val (ov_pickF rfl rfl) ?_
   refine LM.val (ov_move rfl) ?_
   refine LM.drop (t := 38) rfl rfl rfl ?_
   refine LM.drop (t := 38) rfl rfl rfl ?_
   refine LM.val (ov_pickF rfl rfl) ?_
   refine LM.val (ov_move rfl) ?_
   refine LM.drop (t := 42) rfl rfl rfl ?_
   refine LM.drop (t := 42) rfl rfl rfl ?_
   refine LM.val (ov_pickF rfl rfl) ?_
   refine LM.val (ov_move rfl) ?_
   refine LM.drop (t := 46) rfl rfl rfl ?_
   refine LM.drop (t := 46) rfl rfl rfl ?_
   refine LM.val (ov_pickF rfl rfl) ?_
   refine LM.val (ov_move rfl) ?_
   refine LM.drop (t := 50) rfl rfl rfl ?_
   refine LM.drop (t := 50) rfl rfl rfl ?_
   refine LM.val (ov_pickF rfl rfl) ?_
   refine LM.val (ov_assign rfl) ?_
   refine LM.nil ?_
   refine QM.sub (e' := [(0, _)]) ⟨rfl, trivial⟩ ?_
   refine QM.then ?_
   refine wpM.ret ?_
   refine QM.leave (.inl rfl) [.tmp 0] Tryd.results38 rfl ?_
   intro w' hm' hc' hg'
   first | exact ⟨rfl, hc'⟩ | (exfalso; first | omega | (simp at *; done) | (simp_all; done))
 ·
  refine LM.drop (t := 26) rfl rfl rfl ?_
  refine LM.drop (t := 26) rfl rfl rfl ?_
  refine LM.drop (t := 26) rfl rfl rfl ?_
  refine LM.val (ov_pickF rfl rfl) ?_
  refine LM.val (ov_move rfl) ?_
  refine LM.drop (t := 31) rfl rfl rfl ?_
  refine LM.drop (t := 31) rfl rfl rfl ?_
  refine LM.drop (t := 31) rfl rfl rfl ?_
  refine LM.drop (t := 31) rfl rfl rfl ?_
  refine LM.drop (t := 31) rfl rfl rfl ?_
  refine LM.val (ov_pickF rfl rfl) ?_
  refine LM.val (ov_move rfl) ?_
  refine LM.drop (t := 38) rfl rfl rfl ?_
  refine LM.drop (t := 38) rfl rfl rfl ?_
  refine LM.val (ov_pickF rfl rfl) ?_
  refine LM.val (ov_move rfl) ?_
  refine LM.drop (t := 42) rfl rfl rfl ?_
  refine LM.drop (t := 42) rfl rfl rfl ?_
  refine LM.val (ov_pickF rfl rfl) ?_
  refine LM.val (ov_move rfl) ?_
  refine LM.drop (t := 46) rfl rfl rfl ?_
  refine LM.drop (t := 46) rfl rfl rfl ?_
  refine LM.val (ov_pickF rfl rfl) ?_
  refine LM.val (ov_move rfl) ?_
  refine LM.drop (t := 50) rfl rfl rfl ?_
  refine LM.drop (t := 50) rfl rfl rfl ?_
  refine LM.val (ov_pickF rfl rfl) ?_
  refine LM.val (ov_assign rfl) ?_
  refine LM.nil ?_
  refine QM.sub (e' := [(0, _)]) ⟨rfl, trivial⟩ ?_
  refine QM.then ?_
  refine wpM.ret ?_
  refine QM.leave (.inl rfl) [.tmp 0] Tryd.results38 rfl ?_
  intro w' hm' hc' hg'
  first | exact ⟨rfl, hc'⟩ | (exfalso; first | omega | (simp at *; done) | (simp_all; done))

set_option maxRecDepth 100000 in
set_option maxHeartbeats 1000000 in
theorem tokenBack {ws : List Wrd} {ad : Option Addr} {n cap : Nat} (w : World) (hT : Tb w) (hn : n = ws.length) (hl : Sr fW 4 ws (.slice ad n cap) w) : Ret Tryd.prog 8 #[.slice ad n cap] w (fun v w' => v = .bool true ∧ Ext w w') := by
 refine Ret.enterM (l := [.slice ad n cap]) Tryd.func8 rfl Tryd.ntmps8 rfl ([]) (no) (Mem.nil w) ?_
 refine wpM.seq ?_
 refine wpM.region ?_
 refine LM.val (ov_assign rfl) ?_
 refine LM.nil ?_
 refine QM.sub (e' := [(0, _)]) ⟨rfl, trivial⟩ ?_
 refine QM.then ?_
 refine wpM.seq ?_
 refine wpM.seq ?_
 refine wpM.region ?_
 refine LM.callE (oc_call (enters_fn Tryd.func38 (by kernel_rfl) rfl) rfl) (fun w hm hc hg => awake09_spec w (hT.ext hc)) ?_
 first | refine LM.val (ov_notD rfl) ?_ | refine LM.val (ov_not rfl) ?_
 refine LM.nil ?_
 refine QM.sub (e' := [(0, _), (19, _)]) ⟨rfl, rfl, trivial⟩ ?_
 refine QM.then ?_
 first | refine wpM.condD rfl (fun h1 => ?_) (fun h1 => ?_) | refine wpM.condB rfl (fun h1 => ?_) (fun h1 => ?_)
 ·
  refine wpM.seq ?_
  refine wpM.region ?_
  refine LM.val (ov_assign rfl) ?_
  refine LM.nil ?_
  refine QM.sub (e' := [(2, _)]) ⟨rfl, trivial⟩ ?_
  refine QM.then ?_
  refine wpM.ret ?_
  refine QM.then_ret ?_
  refine QM.leave (.inl rfl) [.tmp 2] Tryd.results8 rfl ?_
  intro w' hm' hc' hg'
  first | exact ⟨rfl, hc'⟩ | (exfalso; first | omega | (simp at *; done) | (simp_all; done))
 ·
  refine wpM.skip ?_
  refine QM.then ?_
  refine wpM.seq ?_
  refine wpM.seq ?_
  refine wpM.region ?_
  refine LM.val (ov_move rfl) ?_
  refine LM.val (ov_len Tryd.underlying24 rfl) ?_
  refine LM.val (ov_gtr rfl rfl) ?_
  refine LM.nil ?_
  refine QM.sub (e' := [(0, _), (22, _)]) ⟨rfl, rfl, trivial⟩ ?_
  refine QM.then ?_
  first | refine wpM.condD rfl (fun h2 => ?_) (fun h2 => ?_) | refine wpM.condB rfl (fun h2 => ?_) (fun h2 => ?_)
  ·
   refine wpM.seq ?_
   refine wpM.region ?_
   refine LM.val (ov_assign rfl) ?_
   refine LM.nil ?_
   refine QM.sub (e' := [(2, _)]) ⟨rfl, trivial⟩ ?_
   refine QM.then ?_
   refine wpM.ret ?_
   refine QM.then_ret ?_
   refine QM.leave (.inl rfl) [.tmp 2] Tryd.results8 rfl ?_
   intro w' hm' hc' hg'
   first | exact ⟨rfl, hc'⟩ | (exfalso; first | omega | (simp at *; done) | (simp_all; done))
  ·
   refine wpM.skip ?_
   refine QM.then ?_
   refine wpM.seq ?_
   refine wpM.seq ?_
   refine wpM.region ?_
   refine LM.val (ov_move rfl) ?_
   refine LM.val (ov_len Tryd.underlying24 rfl) ?_
   refine LM.val (ov_move rfl) ?_
   refine LM.nil ?_
   refine QM.sub (e' := [(0, _), (23, _), (24, _), (25, _)]) ⟨rfl, rfl, rfl, rfl, trivial⟩ ?_
   refine QM.then ?_
   refine wpM.block ?_
   refine wpM.loopK0 (α := Nat) (fun i => [(25, .int .i64 (i : Nat))]) [(0, _), (23, _), (24, _)] (fun i => []) (fun i => i ≤ ws.length ∧ ∀ x ∈ ws.take i, x.t.length ≤ 40) (fun i => ws.length - i) (0) ⟨(by first | rfl | exact lk rfl (by congr 1; omega) | exact lk rfl (by simp)), rfl, rfl, rfl, trivial⟩ (by (repeat' (first | exact SubM.nil _ | refine SubM.cons rfl ?_ | refine SubM.app ?_))) ⟨Nat.zero_le _, fun x hx => by cases hx⟩ ?_
   rintro i ⟨hi, ht0⟩
   change wpM _ _ _ _ _ _ _ ([]) _ _ _
   refine wpM.seq ?_
   refine wpM.region ?_
   refine LM.val (ov_lss rfl rfl) ?_
   refine LM.nil ?_
   refine QM.sub (e' := [(0, _), (23, _), (24, _), (25, _), (26, _)]) ⟨rfl, rfl, rfl, rfl, rfl, trivial⟩ ?_
   refine QM.then ?_
   refine wpM.seq ?_
   first | refine wpM.condD rfl (fun h3 => ?_) (fun h3 => ?_) | refine wpM.condB rfl (fun h3 => ?_) (fun h3 => ?_)
   ·
    refine wpM.skip ?_
    refine QM.then ?_
    refine wpM.seq ?_
    refine wpM.block ?_
    refine wpM.seq ?_
    refine wpM.region ?_
    first | refine LM.val (ov_idxSN (by first | exact Sr.spt (by assumption) | exact Sl.spt (by assumption)) Tryd.underlying24 Tryd.sizeOf72 rfl rfl (by omega)) ?_ | refine LM.val (ov_idxS (by first | exact Sr.spt (by assumption) | exact Sl.spt (by assumption)) Tryd.underlying24 Tryd.sizeOf72 rfl rfl (by omega)) ?_ | refine LM.val (ov_idx Tryd.underlying24 Tryd.sizeOf72 rfl rfl (by omega)) ?_
    first | refine LM.rd (om_slA (by assumption) (by intro _; rfl) Tryd.isAgg72 Tryd.sizeOf72 rfl (by exact getq default (by first | omega | (simp only [List.length_set, List.length_append, List.length_cons, List.length_nil]; omega)))) ?_ | refine LM.rdC (om_srEA (by assumption) (by intro _; rfl) Tryd.isAgg72 Tryd.sizeOf72 rfl (by exact getq default (by first | omega | (simp only [List.length_set, List.length_append, List.length_cons, List.length_nil]; omega))) id) ?_ | refine LM.rd (om_ldW Tryd.isAgg72 Tryd.sizeOf72 rfl rfl) ?_ | refine LM.rd (om_ldA Tryd.isAgg72 Tryd.sizeOf72 rfl (vs := [_, _, _, _]) rfl ⟨rfl, rfl, rfl, rfl, trivial⟩) ?_
    refine LM.alloc Tryd.zeroValue72 rfl (fun b4 hb4 => ?_)
    first | refine LM.stW Tryd.sizeOf72 rfl rfl rfl rfl (by first | rfl | decide | (simp; done)) (fun hlt => absurd hlt (by omega)) ?_ | refine LM.st Tryd.sizeOf72 rfl rfl rfl (by first | decide | exact Nat.le_of_ble_eq_true rfl | (simp; done) | (simp; omega)) rfl (fun hlt => absurd hlt (by omega)) ?_
    refine LM.nil ?_
    refine QM.sub (e' := [(0, _), (4, _), (23, _), (24, _), (25, _)]) ⟨rfl, rfl, rfl, rfl, rfl, trivial⟩ ?_
    refine QM.then ?_
    refine wpM.seq ?_
    refine wpM.region ?_
    refine LM.val (ov_field Tryd.underlying72 rfl Tryd.sizeOf9 rfl (k := 1) rfl rfl) ?_
    first | refine LM.rd (om_ld Tryd.isAgg9 rfl rfl) ?_
    refine LM.val (ov_slenL Tryd.underlying9 rfl) ?_
    refine LM.val (ov_gtr rfl rfl) ?_
    refine LM.nil ?_
    refine QM.sub (e' := [(0, _), (23, _), (24, _), (25, _), (32, _)]) ⟨rfl, rfl, rfl, rfl, rfl, trivial⟩ ?_
    refine QM.then ?_
    first | refine wpM.condD rfl (fun h4 => ?_) (fun h4 => ?_) | refine wpM.condB rfl (fun h4 => ?_) (fun h4 => ?_)
    ·
     refine wpM.seq ?_
     refine wpM.region ?_
     refine LM.val (ov_assign rfl) ?_
     refine LM.nil ?_
     refine QM.sub (e' := [(2, _)]) ⟨rfl, trivial⟩ ?_
     refine QM.then ?_
     refine wpM.ret ?_
     refine QM.block_ret ?_
     refine QM.then_ret ?_
     refine QM.then_ret ?_
     refine QM.block_ret ?_
     refine QM.then_ret ?_
     refine QM.leave (.inl rfl) [.tmp 2] Tryd.results8 rfl ?_
     intro w' hm' hc' hg'
     first | exact ⟨rfl, hc'⟩ | (exfalso; first | omega | (simp at *; done) | (simp_all; done))
    ·
     refine wpM.skip ?_
     refine QM.block_normal ?_
     refine QM.then ?_
     refine wpM.region ?_
     refine LM.val (ov_add64 rfl rfl (by omega)) ?_
     refine LM.val (ov_move rfl) ?_
     refine LM.nil ?_
     refine QM.sub (e' := [(0, _), (23, _), (24, _), (25, _)]) ⟨rfl, rfl, rfl, rfl, trivial⟩ ?_
     refine QM.againK (i + 1) ⟨(by first | rfl | exact lk rfl (by congr 1; omega) | exact lk rfl (by simp)), rfl, rfl, rfl, trivial⟩ (by (repeat' (first | exact SubM.nil _ | refine SubM.cons rfl ?_ | refine SubM.app ?_))) (fun _ h => h) ?_ ?_
     · exact ⟨by omega, take_all (by omega) ht0 (by omega)⟩
     · first | omega | (dsimp only; omega)
   ·
    have ht : ∀ x ∈ ws, x.t.length ≤ 40 := (by have hil : i = ws.length := (by omega); rw [hil, List.take_length] at ht0; exact ht0)
    refine wpM.exit ?_
    refine QM.then_exit ?_
    refine QM.then_exit ?_
    refine QM.block_hit ?_
    refine QM.then ?_
    refine wpM.seq ?_
    refine wpM.region ?_
    refine LM.val (ov_move rfl) ?_
    refine LM.callE (oc_call (enters_fn Tryd.func39 (by kernel_rfl) rfl) rfl) (fun w hm hc hg => join_spec w hn (by omega) (hl.ext hc) (fun x hx => by have := ht x hx; omega) (hT.ext hc)) ?_
    refine LM.val (ov_move rfl) ?_
    refine LM.val (ov_extract rfl rfl) ?_
    refine LM.val (ov_extract rfl rfl) ?_
    refine LM.val (ov_assign rfl) ?_
    refine LM.val (ov_assign rfl) ?_
    refine LM.nil ?_
    refine QM.sub (e' := [(0, _), (5, _), (6, _)]) ⟨rfl, rfl, rfl, trivial⟩ ?_
    refine QM.then ?_
    refine wpM.seq ?_
    refine wpM.region ?_
    refine LM.val (ov_move rfl) ?_
    refine LM.callE (oc_call (enters_fn Tryd.func40 (by kernel_rfl) rfl) rfl) (fun w hm hc hg => rjoin_spec w hn (by omega) (hl.ext hc) (fun x hx => by have := ht x hx; omega)) ?_
    refine LM.val (ov_move rfl) ?_
    refine LM.val (ov_extract rfl rfl) ?_
    refine LM.val (ov_extract rfl rfl) ?_
    refine LM.val (ov_assign rfl) ?_
    refine LM.val (ov_assign rfl) ?_
    refine LM.nil ?_
    refine QM.sub (e' := [(0, _), (5, _), (6, _), (7, _), (8, _)]) ⟨rfl, rfl, rfl, rfl, rfl, trivial⟩ ?_
    refine QM.then ?_
    refine wpM.seq ?_
    refine wpM.seq ?_
    refine wpM.region ?_
    refine LM.val (ov_move rfl) ?_
    refine LM.val (ov_move rfl) ?_
    refine LM.val (ov_sneqL rfl rfl) ?_
    refine LM.val (ov_move rfl) ?_
    first | refine LM.splitD (t := 47) rfl (fun h5 => ?_) (fun h5 => ?_) | refine LM.splitB (t := 47) rfl (fun h5 => ?_) (fun h5 => ?_)
    ·
     exfalso; simp at h5
    ·
     refine LM.strip (t := 47) rfl rfl rfl ?_
     refine LM.val (ov_move rfl) ?_
     refine LM.strip (t := 47) rfl rfl rfl ?_
     refine LM.val (ov_move rfl) ?_
     refine LM.strip (t := 47) rfl rfl rfl ?_
     refine LM.val (ov_neq rfl rfl) ?_
     refine LM.val (ov_pickF rfl rfl) ?_
     refine LM.nil ?_
     refine QM.sub (e' := [(0, _), (5, _), (8, _), (51, _)]) ⟨rfl, rfl, rfl, rfl, trivial⟩ ?_
     refine QM.then ?_
     first | refine wpM.condD rfl (fun h6 => ?_) (fun h6 => ?_) | refine wpM.condB rfl (fun h6 => ?_) (fun h6 => ?_)
     ·
      exfalso; simp at h6
     ·
      refine wpM.skip ?_
      refine QM.then ?_
      refine wpM.seq ?_
      refine wpM.seq ?_
      refine wpM.region ?_
      refine LM.val (ov_move rfl) ?_
      refine LM.val (ov_len Tryd.underlying24 rfl) ?_
      refine LM.val (ov_move rfl) ?_
      refine LM.nil ?_
      refine QM.sub (e' := [(0, _), (5, _), (8, _), (52, _), (53, _), (54, _)]) ⟨rfl, rfl, rfl, rfl, rfl, rfl, trivial⟩ ?_
      refine QM.then ?_
      refine wpM.block ?_
      refine wpM.loopK0 (α := Nat) (fun i => [(54, .int .i64 (i : Nat))]) [(0, _), (5, _), (8, _), (52, _), (53, _)] (fun i => []) (fun i => i ≤ ws.length) (fun i => ws.length - i) (0) ⟨(by first | rfl | exact lk rfl (by congr 1; omega) | exact lk rfl (by simp)), rfl, rfl, rfl, rfl, rfl, trivial⟩ (by (repeat' (first | exact SubM.nil _ | refine SubM.cons rfl ?_ | refine SubM.app ?_))) (Nat.zero_le _) ?_
      rintro i hi2
      change wpM _ _ _ _ _ _ _ ([]) _ _ _
      refine wpM.seq ?_
      refine wpM.region ?_
      refine LM.val (ov_lss rfl rfl) ?_
      refine LM.nil ?_
      refine QM.sub (e' := [(0, _), (5, _), (8, _), (52, _), (53, _), (54, _), (55, _)]) ⟨rfl, rfl, rfl, rfl, rfl, rfl, rfl, trivial⟩ ?_
      refine QM.then ?_
      refine wpM.seq ?_
      first | refine wpM.condD rfl (fun h7 => ?_) (fun h7 => ?_) | refine wpM.condB rfl (fun h7 => ?_) (fun h7 => ?_)
      ·
       refine wpM.skip ?_
       refine QM.then ?_
       refine wpM.seq ?_
       refine wpM.block ?_
       refine wpM.seq ?_
       refine wpM.region ?_
       first | refine LM.val (ov_idxSN (by first | exact Sr.spt (by assumption) | exact Sl.spt (by assumption)) Tryd.underlying24 Tryd.sizeOf72 rfl rfl (by omega)) ?_ | refine LM.val (ov_idxS (by first | exact Sr.spt (by assumption) | exact Sl.spt (by assumption)) Tryd.underlying24 Tryd.sizeOf72 rfl rfl (by omega)) ?_ | refine LM.val (ov_idx Tryd.underlying24 Tryd.sizeOf72 rfl rfl (by omega)) ?_
       first | refine LM.rd (om_slA (by assumption) (by intro _; rfl) Tryd.isAgg72 Tryd.sizeOf72 rfl (by exact getq default (by first | omega | (simp only [List.length_set, List.length_append, List.length_cons, List.length_nil]; omega)))) ?_ | refine LM.rdC (om_srEA (by assumption) (by intro _; rfl) Tryd.isAgg72 Tryd.sizeOf72 rfl (by exact getq default (by first | omega | (simp only [List.length_set, List.length_append, List.length_cons, List.length_nil]; omega))) id) ?_ | refine LM.rd (om_ldW Tryd.isAgg72 Tryd.sizeOf72 rfl rfl) ?_ | refine LM.rd (om_ldA Tryd.isAgg72 Tryd.sizeOf72 rfl (vs := [_, _, _, _]) rfl ⟨rfl, rfl, rfl, rfl, trivial⟩) ?_
       refine LM.alloc Tryd.zeroValue72 rfl (fun b10 hb10 => ?_)
       first | refine LM.stW Tryd.sizeOf72 rfl rfl rfl rfl (by first | rfl | decide | (simp; done)) (fun hlt => absurd hlt (by omega)) ?_ | refine LM.st Tryd.sizeOf72 rfl rfl rfl (by first | decide | exact Nat.le_of_ble_eq_true rfl | (simp; done) | (simp; omega)) rfl (fun hlt => absurd hlt (by omega)) ?_
       refine LM.nil ?_
       refine QM.sub (e' := [(0, _), (5, _), (8, _), (10, _), (52, _), (53, _), (54, _)]) ⟨rfl, rfl, rfl, rfl, rfl, rfl, rfl, trivial⟩ ?_
       refine QM.then ?_
       refine wpM.seq ?_
       refine wpM.region ?_
       first | refine LM.rd (om_ldW Tryd.isAgg72 Tryd.sizeOf72 rfl rfl) ?_ | refine LM.rd (om_ldA Tryd.isAgg72 Tryd.sizeOf72 rfl (vs := [_, _, _, _]) rfl ⟨rfl, rfl, rfl, rfl, trivial⟩) ?_
       refine LM.callE (oc_call (enters_fn Tryd.func41 (by kernel_rfl) rfl) rfl) (fun w hm hc hg => text_spec _ w (by have := ht _ (List.mem_of_getElem? (getq default (show i < ws.length by omega))); omega) (hT.ext hc)) ?_
       refine LM.val (ov_move rfl) ?_
       refine LM.val (ov_extract rfl rfl) ?_
       refine LM.val (ov_extract rfl rfl) ?_
       refine LM.val (ov_assign rfl) ?_
       refine LM.val (ov_assign rfl) ?_
       refine LM.nil ?_
       refine QM.sub (e' := [(0, _), (5, _), (8, _), (10, _), (11, _), (12, _), (52, _), (53, _), (54, _)]) ⟨rfl, rfl, rfl, rfl, rfl, rfl, rfl, rfl, rfl, trivial⟩ ?_
       refine QM.then ?_
       refine wpM.seq ?_
       refine wpM.region ?_
       first | refine LM.rd (om_ldW Tryd.isAgg72 Tryd.sizeOf72 rfl rfl) ?_ | refine LM.rd (om_ldA Tryd.isAgg72 Tryd.sizeOf72 rfl (vs := [_, _, _, _]) rfl ⟨rfl, rfl, rfl, rfl, trivial⟩) ?_
       refine LM.callE (oc_call (enters_fn Tryd.func42 (by kernel_rfl) rfl) rfl) (fun w hm hc hg => rtext_spec _ w (by have := ht _ (List.mem_of_getElem? (getq default (show i < ws.length by omega))); omega)) ?_
       refine LM.val (ov_move rfl) ?_
       refine LM.val (ov_extract rfl rfl) ?_
       refine LM.val (ov_extract rfl rfl) ?_
       refine LM.val (ov_assign rfl) ?_
       refine LM.val (ov_assign rfl) ?_
       refine LM.nil ?_
       refine QM.sub (e' := [(0, _), (5, _), (8, _), (11, _), (12, _), (13, _), (14, _), (52, _), (53, _), (54, _)]) ⟨rfl, rfl, rfl, rfl, rfl, rfl, rfl, rfl, rfl, rfl, trivial⟩ ?_
       refine QM.then ?_
       refine wpM.seq ?_
       refine wpM.region ?_
       refine LM.val (ov_move rfl) ?_
       refine LM.val (ov_move rfl) ?_
       refine LM.val (ov_sneqL rfl rfl) ?_
       refine LM.val (ov_move rfl) ?_
       first | refine LM.splitD (t := 71) rfl (fun h8 => ?_) (fun h8 => ?_) | refine LM.splitB (t := 71) rfl (fun h8 => ?_) (fun h8 => ?_)
       ·
        exfalso; simp at h8
       ·
        refine LM.strip (t := 71) rfl rfl rfl ?_
        refine LM.val (ov_move rfl) ?_
        refine LM.strip (t := 71) rfl rfl rfl ?_
        refine LM.val (ov_move rfl) ?_
        refine LM.strip (t := 71) rfl rfl rfl ?_
        refine LM.val (ov_neq rfl rfl) ?_
        refine LM.val (ov_pickF rfl rfl) ?_
        refine LM.nil ?_
        refine QM.sub (e' := [(0, _), (5, _), (8, _), (52, _), (53, _), (54, _), (75, _)]) ⟨rfl, rfl, rfl, rfl, rfl, rfl, rfl, trivial⟩ ?_
        refine QM.then ?_
        first | refine wpM.condD rfl (fun h9 => ?_) (fun h9 => ?_) | refine wpM.condB rfl (fun h9 => ?_) (fun h9 => ?_)
        ·
         exfalso; simp at h9
        ·
         refine wpM.skip ?_
         refine QM.block_normal ?_
         refine QM.then ?_
         refine wpM.region ?_
         refine LM.val (ov_add64 rfl rfl (by omega)) ?_
         refine LM.val (ov_move rfl) ?_
         refine LM.nil ?_
         refine QM.sub (e' := [(0, _), (5, _), (8, _), (52, _), (53, _), (54, _)]) ⟨rfl, rfl, rfl, rfl, rfl, rfl, trivial⟩ ?_
         refine QM.againK (i + 1) ⟨(by first | rfl | exact lk rfl (by congr 1; omega) | exact lk rfl (by simp)), rfl, rfl, rfl, rfl, rfl, trivial⟩ (by (repeat' (first | exact SubM.nil _ | refine SubM.cons rfl ?_ | refine SubM.app ?_))) (fun _ h => h) ?_ ?_
         · omega
         · first | omega | (dsimp only; omega)
      ·
       refine wpM.exit ?_
       refine QM.then_exit ?_
       refine QM.then_exit ?_
       refine QM.block_hit ?_
       refine QM.then ?_
       refine wpM.seq ?_
       refine wpM.seq ?_
       refine wpM.region ?_
       refine LM.val (ov_move rfl) ?_
       refine LM.val (ov_neq rfl rfl) ?_
       refine LM.nil ?_
       refine QM.sub (e' := [(0, _), (5, _), (78, _)]) ⟨rfl, rfl, rfl, trivial⟩ ?_
       refine QM.then ?_
       first | refine wpM.condD rfl (fun h10 => ?_) (fun h10 => ?_) | refine wpM.condB rfl (fun h10 => ?_) (fun h10 => ?_)
       ·
        refine wpM.seq ?_
        refine wpM.region ?_
        refine LM.val (ov_assign rfl) ?_
        refine LM.nil ?_
        refine QM.sub (e' := [(2, _)]) ⟨rfl, trivial⟩ ?_
        refine QM.then ?_
        refine wpM.ret ?_
        refine QM.then_ret ?_
        refine QM.leave (.inl rfl) [.tmp 2] Tryd.results8 rfl ?_
        intro w' hm' hc' hg'
        first | exact ⟨rfl, hc'⟩ | (exfalso; first | omega | (simp at *; done) | (simp_all; done))
       ·
        obtain ⟨l', hsc, hsm⟩ := join_scan (l := ws) (Classical.not_not.1 h10)
        refine wpM.skip ?_
        refine QM.then ?_
        refine wpM.seq ?_
        refine wpM.region ?_
        refine LM.val (ov_move rfl) ?_
        refine LM.callT (oc_call (enters_fn Tryd.func43 (by kernel_rfl) rfl) rfl) ScT.mono (fun w hm hc hg => tscan_spec w) ?_
        rw [hsc]; rintro u82 m82 ⟨ad82, n82, cap82, rfl, hn82, hs82⟩ -
        refine LM.val (ov_move rfl) ?_
        refine LM.val (ov_extract rfl rfl) ?_
        refine LM.val (ov_extract rfl rfl) ?_
        refine LM.val (ov_extract rfl rfl) ?_
        refine LM.val (ov_assign rfl) ?_
        refine LM.val (ov_assign rfl) ?_
        refine LM.val (ov_assign rfl) ?_
        refine LM.nil ?_
        refine QM.sub (e' := [(0, _), (15, _), (16, _), (17, _)]) ⟨rfl, rfl, rfl, rfl, trivial⟩ ?_
        refine QM.then ?_
        refine wpM.seq ?_
        refine wpM.region ?_
        refine LM.val (ov_move rfl) ?_
        refine LM.val (ov_eql rfl rfl) ?_
        refine LM.val (ov_move rfl) ?_
        first | refine LM.splitD (t := 87) rfl (fun h11 => ?_) (fun h11 => ?_) | refine LM.splitB (t := 87) rfl (fun h11 => ?_) (fun h11 => ?_)
        ·
         refine LM.strip (t := 87) rfl rfl rfl ?_
         refine LM.val (ov_move rfl) ?_
         refine LM.strip (t := 87) rfl rfl rfl ?_
         refine LM.val (ov_eql rfl rfl) ?_
         refine LM.val (ov_pickT rfl rfl) ?_
         refine LM.val (ov_move rfl) ?_
         first | refine LM.splitD (t := 91) rfl (fun h12 => ?_) (fun h12 => ?_) | refine LM.splitB (t := 91) rfl (fun h12 => ?_) (fun h12 => ?_)
         ·
          refine LM.strip (t := 91) rfl rfl rfl ?_
          refine LM.val (ov_move rfl) ?_
          refine LM.strip (t := 91) rfl rfl rfl ?_
          refine LM.val (ov_move rfl) ?_
          refine LM.strip (t := 91) rfl rfl rfl ?_
          refine LM.callE (oc_call (enters_fn Tryd.func16 (by kernel_rfl) rfl) rfl) (fun w hm hc hg => wsame_spec false w hn82 (hs82.srM (by intro _; rfl) hm) hn (hl.ext hc) (show l'.length ≤ 1000000000 by have := sameW_len hsm; omega)) ?_
          refine LM.val (ov_pickT rfl rfl) ?_
          refine LM.val (ov_assign rfl) ?_
          refine LM.nil ?_
          refine QM.sub (e' := [(2, _)]) ⟨rfl, trivial⟩ ?_
          refine QM.then ?_
          refine wpM.ret ?_
          refine QM.leave (.inl rfl) [.tmp 2] Tryd.results8 rfl ?_
          intro w' hm' hc' hg'
          refine ⟨?_, hc'⟩; show Value.bool (sameW false l' ws) = _; rw [hsm]
         ·
          exfalso; simp at h12
        ·
         exfalso; simp at h11

end Go.Eng

