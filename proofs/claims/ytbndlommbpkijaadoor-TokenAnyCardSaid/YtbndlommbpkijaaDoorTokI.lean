/- TokenBack, walked. No condition. -/
import Derived.Test.YtbndlommbpkijaaDoorTokH
set_option linter.unusedVariables false
set_option linter.unusedSimpArgs false
namespace Go.Eng
open Go Go.Proofs Go.RowKit

def aw1L : List UInt8 := [99, 111, 114, 101, 115, 32, 50, 59, 32, 35, 32, 120]
def aw2L : List UInt8 := [97, 32, 48, 49]
def aw1W : List Wrd := [⟨1, [99, 111, 114, 101, 115], 0, 0⟩, ⟨2, [], 2, 6⟩, ⟨3, [59], 0, 7⟩]
theorem aw1_scan : scanO aw1L = (aw1W, 0, 0) := by decide +kernel
theorem aw2_scan : scanO aw2L = ([], 2, 5) := by decide +kernel
theorem aw1_join : joinO aw1W = (aw1L.take 8, 0) := by decide +kernel
set_option maxRecDepth 100000 in
theorem awake09_spec (w : World) (hT : Tb w) : Ret Tryd.prog 10 #[] w (fun v w' => v = .bool true ∧ Ext w w') := by
 refine Ret.enterM (l := []) Tryd.func10 rfl Tryd.ntmps10 rfl ([]) (no) (Mem.nil w) ?_
 refine wpM.seq ?_
 refine wpM.region ?_
 refine LM.val (ov_assign rfl) ?_
 refine LM.nil ?_
 refine QM.sub (e' := []) trivial ?_
 refine QM.then ?_
 refine wpM.seq ?_
 refine wpM.region ?_
 refine LM.callT (oc_call (enters_fn Tryd.func11 (by kernel_rfl) rfl) rfl) ScT.mono (fun w hm hc hg => tscan_spec (s := aw1L) w) ?_
 rw [aw1_scan]; rintro u10 m10 ⟨ad10, n10, cap10, rfl, hn10, hs10⟩ -; have hs10b : Sl fW 80 4 w.heap.size aw1W (.slice ad10 n10 cap10) m10 := hs10; have hl10 : aw1W.length = 3 := rfl; have hn10' : n10 = 3 := hn10
 refine LM.val (ov_move rfl) ?_
 refine LM.val (ov_extract rfl rfl) ?_
 refine LM.val (ov_extract rfl rfl) ?_
 refine LM.val (ov_extract rfl rfl) ?_
 refine LM.val (ov_assign rfl) ?_
 refine LM.val (ov_assign rfl) ?_
 refine LM.val (ov_assign rfl) ?_
 refine LM.nil ?_
 refine QM.sub (e' := [(1, _), (3, _)]) ⟨rfl, rfl, trivial⟩ ?_
 refine QM.then ?_
 refine wpM.seq ?_
 refine wpM.region ?_
 refine LM.val (ov_move rfl) ?_
 refine LM.callE (oc_call (enters_fn Tryd.func42 (by kernel_rfl) rfl) rfl) (fun w hm hc hg => (aw1_join ▸ join_spec (ws := aw1W) w hn10 (by decide) (hs10.srM (by intro _; rfl) hm) (by decide) (hT.ext hc))) ?_
 refine LM.val (ov_move rfl) ?_
 refine LM.val (ov_extract rfl rfl) ?_
 refine LM.val (ov_extract rfl rfl) ?_
 refine LM.val (ov_assign rfl) ?_
 refine LM.val (ov_assign rfl) ?_
 refine LM.nil ?_
 refine QM.sub (e' := [(1, _), (3, _), (4, _), (5, _)]) ⟨rfl, rfl, rfl, rfl, trivial⟩ ?_
 refine QM.then ?_
 refine wpM.seq ?_
 refine wpM.region ?_
 refine LM.callT (oc_call (enters_fn Tryd.func11 (by kernel_rfl) rfl) rfl) ScT.mono (fun w hm hc hg => tscan_spec (s := aw2L) w) ?_
 rw [aw2_scan]; rintro u20 m20 ⟨ad20, n20, cap20, rfl, hn20, -⟩ -
 refine LM.val (ov_move rfl) ?_
 refine LM.val (ov_extract rfl rfl) ?_
 refine LM.val (ov_extract rfl rfl) ?_
 refine LM.val (ov_extract rfl rfl) ?_
 refine LM.val (ov_assign rfl) ?_
 refine LM.val (ov_assign rfl) ?_
 refine LM.val (ov_assign rfl) ?_
 refine LM.nil ?_
 refine QM.sub (e' := [(1, _), (3, _), (4, _), (5, _), (7, _), (8, _)]) ⟨rfl, rfl, rfl, rfl, rfl, rfl, trivial⟩ ?_
 refine QM.then ?_
 refine wpM.seq ?_
 refine wpM.region ?_
 refine LM.val (ov_move rfl) ?_
 refine LM.val (ov_eql rfl rfl) ?_
 refine LM.val (ov_move rfl) ?_
 first | refine LM.splitD (t := 26) rfl (fun h1 => ?_) (fun h1 => ?_) | refine LM.splitB (t := 26) rfl (fun h1 => ?_) (fun h1 => ?_)
 ·
  refine LM.strip (t := 26) rfl rfl rfl ?_
  refine LM.val (ov_move rfl) ?_
  refine LM.strip (t := 26) rfl rfl rfl ?_
  refine LM.val (ov_len Tryd.underlying24 rfl) ?_
  refine LM.strip (t := 26) rfl rfl rfl ?_
  refine LM.val (ov_eql rfl rfl) ?_
  refine LM.val (ov_pickT rfl rfl) ?_
  refine LM.val (ov_move rfl) ?_
  first | refine LM.splitD (t := 31) rfl (fun h2 => ?_) (fun h2 => ?_) | refine LM.splitB (t := 31) rfl (fun h2 => ?_) (fun h2 => ?_)
  ·
   refine LM.strip (t := 31) rfl rfl rfl ?_
   refine LM.val (ov_move rfl) ?_
   refine LM.strip (t := 31) rfl rfl rfl ?_
   first | refine LM.val (ov_idxSN (i := 1) (by first | exact Sr.spt (by assumption) | exact Sl.spt (by assumption)) Tryd.underlying24 Tryd.sizeOf80 rfl rfl (by omega)) ?_ | refine LM.val (ov_idxSN (by first | exact Sr.spt (by assumption) | exact Sl.spt (by assumption)) Tryd.underlying24 Tryd.sizeOf80 rfl rfl (by omega)) ?_ | refine LM.val (ov_idxS (by first | exact Sr.spt (by assumption) | exact Sl.spt (by assumption)) Tryd.underlying24 Tryd.sizeOf80 rfl rfl (by omega)) ?_ | refine LM.val (ov_idx Tryd.underlying24 Tryd.sizeOf80 rfl rfl (by omega)) ?_
   refine LM.strip (t := 31) rfl rfl rfl ?_
   refine LM.val (ov_field Tryd.underlying80 rfl Tryd.sizeOf3 rfl (k := 2) rfl rfl) ?_
   refine LM.strip (t := 31) rfl rfl rfl ?_
   refine LM.rd (om_slE (i := 1) (j := 2) hs10b (by intro _; rfl) Tryd.isAgg3 rfl rfl (show aw1W[1]? = some ⟨2, [], 2, 6⟩ from rfl) rfl (by rfl)) ?_
   refine LM.strip (t := 31) rfl rfl rfl ?_
   refine LM.val (ov_eql rfl rfl) ?_
   refine LM.val (ov_pickT rfl rfl) ?_
   refine LM.val (ov_move rfl) ?_
   first | refine LM.splitD (t := 38) rfl (fun h3 => ?_) (fun h3 => ?_) | refine LM.splitB (t := 38) rfl (fun h3 => ?_) (fun h3 => ?_)
   ·
    refine LM.strip (t := 38) rfl rfl rfl ?_
    refine LM.val (ov_move rfl) ?_
    refine LM.strip (t := 38) rfl rfl rfl ?_
    refine LM.val (ov_eql rfl rfl) ?_
    refine LM.val (ov_pickT rfl rfl) ?_
    refine LM.val (ov_move rfl) ?_
    first | refine LM.splitD (t := 42) rfl (fun h4 => ?_) (fun h4 => ?_) | refine LM.splitB (t := 42) rfl (fun h4 => ?_) (fun h4 => ?_)
    ·
     refine LM.strip (t := 42) rfl rfl rfl ?_
     refine LM.val (ov_move rfl) ?_
     refine LM.strip (t := 42) rfl rfl rfl ?_
     refine LM.val (ov_seqlL rfl rfl) ?_
     refine LM.val (ov_pickT rfl rfl) ?_
     refine LM.val (ov_move rfl) ?_
     first | refine LM.splitD (t := 46) rfl (fun h5 => ?_) (fun h5 => ?_) | refine LM.splitB (t := 46) rfl (fun h5 => ?_) (fun h5 => ?_)
     ·
      refine LM.strip (t := 46) rfl rfl rfl ?_
      refine LM.val (ov_move rfl) ?_
      refine LM.strip (t := 46) rfl rfl rfl ?_
      refine LM.val (ov_eql rfl rfl) ?_
      refine LM.val (ov_pickT rfl rfl) ?_
      refine LM.val (ov_move rfl) ?_
      first | refine LM.splitD (t := 50) rfl (fun h6 => ?_) (fun h6 => ?_) | refine LM.splitB (t := 50) rfl (fun h6 => ?_) (fun h6 => ?_)
      ·
       refine LM.strip (t := 50) rfl rfl rfl ?_
       refine LM.val (ov_move rfl) ?_
       refine LM.strip (t := 50) rfl rfl rfl ?_
       refine LM.val (ov_eql rfl rfl) ?_
       refine LM.val (ov_pickT rfl rfl) ?_
       refine LM.val (ov_assign rfl) ?_
       refine LM.nil ?_
       refine QM.sub (e' := [(0, _)]) ⟨rfl, trivial⟩ ?_
       refine QM.then ?_
       refine wpM.ret ?_
       refine QM.leave (.inl rfl) [.tmp 0] Tryd.results10 rfl ?_
       intro w' hm' hc' hg'
       first | exact ⟨rfl, hc'⟩ | (exfalso; first | omega | (simp at *; done) | (simp_all; done))
      ·
       refine LM.drop (t := 50) rfl rfl rfl ?_
       refine LM.drop (t := 50) rfl rfl rfl ?_
       refine LM.val (ov_pickF rfl rfl) ?_
       refine LM.val (ov_assign rfl) ?_
       refine LM.nil ?_
       refine QM.sub (e' := [(0, _)]) ⟨rfl, trivial⟩ ?_
       refine QM.then ?_
       refine wpM.ret ?_
       refine QM.leave (.inl rfl) [.tmp 0] Tryd.results10 rfl ?_
       intro w' hm' hc' hg'
       first | exact ⟨rfl, hc'⟩ | (exfalso; first | omega | (simp at *; done) | (simp_all; done))
     ·
      refine LM.drop (t := 46) rfl rfl rfl ?_
      refine LM.drop (t := 46) rfl rfl rfl ?_
      refine LM.val (ov_pickF rfl rfl) ?_
      refine LM.val (ov_move rfl) ?_
      refine LM.drop (t := 50) rfl rfl rfl ?_
      refine LM.drop (t := 50) rfl rfl rfl ?_
      refine LM.val (ov_pickF rfl rfl) ?_
      refine LM.val (ov_assign rfl) ?_
      refine LM.nil ?_
      refine QM.sub (e' := [(0, _)]) ⟨rfl, trivial⟩ ?_
      refine QM.then ?_
      refine wpM.ret ?_
      refine QM.leave (.inl rfl) [.tmp 0] Tryd.results10 rfl ?_
      intro w' hm' hc' hg'
      exact absurd h5 (by decide +kernel)
    ·
     refine LM.drop (t := 42) rfl rfl rfl ?_
     refine LM.drop (t := 42) rfl rfl rfl ?_
     refine LM.val (ov_pickF rfl rfl) ?_
     refine LM.val (ov_move rfl) ?_
     refine LM.drop (t := 46) rfl rfl rfl ?_
     refine LM.drop (t := 46) rfl rfl rfl ?_
     refine LM.val (ov_pickF rfl rfl) ?_
     refine LM.val (ov_move rfl) ?_
     refine LM.drop (t := 50) rfl rfl rfl ?_
     refine LM.drop (t := 50) rfl rfl rfl ?_
     refine LM.val (ov_pickF rfl rfl) ?_
     refine LM.val (ov_assign rfl) ?_
     refine LM.nil ?_
     refine QM.sub (e' := [(0, _)]) ⟨rfl, trivial⟩ ?_
     refine QM.then ?_
     refine wpM.ret ?_
     refine QM.leave (.inl rfl) [.tmp 0] Tryd.results10 rfl ?_
     intro w' hm' hc' hg'
     first | exact ⟨rfl, hc'⟩ | (exfalso; first | omega | (simp at *; done) | (simp_all; done))
   ·
    refine LM.drop (t := 38) rfl rfl rfl ?_
    refine LM.drop (t := 38) rfl rfl rfl ?_
    refine LM.val (ov_pickF rfl rfl) ?_
    refine LM.val (ov_move rfl) ?_
    refine LM.drop (t := 42) rfl rfl rfl ?_
    refine LM.drop (t := 42) rfl rfl rfl ?_
    refine LM.val (ov_pickF rfl rfl) ?_
    refine LM.val (ov_move rfl) ?_
    refine LM.drop (t := 46) rfl rfl rfl ?_
    refine LM.drop (t := 46) rfl rfl rfl ?_
    refine LM.val (ov_pickF rfl rfl) ?_
    refine LM.val (ov_move rfl) ?_
    refine LM.drop (t := 50) rfl rfl rfl ?_
    refine LM.drop (t := 50) rfl rfl rfl ?_
    refine LM.val (ov_pickF rfl rfl) ?_
    refine LM.val (ov_assign rfl) ?_
    refine LM.nil ?_
    refine QM.sub (e' := [(0, _)]) ⟨rfl, trivial⟩ ?_
    refine QM.then ?_
    refine wpM.ret ?_
    refine QM.leave (.inl rfl) [.tmp 0] Tryd.results10 rfl ?_
    intro w' hm' hc' hg'
    first | exact ⟨rfl, hc'⟩ | (exfalso; first | omega | (simp at *; done) | (simp_all; done))
  ·
   refine LM.drop (t := 31) rfl rfl rfl ?_
   refine LM.drop (t := 31) rfl rfl rfl ?_
   refine LM.drop (t := 31) rfl rfl rfl ?_
   refine LM.drop (t := 31) rfl rfl rfl ?_
   refine LM.drop (t := 31) rfl rfl rfl ?_
   refine LM.val (ov_pickF rfl rfl) ?_
   refine LM.val (ov_move rfl) ?_
   refine LM.drop (t := 38) rfl rfl rfl ?_
   refine LM.drop (t := 38) rfl rfl rfl ?_
   refine LM.val (ov_pickF rfl rfl) ?_
   refine LM.val (ov_move rfl) ?_
   refine LM.drop (t := 42) rfl rfl rfl ?_
   refine LM.drop (t := 42) rfl rfl rfl ?_
   refine LM.val (ov_pickF rfl rfl) ?_
   refine LM.val (ov_move rfl) ?_
   refine LM.drop (t := 46) rfl rfl rfl ?_
   refine LM.drop (t := 46) rfl rfl rfl ?_
   refine LM.val (ov_pickF rfl rfl) ?_
   refine LM.val (ov_move rfl) ?_
   refine LM.drop (t := 50) rfl rfl rfl ?_
   refine LM.drop (t := 50) rfl rfl rfl ?_
   refine LM.val (ov_pickF rfl rfl) ?_
   refine LM.val (ov_assign rfl) ?_
   refine LM.nil ?_
   refine QM.sub (e' := [(0, _)]) ⟨rfl, trivial⟩ ?_
   refine QM.then ?_
   refine wpM.ret ?_
   refine QM.leave (.inl rfl) [.tmp 0] Tryd.results10 rfl ?_
   intro w' hm' hc' hg'
   first | exact ⟨rfl, hc'⟩ | (exfalso; first | omega | (simp at *; done) | (simp_all; done))
 ·
  refine LM.drop (t := 26) rfl rfl rfl ?_
  refine LM.drop (t := 26) rfl rfl rfl ?_
  refine LM.drop (t := 26) rfl rfl rfl ?_
  refine LM.val (ov_pickF rfl rfl) ?_
  refine LM.val (ov_move rfl) ?_
  refine LM.drop (t := 31) rfl rfl rfl ?_
  refine LM.drop (t := 31) rfl rfl rfl ?_
  refine LM.drop (t := 31) rfl rfl rfl ?_
  refine LM.drop (t := 31) rfl rfl rfl ?_
  refine LM.drop (t := 31) rfl rfl rfl ?_
  refine LM.val (ov_pickF rfl rfl) ?_
  refine LM.val (ov_move rfl) ?_
  refine LM.drop (t := 38) rfl rfl rfl ?_
  refine LM.drop (t := 38) rfl rfl rfl ?_
  refine LM.val (ov_pickF rfl rfl) ?_
  refine LM.val (ov_move rfl) ?_
  refine LM.drop (t := 42) rfl rfl rfl ?_
  refine LM.drop (t := 42) rfl rfl rfl ?_
  refine LM.val (ov_pickF rfl rfl) ?_
  refine LM.val (ov_move rfl) ?_
  refine LM.drop (t := 46) rfl rfl rfl ?_
  refine LM.drop (t := 46) rfl rfl rfl ?_
  refine LM.val (ov_pickF rfl rfl) ?_
  refine LM.val (ov_move rfl) ?_
  refine LM.drop (t := 50) rfl rfl rfl ?_
  refine LM.drop (t := 50) rfl rfl rfl ?_
  refine LM.val (ov_pickF rfl rfl) ?_
  refine LM.val (ov_assign rfl) ?_
  refine LM.nil ?_
  refine QM.sub (e' := [(0, _)]) ⟨rfl, trivial⟩ ?_
  refine QM.then ?_
  refine wpM.ret ?_
  refine QM.leave (.inl rfl) [.tmp 0] Tryd.results10 rfl ?_
  intro w' hm' hc' hg'
  first | exact ⟨rfl, hc'⟩ | (exfalso; first | omega | (simp at *; done) | (simp_all; done))

end Go.Eng

