/- The laws of setups, walked. No condition. -/
import Derived.Test.YtbndlommbpkijaaGreatDoorM6
import Derived.Test.YtbndlommbpkijaaGreatDoorM1
set_option linter.unusedVariables false
set_option linter.unusedSimpArgs false
namespace Go.Eng
open Go Go.Proofs Go.RowKit

def aw12L : List UInt8 := [99, 111, 114, 101, 115, 32, 49, 59, 32, 103, 114, 97, 105, 110, 32, 50, 59, 32, 103, 114, 111, 117, 112, 32, 52, 59, 32, 108, 111, 99, 107, 32, 115, 108, 105, 99, 101, 32, 51, 32, 99, 114, 105, 116, 32, 53, 59, 32, 115, 104, 97, 114, 101, 100, 32, 115, 108, 105, 99, 101, 32, 49, 32, 99, 114, 105, 116, 32, 50, 32, 114, 101, 97, 100, 32, 51, 32, 119, 114, 105, 116, 101, 32, 52, 59, 32, 112, 114, 111, 103, 32, 123, 32, 101, 120, 105, 116, 59, 32, 125]
def aw12S : StC := ⟨1, 2, [4], [⟨false, 3, 5, 0, 0⟩, ⟨true, 1, 2, 3, 4⟩], [⟨false, [⟨11, 0, 0⟩]⟩]⟩
theorem aw12_len : (scanO aw12L).1.length = 30 := by decide +kernel
theorem aw12_p0 : setO (scanO aw12L).1 0 = (aw12S, 30, 0) := by decide +kernel
theorem aw12_p1 : setO (scanO aw12L).1 1 = (default, 1, 5) := by decide +kernel
theorem aw12_pr : printS aw12S = (aw12L, 0) := by decide +kernel
theorem aw12_may : mayS aw12S = true := by decide +kernel
theorem bd_of {s : StV} (h : mayS s.C = true) : s.Bd := by
  obtain ⟨_, _, h1, _, h2, _, h3, _⟩ := mayS_inv h
  have hcl : (s.ps.map PgV.c).length = s.ps.length := List.length_map ..
  have h3 : 1 ≤ (s.ps.map PgV.c).length ∧ (s.ps.map PgV.c).length ≤ 8 := h3
  have h1 : 1 ≤ s.gs.length ∧ s.gs.length ≤ 4 := h1
  have h2 : s.ls.length ≤ 8 := h2
  exact ⟨by omega, by omega, by omega, fun p hp => by have := progs12 h p.c (List.mem_map_of_mem hp); omega⟩
/-- the parts of a parsed setup are short -/
theorem bd_par {ws : List Wrd} {p : Int} {s : StV} (h : s.C = (setO ws p).1) : s.Bd := by
  by_cases he : (setO ws p).2.2 = 0
  · exact bd_of (by rw [h]; exact set_may he)
  · have hd : (setO ws p).1 = default := by
      unfold setO stpR at he ⊢
      split
      · rfl
      rename_i q
      rw [if_neg q] at he
      split
      · rfl
      rename_i q2
      rw [if_neg q2] at he
      split
      · rfl
      rename_i q3
      rw [if_neg q3] at he; exact absurd rfl he
    rw [hd] at h
    have h1 : s.gs = [] := congrArg StC.gs h
    have h2 : s.ls = [] := congrArg StC.ls h
    have h3 : s.ps.map PgV.c = [] := congrArg StC.ps h
    have h4 : s.ps = [] := List.map_eq_nil_iff.1 h3
    exact ⟨by rw [h1]; simp, by rw [h2]; simp, by rw [h4]; simp, by rw [h4]; intro p hp; cases hp⟩
set_option maxRecDepth 100000 in
set_option maxHeartbeats 2000000 in
theorem awake12_spec (w : World) (hT : Tb w) : Ret Tryz.prog 9 #[] w (fun v w' => v = .bool true ∧ Ext w w') := by
 refine Ret.enterM (l := []) Tryz.func9 rfl Tryz.ntmps9 rfl ([]) (no) (Mem.nil w) ?_
 refine wpM.seq ?_
 refine wpM.region ?_
 refine LM.val (ov_assign rfl) ?_
 refine LM.nil ?_
 refine QM.sub (e' := []) trivial ?_
 refine QM.then ?_
 refine wpM.seq ?_
 refine wpM.region ?_
 refine LM.callT (oc_call (enters_fn Tryz.func10 (by kernel_rfl) rfl) rfl) ScT.mono (fun w hm hc hg => scan_spec (s := aw12L) w (by decide)) ?_
 rintro u13 m13 ⟨ad13, n13, cap13, rfl, hn13, hs13⟩ -; have hl13 : (scanO aw12L).1.length = 30 := aw12_len
 refine LM.val (ov_move rfl) ?_
 refine LM.val (ov_extract rfl rfl) ?_
 refine LM.val (ov_extract rfl rfl) ?_
 refine LM.val (ov_extract rfl rfl) ?_
 refine LM.val (ov_assign rfl) ?_
 refine LM.val (ov_assign rfl) ?_
 refine LM.val (ov_assign rfl) ?_
 refine LM.nil ?_
 refine QM.sub (e' := [(1, _)]) ⟨rfl, trivial⟩ ?_
 refine QM.then ?_
 refine wpM.seq ?_
 refine wpM.region ?_
 refine LM.val (ov_move rfl) ?_
 refine LM.callT (oc_call (enters_fn Tryz.func11 (by kernel_rfl) rfl) rfl) StT.mono (fun w hm hc hg => setup_spec 0 w hn13 (by omega) (hs13.srM (by intro _; rfl) hm)) ?_
 rw [aw12_p0]; rintro u19 m19 ⟨sv, rfl, hsv, hin⟩ -; have hls : sv.ls = aw12S.ls := congrArg StC.ls hsv; have hln2 : sv.ls.length = 2 := (by rw [hls]; rfl)
 refine LM.val (ov_move rfl) ?_
 refine LM.val (ov_extract rfl rfl) ?_
 refine LM.val (ov_extract rfl rfl) ?_
 refine LM.val (ov_extract rfl rfl) ?_
 refine LM.alloc Tryz.zeroValue30 rfl (fun b4 hb4 => ?_)
 refine LM.stW Tryz.sizeOf30 rfl rfl rfl rfl (by first | rfl | decide | (simp; done)) (fun hlt => absurd hlt (by omega)) ?_
 refine LM.val (ov_assign rfl) ?_
 refine LM.val (ov_assign rfl) ?_
 refine LM.nil ?_
 refine QM.sub (e' := [(1, _), (4, _), (5, _), (6, _)]) ⟨rfl, rfl, rfl, rfl, trivial⟩ ?_
 refine QM.then ?_
 refine wpM.seq ?_
 refine wpM.region ?_
 refine LM.rd (om_ldW Tryz.isAgg30 Tryz.sizeOf30 rfl rfl) ?_
 refine LM.callE (oc_call (enters_fn Tryz.func16 (by kernel_rfl) rfl) rfl) (fun w hm hc hg => (show printS sv.C = (aw12L, 0) by rw [hsv]; exact aw12_pr) ▸ sprint_spec w (hin w (hm.pick m19)) (hT.ext hc)) ?_
 refine LM.val (ov_move rfl) ?_
 refine LM.val (ov_extract rfl rfl) ?_
 refine LM.val (ov_extract rfl rfl) ?_
 refine LM.val (ov_assign rfl) ?_
 refine LM.val (ov_assign rfl) ?_
 refine LM.nil ?_
 refine QM.sub (e' := [(1, _), (4, _), (5, _), (6, _), (7, _), (8, _)]) ⟨rfl, rfl, rfl, rfl, rfl, rfl, trivial⟩ ?_
 refine QM.then ?_
 refine wpM.seq ?_
 refine wpM.region ?_
 refine LM.val (ov_move rfl) ?_
 refine LM.callT (oc_call (enters_fn Tryz.func11 (by kernel_rfl) rfl) rfl) StT.mono (fun w hm hc hg => setup_spec 1 w hn13 (by omega) (hs13.srM (by intro _; rfl) hm)) ?_
 rw [aw12_p1]; rintro u30 m30 ⟨sv2, rfl, hsv2, hin2⟩ -
 refine LM.val (ov_move rfl) ?_
 refine LM.val (ov_extract rfl rfl) ?_
 refine LM.val (ov_extract rfl rfl) ?_
 refine LM.val (ov_extract rfl rfl) ?_
 refine LM.alloc Tryz.zeroValue30 rfl (fun b9 hb9 => ?_)
 refine LM.stW Tryz.sizeOf30 rfl rfl rfl rfl (by first | rfl | decide | (simp; done)) (fun hlt => absurd hlt (by omega)) ?_
 refine LM.val (ov_assign rfl) ?_
 refine LM.val (ov_assign rfl) ?_
 refine LM.nil ?_
 refine QM.sub (e' := [(1, _), (4, _), (5, _), (6, _), (7, _), (8, _), (10, _), (11, _)]) ⟨rfl, rfl, rfl, rfl, rfl, rfl, rfl, rfl, trivial⟩ ?_
 refine QM.then ?_
 refine wpM.seq ?_
 refine wpM.region ?_
 refine LM.know (fun w hm _ _ => (hin w (hm.pick m19)).hln) (fun hln9 => ?_)
 refine LM.val (ov_move rfl) ?_
 refine LM.val (ov_eql rfl rfl) ?_
 refine LM.val (ov_move rfl) ?_
 refine LM.splitD (t := 36) rfl (fun h1 => ?_) (fun h1 => ?_)
 ·
  refine LM.strip (t := 36) rfl rfl rfl ?_
  refine LM.val (ov_move rfl) ?_
  refine LM.strip (t := 36) rfl rfl rfl ?_
  refine LM.val (ov_move rfl) ?_
  refine LM.strip (t := 36) rfl rfl rfl ?_
  refine LM.val (ov_len Tryz.underlying23 rfl) ?_
  refine LM.strip (t := 36) rfl rfl rfl ?_
  refine LM.val (ov_eql rfl rfl) ?_
  refine LM.val (ov_pickT rfl rfl) ?_
  refine LM.val (ov_move rfl) ?_
  refine LM.splitD (t := 42) rfl (fun h2 => ?_) (fun h2 => ?_)
  ·
   refine LM.strip (t := 42) rfl rfl rfl ?_
   refine LM.val (ov_move rfl) ?_
   refine LM.strip (t := 42) rfl rfl rfl ?_
   refine LM.val (ov_eql rfl rfl) ?_
   refine LM.val (ov_pickT rfl rfl) ?_
   refine LM.val (ov_move rfl) ?_
   refine LM.splitD (t := 46) rfl (fun h3 => ?_) (fun h3 => ?_)
   ·
    refine LM.strip (t := 46) rfl rfl rfl ?_
    refine LM.val (ov_move rfl) ?_
    refine LM.strip (t := 46) rfl rfl rfl ?_
    refine LM.val (ov_seqlL rfl rfl) ?_
    refine LM.val (ov_pickT rfl rfl) ?_
    refine LM.val (ov_move rfl) ?_
    refine LM.splitD (t := 50) rfl (fun h4 => ?_) (fun h4 => ?_)
    ·
     refine LM.strip (t := 50) rfl rfl rfl ?_
     refine LM.val (ov_field Tryz.underlying30 rfl Tryz.sizeOf27 rfl (k := 3) rfl rfl) ?_
     refine LM.strip (t := 50) rfl rfl rfl ?_
     first | refine LM.rd (om_ld Tryz.isAgg27 rfl rfl) ?_
     refine LM.strip (t := 50) rfl rfl rfl ?_
     refine LM.val (ov_len Tryz.underlying27 rfl) ?_
     refine LM.strip (t := 50) rfl rfl rfl ?_
     refine LM.val (ov_eql rfl rfl) ?_
     refine LM.val (ov_pickT rfl rfl) ?_
     refine LM.val (ov_move rfl) ?_
     refine LM.splitD (t := 56) rfl (fun h5 => ?_) (fun h5 => ?_)
     ·
      refine LM.strip (t := 56) rfl rfl rfl ?_
      refine LM.val (ov_field Tryz.underlying30 rfl Tryz.sizeOf27 rfl (k := 3) rfl rfl) ?_
      refine LM.strip (t := 56) rfl rfl rfl ?_
      first | refine LM.rd (om_ld Tryz.isAgg27 rfl rfl) ?_
      refine LM.strip (t := 56) rfl rfl rfl ?_
      refine LM.know (fun w hm _ _ => (hin w (hm.pick m19)).hl.spt) (fun hsp => ?_); refine LM.val (ov_idxSN (i := 1) hsp Tryz.underlying27 Tryz.sizeOf63 rfl rfl (by omega)) ?_
      refine LM.strip (t := 56) rfl rfl rfl ?_
      refine LM.val (ov_field Tryz.underlying63 rfl Tryz.sizeOf3 rfl (k := 4) rfl rfl) ?_
      refine LM.strip (t := 56) rfl rfl rfl ?_
      refine LM.rdC (fun w hm hc hg => ow_srE (j := 4) (i := 1) (hin w (hm.pick m19)).hl Tryz.isAgg3 rfl rfl (getq default (by omega)) rfl rfl) ?_
      refine LM.strip (t := 56) rfl rfl rfl ?_
      refine LM.val (ov_eql rfl rfl) ?_
      refine LM.val (ov_pickT rfl rfl) ?_
      refine LM.val (ov_move rfl) ?_
      refine LM.splitD (t := 64) rfl (fun h6 => ?_) (fun h6 => ?_)
      ·
       refine LM.strip (t := 64) rfl rfl rfl ?_
       refine LM.val (ov_move rfl) ?_
       refine LM.strip (t := 64) rfl rfl rfl ?_
       refine LM.val (ov_eql rfl rfl) ?_
       refine LM.val (ov_pickT rfl rfl) ?_
       refine LM.val (ov_move rfl) ?_
       refine LM.splitD (t := 68) rfl (fun h7 => ?_) (fun h7 => ?_)
       ·
        refine LM.strip (t := 68) rfl rfl rfl ?_
        refine LM.val (ov_move rfl) ?_
        refine LM.strip (t := 68) rfl rfl rfl ?_
        refine LM.val (ov_eql rfl rfl) ?_
        refine LM.val (ov_pickT rfl rfl) ?_
        refine LM.val (ov_move rfl) ?_
        refine LM.splitD (t := 72) rfl (fun h8 => ?_) (fun h8 => ?_)
        ·
         refine LM.strip (t := 72) rfl rfl rfl ?_
         refine LM.rd (om_ldW Tryz.isAgg30 Tryz.sizeOf30 rfl rfl) ?_
         refine LM.strip (t := 72) rfl rfl rfl ?_
         refine LM.callE (oc_call (enters_fn Tryz.func14 (by kernel_rfl) rfl) rfl) (fun w hm hc hg => (show mayS sv.C = true by rw [hsv]; exact aw12_may) ▸ mayS_spec w (hin w (hm.pick m19))) ?_
         refine LM.val (ov_pickT rfl rfl) ?_
         refine LM.val (ov_assign rfl) ?_
         refine LM.nil ?_
         refine QM.sub (e' := [(0, _)]) ⟨rfl, trivial⟩ ?_
         refine QM.then ?_
         refine wpM.ret ?_
         refine QM.leave (.inl rfl) [.tmp 0] Tryz.results9 rfl ?_
         intro w' hm' hc' hg'
         exact ⟨rfl, hc'⟩
        ·
         refine LM.drop (t := 72) rfl rfl rfl ?_
         refine LM.drop (t := 72) rfl rfl rfl ?_
         refine LM.val (ov_pickF rfl rfl) ?_
         refine LM.val (ov_assign rfl) ?_
         refine LM.nil ?_
         refine QM.sub (e' := [(0, _)]) ⟨rfl, trivial⟩ ?_
         refine QM.then ?_
         refine wpM.ret ?_
         refine QM.leave (.inl rfl) [.tmp 0] Tryz.results9 rfl ?_
         intro w' hm' hc' hg'
         first | exact ⟨rfl, hc'⟩ | (exfalso; first | omega | (simp at *; done) | (simp_all; done))
       ·
        refine LM.drop (t := 68) rfl rfl rfl ?_
        refine LM.drop (t := 68) rfl rfl rfl ?_
        refine LM.val (ov_pickF rfl rfl) ?_
        refine LM.val (ov_move rfl) ?_
        refine LM.drop (t := 72) rfl rfl rfl ?_
        refine LM.drop (t := 72) rfl rfl rfl ?_
        refine LM.val (ov_pickF rfl rfl) ?_
        refine LM.val (ov_assign rfl) ?_
        refine LM.nil ?_
        refine QM.sub (e' := [(0, _)]) ⟨rfl, trivial⟩ ?_
        refine QM.then ?_
        refine wpM.ret ?_
        refine QM.leave (.inl rfl) [.tmp 0] Tryz.results9 rfl ?_
        intro w' hm' hc' hg'
        first | exact ⟨rfl, hc'⟩ | (exfalso; first | omega | (simp at *; done) | (simp_all; done))
      ·
       refine LM.drop (t := 64) rfl rfl rfl ?_
       refine LM.drop (t := 64) rfl rfl rfl ?_
       refine LM.val (ov_pickF rfl rfl) ?_
       refine LM.val (ov_move rfl) ?_
       refine LM.drop (t := 68) rfl rfl rfl ?_
       refine LM.drop (t := 68) rfl rfl rfl ?_
       refine LM.val (ov_pickF rfl rfl) ?_
       refine LM.val (ov_move rfl) ?_
       refine LM.drop (t := 72) rfl rfl rfl ?_
       refine LM.drop (t := 72) rfl rfl rfl ?_
       refine LM.val (ov_pickF rfl rfl) ?_
       refine LM.val (ov_assign rfl) ?_
       refine LM.nil ?_
       refine QM.sub (e' := [(0, _)]) ⟨rfl, trivial⟩ ?_
       refine QM.then ?_
       refine wpM.ret ?_
       refine QM.leave (.inl rfl) [.tmp 0] Tryz.results9 rfl ?_
       intro w' hm' hc' hg'
       exact absurd (by rw [hls]; rfl) h6
     ·
      refine LM.drop (t := 56) rfl rfl rfl ?_
      refine LM.drop (t := 56) rfl rfl rfl ?_
      refine LM.drop (t := 56) rfl rfl rfl ?_
      refine LM.drop (t := 56) rfl rfl rfl ?_
      refine LM.drop (t := 56) rfl rfl rfl ?_
      refine LM.drop (t := 56) rfl rfl rfl ?_
      refine LM.val (ov_pickF rfl rfl) ?_
      refine LM.val (ov_move rfl) ?_
      refine LM.drop (t := 64) rfl rfl rfl ?_
      refine LM.drop (t := 64) rfl rfl rfl ?_
      refine LM.val (ov_pickF rfl rfl) ?_
      refine LM.val (ov_move rfl) ?_
      refine LM.drop (t := 68) rfl rfl rfl ?_
      refine LM.drop (t := 68) rfl rfl rfl ?_
      refine LM.val (ov_pickF rfl rfl) ?_
      refine LM.val (ov_move rfl) ?_
      refine LM.drop (t := 72) rfl rfl rfl ?_
      refine LM.drop (t := 72) rfl rfl rfl ?_
      refine LM.val (ov_pickF rfl rfl) ?_
      refine LM.val (ov_assign rfl) ?_
      refine LM.nil ?_
      refine QM.sub (e' := [(0, _)]) ⟨rfl, trivial⟩ ?_
      refine QM.then ?_
      refine wpM.ret ?_
      refine QM.leave (.inl rfl) [.tmp 0] Tryz.results9 rfl ?_
      intro w' hm' hc' hg'
      exact absurd (by omega) h5
    ·
     refine LM.drop (t := 50) rfl rfl rfl ?_
     refine LM.drop (t := 50) rfl rfl rfl ?_
     refine LM.drop (t := 50) rfl rfl rfl ?_
     refine LM.drop (t := 50) rfl rfl rfl ?_
     refine LM.val (ov_pickF rfl rfl) ?_
     refine LM.val (ov_move rfl) ?_
     refine LM.drop (t := 56) rfl rfl rfl ?_
     refine LM.drop (t := 56) rfl rfl rfl ?_
     refine LM.drop (t := 56) rfl rfl rfl ?_
     refine LM.drop (t := 56) rfl rfl rfl ?_
     refine LM.drop (t := 56) rfl rfl rfl ?_
     refine LM.drop (t := 56) rfl rfl rfl ?_
     refine LM.val (ov_pickF rfl rfl) ?_
     refine LM.val (ov_move rfl) ?_
     refine LM.drop (t := 64) rfl rfl rfl ?_
     refine LM.drop (t := 64) rfl rfl rfl ?_
     refine LM.val (ov_pickF rfl rfl) ?_
     refine LM.val (ov_move rfl) ?_
     refine LM.drop (t := 68) rfl rfl rfl ?_
     refine LM.drop (t := 68) rfl rfl rfl ?_
     refine LM.val (ov_pickF rfl rfl) ?_
     refine LM.val (ov_move rfl) ?_
     refine LM.drop (t := 72) rfl rfl rfl ?_
     refine LM.drop (t := 72) rfl rfl rfl ?_
     refine LM.val (ov_pickF rfl rfl) ?_
     refine LM.val (ov_assign rfl) ?_
     refine LM.nil ?_
     refine QM.sub (e' := [(0, _)]) ⟨rfl, trivial⟩ ?_
     refine QM.then ?_
     refine wpM.ret ?_
     refine QM.leave (.inl rfl) [.tmp 0] Tryz.results9 rfl ?_
     intro w' hm' hc' hg'
     exact absurd (by first | rfl | decide) h4
   ·
    refine LM.drop (t := 46) rfl rfl rfl ?_
    refine LM.drop (t := 46) rfl rfl rfl ?_
    refine LM.val (ov_pickF rfl rfl) ?_
    refine LM.val (ov_move rfl) ?_
    refine LM.drop (t := 50) rfl rfl rfl ?_
    refine LM.drop (t := 50) rfl rfl rfl ?_
    refine LM.drop (t := 50) rfl rfl rfl ?_
    refine LM.drop (t := 50) rfl rfl rfl ?_
    refine LM.val (ov_pickF rfl rfl) ?_
    refine LM.val (ov_move rfl) ?_
    refine LM.drop (t := 56) rfl rfl rfl ?_
    refine LM.drop (t := 56) rfl rfl rfl ?_
    refine LM.drop (t := 56) rfl rfl rfl ?_
    refine LM.drop (t := 56) rfl rfl rfl ?_
    refine LM.drop (t := 56) rfl rfl rfl ?_
    refine LM.drop (t := 56) rfl rfl rfl ?_
    refine LM.val (ov_pickF rfl rfl) ?_
    refine LM.val (ov_move rfl) ?_
    refine LM.drop (t := 64) rfl rfl rfl ?_
    refine LM.drop (t := 64) rfl rfl rfl ?_
    refine LM.val (ov_pickF rfl rfl) ?_
    refine LM.val (ov_move rfl) ?_
    refine LM.drop (t := 68) rfl rfl rfl ?_
    refine LM.drop (t := 68) rfl rfl rfl ?_
    refine LM.val (ov_pickF rfl rfl) ?_
    refine LM.val (ov_move rfl) ?_
    refine LM.drop (t := 72) rfl rfl rfl ?_
    refine LM.drop (t := 72) rfl rfl rfl ?_
    refine LM.val (ov_pickF rfl rfl) ?_
    refine LM.val (ov_assign rfl) ?_
    refine LM.nil ?_
    refine QM.sub (e' := [(0, _)]) ⟨rfl, trivial⟩ ?_
    refine QM.then ?_
    refine wpM.ret ?_
    refine QM.leave (.inl rfl) [.tmp 0] Tryz.results9 rfl ?_
    intro w' hm' hc' hg'
    first | exact ⟨rfl, hc'⟩ | (exfalso; first | omega | (simp at *; done) | (simp_all; done))
  ·
   refine LM.drop (t := 42) rfl rfl rfl ?_
   refine LM.drop (t := 42) rfl rfl rfl ?_
   refine LM.val (ov_pickF rfl rfl) ?_
   refine LM.val (ov_move rfl) ?_
   refine LM.drop (t := 46) rfl rfl rfl ?_
   refine LM.drop (t := 46) rfl rfl rfl ?_
   refine LM.val (ov_pickF rfl rfl) ?_
   refine LM.val (ov_move rfl) ?_
   refine LM.drop (t := 50) rfl rfl rfl ?_
   refine LM.drop (t := 50) rfl rfl rfl ?_
   refine LM.drop (t := 50) rfl rfl rfl ?_
   refine LM.drop (t := 50) rfl rfl rfl ?_
   refine LM.val (ov_pickF rfl rfl) ?_
   refine LM.val (ov_move rfl) ?_
   refine LM.drop (t := 56) rfl rfl rfl ?_
   refine LM.drop (t := 56) rfl rfl rfl ?_
   refine LM.drop (t := 56) rfl rfl rfl ?_
   refine LM.drop (t := 56) rfl rfl rfl ?_
   refine LM.drop (t := 56) rfl rfl rfl ?_
   refine LM.drop (t := 56) rfl rfl rfl ?_
   refine LM.val (ov_pickF rfl rfl) ?_
   refine LM.val (ov_move rfl) ?_
   refine LM.drop (t := 64) rfl rfl rfl ?_
   refine LM.drop (t := 64) rfl rfl rfl ?_
   refine LM.val (ov_pickF rfl rfl) ?_
   refine LM.val (ov_move rfl) ?_
   refine LM.drop (t := 68) rfl rfl rfl ?_
   refine LM.drop (t := 68) rfl rfl rfl ?_
   refine LM.val (ov_pickF rfl rfl) ?_
   refine LM.val (ov_move rfl) ?_
   refine LM.drop (t := 72) rfl rfl rfl ?_
   refine LM.drop (t := 72) rfl rfl rfl ?_
   refine LM.val (ov_pickF rfl rfl) ?_
   refine LM.val (ov_assign rfl) ?_
   refine LM.nil ?_
   refine QM.sub (e' := [(0, _)]) ⟨rfl, trivial⟩ ?_
   refine QM.then ?_
   refine wpM.ret ?_
   refine QM.leave (.inl rfl) [.tmp 0] Tryz.results9 rfl ?_
   intro w' hm' hc' hg'
   first | exact ⟨rfl, hc'⟩ | (exfalso; first | omega | (simp at *; done) | (simp_all; done))
 ·
  refine LM.drop (t := 36) rfl rfl rfl ?_
  refine LM.drop (t := 36) rfl rfl rfl ?_
  refine LM.drop (t := 36) rfl rfl rfl ?_
  refine LM.drop (t := 36) rfl rfl rfl ?_
  refine LM.val (ov_pickF rfl rfl) ?_
  refine LM.val (ov_move rfl) ?_
  refine LM.drop (t := 42) rfl rfl rfl ?_
  refine LM.drop (t := 42) rfl rfl rfl ?_
  refine LM.val (ov_pickF rfl rfl) ?_
  refine LM.val (ov_move rfl) ?_
  refine LM.drop (t := 46) rfl rfl rfl ?_
  refine LM.drop (t := 46) rfl rfl rfl ?_
  refine LM.val (ov_pickF rfl rfl) ?_
  refine LM.val (ov_move rfl) ?_
  refine LM.drop (t := 50) rfl rfl rfl ?_
  refine LM.drop (t := 50) rfl rfl rfl ?_
  refine LM.drop (t := 50) rfl rfl rfl ?_
  refine LM.drop (t := 50) rfl rfl rfl ?_
  refine LM.val (ov_pickF rfl rfl) ?_
  refine LM.val (ov_move rfl) ?_
  refine LM.drop (t := 56) rfl rfl rfl ?_
  refine LM.drop (t := 56) rfl rfl rfl ?_
  refine LM.drop (t := 56) rfl rfl rfl ?_
  refine LM.drop (t := 56) rfl rfl rfl ?_
  refine LM.drop (t := 56) rfl rfl rfl ?_
  refine LM.drop (t := 56) rfl rfl rfl ?_
  refine LM.val (ov_pickF rfl rfl) ?_
  refine LM.val (ov_move rfl) ?_
  refine LM.drop (t := 64) rfl rfl rfl ?_
  refine LM.drop (t := 64) rfl rfl rfl ?_
  refine LM.val (ov_pickF rfl rfl) ?_
  refine LM.val (ov_move rfl) ?_
  refine LM.drop (t := 68) rfl rfl rfl ?_
  refine LM.drop (t := 68) rfl rfl rfl ?_
  refine LM.val (ov_pickF rfl rfl) ?_
  refine LM.val (ov_move rfl) ?_
  refine LM.drop (t := 72) rfl rfl rfl ?_
  refine LM.drop (t := 72) rfl rfl rfl ?_
  refine LM.val (ov_pickF rfl rfl) ?_
  refine LM.val (ov_assign rfl) ?_
  refine LM.nil ?_
  refine QM.sub (e' := [(0, _)]) ⟨rfl, trivial⟩ ?_
  refine QM.then ?_
  refine wpM.ret ?_
  refine QM.leave (.inl rfl) [.tmp 0] Tryz.results9 rfl ?_
  intro w' hm' hc' hg'
  first | exact ⟨rfl, hc'⟩ | (exfalso; first | omega | (simp at *; done) | (simp_all; done))

set_option maxRecDepth 100000 in
set_option maxHeartbeats 2000000 in
theorem setupAny (s : List UInt8) (p : Int) (w : World) (hT : Tb w) (hsx : s.length ≤ 9223372036854775807) : Ret Tryz.prog 3 #[vS s, .int .i64 p] w (fun v w' => v = .bool true ∧ Ext w w') := by
 refine Ret.enterM (l := [vS s, .int .i64 p]) Tryz.func3 rfl Tryz.ntmps3 rfl ([]) (no) (Mem.nil w) ?_
 refine wpM.seq ?_
 refine wpM.region ?_
 refine LM.val (ov_assign rfl) ?_
 refine LM.nil ?_
 refine QM.sub (e' := [(0, _), (1, _)]) ⟨rfl, rfl, trivial⟩ ?_
 refine QM.then ?_
 refine wpM.seq ?_
 refine wpM.seq ?_
 refine wpM.region ?_
 refine LM.callE (oc_call (enters_fn Tryz.func9 (by kernel_rfl) rfl) rfl) (fun w hm hc hg => awake12_spec w (hT.ext hc)) ?_
 first | refine LM.val (ov_notD rfl) ?_ | refine LM.val (ov_not rfl) ?_
 refine LM.nil ?_
 refine QM.sub (e' := [(0, _), (1, _), (15, _)]) ⟨rfl, rfl, rfl, trivial⟩ ?_
 refine QM.then ?_
 first | refine wpM.condD rfl (fun h1 => ?_) (fun h1 => ?_) | refine wpM.condB rfl (fun h1 => ?_) (fun h1 => ?_)
 ·
  refine wpM.seq ?_
  refine wpM.region ?_
  refine LM.val (ov_assign rfl) ?_
  refine LM.nil ?_
  refine QM.sub (e' := [(4, _)]) ⟨rfl, trivial⟩ ?_
  refine QM.then ?_
  refine wpM.ret ?_
  refine QM.then_ret ?_
  refine QM.leave (.inl rfl) [.tmp 4] Tryz.results3 rfl ?_
  intro w' hm' hc' hg'
  first | exact ⟨rfl, hc'⟩ | (exfalso; first | omega | (simp at *; done) | (simp_all; done))
 ·
  refine wpM.skip ?_
  refine QM.then ?_
  refine wpM.seq ?_
  refine wpM.seq ?_
  refine wpM.region ?_
  refine LM.val (ov_move rfl) ?_
  refine LM.val (ov_slenL Tryz.underlying9 rfl) ?_
  refine LM.val (ov_gtr rfl rfl) ?_
  refine LM.nil ?_
  refine QM.sub (e' := [(0, _), (1, _), (18, _)]) ⟨rfl, rfl, rfl, trivial⟩ ?_
  refine QM.then ?_
  refine wpM.condD rfl (fun h2 => ?_) (fun h2 => ?_)
  ·
   refine wpM.seq ?_
   refine wpM.region ?_
   refine LM.val (ov_assign rfl) ?_
   refine LM.nil ?_
   refine QM.sub (e' := [(4, _)]) ⟨rfl, trivial⟩ ?_
   refine QM.then ?_
   refine wpM.ret ?_
   refine QM.then_ret ?_
   refine QM.leave (.inl rfl) [.tmp 4] Tryz.results3 rfl ?_
   intro w' hm' hc' hg'
   exact ⟨rfl, hc'⟩
  ·
   refine wpM.skip ?_
   refine QM.then ?_
   refine wpM.seq ?_
   refine wpM.region ?_
   refine LM.val (ov_move rfl) ?_
   refine LM.callT (oc_call (enters_fn Tryz.func10 (by kernel_rfl) rfl) rfl) ScT.mono (fun w hm hc hg => scan_spec w (by omega)) ?_
   rintro u21 m21 ⟨ad21, n21, cap21, rfl, hn21, hs21⟩ -; have hl21 := scan_len s
   refine LM.val (ov_move rfl) ?_
   refine LM.val (ov_extract rfl rfl) ?_
   refine LM.val (ov_extract rfl rfl) ?_
   refine LM.val (ov_extract rfl rfl) ?_
   refine LM.val (ov_assign rfl) ?_
   refine LM.val (ov_assign rfl) ?_
   refine LM.val (ov_assign rfl) ?_
   refine LM.nil ?_
   refine QM.sub (e' := [(1, _), (5, _)]) ⟨rfl, rfl, trivial⟩ ?_
   refine QM.then ?_
   refine wpM.seq ?_
   refine wpM.region ?_
   refine LM.val (ov_move rfl) ?_
   refine LM.val (ov_move rfl) ?_
   refine LM.callT (oc_call (enters_fn Tryz.func11 (by kernel_rfl) rfl) rfl) StT.mono (fun w hm hc hg => setup_spec p w hn21 (by omega) (hs21.srM (by intro _; rfl) hm)) ?_
   rintro u28 m28 ⟨sv, rfl, hsv, hin⟩ -
   refine LM.val (ov_move rfl) ?_
   refine LM.val (ov_extract rfl rfl) ?_
   refine LM.val (ov_extract rfl rfl) ?_
   refine LM.val (ov_extract rfl rfl) ?_
   refine LM.alloc Tryz.zeroValue30 rfl (fun b8 hb8 => ?_)
   refine LM.stW Tryz.sizeOf30 rfl rfl rfl rfl (by first | rfl | decide | (simp; done)) (fun hlt => absurd hlt (by omega)) ?_
   refine LM.val (ov_assign rfl) ?_
   refine LM.val (ov_assign rfl) ?_
   refine LM.nil ?_
   refine QM.sub (e' := [(1, _), (5, _), (8, _), (9, _), (10, _)]) ⟨rfl, rfl, rfl, rfl, rfl, trivial⟩ ?_
   refine QM.then ?_
   refine wpM.seq ?_
   refine wpM.region ?_
   refine LM.val (ov_move rfl) ?_
   refine LM.val (ov_move rfl) ?_
   refine LM.callT (oc_call (enters_fn Tryz.func12 (by kernel_rfl) rfl) rfl) StT.mono (fun w hm hc hg => rsetup_spec p w hn21 (by omega) (hs21.srM (by intro _; rfl) hm)) ?_
   rintro u35 m35 ⟨sv2, rfl, hsv2, hin2⟩ -
   refine LM.val (ov_move rfl) ?_
   refine LM.val (ov_extract rfl rfl) ?_
   refine LM.val (ov_extract rfl rfl) ?_
   refine LM.val (ov_extract rfl rfl) ?_
   refine LM.alloc Tryz.zeroValue30 rfl (fun b11 hb11 => ?_)
   refine LM.stW Tryz.sizeOf30 rfl rfl rfl rfl (by first | rfl | decide | (simp; done)) (fun hlt => absurd hlt (by omega)) ?_
   refine LM.val (ov_assign rfl) ?_
   refine LM.val (ov_assign rfl) ?_
   refine LM.nil ?_
   refine QM.sub (e' := [(8, _), (9, _), (10, _), (11, _), (12, _), (13, _)]) ⟨rfl, rfl, rfl, rfl, rfl, rfl, trivial⟩ ?_
   refine QM.then ?_
   refine wpM.seq ?_
   refine wpM.region ?_
   refine LM.rd (om_ldW Tryz.isAgg30 Tryz.sizeOf30 rfl rfl) ?_
   refine LM.rd (om_ldW Tryz.isAgg30 Tryz.sizeOf30 rfl rfl) ?_
   refine LM.callE (oc_call (enters_fn Tryz.func13 (by kernel_rfl) rfl) rfl) (fun w hm hc hg => rssame_spec w (hin w (hm.pick m28)) (hin2 w (hm.pick m35)) (bd_par hsv)) ?_
   refine LM.val (ov_move rfl) ?_
   refine LM.splitD (t := 42) rfl (fun h3 => ?_) (fun h3 => ?_)
   ·
    refine LM.strip (t := 42) rfl rfl rfl ?_
    refine LM.val (ov_move rfl) ?_
    refine LM.strip (t := 42) rfl rfl rfl ?_
    refine LM.val (ov_move rfl) ?_
    refine LM.strip (t := 42) rfl rfl rfl ?_
    refine LM.val (ov_eql rfl rfl) ?_
    refine LM.val (ov_pickT rfl rfl) ?_
    refine LM.val (ov_move rfl) ?_
    refine LM.splitD (t := 47) rfl (fun h4 => ?_) (fun h4 => ?_)
    ·
     refine LM.strip (t := 47) rfl rfl rfl ?_
     refine LM.val (ov_move rfl) ?_
     refine LM.strip (t := 47) rfl rfl rfl ?_
     refine LM.val (ov_move rfl) ?_
     refine LM.strip (t := 47) rfl rfl rfl ?_
     refine LM.val (ov_eql rfl rfl) ?_
     refine LM.val (ov_pickT rfl rfl) ?_
     refine LM.val (ov_move rfl) ?_
     refine LM.splitD (t := 52) rfl (fun h5 => ?_) (fun h5 => ?_)
     ·
      refine LM.strip (t := 52) rfl rfl rfl ?_
      refine LM.val (ov_move rfl) ?_
      refine LM.strip (t := 52) rfl rfl rfl ?_
      refine LM.val (ov_neq rfl rfl) ?_
      refine LM.strip (t := 52) rfl rfl rfl ?_
      refine LM.val (ov_move rfl) ?_
      refine LM.splitD (t := 55) rfl (fun h6 => ?_) (fun h6 => ?_)
      ·
       refine LM.drop (t := 55) rfl rfl rfl ?_
       refine LM.drop (t := 55) rfl rfl rfl ?_
       refine LM.strip (t := 52) rfl rfl rfl ?_
       refine LM.val (ov_pickT rfl rfl) ?_
       refine LM.val (ov_pickT rfl rfl) ?_
       refine LM.val (ov_assign rfl) ?_
       refine LM.nil ?_
       refine QM.sub (e' := [(4, _)]) ⟨rfl, trivial⟩ ?_
       refine QM.then ?_
       refine wpM.ret ?_
       refine QM.leave (.inl rfl) [.tmp 4] Tryz.results3 rfl ?_
       intro w' hm' hc' hg'
       exact ⟨rfl, hc'⟩
      ·
       refine LM.strip (t := 55) rfl rfl rfl ?_
       refine LM.rd (om_ldW Tryz.isAgg30 Tryz.sizeOf30 rfl rfl) ?_
       refine LM.strip (t := 55) rfl rfl rfl ?_
       refine LM.callE (oc_call (enters_fn Tryz.func14 (by kernel_rfl) rfl) rfl) (fun w hm hc hg => mayS_spec w (hin w (hm.pick m28))) ?_
       refine LM.strip (t := 52) rfl rfl rfl ?_
       refine LM.val (ov_pickF rfl rfl) ?_
       refine LM.val (ov_pickT rfl rfl) ?_
       refine LM.val (ov_assign rfl) ?_
       refine LM.nil ?_
       refine QM.sub (e' := [(4, _)]) ⟨rfl, trivial⟩ ?_
       refine QM.then ?_
       refine wpM.ret ?_
       refine QM.leave (.inl rfl) [.tmp 4] Tryz.results3 rfl ?_
       intro w' hm' hc' hg'
       exact ⟨by show Value.bool (mayS sv.C) = _; rw [hsv, set_may (Classical.not_not.1 h6)], hc'⟩
     ·
      refine LM.drop (t := 52) rfl rfl rfl ?_
      refine LM.drop (t := 52) rfl rfl rfl ?_
      refine LM.dropU (t := 52) rfl rfl rfl ?_
      refine LM.dropX (t := 55) rfl rfl ?_
      refine LM.dropX (t := 55) rfl rfl ?_
      refine LM.drop (t := 52) rfl rfl rfl ?_
      refine LM.val (ov_pickF rfl rfl) ?_
      refine LM.val (ov_assign rfl) ?_
      refine LM.nil ?_
      refine QM.sub (e' := [(4, _)]) ⟨rfl, trivial⟩ ?_
      refine QM.then ?_
      refine wpM.ret ?_
      refine QM.leave (.inl rfl) [.tmp 4] Tryz.results3 rfl ?_
      intro w' hm' hc' hg'
      exact absurd rfl h5
    ·
     refine LM.drop (t := 47) rfl rfl rfl ?_
     refine LM.drop (t := 47) rfl rfl rfl ?_
     refine LM.drop (t := 47) rfl rfl rfl ?_
     refine LM.val (ov_pickF rfl rfl) ?_
     refine LM.val (ov_move rfl) ?_
     refine LM.drop (t := 52) rfl rfl rfl ?_
     refine LM.drop (t := 52) rfl rfl rfl ?_
     refine LM.dropU (t := 52) rfl rfl rfl ?_
     refine LM.dropX (t := 55) rfl rfl ?_
     refine LM.dropX (t := 55) rfl rfl ?_
     refine LM.drop (t := 52) rfl rfl rfl ?_
     refine LM.val (ov_pickF rfl rfl) ?_
     refine LM.val (ov_assign rfl) ?_
     refine LM.nil ?_
     refine QM.sub (e' := [(4, _)]) ⟨rfl, trivial⟩ ?_
     refine QM.then ?_
     refine wpM.ret ?_
     refine QM.leave (.inl rfl) [.tmp 4] Tryz.results3 rfl ?_
     intro w' hm' hc' hg'
     exact absurd rfl h4
   ·
    refine LM.drop (t := 42) rfl rfl rfl ?_
    refine LM.drop (t := 42) rfl rfl rfl ?_
    refine LM.drop (t := 42) rfl rfl rfl ?_
    refine LM.val (ov_pickF rfl rfl) ?_
    refine LM.val (ov_move rfl) ?_
    refine LM.drop (t := 47) rfl rfl rfl ?_
    refine LM.drop (t := 47) rfl rfl rfl ?_
    refine LM.drop (t := 47) rfl rfl rfl ?_
    refine LM.val (ov_pickF rfl rfl) ?_
    refine LM.val (ov_move rfl) ?_
    refine LM.drop (t := 52) rfl rfl rfl ?_
    refine LM.drop (t := 52) rfl rfl rfl ?_
    refine LM.dropU (t := 52) rfl rfl rfl ?_
    refine LM.dropX (t := 55) rfl rfl ?_
    refine LM.dropX (t := 55) rfl rfl ?_
    refine LM.drop (t := 52) rfl rfl rfl ?_
    refine LM.val (ov_pickF rfl rfl) ?_
    refine LM.val (ov_assign rfl) ?_
    refine LM.nil ?_
    refine QM.sub (e' := [(4, _)]) ⟨rfl, trivial⟩ ?_
    refine QM.then ?_
    refine wpM.ret ?_
    refine QM.leave (.inl rfl) [.tmp 4] Tryz.results3 rfl ?_
    intro w' hm' hc' hg'
    rw [hsv, hsv2] at h3; simp at h3

end Go.Eng
set_option linter.unusedVariables false
set_option linter.unusedSimpArgs false
namespace Go.Eng
open Go Go.Proofs Go.RowKit Go.ChangeShapes Go.WideShapes

end Go.Eng
