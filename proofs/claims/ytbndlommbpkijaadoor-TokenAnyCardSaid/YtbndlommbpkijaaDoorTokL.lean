/- TokenAny, walked. No condition. -/
import Derived.Test.YtbndlommbpkijaaDoorTokK
import Derived.Test.YtbndlommbpkijaaDoorPgmG
set_option linter.unusedVariables false
set_option linter.unusedSimpArgs false
namespace Go.Eng
open Go Go.Proofs Go.RowKit

set_option maxRecDepth 100000 in
set_option maxHeartbeats 1000000 in
theorem tokenAny (s : List UInt8) (a : Int) (w : World) (hT : Tb w) (hsx : s.length ≤ 9223372036854775807) (ha : 0 ≤ a ∧ a ≤ 65535) : Ret Tryd.prog 3 #[vS s, .int .u16 a] w (fun v w' => v = .bool true ∧ Ext w w') := by
 refine Ret.enterM (l := [vS s, .int .u16 a]) Tryd.func3 rfl Tryd.ntmps3 rfl ([]) (no) (Mem.nil w) ?_
 refine wpM.seq ?_
 refine wpM.region ?_
 refine LM.val (ov_assign rfl) ?_
 refine LM.nil ?_
 refine QM.sub (e' := [(0, _), (1, _)]) ⟨rfl, rfl, trivial⟩ ?_
 refine QM.then ?_
 refine wpM.seq ?_
 refine wpM.seq ?_
 refine wpM.region ?_
 refine LM.callE (oc_call (enters_fn Tryd.func10 (by kernel_rfl) rfl) rfl) (fun w hm hc hg => awake09_spec w (hT.ext hc)) ?_
 first | refine LM.val (ov_notD rfl) ?_ | refine LM.val (ov_not rfl) ?_
 refine LM.nil ?_
 refine QM.sub (e' := [(0, _), (1, _), (16, _)]) ⟨rfl, rfl, rfl, trivial⟩ ?_
 refine QM.then ?_
 first | refine wpM.condD rfl (fun h1 => ?_) (fun h1 => ?_) | refine wpM.condB rfl (fun h1 => ?_) (fun h1 => ?_)
 ·
  refine wpM.seq ?_
  refine wpM.region ?_
  refine LM.val (ov_assign rfl) ?_
  refine LM.nil ?_
  refine QM.sub (e' := [(4, _)]) ⟨rfl, trivial⟩ ?_
  refine QM.then ?_
  refine wpM.ret ?_
  refine QM.then_ret ?_
  refine QM.leave (.inl rfl) [.tmp 4] Tryd.results3 rfl ?_
  intro w' hm' hc' hg'
  first | exact ⟨rfl, hc'⟩ | (exfalso; first | omega | (simp at *; done) | (simp_all; done))
 ·
  refine wpM.skip ?_
  refine QM.then ?_
  refine wpM.seq ?_
  refine wpM.seq ?_
  refine wpM.region ?_
  refine LM.val (ov_move rfl) ?_
  refine LM.val (ov_slenL Tryd.underlying9 rfl) ?_
  refine LM.val (ov_gtr rfl rfl) ?_
  refine LM.nil ?_
  refine QM.sub (e' := [(0, _), (1, _), (19, _)]) ⟨rfl, rfl, rfl, trivial⟩ ?_
  refine QM.then ?_
  first | refine wpM.condD rfl (fun h2 => ?_) (fun h2 => ?_) | refine wpM.condB rfl (fun h2 => ?_) (fun h2 => ?_)
  ·
   refine wpM.seq ?_
   refine wpM.region ?_
   refine LM.val (ov_assign rfl) ?_
   refine LM.nil ?_
   refine QM.sub (e' := [(4, _)]) ⟨rfl, trivial⟩ ?_
   refine QM.then ?_
   refine wpM.ret ?_
   refine QM.then_ret ?_
   refine QM.leave (.inl rfl) [.tmp 4] Tryd.results3 rfl ?_
   intro w' hm' hc' hg'
   first | exact ⟨rfl, hc'⟩ | (exfalso; first | omega | (simp at *; done) | (simp_all; done))
  ·
   refine wpM.skip ?_
   refine QM.then ?_
   refine wpM.seq ?_
   refine wpM.region ?_
   refine LM.val (ov_move rfl) ?_
   refine LM.callT (oc_call (enters_fn Tryd.func11 (by kernel_rfl) rfl) rfl) ScT.mono (fun w hm hc hg => tscan_spec w) ?_
   rintro u22 m22 ⟨ad22, n22, cap22, rfl, hn22, hs22⟩ -; have hl22 := scan_len s
   refine LM.val (ov_move rfl) ?_
   refine LM.val (ov_extract rfl rfl) ?_
   refine LM.val (ov_extract rfl rfl) ?_
   refine LM.val (ov_extract rfl rfl) ?_
   refine LM.val (ov_assign rfl) ?_
   refine LM.val (ov_assign rfl) ?_
   refine LM.val (ov_assign rfl) ?_
   refine LM.nil ?_
   refine QM.sub (e' := [(0, _), (1, _), (5, _), (6, _), (7, _)]) ⟨rfl, rfl, rfl, rfl, rfl, trivial⟩ ?_
   refine QM.then ?_
   refine wpM.seq ?_
   refine wpM.region ?_
   refine LM.val (ov_move rfl) ?_
   refine LM.callT (oc_call (enters_fn Tryd.func12 (by kernel_rfl) rfl) rfl) ScT.mono (fun w hm hc hg => scan_spec w (by omega)) ?_
   rintro u28 m28 ⟨ad28, n28, cap28, rfl, hn28, hs28⟩ -
   refine LM.val (ov_move rfl) ?_
   refine LM.val (ov_extract rfl rfl) ?_
   refine LM.val (ov_extract rfl rfl) ?_
   refine LM.val (ov_extract rfl rfl) ?_
   refine LM.val (ov_assign rfl) ?_
   refine LM.val (ov_assign rfl) ?_
   refine LM.val (ov_assign rfl) ?_
   refine LM.nil ?_
   refine QM.sub (e' := [(0, _), (1, _), (5, _), (6, _), (7, _), (8, _), (9, _), (10, _)]) ⟨rfl, rfl, rfl, rfl, rfl, rfl, rfl, rfl, trivial⟩ ?_
   refine QM.then ?_
   refine wpM.seq ?_
   refine wpM.seq ?_
   refine wpM.region ?_
   refine LM.val (ov_move rfl) ?_
   refine LM.val (ov_move rfl) ?_
   refine LM.callE (oc_call (enters_fn Tryd.func13 (by kernel_rfl) rfl) rfl) (fun w hm hc hg => wsame_spec true w hn22 (hs22.srM (by intro _; rfl) hm) hn28 (hs28.srM (by intro _; rfl) hm) (by omega)) ?_
   first | refine LM.val (ov_notD rfl) ?_ | refine LM.val (ov_not rfl) ?_
   refine LM.val (ov_move rfl) ?_
   first | refine LM.splitD (t := 36) rfl (fun h3 => ?_) (fun h3 => ?_) | refine LM.splitB (t := 36) rfl (fun h3 => ?_) (fun h3 => ?_)
   ·
    exfalso; rw [sameW_refl] at h3; simp at h3
   ·
    refine LM.strip (t := 36) rfl rfl rfl ?_
    refine LM.val (ov_move rfl) ?_
    refine LM.strip (t := 36) rfl rfl rfl ?_
    refine LM.val (ov_move rfl) ?_
    refine LM.strip (t := 36) rfl rfl rfl ?_
    refine LM.val (ov_neq rfl rfl) ?_
    refine LM.val (ov_pickF rfl rfl) ?_
    refine LM.val (ov_move rfl) ?_
    first | refine LM.splitD (t := 41) rfl (fun h4 => ?_) (fun h4 => ?_) | refine LM.splitB (t := 41) rfl (fun h4 => ?_) (fun h4 => ?_)
    ·
     exfalso; simp at h4
    ·
     refine LM.strip (t := 41) rfl rfl rfl ?_
     refine LM.val (ov_move rfl) ?_
     refine LM.strip (t := 41) rfl rfl rfl ?_
     refine LM.val (ov_move rfl) ?_
     refine LM.strip (t := 41) rfl rfl rfl ?_
     refine LM.val (ov_neq rfl rfl) ?_
     refine LM.val (ov_pickF rfl rfl) ?_
     refine LM.nil ?_
     refine QM.sub (e' := [(0, _), (1, _), (8, _), (9, _), (10, _), (45, _)]) ⟨rfl, rfl, rfl, rfl, rfl, rfl, trivial⟩ ?_
     refine QM.then ?_
     first | refine wpM.condD rfl (fun h5 => ?_) (fun h5 => ?_) | refine wpM.condB rfl (fun h5 => ?_) (fun h5 => ?_)
     ·
      exfalso; simp at h5
     ·
      refine wpM.skip ?_
      refine QM.then ?_
      refine wpM.seq ?_
      refine wpM.region ?_
      refine LM.val (ov_move rfl) ?_
      refine LM.strB Tryd.underlying9 Tryd.underlying31 Tryd.underlying5 rfl (by unfold maxLen; omega) (fun ad47 n47 cap47 m47 hn47 hs47 => ?_)
      refine LM.val (ov_assign rfl) ?_
      refine LM.nil ?_
      refine QM.sub (e' := [(1, _), (8, _), (9, _), (10, _), (11, _)]) ⟨rfl, rfl, rfl, rfl, rfl, trivial⟩ ?_
      refine QM.then ?_
      refine wpM.seq ?_
      refine wpM.seq ?_
      refine wpM.region ?_
      refine LM.val (ov_move rfl) ?_
      first | refine LM.val (ov_remK rfl rfl (by omega) (by omega)) ?_ | refine LM.val (ov_remJ rfl rfl (by omega) (by omega)) ?_
      refine LM.val (ov_to64 Tryd.underlying22 Tryd.underlying3 rfl (by omega)) ?_
      refine LM.val (ov_move rfl) ?_
      refine LM.nil ?_
      refine QM.sub (e' := [(8, _), (9, _), (10, _), (11, _), (50, _), (51, _)]) ⟨rfl, rfl, rfl, rfl, rfl, rfl, trivial⟩ ?_
      refine QM.then ?_
      refine wpM.block ?_
      refine wpM.loopK0 (α := Nat × Option Addr × Nat × Nat × Mem0) (fun ⟨k, ad11, n11, cap11, m11⟩ => [(11, .slice ad11 n11 cap11), (51, .int .i64 (k : Nat))]) [(8, _), (9, _), (10, _), (50, _)] (fun ⟨k, ad11, n11, cap11, m11⟩ => m11 ++ (m28 ++ [])) (fun ⟨k, ad11, n11, cap11, m11⟩ => ((k : Nat) : Int) ≤ a % 8200 ∧ n11 = (s ++ bl k).length ∧ (s ++ bl k).length = s.length + k ∧ Sz 5 w.heap.size (s ++ bl k) (.slice ad11 n11 cap11) m11) (fun ⟨k, ad11, n11, cap11, m11⟩ => 8200 - k) ((0, ad47, n47, cap47, m47)) ⟨(by first | rfl | exact lk rfl (by congr 1; omega) | exact lk rfl (by simp)), (by first | rfl | exact lk rfl (by congr 1; omega) | exact lk rfl (by simp)), rfl, rfl, rfl, rfl, trivial⟩ (by (repeat' (first | exact SubM.nil _ | refine SubM.cons rfl ?_ | refine SubM.app ?_))) ⟨by omega, by simpa using hn47, by simp, by simpa using hs47⟩ ?_
      rintro ⟨k, ad11, n11, cap11, m11⟩ ⟨hk, hn11, hl11, hs11⟩
      change wpM _ _ _ _ _ _ _ (m11 ++ (m28 ++ [])) _ _ _
      refine wpM.seq ?_
      refine wpM.region ?_
      refine LM.val (ov_lss rfl rfl) ?_
      refine LM.nil ?_
      refine QM.sub (e' := [(8, _), (9, _), (10, _), (11, _), (50, _), (51, _), (52, _)]) ⟨rfl, rfl, rfl, rfl, rfl, rfl, rfl, trivial⟩ ?_
      refine QM.then ?_
      refine wpM.seq ?_
      first | refine wpM.condD rfl (fun h6 => ?_) (fun h6 => ?_) | refine wpM.condB rfl (fun h6 => ?_) (fun h6 => ?_)
      ·
       refine wpM.skip ?_
       refine QM.then ?_
       refine wpM.seq ?_
       refine wpM.block ?_
       refine wpM.region ?_
       refine LM.val (ov_move rfl) ?_
       refine LM.single Tryd.underlying31 Tryd.sizeOf5 Tryd.zeroValue5 rfl rfl rfl rfl rfl (fun b54 hb54 => ?_)
       refine LM.appB (a := 32) Tryd.underlying31 Tryd.typeInfo5 rfl rfl rfl rfl rfl rfl rfl hs11 rfl (Nat.le_refl _) (fun p hp hlt => absurd hlt (Nat.not_lt_of_le (Sz.ge hs11 p hp))) (by omega) (fun ad55 n55 cap55 m55 hn55 hs55 => ?_)
       refine LM.val (ov_assign rfl) ?_
       refine LM.nil ?_
       refine QM.sub (e' := [(8, _), (9, _), (10, _), (11, _), (50, _), (51, _)]) ⟨rfl, rfl, rfl, rfl, rfl, rfl, trivial⟩ ?_
       refine QM.block_normal ?_
       refine QM.then ?_
       refine wpM.region ?_
       refine LM.val (ov_add64 rfl rfl (by omega)) ?_
       refine LM.val (ov_move rfl) ?_
       refine LM.nil ?_
       refine QM.sub (e' := [(8, _), (9, _), (10, _), (11, _), (50, _), (51, _)]) ⟨rfl, rfl, rfl, rfl, rfl, rfl, trivial⟩ ?_
       refine QM.againK ((k + 1, ad55, n55, cap55, m55)) ⟨(by first | rfl | exact lk rfl (by congr 1; omega) | exact lk rfl (by simp)), (by first | rfl | exact lk rfl (by congr 1; omega) | exact lk rfl (by simp)), rfl, rfl, rfl, rfl, trivial⟩ (by (repeat' (first | exact SubM.nil _ | refine SubM.cons rfl ?_ | refine SubM.app ?_))) (fun _ h => h) ?_ ?_
       · exact ⟨by omega, by rw [hn55]; simp; omega, by simp, by rw [bl_snoc2]; exact hs55⟩
       · first | omega | (dsimp only; omega)
      ·
       refine wpM.exit ?_
       refine QM.then_exit ?_
       refine QM.then_exit ?_
       refine QM.block_hit ?_
       refine QM.then ?_
       refine wpM.seq ?_
       refine wpM.region ?_
       refine LM.val (ov_move rfl) ?_
       refine LM.rd (om_strB Tryd.underlying31 Tryd.underlying5 Tryd.underlying9 rfl hs11) ?_
       refine LM.callT (oc_call (enters_fn Tryd.func11 (by kernel_rfl) rfl) rfl) ScT.mono (fun w hm hc hg => tscan_spec w) ?_
       rintro u60 m60 ⟨ad60, n60, cap60, rfl, hn60, hs60⟩ -; have hl60 := scan_len (s ++ bl k)
       refine LM.val (ov_move rfl) ?_
       refine LM.val (ov_extract rfl rfl) ?_
       refine LM.val (ov_extract rfl rfl) ?_
       refine LM.val (ov_extract rfl rfl) ?_
       refine LM.val (ov_assign rfl) ?_
       refine LM.val (ov_assign rfl) ?_
       refine LM.val (ov_assign rfl) ?_
       refine LM.nil ?_
       refine QM.sub (e' := [(8, _), (9, _), (10, _), (11, _), (12, _), (13, _), (14, _)]) ⟨rfl, rfl, rfl, rfl, rfl, rfl, rfl, trivial⟩ ?_
       refine QM.then ?_
       refine wpM.seq ?_
       refine wpM.seq ?_
       refine wpM.region ?_
       refine LM.val (ov_move rfl) ?_
       refine LM.val (ov_len Tryd.underlying31 rfl) ?_
       refine LM.val (ov_gtr rfl rfl) ?_
       refine LM.nil ?_
       refine QM.sub (e' := [(8, _), (9, _), (10, _), (12, _), (13, _), (14, _), (66, _)]) ⟨rfl, rfl, rfl, rfl, rfl, rfl, rfl, trivial⟩ ?_
       refine QM.then ?_
       first | refine wpM.condD rfl (fun h7 => ?_) (fun h7 => ?_) | refine wpM.condB rfl (fun h7 => ?_) (fun h7 => ?_)
       ·
        refine wpM.seq ?_
        refine wpM.region ?_
        refine LM.val (ov_move rfl) ?_
        refine LM.val (ov_len Tryd.underlying24 rfl) ?_
        refine LM.val (ov_eql rfl rfl) ?_
        refine LM.val (ov_move rfl) ?_
        first | refine LM.splitD (t := 70) rfl (fun h8 => ?_) (fun h8 => ?_) | refine LM.splitB (t := 70) rfl (fun h8 => ?_) (fun h8 => ?_)
        ·
         refine LM.strip (t := 70) rfl rfl rfl ?_
         refine LM.val (ov_move rfl) ?_
         refine LM.strip (t := 70) rfl rfl rfl ?_
         refine LM.val (ov_eql rfl rfl) ?_
         refine LM.val (ov_pickT rfl rfl) ?_
         refine LM.val (ov_move rfl) ?_
         first | refine LM.splitD (t := 74) rfl (fun h9 => ?_) (fun h9 => ?_) | refine LM.splitB (t := 74) rfl (fun h9 => ?_) (fun h9 => ?_)
         ·
          refine LM.strip (t := 74) rfl rfl rfl ?_
          refine LM.val (ov_move rfl) ?_
          refine LM.strip (t := 74) rfl rfl rfl ?_
          refine LM.val (ov_eql rfl rfl) ?_
          refine LM.val (ov_pickT rfl rfl) ?_
          refine LM.val (ov_assign rfl) ?_
          refine LM.nil ?_
          refine QM.sub (e' := [(4, _)]) ⟨rfl, trivial⟩ ?_
          refine QM.then ?_
          refine wpM.ret ?_
          refine QM.then_ret ?_
          refine QM.leave (.inl rfl) [.tmp 4] Tryd.results3 rfl ?_
          intro w' hm' hc' hg'
          have hL := scan_long (s := s ++ bl k) (by omega); refine ⟨?_, hc'⟩; show Value.bool (decide ((scanO (s ++ bl k)).2.2 = 6)) = _; rw [hL]; rfl
         ·
          refine LM.drop (t := 74) rfl rfl rfl ?_
          refine LM.drop (t := 74) rfl rfl rfl ?_
          refine LM.val (ov_pickF rfl rfl) ?_
          refine LM.val (ov_assign rfl) ?_
          refine LM.nil ?_
          refine QM.sub (e' := [(4, _)]) ⟨rfl, trivial⟩ ?_
          refine QM.then ?_
          refine wpM.ret ?_
          refine QM.then_ret ?_
          refine QM.leave (.inl rfl) [.tmp 4] Tryd.results3 rfl ?_
          intro w' hm' hc' hg'
          exact absurd (by rw [scan_long (s := s ++ bl k) (by omega)]) h9
        ·
         refine LM.drop (t := 70) rfl rfl rfl ?_
         refine LM.drop (t := 70) rfl rfl rfl ?_
         refine LM.val (ov_pickF rfl rfl) ?_
         refine LM.val (ov_move rfl) ?_
         refine LM.drop (t := 74) rfl rfl rfl ?_
         refine LM.drop (t := 74) rfl rfl rfl ?_
         refine LM.val (ov_pickF rfl rfl) ?_
         refine LM.val (ov_assign rfl) ?_
         refine LM.nil ?_
         refine QM.sub (e' := [(4, _)]) ⟨rfl, trivial⟩ ?_
         refine QM.then ?_
         refine wpM.ret ?_
         refine QM.then_ret ?_
         refine QM.leave (.inl rfl) [.tmp 4] Tryd.results3 rfl ?_
         intro w' hm' hc' hg'
         have hL := scan_long (s := s ++ bl k) (by omega); rw [hL] at hn60; exact absurd (by rw [hn60]; rfl) h8
       ·
        refine wpM.skip ?_
        refine QM.then ?_
        refine wpM.seq ?_
        refine wpM.region ?_
        refine LM.val (ov_move rfl) ?_
        refine LM.val (ov_move rfl) ?_
        refine LM.callE (oc_call (enters_fn Tryd.func13 (by kernel_rfl) rfl) rfl) (fun w hm hc hg => wsame_spec true w hn60 (hs60.srM (by intro _; rfl) hm) hn28 (hs28.srM (by intro _; rfl) hm) (by omega)) ?_
        refine LM.val (ov_move rfl) ?_
        first | refine LM.splitD (t := 81) rfl (fun h10 => ?_) (fun h10 => ?_) | refine LM.splitB (t := 81) rfl (fun h10 => ?_) (fun h10 => ?_)
        ·
         refine LM.strip (t := 81) rfl rfl rfl ?_
         refine LM.val (ov_move rfl) ?_
         refine LM.strip (t := 81) rfl rfl rfl ?_
         refine LM.val (ov_move rfl) ?_
         refine LM.strip (t := 81) rfl rfl rfl ?_
         refine LM.val (ov_eql rfl rfl) ?_
         refine LM.val (ov_pickT rfl rfl) ?_
         refine LM.val (ov_move rfl) ?_
         first | refine LM.splitD (t := 86) rfl (fun h11 => ?_) (fun h11 => ?_) | refine LM.splitB (t := 86) rfl (fun h11 => ?_) (fun h11 => ?_)
         ·
          refine LM.strip (t := 86) rfl rfl rfl ?_
          refine LM.val (ov_move rfl) ?_
          refine LM.strip (t := 86) rfl rfl rfl ?_
          refine LM.val (ov_move rfl) ?_
          refine LM.strip (t := 86) rfl rfl rfl ?_
          refine LM.val (ov_eql rfl rfl) ?_
          refine LM.val (ov_pickT rfl rfl) ?_
          refine LM.val (ov_assign rfl) ?_
          refine LM.nil ?_
          refine QM.sub (e' := [(4, _)]) ⟨rfl, trivial⟩ ?_
          refine QM.then ?_
          refine wpM.ret ?_
          refine QM.leave (.inl rfl) [.tmp 4] Tryd.results3 rfl ?_
          intro w' hm' hc' hg'
          have hE := scan_bl (s := s) (k := k) (by omega); refine ⟨?_, hc'⟩; show Value.bool (decide ((scanO (s ++ bl k)).2.2 = (scanO s).2.2)) = _; rw [hE, decide_eq_true rfl]
         ·
          refine LM.drop (t := 86) rfl rfl rfl ?_
          refine LM.drop (t := 86) rfl rfl rfl ?_
          refine LM.drop (t := 86) rfl rfl rfl ?_
          refine LM.val (ov_pickF rfl rfl) ?_
          refine LM.val (ov_assign rfl) ?_
          refine LM.nil ?_
          refine QM.sub (e' := [(4, _)]) ⟨rfl, trivial⟩ ?_
          refine QM.then ?_
          refine wpM.ret ?_
          refine QM.leave (.inl rfl) [.tmp 4] Tryd.results3 rfl ?_
          intro w' hm' hc' hg'
          have hE := scan_bl (s := s) (k := k) (by omega); exact absurd (by rw [hE]) h11
        ·
         refine LM.drop (t := 81) rfl rfl rfl ?_
         refine LM.drop (t := 81) rfl rfl rfl ?_
         refine LM.drop (t := 81) rfl rfl rfl ?_
         refine LM.val (ov_pickF rfl rfl) ?_
         refine LM.val (ov_move rfl) ?_
         refine LM.drop (t := 86) rfl rfl rfl ?_
         refine LM.drop (t := 86) rfl rfl rfl ?_
         refine LM.drop (t := 86) rfl rfl rfl ?_
         refine LM.val (ov_pickF rfl rfl) ?_
         refine LM.val (ov_assign rfl) ?_
         refine LM.nil ?_
         refine QM.sub (e' := [(4, _)]) ⟨rfl, trivial⟩ ?_
         refine QM.then ?_
         refine wpM.ret ?_
         refine QM.leave (.inl rfl) [.tmp 4] Tryd.results3 rfl ?_
         intro w' hm' hc' hg'
         have hE := scan_bl (s := s) (k := k) (by omega); rw [hE, sameW_refl] at h10; cases h10

end Go.Eng

