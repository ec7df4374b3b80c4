/- ProgAny, walked. No condition. -/
import Derived.Test.YtoeojcnodjjpgaaDoorPgmF
set_option linter.unusedVariables false
set_option linter.unusedSimpArgs false
namespace Go.Eng
open Go Go.Proofs Go.RowKit

theorem scanF_len (s : List UInt8) : ∀ (f i : Nat) (last : Int) (out : List Wrd), (scanF f s i last out).1.length ≤ out.length + f
  | 0, i, last, out => Nat.le_refl _
  | f + 1, i, last, out => by
    rw [scanF]
    split
    · show out.length ≤ _; omega
    split
    · have := scanF_len s f (i + 1) last out; omega
    split
    · have := scanF_len s f (i + runL notNl s i) last out; omega
    split
    · exact Nat.zero_le _
    · have := scanF_len s f (oneO s i).2.1 ((oneO s i).2.1 : Nat) (out ++ [(oneO s i).1]); rw [List.length_append, List.length_singleton] at this; omega
theorem scan_len (s : List UInt8) : (scanO s).1.length ≤ s.length := by
  unfold scanO; split
  · exact Nat.zero_le _
  · have := scanF_len s (s.length - 0) 0 (-1) []; unfold scanR; simp only [List.length_nil] at this; omega
theorem loopP_len (ws : List Wrd) : ∀ (f i : Nat) (ops : List COp), ops.length ≤ 12 → (loopP f ws i ops).1.length ≤ 12
  | 0, i, ops, _ => Nat.zero_le _
  | f + 1, i, ops, h => by
    rw [loopP]
    split
    · split
      · exact Nat.zero_le _
      · exact h
    split
    · exact Nat.zero_le _
    · rename_i h2
      exact loopP_len ws f _ _ (by have := (opR_right (Classical.not_not.1 h2)).2; rw [List.length_append, List.length_singleton]; omega)
theorem parse_len (ws : List Wrd) (p : Int) : (parseO ws p).2.1.length ≤ 12 := by
  unfold parseO bodyR
  split
  · exact Nat.zero_le _
  · simp only
    split
    · split
      · exact loopP_len ws _ _ _ (Nat.zero_le _)
      · exact Nat.zero_le _
    · exact Nat.zero_le _
set_option maxRecDepth 100000 in
theorem progAny (s : List UInt8) (p : Int) (w : World) (hT : Tb w) (hsx : s.length ≤ 9223372036854775807) : Ret Tryd.prog 5 #[vS s, .int .i64 p] w (fun v w' => v = .bool true ∧ Ext w w') := by
  refine Ret.enterM (l := [vS s, .int .i64 p]) Tryd.func5 rfl Tryd.ntmps5 rfl ([]) (no) (Mem.nil w) ?_
  refine wpM.seq ?_
  refine wpM.region ?_
  refine LM.val (ov_assign rfl) ?_
  refine LM.nil ?_
  refine QM.sub (e' := [(0, _), (1, _)]) ⟨rfl, rfl, trivial⟩ ?_
  refine QM.then ?_
  refine wpM.seq ?_
  refine wpM.seq ?_
  refine wpM.region ?_
  refine LM.callE (oc_call (enters_fn Tryd.func25 (by kernel_rfl) rfl) rfl) (fun w hm hc hg => awake10_spec w (hT.ext hc)) ?_
  first | refine LM.val (ov_notD rfl) ?_ | refine LM.val (ov_not rfl) ?_
  refine LM.nil ?_
  refine QM.sub (e' := [(0, _), (1, _), (15, _)]) ⟨rfl, rfl, rfl, trivial⟩ ?_
  refine QM.then ?_
  first | refine wpM.condD rfl (fun h1 => ?_) (fun h1 => ?_) | refine wpM.condB rfl (fun h1 => ?_) (fun h1 => ?_)
  ·
    refine wpM.seq ?_
    refine wpM.region ?_
    refine LM.val (ov_assign rfl) ?_
    refine LM.nil ?_
    refine QM.sub (e' := [(4, _)]) ⟨rfl, trivial⟩ ?_
    refine QM.then ?_
    refine wpM.ret ?_
    refine QM.then_ret ?_
    refine QM.leave (.inl rfl) [.tmp 4] Tryd.results5 rfl ?_
    intro w' hm' hc' hg'
    -- leaf 1: h1+
    first | exact ⟨rfl, hc'⟩ | (exfalso; first | omega | (simp at *; done) | (simp_all; done))
  ·
    refine wpM.skip ?_
    refine QM.then ?_
    refine wpM.seq ?_
    refine wpM.seq ?_
    refine wpM.region ?_
    refine LM.val (ov_move rfl) ?_
    refine LM.val (ov_slenL Tryd.underlying9 rfl) ?_
    refine LM.val (ov_gtr rfl rfl) ?_
    refine LM.nil ?_
    refine QM.sub (e' := [(0, _), (1, _), (18, _)]) ⟨rfl, rfl, rfl, trivial⟩ ?_
    refine QM.then ?_
    first | refine wpM.condD rfl (fun h2 => ?_) (fun h2 => ?_) | refine wpM.condB rfl (fun h2 => ?_) (fun h2 => ?_)
    ·
      refine wpM.seq ?_
      refine wpM.region ?_
      refine LM.val (ov_assign rfl) ?_
      refine LM.nil ?_
      refine QM.sub (e' := [(4, _)]) ⟨rfl, trivial⟩ ?_
      refine QM.then ?_
      refine wpM.ret ?_
      refine QM.then_ret ?_
      refine QM.leave (.inl rfl) [.tmp 4] Tryd.results5 rfl ?_
      intro w' hm' hc' hg'
      -- leaf 2: h1- h2+
      first | exact ⟨rfl, hc'⟩ | (exfalso; first | omega | (simp at *; done) | (simp_all; done))
    ·
      refine wpM.skip ?_
      refine QM.then ?_
      refine wpM.seq ?_
      refine wpM.region ?_
      refine LM.val (ov_move rfl) ?_
      refine LM.callT (oc_call (enters_fn Tryd.func20 (by kernel_rfl) rfl) rfl) ScT.mono (fun w hm hc hg => scan_spec w (by omega)) ?_
      rintro u21 m21 ⟨ad21, n21, cap21, rfl, hn21, hs21⟩ -; have hl21 := scan_len s
      refine LM.val (ov_move rfl) ?_
      refine LM.val (ov_extract rfl rfl) ?_
      refine LM.val (ov_extract rfl rfl) ?_
      refine LM.val (ov_extract rfl rfl) ?_
      refine LM.val (ov_assign rfl) ?_
      refine LM.val (ov_assign rfl) ?_
      refine LM.val (ov_assign rfl) ?_
      refine LM.nil ?_
      refine QM.sub (e' := [(1, _), (5, _)]) ⟨rfl, rfl, trivial⟩ ?_
      refine QM.then ?_
      refine wpM.seq ?_
      refine wpM.region ?_
      refine LM.val (ov_move rfl) ?_
      refine LM.val (ov_move rfl) ?_
      refine LM.callT (oc_call (enters_fn Tryd.func26 (by kernel_rfl) rfl) rfl) ParT.mono (fun w hm hc hg => parse_spec p w hn21 (by omega) (hs21.srM (by intro _; rfl) hm)) ?_
      rintro u28 m28 ⟨ad28, n28, cap28, rfl, hn28, hs28⟩ -; have hl28 := parse_len (scanO s).1 p
      refine LM.val (ov_move rfl) ?_
      refine LM.val (ov_extract rfl rfl) ?_
      refine LM.val (ov_extract rfl rfl) ?_
      refine LM.val (ov_extract rfl rfl) ?_
      refine LM.alloc Tryd.zeroValue53 rfl (fun b8 hb8 => ?_)
      first | refine LM.stW Tryd.sizeOf53 rfl rfl rfl rfl (by first | rfl | decide | (simp; done)) (fun hlt => absurd hlt (by omega)) ?_ | refine LM.st Tryd.sizeOf53 rfl rfl rfl (by first | decide | exact Nat.le_of_ble_eq_true rfl | (simp; done) | (simp; omega)) rfl (fun hlt => absurd hlt (by omega)) ?_
      refine LM.val (ov_assign rfl) ?_
      refine LM.val (ov_assign rfl) ?_
      refine LM.nil ?_
      refine QM.sub (e' := [(1, _), (5, _), (8, _), (9, _), (10, _)]) ⟨rfl, rfl, rfl, rfl, rfl, trivial⟩ ?_
      refine QM.then ?_
      refine wpM.seq ?_
      refine wpM.region ?_
      refine LM.val (ov_move rfl) ?_
      refine LM.val (ov_move rfl) ?_
      refine LM.callT (oc_call (enters_fn Tryd.func27 (by kernel_rfl) rfl) rfl) ParT.mono (fun w hm hc hg => rparse_spec p w hn21 (by omega) (hs21.srM (by intro _; rfl) hm)) ?_
      rintro u35 m35 ⟨ad35, n35, cap35, rfl, hn35, hs35⟩ -
      refine LM.val (ov_move rfl) ?_
      refine LM.val (ov_extract rfl rfl) ?_
      refine LM.val (ov_extract rfl rfl) ?_
      refine LM.val (ov_extract rfl rfl) ?_
      refine LM.alloc Tryd.zeroValue53 rfl (fun b11 hb11 => ?_)
      first | refine LM.stW Tryd.sizeOf53 rfl rfl rfl rfl (by first | rfl | decide | (simp; done)) (fun hlt => absurd hlt (by omega)) ?_ | refine LM.st Tryd.sizeOf53 rfl rfl rfl (by first | decide | exact Nat.le_of_ble_eq_true rfl | (simp; done) | (simp; omega)) rfl (fun hlt => absurd hlt (by omega)) ?_
      refine LM.val (ov_assign rfl) ?_
      refine LM.val (ov_assign rfl) ?_
      refine LM.nil ?_
      refine QM.sub (e' := [(8, _), (9, _), (10, _), (11, _), (12, _), (13, _)]) ⟨rfl, rfl, rfl, rfl, rfl, rfl, trivial⟩ ?_
      refine QM.then ?_
      refine wpM.seq ?_
      refine wpM.region ?_
      first | refine LM.rd (om_ldW Tryd.isAgg53 Tryd.sizeOf53 rfl rfl) ?_ | refine LM.rd (om_ldA Tryd.isAgg53 Tryd.sizeOf53 rfl (vs := [_, _]) rfl ⟨rfl, rfl, trivial⟩) ?_
      first | refine LM.rd (om_ldW Tryd.isAgg53 Tryd.sizeOf53 rfl rfl) ?_ | refine LM.rd (om_ldA Tryd.isAgg53 Tryd.sizeOf53 rfl (vs := [_, _]) rfl ⟨rfl, rfl, trivial⟩) ?_
      refine LM.callE (oc_call (enters_fn Tryd.func28 (by kernel_rfl) rfl) rfl) (fun w hm hc hg => rsame_spec w hn28 (hs28.srM (by intro _; rfl) hm) hn35 (hs35.srM (by intro _; rfl) hm) (by omega)) ?_
      refine LM.val (ov_move rfl) ?_
      first | refine LM.splitD (t := 42) rfl (fun h3 => ?_) (fun h3 => ?_) | refine LM.splitB (t := 42) rfl (fun h3 => ?_) (fun h3 => ?_)
      ·
        refine LM.strip (t := 42) rfl rfl rfl ?_
        refine LM.val (ov_move rfl) ?_
        refine LM.strip (t := 42) rfl rfl rfl ?_
        refine LM.val (ov_move rfl) ?_
        refine LM.strip (t := 42) rfl rfl rfl ?_
        refine LM.val (ov_eql rfl rfl) ?_
        refine LM.val (ov_pickT rfl rfl) ?_
        refine LM.val (ov_move rfl) ?_
        first | refine LM.splitD (t := 47) rfl (fun h4 => ?_) (fun h4 => ?_) | refine LM.splitB (t := 47) rfl (fun h4 => ?_) (fun h4 => ?_)
        ·
          refine LM.strip (t := 47) rfl rfl rfl ?_
          refine LM.val (ov_move rfl) ?_
          refine LM.strip (t := 47) rfl rfl rfl ?_
          refine LM.val (ov_move rfl) ?_
          refine LM.strip (t := 47) rfl rfl rfl ?_
          refine LM.val (ov_eql rfl rfl) ?_
          refine LM.val (ov_pickT rfl rfl) ?_
          refine LM.val (ov_move rfl) ?_
          first | refine LM.splitD (t := 52) rfl (fun h5 => ?_) (fun h5 => ?_) | refine LM.splitB (t := 52) rfl (fun h5 => ?_) (fun h5 => ?_)
          ·
            refine LM.strip (t := 52) rfl rfl rfl ?_
            refine LM.val (ov_move rfl) ?_
            refine LM.strip (t := 52) rfl rfl rfl ?_
            refine LM.val (ov_neq rfl rfl) ?_
            refine LM.strip (t := 52) rfl rfl rfl ?_
            refine LM.val (ov_move rfl) ?_
            first | refine LM.splitD (t := 55) rfl (fun h6 => ?_) (fun h6 => ?_) | refine LM.splitB (t := 55) rfl (fun h6 => ?_) (fun h6 => ?_)
            ·
              refine LM.drop (t := 55) rfl rfl rfl ?_
              refine LM.drop (t := 55) rfl rfl rfl ?_
              refine LM.strip (t := 52) rfl rfl rfl ?_
              refine LM.val (ov_pickT rfl rfl) ?_
              refine LM.val (ov_pickT rfl rfl) ?_
              refine LM.val (ov_assign rfl) ?_
              refine LM.nil ?_
              refine QM.sub (e' := [(4, _)]) ⟨rfl, trivial⟩ ?_
              refine QM.then ?_
              refine wpM.ret ?_
              refine QM.leave (.inl rfl) [.tmp 4] Tryd.results5 rfl ?_
              intro w' hm' hc' hg'
              -- leaf 3: h1- h2- h3+ h4+ h5+ h6+
              refine ⟨?_, hc'⟩; rfl
            ·
              refine LM.strip (t := 55) rfl rfl rfl ?_
              first | refine LM.rd (om_ldW Tryd.isAgg53 Tryd.sizeOf53 rfl rfl) ?_ | refine LM.rd (om_ldA Tryd.isAgg53 Tryd.sizeOf53 rfl (vs := [_, _]) rfl ⟨rfl, rfl, trivial⟩) ?_
              refine LM.strip (t := 55) rfl rfl rfl ?_
              refine LM.callE (oc_call (enters_fn Tryd.func29 (by kernel_rfl) rfl) rfl) (fun w hm hc hg => pmay_spec w hn28 (hs28.srM (by intro _; rfl) hm)) ?_
              refine LM.strip (t := 52) rfl rfl rfl ?_
              refine LM.val (ov_pickF rfl rfl) ?_
              refine LM.val (ov_pickT rfl rfl) ?_
              refine LM.val (ov_assign rfl) ?_
              refine LM.nil ?_
              refine QM.sub (e' := [(4, _)]) ⟨rfl, trivial⟩ ?_
              refine QM.then ?_
              refine wpM.ret ?_
              refine QM.leave (.inl rfl) [.tmp 4] Tryd.results5 rfl ?_
              intro w' hm' hc' hg'
              -- leaf 4: h1- h2- h3+ h4+ h5+ h6-
              refine ⟨?_, hc'⟩; show Value.bool (mayB _) = _; rw [parse_may (Classical.not_not.1 h6)]
          ·
            refine LM.drop (t := 52) rfl rfl rfl ?_
            refine LM.drop (t := 52) rfl rfl rfl ?_
            refine LM.dropU (t := 52) rfl rfl rfl ?_
            refine LM.dropX (t := 55) rfl rfl ?_
            refine LM.dropX (t := 55) rfl rfl ?_
            refine LM.drop (t := 52) rfl rfl rfl ?_
            refine LM.val (ov_pickF rfl rfl) ?_
            refine LM.val (ov_assign rfl) ?_
            refine LM.nil ?_
            refine QM.sub (e' := [(4, _)]) ⟨rfl, trivial⟩ ?_
            refine QM.then ?_
            refine wpM.ret ?_
            refine QM.leave (.inl rfl) [.tmp 4] Tryd.results5 rfl ?_
            intro w' hm' hc' hg'
            -- leaf 5: h1- h2- h3+ h4+ h5-
            first | exact ⟨rfl, hc'⟩ | (exfalso; first | omega | (simp at *; done) | (simp_all; done))
        ·
          refine LM.drop (t := 47) rfl rfl rfl ?_
          refine LM.drop (t := 47) rfl rfl rfl ?_
          refine LM.drop (t := 47) rfl rfl rfl ?_
          refine LM.val (ov_pickF rfl rfl) ?_
          refine LM.val (ov_move rfl) ?_
          refine LM.drop (t := 52) rfl rfl rfl ?_
          refine LM.drop (t := 52) rfl rfl rfl ?_
          refine LM.dropU (t := 52) rfl rfl rfl ?_
          refine LM.dropX (t := 55) rfl rfl ?_
          refine LM.dropX (t := 55) rfl rfl ?_
          refine LM.drop (t := 52) rfl rfl rfl ?_
          refine LM.val (ov_pickF rfl rfl) ?_
          refine LM.val (ov_assign rfl) ?_
          refine LM.nil ?_
          refine QM.sub (e' := [(4, _)]) ⟨rfl, trivial⟩ ?_
          refine QM.then ?_
          refine wpM.ret ?_
          refine QM.leave (.inl rfl) [.tmp 4] Tryd.results5 rfl ?_
          intro w' hm' hc' hg'
          -- leaf 6: h1- h2- h3+ h4-
          first | exact ⟨rfl, hc'⟩ | (exfalso; first | omega | (simp at *; done) | (simp_all; done))
      ·
        refine LM.drop (t := 42) rfl rfl rfl ?_
        refine LM.drop (t := 42) rfl rfl rfl ?_
        refine LM.drop (t := 42) rfl rfl rfl ?_
        refine LM.val (ov_pickF rfl rfl) ?_
        refine LM.val (ov_move rfl) ?_
        refine LM.drop (t := 47) rfl rfl rfl ?_
        refine LM.drop (t := 47) rfl rfl rfl ?_
        refine LM.drop (t := 47) rfl rfl rfl ?_
        refine LM.val (ov_pickF rfl rfl) ?_
        refine LM.val (ov_move rfl) ?_
        refine LM.drop (t := 52) rfl rfl rfl ?_
        refine LM.drop (t := 52) rfl rfl rfl ?_
        refine LM.dropU (t := 52) rfl rfl rfl ?_
        refine LM.dropX (t := 55) rfl rfl ?_
        refine LM.dropX (t := 55) rfl rfl ?_
        refine LM.drop (t := 52) rfl rfl rfl ?_
        refine LM.val (ov_pickF rfl rfl) ?_
        refine LM.val (ov_assign rfl) ?_
        refine LM.nil ?_
        refine QM.sub (e' := [(4, _)]) ⟨rfl, trivial⟩ ?_
        refine QM.then ?_
        refine wpM.ret ?_
        refine QM.leave (.inl rfl) [.tmp 4] Tryd.results5 rfl ?_
        intro w' hm' hc' hg'
        -- leaf 7: h1- h2- h3-
        first | exact ⟨rfl, hc'⟩ | (exfalso; first | omega | (simp at *; done) | (simp_all; done))

end Go.Eng

