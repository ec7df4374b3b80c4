/- The laws of events, walked. No condition. -/
import Derived.Test.YtbndlommbpkijaaDoorM2
import Derived.Test.YtbndlommbpkijaaDoorM1
import Derived.Shelf.Vars
set_option linter.unusedVariables false
set_option linter.unusedSimpArgs false
namespace Go.Eng
open Go Go.Proofs Go.RowKit
def aw24E : Evt := ⟨5#64, 4, 3, 0, 1⟩
def aw24L : List UInt8 := [53, 32, 97, 99, 113, 117, 105, 114, 101, 32, 51, 32, 48, 32, 49, 10]
def aw24M : List UInt8 := [55, 32, 119, 97, 107, 101, 32, 48, 32, 45, 32, 50, 10]
theorem aw24_line : lineO aw24E = (aw24L, 0) := by decide +kernel
theorem aw24_par : parO aw24M = ([⟨7#64, 7, 0, -1, 2⟩], 0, 0) := by decide +kernel
theorem printEv_may {xs : List Evt} (h : ¬ (printEv xs).2 ≠ 0) : xs.all mayEv = true := by
  unfold printEv at h
  split at h
  · rename_i q; exact q
  · exact absurd (show (1 : Int) ≠ 0 by decide) h
set_option maxRecDepth 100000 in
set_option maxHeartbeats 2000000 in
theorem awake24_spec (w : World) (hT : Tb w) (hX : MaxI w) : Ret Tryd.prog 14 #[] w (fun v w' => v = .bool true ∧ Ext w w') := by
 refine Ret.enterM (l := []) Tryd.func14 rfl Tryd.ntmps14 rfl ([]) (no) (Mem.nil w) ?_
 refine wpM.seq (wpM.region ?_)
 refine LM.as rfl ?_
 refine LM.nil (QM.sub (e' := []) trivial (QM.then (wpM.seq (wpM.region ?_))))
 refine LM.val (ov_build (cs := #[_, _, _, _, _]) rfl (by first | rfl | kernel_rfl)) ?_
 refine LM.alloc Tryd.zeroValue39 rfl (fun b1 hb1 => ?_)
 refine LM.stW Tryd.sizeOf39 rfl rfl rfl rfl au7 au8 ?_
 refine LM.nil (QM.sub (e' := [(1, _)]) ⟨rfl, trivial⟩ (QM.then (wpM.seq (wpM.region ?_))))
 refine LM.rd (om_ldW Tryd.isAgg39 Tryd.sizeOf39 rfl rfl) ?_
 refine LM.callE (oc_call (enters_fn Tryd.func18 (by kernel_rfl) rfl) rfl) (fun w hm hc hg => aw24_line ▸ eline_spec aw24E w (hT.ext hc)) ?_
 refine LM.mv rfl ?_
 refine LM.val (ov_extract rfl rfl) ?_
 refine LM.val (ov_extract rfl rfl) ?_
 refine LM.as rfl (LM.as rfl ?_)
 refine LM.nil (QM.sub (e' := [(2, _), (3, _)]) au9 (QM.then (wpM.seq (wpM.region ?_))))
 refine LM.callT (oc_call (enters_fn Tryd.func24 (by kernel_rfl) rfl) rfl) EvT.mono (fun w hm hc hg => eparse_spec aw24M w (hX.ext hc)) ?_
 rw [aw24_par]; rintro u14 m14 ⟨ad14, n14, cap14, rfl, hn14, hs14⟩ -; have hn14' : n14 = 1 := hn14
 refine LM.mv rfl ?_
 refine LM.val (ov_extract rfl rfl) ?_
 refine LM.val (ov_extract rfl rfl) ?_
 refine LM.val (ov_extract rfl rfl) ?_
 refine LM.as rfl (LM.as rfl (LM.as rfl ?_))
 refine LM.nil (QM.sub (e' := [(2, _), (3, _), (4, _), (5, _), (6, _)]) au9 (QM.then (wpM.seq (wpM.region ?_))))
 refine LM.mv rfl ?_
 refine LM.val (ov_seqlL rfl rfl) ?_
 refine LM.mv rfl ?_
 refine LM.splitD (t := 20) rfl (fun h1 => ?_) (fun h1 => ?_)
 ·
  refine LM.sp 20 rfl rfl rfl (LM.mv rfl (LM.sp 20 rfl rfl rfl ?_))
  refine LM.val (ov_eql rfl rfl) ?_
  refine LM.val (ov_pickT rfl rfl) ?_
  refine LM.mv rfl ?_
  refine LM.splitD (t := 24) rfl (fun h2 => ?_) (fun h2 => ?_)
  ·
   refine LM.sp 24 rfl rfl rfl (LM.mv rfl (LM.sp 24 rfl rfl rfl ?_))
   refine LM.val (ov_len Tryd.underlying33 rfl) ?_
   refine LM.sp 24 rfl rfl rfl ?_
   refine LM.val (ov_eql rfl rfl) ?_
   refine LM.val (ov_pickT rfl rfl) ?_
   refine LM.mv rfl ?_
   refine LM.splitD (t := 29) rfl (fun h3 => ?_) (fun h3 => ?_)
   ·
    refine LM.sp 29 rfl rfl rfl (LM.mv rfl (LM.sp 29 rfl rfl rfl ?_))
    refine LM.val (ov_eql rfl rfl) ?_
    refine LM.val (ov_pickT rfl rfl) ?_
    refine LM.mv rfl ?_
    refine LM.splitD (t := 33) rfl (fun h4 => ?_) (fun h4 => ?_)
    ·
     refine LM.sp 33 rfl rfl rfl (LM.mv rfl (LM.sp 33 rfl rfl rfl ?_))
     refine LM.val (ov_eql rfl rfl) ?_
     refine LM.val (ov_pickT rfl rfl) ?_
     refine LM.mv rfl ?_
     refine LM.splitD (t := 37) rfl (fun h5 => ?_) (fun h5 => ?_)
     ·
      refine LM.sp 37 rfl rfl rfl (LM.mv rfl (LM.sp 37 rfl rfl rfl ?_))
      refine LM.val (ov_idxSN (i := 0) au6 Tryd.underlying33 Tryd.sizeOf39 rfl rfl (by omega)) ?_
      refine LM.sp 37 rfl rfl rfl ?_
      refine LM.rd (om_slA (by assumption) (by intro _; rfl) Tryd.isAgg39 Tryd.sizeOf39 rfl au3) ?_
      refine LM.sp 37 rfl rfl rfl ?_
      refine LM.val (ov_build (cs := #[_, _, _, _, _]) rfl (by first | rfl | kernel_rfl)) ?_
      refine LM.sp 37 rfl rfl rfl ?_
      refine LM.val (ov_aeql Tryd.underlying39 (by kernel_rfl) (by kernel_rfl) (by decide) rfl rfl (by rfl) ⟨(by first | rfl | trivial), (by first | rfl | trivial), (by first | rfl | trivial), (by first | rfl | trivial), (by first | rfl | trivial), trivial⟩) ?_
      refine LM.val (ov_pickT rfl rfl) ?_
      refine LM.as rfl ?_
      refine LM.nil (QM.sub (e' := [(0, _)]) ⟨rfl, trivial⟩ (QM.then ?_))
      refine wpM.ret ?_
      refine QM.leave (.inl rfl) [.tmp 0] Tryd.results14 rfl ?_
      intro w' hm' hc' hg'
      exact ⟨rfl, hc'⟩
     refine LM.dr 37 rfl rfl rfl (LM.dr 37 rfl rfl rfl (LM.dr 37 rfl rfl rfl (LM.dr 37 rfl rfl rfl (LM.dr 37 rfl rfl rfl ?_))))
     refine LM.val (ov_pickF rfl rfl) ?_
     refine LM.as rfl ?_
     refine LM.nil (QM.sub (e' := [(0, _)]) ⟨rfl, trivial⟩ (QM.then ?_))
     refine wpM.ret ?_
     refine QM.leave (.inl rfl) [.tmp 0] Tryd.results14 rfl ?_
     intro w' hm' hc' hg'
     first | exact ⟨rfl, hc'⟩ | (exfalso; first | omega | (simp at *; done) | (simp_all; done))
    refine LM.dr 33 rfl rfl rfl (LM.dr 33 rfl rfl rfl ?_)
    refine LM.val (ov_pickF rfl rfl) ?_
    refine LM.mv rfl (LM.dr 37 rfl rfl rfl (LM.dr 37 rfl rfl rfl (LM.dr 37 rfl rfl rfl (LM.dr 37 rfl rfl rfl (LM.dr 37 rfl rfl rfl ?_)))))
    refine LM.val (ov_pickF rfl rfl) ?_
    refine LM.as rfl ?_
    refine LM.nil (QM.sub (e' := [(0, _)]) ⟨rfl, trivial⟩ (QM.then ?_))
    refine wpM.ret ?_
    refine QM.leave (.inl rfl) [.tmp 0] Tryd.results14 rfl ?_
    intro w' hm' hc' hg'
    first | exact ⟨rfl, hc'⟩ | (exfalso; first | omega | (simp at *; done) | (simp_all; done))
   refine LM.dr 29 rfl rfl rfl (LM.dr 29 rfl rfl rfl ?_)
   refine LM.val (ov_pickF rfl rfl) ?_
   refine LM.mv rfl (LM.dr 33 rfl rfl rfl (LM.dr 33 rfl rfl rfl ?_))
   refine LM.val (ov_pickF rfl rfl) ?_
   refine LM.mv rfl (LM.dr 37 rfl rfl rfl (LM.dr 37 rfl rfl rfl (LM.dr 37 rfl rfl rfl (LM.dr 37 rfl rfl rfl (LM.dr 37 rfl rfl rfl ?_)))))
   refine LM.val (ov_pickF rfl rfl) ?_
   refine LM.as rfl ?_
   refine LM.nil (QM.sub (e' := [(0, _)]) ⟨rfl, trivial⟩ (QM.then ?_))
   refine wpM.ret ?_
   refine QM.leave (.inl rfl) [.tmp 0] Tryd.results14 rfl ?_
   intro w' hm' hc' hg'
   first | exact ⟨rfl, hc'⟩ | (exfalso; first | omega | (simp at *; done) | (simp_all; done))
  refine LM.dr 24 rfl rfl rfl (LM.dr 24 rfl rfl rfl (LM.dr 24 rfl rfl rfl ?_))
  refine LM.val (ov_pickF rfl rfl) ?_
  refine LM.mv rfl (LM.dr 29 rfl rfl rfl (LM.dr 29 rfl rfl rfl ?_))
  refine LM.val (ov_pickF rfl rfl) ?_
  refine LM.mv rfl (LM.dr 33 rfl rfl rfl (LM.dr 33 rfl rfl rfl ?_))
  refine LM.val (ov_pickF rfl rfl) ?_
  refine LM.mv rfl (LM.dr 37 rfl rfl rfl (LM.dr 37 rfl rfl rfl (LM.dr 37 rfl rfl rfl (LM.dr 37 rfl rfl rfl (LM.dr 37 rfl rfl rfl ?_)))))
  refine LM.val (ov_pickF rfl rfl) ?_
  refine LM.as rfl ?_
  refine LM.nil (QM.sub (e' := [(0, _)]) ⟨rfl, trivial⟩ (QM.then ?_))
  refine wpM.ret ?_
  refine QM.leave (.inl rfl) [.tmp 0] Tryd.results14 rfl ?_
  intro w' hm' hc' hg'
  first | exact ⟨rfl, hc'⟩ | (exfalso; first | omega | (simp at *; done) | (simp_all; done))
 refine LM.dr 20 rfl rfl rfl (LM.dr 20 rfl rfl rfl ?_)
 refine LM.val (ov_pickF rfl rfl) ?_
 refine LM.mv rfl (LM.dr 24 rfl rfl rfl (LM.dr 24 rfl rfl rfl (LM.dr 24 rfl rfl rfl ?_)))
 refine LM.val (ov_pickF rfl rfl) ?_
 refine LM.mv rfl (LM.dr 29 rfl rfl rfl (LM.dr 29 rfl rfl rfl ?_))
 refine LM.val (ov_pickF rfl rfl) ?_
 refine LM.mv rfl (LM.dr 33 rfl rfl rfl (LM.dr 33 rfl rfl rfl ?_))
 refine LM.val (ov_pickF rfl rfl) ?_
 refine LM.mv rfl (LM.dr 37 rfl rfl rfl (LM.dr 37 rfl rfl rfl (LM.dr 37 rfl rfl rfl (LM.dr 37 rfl rfl rfl (LM.dr 37 rfl rfl rfl ?_)))))
 refine LM.val (ov_pickF rfl rfl) ?_
 refine LM.as rfl ?_
 refine LM.nil (QM.sub (e' := [(0, _)]) ⟨rfl, trivial⟩ (QM.then ?_))
 refine wpM.ret ?_
 refine QM.leave (.inl rfl) [.tmp 0] Tryd.results14 rfl ?_
 intro w' hm' hc' hg'
 exact absurd rfl h1
end Go.Eng
namespace Go.Eng
open Go Go.Proofs Go.RowKit
theorem par_joined {xs : List Evt} {b : List UInt8} (h : xs.all mayEv = true) (hl : xs.length ≤ 1000) (hb : b.length ≤ 100000) : parO (xs.flatMap lineEv ++ [120] ++ b ++ [10]) = ([], ((xs.flatMap lineEv).length : Int), 5) := by
  have h1 := lines_len h
  unfold parO
  rw [if_neg (by simp only [List.length_append, List.length_cons, List.length_nil]; omega)]
  rw [par_lines xs ([120] ++ b ++ [10]) 0 [] (by simp) h, par_x (r := b ++ [10]) (by simp)]
  simp
theorem printEv_app (xs ys : List Evt) : printEv (xs ++ ys) = if xs.all mayEv && ys.all mayEv then ((printEv xs).1 ++ (printEv ys).1, 0) else ([], 1) := by
  unfold printEv
  rw [List.all_append]
  cases hx : xs.all mayEv <;> cases hy : ys.all mayEv <;> simp
theorem printEv_bad {xs : List Evt} (h : (printEv xs).2 ≠ 0) : xs.all mayEv = false := by
  cases hq : xs.all mayEv with
  | false => rfl
  | true => unfold printEv at h; rw [hq] at h; simp at h
theorem printEv_is {xs : List Evt} (h : ¬ (printEv xs).2 ≠ 0) : (printEv xs).1 = xs.flatMap lineEv := by
  have := printEv_may h
  unfold printEv; rw [if_pos this]
set_option maxRecDepth 100000 in
set_option maxHeartbeats 4000000 in
theorem eventJoined {xs ys : List Evt} {ad1 ad2 : Option Addr} {n1 n2 cap1 cap2 : Nat} (w : World) (hT : Tb w) (hX : MaxI w) (hn1 : n1 = xs.length) (hl1 : Sr fE 5 xs (.slice ad1 n1 cap1) w) (hn2 : n2 = ys.length) (hl2 : Sr fE 5 ys (.slice ad2 n2 cap2) w) : Ret Tryd.prog 7 #[.slice ad1 n1 cap1, .slice ad2 n2 cap2] w (fun v w' => v = .bool true ∧ Ext w w') := by
 refine Ret.enterM (l := [.slice ad1 n1 cap1, .slice ad2 n2 cap2]) Tryd.func7 rfl Tryd.ntmps7 rfl ([]) (no) (Mem.nil w) ?_
 refine wpM.seq (wpM.region ?_)
 refine LM.as rfl ?_
 refine LM.nil (QM.sub (e' := [(0, _), (1, _)]) au9 (QM.then ?_))
 refine wpM.seq ?_
 refine wpM.seq (wpM.region ?_)
 refine LM.callE (oc_call (enters_fn Tryd.func14 (by kernel_rfl) rfl) rfl) (fun w hm hc hg => awake24_spec w (hT.ext hc) (hX.ext hc)) ?_
 first | refine LM.val (ov_notD rfl) ?_ | refine LM.val (ov_not rfl) ?_
 refine LM.nil (QM.sub (e' := [(0, _), (1, _), (15, _)]) au9 (QM.then ?_))
 first | refine wpM.condD rfl (fun h1 => ?_) (fun h1 => ?_) | refine wpM.condB rfl (fun h1 => ?_) (fun h1 => ?_)
 ·
  refine wpM.seq (wpM.region ?_)
  refine LM.as rfl ?_
  refine LM.nil (QM.sub (e' := [(4, _)]) ⟨rfl, trivial⟩ (QM.then ?_))
  refine wpM.ret ?_
  refine QM.then_ret ?_
  refine QM.leave (.inl rfl) [.tmp 4] Tryd.results7 rfl ?_
  intro w' hm' hc' hg'
  first | exact ⟨rfl, hc'⟩ | (exfalso; first | omega | (simp at *; done) | (simp_all; done))
 refine wpM.skip ?_
 refine QM.then ?_
 refine wpM.seq ?_
 refine wpM.seq (wpM.region ?_)
 refine LM.mv rfl ?_
 refine LM.val (ov_len Tryd.underlying33 rfl) ?_
 refine LM.val (ov_gtr rfl rfl) ?_
 refine LM.mv rfl ?_
 refine LM.splitD (t := 19) rfl (fun h2 => ?_) (fun h2 => ?_)
 ·
  refine LM.dr 19 rfl rfl rfl (LM.dr 19 rfl rfl rfl (LM.dr 19 rfl rfl rfl ?_))
  refine LM.val (ov_pickT rfl rfl) ?_
  refine LM.nil (QM.sub (e' := [(0, _), (1, _), (23, _)]) au9 (QM.then ?_))
  refine wpM.condT rfl ?_
  refine wpM.seq (wpM.region ?_)
  refine LM.as rfl ?_
  refine LM.nil (QM.sub (e' := [(4, _)]) ⟨rfl, trivial⟩ (QM.then ?_))
  refine wpM.ret ?_
  refine QM.then_ret ?_
  refine QM.leave (.inl rfl) [.tmp 4] Tryd.results7 rfl ?_
  intro w' hm' hc' hg'
  exact ⟨rfl, hc'⟩
 refine LM.sp 19 rfl rfl rfl (LM.mv rfl (LM.sp 19 rfl rfl rfl ?_))
 refine LM.val (ov_len Tryd.underlying33 rfl) ?_
 refine LM.sp 19 rfl rfl rfl ?_
 refine LM.val (ov_gtr rfl rfl) ?_
 refine LM.val (ov_pickF rfl rfl) ?_
 refine LM.nil (QM.sub (e' := [(0, _), (1, _), (23, _)]) au9 (QM.then ?_))
 refine wpM.condD rfl (fun h3 => ?_) (fun h3 => ?_)
 ·
  refine wpM.seq (wpM.region ?_)
  refine LM.as rfl ?_
  refine LM.nil (QM.sub (e' := [(4, _)]) ⟨rfl, trivial⟩ (QM.then ?_))
  refine wpM.ret ?_
  refine QM.then_ret ?_
  refine QM.leave (.inl rfl) [.tmp 4] Tryd.results7 rfl ?_
  intro w' hm' hc' hg'
  exact ⟨rfl, hc'⟩
 refine wpM.skip ?_
 refine QM.then (wpM.seq (wpM.region ?_))
 refine LM.mv rfl ?_
 refine LM.callE (oc_call (enters_fn Tryd.func16 (by kernel_rfl) rfl) rfl) (fun w hm hc hg => eprint_spec (xs := xs) w hn1 (hl1.ext hc) (by omega) (hT.ext hc)) ?_
 refine LM.mv rfl ?_
 refine LM.val (ov_extract rfl rfl) ?_
 refine LM.val (ov_extract rfl rfl) ?_
 refine LM.as rfl (LM.as rfl ?_)
 refine LM.nil (QM.sub (e' := [(0, _), (1, _), (5, _), (6, _)]) au9 (QM.then (wpM.seq (wpM.region ?_))))
 refine LM.mv rfl ?_
 refine LM.callE (oc_call (enters_fn Tryd.func16 (by kernel_rfl) rfl) rfl) (fun w hm hc hg => eprint_spec (xs := ys) w hn2 (hl2.ext hc) (by omega) (hT.ext hc)) ?_
 refine LM.mv rfl ?_
 refine LM.val (ov_extract rfl rfl) ?_
 refine LM.val (ov_extract rfl rfl) ?_
 refine LM.as rfl (LM.as rfl ?_)
 refine LM.nil (QM.sub (e' := [(0, _), (1, _), (5, _), (6, _), (7, _), (8, _)]) au9 (QM.then (wpM.seq (wpM.region ?_))))
 refine LM.row0 Tryd.underlying33 Tryd.sizeOf39 rfl (fun b35 hb35 => ?_); have hs35 : Sl fE 39 5 w.heap.size ([] : List Evt) (.slice (some ⟨b35, 0, none⟩) 0 0) [(b35, .cells (([] : List Value).toArray) 39 (0, 0))] := .void hb35 (Nat.zero_le _) rfl
 refine LM.mv rfl ?_
 refine LM.appN (ys := xs) (m := [(b35, .cells (([] : List Value).toArray) 39 (0, 0))]) Tryd.underlying33 Tryd.typeInfo39 rfl rfl rfl rfl rfl rfl rfl hs35 (fun w hm hc hg => hl1.ext hc) (by intro _; rfl) (by intro _ u hu; simp [fE] at hu; (repeat (first | (rcases hu with rfl | hu) | subst hu | rfl))) (Nat.le_refl _) (fun p hp hlt => absurd hlt (Nat.not_lt_of_le (Sl.ge hs35 p hp))) (by unfold maxLen; simp only [List.length_nil, List.length_append]; omega) (by simp only [Tryd.t39, List.length_nil, List.length_append]; omega) (fun ad37 n37 cap37 m37 hn37 hs37 hin37 => ?_)
 refine LM.mv rfl ?_
 refine LM.appN (ys := ys) Tryd.underlying33 Tryd.typeInfo39 rfl rfl rfl rfl rfl rfl rfl hs37 (fun w hm hc hg => hl2.ext hc) (by intro _; rfl) (by intro _ u hu; simp [fE] at hu; (repeat (first | (rcases hu with rfl | hu) | subst hu | rfl))) (Nat.le_refl _) (fun p hp hlt => absurd hlt (Nat.not_lt_of_le (Sl.ge hs37 p hp))) (by unfold maxLen; simp only [List.length_nil, List.length_append]; omega) (by simp only [Tryd.t39, List.length_nil, List.length_append]; omega) (fun ad39 n39 cap39 m39 hn39 hs39 hin39 => ?_)
 refine LM.callE (oc_call (enters_fn Tryd.func16 (by kernel_rfl) rfl) rfl) (fun w hm hc hg => eprint_spec (xs := xs ++ ys) w (by rw [List.length_append]; exact hn39) (hs39.srM (by intro _; rfl) hm) (by rw [List.length_append]; omega) (hT.ext hc)) ?_
 refine LM.mv rfl ?_
 refine LM.val (ov_extract rfl rfl) ?_
 refine LM.val (ov_extract rfl rfl) ?_
 refine LM.as rfl (LM.as rfl ?_)
 refine LM.nil (QM.sub (e' := [(5, _), (6, _), (7, _), (8, _), (9, _), (10, _)]) au9 (QM.then ?_))
 refine wpM.seq ?_
 refine wpM.seq (wpM.region ?_)
 refine LM.mv rfl ?_
 refine LM.val (ov_neq rfl rfl) ?_
 refine LM.mv rfl ?_
 refine LM.splitD (t := 45) rfl (fun h4 => ?_) (fun h4 => ?_)
 ·
  refine LM.dr 45 rfl rfl rfl (LM.dr 45 rfl rfl rfl ?_)
  refine LM.val (ov_pickT rfl rfl) ?_
  refine LM.nil (QM.sub (e' := [(5, _), (7, _), (9, _), (10, _), (48, _)]) au9 (QM.then ?_))
  refine wpM.condT rfl ?_
  refine wpM.seq (wpM.region ?_)
  refine LM.mv rfl ?_
  refine LM.val (ov_seqlL rfl rfl) ?_
  refine LM.mv rfl ?_
  refine LM.splitD (t := 51) rfl (fun h5 => ?_) (fun h5 => ?_)
  ·
   refine LM.sp 51 rfl rfl rfl (LM.mv rfl (LM.sp 51 rfl rfl rfl ?_))
   refine LM.val (ov_eql rfl rfl) ?_
   refine LM.val (ov_pickT rfl rfl) ?_
   refine LM.as rfl ?_
   refine LM.nil (QM.sub (e' := [(4, _)]) ⟨rfl, trivial⟩ (QM.then ?_))
   refine wpM.ret ?_
   refine QM.then_ret ?_
   refine QM.leave (.inl rfl) [.tmp 4] Tryd.results7 rfl ?_
   intro w' hm' hc' hg'
   refine ⟨?_, hc'⟩; have hpa : printEv (xs ++ ys) = ([], 1) := (by rw [printEv_app, printEv_bad h4]; rfl); rw [hpa]; rfl
  refine LM.dr 51 rfl rfl rfl (LM.dr 51 rfl rfl rfl ?_)
  refine LM.val (ov_pickF rfl rfl) ?_
  refine LM.as rfl ?_
  refine LM.nil (QM.sub (e' := [(4, _)]) ⟨rfl, trivial⟩ (QM.then ?_))
  refine wpM.ret ?_
  refine QM.then_ret ?_
  refine QM.leave (.inl rfl) [.tmp 4] Tryd.results7 rfl ?_
  intro w' hm' hc' hg'
  have hpa : printEv (xs ++ ys) = ([], 1) := (by rw [printEv_app, printEv_bad h4]; rfl); exact absurd (by rw [hpa]) h5
 refine LM.sp 45 rfl rfl rfl (LM.mv rfl (LM.sp 45 rfl rfl rfl ?_))
 refine LM.val (ov_neq rfl rfl) ?_
 refine LM.val (ov_pickF rfl rfl) ?_
 refine LM.nil (QM.sub (e' := [(5, _), (7, _), (9, _), (10, _), (48, _)]) au9 (QM.then ?_))
 refine wpM.condD rfl (fun h6 => ?_) (fun h6 => ?_)
 ·
  refine wpM.seq (wpM.region ?_)
  refine LM.mv rfl ?_
  refine LM.val (ov_seqlL rfl rfl) ?_
  refine LM.mv rfl ?_
  refine LM.splitD (t := 51) rfl (fun h7 => ?_) (fun h7 => ?_)
  ·
   refine LM.sp 51 rfl rfl rfl (LM.mv rfl (LM.sp 51 rfl rfl rfl ?_))
   refine LM.val (ov_eql rfl rfl) ?_
   refine LM.val (ov_pickT rfl rfl) ?_
   refine LM.as rfl ?_
   refine LM.nil (QM.sub (e' := [(4, _)]) ⟨rfl, trivial⟩ (QM.then ?_))
   refine wpM.ret ?_
   refine QM.then_ret ?_
   refine QM.leave (.inl rfl) [.tmp 4] Tryd.results7 rfl ?_
   intro w' hm' hc' hg'
   refine ⟨?_, hc'⟩; have hpa : printEv (xs ++ ys) = ([], 1) := (by rw [printEv_app, printEv_bad h6, Bool.and_false]; rfl); rw [hpa]; rfl
  refine LM.dr 51 rfl rfl rfl (LM.dr 51 rfl rfl rfl ?_)
  refine LM.val (ov_pickF rfl rfl) ?_
  refine LM.as rfl ?_
  refine LM.nil (QM.sub (e' := [(4, _)]) ⟨rfl, trivial⟩ (QM.then ?_))
  refine wpM.ret ?_
  refine QM.then_ret ?_
  refine QM.leave (.inl rfl) [.tmp 4] Tryd.results7 rfl ?_
  intro w' hm' hc' hg'
  have hpa : printEv (xs ++ ys) = ([], 1) := (by rw [printEv_app, printEv_bad h6, Bool.and_false]; rfl); exact absurd (by rw [hpa]) h7
 have hm1 := printEv_may h4; have hm2 := printEv_may h6; have hp1 := printEv_is h4; have hp2 := printEv_is h6; have hL1 := lines_len hm1; have hL2 := lines_len hm2; rw [← hp1] at hL1; rw [← hp2] at hL2; have hpj : parO ((printEv xs).1 ++ [120] ++ (printEv ys).1 ++ [10]) = ([], ((printEv xs).1.length : Int), 5) := (by have := par_joined (b := (printEv ys).1) hm1 (by omega) (by omega); rw [← hp1] at this; exact this); have hpa : printEv (xs ++ ys) = ((printEv xs).1 ++ (printEv ys).1, 0) := (by rw [printEv_app, hm1, hm2]; rfl)
 refine wpM.skip ?_
 refine QM.then (wpM.seq (wpM.region ?_))
 refine LM.mv rfl ?_
 refine LM.val (ov_saddL rfl rfl (by first | omega | (simp only [List.length_append, List.length_cons, List.length_nil]; omega))) ?_
 refine LM.mv rfl ?_
 refine LM.val (ov_saddL rfl rfl (by first | omega | (simp only [List.length_append, List.length_cons, List.length_nil]; omega))) ?_
 refine LM.val (ov_saddL rfl rfl (by first | omega | (simp only [List.length_append, List.length_cons, List.length_nil]; omega))) ?_
 refine LM.callT (oc_call (enters_fn Tryd.func24 (by kernel_rfl) rfl) rfl) EvT.mono (fun w hm hc hg => eparse_spec ((printEv xs).1 ++ [120] ++ (printEv ys).1 ++ [10]) w (hX.ext hc)) ?_
 rw [hpj]; rintro u61 m61 ⟨ad61, n61, cap61, rfl, hn61, hs61⟩ -
 refine LM.mv rfl ?_
 refine LM.val (ov_extract rfl rfl) ?_
 refine LM.val (ov_extract rfl rfl) ?_
 refine LM.val (ov_extract rfl rfl) ?_
 refine LM.as rfl (LM.as rfl (LM.as rfl ?_))
 refine LM.nil (QM.sub (e' := [(5, _), (7, _), (9, _), (10, _), (11, _), (12, _), (13, _)]) au9 (QM.then (wpM.seq (wpM.region ?_))))
 refine LM.mv rfl (LM.mv rfl (LM.mv rfl ?_))
 refine LM.val (ov_saddL rfl rfl (by first | omega | (simp only [List.length_append, List.length_cons, List.length_nil]; omega))) ?_
 refine LM.val (ov_seqlL rfl rfl) ?_
 refine LM.mv rfl ?_
 refine LM.splitD (t := 70) rfl (fun h8 => ?_) (fun h8 => ?_)
 ·
  refine LM.sp 70 rfl rfl rfl (LM.mv rfl (LM.sp 70 rfl rfl rfl ?_))
  refine LM.val (ov_eql rfl rfl) ?_
  refine LM.val (ov_pickT rfl rfl) ?_
  refine LM.mv rfl ?_
  refine LM.splitD (t := 74) rfl (fun h9 => ?_) (fun h9 => ?_)
  ·
   refine LM.sp 74 rfl rfl rfl (LM.mv rfl (LM.sp 74 rfl rfl rfl ?_))
   refine LM.val (ov_len Tryd.underlying33 rfl) ?_
   refine LM.sp 74 rfl rfl rfl ?_
   refine LM.val (ov_eql rfl rfl) ?_
   refine LM.val (ov_pickT rfl rfl) ?_
   refine LM.mv rfl ?_
   refine LM.splitD (t := 79) rfl (fun h10 => ?_) (fun h10 => ?_)
   ·
    refine LM.sp 79 rfl rfl rfl (LM.mv rfl (LM.sp 79 rfl rfl rfl (LM.mv rfl (LM.sp 79 rfl rfl rfl ?_))))
    refine LM.val (ov_slenL Tryd.underlying9 rfl) ?_
    refine LM.sp 79 rfl rfl rfl ?_
    refine LM.val (ov_eql rfl rfl) ?_
    refine LM.val (ov_pickT rfl rfl) ?_
    refine LM.mv rfl ?_
    refine LM.splitD (t := 85) rfl (fun h11 => ?_) (fun h11 => ?_)
    ·
     refine LM.sp 85 rfl rfl rfl (LM.mv rfl (LM.sp 85 rfl rfl rfl ?_))
     refine LM.val (ov_eql rfl rfl) ?_
     refine LM.val (ov_pickT rfl rfl) ?_
     refine LM.as rfl ?_
     refine LM.nil (QM.sub (e' := [(4, _)]) ⟨rfl, trivial⟩ (QM.then ?_))
     refine wpM.ret ?_
     refine QM.leave (.inl rfl) [.tmp 4] Tryd.results7 rfl ?_
     intro w' hm' hc' hg'
     exact ⟨rfl, hc'⟩
    refine LM.dr 85 rfl rfl rfl (LM.dr 85 rfl rfl rfl ?_)
    refine LM.val (ov_pickF rfl rfl) ?_
    refine LM.as rfl ?_
    refine LM.nil (QM.sub (e' := [(4, _)]) ⟨rfl, trivial⟩ (QM.then ?_))
    refine wpM.ret ?_
    refine QM.leave (.inl rfl) [.tmp 4] Tryd.results7 rfl ?_
    intro w' hm' hc' hg'
    exact absurd rfl h11
   refine LM.dr 79 rfl rfl rfl (LM.dr 79 rfl rfl rfl (LM.dr 79 rfl rfl rfl (LM.dr 79 rfl rfl rfl ?_)))
   refine LM.val (ov_pickF rfl rfl) ?_
   refine LM.mv rfl (LM.dr 85 rfl rfl rfl (LM.dr 85 rfl rfl rfl ?_))
   refine LM.val (ov_pickF rfl rfl) ?_
   refine LM.as rfl ?_
   refine LM.nil (QM.sub (e' := [(4, _)]) ⟨rfl, trivial⟩ (QM.then ?_))
   refine wpM.ret ?_
   refine QM.leave (.inl rfl) [.tmp 4] Tryd.results7 rfl ?_
   intro w' hm' hc' hg'
   exact absurd (by rw [hn61]; rfl) h10
  refine LM.dr 74 rfl rfl rfl (LM.dr 74 rfl rfl rfl (LM.dr 74 rfl rfl rfl ?_))
  refine LM.val (ov_pickF rfl rfl) ?_
  refine LM.mv rfl (LM.dr 79 rfl rfl rfl (LM.dr 79 rfl rfl rfl (LM.dr 79 rfl rfl rfl (LM.dr 79 rfl rfl rfl ?_))))
  refine LM.val (ov_pickF rfl rfl) ?_
  refine LM.mv rfl (LM.dr 85 rfl rfl rfl (LM.dr 85 rfl rfl rfl ?_))
  refine LM.val (ov_pickF rfl rfl) ?_
  refine LM.as rfl ?_
  refine LM.nil (QM.sub (e' := [(4, _)]) ⟨rfl, trivial⟩ (QM.then ?_))
  refine wpM.ret ?_
  refine QM.leave (.inl rfl) [.tmp 4] Tryd.results7 rfl ?_
  intro w' hm' hc' hg'
  exact absurd (by rw [hpa]) h9
 refine LM.dr 70 rfl rfl rfl (LM.dr 70 rfl rfl rfl ?_)
 refine LM.val (ov_pickF rfl rfl) ?_
 refine LM.mv rfl (LM.dr 74 rfl rfl rfl (LM.dr 74 rfl rfl rfl (LM.dr 74 rfl rfl rfl ?_)))
 refine LM.val (ov_pickF rfl rfl) ?_
 refine LM.mv rfl (LM.dr 79 rfl rfl rfl (LM.dr 79 rfl rfl rfl (LM.dr 79 rfl rfl rfl (LM.dr 79 rfl rfl rfl ?_))))
 refine LM.val (ov_pickF rfl rfl) ?_
 refine LM.mv rfl (LM.dr 85 rfl rfl rfl (LM.dr 85 rfl rfl rfl ?_))
 refine LM.val (ov_pickF rfl rfl) ?_
 refine LM.as rfl ?_
 refine LM.nil (QM.sub (e' := [(4, _)]) ⟨rfl, trivial⟩ (QM.then ?_))
 refine wpM.ret ?_
 refine QM.leave (.inl rfl) [.tmp 4] Tryd.results7 rfl ?_
 intro w' hm' hc' hg'
 exact absurd (by rw [hpa]) h8
end Go.Eng
namespace Go.Eng
open Go Go.Proofs Go.RowKit
end Go.Eng
namespace Go.Eng
open Go Go.Proofs Go.RowKit Go.ChangeShapes Go.WideShapes
set_option maxRecDepth 100000 in
theorem rdb_api_Event : Rdb Tryd.prog 39 fE (fun a => (-9223372036854775808 ≤ a.k ∧ a.k ≤ 9223372036854775807) ∧ (-9223372036854775808 ≤ a.t ∧ a.t ≤ 9223372036854775807) ∧ (-9223372036854775808 ≤ a.l ∧ a.l ≤ 9223372036854775807) ∧ (-9223372036854775808 ≤ a.n ∧ a.n ≤ 9223372036854775807)) := fun {H enc w base sp held fuel cs x} h => by
  obtain ⟨h1, h2⟩ := trod_fields Tryd.underlying39 h
  rw [show Tryd.prog.cellsOf 39 = 5 by kernel_rfl] at h1
  have c3 : Tryd.prog.cellsOf 3 = 1 := by kernel_rfl
  have c37 : Tryd.prog.cellsOf 37 = 1 := by kernel_rfl
  match cs, h1 with
  | [a0, a1, a2, a3, a4], _ =>
    simp only [List.forall_mem_cons, c3, c37, List.drop_succ_cons, List.drop_zero, List.take_succ_cons, List.take_zero] at h2
    obtain ⟨⟨_, _, f0⟩, ⟨_, _, f1⟩, ⟨_, _, f2⟩, ⟨_, _, f3⟩, ⟨_, _, f4⟩, _⟩ := h2
    obtain ⟨m0, e0, _, w0⟩ := DataW.trod_int Tryd.underlying37 f0
    obtain ⟨m1, e1, _, w1⟩ := DataW.trod_int Tryd.underlying3 f1
    obtain ⟨m2, e2, _, w2⟩ := DataW.trod_int Tryd.underlying3 f2
    obtain ⟨m3, e3, _, w3⟩ := DataW.trod_int Tryd.underlying3 f3
    obtain ⟨m4, e4, _, w4⟩ := DataW.trod_int Tryd.underlying3 f4
    obtain ⟨x0, rfl⟩ := bv_of (bounds_u64 w0)
    simp only [List.cons.injEq, and_true] at e0 e1 e2 e3 e4
    subst e0
    subst e1
    subst e2
    subst e3
    subst e4
    exact ⟨⟨x0, m1, m2, m3, m4⟩, rfl, ⟨bounds_i64 w1, bounds_i64 w2, bounds_i64 w3, bounds_i64 w4⟩⟩
set_option maxRecDepth 100000 in
theorem maxI_of {W : World} (h : W.ShapedOpen Tryd.prog) : MaxI W :=
  cell_of_shapedOpen_int (zero := #[.int .i64 0]) (t := 3) h (of_decide_eq_true (by kernel_rfl)) (by kernel_rfl) (by kernel_rfl) (by kernel_rfl) (by kernel_rfl) Tryd.underlying3
end Go.Eng
