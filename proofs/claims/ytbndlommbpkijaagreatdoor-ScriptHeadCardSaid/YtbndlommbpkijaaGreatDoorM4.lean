/- prog.Same and ProgSames, walked. No condition. -/
import Derived.Test.YtbndlommbpkijaaGreatDoorM3
import Derived.Test.YtbndlommbpkijaaGreatDoorM2
set_option linter.unusedVariables false
set_option linter.unusedSimpArgs false
namespace Go.Eng
open Go Go.Proofs Go.RowKit
set_option maxRecDepth 100000 in
theorem eqo_spec {xs ys : List COp} {ad1 ad2 : Option Addr} {n1 n2 cap1 cap2 : Nat} (w : World) (hn1 : n1 = xs.length) (hl1 : Sr fO 3 xs (.slice ad1 n1 cap1) w) (hn2 : n2 = ys.length) (hl2 : Sr fO 3 ys (.slice ad2 n2 cap2) w) (hx : xs.length ≤ 1000000000) : Ret Tryz.prog 107 #[.slice ad1 n1 cap1, .slice ad2 n2 cap2] w (fun v w' => v = .bool (decide (xs = ys)) ∧ Ext w w') := by
 refine Ret.enterM (l := [.slice ad1 n1 cap1, .slice ad2 n2 cap2]) Tryz.func107 rfl Tryz.ntmps107 rfl ([]) (no) (Mem.nil w) ?_
 refine wpM.seq (wpM.region ?_)
 refine LM.as rfl ?_
 refine LM.nil (QM.sub (e' := [(0, _), (1, _)]) ⟨rfl, rfl, trivial⟩ (QM.then ?_))
 refine wpM.seq ?_
 refine wpM.seq (wpM.region ?_)
 refine LM.mv rfl ?_
 refine LM.val (ov_len Tryz.underlying85 rfl) ?_
 refine LM.mv rfl ?_
 refine LM.val (ov_len Tryz.underlying85 rfl) ?_
 refine LM.val (ov_neq rfl rfl) ?_
 refine LM.nil (QM.sub (e' := [(0, _), (1, _), (10, _)]) ⟨rfl, rfl, rfl, trivial⟩ (QM.then ?_))
 refine wpM.condD rfl (fun h1 => ?_) (fun h1 => ?_)
 ·
  refine wpM.seq (wpM.region ?_)
  refine LM.as rfl ?_
  refine LM.nil (QM.sub (e' := [(4, _)]) ⟨rfl, trivial⟩ (QM.then ?_))
  refine wpM.ret ?_
  refine QM.then_ret ?_
  refine QM.leave (.inl rfl) [.tmp 4] Tryz.results107 rfl ?_
  intro w' hm' hc' hg'
  refine ⟨?_, hc'⟩; show Value.bool false = _; rw [decide_eq_false (show ¬ xs = ys by intro q; have := congrArg List.length q; omega)]
 refine wpM.skip ?_
 refine QM.then ?_
 refine wpM.seq ?_
 refine wpM.seq (wpM.region ?_)
 refine LM.mv rfl ?_
 refine LM.val (ov_len Tryz.underlying85 rfl) ?_
 refine LM.mv rfl ?_
 refine LM.nil (QM.sub (e' := [(0, _), (1, _), (12, _), (13, _)]) ⟨rfl, rfl, rfl, rfl, trivial⟩ (QM.then ?_))
 refine wpM.block ?_
 refine wpM.loopK0 (α := Nat) (fun i => [(13, .int .i64 (i : Nat))]) [(0, _), (1, _), (12, _)] (fun i => []) (fun i => i ≤ xs.length ∧ xs.take i = ys.take i) (fun i => xs.length - i) (0) ⟨au2, rfl, rfl, rfl, trivial⟩ au1 ⟨Nat.zero_le _, rfl⟩ ?_
 rintro i ⟨hi, ha⟩
 change wpM _ _ _ _ _ _ _ ([]) _ _ _
 refine wpM.seq (wpM.region ?_)
 refine LM.val (ov_lss rfl rfl) ?_
 refine LM.nil (QM.sub (e' := [(0, _), (1, _), (12, _), (13, _), (14, _)]) ⟨rfl, rfl, rfl, rfl, rfl, trivial⟩ (QM.then ?_))
 refine wpM.seq ?_
 refine wpM.condD rfl (fun h2 => ?_) (fun h2 => ?_)
 ·
  refine wpM.skip ?_
  refine QM.then ?_
  refine wpM.seq ?_
  refine wpM.block ?_
  refine wpM.seq (wpM.region ?_)
  refine LM.mv rfl ?_
  refine LM.as rfl ?_
  refine LM.nil (QM.sub (e' := [(0, _), (1, _), (5, _), (12, _), (13, _)]) ⟨rfl, rfl, rfl, rfl, rfl, trivial⟩ (QM.then ?_))
  refine wpM.seq ?_
  refine wpM.draw [(0, 0), (1, 0), (2, 0), (3, 1), (4, 0), (5, 0), (6, 0), (7, 1), (8, 0)] (by kernel_rfl) (by kernel_rfl) ?_
  refine LD.val rfl rfl (ov_move rfl) ?_
  refine LD.val rfl rfl (ov_move rfl) ?_
  refine LD.val rfl rfl (ov_idxSN au6 Tryz.underlying85 Tryz.sizeOf135 rfl rfl (by omega)) ?_
  first | refine LD.rd rfl rfl (om_slA (by assumption) (by intro _; rfl) Tryz.isAgg135 Tryz.sizeOf135 rfl au3) ?_ | refine LD.rdC rfl rfl (om_srEA (by assumption) (by intro _; rfl) Tryz.isAgg135 Tryz.sizeOf135 rfl au3 id) ?_ | refine LD.rd rfl rfl (om_ldW Tryz.isAgg135 Tryz.sizeOf135 rfl rfl) ?_ | refine LD.rd rfl rfl (om_ldA Tryz.isAgg135 Tryz.sizeOf135 rfl (vs := [_, _, _]) rfl ⟨rfl, rfl, rfl, trivial⟩) ?_
  refine LD.val rfl rfl (ov_move rfl) ?_
  refine LD.val rfl rfl (ov_move rfl) ?_
  refine LD.val rfl rfl (ov_idxSN au6 Tryz.underlying85 Tryz.sizeOf135 rfl rfl (by omega)) ?_
  first | refine LD.rd rfl rfl (om_slA (by assumption) (by intro _; rfl) Tryz.isAgg135 Tryz.sizeOf135 rfl au3) ?_ | refine LD.rdC rfl rfl (om_srEA (by assumption) (by intro _; rfl) Tryz.isAgg135 Tryz.sizeOf135 rfl au3 id) ?_ | refine LD.rd rfl rfl (om_ldW Tryz.isAgg135 Tryz.sizeOf135 rfl rfl) ?_ | refine LD.rd rfl rfl (om_ldA Tryz.isAgg135 Tryz.sizeOf135 rfl (vs := [_, _, _]) rfl ⟨rfl, rfl, rfl, trivial⟩) ?_
  refine LD.val rfl rfl (ov_aneq Tryz.underlying135 (by kernel_rfl) (by kernel_rfl) (by decide) rfl rfl (by rfl) ⟨(by first | rfl | trivial), (by first | rfl | trivial), (by first | rfl | trivial), trivial⟩) ?_
  refine LD.nil ?_
  refine QM.sub (e' := [(0, _), (1, _), (12, _), (13, _), (24, _)]) ⟨rfl, rfl, rfl, rfl, rfl, trivial⟩ (QM.then ?_)
  first | refine wpM.condD rfl (fun h3 => ?_) (fun h3 => ?_) | refine wpM.condB rfl (fun h3 => ?_) (fun h3 => ?_)
  ·
   refine wpM.seq (wpM.region ?_)
   refine LM.as rfl ?_
   refine LM.nil (QM.sub (e' := [(4, _)]) ⟨rfl, trivial⟩ (QM.then ?_))
   refine wpM.ret ?_
   refine QM.block_ret ?_
   refine QM.then_ret ?_
   refine QM.then_ret ?_
   refine QM.block_ret ?_
   refine QM.then_ret ?_
   refine QM.leave (.inl rfl) [.tmp 4] Tryz.results107 rfl ?_
   intro w' hm' hc' hg'
   refine ⟨?_, hc'⟩; show Value.bool false = _; rw [decide_eq_false (show ¬ xs = ys by intro q; rw [fO_veqs, q] at h3; simp at h3)]
  refine wpM.skip ?_
  refine QM.block_normal ?_
  refine QM.then (wpM.region ?_)
  refine LM.val (ov_add64 rfl rfl (by omega)) ?_
  refine LM.mv rfl ?_
  refine LM.nil (QM.sub (e' := [(0, _), (1, _), (12, _), (13, _)]) ⟨rfl, rfl, rfl, rfl, trivial⟩ ?_)
  refine QM.againK (i + 1) ⟨au2, rfl, rfl, rfl, trivial⟩ au1 (fun _ h => h) ?_ ?_
  · exact ⟨by omega, eq_at (by omega) (by omega) ha (by rw [fO_veqs] at h3; simpa using h3)⟩
  · omega
 refine wpM.exit ?_
 refine QM.then_exit ?_
 refine QM.then_exit ?_
 refine QM.block_hit ?_
 refine QM.then (wpM.seq (wpM.region ?_))
 refine LM.as rfl ?_
 refine LM.nil (QM.sub (e' := [(4, _)]) ⟨rfl, trivial⟩ (QM.then ?_))
 refine wpM.ret ?_
 refine QM.leave (.inl rfl) [.tmp 4] Tryz.results107 rfl ?_
 intro w' hm' hc' hg'
 refine ⟨?_, hc'⟩; show Value.bool true = _; rw [decide_eq_true]; have e1 : xs.take i = xs := List.take_of_length_le (by omega); have e2 : ys.take i = ys := List.take_of_length_le (by omega); rw [← e1, ← e2, ha]
set_option maxRecDepth 100000 in
theorem psame_spec {xs ys : List COp} {f1 f2 : Bool} {ad1 ad2 : Option Addr} {n1 n2 cap1 cap2 : Nat} (w : World) (hn1 : n1 = xs.length) (hl1 : Sr fO 3 xs (.slice ad1 n1 cap1) w) (hn2 : n2 = ys.length) (hl2 : Sr fO 3 ys (.slice ad2 n2 cap2) w) (hx : xs.length ≤ 1000000000) : Ret Tryz.prog 65 #[pV f1 ad1 n1 cap1, pV f2 ad2 n2 cap2] w (fun v w' => v = .bool (decide (f1 = f2) && decide (xs = ys)) ∧ Ext w w') := by
 refine Ret.enterM (l := [pV f1 ad1 n1 cap1, pV f2 ad2 n2 cap2]) Tryz.func65 rfl Tryz.ntmps65 rfl ([]) (no) (Mem.nil w) ?_
 refine wpM.seq (wpM.region ?_)
 refine LM.box rfl rfl (fun b2 hb2 => ?_)
 refine LM.box rfl rfl (fun b3 hb3 => ?_)
 refine LM.as rfl ?_
 refine LM.nil (QM.sub (e' := [(2, _), (3, _)]) ⟨rfl, rfl, trivial⟩ (QM.then (wpM.seq (wpM.region ?_))))
 refine LM.val (ov_field Tryz.underlying87 rfl Tryz.sizeOf4 rfl (k := 0) rfl rfl) ?_
 refine LM.rd (om_ld Tryz.isAgg4 rfl rfl) ?_
 refine LM.val (ov_field Tryz.underlying87 rfl Tryz.sizeOf4 rfl (k := 0) rfl rfl) ?_
 refine LM.rd (om_ld Tryz.isAgg4 rfl rfl) ?_
 refine LM.val (ov_beql Tryz.underlying4 rfl rfl) ?_
 refine LM.mv rfl ?_
 refine LM.splitD (t := 10) rfl (fun h1 => ?_) (fun h1 => ?_)
 ·
  refine LM.sp 10 rfl rfl rfl ?_
  refine LM.val (ov_field Tryz.underlying87 rfl Tryz.sizeOf85 rfl (k := 1) rfl rfl) ?_
  refine LM.sp 10 rfl rfl rfl ?_
  refine LM.rd (om_ld Tryz.isAgg85 rfl rfl) ?_
  refine LM.sp 10 rfl rfl rfl ?_
  refine LM.val (ov_field Tryz.underlying87 rfl Tryz.sizeOf85 rfl (k := 1) rfl rfl) ?_
  refine LM.sp 10 rfl rfl rfl ?_
  refine LM.rd (om_ld Tryz.isAgg85 rfl rfl) ?_
  refine LM.sp 10 rfl rfl rfl ?_
  refine LM.callE (oc_call (enters_fn Tryz.func107 (by kernel_rfl) rfl) rfl) (fun w hm hc hg => eqo_spec w hn1 (hl1.ext hc) hn2 (hl2.ext hc) hx) ?_
  refine LM.val (ov_pickT rfl rfl) ?_
  refine LM.as rfl ?_
  refine LM.nil (QM.sub (e' := [(4, _)]) ⟨rfl, trivial⟩ (QM.then ?_))
  refine wpM.ret ?_
  refine QM.leave (.inl rfl) [.tmp 4] Tryz.results65 rfl ?_
  intro w' hm' hc' hg'
  refine ⟨?_, hc'⟩; show Value.bool (decide (xs = ys)) = _; rw [decide_eq_true (show f1 = f2 by simpa using h1), Bool.true_and]
 refine LM.dr 10 rfl rfl rfl ?_
 refine LM.dr 10 rfl rfl rfl ?_
 refine LM.dr 10 rfl rfl rfl ?_
 refine LM.dr 10 rfl rfl rfl ?_
 refine LM.dr 10 rfl rfl rfl ?_
 refine LM.val (ov_pickF rfl rfl) ?_
 refine LM.as rfl ?_
 refine LM.nil (QM.sub (e' := [(4, _)]) ⟨rfl, trivial⟩ (QM.then ?_))
 refine wpM.ret ?_
 refine QM.leave (.inl rfl) [.tmp 4] Tryz.results65 rfl ?_
 intro w' hm' hc' hg'
 refine ⟨?_, hc'⟩; show Value.bool false = _; rw [decide_eq_false (show ¬ f1 = f2 by simpa using h1), Bool.false_and]
end Go.Eng
namespace Go.Eng
open Go Go.Proofs Go.RowKit
theorem dig_let (c : UInt8) (h : digB c = true) : letB c = false := by
  unfold digB digN at h; unfold letB letN; simp only [Bool.and_eq_true, decide_eq_true_eq] at h
  simp only [Bool.and_eq_false_iff, decide_eq_false_iff_not]; omega
end Go.Eng
namespace Go.Eng
open Go Go.Proofs Go.RowKit
end Go.Eng
namespace Go.Eng
open Go Go.Proofs Go.RowKit
def EachT (fv : Bool) (ad : Option Addr) (n cap : Nat) (n0 : Nat) (v : Value) (m : Mem0) : Prop := ∃ b1, v = .func (.func 150) #[] #[.pointer (some ⟨b1, 0, none⟩)] ∧ m = [pB b1 fv ad n cap] ∧ n0 ≤ b1
theorem EachT.mono {fv : Bool} {ad : Option Addr} {n cap : Nat} : ∀ (k k' : Nat) u m, k' ≤ k → EachT fv ad n cap k u m → EachT fv ad n cap k' u m := fun k k' u m h ⟨b1, h1, h2, h3⟩ => ⟨b1, h1, h2, by omega⟩
end Go.Eng
namespace Go.Eng
open Go Go.Proofs Go.RowKit
theorem before_next {p : Nat → Bool} {i : Nat} (h : ∀ j, j < i → p j = true) (hi : p i = true) : ∀ j, j < i + 1 → p j = true := fun j hj => by
  by_cases q : j = i
  · subst q; exact hi
  · exact h j (by omega)
set_option maxRecDepth 100000 in
theorem anames_spec (w : World) : Ret Tryz.prog 147 #[] w (New fB 9 1 acW w) := by
 refine Ret.enterM (l := []) Tryz.func147 rfl Tryz.ntmps147 rfl ([]) (no) (Mem.nil w) ?_
 refine wpM.seq (wpM.region ?_)
 refine LM.as rfl ?_
 refine LM.nil (QM.sub (e' := []) trivial (QM.then (wpM.seq (wpM.region ?_))))
 refine LM.row (vs := [_, _, _, _, _, _, _, _, _]) Tryz.underlying188 Tryz.sizeOf9 Tryz.zeroValue9 rfl rfl rfl rfl rfl rfl (fun b1 hb1 => ?_)
 refine LM.as rfl ?_
 refine LM.nil (QM.sub (e' := [(0, _)]) ⟨rfl, trivial⟩ (QM.then ?_))
 refine wpM.ret ?_
 refine QM.leave (.inl rfl) [.tmp 0] Tryz.results147 rfl ?_
 intro w' hm' hc' hg'
 exact ⟨hc', [(b1, .cells (arr fB acW []) 9 (0, 0))], .inr ⟨b1, 9, [], hb1, rfl, rfl, by decide, by unfold maxLen; decide, rfl⟩, hm'⟩
set_option maxRecDepth 100000 in
theorem aname_spec (k : Int) (w : World) : Ret Tryz.prog 118 #[.int .i64 k] w (fun v w' => v = vS (acT k) ∧ Ext w w') := by
 refine Ret.enterM (l := [.int .i64 k]) Tryz.func118 rfl Tryz.ntmps118 rfl ([]) (no) (Mem.nil w) ?_
 refine wpM.seq (wpM.region ?_)
 refine LM.as rfl ?_
 refine LM.nil (QM.sub (e' := [(0, _)]) ⟨rfl, trivial⟩ (QM.then ?_))
 refine wpM.seq ?_
 refine wpM.seq (wpM.region ?_)
 refine LM.mv rfl ?_
 refine LM.val (ov_lss rfl rfl) ?_
 refine LM.mv rfl ?_
 refine LM.splitD (t := 5) rfl (fun h1 => ?_) (fun h1 => ?_)
 ·
  refine LM.dr 5 rfl rfl rfl ?_
  refine LM.dr 5 rfl rfl rfl ?_
  refine LM.dr 5 rfl rfl rfl ?_
  refine LM.dr 5 rfl rfl rfl ?_
  refine LM.val (ov_pickT rfl rfl) ?_
  refine LM.nil (QM.sub (e' := [(0, _), (10, _)]) ⟨rfl, rfl, trivial⟩ (QM.then ?_))
  refine wpM.condT rfl ?_
  refine wpM.seq (wpM.region ?_)
  refine LM.as rfl ?_
  refine LM.nil (QM.sub (e' := [(2, _)]) ⟨rfl, trivial⟩ (QM.then ?_))
  refine wpM.ret ?_
  refine QM.then_ret ?_
  refine QM.leave (.inl rfl) [.tmp 2] Tryz.results118 rfl ?_
  intro w' hm' hc' hg'
  have hl13 : acW.length = 9 := rfl; refine ⟨?_, hc'⟩; show vS _ = _; congr 1; first | (rw [acT, if_neg (by omega)]; done) | (rw [acT, if_pos (by omega)]; rfl)
 refine LM.sp 5 rfl rfl rfl ?_
 refine LM.mv rfl ?_
 refine LM.sp 5 rfl rfl rfl ?_
 refine LM.cS (oc_call (enters_fn Tryz.func147 (by kernel_rfl) rfl) rfl) (fun w hm hc hg => anames_spec w) (fun ad7 n7 cap7 m7 hn7 hs7 => ?_)
 refine LM.sp 5 rfl rfl rfl ?_
 refine LM.val (ov_len Tryz.underlying188 rfl) ?_
 refine LM.sp 5 rfl rfl rfl ?_
 have hl12 : n7 = 9 := hn7
 refine LM.val (ov_geq rfl rfl) ?_
 refine LM.val (ov_pickF rfl rfl) ?_
 refine LM.nil (QM.sub (e' := [(0, _), (10, _)]) ⟨rfl, rfl, trivial⟩ (QM.then ?_))
 refine wpM.condD rfl (fun h2 => ?_) (fun h2 => ?_)
 ·
  refine wpM.seq (wpM.region ?_)
  refine LM.as rfl ?_
  refine LM.nil (QM.sub (e' := [(2, _)]) ⟨rfl, trivial⟩ (QM.then ?_))
  refine wpM.ret ?_
  refine QM.then_ret ?_
  refine QM.leave (.inl rfl) [.tmp 2] Tryz.results118 rfl ?_
  intro w' hm' hc' hg'
  have hl13 : acW.length = 9 := rfl; refine ⟨?_, hc'⟩; show vS _ = _; congr 1; first | (rw [acT, if_neg (by omega)]; done) | (rw [acT, if_pos (by omega)]; rfl)
 refine wpM.skip ?_
 refine QM.then (wpM.seq (wpM.region ?_))
 refine LM.cS (oc_call (enters_fn Tryz.func147 (by kernel_rfl) rfl) rfl) (fun w hm hc hg => anames_spec w) (fun ad11 n11 cap11 m11 hn11 hs11 => ?_)
 have hl12 : n11 = 9 := hn11
 refine LM.mv rfl ?_
 first | refine LM.val (ov_idxSN au6 Tryz.underlying188 Tryz.sizeOf9 rfl rfl (by omega)) ?_ | refine LM.val (ov_idxS au6 Tryz.underlying188 Tryz.sizeOf9 rfl rfl (by omega)) ?_ | refine LM.val (ov_idx1 Tryz.underlying188 Tryz.sizeOf9 rfl rfl (by omega)) ?_
 refine LM.rd (om_sl1 (by assumption) (by intro _; rfl) Tryz.isAgg9 rfl rfl au3 (by rfl)) ?_
 refine LM.as rfl ?_
 refine LM.nil (QM.sub (e' := [(2, _)]) ⟨rfl, trivial⟩ (QM.then ?_))
 refine wpM.ret ?_
 refine QM.leave (.inl rfl) [.tmp 2] Tryz.results118 rfl ?_
 intro w' hm' hc' hg'
 have hl13 : acW.length = 9 := rfl; refine ⟨?_, hc'⟩; show vS _ = _; congr 1; first | (rw [acT, if_neg (by omega)]; done) | (rw [acT, if_pos (by omega)]; rfl)
set_option maxRecDepth 100000 in
theorem many_spec (k : Int) (w : World) : Ret Tryz.prog 120 #[.int .i64 k] w (fun v w' => v = .int .i64 (manyA k : Nat) ∧ Ext w w') := by
 refine Ret.enterM (l := [.int .i64 k]) Tryz.func120 rfl Tryz.ntmps120 rfl ([]) (no) (Mem.nil w) ?_
 refine wpM.seq (wpM.region ?_)
 refine LM.as rfl ?_
 refine LM.nil (QM.sub (e' := [(0, _)]) ⟨rfl, trivial⟩ (QM.then ?_))
 refine wpM.seq ?_
 refine wpM.seq (wpM.region ?_)
 refine LM.mv rfl ?_
 refine LM.nil (QM.sub (e' := [(3, _)]) ⟨rfl, trivial⟩ (QM.then ?_))
 refine wpM.block ?_
 refine wpM.seq ?_
 refine wpM.seq (wpM.region ?_)
 refine LM.val (ov_eql rfl rfl) ?_
 refine LM.as rfl ?_
 refine LM.nil (QM.sub (e' := [(3, _), (4, _)]) ⟨rfl, rfl, trivial⟩ (QM.then ?_))
 refine wpM.condXD (t := 4) rfl (fun h1 => ?_) (fun h1 => ?_)
 ·
  refine wpM.skip ?_
  refine QM.then ?_
  refine wpM.condT rfl ?_
  refine wpM.seq (wpM.region ?_)
  refine LM.as rfl ?_
  refine LM.nil (QM.sub (e' := [(2, _)]) ⟨rfl, trivial⟩ (QM.then ?_))
  refine wpM.ret ?_
  refine QM.block_ret ?_
  refine QM.then_ret ?_
  refine QM.leave (.inl rfl) [.tmp 2] Tryz.results120 rfl ?_
  intro w' hm' hc' hg'
  refine ⟨?_, hc'⟩; show Value.int .i64 _ = _; congr 1; unfold manyA; (repeat' split) <;> omega
 refine wpM.seq (wpM.region ?_)
 refine LM.val (ov_eql rfl rfl) ?_
 refine LM.as rfl ?_
 refine LM.nil (QM.sub (e' := [(3, _), (4, _)]) ⟨rfl, rfl, trivial⟩ (QM.then ?_))
 refine wpM.condXD (t := 4) rfl (fun h2 => ?_) (fun h2 => ?_)
 ·
  refine wpM.skip ?_
  refine QM.then ?_
  refine wpM.condT rfl ?_
  refine wpM.seq (wpM.region ?_)
  refine LM.as rfl ?_
  refine LM.nil (QM.sub (e' := [(2, _)]) ⟨rfl, trivial⟩ (QM.then ?_))
  refine wpM.ret ?_
  refine QM.block_ret ?_
  refine QM.then_ret ?_
  refine QM.leave (.inl rfl) [.tmp 2] Tryz.results120 rfl ?_
  intro w' hm' hc' hg'
  refine ⟨?_, hc'⟩; show Value.int .i64 _ = _; congr 1; unfold manyA; (repeat' split) <;> omega
 refine wpM.region ?_
 refine LM.val (ov_eql rfl rfl) ?_
 refine LM.as rfl ?_
 refine LM.nil (QM.sub (e' := [(3, _), (4, _)]) ⟨rfl, rfl, trivial⟩ (QM.then ?_))
 refine wpM.condD rfl (fun h3 => ?_) (fun h3 => ?_)
 ·
  refine wpM.seq (wpM.region ?_)
  refine LM.as rfl ?_
  refine LM.nil (QM.sub (e' := [(2, _)]) ⟨rfl, trivial⟩ (QM.then ?_))
  refine wpM.ret ?_
  refine QM.block_ret ?_
  refine QM.then_ret ?_
  refine QM.leave (.inl rfl) [.tmp 2] Tryz.results120 rfl ?_
  intro w' hm' hc' hg'
  refine ⟨?_, hc'⟩; show Value.int .i64 _ = _; congr 1; unfold manyA; (repeat' split) <;> omega
 refine wpM.seq ?_
 refine wpM.seq (wpM.region ?_)
 refine LM.val (ov_eql rfl rfl) ?_
 refine LM.as rfl ?_
 refine LM.nil (QM.sub (e' := [(3, _), (8, _)]) ⟨rfl, rfl, trivial⟩ (QM.then ?_))
 refine wpM.condXD (t := 8) rfl (fun h4 => ?_) (fun h4 => ?_)
 ·
  refine wpM.skip ?_
  refine QM.then ?_
  refine wpM.condT rfl ?_
  refine wpM.seq (wpM.region ?_)
  refine LM.as rfl ?_
  refine LM.nil (QM.sub (e' := [(2, _)]) ⟨rfl, trivial⟩ (QM.then ?_))
  refine wpM.ret ?_
  refine QM.block_ret ?_
  refine QM.then_ret ?_
  refine QM.leave (.inl rfl) [.tmp 2] Tryz.results120 rfl ?_
  intro w' hm' hc' hg'
  refine ⟨?_, hc'⟩; show Value.int .i64 _ = _; congr 1; unfold manyA; (repeat' split) <;> omega
 refine wpM.region ?_
 refine LM.val (ov_eql rfl rfl) ?_
 refine LM.as rfl ?_
 refine LM.nil (QM.sub (e' := [(3, _), (8, _)]) ⟨rfl, rfl, trivial⟩ (QM.then ?_))
 refine wpM.condD rfl (fun h5 => ?_) (fun h5 => ?_)
 ·
  refine wpM.seq (wpM.region ?_)
  refine LM.as rfl ?_
  refine LM.nil (QM.sub (e' := [(2, _)]) ⟨rfl, trivial⟩ (QM.then ?_))
  refine wpM.ret ?_
  refine QM.block_ret ?_
  refine QM.then_ret ?_
  refine QM.leave (.inl rfl) [.tmp 2] Tryz.results120 rfl ?_
  intro w' hm' hc' hg'
  refine ⟨?_, hc'⟩; show Value.int .i64 _ = _; congr 1; unfold manyA; (repeat' split) <;> omega
 refine wpM.seq (wpM.region ?_)
 refine LM.val (ov_eql rfl rfl) ?_
 refine LM.as rfl ?_
 refine LM.nil (QM.sub (e' := [(11, _)]) ⟨rfl, trivial⟩ (QM.then ?_))
 refine wpM.condD rfl (fun h6 => ?_) (fun h6 => ?_)
 ·
  refine wpM.seq (wpM.region ?_)
  refine LM.as rfl ?_
  refine LM.nil (QM.sub (e' := [(2, _)]) ⟨rfl, trivial⟩ (QM.then ?_))
  refine wpM.ret ?_
  refine QM.block_ret ?_
  refine QM.then_ret ?_
  refine QM.leave (.inl rfl) [.tmp 2] Tryz.results120 rfl ?_
  intro w' hm' hc' hg'
  refine ⟨?_, hc'⟩; show Value.int .i64 _ = _; congr 1; unfold manyA; (repeat' split) <;> omega
 refine wpM.skip ?_
 refine QM.block_normal ?_
 refine QM.then (wpM.seq (wpM.region ?_))
 refine LM.as rfl ?_
 refine LM.nil (QM.sub (e' := [(2, _)]) ⟨rfl, trivial⟩ (QM.then ?_))
 refine wpM.ret ?_
 refine QM.leave (.inl rfl) [.tmp 2] Tryz.results120 rfl ?_
 intro w' hm' hc' hg'
 refine ⟨?_, hc'⟩; show Value.int .i64 _ = _; congr 1; unfold manyA; (repeat' split) <;> omega
set_option maxRecDepth 100000 in
theorem numbers_spec (o : Act) (w : World) : Ret Tryz.prog 119 #[.agg (fA o).toArray] w (New fI 3 1 (numsA o) w) := by
 refine Ret.enterM (l := [.agg (fA o).toArray]) Tryz.func119 rfl Tryz.ntmps119 rfl ([]) (no) (Mem.nil w) ?_
 refine wpM.seq (wpM.region ?_)
 refine LM.box rfl rfl (fun b1 hb1 => ?_)
 refine LM.as rfl ?_
 refine LM.nil (QM.sub (e' := [(1, _)]) ⟨rfl, trivial⟩ (QM.then (wpM.seq (wpM.region ?_))))
 refine LM.val (ov_field Tryz.underlying123 rfl Tryz.sizeOf3 rfl (k := 1) rfl rfl) ?_
 refine LM.rd (om_ld Tryz.isAgg3 rfl rfl) ?_
 refine LM.val (ov_field Tryz.underlying123 rfl Tryz.sizeOf3 rfl (k := 2) rfl rfl) ?_
 refine LM.rd (om_ld Tryz.isAgg3 rfl rfl) ?_
 refine LM.val (ov_field Tryz.underlying123 rfl Tryz.sizeOf3 rfl (k := 3) rfl rfl) ?_
 refine LM.rd (om_ld Tryz.isAgg3 rfl rfl) ?_
 refine LM.val (ov_field Tryz.underlying123 rfl Tryz.sizeOf3 rfl (k := 4) rfl rfl) ?_
 refine LM.rd (om_ld Tryz.isAgg3 rfl rfl) ?_
 refine LM.row (vs := [_, _, _, _]) Tryz.underlying26 Tryz.sizeOf3 Tryz.zeroValue3 rfl rfl rfl rfl rfl rfl (fun b11 hb11 => ?_)
 refine LM.as rfl ?_
 refine LM.nil (QM.sub (e' := [(2, _)]) ⟨rfl, trivial⟩ (QM.then ?_))
 refine wpM.ret ?_
 refine QM.leave (.inl rfl) [.tmp 2] Tryz.results119 rfl ?_
 intro w' hm' hc' hg'
 change Mem w' ((b11, .cells (arr fI (numsA o) []) 3 (0, 0)) :: _) at hm'; exact ⟨hc', [(b11, .cells (arr fI (numsA o) []) 3 (0, 0))], .inr ⟨b11, 4, [], hb11, rfl, rfl, Nat.le_refl 4, by unfold maxLen; decide, rfl⟩, hm'.pick _⟩
set_option maxRecDepth 100000 in
theorem aright_spec (o : Act) (w : World) : Ret Tryz.prog 117 #[.agg (fA o).toArray] w (fun v w' => v = .bool (rightA o) ∧ Ext w w') := by
 refine Ret.enterM (l := [.agg (fA o).toArray]) Tryz.func117 rfl Tryz.ntmps117 rfl ([]) (no) (Mem.nil w) ?_
 refine wpM.seq (wpM.region ?_)
 refine LM.box rfl rfl (fun b1 hb1 => ?_)
 refine LM.as rfl ?_
 refine LM.nil (QM.sub (e' := [(1, _)]) ⟨rfl, trivial⟩ (QM.then ?_))
 refine wpM.seq ?_
 refine wpM.seq (wpM.region ?_)
 refine LM.val (ov_field Tryz.underlying123 rfl Tryz.sizeOf3 rfl (k := 0) rfl rfl) ?_
 refine LM.rd (om_ld Tryz.isAgg3 rfl rfl) ?_
 refine LM.callE (oc_call (enters_fn Tryz.func118 (by kernel_rfl) rfl) rfl) (fun w hm hc hg => aname_spec _ w) ?_
 refine LM.val (ov_seqlL rfl rfl) ?_
 refine LM.nil (QM.sub (e' := [(1, _), (8, _)]) ⟨rfl, rfl, trivial⟩ (QM.then ?_))
 refine wpM.condD rfl (fun h1 => ?_) (fun h1 => ?_)
 ·
  refine wpM.seq (wpM.region ?_)
  refine LM.as rfl ?_
  refine LM.nil (QM.sub (e' := [(2, _)]) ⟨rfl, trivial⟩ (QM.then ?_))
  refine wpM.ret ?_
  refine QM.then_ret ?_
  refine QM.leave (.inl rfl) [.tmp 2] Tryz.results117 rfl ?_
  intro w' hm' hc' hg'
  refine ⟨?_, hc'⟩; have hko : kindOk o.k = false := (by rw [← acT_empty]; rw [h1]; rfl); show Value.bool false = _; unfold rightA; rw [hko]; rfl
 have hko : kindOk o.k = true := (by rw [← acT_empty]; exact decide_eq_true h1); have hl4 : (numsA o).length = 4 := rfl
 refine wpM.skip ?_
 refine QM.then ?_
 refine wpM.seq ?_
 refine wpM.seq (wpM.region ?_)
 refine LM.rd (om_ldW Tryz.isAgg123 Tryz.sizeOf123 rfl rfl) ?_
 refine LM.cS (oc_call (enters_fn Tryz.func119 (by kernel_rfl) rfl) rfl) (fun w hm hc hg => numbers_spec o w) (fun ad10 n10 cap10 m10 hn10 hs10 => ?_)
 refine LM.val (ov_len Tryz.underlying26 rfl) ?_
 refine LM.mv rfl ?_
 refine LM.nil (QM.sub (e' := [(1, _), (10, _), (11, _), (12, _)]) ⟨rfl, rfl, rfl, rfl, trivial⟩ (QM.then ?_))
 refine wpM.block ?_
 refine wpM.loopK0 (α := Nat) (fun i => [(12, .int .i64 (i : Nat))]) [(1, _), (10, _), (11, _)] (fun i => m10 ++ ((b1, .cells (fA o).toArray 123 (0, 0)) :: [])) (fun i => i ≤ 4 ∧ ∀ j, j < i → numB o.k j ((numsA o).getD j 0) = true) (fun i => 4 - i) (0) ⟨au2, rfl, rfl, rfl, trivial⟩ au1 ⟨Nat.zero_le _, fun j hj => absurd hj (Nat.not_lt_zero _)⟩ ?_
 rintro i ⟨hi, ha⟩
 change wpM _ _ _ _ _ _ _ (m10 ++ ((b1, .cells (fA o).toArray 123 (0, 0)) :: [])) _ _ _
 refine wpM.seq (wpM.region ?_)
 refine LM.val (ov_lss rfl rfl) ?_
 refine LM.nil (QM.sub (e' := [(1, _), (10, _), (11, _), (12, _), (13, _)]) ⟨rfl, rfl, rfl, rfl, rfl, trivial⟩ (QM.then ?_))
 refine wpM.seq ?_
 refine wpM.condD rfl (fun h2 => ?_) (fun h2 => ?_)
 ·
  refine wpM.skip ?_
  refine QM.then ?_
  refine wpM.seq ?_
  refine wpM.block ?_
  refine wpM.seq (wpM.region ?_)
  refine LM.mv rfl ?_
  refine LM.val (ov_idxSN au6 Tryz.underlying26 Tryz.sizeOf3 rfl rfl (by omega)) ?_
  refine LM.rd (om_sl1 (by assumption) (by intro _; rfl) Tryz.isAgg3 rfl rfl (by exact getq 0 au4) (by rfl)) ?_
  refine LM.as rfl ?_
  refine LM.as rfl ?_
  refine LM.nil (QM.sub (e' := [(1, _), (3, _), (4, _), (10, _), (11, _), (12, _)]) ⟨rfl, rfl, rfl, rfl, rfl, rfl, trivial⟩ (QM.then ?_))
  refine wpM.seq ?_
  refine wpM.joinK (α := Bool) (fun q => [(33, .bool q)]) [(1, _), (10, _), (11, _), (12, _)] (fun q => m10 ++ ((b1, .cells (fA o).toArray 123 (0, 0)) :: [])) (fun q => q = !numB o.k i ((numsA o).getD i 0)) ⟨rfl, rfl, rfl, rfl, trivial⟩ ?_ ?_
  ·
   refine wpM.region ?_
   refine LM.mv rfl ?_
   refine LM.val (ov_lss rfl rfl) ?_
   refine LM.mv rfl ?_
   refine LM.splitD (t := 19) rfl (fun h3 => ?_) (fun h3 => ?_)
   ·
    refine LM.dr 19 rfl rfl rfl ?_
    refine LM.dr 19 rfl rfl rfl ?_
    refine LM.val (ov_pickT rfl rfl) ?_
    refine LM.mv rfl ?_
    refine LM.dr 23 rfl rfl rfl ?_
    refine LM.dr 23 rfl rfl rfl ?_
    refine LM.dr 23 rfl rfl rfl ?_
    refine LM.dr 23 rfl rfl rfl ?_
    refine LM.dr 23 rfl rfl rfl ?_
    refine LM.dropU (t := 23) rfl rfl rfl ?_
    refine LM.dropX (t := 29) rfl rfl ?_
    refine LM.dropX (t := 29) rfl rfl ?_
    refine LM.dr 23 rfl rfl rfl ?_
    refine LM.val (ov_pickT rfl rfl) ?_
    refine LM.nil (QM.sub (e' := [(1, _), (10, _), (11, _), (12, _), (33, _)]) ⟨rfl, rfl, rfl, rfl, rfl, trivial⟩ ?_)
    refine QM.meetK (_) ⟨au2, rfl, rfl, rfl, rfl, trivial⟩ au1 ?_
    · unfold numB; rw [decide_eq_false (show ¬ 0 ≤ (numsA o).getD i 0 by omega)]; rfl
   refine LM.sp 19 rfl rfl rfl ?_
   refine LM.mv rfl ?_
   refine LM.sp 19 rfl rfl rfl ?_
   refine LM.val (ov_gtr rfl rfl) ?_
   refine LM.val (ov_pickF rfl rfl) ?_
   refine LM.mv rfl ?_
   refine LM.splitD (t := 23) rfl (fun h4 => ?_) (fun h4 => ?_)
   ·
    refine LM.dr 23 rfl rfl rfl ?_
    refine LM.dr 23 rfl rfl rfl ?_
    refine LM.dr 23 rfl rfl rfl ?_
    refine LM.dr 23 rfl rfl rfl ?_
    refine LM.dr 23 rfl rfl rfl ?_
    refine LM.dropU (t := 23) rfl rfl rfl ?_
    refine LM.dropX (t := 29) rfl rfl ?_
    refine LM.dropX (t := 29) rfl rfl ?_
    refine LM.dr 23 rfl rfl rfl ?_
    refine LM.val (ov_pickT rfl rfl) ?_
    refine LM.nil (QM.sub (e' := [(1, _), (10, _), (11, _), (12, _), (33, _)]) ⟨rfl, rfl, rfl, rfl, rfl, trivial⟩ ?_)
    refine QM.meetK (_) ⟨au2, rfl, rfl, rfl, rfl, trivial⟩ au1 ?_
    · unfold numB; rw [decide_eq_true (show 0 ≤ (numsA o).getD i 0 by omega), decide_eq_false (show ¬ (numsA o).getD i 0 ≤ 999999999 by omega)]; rfl
   refine LM.sp 23 rfl rfl rfl ?_
   refine LM.mv rfl ?_
   refine LM.sp 23 rfl rfl rfl ?_
   refine LM.val (ov_field Tryz.underlying123 rfl Tryz.sizeOf3 rfl (k := 0) rfl rfl) ?_
   refine LM.sp 23 rfl rfl rfl ?_
   refine LM.rd (om_ld Tryz.isAgg3 rfl rfl) ?_
   refine LM.sp 23 rfl rfl rfl ?_
   refine LM.callE (oc_call (enters_fn Tryz.func120 (by kernel_rfl) rfl) rfl) (fun w hm hc hg => many_spec _ w) ?_
   refine LM.sp 23 rfl rfl rfl ?_
   refine LM.val (ov_geq rfl rfl) ?_
   refine LM.sp 23 rfl rfl rfl ?_
   refine LM.mv rfl ?_
   refine LM.splitD (t := 29) rfl (fun h5 => ?_) (fun h5 => ?_)
   ·
    refine LM.sp 29 rfl rfl rfl ?_
    refine LM.mv rfl ?_
    refine LM.sp 29 rfl rfl rfl ?_
    refine LM.val (ov_neq rfl rfl) ?_
    refine LM.sp 23 rfl rfl rfl ?_
    refine LM.val (ov_pickT rfl rfl) ?_
    refine LM.val (ov_pickF rfl rfl) ?_
    refine LM.nil (QM.sub (e' := [(1, _), (10, _), (11, _), (12, _), (33, _)]) ⟨rfl, rfl, rfl, rfl, rfl, trivial⟩ ?_)
    refine QM.meetK (_) ⟨au2, rfl, rfl, rfl, rfl, trivial⟩ au1 ?_
    · unfold numB; rw [decide_eq_true (show 0 ≤ (numsA o).getD i 0 by omega), decide_eq_true (show (numsA o).getD i 0 ≤ 999999999 by omega), decide_eq_false (show ¬ i < manyA o.k by omega)]; simp only [Bool.true_and, Bool.false_or, decide_not]
   refine LM.dr 29 rfl rfl rfl ?_
   refine LM.dr 29 rfl rfl rfl ?_
   refine LM.sp 23 rfl rfl rfl ?_
   refine LM.val (ov_pickF rfl rfl) ?_
   refine LM.val (ov_pickF rfl rfl) ?_
   refine LM.nil (QM.sub (e' := [(1, _), (10, _), (11, _), (12, _), (33, _)]) ⟨rfl, rfl, rfl, rfl, rfl, trivial⟩ ?_)
   refine QM.meetK (_) ⟨au2, rfl, rfl, rfl, rfl, trivial⟩ au1 ?_
   · unfold numB; rw [decide_eq_true (show 0 ≤ (numsA o).getD i 0 by omega), decide_eq_true (show (numsA o).getD i 0 ≤ 999999999 by omega), decide_eq_true (show i < manyA o.k by omega)]; rfl
  rintro q hq
  change QM _ _ _ _ _ (m10 ++ ((b1, .cells (fA o).toArray 123 (0, 0)) :: [])) _ _ _
  refine QM.then ?_
  first | refine wpM.condD rfl (fun h6 => ?_) (fun h6 => ?_) | refine wpM.condB rfl (fun h6 => ?_) (fun h6 => ?_)
  ·
   refine wpM.seq (wpM.region ?_)
   refine LM.as rfl ?_
   refine LM.nil (QM.sub (e' := [(2, _)]) ⟨rfl, trivial⟩ (QM.then ?_))
   refine wpM.ret ?_
   refine QM.block_ret ?_
   refine QM.then_ret ?_
   refine QM.then_ret ?_
   refine QM.block_ret ?_
   refine QM.then_ret ?_
   refine QM.leave (.inl rfl) [.tmp 2] Tryz.results117 rfl ?_
   intro w' hm' hc' hg'
   refine ⟨?_, hc'⟩; show Value.bool false = _; rw [right_not (j := i) (by omega) (by simpa using hq.symm.trans h6)]
  refine wpM.skip ?_
  refine QM.block_normal ?_
  refine QM.then (wpM.region ?_)
  refine LM.val (ov_add64 rfl rfl (by omega)) ?_
  refine LM.mv rfl ?_
  refine LM.nil (QM.sub (e' := [(1, _), (10, _), (11, _), (12, _)]) ⟨rfl, rfl, rfl, rfl, trivial⟩ ?_)
  refine QM.againK (i + 1) ⟨au2, rfl, rfl, rfl, trivial⟩ au1 (fun _ h => h) ?_ ?_
  · exact ⟨by omega, before_next ha (by simpa using hq.symm.trans h6)⟩
  · omega
 refine wpM.exit ?_
 refine QM.then_exit ?_
 refine QM.then_exit ?_
 refine QM.block_hit ?_
 refine QM.then (wpM.seq (wpM.region ?_))
 refine LM.as rfl ?_
 refine LM.nil (QM.sub (e' := [(2, _)]) ⟨rfl, trivial⟩ (QM.then ?_))
 refine wpM.ret ?_
 refine QM.leave (.inl rfl) [.tmp 2] Tryz.results117 rfl ?_
 intro w' hm' hc' hg'
 refine ⟨?_, hc'⟩; show Value.bool true = _; rw [right_all hko (fun j hj => ha j (by omega))]
set_option maxRecDepth 100000 in
theorem amay1_spec (o : Act) (w : World) : Ret Tryz.prog 116 #[.agg (fA o).toArray] w (fun v w' => v = .bool (!rightA o) ∧ Ext w w') := by
 refine Ret.enterM (l := [.agg (fA o).toArray]) Tryz.func116 rfl Tryz.ntmps116 rfl ([]) (no) (Mem.nil w) ?_
 refine wpM.seq (wpM.region ?_)
 refine LM.box rfl rfl (fun b1 hb1 => ?_)
 refine LM.as rfl ?_
 refine LM.nil (QM.sub (e' := [(1, _)]) ⟨rfl, trivial⟩ (QM.then (wpM.seq (wpM.region ?_))))
 refine LM.rd (om_ldW Tryz.isAgg123 Tryz.sizeOf123 rfl rfl) ?_
 refine LM.callE (oc_call (enters_fn Tryz.func117 (by kernel_rfl) rfl) rfl) (fun w hm hc hg => aright_spec o w) ?_
 first | refine LM.val (ov_notD rfl) ?_ | refine LM.val (ov_not rfl) ?_
 refine LM.as rfl ?_
 refine LM.nil (QM.sub (e' := [(2, _)]) ⟨rfl, trivial⟩ (QM.then ?_))
 refine wpM.ret ?_
 refine QM.leave (.inl rfl) [.tmp 2] Tryz.results116 rfl ?_
 intro w' hm' hc' hg'
 exact ⟨rfl, hc'⟩
set_option maxRecDepth 100000 in
theorem ixf_amay {xs : List Act} {ad : Option Addr} {n cap : Nat} (w : World) (hn : n = xs.length) (hl : Sr fA 5 xs (.slice ad n cap) w) (hx : xs.length ≤ 1000000) : Ret Tryz.prog 148 #[.slice ad n cap, .func (.func 116) #[] #[]] w (fun v w' => v = .int .i64 (fixI (fun o => !rightA o) xs) ∧ Ext w w') := by
 refine Ret.enterM (l := [.slice ad n cap, .func (.func 116) #[] #[]]) Tryz.func148 rfl Tryz.ntmps148 rfl ([]) (no) (Mem.nil w) ?_
 refine wpM.seq (wpM.region ?_)
 refine LM.as rfl ?_
 refine LM.nil (QM.sub (e' := [(0, _), (1, _)]) ⟨rfl, rfl, trivial⟩ (QM.then ?_))
 refine wpM.seq ?_
 refine wpM.seq (wpM.region ?_)
 refine LM.mv rfl ?_
 refine LM.val (ov_len Tryz.underlying47 rfl) ?_
 refine LM.mv rfl ?_
 refine LM.nil (QM.sub (e' := [(0, _), (1, _), (7, _), (8, _)]) ⟨rfl, rfl, rfl, rfl, trivial⟩ (QM.then ?_))
 refine wpM.block ?_
 refine wpM.loopK0 (α := Nat) (fun i => [(8, .int .i64 (i : Nat))]) [(0, _), (1, _), (7, _)] (fun i => []) (fun i => i ≤ xs.length ∧ (xs.take i).any (fun o => !rightA o) = false) (fun i => xs.length - i) (0) ⟨au2, rfl, rfl, rfl, trivial⟩ au1 ⟨Nat.zero_le _, rfl⟩ ?_
 rintro i ⟨hi, ha⟩
 change wpM _ _ _ _ _ _ _ ([]) _ _ _
 refine wpM.seq (wpM.region ?_)
 refine LM.val (ov_lss rfl rfl) ?_
 refine LM.nil (QM.sub (e' := [(0, _), (1, _), (7, _), (8, _), (9, _)]) ⟨rfl, rfl, rfl, rfl, rfl, trivial⟩ (QM.then ?_))
 refine wpM.seq ?_
 refine wpM.condD rfl (fun h1 => ?_) (fun h1 => ?_)
 ·
  refine wpM.skip ?_
  refine QM.then ?_
  refine wpM.seq ?_
  refine wpM.block ?_
  refine wpM.seq (wpM.region ?_)
  refine LM.mv rfl ?_
  refine LM.as rfl ?_
  refine LM.nil (QM.sub (e' := [(0, _), (1, _), (5, _), (7, _), (8, _)]) ⟨rfl, rfl, rfl, rfl, rfl, trivial⟩ (QM.then (wpM.seq (wpM.region ?_))))
  refine LM.mv rfl ?_
  refine LM.mv rfl ?_
  refine LM.mv rfl ?_
  refine LM.val (ov_idxSN au6 Tryz.underlying47 Tryz.sizeOf123 rfl rfl (by omega)) ?_
  first | refine LM.rd (om_slA (by assumption) (by intro _; rfl) Tryz.isAgg123 Tryz.sizeOf123 rfl au3) ?_ | refine LM.rdC (om_srEA (by assumption) (by intro _; rfl) Tryz.isAgg123 Tryz.sizeOf123 rfl au3 id) ?_ | refine LM.rd (om_ldW Tryz.isAgg123 Tryz.sizeOf123 rfl rfl) ?_ | refine LM.rd (om_ldA Tryz.isAgg123 Tryz.sizeOf123 rfl (vs := [_, _, _, _, _]) rfl ⟨rfl, rfl, rfl, rfl, rfl, trivial⟩) ?_
  refine LM.callE (oc_callV rfl (enters_fn Tryz.func116 (by kernel_rfl) rfl) rfl) (fun w hm hc hg => amay1_spec _ w) ?_
  refine LM.nil (QM.sub (e' := [(0, _), (1, _), (5, _), (7, _), (8, _), (16, _)]) ⟨rfl, rfl, rfl, rfl, rfl, rfl, trivial⟩ (QM.then ?_))
  first | refine wpM.condD rfl (fun h2 => ?_) (fun h2 => ?_) | refine wpM.condB rfl (fun h2 => ?_) (fun h2 => ?_)
  ·
   refine wpM.seq (wpM.region ?_)
   refine LM.mv rfl ?_
   refine LM.as rfl ?_
   refine LM.nil (QM.sub (e' := [(4, _)]) ⟨rfl, trivial⟩ (QM.then ?_))
   refine wpM.ret ?_
   refine QM.block_ret ?_
   refine QM.then_ret ?_
   refine QM.then_ret ?_
   refine QM.block_ret ?_
   refine QM.then_ret ?_
   refine QM.leave (.inl rfl) [.tmp 4] Tryz.results148 rfl ?_
   intro w' hm' hc' hg'
   exact ⟨by show Value.int .i64 _ = _; rw [fix_hit default ha (by omega) (by simpa using h2)], hc'⟩
  refine wpM.skip ?_
  refine QM.block_normal ?_
  refine QM.then (wpM.region ?_)
  refine LM.val (ov_add64 rfl rfl (by omega)) ?_
  refine LM.mv rfl ?_
  refine LM.nil (QM.sub (e' := [(0, _), (1, _), (7, _), (8, _)]) ⟨rfl, rfl, rfl, rfl, trivial⟩ ?_)
  refine QM.againK (i + 1) ⟨au2, rfl, rfl, rfl, trivial⟩ au1 (fun _ h => h) ?_ ?_
  · exact ⟨by omega, by rw [any_snoc default (by omega), ha, Bool.false_or]; simpa using h2⟩
  · omega
 refine wpM.exit ?_
 refine QM.then_exit ?_
 refine QM.then_exit ?_
 refine QM.block_hit ?_
 refine QM.then (wpM.seq (wpM.region ?_))
 refine LM.as rfl ?_
 refine LM.nil (QM.sub (e' := [(4, _)]) ⟨rfl, trivial⟩ (QM.then ?_))
 refine wpM.ret ?_
 refine QM.leave (.inl rfl) [.tmp 4] Tryz.results148 rfl ?_
 intro w' hm' hc' hg'
 have hil : i = xs.length := (by omega); subst hil; rw [List.take_length] at ha; exact ⟨by show Value.int .i64 _ = _; rw [fix_miss ha], hc'⟩
set_option maxRecDepth 100000 in
theorem cof_amay {xs : List Act} {ad : Option Addr} {n cap : Nat} (w : World) (hn : n = xs.length) (hl : Sr fA 5 xs (.slice ad n cap) w) (hx : xs.length ≤ 1000000) : Ret Tryz.prog 115 #[.slice ad n cap, .func (.func 116) #[] #[]] w (fun v w' => v = .bool (xs.any (fun o => !rightA o)) ∧ Ext w w') := by
 refine Ret.enterM (l := [.slice ad n cap, .func (.func 116) #[] #[]]) Tryz.func115 rfl Tryz.ntmps115 rfl ([]) (no) (Mem.nil w) ?_
 refine wpM.seq (wpM.region ?_)
 refine LM.as rfl ?_
 refine LM.nil (QM.sub (e' := [(0, _), (1, _)]) ⟨rfl, rfl, trivial⟩ (QM.then (wpM.seq (wpM.region ?_))))
 refine LM.mv rfl ?_
 refine LM.mv rfl ?_
 refine LM.callE (oc_call (enters_fn Tryz.func148 (by kernel_rfl) rfl) rfl) (fun w hm hc hg => ixf_amay w hn (hl.ext hc) hx) ?_
 refine LM.val (ov_geq rfl rfl) ?_
 refine LM.as rfl ?_
 refine LM.nil (QM.sub (e' := [(4, _)]) ⟨rfl, trivial⟩ (QM.then ?_))
 refine wpM.ret ?_
 refine QM.leave (.inl rfl) [.tmp 4] Tryz.results115 rfl ?_
 intro w' hm' hc' hg'
 exact ⟨by show Value.bool _ = _; rw [← fix_pos], hc'⟩
set_option maxRecDepth 100000 in
theorem amay_spec {xs : List Act} {ad : Option Addr} {n cap : Nat} (w : World) (hn : n = xs.length) (hl : Sr fA 5 xs (.slice ad n cap) w) : Ret Tryz.prog 71 #[.slice ad n cap] w (fun v w' => v = .bool (mayA xs) ∧ Ext w w') := by
 refine Ret.enterM (l := [.slice ad n cap]) Tryz.func71 rfl Tryz.ntmps71 rfl ([]) (no) (Mem.nil w) ?_
 refine wpM.seq (wpM.region ?_)
 refine LM.as rfl ?_
 refine LM.nil (QM.sub (e' := [(0, _)]) ⟨rfl, trivial⟩ (QM.then (wpM.seq (wpM.region ?_))))
 refine LM.mv rfl ?_
 refine LM.val (ov_len Tryz.underlying47 rfl) ?_
 refine LM.val (ov_leq rfl rfl) ?_
 refine LM.mv rfl ?_
 refine LM.splitD (t := 6) rfl (fun h1 => ?_) (fun h1 => ?_)
 ·
  refine LM.sp 6 rfl rfl rfl ?_
  refine LM.mv rfl ?_
  refine LM.sp 6 rfl rfl rfl ?_
  refine LM.callE (oc_call (enters_fn Tryz.func115 (by kernel_rfl) rfl) rfl) (fun w hm hc hg => cof_amay w hn (hl.ext hc) (by omega)) ?_
  refine LM.sp 6 rfl rfl rfl ?_
  first | refine LM.val (ov_notD rfl) ?_ | refine LM.val (ov_not rfl) ?_
  refine LM.val (ov_pickT rfl rfl) ?_
  refine LM.as rfl ?_
  refine LM.nil (QM.sub (e' := [(2, _)]) ⟨rfl, trivial⟩ (QM.then ?_))
  refine wpM.ret ?_
  refine QM.leave (.inl rfl) [.tmp 2] Tryz.results71 rfl ?_
  intro w' hm' hc' hg'
  refine ⟨?_, hc'⟩; simp only [resV, mayA]; congr 1; first | (rw [decide_eq_false (show ¬ xs.length ≤ 4000 by omega)]; simp; done) | (rw [decide_eq_true (show xs.length ≤ 4000 by omega), all_any]; rfl)
 refine LM.dr 6 rfl rfl rfl ?_
 refine LM.dr 6 rfl rfl rfl ?_
 refine LM.dr 6 rfl rfl rfl ?_
 refine LM.val (ov_pickF rfl rfl) ?_
 refine LM.as rfl ?_
 refine LM.nil (QM.sub (e' := [(2, _)]) ⟨rfl, trivial⟩ (QM.then ?_))
 refine wpM.ret ?_
 refine QM.leave (.inl rfl) [.tmp 2] Tryz.results71 rfl ?_
 intro w' hm' hc' hg'
 refine ⟨?_, hc'⟩; simp only [resV, mayA]; congr 1; first | (rw [decide_eq_false (show ¬ xs.length ≤ 4000 by omega)]; simp; done) | (rw [decide_eq_true (show xs.length ≤ 4000 by omega), all_any]; rfl)
end Go.Eng
namespace Go.Eng
open Go Go.Proofs Go.RowKit
theorem oneA_0 {ws : List Wrd} {i : Nat} (h : kindA ws i = 0) : oneA ws i = (default, i, 5) := by unfold oneA; rw [if_pos h]
theorem oneA_n {ws : List Wrd} {i j : Nat} {xs : List Int} (h : kindA ws i ≠ 0) (h2 : numK ws i = (j, 5, xs)) : oneA ws i = (default, j, 5) := by unfold oneA; rw [if_neg h, h2, if_pos (show (5 : Int) ≠ 0 by decide)]
theorem oneA_s {ws : List Wrd} {i j : Nat} {xs : List Int} (h : kindA ws i ≠ 0) (h2 : numK ws i = (j, 0, xs)) (h3 : isR ws j 3 [59] = false) : oneA ws i = (default, j, 5) := by unfold oneA; rw [if_neg h, h2, if_neg (fun q => q rfl), if_neg (by rw [h3]; simp)]
theorem oneA_ok {ws : List Wrd} {i j : Nat} {xs : List Int} (h : kindA ws i ≠ 0) (h2 : numK ws i = (j, 0, xs)) (h3 : isR ws j 3 [59] = true) : oneA ws i = (toA (kindA ws i) xs, j + 1, 0) := by unfold oneA; rw [if_neg h, h2, if_neg (fun q => q rfl), if_pos h3]
theorem numG_stop {ws : List Wrd} {f j i : Nat} {xs : List Int} (hf : 0 < f) (h : (decide (ws.length ≤ j) || decide ((ws.getD j default).k ≠ 2)) = true) : numG ws f j i xs = (j, 5, xs) := by
  obtain ⟨g, rfl⟩ : ∃ g, f = g + 1 := ⟨f - 1, by omega⟩
  unfold numG; rw [if_pos h]
theorem numG_next {ws : List Wrd} {f j i : Nat} {xs : List Int} (hf : 0 < f) (h : (decide (ws.length ≤ j) || decide ((ws.getD j default).k ≠ 2)) = false) : numG ws f j i xs = numG ws (f - 1) (j + 1) (i + 1) (xs.set i (ws.getD j default).n) := by
  obtain ⟨g, rfl⟩ : ∃ g, f = g + 1 := ⟨f - 1, by omega⟩
  conv => lhs; unfold numG
  rw [if_neg (by rw [h]; simp), Nat.add_sub_cancel]
theorem kindA_yes {ws : List Wrd} {i : Nat} (hi : i < ws.length) (h : (ws.getD i default).k = 1) : kindA ws i = kindAT (ws.getD i default).t := by unfold kindA; rw [decide_eq_true hi, decide_eq_true h]; rfl
theorem kindA_no {ws : List Wrd} {i : Nat} (h : (ws.getD i default).k ≠ 1) : kindA ws i = 0 := by unfold kindA; rw [decide_eq_false h, Bool.and_false]; rfl
def AcT (r : List Act × Int × Int) (n0 : Nat) (v : Value) (m : Mem0) : Prop := ∃ ad n cap, v = .tuple #[.slice ad n cap, .int .i64 r.2.1, .int .i64 r.2.2] ∧ n = r.1.length ∧ Sl fA 123 5 n0 r.1 (.slice ad n cap) m
theorem AcT.mono {r : List Act × Int × Int} : ∀ (k k' : Nat) u m, k' ≤ k → AcT r k u m → AcT r k' u m := fun k k' u m h ⟨ad, n, cap, h1, h2, h3⟩ => ⟨ad, n, cap, h1, h2, h3.mono h⟩
def fullA (ws : List Wrd) (i : Nat) (out : List Act) : Bool := decide (out.length = 4000) && decide (kindA ws i ≠ 0)
theorem loopA_full {ws : List Wrd} {i : Nat} {out : List Act} (h : i < ws.length) (hq : fullA ws i out = true) : loopA ws i out = ([], (i : Int), 6) := by
  unfold fullA at hq; simp only [Bool.and_eq_true, decide_eq_true_eq] at hq
  rw [loopA_step h, if_neg hq.2, if_pos hq.1]
theorem loopA_bad {ws : List Wrd} {i : Nat} {out : List Act} (h : i < ws.length) (hq : fullA ws i out = false) (he : (oneA ws i).2.2 ≠ 0) : loopA ws i out = ([], ((oneA ws i).2.1 : Int), (oneA ws i).2.2) := by
  unfold fullA at hq; simp only [Bool.and_eq_false_iff, decide_eq_false_iff_not] at hq
  rw [loopA_step h]
  by_cases h0 : kindA ws i = 0
  · rw [if_pos h0, oneA_0 h0]
  · rw [if_neg h0, if_neg (by rcases hq with q | q; exact q; exact absurd h0 q), if_pos he]
theorem loopA_next {ws : List Wrd} {i : Nat} {out : List Act} (h : i < ws.length) (hq : fullA ws i out = false) (he : (oneA ws i).2.2 = 0) : loopA ws i out = loopA ws (oneA ws i).2.1 (out ++ [(oneA ws i).1]) ∧ out.length ≠ 4000 := by
  unfold fullA at hq; simp only [Bool.and_eq_false_iff, decide_eq_false_iff_not] at hq
  have h0 : kindA ws i ≠ 0 := fun q => by rw [oneA_0 q] at he; cases he
  have h1 : out.length ≠ 4000 := by rcases hq with q | q; exact q; exact absurd h0 q
  exact ⟨by rw [loopA_step h, if_neg h0, if_neg h1, if_neg (fun q => q he)], h1⟩
theorem begins_eq {ws : List Wrd} {i : Nat} (hi : i < ws.length) : (decide ((ws.getD i default).k = 1) && decide (kindAT (ws.getD i default).t ≠ 0)) = decide (kindA ws i ≠ 0) := by
  by_cases h : (ws.getD i default).k = 1
  · rw [kindA_yes hi h, decide_eq_true h, Bool.true_and]
  · rw [kindA_no h, decide_eq_false h]; rfl
theorem mx0_pos {a : Int} : decide (a > 0) = decide (mx0 a ≠ 0) := decide_eq_decide.2 (by unfold mx0; constructor <;> intro h <;> (first | omega | (split at h <;> omega) | (split <;> omega)))
set_option maxRecDepth 100000 in
set_option maxHeartbeats 1000000 in
theorem actone_spec {ws : List Wrd} {ad : Option Addr} {n cap : Nat} (i : Nat) (w : World) (hn : n = ws.length) (hx : ws.length ≤ 1000000000) (hl : Sr fW 4 ws (.slice ad n cap) w) (hi : i < ws.length) : Ret Tryz.prog 111 #[.slice ad n cap, .int .i64 (i : Nat)] w (fun v w' => v = .tuple #[.agg (fA (oneA ws i).1).toArray, .int .i64 ((oneA ws i).2.1 : Nat), .int .i64 (oneA ws i).2.2] ∧ Ext w w') := by
 refine Ret.enterM (l := [.slice ad n cap, .int .i64 (i : Nat)]) Tryz.func111 rfl Tryz.ntmps111 rfl ([]) (no) (Mem.nil w) ?_
 refine wpM.seq (wpM.region ?_)
 refine LM.alloc Tryz.zeroValue123 rfl (fun b4 hb4 => ?_)
 refine LM.as rfl ?_
 refine LM.as rfl ?_
 refine LM.nil (QM.sub (e' := [(0, _), (1, _), (4, _)]) ⟨rfl, rfl, rfl, trivial⟩ (QM.then (wpM.seq (wpM.region ?_))))
 refine LM.as rfl ?_
 refine LM.nil (QM.sub (e' := [(0, _), (1, _), (4, _), (7, _)]) ⟨rfl, rfl, rfl, rfl, trivial⟩ (QM.then ?_))
 refine wpM.seq ?_
 refine wpM.seq (wpM.region ?_)
 refine LM.mv rfl ?_
 refine LM.mv rfl ?_
 refine LM.val (ov_idxSN au6 Tryz.underlying23 Tryz.sizeOf65 rfl rfl (by omega)) ?_
 refine LM.val (ov_field Tryz.underlying65 rfl Tryz.sizeOf3 rfl (k := 0) rfl rfl) ?_
 first | refine LM.rd (om_slE (j := 0) (by assumption) (by intro _; rfl) Tryz.isAgg3 rfl rfl au3 rfl (by rfl)) ?_ | refine LM.rdC (om_srE (j := 0) (by assumption) Tryz.isAgg3 rfl rfl au3 (by rfl) (by rfl) id) ?_ | refine LM.rd (om_ld Tryz.isAgg3 rfl rfl) ?_
 refine LM.val (ov_eql rfl rfl) ?_
 refine LM.nil (QM.sub (e' := [(0, _), (1, _), (4, _), (7, _), (15, _)]) ⟨rfl, rfl, rfl, rfl, rfl, trivial⟩ (QM.then ?_))
 refine wpM.joinK (α := Int) (fun kd => [(7, .int .i64 kd)]) [(0, _), (1, _), (4, _)] (fun kd => (b4, .cells (fA default).toArray 123 (0, 0)) :: []) (fun kd => kd = kindA ws i) ⟨rfl, rfl, rfl, trivial⟩ ?_ ?_
 ·
  refine wpM.condD rfl (fun h1 => ?_) (fun h1 => ?_)
  ·
   refine wpM.draw [(1, 0), (2, 0), (3, 0), (4, 0), (5, 1), (0, 2), (6, 2), (7, 0), (8, 0)] (by kernel_rfl) (by kernel_rfl) ?_
   refine LD.val rfl rfl (ov_move rfl) ?_
   refine LD.val rfl rfl (ov_move rfl) ?_
   refine LD.val rfl rfl (ov_idxSN au6 Tryz.underlying23 Tryz.sizeOf65 rfl rfl (by omega)) ?_
   refine LD.val rfl rfl (ov_field Tryz.underlying65 rfl Tryz.sizeOf9 rfl (k := 1) rfl rfl) ?_
   first | refine LD.rd rfl rfl (om_slE (j := 1) (by assumption) (by intro _; rfl) Tryz.isAgg9 rfl rfl au3 rfl (by rfl)) ?_ | refine LD.rdC rfl rfl (om_srE (j := 1) (by assumption) Tryz.isAgg9 rfl rfl au3 (by rfl) (by rfl) id) ?_ | refine LD.rd rfl rfl (om_ld Tryz.isAgg9 rfl rfl) ?_
   refine LD.cS rfl rfl (oc_call (enters_fn Tryz.func147 (by kernel_rfl) rfl) rfl) (fun w hm hc hg => anames_spec w) (fun ad16 n16 cap16 m16 hn16 hs16 => ?_)
   refine LD.callE rfl rfl (oc_call (enters_fn Tryz.func146 (by kernel_rfl) rfl) rfl) (fun w hm hc hg => index_str _ w hn16 (hs16.srM (by intro _; rfl) hm) (by decide)) ?_
   refine LD.val rfl rfl (ov_max rfl rfl) ?_
   refine LD.val rfl rfl (ov_assign rfl) ?_
   refine LD.nil ?_
   refine QM.sub (e' := [(0, _), (1, _), (4, _), (7, _)]) ⟨rfl, rfl, rfl, rfl, trivial⟩ ?_
   refine QM.meetK (_) ⟨au2, rfl, rfl, rfl, trivial⟩ au1 ?_
   · exact (kindA_yes hi h1).symm
  refine wpM.skip ?_
  refine QM.meetK (_) ⟨au2, rfl, rfl, rfl, trivial⟩ au1 ?_
  · exact (kindA_no h1).symm
 rintro kd rfl
 change QM _ _ _ _ _ ((b4, .cells (fA default).toArray 123 (0, 0)) :: []) _ _ _
 refine QM.then ?_
 refine wpM.seq ?_
 refine wpM.seq (wpM.region ?_)
 refine LM.mv rfl ?_
 refine LM.val (ov_eql rfl rfl) ?_
 refine LM.nil (QM.sub (e' := [(0, _), (1, _), (4, _), (7, _), (25, _)]) ⟨rfl, rfl, rfl, rfl, rfl, trivial⟩ (QM.then ?_))
 refine wpM.condD rfl (fun h2 => ?_) (fun h2 => ?_)
 ·
  refine wpM.seq (wpM.region ?_)
  refine LM.val (ov_build (cs := #[_, _, _, _, _]) rfl (by first | rfl | kernel_rfl)) ?_
  refine LM.mv rfl ?_
  refine LM.stW Tryz.sizeOf123 rfl rfl rfl rfl au7 au8 ?_
  refine LM.as rfl ?_
  refine LM.as rfl ?_
  refine LM.nil (QM.sub (e' := [(4, _), (5, _), (6, _)]) ⟨rfl, rfl, rfl, trivial⟩ (QM.then ?_))
  refine wpM.ret ?_
  refine QM.then_ret ?_
  refine QM.leaveCs (ds := ([])) (.inl rfl) [.cell 4 123, .tmp 5, .tmp 6] Tryz.results111 hd_nil (rc_w rfl Tryz.isAgg123 Tryz.sizeOf123 rfl (rc_tmp rfl (rc_tmp rfl rc_nil))) ?_
  intro w' hm' hc'
  exact ⟨by rw [oneA_0 (by omega)]; rfl, hc'⟩
 refine wpM.skip ?_
 refine QM.then (wpM.seq (wpM.region ?_))
 refine LM.mv rfl ?_
 refine LM.val (ov_add64 rfl rfl (by omega)) ?_
 refine LM.as rfl ?_
 refine LM.nil (QM.sub (e' := [(0, _), (1, _), (4, _), (7, _)]) ⟨rfl, rfl, rfl, rfl, trivial⟩ (QM.then (wpM.seq (wpM.region ?_))))
 refine LM.alloc Tryz.zeroValue198 rfl (fun b8 hb8 => ?_)
 refine LM.nil (QM.sub (e' := [(0, _), (1, _), (4, _), (7, _), (8, _)]) ⟨rfl, rfl, rfl, rfl, rfl, trivial⟩ (QM.then ?_))
 refine wpM.seq ?_
 refine wpM.seq (wpM.region ?_)
 refine LM.mv rfl ?_
 refine LM.callE (oc_call (enters_fn Tryz.func120 (by kernel_rfl) rfl) rfl) (fun w hm hc hg => many_spec _ w) ?_
 refine LM.mv rfl ?_
 refine LM.nil (QM.sub (e' := [(0, _), (1, _), (4, _), (7, _), (8, _), (31, _), (32, _)]) ⟨rfl, rfl, rfl, rfl, rfl, rfl, rfl, trivial⟩ (QM.then ?_))
 refine wpM.block ?_
 refine wpM.loopK0 (α := Nat × Nat × List Int) (fun ⟨k, j, xs⟩ => [(1, .int .i64 (j : Nat)), (32, .int .i64 (k : Nat))]) [(0, _), (4, _), (7, _), (8, _), (31, _)] (fun ⟨k, j, xs⟩ => (b8, .cells (arr fI xs []) 198 (0, 0)) :: (b4, .cells (fA default).toArray 123 (0, 0)) :: []) (fun ⟨k, j, xs⟩ => k ≤ manyA (kindA ws i) ∧ j ≤ ws.length ∧ xs.length = 4 ∧ numG ws (manyA (kindA ws i) - k) j k xs = numK ws i) (fun ⟨k, j, xs⟩ => manyA (kindA ws i) - k) ((0, i + 1, zer4)) ⟨au2, au2, rfl, rfl, rfl, rfl, rfl, trivial⟩ au1 ⟨Nat.zero_le _, by omega, rfl, rfl⟩ ?_
 rintro ⟨k, j, xs⟩ ⟨hkm, hj, hx4, hN⟩
 change wpM _ _ _ _ _ _ _ ((b8, .cells (arr fI xs []) 198 (0, 0)) :: (b4, .cells (fA default).toArray 123 (0, 0)) :: []) _ _ _
 have hm4 := manyA_le (kindA ws i)
 refine wpM.seq (wpM.region ?_)
 refine LM.val (ov_lss rfl rfl) ?_
 refine LM.nil (QM.sub (e' := [(0, _), (1, _), (4, _), (7, _), (8, _), (31, _), (32, _), (33, _)]) ⟨rfl, rfl, rfl, rfl, rfl, rfl, rfl, rfl, trivial⟩ (QM.then ?_))
 refine wpM.seq ?_
 refine wpM.condD rfl (fun h3 => ?_) (fun h3 => ?_)
 ·
  refine wpM.skip ?_
  refine QM.then ?_
  refine wpM.seq ?_
  refine wpM.block ?_
  refine wpM.seq (wpM.region ?_)
  refine LM.mv rfl ?_
  refine LM.as rfl ?_
  refine LM.nil (QM.sub (e' := [(0, _), (1, _), (4, _), (7, _), (8, _), (9, _), (31, _), (32, _)]) ⟨rfl, rfl, rfl, rfl, rfl, rfl, rfl, rfl, trivial⟩ (QM.then ?_))
  refine wpM.seq ?_
  refine wpM.seq ?_
  refine wpM.joinK (α := Bool) (fun q => [(46, .bool q)]) [(0, _), (1, _), (4, _), (7, _), (8, _), (9, _), (31, _), (32, _)] (fun q => (b8, .cells (arr fI xs []) 198 (0, 0)) :: (b4, .cells (fA default).toArray 123 (0, 0)) :: []) (fun q => q = (decide (ws.length ≤ j) || decide ((ws.getD j default).k ≠ 2))) ⟨rfl, rfl, rfl, rfl, rfl, rfl, rfl, rfl, trivial⟩ ?_ ?_
  ·
   refine wpM.region ?_
   refine LM.mv rfl ?_
   refine LM.mv rfl ?_
   refine LM.val (ov_len Tryz.underlying23 rfl) ?_
   refine LM.val (ov_geq rfl rfl) ?_
   refine LM.mv rfl ?_
   refine LM.splitD (t := 39) rfl (fun h4 => ?_) (fun h4 => ?_)
   ·
    refine LM.dr 39 rfl rfl rfl ?_
    refine LM.dr 39 rfl rfl rfl ?_
    refine LM.dr 39 rfl rfl rfl ?_
    refine LM.dr 39 rfl rfl rfl ?_
    refine LM.dr 39 rfl rfl rfl ?_
    refine LM.dr 39 rfl rfl rfl ?_
    refine LM.val (ov_pickT rfl rfl) ?_
    refine LM.nil (QM.sub (e' := [(0, _), (1, _), (4, _), (7, _), (8, _), (9, _), (31, _), (32, _), (46, _)]) ⟨rfl, rfl, rfl, rfl, rfl, rfl, rfl, rfl, rfl, trivial⟩ ?_)
    refine QM.meetK (_) ⟨au2, rfl, rfl, rfl, rfl, rfl, rfl, rfl, rfl, trivial⟩ au1 ?_
    · rw [decide_eq_true (show ws.length ≤ j by omega), Bool.true_or]
   refine LM.sp 39 rfl rfl rfl ?_
   refine LM.mv rfl ?_
   refine LM.sp 39 rfl rfl rfl ?_
   refine LM.mv rfl ?_
   refine LM.sp 39 rfl rfl rfl ?_
   refine LM.val (ov_idxSN au6 Tryz.underlying23 Tryz.sizeOf65 rfl rfl (by omega)) ?_
   refine LM.sp 39 rfl rfl rfl ?_
   refine LM.val (ov_field Tryz.underlying65 rfl Tryz.sizeOf3 rfl (k := 0) rfl rfl) ?_
   refine LM.sp 39 rfl rfl rfl ?_
   first | refine LM.rd (om_slE (j := 0) (by assumption) (by intro _; rfl) Tryz.isAgg3 rfl rfl au3 rfl (by rfl)) ?_ | refine LM.rdC (om_srE (j := 0) (by assumption) Tryz.isAgg3 rfl rfl au3 (by rfl) (by rfl) id) ?_ | refine LM.rd (om_ld Tryz.isAgg3 rfl rfl) ?_
   refine LM.sp 39 rfl rfl rfl ?_
   refine LM.val (ov_neq rfl rfl) ?_
   refine LM.val (ov_pickF rfl rfl) ?_
   refine LM.nil (QM.sub (e' := [(0, _), (1, _), (4, _), (7, _), (8, _), (9, _), (31, _), (32, _), (46, _)]) ⟨rfl, rfl, rfl, rfl, rfl, rfl, rfl, rfl, rfl, trivial⟩ ?_)
   refine QM.meetK (_) ⟨au2, rfl, rfl, rfl, rfl, rfl, rfl, rfl, rfl, trivial⟩ au1 ?_
   · rw [decide_eq_false (show ¬ ws.length ≤ j by omega), Bool.false_or]
  rintro q hq
  change QM _ _ _ _ _ ((b8, .cells (arr fI xs []) 198 (0, 0)) :: (b4, .cells (fA default).toArray 123 (0, 0)) :: []) _ _ _
  refine QM.then ?_
  first | refine wpM.condD rfl (fun h5 => ?_) (fun h5 => ?_) | refine wpM.condB rfl (fun h5 => ?_) (fun h5 => ?_)
  ·
   refine wpM.seq (wpM.region ?_)
   refine LM.val (ov_build (cs := #[_, _, _, _, _]) rfl (by first | rfl | kernel_rfl)) ?_
   refine LM.mv rfl ?_
   refine LM.stW Tryz.sizeOf123 rfl rfl rfl rfl au7 au8 ?_
   refine LM.as rfl ?_
   refine LM.as rfl ?_
   refine LM.nil (QM.sub (e' := [(4, _), (5, _), (6, _)]) ⟨rfl, rfl, rfl, trivial⟩ (QM.then ?_))
   refine wpM.ret ?_
   refine QM.then_ret ?_
   refine QM.block_ret ?_
   refine QM.then_ret ?_
   refine QM.then_ret ?_
   refine QM.block_ret ?_
   refine QM.then_ret ?_
   refine QM.leaveCs (ds := ([])) (.inl rfl) [.cell 4 123, .tmp 5, .tmp 6] Tryz.results111 hd_nil (rc_w rfl Tryz.isAgg123 Tryz.sizeOf123 rfl (rc_tmp rfl (rc_tmp rfl rc_nil))) ?_
   intro w' hm' hc'
   have hNK : numK ws i = (j, 5, xs) := (by rw [← hN, numG_stop (by omega) (hq.symm.trans h5)]); exact ⟨by rw [oneA_n h2 hNK]; rfl, hc'⟩
  have hjn : j < ws.length := (by have h := hq.symm.trans h5; simp only [Bool.or_eq_false_iff, decide_eq_false_iff_not] at h; omega)
  refine wpM.skip ?_
  refine QM.then (wpM.seq (wpM.region ?_))
  refine LM.mv rfl ?_
  refine LM.mv rfl ?_
  refine LM.mv rfl ?_
  refine LM.val (ov_idxSN au6 Tryz.underlying23 Tryz.sizeOf65 rfl rfl (by omega)) ?_
  refine LM.val (ov_field Tryz.underlying65 rfl Tryz.sizeOf3 rfl (k := 2) rfl rfl) ?_
  first | refine LM.rd (om_slE (j := 2) (by assumption) (by intro _; rfl) Tryz.isAgg3 rfl rfl au3 rfl (by rfl)) ?_ | refine LM.rdC (om_srE (j := 2) (by assumption) Tryz.isAgg3 rfl rfl au3 (by rfl) (by rfl) id) ?_ | refine LM.rd (om_ld Tryz.isAgg3 rfl rfl) ?_
  refine LM.val (ov_idxAN Tryz.underlying198 Tryz.sizeOf3 rfl rfl (by omega)) ?_
  refine LM.stE1 (f := fI) _ (by intro _; rfl) Tryz.sizeOf3 rfl rfl rfl rfl (getq 0 (by omega)) rfl rfl rfl au8 ?_
  refine LM.nil (QM.sub (e' := [(0, _), (1, _), (4, _), (7, _), (8, _), (31, _), (32, _)]) ⟨rfl, rfl, rfl, rfl, rfl, rfl, rfl, trivial⟩ (QM.then (wpM.region ?_)))
  refine LM.mv rfl ?_
  refine LM.val (ov_add64 rfl rfl (by omega)) ?_
  refine LM.as rfl ?_
  refine LM.nil (QM.sub (e' := [(0, _), (1, _), (4, _), (7, _), (8, _), (31, _), (32, _)]) ⟨rfl, rfl, rfl, rfl, rfl, rfl, rfl, trivial⟩ ?_)
  refine QM.block_normal ?_
  refine QM.then (wpM.region ?_)
  refine LM.val (ov_add64 rfl rfl (by omega)) ?_
  refine LM.mv rfl ?_
  refine LM.nil (QM.sub (e' := [(0, _), (1, _), (4, _), (7, _), (8, _), (31, _), (32, _)]) ⟨rfl, rfl, rfl, rfl, rfl, rfl, rfl, trivial⟩ ?_)
  refine QM.againK ((k + 1, j + 1, xs.set k (ws.getD j default).n)) ⟨au2, au2, rfl, rfl, rfl, rfl, rfl, trivial⟩ au1 (fun _ h => h) ?_ ?_
  · exact ⟨by omega, by omega, by simpa using hx4, by rw [show manyA (kindA ws i) - (k + 1) = manyA (kindA ws i) - k - 1 by omega, ← numG_next (by omega) (hq.symm.trans h5)]; exact hN⟩
  · first | omega | (dsimp only; omega)
 refine wpM.exit ?_
 refine QM.then_exit ?_
 refine QM.then_exit ?_
 refine QM.block_hit ?_
 refine QM.then ?_
 refine wpM.seq ?_
 refine wpM.seq ?_
 refine wpM.joinK (α := Bool) (fun q => [(78, .bool q)]) [(1, _), (4, _), (7, _), (8, _)] (fun q => (b8, .cells (arr fI xs []) 198 (0, 0)) :: (b4, .cells (fA default).toArray 123 (0, 0)) :: []) (fun q => q = !isR ws j 3 [59]) ⟨rfl, rfl, rfl, rfl, trivial⟩ ?_ ?_
 ·
  refine wpM.region ?_
  refine LM.mv rfl ?_
  refine LM.mv rfl ?_
  refine LM.val (ov_len Tryz.underlying23 rfl) ?_
  refine LM.val (ov_geq rfl rfl) ?_
  refine LM.mv rfl ?_
  refine LM.splitD (t := 63) rfl (fun h6 => ?_) (fun h6 => ?_)
  ·
   refine LM.dr 63 rfl rfl rfl ?_
   refine LM.dr 63 rfl rfl rfl ?_
   refine LM.dr 63 rfl rfl rfl ?_
   refine LM.dr 63 rfl rfl rfl ?_
   refine LM.dr 63 rfl rfl rfl ?_
   refine LM.dr 63 rfl rfl rfl ?_
   refine LM.val (ov_pickT rfl rfl) ?_
   refine LM.mv rfl ?_
   refine LM.dr 71 rfl rfl rfl ?_
   refine LM.dr 71 rfl rfl rfl ?_
   refine LM.dr 71 rfl rfl rfl ?_
   refine LM.dr 71 rfl rfl rfl ?_
   refine LM.dr 71 rfl rfl rfl ?_
   refine LM.dr 71 rfl rfl rfl ?_
   refine LM.val (ov_pickT rfl rfl) ?_
   refine LM.nil (QM.sub (e' := [(1, _), (4, _), (7, _), (8, _), (78, _)]) ⟨rfl, rfl, rfl, rfl, rfl, trivial⟩ ?_)
   refine QM.meetK (_) ⟨au2, rfl, rfl, rfl, rfl, trivial⟩ au1 ?_
   · unfold isR; rw [decide_eq_false (show ¬ j < ws.length by omega)]; rfl
  refine LM.sp 63 rfl rfl rfl ?_
  refine LM.mv rfl ?_
  refine LM.sp 63 rfl rfl rfl ?_
  refine LM.mv rfl ?_
  refine LM.sp 63 rfl rfl rfl ?_
  refine LM.val (ov_idxSN au6 Tryz.underlying23 Tryz.sizeOf65 rfl rfl (by omega)) ?_
  refine LM.sp 63 rfl rfl rfl ?_
  refine LM.val (ov_field Tryz.underlying65 rfl Tryz.sizeOf3 rfl (k := 0) rfl rfl) ?_
  refine LM.sp 63 rfl rfl rfl ?_
  first | refine LM.rd (om_slE (j := 0) (by assumption) (by intro _; rfl) Tryz.isAgg3 rfl rfl au3 rfl (by rfl)) ?_ | refine LM.rdC (om_srE (j := 0) (by assumption) Tryz.isAgg3 rfl rfl au3 (by rfl) (by rfl) id) ?_ | refine LM.rd (om_ld Tryz.isAgg3 rfl rfl) ?_
  refine LM.sp 63 rfl rfl rfl ?_
  refine LM.val (ov_neq rfl rfl) ?_
  refine LM.val (ov_pickF rfl rfl) ?_
  refine LM.mv rfl ?_
  refine LM.splitD (t := 71) rfl (fun h7 => ?_) (fun h7 => ?_)
  ·
   refine LM.dr 71 rfl rfl rfl ?_
   refine LM.dr 71 rfl rfl rfl ?_
   refine LM.dr 71 rfl rfl rfl ?_
   refine LM.dr 71 rfl rfl rfl ?_
   refine LM.dr 71 rfl rfl rfl ?_
   refine LM.dr 71 rfl rfl rfl ?_
   refine LM.val (ov_pickT rfl rfl) ?_
   refine LM.nil (QM.sub (e' := [(1, _), (4, _), (7, _), (8, _), (78, _)]) ⟨rfl, rfl, rfl, rfl, rfl, trivial⟩ ?_)
   refine QM.meetK (_) ⟨au2, rfl, rfl, rfl, rfl, trivial⟩ au1 ?_
   · unfold isR; rw [decide_eq_true (show j < ws.length by omega), decide_eq_false (show ¬ (ws.getD j default).k = 3 by omega)]; rfl
  refine LM.sp 71 rfl rfl rfl ?_
  refine LM.mv rfl ?_
  refine LM.sp 71 rfl rfl rfl ?_
  refine LM.mv rfl ?_
  refine LM.sp 71 rfl rfl rfl ?_
  refine LM.val (ov_idxSN au6 Tryz.underlying23 Tryz.sizeOf65 rfl rfl (by omega)) ?_
  refine LM.sp 71 rfl rfl rfl ?_
  refine LM.val (ov_field Tryz.underlying65 rfl Tryz.sizeOf9 rfl (k := 1) rfl rfl) ?_
  refine LM.sp 71 rfl rfl rfl ?_
  first | refine LM.rd (om_slE (j := 1) (by assumption) (by intro _; rfl) Tryz.isAgg9 rfl rfl au3 rfl (by rfl)) ?_ | refine LM.rdC (om_srE (j := 1) (by assumption) Tryz.isAgg9 rfl rfl au3 (by rfl) (by rfl) id) ?_ | refine LM.rd (om_ld Tryz.isAgg9 rfl rfl) ?_
  refine LM.sp 71 rfl rfl rfl ?_
  refine LM.val (ov_sneqL rfl rfl) ?_
  refine LM.val (ov_pickF rfl rfl) ?_
  refine LM.nil (QM.sub (e' := [(1, _), (4, _), (7, _), (8, _), (78, _)]) ⟨rfl, rfl, rfl, rfl, rfl, trivial⟩ ?_)
  refine QM.meetK (_) ⟨au2, rfl, rfl, rfl, rfl, trivial⟩ au1 ?_
  · unfold isR; rw [decide_eq_true (show j < ws.length by omega), decide_eq_true (show (ws.getD j default).k = 3 by omega)]; simp only [Bool.true_and, decide_not]
 rintro q hq
 change QM _ _ _ _ _ ((b8, .cells (arr fI xs []) 198 (0, 0)) :: (b4, .cells (fA default).toArray 123 (0, 0)) :: []) _ _ _
 refine QM.then ?_
 first | refine wpM.condD rfl (fun h8 => ?_) (fun h8 => ?_) | refine wpM.condB rfl (fun h8 => ?_) (fun h8 => ?_)
 ·
  refine wpM.seq (wpM.region ?_)
  refine LM.val (ov_build (cs := #[_, _, _, _, _]) rfl (by first | rfl | kernel_rfl)) ?_
  refine LM.mv rfl ?_
  refine LM.stW Tryz.sizeOf123 rfl rfl rfl rfl au7 au8 ?_
  refine LM.as rfl ?_
  refine LM.as rfl ?_
  refine LM.nil (QM.sub (e' := [(4, _), (5, _), (6, _)]) ⟨rfl, rfl, rfl, trivial⟩ (QM.then ?_))
  refine wpM.ret ?_
  refine QM.then_ret ?_
  refine QM.leaveCs (ds := ([])) (.inl rfl) [.cell 4 123, .tmp 5, .tmp 6] Tryz.results111 hd_nil (rc_w rfl Tryz.isAgg123 Tryz.sizeOf123 rfl (rc_tmp rfl (rc_tmp rfl rc_nil))) ?_
  intro w' hm' hc'
  have hNK : numK ws i = (j, 0, xs) := (by rw [← hN, show manyA (kindA ws i) - k = 0 by omega]; rfl); exact ⟨by rw [oneA_s h2 hNK (by simpa using hq.symm.trans h8)]; rfl, hc'⟩
 refine wpM.skip ?_
 refine QM.then (wpM.seq (wpM.region ?_))
 refine LM.mv rfl ?_
 first | refine LM.val (ov_idxAN Tryz.underlying198 Tryz.sizeOf3 rfl rfl (by omega)) ?_ | refine LM.val (ov_idxA Tryz.underlying198 Tryz.sizeOf3 rfl rfl (by omega)) ?_
 refine LM.rd (om_ldE1 (by intro _; rfl) Tryz.isAgg3 rfl rfl rfl (getq 0 (by omega)) (by rfl)) ?_
 first | refine LM.val (ov_idxAN Tryz.underlying198 Tryz.sizeOf3 rfl rfl (by omega)) ?_ | refine LM.val (ov_idxA Tryz.underlying198 Tryz.sizeOf3 rfl rfl (by omega)) ?_
 refine LM.rd (om_ldE1 (by intro _; rfl) Tryz.isAgg3 rfl rfl rfl (getq 0 (by omega)) (by rfl)) ?_
 first | refine LM.val (ov_idxAN Tryz.underlying198 Tryz.sizeOf3 rfl rfl (by omega)) ?_ | refine LM.val (ov_idxA Tryz.underlying198 Tryz.sizeOf3 rfl rfl (by omega)) ?_
 refine LM.rd (om_ldE1 (by intro _; rfl) Tryz.isAgg3 rfl rfl rfl (getq 0 (by omega)) (by rfl)) ?_
 first | refine LM.val (ov_idxAN Tryz.underlying198 Tryz.sizeOf3 rfl rfl (by omega)) ?_ | refine LM.val (ov_idxA Tryz.underlying198 Tryz.sizeOf3 rfl rfl (by omega)) ?_
 refine LM.rd (om_ldE1 (by intro _; rfl) Tryz.isAgg3 rfl rfl rfl (getq 0 (by omega)) (by rfl)) ?_
 refine LM.val (ov_build (cs := #[_, _, _, _, _]) rfl (by first | rfl | kernel_rfl)) ?_
 refine LM.mv rfl ?_
 refine LM.val (ov_add64 rfl rfl (by omega)) ?_
 refine LM.stW Tryz.sizeOf123 rfl rfl rfl rfl au7 au8 ?_
 refine LM.as rfl ?_
 refine LM.as rfl ?_
 refine LM.nil (QM.sub (e' := [(4, _), (5, _), (6, _)]) ⟨rfl, rfl, rfl, trivial⟩ (QM.then ?_))
 refine wpM.ret ?_
 refine QM.leaveCs (ds := ([])) (.inl rfl) [.cell 4 123, .tmp 5, .tmp 6] Tryz.results111 hd_nil (rc_w rfl Tryz.isAgg123 Tryz.sizeOf123 rfl (rc_tmp rfl (rc_tmp rfl rc_nil))) ?_
 intro w' hm' hc'
 have hNK : numK ws i = (j, 0, xs) := (by rw [← hN, show manyA (kindA ws i) - k = 0 by omega]; rfl); exact ⟨by rw [oneA_ok h2 hNK (by simpa using hq.symm.trans h8)]; rfl, hc'⟩
set_option maxRecDepth 100000 in
theorem begins_spec (x : Wrd) (w : World) : Ret Tryz.prog 110 #[.agg (fW x).toArray] w (fun v w' => v = .bool (decide (x.k = 1) && decide (kindAT x.t ≠ 0)) ∧ Ext w w') := by
 refine Ret.enterM (l := [.agg (fW x).toArray]) Tryz.func110 rfl Tryz.ntmps110 rfl ([]) (no) (Mem.nil w) ?_
 refine wpM.seq (wpM.region ?_)
 refine LM.box rfl rfl (fun b1 hb1 => ?_)
 refine LM.as rfl ?_
 refine LM.nil (QM.sub (e' := [(1, _)]) ⟨rfl, trivial⟩ (QM.then ?_))
 refine wpM.seq ?_
 refine wpM.draw [(0, 0), (1, 1), (2, 0), (3, 0), (5, 0), (6, 1), (4, 2), (7, 2), (8, 0), (9, 0), (10, 0)] (by kernel_rfl) (by kernel_rfl) ?_
 refine LD.val rfl rfl (ov_field Tryz.underlying65 rfl Tryz.sizeOf3 rfl (k := 0) rfl rfl) ?_
 refine LD.rd rfl rfl (om_ld Tryz.isAgg3 rfl rfl) ?_
 refine LD.val rfl rfl (ov_eql rfl rfl) ?_
 refine LD.val rfl rfl (ov_move rfl) ?_
 refine LD.splitD (t := 6) rfl (fun h1 => ?_) (fun h1 => ?_)
 ·
  refine LD.val rfl ⟨6, _, rfl, rfl, rfl⟩ (ov_field Tryz.underlying65 rfl Tryz.sizeOf9 rfl (k := 1) rfl rfl) ?_
  refine LD.rd rfl ⟨6, _, rfl, rfl, rfl⟩ (om_ld Tryz.isAgg9 rfl rfl) ?_
  refine LD.cS rfl ⟨6, _, rfl, rfl, rfl⟩ (oc_call (enters_fn Tryz.func147 (by kernel_rfl) rfl) rfl) (fun w hm hc hg => anames_spec w) (fun ad7 n7 cap7 m7 hn7 hs7 => ?_)
  refine LD.callE rfl ⟨6, _, rfl, rfl, rfl⟩ (oc_call (enters_fn Tryz.func146 (by kernel_rfl) rfl) rfl) (fun w hm hc hg => index_str _ w hn7 (hs7.srM (by intro _; rfl) hm) (by decide)) ?_
  refine LD.val rfl ⟨6, _, rfl, rfl, rfl⟩ (ov_gtr rfl rfl) ?_
  refine LD.val rfl rfl (ov_pickT rfl rfl) ?_
  refine LD.val rfl rfl (ov_assign rfl) ?_
  refine LD.nil ?_
  refine QM.sub (e' := [(2, _)]) ⟨rfl, trivial⟩ (QM.then ?_)
  refine wpM.ret ?_
  refine QM.leave (.inl rfl) [.tmp 2] Tryz.results110 rfl ?_
  intro w' hm' hc' hg'
  refine ⟨?_, hc'⟩; rw [decide_eq_true h1, Bool.true_and]; show Value.bool (decide (_ > 0)) = _; rw [mx0_pos]; rfl
 refine LD.drop rfl rfl ⟨6, _, rfl, rfl, rfl⟩ ?_
 refine LD.drop rfl rfl ⟨6, _, rfl, rfl, rfl⟩ ?_
 refine LD.drop rfl rfl ⟨6, _, rfl, rfl, rfl⟩ ?_
 refine LD.drop rfl rfl ⟨6, _, rfl, rfl, rfl⟩ ?_
 refine LD.drop rfl rfl ⟨6, _, rfl, rfl, rfl⟩ ?_
 refine LD.val rfl rfl (ov_pickF rfl rfl) ?_
 refine LD.val rfl rfl (ov_assign rfl) ?_
 refine LD.nil ?_
 refine QM.sub (e' := [(2, _)]) ⟨rfl, trivial⟩ (QM.then ?_)
 refine wpM.ret ?_
 refine QM.leave (.inl rfl) [.tmp 2] Tryz.results110 rfl ?_
 intro w' hm' hc' hg'
 refine ⟨?_, hc'⟩; rw [decide_eq_false h1]; rfl
set_option maxRecDepth 100000 in
set_option maxHeartbeats 1000000 in
theorem aparse_spec {ws : List Wrd} {ad : Option Addr} {n cap : Nat} (p : Int) (w : World) (hn : n = ws.length) (hx : ws.length ≤ 1000000000) (hl : Sr fW 4 ws (.slice ad n cap) w) : Ret Tryz.prog 68 #[.slice ad n cap, .int .i64 p] w (fun v w' => Ext w w' ∧ ∃ m, AcT (actsO ws p) w.heap.size v m ∧ Mem w' m ∧ ∀ p ∈ m, w.heap.size ≤ p.1) := by
 refine Ret.enterM (l := [.slice ad n cap, .int .i64 p]) Tryz.func68 rfl Tryz.ntmps68 rfl ([]) (no) (Mem.nil w) ?_
 refine wpM.seq (wpM.region ?_)
 refine LM.as rfl ?_
 refine LM.as rfl ?_
 refine LM.as rfl ?_
 refine LM.nil (QM.sub (e' := [(0, _), (1, _)]) ⟨rfl, rfl, trivial⟩ (QM.then ?_))
 refine wpM.seq ?_
 refine wpM.seq (wpM.region ?_)
 refine LM.mv rfl ?_
 refine LM.val (ov_lss rfl rfl) ?_
 refine LM.mv rfl ?_
 refine LM.splitD (t := 13) rfl (fun h1 => ?_) (fun h1 => ?_)
 ·
  refine LM.dr 13 rfl rfl rfl ?_
  refine LM.dr 13 rfl rfl rfl ?_
  refine LM.dr 13 rfl rfl rfl ?_
  refine LM.dr 13 rfl rfl rfl ?_
  refine LM.val (ov_pickT rfl rfl) ?_
  refine LM.nil (QM.sub (e' := [(0, _), (1, _), (18, _)]) ⟨rfl, rfl, rfl, trivial⟩ (QM.then ?_))
  refine wpM.condT rfl ?_
  refine wpM.seq (wpM.region ?_)
  refine LM.as rfl ?_
  refine LM.as rfl ?_
  refine LM.as rfl ?_
  refine LM.nil (QM.sub (e' := [(4, _), (5, _), (6, _)]) ⟨rfl, rfl, rfl, trivial⟩ (QM.then ?_))
  refine wpM.ret ?_
  refine QM.then_ret ?_
  refine QM.leave (.inl rfl) [.tmp 4, .tmp 5, .tmp 6] Tryz.results68 rfl ?_
  intro w' hm' hc' hg'
  have hpar : actsO ws p = ([], 0, 5) := (by unfold actsO; rw [if_pos (by omega)]); rw [hpar]; exact ⟨hc', [], ⟨none, 0, 0, rfl, rfl, .nil _ _ _ _⟩, Mem.nil _, fun p hp => by cases hp⟩
 refine LM.sp 13 rfl rfl rfl ?_
 refine LM.mv rfl ?_
 refine LM.sp 13 rfl rfl rfl ?_
 refine LM.mv rfl ?_
 refine LM.sp 13 rfl rfl rfl ?_
 refine LM.val (ov_len Tryz.underlying23 rfl) ?_
 refine LM.sp 13 rfl rfl rfl ?_
 refine LM.val (ov_gtr rfl rfl) ?_
 refine LM.val (ov_pickF rfl rfl) ?_
 refine LM.nil (QM.sub (e' := [(0, _), (1, _), (18, _)]) ⟨rfl, rfl, rfl, trivial⟩ (QM.then ?_))
 refine wpM.condD rfl (fun h2 => ?_) (fun h2 => ?_)
 ·
  refine wpM.seq (wpM.region ?_)
  refine LM.as rfl ?_
  refine LM.as rfl ?_
  refine LM.as rfl ?_
  refine LM.nil (QM.sub (e' := [(4, _), (5, _), (6, _)]) ⟨rfl, rfl, rfl, trivial⟩ (QM.then ?_))
  refine wpM.ret ?_
  refine QM.then_ret ?_
  refine QM.leave (.inl rfl) [.tmp 4, .tmp 5, .tmp 6] Tryz.results68 rfl ?_
  intro w' hm' hc' hg'
  have hpar : actsO ws p = ([], 0, 5) := (by unfold actsO; rw [if_pos (by omega)]); rw [hpar]; exact ⟨hc', [], ⟨none, 0, 0, rfl, rfl, .nil _ _ _ _⟩, Mem.nil _, fun p hp => by cases hp⟩
 obtain ⟨i0, rfl⟩ : ∃ i0 : Nat, p = (i0 : Nat) := ⟨p.toNat, by omega⟩; have hi0 : i0 ≤ ws.length := (by omega)
 refine wpM.skip ?_
 refine QM.then (wpM.seq (wpM.region ?_))
 refine LM.as rfl ?_
 refine LM.nil (QM.sub (e' := [(0, _), (1, _), (7, _)]) ⟨rfl, rfl, rfl, trivial⟩ (QM.then ?_))
 refine wpM.seq ?_
 refine wpM.block ?_
 refine wpM.loopK0 (α := Nat × List Act × Option Addr × Nat × Nat × Mem0) (fun ⟨i, out, ado, no, capo, mo⟩ => [(1, .int .i64 (i : Nat)), (7, .slice ado no capo)]) [(0, _)] (fun ⟨i, out, ado, no, capo, mo⟩ => mo ++ []) (fun ⟨i, out, ado, no, capo, mo⟩ => i ≤ ws.length ∧ loopA ws i out = loopA ws i0 [] ∧ no = out.length ∧ Sl fA 123 5 w.heap.size out (.slice ado no capo) mo ∧ out.length ≤ 4000) (fun ⟨i, out, ado, no, capo, mo⟩ => ws.length - i) ((i0, [], none, 0, 0, [])) ⟨au2, au2, rfl, trivial⟩ au1 ⟨by omega, rfl, rfl, .nil _ _ _ _, by decide⟩ ?_
 rintro ⟨i, out, ado, no, capo, mo⟩ ⟨hi, hL, hno, hso, hol⟩
 change wpM _ _ _ _ _ _ _ (mo ++ []) _ _ _
 refine wpM.seq ?_
 refine wpM.seq (wpM.region ?_)
 refine LM.mv rfl ?_
 refine LM.mv rfl ?_
 refine LM.val (ov_len Tryz.underlying23 rfl) ?_
 refine LM.val (ov_lss rfl rfl) ?_
 refine LM.nil (QM.sub (e' := [(0, _), (1, _), (7, _), (22, _)]) ⟨rfl, rfl, rfl, rfl, trivial⟩ (QM.then ?_))
 refine wpM.condD rfl (fun h3 => ?_) (fun h3 => ?_)
 ·
  have hilt : i < ws.length := (by omega)
  refine wpM.skip ?_
  refine QM.then ?_
  refine wpM.block ?_
  refine wpM.seq ?_
  refine wpM.seq ?_
  refine wpM.joinK (α := Bool) (fun q => [(32, .bool q)]) [(0, _), (1, _), (7, _)] (fun q => mo ++ []) (fun q => q = fullA ws i out) ⟨rfl, rfl, rfl, trivial⟩ ?_ ?_
  ·
   refine wpM.region ?_
   refine LM.mv rfl ?_
   refine LM.val (ov_len Tryz.underlying47 rfl) ?_
   refine LM.val (ov_eql rfl rfl) ?_
   refine LM.mv rfl ?_
   refine LM.splitD (t := 26) rfl (fun h4 => ?_) (fun h4 => ?_)
   ·
    refine LM.sp 26 rfl rfl rfl ?_
    refine LM.mv rfl ?_
    refine LM.sp 26 rfl rfl rfl ?_
    refine LM.mv rfl ?_
    refine LM.sp 26 rfl rfl rfl ?_
    refine LM.val (ov_idxSN au6 Tryz.underlying23 Tryz.sizeOf65 rfl rfl (by omega)) ?_
    refine LM.sp 26 rfl rfl rfl ?_
    first | refine LM.rd (om_slA (by assumption) (by intro _; rfl) Tryz.isAgg65 Tryz.sizeOf65 rfl au3) ?_ | refine LM.rdC (om_srEA (by assumption) (by intro _; rfl) Tryz.isAgg65 Tryz.sizeOf65 rfl au3 id) ?_ | refine LM.rd (om_ldW Tryz.isAgg65 Tryz.sizeOf65 rfl rfl) ?_ | refine LM.rd (om_ldA Tryz.isAgg65 Tryz.sizeOf65 rfl (vs := [_, _, _, _]) rfl ⟨rfl, rfl, rfl, rfl, trivial⟩) ?_
    refine LM.sp 26 rfl rfl rfl ?_
    refine LM.callE (oc_call (enters_fn Tryz.func110 (by kernel_rfl) rfl) rfl) (fun w hm hc hg => begins_spec _ w) ?_
    refine LM.val (ov_pickT rfl rfl) ?_
    refine LM.nil (QM.sub (e' := [(0, _), (1, _), (7, _), (32, _)]) ⟨rfl, rfl, rfl, rfl, trivial⟩ ?_)
    refine QM.meetK (_) ⟨au2, rfl, rfl, rfl, trivial⟩ au1 ?_
    · unfold fullA; rw [decide_eq_true (show out.length = 4000 by omega), Bool.true_and]; exact begins_eq hilt
   refine LM.dr 26 rfl rfl rfl ?_
   refine LM.dr 26 rfl rfl rfl ?_
   refine LM.dr 26 rfl rfl rfl ?_
   refine LM.dr 26 rfl rfl rfl ?_
   refine LM.dr 26 rfl rfl rfl ?_
   refine LM.val (ov_pickF rfl rfl) ?_
   refine LM.nil (QM.sub (e' := [(0, _), (1, _), (7, _), (32, _)]) ⟨rfl, rfl, rfl, rfl, trivial⟩ ?_)
   refine QM.meetK (_) ⟨au2, rfl, rfl, rfl, trivial⟩ au1 ?_
   · unfold fullA; rw [decide_eq_false (show ¬ out.length = 4000 by omega), Bool.false_and]
  rintro q hq
  change QM _ _ _ _ _ (mo ++ []) _ _ _
  refine QM.then ?_
  first | refine wpM.condD rfl (fun h5 => ?_) (fun h5 => ?_) | refine wpM.condB rfl (fun h5 => ?_) (fun h5 => ?_)
  ·
   refine wpM.seq (wpM.region ?_)
   refine LM.mv rfl ?_
   refine LM.as rfl ?_
   refine LM.as rfl ?_
   refine LM.as rfl ?_
   refine LM.nil (QM.sub (e' := [(4, _), (5, _), (6, _)]) ⟨rfl, rfl, rfl, trivial⟩ (QM.then ?_))
   refine wpM.ret ?_
   refine QM.then_ret ?_
   refine QM.block_ret ?_
   refine QM.then_ret ?_
   refine QM.block_ret ?_
   refine QM.then_ret ?_
   refine QM.leave (.inl rfl) [.tmp 4, .tmp 5, .tmp 6] Tryz.results68 rfl ?_
   intro w' hm' hc' hg'
   rw [acts_nat hi0, ← hL, loopA_full hilt (hq.symm.trans h5)]; exact ⟨hc', [], ⟨none, 0, 0, rfl, rfl, .nil _ _ _ _⟩, Mem.nil _, fun p hp => by cases hp⟩
  refine wpM.skip ?_
  refine QM.then (wpM.seq (wpM.region ?_))
  refine LM.mv rfl ?_
  refine LM.mv rfl ?_
  refine LM.callE (oc_call (enters_fn Tryz.func111 (by kernel_rfl) rfl) rfl) (fun w hm hc hg => actone_spec i w hn hx (hl.ext hc) (by omega)) ?_
  refine LM.mv rfl ?_
  refine LM.val (ov_extract rfl rfl) ?_
  refine LM.val (ov_extract rfl rfl) ?_
  refine LM.val (ov_extract rfl rfl) ?_
  refine LM.alloc Tryz.zeroValue123 rfl (fun b8 hb8 => ?_)
  refine LM.stW Tryz.sizeOf123 rfl rfl rfl rfl au7 au8 ?_
  refine LM.as rfl ?_
  refine LM.as rfl ?_
  refine LM.nil (QM.sub (e' := [(0, _), (7, _), (8, _), (9, _), (10, _)]) ⟨rfl, rfl, rfl, rfl, rfl, trivial⟩ (QM.then ?_))
  refine wpM.seq ?_
  refine wpM.seq (wpM.region ?_)
  refine LM.mv rfl ?_
  refine LM.val (ov_neq rfl rfl) ?_
  refine LM.nil (QM.sub (e' := [(0, _), (7, _), (8, _), (9, _), (10, _), (42, _)]) ⟨rfl, rfl, rfl, rfl, rfl, rfl, trivial⟩ (QM.then ?_))
  refine wpM.condD rfl (fun h6 => ?_) (fun h6 => ?_)
  ·
   refine wpM.seq (wpM.region ?_)
   refine LM.mv rfl ?_
   refine LM.mv rfl ?_
   refine LM.as rfl ?_
   refine LM.as rfl ?_
   refine LM.as rfl ?_
   refine LM.nil (QM.sub (e' := [(4, _), (5, _), (6, _)]) ⟨rfl, rfl, rfl, trivial⟩ (QM.then ?_))
   refine wpM.ret ?_
   refine QM.then_ret ?_
   refine QM.block_ret ?_
   refine QM.then_ret ?_
   refine QM.block_ret ?_
   refine QM.then_ret ?_
   refine QM.leave (.inl rfl) [.tmp 4, .tmp 5, .tmp 6] Tryz.results68 rfl ?_
   intro w' hm' hc' hg'
   rw [acts_nat hi0, ← hL, loopA_bad hilt (hq.symm.trans h5) h6]; exact ⟨hc', [], ⟨none, 0, 0, rfl, rfl, .nil _ _ _ _⟩, Mem.nil _, fun p hp => by cases hp⟩
  refine wpM.skip ?_
  refine QM.then (wpM.seq (wpM.region ?_))
  refine LM.mv rfl ?_
  refine LM.rd (om_ldW Tryz.isAgg123 Tryz.sizeOf123 rfl rfl) ?_
  refine LM.single Tryz.underlying47 Tryz.sizeOf123 Tryz.zeroValue123 rfl rfl rfl rfl rfl (fun b47 hb47 => ?_)
  refine LM.app (a := (oneA ws i).1) Tryz.underlying47 Tryz.typeInfo123 rfl rfl rfl rfl rfl rfl rfl (by assumption) (by rfl) (by intro _; rfl) (by intro _ u hu; simp [fA] at hu; (repeat (first | (rcases hu with rfl | hu) | subst hu | rfl))) (by first | exact Nat.le_refl _ | omega) au9 (by first | omega | (unfold maxLen; omega)) (by simp only [Tryz.t123]; omega) (fun ad48 n48 cap48 m48 hn48 hs48 hin48 => ?_)
  refine LM.as rfl ?_
  refine LM.nil (QM.sub (e' := [(0, _), (7, _), (9, _)]) ⟨rfl, rfl, rfl, trivial⟩ (QM.then (wpM.region ?_)))
  refine LM.mv rfl ?_
  refine LM.as rfl ?_
  refine LM.nil (QM.sub (e' := [(0, _), (1, _), (7, _)]) ⟨rfl, rfl, rfl, trivial⟩ ?_)
  refine QM.block_normal ?_
  have hnx := loopA_next (out := out) hilt (hq.symm.trans h5) (by omega); have hlt := oneA_lt (ws := ws) (i := i) (by omega)
  refine QM.againK (((oneA ws i).2.1, out ++ [(oneA ws i).1], ad48, n48, cap48, m48)) ⟨au2, au2, rfl, trivial⟩ au1 (fun _ h => h) ?_ ?_
  · exact ⟨hlt.2, hnx.1.symm.trans hL, by rw [hn48]; simp, hs48, by simp; omega⟩
  · first | omega | (dsimp only; omega)
 refine wpM.exit ?_
 refine QM.then_exit ?_
 refine QM.then_exit ?_
 refine QM.block_hit ?_
 refine QM.then (wpM.seq (wpM.region ?_))
 refine LM.mv rfl ?_
 refine LM.mv rfl ?_
 refine LM.as rfl ?_
 refine LM.as rfl ?_
 refine LM.as rfl ?_
 refine LM.nil (QM.sub (e' := [(4, _), (5, _), (6, _)]) ⟨rfl, rfl, rfl, trivial⟩ (QM.then ?_))
 refine wpM.ret ?_
 refine QM.leave (.inl rfl) [.tmp 4, .tmp 5, .tmp 6] Tryz.results68 rfl ?_
 intro w' hm' hc' hg'
 rw [acts_nat hi0, ← hL, loopA_end (by omega)]; exact ⟨hc', mo, ⟨ado, no, capo, rfl, hno, hso⟩, hm'.pick _, fun p hp => Sl.ge hso p hp⟩
end Go.Eng
namespace Go.Eng
open Go Go.Proofs Go.RowKit
end Go.Eng
namespace Go.Eng
open Go Go.Proofs Go.RowKit
def placeO (s : List UInt8) (ws : List Wrd) (p : Int) : Int := if p < ws.length then (ws.getD p.toNat default).p else s.length
def scriptO (s : List UInt8) : StC × List Act × Int × Int :=
  if (scanO s).2.2 ≠ 0 then (default, [], (scanO s).2.1, (scanO s).2.2)
  else if (setO (scanO s).1 0).2.2 ≠ 0 then (default, [], placeO s (scanO s).1 (setO (scanO s).1 0).2.1, (setO (scanO s).1 0).2.2)
  else if (actsO (scanO s).1 (setO (scanO s).1 0).2.1).2.2 ≠ 0 then (default, [], placeO s (scanO s).1 (actsO (scanO s).1 (setO (scanO s).1 0).2.1).2.1, (actsO (scanO s).1 (setO (scanO s).1 0).2.1).2.2)
  else ((setO (scanO s).1 0).1, (actsO (scanO s).1 (setO (scanO s).1 0).2.1).1, 0, 0)
theorem pgF_pl {ws : List Wrd} : ∀ (f i : Nat) (e : Int) (ps : List PgC) (pl : List Int), (∀ x ∈ pl, 0 ≤ x) → ∀ x ∈ (pgF ws f i e ps pl).2.1, 0 ≤ x
  | 0, i, e, ps, pl, h => by unfold pgF; split <;> exact h
  | f + 1, i, e, ps, pl, h => by
    unfold pgF; split
    · refine pgF_pl f _ _ _ _ (fun x hx => ?_)
      rcases List.mem_append.1 hx with hx | hx
      · exact h x hx
      · rw [List.mem_singleton] at hx; omega
    · exact h
theorem set_pos (ws : List Wrd) (p : Int) : 0 ≤ (setO ws p).2.1 := by
  unfold setO stpR
  split
  · exact Int.le_refl _
  split
  · show (0 : Int) ≤ ((sP ws p.toNat).2.2.1 : Int); omega
  split
  · show (0 : Int) ≤ (sP ws p.toNat).2.1.getD _ 0
    rw [List.getD_eq_getElem?_getD]
    cases h : (sP ws p.toNat).2.1[(misI (sL ws p.toNat).1 (sP ws p.toNat).1).toNat]? with
    | none => exact Int.le_refl _
    | some x => exact pgF_pl _ _ _ _ _ (fun x hx => by cases hx) x (List.mem_of_getElem? h)
  · show (0 : Int) ≤ ((sP ws p.toNat).2.2.1 : Int); omega
theorem acts_pos (ws : List Wrd) (p : Int) : 0 ≤ (actsO ws p).2.1 := by
  have key : ∀ (f i : Nat) (out : List Act), 0 ≤ (loopAF f ws i out).2.1 := by
    intro f
    induction f with
    | zero => intro i out; show (0 : Int) ≤ (i : Int); omega
    | succ f ih =>
      intro i out
      unfold loopAF
      split
      · show (0 : Int) ≤ (i : Int); omega
      split
      · show (0 : Int) ≤ (i : Int); omega
      split
      · show (0 : Int) ≤ (i : Int); omega
      split
      · show (0 : Int) ≤ ((oneA ws i).2.1 : Int); omega
      · exact ih _ _
  unfold actsO; split
  · exact Int.le_refl _
  · exact key _ _ _
structure ScV where
  sv : StV
  xs : List Act
  ad : Option Addr
  n : Nat
  cap : Nat
abbrev ScV.val (x : ScV) : Value := .agg #[.int .i64 x.sv.cr, .int .i64 x.sv.gr, .slice x.sv.ga x.sv.gn x.sv.gc, .slice x.sv.la x.sv.ln x.sv.lc, .slice x.sv.pa x.sv.pn x.sv.pc, .slice x.ad x.n x.cap]
structure ScV.In (x : ScV) (w : World) : Prop where
  st : x.sv.In w
  hn : x.n = x.xs.length
  hx : Sr fA 5 x.xs (.slice x.ad x.n x.cap) w
theorem ScV.In.ext {x : ScV} {w w' : World} (h : x.In w) (k : Ext w w') : x.In w' := ⟨h.st.ext k, h.hn, h.hx.ext k⟩
def SpT (r : StC × List Act × Int × Int) (n0 : Nat) (v : Value) (m : Mem0) : Prop := ∃ x : ScV, v = .tuple #[x.val, .int .i64 r.2.2.1, .int .i64 r.2.2.2] ∧ x.sv.C = r.1 ∧ x.xs = r.2.1 ∧ ∀ w, Mem w m → x.In w
theorem SpT.mono {r : StC × List Act × Int × Int} : ∀ (k k' : Nat) u m, k' ≤ k → SpT r k u m → SpT r k' u m := fun k k' u m h q => q
theorem SpT.nil0 {p e : Int} {n0 : Nat} : SpT (default, [], p, e) n0 (.tuple #[.agg #[.int .i64 0, .int .i64 0, .slice none 0 0, .slice none 0 0, .slice none 0 0, .slice none 0 0], .int .i64 p, .int .i64 e]) [] :=
  ⟨⟨default, [], Option.none, 0, 0⟩, rfl, rfl, rfl, fun w _ => ⟨⟨rfl, .nil _ _ _, rfl, .nil _ _ _, rfl, .nil _ _ _, fun p hp => by cases hp⟩, rfl, .nil _ _ _⟩⟩
set_option maxRecDepth 100000 in
theorem splaceN_spec {ws : List Wrd} {ad : Option Addr} {n cap : Nat} (s : List UInt8) (j : Nat) (w : World) (hn : n = ws.length) (hl : Sr fW 4 ws (.slice ad n cap) w) : Ret Tryz.prog 67 #[vS s, .slice ad n cap, .int .i64 (j : Nat)] w (fun v w' => v = .int .i64 (placeO s ws (j : Nat)) ∧ Ext w w') := by
 refine Ret.enterM (l := [vS s, .slice ad n cap, .int .i64 (j : Nat)]) Tryz.func67 rfl Tryz.ntmps67 rfl ([]) (no) (Mem.nil w) ?_
 refine wpM.seq (wpM.region ?_)
 refine LM.as rfl ?_
 refine LM.nil (QM.sub (e' := [(0, _), (1, _), (2, _)]) ⟨rfl, rfl, rfl, trivial⟩ (QM.then ?_))
 refine wpM.seq ?_
 refine wpM.seq (wpM.region ?_)
 refine LM.mv rfl ?_
 refine LM.mv rfl ?_
 refine LM.val (ov_len Tryz.underlying23 rfl) ?_
 refine LM.val (ov_lss rfl rfl) ?_
 refine LM.nil (QM.sub (e' := [(0, _), (1, _), (2, _), (10, _)]) ⟨rfl, rfl, rfl, rfl, trivial⟩ (QM.then ?_))
 refine wpM.condD rfl (fun h1 => ?_) (fun h1 => ?_)
 ·
  refine wpM.seq (wpM.region ?_)
  refine LM.mv rfl ?_
  refine LM.mv rfl ?_
  refine LM.val (ov_idxSN au6 Tryz.underlying23 Tryz.sizeOf65 rfl rfl (by omega)) ?_
  refine LM.val (ov_field Tryz.underlying65 rfl Tryz.sizeOf3 rfl (k := 3) rfl rfl) ?_
  first | refine LM.rd (om_slE (j := 3) (by assumption) (by intro _; rfl) Tryz.isAgg3 rfl rfl au3 rfl (by rfl)) ?_ | refine LM.rdC (om_srE (j := 3) (by assumption) Tryz.isAgg3 rfl rfl au3 (by rfl) (by rfl) id) ?_ | refine LM.rd (om_ld Tryz.isAgg3 rfl rfl) ?_
  refine LM.as rfl ?_
  refine LM.nil (QM.sub (e' := [(6, _)]) ⟨rfl, trivial⟩ (QM.then ?_))
  refine wpM.ret ?_
  refine QM.then_ret ?_
  refine QM.leave (.inl rfl) [.tmp 6] Tryz.results67 rfl ?_
  intro w' hm' hc' hg'
  refine ⟨?_, hc'⟩; unfold placeO; rw [if_pos (by omega), Int.toNat_natCast]; rfl
 refine wpM.skip ?_
 refine QM.then (wpM.seq (wpM.region ?_))
 refine LM.mv rfl ?_
 refine LM.val (ov_slenL Tryz.underlying9 rfl) ?_
 refine LM.as rfl ?_
 refine LM.nil (QM.sub (e' := [(6, _)]) ⟨rfl, trivial⟩ (QM.then ?_))
 refine wpM.ret ?_
 refine QM.leave (.inl rfl) [.tmp 6] Tryz.results67 rfl ?_
 intro w' hm' hc' hg'
 refine ⟨?_, hc'⟩; unfold placeO; rw [if_neg (by omega)]; rfl
theorem splace_spec {ws : List Wrd} {ad : Option Addr} {n cap : Nat} (s : List UInt8) (p : Int) (w : World) (hn : n = ws.length) (hl : Sr fW 4 ws (.slice ad n cap) w) (hp0 : 0 ≤ p) :
    Ret Tryz.prog 67 #[vS s, .slice ad n cap, .int .i64 p] w (fun v w' => v = .int .i64 (placeO s ws p) ∧ Ext w w') := by
  obtain ⟨j, rfl⟩ : ∃ j : Nat, p = (j : Int) := ⟨p.toNat, by omega⟩
  exact splaceN_spec s j w hn hl
end Go.Eng
namespace Go.Eng
open Go Go.Proofs Go.RowKit
abbrev tO (ad : Option Addr) (n cap : Nat) (i : Nat) (e : Int) : Obj := .cells #[.slice ad n cap, .int .i64 (i : Nat), .int .i64 e] 70 (0, 0)
abbrev tB (b : Nat) (ad : Option Addr) (n cap : Nat) (i : Nat) (e : Int) : Nat × Obj := (b, tO ad n cap i e)
def GpT (r : List Int × Nat × Int) (n0 : Nat) (v : Value) (m : Mem0) : Prop := ∃ gs ad n cap, v = .slice ad n cap ∧ n = gs.length ∧ Sl fI 3 1 n0 gs (.slice ad n cap) m ∧ (r.2.2 = 0 → gs = r.1)
theorem GpT.mono {r : List Int × Nat × Int} : ∀ (k k' : Nat) u m, k' ≤ k → GpT r k u m → GpT r k' u m := fun k k' u m h ⟨gs, ad, n, cap, h1, h2, h3, h4⟩ => ⟨gs, ad, n, cap, h1, h2, h3.mono h, h4⟩
def LkT (r : List CLk × Nat × Int) (n0 : Nat) (v : Value) (m : Mem0) : Prop := ∃ ad n cap, v = .slice ad n cap ∧ n = r.1.length ∧ Sl fL 63 5 n0 r.1 (.slice ad n cap) m
theorem LkT.mono {r : List CLk × Nat × Int} : ∀ (k k' : Nat) u m, k' ≤ k → LkT r k u m → LkT r k' u m := fun k k' u m h ⟨ad, n, cap, h1, h2, h3⟩ => ⟨ad, n, cap, h1, h2, h3.mono h⟩
def PgT (r : List PgC × List Int × Nat × Int) (n0 : Nat) (v : Value) (m : Mem0) : Prop := ∃ (ps : List PgV) (ad : Option Addr) (n cap : Nat) (adq : Option Addr) (nq cq : Nat) (mp mq mo : Mem0), v = .tuple #[.slice ad n cap, .slice adq nq cq] ∧ ps.map PgV.c = r.1 ∧ n = ps.length ∧ ps.length ≤ 8 ∧ nq = r.2.1.length ∧ r.2.1.length = ps.length ∧ m = mo ++ (mp ++ (mq ++ [])) ∧
  Sl fPg 87 2 n0 ps (.slice ad n cap) mp ∧ Sl fI 3 1 n0 r.2.1 (.slice adq nq cq) mq ∧ (∀ w, Mem w mo → PgsIn ps w) ∧ (∀ p ∈ mo, n0 ≤ p.1)
theorem PgT.mono {r : List PgC × List Int × Nat × Int} : ∀ (k k' : Nat) u m, k' ≤ k → PgT r k u m → PgT r k' u m := fun k k' u m h ⟨ps, ad, n, cap, adq, nq, cq, mp, mq, mo, h1, h2, h3, h4, h5, h6, h7, h8, h9, h10, h11⟩ => ⟨ps, ad, n, cap, adq, nq, cq, mp, mq, mo, h1, h2, h3, h4, h5, h6, h7, h8.mono h, h9.mono h, h10, fun p hp => Nat.le_trans h (h11 p hp)⟩
set_option maxRecDepth 100000 in
theorem tfail_spec (b : Nat) {ad : Option Addr} {n cap : Nat} (i : Nat) (e0 e : Int) (w : World) (hM : Mem w [tB b ad n cap i e0]) : Ret Tryz.prog 81 #[.pointer (some ⟨b, 0, none⟩), .int .i64 e] w (WrP b (.tuple #[]) (tO ad n cap i (if e0 = 0 then e else e0)) w) := by
 refine Ret.enterM (l := [.pointer (some ⟨b, 0, none⟩), .int .i64 e]) Tryz.func81 rfl Tryz.ntmps81 rfl ([tB b ad n cap i e0]) ((fun x => x = b)) hM ?_
 refine wpM.seq (wpM.region ?_)
 refine LM.mv rfl ?_
 refine LM.val (ov_nilCheck rfl) ?_
 refine LM.val (ov_field Tryz.underlying70 rfl Tryz.sizeOf31 rfl (k := 2) rfl rfl) ?_
 refine LM.rd (om_ld Tryz.isAgg31 rfl rfl) ?_
 refine LM.val (ov_eql rfl rfl) ?_
 refine LM.nil (QM.sub (e' := [(0, _), (1, _), (8, _)]) ⟨rfl, rfl, rfl, trivial⟩ (QM.then ?_))
 refine wpM.condD rfl (fun h1 => ?_) (fun h1 => ?_)
 ·
  refine wpM.region ?_
  refine LM.mv rfl ?_
  refine LM.mv rfl ?_
  refine LM.val (ov_nilCheck rfl) ?_
  refine LM.val (ov_field Tryz.underlying70 rfl Tryz.sizeOf31 rfl (k := 2) rfl rfl) ?_
  refine LM.st Tryz.sizeOf31 rfl rfl rfl au5 rfl (fun _ => rfl) ?_
  refine LM.nil (QM.sub (e' := []) trivial ?_)
  refine QM.leave (.inr rfl) [] Tryz.results81 rfl ?_
  intro w' hm' hc' hg'
  refine ⟨rfl, hc', ?_⟩; rw [if_pos h1]; exact hm'.at b
 refine wpM.skip ?_
 refine QM.leave (.inr rfl) [] Tryz.results81 rfl ?_
 intro w' hm' hc' hg'
 refine ⟨rfl, hc', ?_⟩; rw [if_neg h1]; exact hm'.at b
set_option maxRecDepth 100000 in
set_option maxHeartbeats 1000000 in
theorem tis_spec {ws : List Wrd} (b : Nat) {ad : Option Addr} {n cap : Nat} (i : Nat) (e : Int) (t : List UInt8) (w : World) (hn : n = ws.length) (hl : Sr fW 4 ws (.slice ad n cap) w) (hM : Mem w [tB b ad n cap i e]) : Ret Tryz.prog 82 #[.pointer (some ⟨b, 0, none⟩), vS t] w (fun v w' => v = .bool (isE ws i e 1 t) ∧ Ext w w') := by
 refine Ret.enterM (l := [.pointer (some ⟨b, 0, none⟩), vS t]) Tryz.func82 rfl Tryz.ntmps82 rfl ([tB b ad n cap i e]) (no) hM ?_
 refine wpM.seq (wpM.region ?_)
 refine LM.as rfl ?_
 refine LM.nil (QM.sub (e' := [(0, _), (1, _)]) ⟨rfl, rfl, trivial⟩ (QM.then ?_))
 refine wpM.seq ?_
 refine wpM.draw [(0, 0), (1, 0), (2, 0), (3, 1), (4, 0), (5, 0), (6, 0), (7, 0), (8, 0), (9, 1), (10, 0), (11, 0), (12, 0), (13, 1), (14, 0), (15, 0), (16, 0), (17, 0), (18, 0), (19, 0), (20, 0), (21, 1), (22, 0), (23, 0), (24, 0), (25, 1), (26, 0), (27, 0), (28, 1), (29, 0), (30, 0), (31, 0), (32, 0), (33, 0), (34, 0), (35, 1), (36, 0), (37, 0), (38, 0), (39, 1), (40, 0), (41, 0), (42, 1), (43, 0), (44, 0), (45, 0), (46, 0)] (by kernel_rfl) (by kernel_rfl) ?_
 refine LD.val rfl rfl (ov_move rfl) ?_
 refine LD.val rfl rfl (ov_nilCheck rfl) ?_
 refine LD.val rfl rfl (ov_field Tryz.underlying70 rfl Tryz.sizeOf31 rfl (k := 2) rfl rfl) ?_
 refine LD.rd rfl rfl (om_ld Tryz.isAgg31 rfl rfl) ?_
 refine LD.val rfl rfl (ov_eql rfl rfl) ?_
 refine LD.val rfl rfl (ov_move rfl) ?_
 refine LD.splitD (t := 10) rfl (fun h1 => ?_) (fun h1 => ?_)
 ·
  refine LD.val rfl ⟨10, _, rfl, rfl, rfl⟩ (ov_move rfl) ?_
  refine LD.val rfl ⟨10, _, rfl, rfl, rfl⟩ (ov_nilCheck rfl) ?_
  refine LD.val rfl ⟨10, _, rfl, rfl, rfl⟩ (ov_field Tryz.underlying70 rfl Tryz.sizeOf3 rfl (k := 1) rfl rfl) ?_
  refine LD.rd rfl ⟨10, _, rfl, rfl, rfl⟩ (om_ld Tryz.isAgg3 rfl rfl) ?_
  refine LD.val rfl ⟨10, _, rfl, rfl, rfl⟩ (ov_move rfl) ?_
  refine LD.val rfl ⟨10, _, rfl, rfl, rfl⟩ (ov_nilCheck rfl) ?_
  refine LD.val rfl ⟨10, _, rfl, rfl, rfl⟩ (ov_field Tryz.underlying70 rfl Tryz.sizeOf23 rfl (k := 0) rfl rfl) ?_
  refine LD.rd rfl ⟨10, _, rfl, rfl, rfl⟩ (om_ld Tryz.isAgg23 rfl rfl) ?_
  refine LD.val rfl ⟨10, _, rfl, rfl, rfl⟩ (ov_len Tryz.underlying23 rfl) ?_
  refine LD.val rfl ⟨10, _, rfl, rfl, rfl⟩ (ov_lss rfl rfl) ?_
  refine LD.val rfl rfl (ov_pickT rfl rfl) ?_
  refine LD.val rfl rfl (ov_move rfl) ?_
  refine LD.splitD (t := 22) rfl (fun h2 => ?_) (fun h2 => ?_)
  ·
   refine LD.val rfl ⟨22, _, rfl, rfl, rfl⟩ (ov_move rfl) ?_
   refine LD.val rfl ⟨22, _, rfl, rfl, rfl⟩ (ov_nilCheck rfl) ?_
   refine LD.val rfl ⟨22, _, rfl, rfl, rfl⟩ (ov_field Tryz.underlying70 rfl Tryz.sizeOf23 rfl (k := 0) rfl rfl) ?_
   refine LD.rd rfl ⟨22, _, rfl, rfl, rfl⟩ (om_ld Tryz.isAgg23 rfl rfl) ?_
   refine LD.val rfl ⟨22, _, rfl, rfl, rfl⟩ (ov_move rfl) ?_
   refine LD.val rfl ⟨22, _, rfl, rfl, rfl⟩ (ov_nilCheck rfl) ?_
   refine LD.val rfl ⟨22, _, rfl, rfl, rfl⟩ (ov_field Tryz.underlying70 rfl Tryz.sizeOf3 rfl (k := 1) rfl rfl) ?_
   refine LD.rd rfl ⟨22, _, rfl, rfl, rfl⟩ (om_ld Tryz.isAgg3 rfl rfl) ?_
   refine LD.val rfl ⟨22, _, rfl, rfl, rfl⟩ (ov_idxSN au6 Tryz.underlying23 Tryz.sizeOf65 rfl rfl (by omega)) ?_
   refine LD.val rfl ⟨22, _, rfl, rfl, rfl⟩ (ov_field Tryz.underlying65 rfl Tryz.sizeOf3 rfl (k := 0) rfl rfl) ?_
   first | refine LD.rd rfl ⟨22, _, rfl, rfl, rfl⟩ (om_slE (j := 0) (by assumption) (by intro _; rfl) Tryz.isAgg3 rfl rfl au3 rfl (by rfl)) ?_ | refine LD.rdC rfl ⟨22, _, rfl, rfl, rfl⟩ (om_srE (j := 0) (by assumption) Tryz.isAgg3 rfl rfl au3 (by rfl) (by rfl) id) ?_ | refine LD.rd rfl ⟨22, _, rfl, rfl, rfl⟩ (om_ld Tryz.isAgg3 rfl rfl) ?_
   refine LD.val rfl ⟨22, _, rfl, rfl, rfl⟩ (ov_eql rfl rfl) ?_
   refine LD.val rfl rfl (ov_pickT rfl rfl) ?_
   refine LD.val rfl rfl (ov_move rfl) ?_
   refine LD.splitD (t := 36) rfl (fun h3 => ?_) (fun h3 => ?_)
   ·
    refine LD.val rfl ⟨36, _, rfl, rfl, rfl⟩ (ov_move rfl) ?_
    refine LD.val rfl ⟨36, _, rfl, rfl, rfl⟩ (ov_nilCheck rfl) ?_
    refine LD.val rfl ⟨36, _, rfl, rfl, rfl⟩ (ov_field Tryz.underlying70 rfl Tryz.sizeOf23 rfl (k := 0) rfl rfl) ?_
    refine LD.rd rfl ⟨36, _, rfl, rfl, rfl⟩ (om_ld Tryz.isAgg23 rfl rfl) ?_
    refine LD.val rfl ⟨36, _, rfl, rfl, rfl⟩ (ov_move rfl) ?_
    refine LD.val rfl ⟨36, _, rfl, rfl, rfl⟩ (ov_nilCheck rfl) ?_
    refine LD.val rfl ⟨36, _, rfl, rfl, rfl⟩ (ov_field Tryz.underlying70 rfl Tryz.sizeOf3 rfl (k := 1) rfl rfl) ?_
    refine LD.rd rfl ⟨36, _, rfl, rfl, rfl⟩ (om_ld Tryz.isAgg3 rfl rfl) ?_
    refine LD.val rfl ⟨36, _, rfl, rfl, rfl⟩ (ov_idxSN au6 Tryz.underlying23 Tryz.sizeOf65 rfl rfl (by omega)) ?_
    refine LD.val rfl ⟨36, _, rfl, rfl, rfl⟩ (ov_field Tryz.underlying65 rfl Tryz.sizeOf9 rfl (k := 1) rfl rfl) ?_
    first | refine LD.rd rfl ⟨36, _, rfl, rfl, rfl⟩ (om_slE (j := 1) (by assumption) (by intro _; rfl) Tryz.isAgg9 rfl rfl au3 rfl (by rfl)) ?_ | refine LD.rdC rfl ⟨36, _, rfl, rfl, rfl⟩ (om_srE (j := 1) (by assumption) Tryz.isAgg9 rfl rfl au3 (by rfl) (by rfl) id) ?_ | refine LD.rd rfl ⟨36, _, rfl, rfl, rfl⟩ (om_ld Tryz.isAgg9 rfl rfl) ?_
    refine LD.val rfl ⟨36, _, rfl, rfl, rfl⟩ (ov_move rfl) ?_
    refine LD.val rfl ⟨36, _, rfl, rfl, rfl⟩ (ov_seqlL rfl rfl) ?_
    refine LD.val rfl rfl (ov_pickT rfl rfl) ?_
    refine LD.val rfl rfl (ov_assign rfl) ?_
    refine LD.nil ?_
    refine QM.sub (e' := [(4, _)]) ⟨rfl, trivial⟩ (QM.then ?_)
    refine wpM.ret ?_
    refine QM.leave (.inl rfl) [.tmp 4] Tryz.results82 rfl ?_
    intro w' hm' hc' hg'
    refine ⟨?_, hc'⟩; simp only [resV, isE]; rw [decide_eq_true h1, decide_eq_true (show i < ws.length by omega), decide_eq_true h3]; simp only [Bool.true_and]
   refine LD.drop rfl rfl ⟨36, _, rfl, rfl, rfl⟩ ?_
   refine LD.drop rfl rfl ⟨36, _, rfl, rfl, rfl⟩ ?_
   refine LD.drop rfl rfl ⟨36, _, rfl, rfl, rfl⟩ ?_
   refine LD.drop rfl rfl ⟨36, _, rfl, rfl, rfl⟩ ?_
   refine LD.drop rfl rfl ⟨36, _, rfl, rfl, rfl⟩ ?_
   refine LD.drop rfl rfl ⟨36, _, rfl, rfl, rfl⟩ ?_
   refine LD.drop rfl rfl ⟨36, _, rfl, rfl, rfl⟩ ?_
   refine LD.drop rfl rfl ⟨36, _, rfl, rfl, rfl⟩ ?_
   refine LD.drop rfl rfl ⟨36, _, rfl, rfl, rfl⟩ ?_
   refine LD.drop rfl rfl ⟨36, _, rfl, rfl, rfl⟩ ?_
   refine LD.drop rfl rfl ⟨36, _, rfl, rfl, rfl⟩ ?_
   refine LD.drop rfl rfl ⟨36, _, rfl, rfl, rfl⟩ ?_
   refine LD.drop rfl rfl ⟨36, _, rfl, rfl, rfl⟩ ?_
   refine LD.val rfl rfl (ov_pickF rfl rfl) ?_
   refine LD.val rfl rfl (ov_assign rfl) ?_
   refine LD.nil ?_
   refine QM.sub (e' := [(4, _)]) ⟨rfl, trivial⟩ (QM.then ?_)
   refine wpM.ret ?_
   refine QM.leave (.inl rfl) [.tmp 4] Tryz.results82 rfl ?_
   intro w' hm' hc' hg'
   refine ⟨?_, hc'⟩; simp only [resV, isE]; rw [decide_eq_false h3]; simp only [Bool.and_false, Bool.false_and]
  refine LD.drop rfl rfl ⟨22, _, rfl, rfl, rfl⟩ ?_
  refine LD.drop rfl rfl ⟨22, _, rfl, rfl, rfl⟩ ?_
  refine LD.drop rfl rfl ⟨22, _, rfl, rfl, rfl⟩ ?_
  refine LD.drop rfl rfl ⟨22, _, rfl, rfl, rfl⟩ ?_
  refine LD.drop rfl rfl ⟨22, _, rfl, rfl, rfl⟩ ?_
  refine LD.drop rfl rfl ⟨22, _, rfl, rfl, rfl⟩ ?_
  refine LD.drop rfl rfl ⟨22, _, rfl, rfl, rfl⟩ ?_
  refine LD.drop rfl rfl ⟨22, _, rfl, rfl, rfl⟩ ?_
  refine LD.drop rfl rfl ⟨22, _, rfl, rfl, rfl⟩ ?_
  refine LD.drop rfl rfl ⟨22, _, rfl, rfl, rfl⟩ ?_
  refine LD.drop rfl rfl ⟨22, _, rfl, rfl, rfl⟩ ?_
  refine LD.drop rfl rfl ⟨22, _, rfl, rfl, rfl⟩ ?_
  refine LD.val rfl rfl (ov_pickF rfl rfl) ?_
  refine LD.val rfl rfl (ov_move rfl) ?_
  refine LD.drop rfl rfl ⟨36, _, rfl, rfl, rfl⟩ ?_
  refine LD.drop rfl rfl ⟨36, _, rfl, rfl, rfl⟩ ?_
  refine LD.drop rfl rfl ⟨36, _, rfl, rfl, rfl⟩ ?_
  refine LD.drop rfl rfl ⟨36, _, rfl, rfl, rfl⟩ ?_
  refine LD.drop rfl rfl ⟨36, _, rfl, rfl, rfl⟩ ?_
  refine LD.drop rfl rfl ⟨36, _, rfl, rfl, rfl⟩ ?_
  refine LD.drop rfl rfl ⟨36, _, rfl, rfl, rfl⟩ ?_
  refine LD.drop rfl rfl ⟨36, _, rfl, rfl, rfl⟩ ?_
  refine LD.drop rfl rfl ⟨36, _, rfl, rfl, rfl⟩ ?_
  refine LD.drop rfl rfl ⟨36, _, rfl, rfl, rfl⟩ ?_
  refine LD.drop rfl rfl ⟨36, _, rfl, rfl, rfl⟩ ?_
  refine LD.drop rfl rfl ⟨36, _, rfl, rfl, rfl⟩ ?_
  refine LD.drop rfl rfl ⟨36, _, rfl, rfl, rfl⟩ ?_
  refine LD.val rfl rfl (ov_pickF rfl rfl) ?_
  refine LD.val rfl rfl (ov_assign rfl) ?_
  refine LD.nil ?_
  refine QM.sub (e' := [(4, _)]) ⟨rfl, trivial⟩ (QM.then ?_)
  refine wpM.ret ?_
  refine QM.leave (.inl rfl) [.tmp 4] Tryz.results82 rfl ?_
  intro w' hm' hc' hg'
  refine ⟨?_, hc'⟩; simp only [resV, isE]; rw [decide_eq_false (show ¬ i < ws.length by omega)]; simp only [Bool.and_false, Bool.false_and]
 refine LD.drop rfl rfl ⟨10, _, rfl, rfl, rfl⟩ ?_
 refine LD.drop rfl rfl ⟨10, _, rfl, rfl, rfl⟩ ?_
 refine LD.drop rfl rfl ⟨10, _, rfl, rfl, rfl⟩ ?_
 refine LD.drop rfl rfl ⟨10, _, rfl, rfl, rfl⟩ ?_
 refine LD.drop rfl rfl ⟨10, _, rfl, rfl, rfl⟩ ?_
 refine LD.drop rfl rfl ⟨10, _, rfl, rfl, rfl⟩ ?_
 refine LD.drop rfl rfl ⟨10, _, rfl, rfl, rfl⟩ ?_
 refine LD.drop rfl rfl ⟨10, _, rfl, rfl, rfl⟩ ?_
 refine LD.drop rfl rfl ⟨10, _, rfl, rfl, rfl⟩ ?_
 refine LD.drop rfl rfl ⟨10, _, rfl, rfl, rfl⟩ ?_
 refine LD.val rfl rfl (ov_pickF rfl rfl) ?_
 refine LD.val rfl rfl (ov_move rfl) ?_
 refine LD.drop rfl rfl ⟨22, _, rfl, rfl, rfl⟩ ?_
 refine LD.drop rfl rfl ⟨22, _, rfl, rfl, rfl⟩ ?_
 refine LD.drop rfl rfl ⟨22, _, rfl, rfl, rfl⟩ ?_
 refine LD.drop rfl rfl ⟨22, _, rfl, rfl, rfl⟩ ?_
 refine LD.drop rfl rfl ⟨22, _, rfl, rfl, rfl⟩ ?_
 refine LD.drop rfl rfl ⟨22, _, rfl, rfl, rfl⟩ ?_
 refine LD.drop rfl rfl ⟨22, _, rfl, rfl, rfl⟩ ?_
 refine LD.drop rfl rfl ⟨22, _, rfl, rfl, rfl⟩ ?_
 refine LD.drop rfl rfl ⟨22, _, rfl, rfl, rfl⟩ ?_
 refine LD.drop rfl rfl ⟨22, _, rfl, rfl, rfl⟩ ?_
 refine LD.drop rfl rfl ⟨22, _, rfl, rfl, rfl⟩ ?_
 refine LD.drop rfl rfl ⟨22, _, rfl, rfl, rfl⟩ ?_
 refine LD.val rfl rfl (ov_pickF rfl rfl) ?_
 refine LD.val rfl rfl (ov_move rfl) ?_
 refine LD.drop rfl rfl ⟨36, _, rfl, rfl, rfl⟩ ?_
 refine LD.drop rfl rfl ⟨36, _, rfl, rfl, rfl⟩ ?_
 refine LD.drop rfl rfl ⟨36, _, rfl, rfl, rfl⟩ ?_
 refine LD.drop rfl rfl ⟨36, _, rfl, rfl, rfl⟩ ?_
 refine LD.drop rfl rfl ⟨36, _, rfl, rfl, rfl⟩ ?_
 refine LD.drop rfl rfl ⟨36, _, rfl, rfl, rfl⟩ ?_
 refine LD.drop rfl rfl ⟨36, _, rfl, rfl, rfl⟩ ?_
 refine LD.drop rfl rfl ⟨36, _, rfl, rfl, rfl⟩ ?_
 refine LD.drop rfl rfl ⟨36, _, rfl, rfl, rfl⟩ ?_
 refine LD.drop rfl rfl ⟨36, _, rfl, rfl, rfl⟩ ?_
 refine LD.drop rfl rfl ⟨36, _, rfl, rfl, rfl⟩ ?_
 refine LD.drop rfl rfl ⟨36, _, rfl, rfl, rfl⟩ ?_
 refine LD.drop rfl rfl ⟨36, _, rfl, rfl, rfl⟩ ?_
 refine LD.val rfl rfl (ov_pickF rfl rfl) ?_
 refine LD.val rfl rfl (ov_assign rfl) ?_
 refine LD.nil ?_
 refine QM.sub (e' := [(4, _)]) ⟨rfl, trivial⟩ (QM.then ?_)
 refine wpM.ret ?_
 refine QM.leave (.inl rfl) [.tmp 4] Tryz.results82 rfl ?_
 intro w' hm' hc' hg'
 refine ⟨?_, hc'⟩; simp only [resV, isE]; rw [decide_eq_false h1]; simp only [Bool.and_false, Bool.false_and]
set_option maxRecDepth 100000 in
theorem tname_spec {ws : List Wrd} (b : Nat) {ad : Option Addr} {n cap : Nat} (i : Nat) (e : Int) (t : List UInt8) (w : World) (hn : n = ws.length) (hx : ws.length ≤ 1000000000) (hl : Sr fW 4 ws (.slice ad n cap) w) (hab : 0 < ws.length → adB ad ≠ b) (hM : Mem w [tB b ad n cap i e]) : Ret Tryz.prog 80 #[.pointer (some ⟨b, 0, none⟩), vS t] w (WrP b (.tuple #[]) (tO ad n cap (needE ws i e 1 t).1 (needE ws i e 1 t).2) w) := by
 refine Ret.enterM (l := [.pointer (some ⟨b, 0, none⟩), vS t]) Tryz.func80 rfl Tryz.ntmps80 rfl ([tB b ad n cap i e]) ((fun x => x = b)) hM ?_
 refine wpM.seq ?_
 refine wpM.seq (wpM.region ?_)
 refine LM.mv rfl ?_
 refine LM.mv rfl ?_
 refine LM.callE (oc_call (enters_fn Tryz.func82 (by kernel_rfl) rfl) rfl) (fun w hm hc hg => tis_spec b i e t w hn (hl.kp hc hab) (hm.pick _)) ?_
 first | refine LM.val (ov_notD rfl) ?_ | refine LM.val (ov_not rfl) ?_
 refine LM.nil (QM.sub (e' := [(0, _), (7, _)]) ⟨rfl, rfl, trivial⟩ (QM.then ?_))
 first | refine wpM.condD rfl (fun h1 => ?_) (fun h1 => ?_) | refine wpM.condB rfl (fun h1 => ?_) (fun h1 => ?_)
 ·
  have hq : isE ws i e 1 t = false := (by simpa using h1)
  refine wpM.seq (wpM.region ?_)
  refine LM.mv rfl ?_
  refine LM.cW (oc_call (enters_fn Tryz.func81 (by kernel_rfl) rfl) rfl) (fun w hm hc hg => tfail_spec b (ad := ad) (n := n) (cap := cap) i e 5 w (hm.pick _)) rfl (fun hlt => by first | exact rfl | exact absurd hlt (by omega)) ?_
  refine LM.nil (QM.sub (e' := []) trivial (QM.then ?_))
  refine wpM.ret ?_
  refine QM.then_ret ?_
  refine QM.leave (.inl rfl) [] Tryz.results80 rfl ?_
  intro w' hm' hc' hg'
  refine ⟨rfl, hc', ?_⟩; have h3 := hm'.at b; unfold needE; rw [if_neg (by rw [hq]; simp)]; by_cases h0 : e = 0; (rw [if_pos h0] at h3 ⊢; exact h3); (rw [if_neg h0] at h3 ⊢; exact h3)
 have hq : isE ws i e 1 t = true := (by simpa using h1); have hlt := (isE_lt hq).1
 refine wpM.skip ?_
 refine QM.then (wpM.region ?_)
 refine LM.mv rfl ?_
 refine LM.val (ov_nilCheck rfl) ?_
 refine LM.val (ov_field Tryz.underlying70 rfl Tryz.sizeOf3 rfl (k := 1) rfl rfl) ?_
 refine LM.rd (om_ld Tryz.isAgg3 rfl rfl) ?_
 refine LM.val (ov_add64 rfl rfl (by omega)) ?_
 refine LM.val (ov_nilCheck rfl) ?_
 refine LM.val (ov_field Tryz.underlying70 rfl Tryz.sizeOf3 rfl (k := 1) rfl rfl) ?_
 refine LM.st Tryz.sizeOf3 rfl rfl rfl au5 rfl (fun hlt => by first | exact rfl | exact absurd hlt (by omega)) ?_
 refine LM.nil (QM.sub (e' := []) trivial ?_)
 refine QM.leave (.inr rfl) [] Tryz.results80 rfl ?_
 intro w' hm' hc' hg'
 refine ⟨rfl, hc', ?_⟩; have h3 := hm'.at b; unfold needE; rw [if_pos hq]; exact h3
set_option maxRecDepth 100000 in
set_option maxHeartbeats 1000000 in
theorem tend_spec {ws : List Wrd} (b : Nat) {ad : Option Addr} {n cap : Nat} (i : Nat) (e : Int) (w : World) (hn : n = ws.length) (hx : ws.length ≤ 1000000000) (hl : Sr fW 4 ws (.slice ad n cap) w) (hab : 0 < ws.length → adB ad ≠ b) (hM : Mem w [tB b ad n cap i e]) : Ret Tryz.prog 35 #[.pointer (some ⟨b, 0, none⟩)] w (WrP b (.tuple #[]) (tO ad n cap (needE ws i e 3 [59]).1 (needE ws i e 3 [59]).2) w) := by
 refine Ret.enterM (l := [.pointer (some ⟨b, 0, none⟩)]) Tryz.func35 rfl Tryz.ntmps35 rfl ([tB b ad n cap i e]) ((fun x => x = b)) hM ?_
 refine wpM.seq ?_
 refine wpM.seq ?_
 refine wpM.joinK (α := Bool) (fun q => [(46, .bool q)]) [(0, _)] (fun q => tB b ad n cap i e :: []) (fun q => q = !isE ws i e 3 [59]) ⟨rfl, trivial⟩ ?_ ?_
 ·
  refine wpM.draw [(0, 0), (1, 0), (2, 0), (3, 1), (4, 0), (5, 0), (6, 0), (7, 0), (8, 0), (9, 1), (10, 0), (11, 0), (12, 0), (13, 1), (14, 0), (15, 0), (16, 0), (17, 0), (18, 0), (19, 0), (20, 0), (21, 1), (22, 0), (23, 0), (24, 0), (25, 1), (26, 0), (27, 0), (28, 1), (29, 0), (30, 0), (31, 0), (32, 0), (33, 0), (34, 0), (35, 1), (36, 0), (37, 0), (38, 0), (39, 1), (40, 0), (41, 0), (42, 1), (43, 0), (44, 0)] (by kernel_rfl) (by kernel_rfl) ?_
  refine LD.val rfl rfl (ov_move rfl) ?_
  refine LD.val rfl rfl (ov_nilCheck rfl) ?_
  refine LD.val rfl rfl (ov_field Tryz.underlying70 rfl Tryz.sizeOf31 rfl (k := 2) rfl rfl) ?_
  refine LD.rd rfl rfl (om_ld Tryz.isAgg31 rfl rfl) ?_
  refine LD.val rfl rfl (ov_neq rfl rfl) ?_
  refine LD.val rfl rfl (ov_move rfl) ?_
  refine LD.splitD (t := 7) rfl (fun h1 => ?_) (fun h1 => ?_)
  ·
   refine LD.drop rfl rfl ⟨7, _, rfl, rfl, rfl⟩ ?_
   refine LD.drop rfl rfl ⟨7, _, rfl, rfl, rfl⟩ ?_
   refine LD.drop rfl rfl ⟨7, _, rfl, rfl, rfl⟩ ?_
   refine LD.drop rfl rfl ⟨7, _, rfl, rfl, rfl⟩ ?_
   refine LD.drop rfl rfl ⟨7, _, rfl, rfl, rfl⟩ ?_
   refine LD.drop rfl rfl ⟨7, _, rfl, rfl, rfl⟩ ?_
   refine LD.drop rfl rfl ⟨7, _, rfl, rfl, rfl⟩ ?_
   refine LD.drop rfl rfl ⟨7, _, rfl, rfl, rfl⟩ ?_
   refine LD.drop rfl rfl ⟨7, _, rfl, rfl, rfl⟩ ?_
   refine LD.drop rfl rfl ⟨7, _, rfl, rfl, rfl⟩ ?_
   refine LD.val rfl rfl (ov_pickT rfl rfl) ?_
   refine LD.val rfl rfl (ov_move rfl) ?_
   refine LD.drop rfl rfl ⟨19, _, rfl, rfl, rfl⟩ ?_
   refine LD.drop rfl rfl ⟨19, _, rfl, rfl, rfl⟩ ?_
   refine LD.drop rfl rfl ⟨19, _, rfl, rfl, rfl⟩ ?_
   refine LD.drop rfl rfl ⟨19, _, rfl, rfl, rfl⟩ ?_
   refine LD.drop rfl rfl ⟨19, _, rfl, rfl, rfl⟩ ?_
   refine LD.drop rfl rfl ⟨19, _, rfl, rfl, rfl⟩ ?_
   refine LD.drop rfl rfl ⟨19, _, rfl, rfl, rfl⟩ ?_
   refine LD.drop rfl rfl ⟨19, _, rfl, rfl, rfl⟩ ?_
   refine LD.drop rfl rfl ⟨19, _, rfl, rfl, rfl⟩ ?_
   refine LD.drop rfl rfl ⟨19, _, rfl, rfl, rfl⟩ ?_
   refine LD.drop rfl rfl ⟨19, _, rfl, rfl, rfl⟩ ?_
   refine LD.drop rfl rfl ⟨19, _, rfl, rfl, rfl⟩ ?_
   refine LD.val rfl rfl (ov_pickT rfl rfl) ?_
   refine LD.val rfl rfl (ov_move rfl) ?_
   refine LD.drop rfl rfl ⟨33, _, rfl, rfl, rfl⟩ ?_
   refine LD.drop rfl rfl ⟨33, _, rfl, rfl, rfl⟩ ?_
   refine LD.drop rfl rfl ⟨33, _, rfl, rfl, rfl⟩ ?_
   refine LD.drop rfl rfl ⟨33, _, rfl, rfl, rfl⟩ ?_
   refine LD.drop rfl rfl ⟨33, _, rfl, rfl, rfl⟩ ?_
   refine LD.drop rfl rfl ⟨33, _, rfl, rfl, rfl⟩ ?_
   refine LD.drop rfl rfl ⟨33, _, rfl, rfl, rfl⟩ ?_
   refine LD.drop rfl rfl ⟨33, _, rfl, rfl, rfl⟩ ?_
   refine LD.drop rfl rfl ⟨33, _, rfl, rfl, rfl⟩ ?_
   refine LD.drop rfl rfl ⟨33, _, rfl, rfl, rfl⟩ ?_
   refine LD.drop rfl rfl ⟨33, _, rfl, rfl, rfl⟩ ?_
   refine LD.drop rfl rfl ⟨33, _, rfl, rfl, rfl⟩ ?_
   refine LD.val rfl rfl (ov_pickT rfl rfl) ?_
   refine LD.nil ?_
   refine QM.sub (e' := [(0, _), (46, _)]) ⟨rfl, rfl, trivial⟩ ?_
   refine QM.meetK (_) ⟨au2, rfl, trivial⟩ au1 ?_
   · rw [isE_bad h1]; rfl
  refine LD.val rfl ⟨7, _, rfl, rfl, rfl⟩ (ov_move rfl) ?_
  refine LD.val rfl ⟨7, _, rfl, rfl, rfl⟩ (ov_nilCheck rfl) ?_
  refine LD.val rfl ⟨7, _, rfl, rfl, rfl⟩ (ov_field Tryz.underlying70 rfl Tryz.sizeOf3 rfl (k := 1) rfl rfl) ?_
  refine LD.rd rfl ⟨7, _, rfl, rfl, rfl⟩ (om_ld Tryz.isAgg3 rfl rfl) ?_
  refine LD.val rfl ⟨7, _, rfl, rfl, rfl⟩ (ov_move rfl) ?_
  refine LD.val rfl ⟨7, _, rfl, rfl, rfl⟩ (ov_nilCheck rfl) ?_
  refine LD.val rfl ⟨7, _, rfl, rfl, rfl⟩ (ov_field Tryz.underlying70 rfl Tryz.sizeOf23 rfl (k := 0) rfl rfl) ?_
  refine LD.rd rfl ⟨7, _, rfl, rfl, rfl⟩ (om_ld Tryz.isAgg23 rfl rfl) ?_
  refine LD.val rfl ⟨7, _, rfl, rfl, rfl⟩ (ov_len Tryz.underlying23 rfl) ?_
  refine LD.val rfl ⟨7, _, rfl, rfl, rfl⟩ (ov_geq rfl rfl) ?_
  refine LD.val rfl rfl (ov_pickF rfl rfl) ?_
  refine LD.val rfl rfl (ov_move rfl) ?_
  refine LD.splitD (t := 19) rfl (fun h2 => ?_) (fun h2 => ?_)
  ·
   refine LD.drop rfl rfl ⟨19, _, rfl, rfl, rfl⟩ ?_
   refine LD.drop rfl rfl ⟨19, _, rfl, rfl, rfl⟩ ?_
   refine LD.drop rfl rfl ⟨19, _, rfl, rfl, rfl⟩ ?_
   refine LD.drop rfl rfl ⟨19, _, rfl, rfl, rfl⟩ ?_
   refine LD.drop rfl rfl ⟨19, _, rfl, rfl, rfl⟩ ?_
   refine LD.drop rfl rfl ⟨19, _, rfl, rfl, rfl⟩ ?_
   refine LD.drop rfl rfl ⟨19, _, rfl, rfl, rfl⟩ ?_
   refine LD.drop rfl rfl ⟨19, _, rfl, rfl, rfl⟩ ?_
   refine LD.drop rfl rfl ⟨19, _, rfl, rfl, rfl⟩ ?_
   refine LD.drop rfl rfl ⟨19, _, rfl, rfl, rfl⟩ ?_
   refine LD.drop rfl rfl ⟨19, _, rfl, rfl, rfl⟩ ?_
   refine LD.drop rfl rfl ⟨19, _, rfl, rfl, rfl⟩ ?_
   refine LD.val rfl rfl (ov_pickT rfl rfl) ?_
   refine LD.val rfl rfl (ov_move rfl) ?_
   refine LD.drop rfl rfl ⟨33, _, rfl, rfl, rfl⟩ ?_
   refine LD.drop rfl rfl ⟨33, _, rfl, rfl, rfl⟩ ?_
   refine LD.drop rfl rfl ⟨33, _, rfl, rfl, rfl⟩ ?_
   refine LD.drop rfl rfl ⟨33, _, rfl, rfl, rfl⟩ ?_
   refine LD.drop rfl rfl ⟨33, _, rfl, rfl, rfl⟩ ?_
   refine LD.drop rfl rfl ⟨33, _, rfl, rfl, rfl⟩ ?_
   refine LD.drop rfl rfl ⟨33, _, rfl, rfl, rfl⟩ ?_
   refine LD.drop rfl rfl ⟨33, _, rfl, rfl, rfl⟩ ?_
   refine LD.drop rfl rfl ⟨33, _, rfl, rfl, rfl⟩ ?_
   refine LD.drop rfl rfl ⟨33, _, rfl, rfl, rfl⟩ ?_
   refine LD.drop rfl rfl ⟨33, _, rfl, rfl, rfl⟩ ?_
   refine LD.drop rfl rfl ⟨33, _, rfl, rfl, rfl⟩ ?_
   refine LD.val rfl rfl (ov_pickT rfl rfl) ?_
   refine LD.nil ?_
   refine QM.sub (e' := [(0, _), (46, _)]) ⟨rfl, rfl, trivial⟩ ?_
   refine QM.meetK (_) ⟨au2, rfl, trivial⟩ au1 ?_
   · unfold isE; rw [decide_eq_false (show ¬ i < ws.length by omega)]; simp
  refine LD.val rfl ⟨19, _, rfl, rfl, rfl⟩ (ov_move rfl) ?_
  refine LD.val rfl ⟨19, _, rfl, rfl, rfl⟩ (ov_nilCheck rfl) ?_
  refine LD.val rfl ⟨19, _, rfl, rfl, rfl⟩ (ov_field Tryz.underlying70 rfl Tryz.sizeOf23 rfl (k := 0) rfl rfl) ?_
  refine LD.rd rfl ⟨19, _, rfl, rfl, rfl⟩ (om_ld Tryz.isAgg23 rfl rfl) ?_
  refine LD.val rfl ⟨19, _, rfl, rfl, rfl⟩ (ov_move rfl) ?_
  refine LD.val rfl ⟨19, _, rfl, rfl, rfl⟩ (ov_nilCheck rfl) ?_
  refine LD.val rfl ⟨19, _, rfl, rfl, rfl⟩ (ov_field Tryz.underlying70 rfl Tryz.sizeOf3 rfl (k := 1) rfl rfl) ?_
  refine LD.rd rfl ⟨19, _, rfl, rfl, rfl⟩ (om_ld Tryz.isAgg3 rfl rfl) ?_
  refine LD.val rfl ⟨19, _, rfl, rfl, rfl⟩ (ov_idxSN au6 Tryz.underlying23 Tryz.sizeOf65 rfl rfl (by omega)) ?_
  refine LD.val rfl ⟨19, _, rfl, rfl, rfl⟩ (ov_field Tryz.underlying65 rfl Tryz.sizeOf3 rfl (k := 0) rfl rfl) ?_
  first | refine LD.rd rfl ⟨19, _, rfl, rfl, rfl⟩ (om_slE (j := 0) (by assumption) (by intro _; rfl) Tryz.isAgg3 rfl rfl au3 rfl (by rfl)) ?_ | refine LD.rdC rfl ⟨19, _, rfl, rfl, rfl⟩ (om_srE (j := 0) (by assumption) Tryz.isAgg3 rfl rfl au3 (by rfl) (by rfl) (by exact hab (by omega))) ?_ | refine LD.rd rfl ⟨19, _, rfl, rfl, rfl⟩ (om_ld Tryz.isAgg3 rfl rfl) ?_
  refine LD.val rfl ⟨19, _, rfl, rfl, rfl⟩ (ov_neq rfl rfl) ?_
  refine LD.val rfl rfl (ov_pickF rfl rfl) ?_
  refine LD.val rfl rfl (ov_move rfl) ?_
  refine LD.splitD (t := 33) rfl (fun h3 => ?_) (fun h3 => ?_)
  ·
   refine LD.drop rfl rfl ⟨33, _, rfl, rfl, rfl⟩ ?_
   refine LD.drop rfl rfl ⟨33, _, rfl, rfl, rfl⟩ ?_
   refine LD.drop rfl rfl ⟨33, _, rfl, rfl, rfl⟩ ?_
   refine LD.drop rfl rfl ⟨33, _, rfl, rfl, rfl⟩ ?_
   refine LD.drop rfl rfl ⟨33, _, rfl, rfl, rfl⟩ ?_
   refine LD.drop rfl rfl ⟨33, _, rfl, rfl, rfl⟩ ?_
   refine LD.drop rfl rfl ⟨33, _, rfl, rfl, rfl⟩ ?_
   refine LD.drop rfl rfl ⟨33, _, rfl, rfl, rfl⟩ ?_
   refine LD.drop rfl rfl ⟨33, _, rfl, rfl, rfl⟩ ?_
   refine LD.drop rfl rfl ⟨33, _, rfl, rfl, rfl⟩ ?_
   refine LD.drop rfl rfl ⟨33, _, rfl, rfl, rfl⟩ ?_
   refine LD.drop rfl rfl ⟨33, _, rfl, rfl, rfl⟩ ?_
   refine LD.val rfl rfl (ov_pickT rfl rfl) ?_
   refine LD.nil ?_
   refine QM.sub (e' := [(0, _), (46, _)]) ⟨rfl, rfl, trivial⟩ ?_
   refine QM.meetK (_) ⟨au2, rfl, trivial⟩ au1 ?_
   · unfold isE; rw [decide_eq_false h3]; simp
  refine LD.val rfl ⟨33, _, rfl, rfl, rfl⟩ (ov_move rfl) ?_
  refine LD.val rfl ⟨33, _, rfl, rfl, rfl⟩ (ov_nilCheck rfl) ?_
  refine LD.val rfl ⟨33, _, rfl, rfl, rfl⟩ (ov_field Tryz.underlying70 rfl Tryz.sizeOf23 rfl (k := 0) rfl rfl) ?_
  refine LD.rd rfl ⟨33, _, rfl, rfl, rfl⟩ (om_ld Tryz.isAgg23 rfl rfl) ?_
  refine LD.val rfl ⟨33, _, rfl, rfl, rfl⟩ (ov_move rfl) ?_
  refine LD.val rfl ⟨33, _, rfl, rfl, rfl⟩ (ov_nilCheck rfl) ?_
  refine LD.val rfl ⟨33, _, rfl, rfl, rfl⟩ (ov_field Tryz.underlying70 rfl Tryz.sizeOf3 rfl (k := 1) rfl rfl) ?_
  refine LD.rd rfl ⟨33, _, rfl, rfl, rfl⟩ (om_ld Tryz.isAgg3 rfl rfl) ?_
  refine LD.val rfl ⟨33, _, rfl, rfl, rfl⟩ (ov_idxSN au6 Tryz.underlying23 Tryz.sizeOf65 rfl rfl (by omega)) ?_
  refine LD.val rfl ⟨33, _, rfl, rfl, rfl⟩ (ov_field Tryz.underlying65 rfl Tryz.sizeOf9 rfl (k := 1) rfl rfl) ?_
  first | refine LD.rd rfl ⟨33, _, rfl, rfl, rfl⟩ (om_slE (j := 1) (by assumption) (by intro _; rfl) Tryz.isAgg9 rfl rfl au3 rfl (by rfl)) ?_ | refine LD.rdC rfl ⟨33, _, rfl, rfl, rfl⟩ (om_srE (j := 1) (by assumption) Tryz.isAgg9 rfl rfl au3 (by rfl) (by rfl) (by exact hab (by omega))) ?_ | refine LD.rd rfl ⟨33, _, rfl, rfl, rfl⟩ (om_ld Tryz.isAgg9 rfl rfl) ?_
  refine LD.val rfl ⟨33, _, rfl, rfl, rfl⟩ (ov_sneqL rfl rfl) ?_
  refine LD.val rfl rfl (ov_pickF rfl rfl) ?_
  refine LD.nil ?_
  refine QM.sub (e' := [(0, _), (46, _)]) ⟨rfl, rfl, trivial⟩ ?_
  refine QM.meetK (_) ⟨au2, rfl, trivial⟩ au1 ?_
  · unfold isE; rw [decide_eq_true (show e = 0 from Classical.not_not.1 h1), decide_eq_true (show i < ws.length by omega), decide_eq_true (Classical.not_not.1 h3)]; simp
 rintro q hq
 change QM _ _ _ _ _ (tB b ad n cap i e :: []) _ _ _
 refine QM.then ?_
 first | refine wpM.condD rfl (fun h4 => ?_) (fun h4 => ?_) | refine wpM.condB rfl (fun h4 => ?_) (fun h4 => ?_)
 ·
  have hq2 : isE ws i e 3 [59] = false := (by rw [h4] at hq; simpa using hq.symm)
  refine wpM.seq (wpM.region ?_)
  refine LM.mv rfl ?_
  refine LM.cW (oc_call (enters_fn Tryz.func81 (by kernel_rfl) rfl) rfl) (fun w hm hc hg => tfail_spec b (ad := ad) (n := n) (cap := cap) i e 5 w (hm.pick _)) rfl (fun hlt => by first | exact rfl | exact absurd hlt (by omega)) ?_
  refine LM.nil (QM.sub (e' := []) trivial (QM.then ?_))
  refine wpM.ret ?_
  refine QM.then_ret ?_
  refine QM.leave (.inl rfl) [] Tryz.results35 rfl ?_
  intro w' hm' hc' hg'
  refine ⟨rfl, hc', ?_⟩; have h3 := hm'.at b; unfold needE; rw [if_neg (by rw [hq2]; simp)]; by_cases h0 : e = 0; (rw [if_pos h0] at h3 ⊢; exact h3); (rw [if_neg h0] at h3 ⊢; exact h3)
 have hq2 : isE ws i e 3 [59] = true := (by rw [h4] at hq; simpa using hq.symm); have hlt := (isE_lt hq2).1
 refine wpM.skip ?_
 refine QM.then (wpM.region ?_)
 refine LM.mv rfl ?_
 refine LM.val (ov_nilCheck rfl) ?_
 refine LM.val (ov_field Tryz.underlying70 rfl Tryz.sizeOf3 rfl (k := 1) rfl rfl) ?_
 refine LM.rd (om_ld Tryz.isAgg3 rfl rfl) ?_
 refine LM.val (ov_add64 rfl rfl (by omega)) ?_
 refine LM.val (ov_nilCheck rfl) ?_
 refine LM.val (ov_field Tryz.underlying70 rfl Tryz.sizeOf3 rfl (k := 1) rfl rfl) ?_
 refine LM.st Tryz.sizeOf3 rfl rfl rfl au5 rfl (fun hlt => by first | exact rfl | exact absurd hlt (by omega)) ?_
 refine LM.nil (QM.sub (e' := []) trivial ?_)
 refine QM.leave (.inr rfl) [] Tryz.results35 rfl ?_
 intro w' hm' hc' hg'
 refine ⟨rfl, hc', ?_⟩; have h3 := hm'.at b; unfold needE; rw [if_pos hq2]; exact h3
set_option maxRecDepth 100000 in
set_option maxHeartbeats 1000000 in
theorem tfield_spec {ws : List Wrd} (b : Nat) {ad : Option Addr} {n cap : Nat} (i : Nat) (e most : Int) (nm : List UInt8) (w : World) (hn : n = ws.length) (hx : ws.length ≤ 1000000000) (hl : Sr fW 4 ws (.slice ad n cap) w) (hab : 0 < ws.length → adB ad ≠ b) (hM : Mem w [tB b ad n cap i e]) : Ret Tryz.prog 34 #[.pointer (some ⟨b, 0, none⟩), vS nm, .int .i64 most] w (WrP b (.int .i64 (fldE ws i e nm most).2.2) (tO ad n cap (fldE ws i e nm most).1 (fldE ws i e nm most).2.1) w) := by
 refine Ret.enterM (l := [.pointer (some ⟨b, 0, none⟩), vS nm, .int .i64 most]) Tryz.func34 rfl Tryz.ntmps34 rfl ([tB b ad n cap i e]) ((fun x => x = b)) hM ?_
 refine wpM.seq (wpM.region ?_)
 refine LM.as rfl ?_
 refine LM.nil (QM.sub (e' := [(0, _), (1, _), (2, _)]) ⟨rfl, rfl, rfl, trivial⟩ (QM.then (wpM.seq (wpM.region ?_))))
 refine LM.mv rfl ?_
 refine LM.mv rfl ?_
 refine LM.cW (oc_call (enters_fn Tryz.func80 (by kernel_rfl) rfl) rfl) (fun w hm hc hg => tname_spec b i e nm w hn hx (hl.kp hc hab) hab (hm.pick _)) rfl (fun hlt => by first | exact rfl | exact absurd hlt (by omega)) ?_
 refine LM.nil (QM.sub (e' := [(0, _), (2, _)]) ⟨rfl, rfl, trivial⟩ (QM.then ?_))
 refine wpM.seq ?_
 refine wpM.block ?_
 refine wpM.seq (wpM.region ?_)
 refine LM.mv rfl ?_
 refine LM.val (ov_nilCheck rfl) ?_
 refine LM.val (ov_field Tryz.underlying70 rfl Tryz.sizeOf31 rfl (k := 2) rfl rfl) ?_
 refine LM.rd (om_ld Tryz.isAgg31 rfl rfl) ?_
 refine LM.val (ov_neq rfl rfl) ?_
 refine LM.as rfl ?_
 refine LM.nil (QM.sub (e' := [(0, _), (2, _), (10, _)]) ⟨rfl, rfl, rfl, trivial⟩ (QM.then ?_))
 refine wpM.condD rfl (fun h1 => ?_) (fun h1 => ?_)
 ·
  refine wpM.seq (wpM.region ?_)
  refine LM.as rfl ?_
  refine LM.nil (QM.sub (e' := [(6, _)]) ⟨rfl, trivial⟩ (QM.then ?_))
  refine wpM.ret ?_
  refine QM.block_ret ?_
  refine QM.then_ret ?_
  refine QM.leave (.inl rfl) [.tmp 6] Tryz.results34 rfl ?_
  intro w' hm' hc' hg'
  unfold fldE; rw [num_b h1]; exact ⟨rfl, hc', hm'.at b⟩
 have he0 : (needE ws i e 1 nm).2 = 0 := Classical.not_not.1 h1
 refine wpM.seq ?_
 refine wpM.draw [(0, 0), (1, 0), (2, 0), (3, 1), (4, 0), (5, 0), (6, 0), (7, 1), (8, 0), (9, 0), (10, 0), (11, 0), (12, 0), (13, 0), (14, 1), (15, 0), (16, 0), (17, 0), (18, 1), (19, 0), (20, 0), (21, 1), (22, 0), (23, 0), (24, 0)] (by kernel_rfl) (by kernel_rfl) ?_
 refine LD.val rfl rfl (ov_move rfl) ?_
 refine LD.val rfl rfl (ov_nilCheck rfl) ?_
 refine LD.val rfl rfl (ov_field Tryz.underlying70 rfl Tryz.sizeOf3 rfl (k := 1) rfl rfl) ?_
 refine LD.rd rfl rfl (om_ld Tryz.isAgg3 rfl rfl) ?_
 refine LD.val rfl rfl (ov_move rfl) ?_
 refine LD.val rfl rfl (ov_nilCheck rfl) ?_
 refine LD.val rfl rfl (ov_field Tryz.underlying70 rfl Tryz.sizeOf23 rfl (k := 0) rfl rfl) ?_
 refine LD.rd rfl rfl (om_ld Tryz.isAgg23 rfl rfl) ?_
 refine LD.val rfl rfl (ov_len Tryz.underlying23 rfl) ?_
 refine LD.val rfl rfl (ov_geq rfl rfl) ?_
 refine LD.val rfl rfl (ov_move rfl) ?_
 refine LD.splitD (t := 27) rfl (fun h2 => ?_) (fun h2 => ?_)
 ·
  refine LD.drop rfl rfl ⟨27, _, rfl, rfl, rfl⟩ ?_
  refine LD.drop rfl rfl ⟨27, _, rfl, rfl, rfl⟩ ?_
  refine LD.drop rfl rfl ⟨27, _, rfl, rfl, rfl⟩ ?_
  refine LD.drop rfl rfl ⟨27, _, rfl, rfl, rfl⟩ ?_
  refine LD.drop rfl rfl ⟨27, _, rfl, rfl, rfl⟩ ?_
  refine LD.drop rfl rfl ⟨27, _, rfl, rfl, rfl⟩ ?_
  refine LD.drop rfl rfl ⟨27, _, rfl, rfl, rfl⟩ ?_
  refine LD.drop rfl rfl ⟨27, _, rfl, rfl, rfl⟩ ?_
  refine LD.drop rfl rfl ⟨27, _, rfl, rfl, rfl⟩ ?_
  refine LD.drop rfl rfl ⟨27, _, rfl, rfl, rfl⟩ ?_
  refine LD.drop rfl rfl ⟨27, _, rfl, rfl, rfl⟩ ?_
  refine LD.drop rfl rfl ⟨27, _, rfl, rfl, rfl⟩ ?_
  refine LD.val rfl rfl (ov_pickT rfl rfl) ?_
  refine LD.val rfl rfl (ov_assign rfl) ?_
  refine LD.nil ?_
  refine QM.sub (e' := [(0, _), (2, _), (16, _)]) ⟨rfl, rfl, rfl, trivial⟩ (QM.then ?_)
  refine wpM.condT rfl ?_
  refine wpM.seq (wpM.region ?_)
  refine LM.mv rfl ?_
  refine LM.cW (oc_call (enters_fn Tryz.func81 (by kernel_rfl) rfl) rfl) (fun w hm hc hg => tfail_spec b (ad := ad) (n := n) (cap := cap) (needE ws i e 1 nm).1 (needE ws i e 1 nm).2 5 w (hm.pick _)) rfl (fun hlt => by first | exact rfl | exact absurd hlt (by omega)) ?_
  refine LM.nil (QM.sub (e' := []) trivial (QM.then (wpM.seq (wpM.region ?_))))
  refine LM.as rfl ?_
  refine LM.nil (QM.sub (e' := [(6, _)]) ⟨rfl, trivial⟩ (QM.then ?_))
  refine wpM.ret ?_
  refine QM.block_ret ?_
  refine QM.then_ret ?_
  refine QM.leave (.inl rfl) [.tmp 6] Tryz.results34 rfl ?_
  intro w' hm' hc' hg'
  have h9 := hm'.at b; rw [he0, if_pos rfl] at h9; unfold fldE; rw [he0, num_c (by decide) (.inl (by omega))]; exact ⟨rfl, hc', h9⟩
 refine LD.val rfl ⟨27, _, rfl, rfl, rfl⟩ (ov_move rfl) ?_
 refine LD.val rfl ⟨27, _, rfl, rfl, rfl⟩ (ov_nilCheck rfl) ?_
 refine LD.val rfl ⟨27, _, rfl, rfl, rfl⟩ (ov_field Tryz.underlying70 rfl Tryz.sizeOf23 rfl (k := 0) rfl rfl) ?_
 refine LD.rd rfl ⟨27, _, rfl, rfl, rfl⟩ (om_ld Tryz.isAgg23 rfl rfl) ?_
 refine LD.val rfl ⟨27, _, rfl, rfl, rfl⟩ (ov_move rfl) ?_
 refine LD.val rfl ⟨27, _, rfl, rfl, rfl⟩ (ov_nilCheck rfl) ?_
 refine LD.val rfl ⟨27, _, rfl, rfl, rfl⟩ (ov_field Tryz.underlying70 rfl Tryz.sizeOf3 rfl (k := 1) rfl rfl) ?_
 refine LD.rd rfl ⟨27, _, rfl, rfl, rfl⟩ (om_ld Tryz.isAgg3 rfl rfl) ?_
 refine LD.val rfl ⟨27, _, rfl, rfl, rfl⟩ (ov_idxSN au6 Tryz.underlying23 Tryz.sizeOf65 rfl rfl (by omega)) ?_
 refine LD.val rfl ⟨27, _, rfl, rfl, rfl⟩ (ov_field Tryz.underlying65 rfl Tryz.sizeOf3 rfl (k := 0) rfl rfl) ?_
 first | refine LD.rd rfl ⟨27, _, rfl, rfl, rfl⟩ (om_slE (j := 0) (by assumption) (by intro _; rfl) Tryz.isAgg3 rfl rfl au3 rfl (by rfl)) ?_ | refine LD.rdC rfl ⟨27, _, rfl, rfl, rfl⟩ (om_srE (j := 0) (by assumption) Tryz.isAgg3 rfl rfl au3 (by rfl) (by rfl) (by exact hab (by omega))) ?_ | refine LD.rd rfl ⟨27, _, rfl, rfl, rfl⟩ (om_ld Tryz.isAgg3 rfl rfl) ?_
 refine LD.val rfl ⟨27, _, rfl, rfl, rfl⟩ (ov_neq rfl rfl) ?_
 refine LD.val rfl rfl (ov_pickF rfl rfl) ?_
 refine LD.val rfl rfl (ov_assign rfl) ?_
 refine LD.nil ?_
 refine QM.sub (e' := [(0, _), (2, _), (16, _)]) ⟨rfl, rfl, rfl, trivial⟩ (QM.then ?_)
 refine wpM.condD rfl (fun h3 => ?_) (fun h3 => ?_)
 ·
  refine wpM.seq (wpM.region ?_)
  refine LM.mv rfl ?_
  refine LM.cW (oc_call (enters_fn Tryz.func81 (by kernel_rfl) rfl) rfl) (fun w hm hc hg => tfail_spec b (ad := ad) (n := n) (cap := cap) (needE ws i e 1 nm).1 (needE ws i e 1 nm).2 5 w (hm.pick _)) rfl (fun hlt => by first | exact rfl | exact absurd hlt (by omega)) ?_
  refine LM.nil (QM.sub (e' := []) trivial (QM.then (wpM.seq (wpM.region ?_))))
  refine LM.as rfl ?_
  refine LM.nil (QM.sub (e' := [(6, _)]) ⟨rfl, trivial⟩ (QM.then ?_))
  refine wpM.ret ?_
  refine QM.block_ret ?_
  refine QM.then_ret ?_
  refine QM.leave (.inl rfl) [.tmp 6] Tryz.results34 rfl ?_
  intro w' hm' hc' hg'
  have h9 := hm'.at b; rw [he0, if_pos rfl] at h9; unfold fldE; rw [he0, num_c (by decide) (.inr h3)]; exact ⟨rfl, hc', h9⟩
 refine wpM.seq ?_
 refine wpM.draw [(0, 0), (1, 0), (2, 0), (3, 1), (4, 0), (5, 0), (6, 0), (7, 1), (8, 0), (9, 0), (10, 1), (11, 0), (12, 0), (13, 0), (14, 0), (15, 0), (16, 1), (17, 0), (18, 0), (19, 0), (20, 1), (21, 0), (22, 0), (23, 1), (24, 0), (25, 0), (26, 0), (27, 0)] (by kernel_rfl) (by kernel_rfl) ?_
 refine LD.val rfl rfl (ov_move rfl) ?_
 refine LD.val rfl rfl (ov_nilCheck rfl) ?_
 refine LD.val rfl rfl (ov_field Tryz.underlying70 rfl Tryz.sizeOf23 rfl (k := 0) rfl rfl) ?_
 refine LD.rd rfl rfl (om_ld Tryz.isAgg23 rfl rfl) ?_
 refine LD.val rfl rfl (ov_move rfl) ?_
 refine LD.val rfl rfl (ov_nilCheck rfl) ?_
 refine LD.val rfl rfl (ov_field Tryz.underlying70 rfl Tryz.sizeOf3 rfl (k := 1) rfl rfl) ?_
 refine LD.rd rfl rfl (om_ld Tryz.isAgg3 rfl rfl) ?_
 refine LD.val rfl rfl (ov_idxSN au6 Tryz.underlying23 Tryz.sizeOf65 rfl rfl (by omega)) ?_
 refine LD.val rfl rfl (ov_field Tryz.underlying65 rfl Tryz.sizeOf3 rfl (k := 2) rfl rfl) ?_
 first | refine LD.rd rfl rfl (om_slE (j := 2) (by assumption) (by intro _; rfl) Tryz.isAgg3 rfl rfl au3 rfl (by rfl)) ?_ | refine LD.rdC rfl rfl (om_srE (j := 2) (by assumption) Tryz.isAgg3 rfl rfl au3 (by rfl) (by rfl) (by exact hab (by omega))) ?_ | refine LD.rd rfl rfl (om_ld Tryz.isAgg3 rfl rfl) ?_
 refine LD.val rfl rfl (ov_lss rfl rfl) ?_
 refine LD.val rfl rfl (ov_move rfl) ?_
 refine LD.splitD (t := 56) rfl (fun h4 => ?_) (fun h4 => ?_)
 ·
  refine LD.drop rfl rfl ⟨56, _, rfl, rfl, rfl⟩ ?_
  refine LD.drop rfl rfl ⟨56, _, rfl, rfl, rfl⟩ ?_
  refine LD.drop rfl rfl ⟨56, _, rfl, rfl, rfl⟩ ?_
  refine LD.drop rfl rfl ⟨56, _, rfl, rfl, rfl⟩ ?_
  refine LD.drop rfl rfl ⟨56, _, rfl, rfl, rfl⟩ ?_
  refine LD.drop rfl rfl ⟨56, _, rfl, rfl, rfl⟩ ?_
  refine LD.drop rfl rfl ⟨56, _, rfl, rfl, rfl⟩ ?_
  refine LD.drop rfl rfl ⟨56, _, rfl, rfl, rfl⟩ ?_
  refine LD.drop rfl rfl ⟨56, _, rfl, rfl, rfl⟩ ?_
  refine LD.drop rfl rfl ⟨56, _, rfl, rfl, rfl⟩ ?_
  refine LD.drop rfl rfl ⟨56, _, rfl, rfl, rfl⟩ ?_
  refine LD.drop rfl rfl ⟨56, _, rfl, rfl, rfl⟩ ?_
  refine LD.drop rfl rfl ⟨56, _, rfl, rfl, rfl⟩ ?_
  refine LD.val rfl rfl (ov_pickT rfl rfl) ?_
  refine LD.val rfl rfl (ov_assign rfl) ?_
  refine LD.nil ?_
  refine QM.sub (e' := [(0, _), (43, _)]) ⟨rfl, rfl, trivial⟩ (QM.then ?_)
  refine wpM.condT rfl ?_
  refine wpM.seq (wpM.region ?_)
  refine LM.mv rfl ?_
  refine LM.cW (oc_call (enters_fn Tryz.func81 (by kernel_rfl) rfl) rfl) (fun w hm hc hg => tfail_spec b (ad := ad) (n := n) (cap := cap) (needE ws i e 1 nm).1 (needE ws i e 1 nm).2 1 w (hm.pick _)) rfl (fun hlt => by first | exact rfl | exact absurd hlt (by omega)) ?_
  refine LM.nil (QM.sub (e' := []) trivial (QM.then (wpM.seq (wpM.region ?_))))
  refine LM.as rfl ?_
  refine LM.nil (QM.sub (e' := [(6, _)]) ⟨rfl, trivial⟩ (QM.then ?_))
  refine wpM.ret ?_
  refine QM.block_ret ?_
  refine QM.then_ret ?_
  refine QM.leave (.inl rfl) [.tmp 6] Tryz.results34 rfl ?_
  intro w' hm' hc' hg'
  have h9 := hm'.at b; rw [he0, if_pos rfl] at h9; unfold fldE; rw [he0, num_d (by decide) (by omega) (Classical.not_not.1 h3) (by unfold hasB; rw [if_neg (by decide), decide_eq_false (by omega)]; rfl)]; exact ⟨rfl, hc', h9⟩
 refine LD.val rfl ⟨56, _, rfl, rfl, rfl⟩ (ov_move rfl) ?_
 refine LD.val rfl ⟨56, _, rfl, rfl, rfl⟩ (ov_nilCheck rfl) ?_
 refine LD.val rfl ⟨56, _, rfl, rfl, rfl⟩ (ov_field Tryz.underlying70 rfl Tryz.sizeOf23 rfl (k := 0) rfl rfl) ?_
 refine LD.rd rfl ⟨56, _, rfl, rfl, rfl⟩ (om_ld Tryz.isAgg23 rfl rfl) ?_
 refine LD.val rfl ⟨56, _, rfl, rfl, rfl⟩ (ov_move rfl) ?_
 refine LD.val rfl ⟨56, _, rfl, rfl, rfl⟩ (ov_nilCheck rfl) ?_
 refine LD.val rfl ⟨56, _, rfl, rfl, rfl⟩ (ov_field Tryz.underlying70 rfl Tryz.sizeOf3 rfl (k := 1) rfl rfl) ?_
 refine LD.rd rfl ⟨56, _, rfl, rfl, rfl⟩ (om_ld Tryz.isAgg3 rfl rfl) ?_
 refine LD.val rfl ⟨56, _, rfl, rfl, rfl⟩ (ov_idxSN au6 Tryz.underlying23 Tryz.sizeOf65 rfl rfl (by omega)) ?_
 refine LD.val rfl ⟨56, _, rfl, rfl, rfl⟩ (ov_field Tryz.underlying65 rfl Tryz.sizeOf3 rfl (k := 2) rfl rfl) ?_
 first | refine LD.rd rfl ⟨56, _, rfl, rfl, rfl⟩ (om_slE (j := 2) (by assumption) (by intro _; rfl) Tryz.isAgg3 rfl rfl au3 rfl (by rfl)) ?_ | refine LD.rdC rfl ⟨56, _, rfl, rfl, rfl⟩ (om_srE (j := 2) (by assumption) Tryz.isAgg3 rfl rfl au3 (by rfl) (by rfl) (by exact hab (by omega))) ?_ | refine LD.rd rfl ⟨56, _, rfl, rfl, rfl⟩ (om_ld Tryz.isAgg3 rfl rfl) ?_
 refine LD.val rfl ⟨56, _, rfl, rfl, rfl⟩ (ov_move rfl) ?_
 refine LD.val rfl ⟨56, _, rfl, rfl, rfl⟩ (ov_gtr rfl rfl) ?_
 refine LD.val rfl rfl (ov_pickF rfl rfl) ?_
 refine LD.val rfl rfl (ov_assign rfl) ?_
 refine LD.nil ?_
 refine QM.sub (e' := [(0, _), (43, _)]) ⟨rfl, rfl, trivial⟩ (QM.then ?_)
 refine wpM.condD rfl (fun h5 => ?_) (fun h5 => ?_)
 ·
  refine wpM.seq (wpM.region ?_)
  refine LM.mv rfl ?_
  refine LM.cW (oc_call (enters_fn Tryz.func81 (by kernel_rfl) rfl) rfl) (fun w hm hc hg => tfail_spec b (ad := ad) (n := n) (cap := cap) (needE ws i e 1 nm).1 (needE ws i e 1 nm).2 1 w (hm.pick _)) rfl (fun hlt => by first | exact rfl | exact absurd hlt (by omega)) ?_
  refine LM.nil (QM.sub (e' := []) trivial (QM.then (wpM.seq (wpM.region ?_))))
  refine LM.as rfl ?_
  refine LM.nil (QM.sub (e' := [(6, _)]) ⟨rfl, trivial⟩ (QM.then ?_))
  refine wpM.ret ?_
  refine QM.block_ret ?_
  refine QM.then_ret ?_
  refine QM.leave (.inl rfl) [.tmp 6] Tryz.results34 rfl ?_
  intro w' hm' hc' hg'
  have h9 := hm'.at b; rw [he0, if_pos rfl] at h9; unfold fldE; rw [he0, num_d (by decide) (by omega) (Classical.not_not.1 h3) (by unfold hasB; rw [if_neg (by decide), decide_eq_true (by omega), decide_eq_false (by omega)]; rfl)]; exact ⟨rfl, hc', h9⟩
 refine wpM.skip ?_
 refine QM.block_normal ?_
 refine QM.then (wpM.seq (wpM.region ?_))
 refine LM.mv rfl ?_
 refine LM.val (ov_nilCheck rfl) ?_
 refine LM.val (ov_field Tryz.underlying70 rfl Tryz.sizeOf3 rfl (k := 1) rfl rfl) ?_
 refine LM.rd (om_ld Tryz.isAgg3 rfl rfl) ?_
 refine LM.val (ov_add64 rfl rfl (by omega)) ?_
 refine LM.val (ov_nilCheck rfl) ?_
 refine LM.val (ov_field Tryz.underlying70 rfl Tryz.sizeOf3 rfl (k := 1) rfl rfl) ?_
 refine LM.st Tryz.sizeOf3 rfl rfl rfl au5 rfl (fun hlt => by first | exact rfl | exact absurd hlt (by omega)) ?_
 refine LM.nil (QM.sub (e' := [(0, _)]) ⟨rfl, trivial⟩ (QM.then ?_))
 refine wpM.seq ?_
 refine wpM.draw [(0, 0), (1, 0), (2, 0), (3, 1), (4, 0), (5, 0), (6, 0), (7, 1), (8, 0), (9, 0), (10, 0), (11, 1), (12, 0)] (by kernel_rfl) (by kernel_rfl) ?_
 refine LD.val rfl rfl (ov_move rfl) ?_
 refine LD.val rfl rfl (ov_nilCheck rfl) ?_
 refine LD.val rfl rfl (ov_field Tryz.underlying70 rfl Tryz.sizeOf23 rfl (k := 0) rfl rfl) ?_
 refine LD.rd rfl rfl (om_ld Tryz.isAgg23 rfl rfl) ?_
 refine LD.val rfl rfl (ov_move rfl) ?_
 refine LD.val rfl rfl (ov_nilCheck rfl) ?_
 refine LD.val rfl rfl (ov_field Tryz.underlying70 rfl Tryz.sizeOf3 rfl (k := 1) rfl rfl) ?_
 refine LD.rd rfl rfl (om_ld Tryz.isAgg3 rfl rfl) ?_
 refine LD.val rfl rfl (ov_sub64 rfl rfl (by omega)) ?_
 first | refine LD.val rfl rfl (ov_idxSN au6 Tryz.underlying23 Tryz.sizeOf65 rfl rfl (by omega)) ?_ | refine LD.val rfl rfl (ov_idxS au6 Tryz.underlying23 Tryz.sizeOf65 rfl rfl (by omega)) ?_ | refine LD.val rfl rfl (ov_idx Tryz.underlying23 Tryz.sizeOf65 rfl rfl (by omega)) ?_
 refine LD.val rfl rfl (ov_field Tryz.underlying65 rfl Tryz.sizeOf3 rfl (k := 2) rfl rfl) ?_
 first | refine LD.rd rfl rfl (om_slE (j := 2) (by assumption) (by intro _; rfl) Tryz.isAgg3 rfl rfl au3 rfl (by rfl)) ?_ | refine LD.rdC rfl rfl (om_srE (j := 2) (by assumption) Tryz.isAgg3 rfl rfl au3 (by rfl) (by rfl) (by exact hab (by omega))) ?_ | refine LD.rd rfl rfl (om_ld Tryz.isAgg3 rfl rfl) ?_
 refine LD.val rfl rfl (ov_assign rfl) ?_
 refine LD.nil ?_
 refine QM.sub (e' := [(6, _)]) ⟨rfl, trivial⟩ (QM.then ?_)
 refine wpM.ret ?_
 refine QM.leave (.inl rfl) [.tmp 6] Tryz.results34 rfl ?_
 intro w' hm' hc' hg'
 have h9 := hm'.at b; rw [he0] at h9; unfold fldE; rw [he0, num_e (by decide) (by omega) (Classical.not_not.1 h3) (by unfold hasB; rw [if_neg (by decide), decide_eq_true (by omega), decide_eq_true (by omega)]; rfl), show (((needE ws i e 1 nm).1 : Int) + 1 - 1).toNat = (needE ws i e 1 nm).1 by omega]; exact ⟨rfl, hc', h9⟩
set_option maxRecDepth 100000 in
theorem troom_spec {ws : List Wrd} (b : Nat) {ad : Option Addr} {n cap : Nat} (i : Nat) (e k most : Int) (w : World) (hM : Mem w [tB b ad n cap i e]) : Ret Tryz.prog 83 #[.pointer (some ⟨b, 0, none⟩), .int .i64 k, .int .i64 most] w (WrP b (.bool (decide (e = 0) && !decide (most ≤ k))) (tO ad n cap i (if e = 0 ∧ most ≤ k then 6 else e)) w) := by
 refine Ret.enterM (l := [.pointer (some ⟨b, 0, none⟩), .int .i64 k, .int .i64 most]) Tryz.func83 rfl Tryz.ntmps83 rfl ([tB b ad n cap i e]) ((fun x => x = b)) hM ?_
 refine wpM.seq (wpM.region ?_)
 refine LM.as rfl ?_
 refine LM.nil (QM.sub (e' := [(0, _), (1, _), (2, _)]) ⟨rfl, rfl, rfl, trivial⟩ (QM.then ?_))
 refine wpM.seq ?_
 refine wpM.seq (wpM.region ?_)
 refine LM.mv rfl ?_
 refine LM.mv rfl ?_
 refine LM.val (ov_geq rfl rfl) ?_
 refine LM.nil (QM.sub (e' := [(0, _), (9, _)]) ⟨rfl, rfl, trivial⟩ (QM.then ?_))
 refine wpM.condD rfl (fun h1 => ?_) (fun h1 => ?_)
 ·
  refine wpM.region ?_
  refine LM.mv rfl ?_
  refine LM.cW (oc_call (enters_fn Tryz.func81 (by kernel_rfl) rfl) rfl) (fun w hm hc hg => tfail_spec b (ad := ad) (n := n) (cap := cap) i e 6 w (hm.pick _)) rfl (fun _ => rfl) ?_
  refine LM.nil (QM.sub (e' := [(0, _)]) ⟨rfl, trivial⟩ (QM.then (wpM.seq (wpM.region ?_))))
  refine LM.mv rfl ?_
  refine LM.val (ov_nilCheck rfl) ?_
  refine LM.val (ov_field Tryz.underlying70 rfl Tryz.sizeOf31 rfl (k := 2) rfl rfl) ?_
  refine LM.rd (om_ld Tryz.isAgg31 rfl rfl) ?_
  refine LM.val (ov_eql rfl rfl) ?_
  refine LM.as rfl ?_
  refine LM.nil (QM.sub (e' := [(6, _)]) ⟨rfl, trivial⟩ (QM.then ?_))
  refine wpM.ret ?_
  refine QM.leave (.inl rfl) [.tmp 6] Tryz.results83 rfl ?_
  intro w' hm' hc' hg'
  have h9 := hm'.at b; have h1' : most ≤ k := h1; refine ⟨?_, hc', ?_⟩; (rw [decide_eq_true h1']; by_cases h0 : e = 0 <;> simp [resV, h0]); (by_cases h0 : e = 0; (rw [if_pos h0] at h9; rw [if_pos ⟨h0, h1'⟩]; exact h9); (rw [if_neg h0] at h9; rw [if_neg (fun q => h0 q.1)]; exact h9))
 refine wpM.skip ?_
 refine QM.then (wpM.seq (wpM.region ?_))
 refine LM.mv rfl ?_
 refine LM.val (ov_nilCheck rfl) ?_
 refine LM.val (ov_field Tryz.underlying70 rfl Tryz.sizeOf31 rfl (k := 2) rfl rfl) ?_
 refine LM.rd (om_ld Tryz.isAgg31 rfl rfl) ?_
 refine LM.val (ov_eql rfl rfl) ?_
 refine LM.as rfl ?_
 refine LM.nil (QM.sub (e' := [(6, _)]) ⟨rfl, trivial⟩ (QM.then ?_))
 refine wpM.ret ?_
 refine QM.leave (.inl rfl) [.tmp 6] Tryz.results83 rfl ?_
 intro w' hm' hc' hg'
 have h9 := hm'.at b; have h1' : ¬ most ≤ k := h1; refine ⟨?_, hc', ?_⟩; (rw [decide_eq_false h1', Bool.not_false, Bool.and_true]; rfl); (rw [if_neg (fun q => h1' q.2)]; exact h9)
set_option maxRecDepth 100000 in
set_option maxHeartbeats 1000000 in
theorem tlockT_spec {ws : List Wrd} (b : Nat) {ad : Option Addr} {n cap : Nat} (i : Nat) (e : Int) (w : World) (hn : n = ws.length) (hx : ws.length ≤ 1000000000) (hl : Sr fW 4 ws (.slice ad n cap) w) (hab : 0 < ws.length → adB ad ≠ b) (hM : Mem w [tB b ad n cap i e]) (hi : i < ws.length) (hsh : isE ws i e 1 wShared = true) : Ret Tryz.prog 84 #[.pointer (some ⟨b, 0, none⟩)] w (WrP b (.agg (fL (lckE ws true (i + 1) e).2.2).toArray) (tO ad n cap (lckE ws true (i + 1) e).1 (lckE ws true (i + 1) e).2.1) w) := by
 refine Ret.enterM (l := [.pointer (some ⟨b, 0, none⟩)]) Tryz.func84 rfl Tryz.ntmps84 rfl ([tB b ad n cap i e]) ((fun x => x = b)) hM ?_
 refine wpM.seq (wpM.region ?_)
 refine LM.alloc Tryz.zeroValue63 rfl (fun b2 hb2 => ?_)
 refine LM.nil (QM.sub (e' := [(0, _), (2, _)]) ⟨rfl, rfl, trivial⟩ (QM.then (wpM.seq (wpM.region ?_))))
 refine LM.mv rfl ?_
 refine LM.callE (oc_call (enters_fn Tryz.func82 (by kernel_rfl) rfl) rfl) (fun w hm hc hg => tis_spec b i e wShared w hn (hl.kp hc hab) (SubM.mem au1 w hm)) ?_
 rw [hsh]
 refine LM.val (ov_build (cs := #[_, _, _, _, _]) rfl (by first | rfl | kernel_rfl)) ?_
 refine LM.alloc Tryz.zeroValue63 rfl (fun b3 hb3 => ?_)
 refine LM.stW Tryz.sizeOf63 rfl rfl rfl rfl au7 (fun hlt => by first | exact rfl | exact absurd hlt (by omega)) ?_
 refine LM.nil (QM.sub (e' := [(0, _), (2, _), (3, _)]) ⟨rfl, rfl, rfl, trivial⟩ (QM.then (wpM.seq (wpM.region ?_))))
 refine LM.mv rfl ?_
 refine LM.val (ov_nilCheck rfl) ?_
 refine LM.val (ov_field Tryz.underlying70 rfl Tryz.sizeOf3 rfl (k := 1) rfl rfl) ?_
 refine LM.rd (om_ld Tryz.isAgg3 rfl rfl) ?_
 refine LM.val (ov_add64 rfl rfl (by omega)) ?_
 refine LM.val (ov_nilCheck rfl) ?_
 refine LM.val (ov_field Tryz.underlying70 rfl Tryz.sizeOf3 rfl (k := 1) rfl rfl) ?_
 refine LM.st Tryz.sizeOf3 rfl rfl rfl au5 rfl (fun hlt => by first | exact rfl | exact absurd hlt (by omega)) ?_
 refine LM.nil (QM.sub (e' := [(0, _), (2, _), (3, _)]) ⟨rfl, rfl, rfl, trivial⟩ (QM.then (wpM.seq (wpM.region ?_))))
 refine LM.mv rfl ?_
 refine LM.cW (oc_call (enters_fn Tryz.func34 (by kernel_rfl) rfl) rfl) (fun w hm hc hg => tfield_spec b (i + 1) e 16 wSlice w hn hx (hl.kp hc hab) hab (SubM.mem au1 w hm)) rfl (fun hlt => by first | exact rfl | exact absurd hlt (by omega)) ?_
 refine LM.val (ov_field Tryz.underlying63 rfl Tryz.sizeOf3 rfl (k := 1) rfl rfl) ?_
 refine LM.st Tryz.sizeOf3 rfl rfl rfl au5 rfl (fun hlt => by first | exact rfl | exact absurd hlt (by omega)) ?_
 refine LM.nil (QM.sub (e' := [(0, _), (2, _), (3, _)]) ⟨rfl, rfl, rfl, trivial⟩ (QM.then (wpM.seq (wpM.region ?_))))
 refine LM.mv rfl ?_
 refine LM.cW (oc_call (enters_fn Tryz.func34 (by kernel_rfl) rfl) rfl) (fun w hm hc hg => tfield_spec b (lkA ws (i + 1) e).1 (lkA ws (i + 1) e).2.1 32 wCrit w hn hx (hl.kp hc hab) hab (SubM.mem au1 w hm)) rfl (fun hlt => by first | exact rfl | exact absurd hlt (by omega)) ?_
 refine LM.val (ov_field Tryz.underlying63 rfl Tryz.sizeOf3 rfl (k := 2) rfl rfl) ?_
 refine LM.st Tryz.sizeOf3 rfl rfl rfl au5 rfl (fun hlt => by first | exact rfl | exact absurd hlt (by omega)) ?_
 refine LM.nil (QM.sub (e' := [(0, _), (2, _), (3, _)]) ⟨rfl, rfl, rfl, trivial⟩ (QM.then ?_))
 refine wpM.seq ?_
 refine wpM.seq (wpM.region ?_)
 refine LM.val (ov_field Tryz.underlying63 rfl Tryz.sizeOf4 rfl (k := 0) rfl rfl) ?_
 refine LM.rd (om_ld Tryz.isAgg4 rfl rfl) ?_
 refine LM.nil (QM.sub (e' := [(0, _), (2, _), (3, _), (21, _)]) ⟨rfl, rfl, rfl, rfl, trivial⟩ (QM.then ?_))
 first | refine wpM.condD rfl (fun h1 => ?_) (fun h1 => ?_) | refine wpM.condB rfl (fun h1 => ?_) (fun h1 => ?_)
 ·
  refine wpM.seq (wpM.region ?_)
  refine LM.mv rfl ?_
  refine LM.cW (oc_call (enters_fn Tryz.func34 (by kernel_rfl) rfl) rfl) (fun w hm hc hg => tfield_spec b (lkB ws (i + 1) e).1 (lkB ws (i + 1) e).2.1 16 wRead w hn hx (hl.kp hc hab) hab (SubM.mem au1 w hm)) rfl (fun hlt => by first | exact rfl | exact absurd hlt (by omega)) ?_
  refine LM.val (ov_field Tryz.underlying63 rfl Tryz.sizeOf3 rfl (k := 3) rfl rfl) ?_
  refine LM.st Tryz.sizeOf3 rfl rfl rfl au5 rfl (fun hlt => by first | exact rfl | exact absurd hlt (by omega)) ?_
  refine LM.nil (QM.sub (e' := [(0, _), (2, _), (3, _)]) ⟨rfl, rfl, rfl, trivial⟩ (QM.then (wpM.region ?_)))
  refine LM.mv rfl ?_
  refine LM.cW (oc_call (enters_fn Tryz.func34 (by kernel_rfl) rfl) rfl) (fun w hm hc hg => tfield_spec b (lkC ws true (i + 1) e).1 (lkC ws true (i + 1) e).2.1 16 wWrite w hn hx (hl.kp hc hab) hab (SubM.mem au1 w hm)) rfl (fun hlt => by first | exact rfl | exact absurd hlt (by omega)) ?_
  refine LM.val (ov_field Tryz.underlying63 rfl Tryz.sizeOf3 rfl (k := 4) rfl rfl) ?_
  refine LM.st Tryz.sizeOf3 rfl rfl rfl au5 rfl (fun hlt => by first | exact rfl | exact absurd hlt (by omega)) ?_
  refine LM.nil (QM.sub (e' := [(0, _), (2, _), (3, _)]) ⟨rfl, rfl, rfl, trivial⟩ (QM.then (wpM.seq (wpM.region ?_))))
  refine LM.mv rfl ?_
  refine LM.cW (oc_call (enters_fn Tryz.func35 (by kernel_rfl) rfl) rfl) (fun w hm hc hg => tend_spec b (lkD ws true (i + 1) e).1 (lkD ws true (i + 1) e).2.1 w hn hx (hl.kp hc hab) hab (SubM.mem au1 w hm)) rfl (fun hlt => by first | exact rfl | exact absurd hlt (by omega)) ?_
  refine LM.nil (QM.sub (e' := [(2, _), (3, _)]) ⟨rfl, rfl, trivial⟩ (QM.then (wpM.seq (wpM.region ?_))))
  refine LM.rd (om_ldW Tryz.isAgg63 Tryz.sizeOf63 rfl rfl) ?_
  refine LM.stW Tryz.sizeOf63 rfl rfl rfl rfl au7 (fun hlt => by first | exact rfl | exact absurd hlt (by omega)) ?_
  refine LM.nil (QM.sub (e' := [(2, _)]) ⟨rfl, trivial⟩ (QM.then ?_))
  refine wpM.ret ?_
  refine QM.leaveCs (ds := ([])) (.inl rfl) [.cell 2 63] Tryz.results84 hd_nil (rc_w rfl Tryz.isAgg63 Tryz.sizeOf63 rfl rc_nil) ?_
  intro w' hm' hc'
  exact ⟨rfl, hc', hm'.at b⟩
 cases h1
set_option maxRecDepth 100000 in
set_option maxHeartbeats 1000000 in
theorem tlockF_spec {ws : List Wrd} (b : Nat) {ad : Option Addr} {n cap : Nat} (i : Nat) (e : Int) (w : World) (hn : n = ws.length) (hx : ws.length ≤ 1000000000) (hl : Sr fW 4 ws (.slice ad n cap) w) (hab : 0 < ws.length → adB ad ≠ b) (hM : Mem w [tB b ad n cap i e]) (hi : i < ws.length) (hsh : isE ws i e 1 wShared = false) : Ret Tryz.prog 84 #[.pointer (some ⟨b, 0, none⟩)] w (WrP b (.agg (fL (lckE ws false (i + 1) e).2.2).toArray) (tO ad n cap (lckE ws false (i + 1) e).1 (lckE ws false (i + 1) e).2.1) w) := by
 refine Ret.enterM (l := [.pointer (some ⟨b, 0, none⟩)]) Tryz.func84 rfl Tryz.ntmps84 rfl ([tB b ad n cap i e]) ((fun x => x = b)) hM ?_
 refine wpM.seq (wpM.region ?_)
 refine LM.alloc Tryz.zeroValue63 rfl (fun b2 hb2 => ?_)
 refine LM.nil (QM.sub (e' := [(0, _), (2, _)]) ⟨rfl, rfl, trivial⟩ (QM.then (wpM.seq (wpM.region ?_))))
 refine LM.mv rfl ?_
 refine LM.callE (oc_call (enters_fn Tryz.func82 (by kernel_rfl) rfl) rfl) (fun w hm hc hg => tis_spec b i e wShared w hn (hl.kp hc hab) (SubM.mem au1 w hm)) ?_
 rw [hsh]
 refine LM.val (ov_build (cs := #[_, _, _, _, _]) rfl (by first | rfl | kernel_rfl)) ?_
 refine LM.alloc Tryz.zeroValue63 rfl (fun b3 hb3 => ?_)
 refine LM.stW Tryz.sizeOf63 rfl rfl rfl rfl au7 (fun hlt => by first | exact rfl | exact absurd hlt (by omega)) ?_
 refine LM.nil (QM.sub (e' := [(0, _), (2, _), (3, _)]) ⟨rfl, rfl, rfl, trivial⟩ (QM.then (wpM.seq (wpM.region ?_))))
 refine LM.mv rfl ?_
 refine LM.val (ov_nilCheck rfl) ?_
 refine LM.val (ov_field Tryz.underlying70 rfl Tryz.sizeOf3 rfl (k := 1) rfl rfl) ?_
 refine LM.rd (om_ld Tryz.isAgg3 rfl rfl) ?_
 refine LM.val (ov_add64 rfl rfl (by omega)) ?_
 refine LM.val (ov_nilCheck rfl) ?_
 refine LM.val (ov_field Tryz.underlying70 rfl Tryz.sizeOf3 rfl (k := 1) rfl rfl) ?_
 refine LM.st Tryz.sizeOf3 rfl rfl rfl au5 rfl (fun hlt => by first | exact rfl | exact absurd hlt (by omega)) ?_
 refine LM.nil (QM.sub (e' := [(0, _), (2, _), (3, _)]) ⟨rfl, rfl, rfl, trivial⟩ (QM.then (wpM.seq (wpM.region ?_))))
 refine LM.mv rfl ?_
 refine LM.cW (oc_call (enters_fn Tryz.func34 (by kernel_rfl) rfl) rfl) (fun w hm hc hg => tfield_spec b (i + 1) e 16 wSlice w hn hx (hl.kp hc hab) hab (SubM.mem au1 w hm)) rfl (fun hlt => by first | exact rfl | exact absurd hlt (by omega)) ?_
 refine LM.val (ov_field Tryz.underlying63 rfl Tryz.sizeOf3 rfl (k := 1) rfl rfl) ?_
 refine LM.st Tryz.sizeOf3 rfl rfl rfl au5 rfl (fun hlt => by first | exact rfl | exact absurd hlt (by omega)) ?_
 refine LM.nil (QM.sub (e' := [(0, _), (2, _), (3, _)]) ⟨rfl, rfl, rfl, trivial⟩ (QM.then (wpM.seq (wpM.region ?_))))
 refine LM.mv rfl ?_
 refine LM.cW (oc_call (enters_fn Tryz.func34 (by kernel_rfl) rfl) rfl) (fun w hm hc hg => tfield_spec b (lkA ws (i + 1) e).1 (lkA ws (i + 1) e).2.1 32 wCrit w hn hx (hl.kp hc hab) hab (SubM.mem au1 w hm)) rfl (fun hlt => by first | exact rfl | exact absurd hlt (by omega)) ?_
 refine LM.val (ov_field Tryz.underlying63 rfl Tryz.sizeOf3 rfl (k := 2) rfl rfl) ?_
 refine LM.st Tryz.sizeOf3 rfl rfl rfl au5 rfl (fun hlt => by first | exact rfl | exact absurd hlt (by omega)) ?_
 refine LM.nil (QM.sub (e' := [(0, _), (2, _), (3, _)]) ⟨rfl, rfl, rfl, trivial⟩ (QM.then ?_))
 refine wpM.seq ?_
 refine wpM.seq (wpM.region ?_)
 refine LM.val (ov_field Tryz.underlying63 rfl Tryz.sizeOf4 rfl (k := 0) rfl rfl) ?_
 refine LM.rd (om_ld Tryz.isAgg4 rfl rfl) ?_
 refine LM.nil (QM.sub (e' := [(0, _), (2, _), (3, _), (21, _)]) ⟨rfl, rfl, rfl, rfl, trivial⟩ (QM.then ?_))
 first | refine wpM.condD rfl (fun h1 => ?_) (fun h1 => ?_) | refine wpM.condB rfl (fun h1 => ?_) (fun h1 => ?_)
 ·
  cases h1
 refine wpM.skip ?_
 refine QM.then (wpM.seq (wpM.region ?_))
 refine LM.mv rfl ?_
 refine LM.cW (oc_call (enters_fn Tryz.func35 (by kernel_rfl) rfl) rfl) (fun w hm hc hg => tend_spec b (lkD ws false (i + 1) e).1 (lkD ws false (i + 1) e).2.1 w hn hx (hl.kp hc hab) hab (SubM.mem au1 w hm)) rfl (fun hlt => by first | exact rfl | exact absurd hlt (by omega)) ?_
 refine LM.nil (QM.sub (e' := [(2, _), (3, _)]) ⟨rfl, rfl, trivial⟩ (QM.then (wpM.seq (wpM.region ?_))))
 refine LM.rd (om_ldW Tryz.isAgg63 Tryz.sizeOf63 rfl rfl) ?_
 refine LM.stW Tryz.sizeOf63 rfl rfl rfl rfl au7 (fun hlt => by first | exact rfl | exact absurd hlt (by omega)) ?_
 refine LM.nil (QM.sub (e' := [(2, _)]) ⟨rfl, trivial⟩ (QM.then ?_))
 refine wpM.ret ?_
 refine QM.leaveCs (ds := ([])) (.inl rfl) [.cell 2 63] Tryz.results84 hd_nil (rc_w rfl Tryz.isAgg63 Tryz.sizeOf63 rfl rc_nil) ?_
 intro w' hm' hc'
 exact ⟨rfl, hc', hm'.at b⟩
theorem tlock_spec {ws : List Wrd} (b : Nat) {ad : Option Addr} {n cap : Nat} (i : Nat) (e : Int) (w : World) (hn : n = ws.length) (hx : ws.length ≤ 1000000000) (hl : Sr fW 4 ws (.slice ad n cap) w) (hab : 0 < ws.length → adB ad ≠ b) (hM : Mem w [tB b ad n cap i e]) (hi : i < ws.length) :
    Ret Tryz.prog 84 #[.pointer (some ⟨b, 0, none⟩)] w (WrP b (.agg (fL (lckE ws (isE ws i e 1 wShared) (i + 1) e).2.2).toArray) (tO ad n cap (lckE ws (isE ws i e 1 wShared) (i + 1) e).1 (lckE ws (isE ws i e 1 wShared) (i + 1) e).2.1) w) := by
  cases hq : isE ws i e 1 wShared
  · exact tlockF_spec b i e w hn hx hl hab hM hi hq
  · exact tlockT_spec b i e w hn hx hl hab hM hi hq
theorem room_t {e m : Int} {n : Nat} (he : e = 0) : ((decide (e = 0) && !decide (m ≤ (n : Int))) = true → (n : Int) < m ∧ (if e = 0 ∧ m ≤ (n : Int) then 6 else e) = e) ∧ ((decide (e = 0) && !decide (m ≤ (n : Int))) = false → m ≤ (n : Int) ∧ (if e = 0 ∧ m ≤ (n : Int) then 6 else e) = 6) := by
  by_cases h : m ≤ (n : Int)
  · rw [decide_eq_true he, decide_eq_true h, if_pos ⟨he, h⟩]; exact ⟨fun q => (by cases q), fun _ => ⟨h, rfl⟩⟩
  · rw [decide_eq_true he, decide_eq_false h, if_neg (fun q => h q.2)]; exact ⟨fun _ => ⟨by omega, rfl⟩, fun q => (by cases q)⟩
theorem gpF_le {ws : List Wrd} : ∀ (f i : Nat) (e : Int) (gs : List Int), i ≤ ws.length → (gpF ws f i e gs).2.1 ≤ ws.length
  | 0, i, e, gs, h => by unfold gpF; split <;> exact h
  | f + 1, i, e, gs, h => by
    unfold gpF; split
    · exact gpF_le f _ _ _ (lin_le h)
    · exact h
theorem lkF_le {ws : List Wrd} : ∀ (f i : Nat) (e : Int) (ls : List CLk), i ≤ ws.length → (lkF ws f i e ls).2.1 ≤ ws.length
  | 0, i, e, ls, h => by unfold lkF; split <;> exact h
  | f + 1, i, e, ls, h => by
    unfold lkF; split
    · rename_i q; exact lkF_le f _ _ _ (lck_le (isL_lt q).1)
    · exact h
set_option maxRecDepth 100000 in
set_option maxHeartbeats 1000000 in
theorem tgroups_spec {ws : List Wrd} (b : Nat) {ad : Option Addr} {n cap : Nat} (i : Nat) (e : Int) (w : World) (hn : n = ws.length) (hx : ws.length ≤ 1000000000) (hl : Sr fW 4 ws (.slice ad n cap) w) (hab : 0 < ws.length → adB ad ≠ b) (hM : Mem w [tB b ad n cap i e]) : Ret Tryz.prog 36 #[.pointer (some ⟨b, 0, none⟩)] w (WrN b (tO ad n cap (gpO ws i e).2.1 (gpO ws i e).2.2) (GpT (gpO ws i e)) w) := by
 refine Ret.enterM (l := [.pointer (some ⟨b, 0, none⟩)]) Tryz.func36 rfl Tryz.ntmps36 rfl ([tB b ad n cap i e]) ((fun x => x = b)) hM ?_
 refine wpM.seq (wpM.region ?_)
 refine LM.as rfl ?_
 refine LM.nil (QM.sub (e' := [(0, _)]) ⟨rfl, trivial⟩ (QM.then (wpM.seq (wpM.region ?_))))
 refine LM.mv rfl ?_
 refine LM.cW (oc_call (enters_fn Tryz.func34 (by kernel_rfl) rfl) rfl) (fun w hm hc hg => tfield_spec b i e 16 wGroup w hn hx (hl.kp hc hab) hab (SubM.mem au1 w hm)) rfl (fun hlt => by first | exact rfl | exact absurd hlt (by omega)) ?_
 refine LM.single Tryz.underlying26 Tryz.sizeOf3 Tryz.zeroValue3 rfl rfl rfl rfl rfl (fun b6 hb6 => ?_)
 refine LM.as rfl ?_
 refine LM.nil (QM.sub (e' := [(0, _), (3, _)]) ⟨rfl, rfl, trivial⟩ (QM.then (wpM.seq (wpM.region ?_))))
 change LM _ _ _ _ _ _ _ _ ((b6, Obj.cells (arr fI [(fldE ws i e wGroup 16).2.2] []) 3 (0, 0)) :: _) _ _ _; have hs6 : Sl fI 3 1 w.heap.size [(fldE ws i e wGroup 16).2.2] (.slice (some ⟨b6, 0, none⟩) 1 1) [(b6, .cells (arr fI [(fldE ws i e wGroup 16).2.2] []) 3 (0, 0))] := .inr ⟨b6, 1, [], hb6, rfl, rfl, Nat.le_refl _, by unfold maxLen; decide, rfl⟩
 refine LM.mv rfl ?_
 refine LM.cW (oc_call (enters_fn Tryz.func35 (by kernel_rfl) rfl) rfl) (fun w hm hc hg => tend_spec b (fldE ws i e wGroup 16).1 (fldE ws i e wGroup 16).2.1 w hn hx (hl.kp hc hab) hab (SubM.mem au1 w hm)) rfl (fun hlt => by first | exact rfl | exact absurd hlt (by omega)) ?_
 refine LM.nil (QM.sub (e' := [(0, _), (3, _)]) ⟨rfl, rfl, trivial⟩ (QM.then ?_))
 refine wpM.seq ?_
 refine wpM.block ?_
 refine wpM.loopK0 (α := Nat × Int × List Int × Option Addr × Nat × Nat × Mem0) (fun ⟨j, x, gs, adg, ng, cg, mg⟩ => [(3, .slice adg ng cg)]) [(0, _)] (fun ⟨j, x, gs, adg, ng, cg, mg⟩ => mg ++ (tB b ad n cap j x :: [])) (fun ⟨j, x, gs, adg, ng, cg, mg⟩ => gpL ws j x gs = gpO ws i e ∧ 1 ≤ gs.length ∧ gs.length ≤ 4 ∧ ng = gs.length ∧ Sl fI 3 1 w.heap.size gs (.slice adg ng cg) mg) (fun ⟨j, x, gs, adg, ng, cg, mg⟩ => 5 - gs.length) (((linE ws i e wGroup 16).1, (linE ws i e wGroup 16).2.1, [(linE ws i e wGroup 16).2.2], some ⟨b6, 0, none⟩, 1, 1, [(b6, .cells (arr fI [(fldE ws i e wGroup 16).2.2] []) 3 (0, 0))])) ⟨au2, rfl, trivial⟩ au1 ⟨rfl, by simp, by simp, rfl, hs6⟩ ?_
 rintro ⟨j, x, gs, adg, ng, cg, mg⟩ ⟨hG, hg1, hg4, hng, hsg⟩
 change wpM _ _ _ _ _ _ _ (mg ++ (tB b ad n cap j x :: [])) _ _ _
 refine wpM.seq ?_
 refine wpM.seq ?_
 refine wpM.joinK (α := Bool × Int) (fun ⟨q, y⟩ => [(16, .bool q)]) [(0, _), (3, _)] (fun ⟨q, y⟩ => mg ++ (tB b ad n cap j y :: [])) (fun ⟨q, y⟩ => (q = true → isE ws j x 1 wGroup = true ∧ ng < 4 ∧ x = y) ∧ (q = false → gpL ws j x gs = (gs, j, y))) ⟨rfl, rfl, trivial⟩ ?_ ?_
 ·
  refine wpM.region ?_
  refine LM.mv rfl ?_
  refine LM.callE (oc_call (enters_fn Tryz.func82 (by kernel_rfl) rfl) rfl) (fun w hm hc hg => tis_spec b j x wGroup w hn (hl.kp hc hab) (SubM.mem au1 w hm)) ?_
  refine LM.mv rfl ?_
  first | refine LM.splitD (t := 11) rfl (fun h1 => ?_) (fun h1 => ?_) | refine LM.splitB (t := 11) rfl (fun h1 => ?_) (fun h1 => ?_)
  ·
   refine LM.sp 11 rfl rfl rfl ?_
   refine LM.mv rfl ?_
   refine LM.sp 11 rfl rfl rfl ?_
   refine LM.mv rfl ?_
   refine LM.sp 11 rfl rfl rfl ?_
   refine LM.val (ov_len Tryz.underlying26 rfl) ?_
   refine LM.sp 11 rfl rfl rfl ?_
   refine LM.cW (oc_call (enters_fn Tryz.func83 (by kernel_rfl) rfl) rfl) (fun w hm hc hg => troom_spec (ws := ws) b j x (ng : Nat) 4 w (SubM.mem au1 w hm)) rfl (fun hlt => by first | exact rfl | exact absurd hlt (by omega)) ?_
   refine LM.val (ov_pickT rfl rfl) ?_
   refine LM.nil (QM.sub (e' := [(0, _), (3, _), (16, _)]) ⟨rfl, rfl, rfl, trivial⟩ ?_)
   refine QM.meetK ((decide (x = 0) && !decide ((4 : Int) ≤ (ng : Nat)), (if x = 0 ∧ (4 : Int) ≤ (ng : Nat) then 6 else x))) ⟨au2, rfl, rfl, trivial⟩ au1 ?_
   · have hr := room_t (m := 4) (n := ng) (isE_lt h1).2; exact ⟨fun q => ⟨h1, by have := (hr.1 q).1; omega, (hr.1 q).2.symm⟩, fun q => by rw [(hr.2 q).2]; exact gpL_full h1 (by have := (hr.2 q).1; omega)⟩
  refine LM.dr 11 rfl rfl rfl ?_
  refine LM.dr 11 rfl rfl rfl ?_
  refine LM.dr 11 rfl rfl rfl ?_
  refine LM.dr 11 rfl rfl rfl ?_
  refine LM.val (ov_pickF rfl rfl) ?_
  refine LM.nil (QM.sub (e' := [(0, _), (3, _), (16, _)]) ⟨rfl, rfl, rfl, trivial⟩ ?_)
  refine QM.meetK ((false, x)) ⟨au2, rfl, rfl, trivial⟩ au1 ?_
  · exact ⟨fun q => (by cases q), fun _ => gpL_stop h1⟩
 rintro ⟨q, y⟩ ⟨hq1, hq2⟩
 change QM _ _ _ _ _ (mg ++ (tB b ad n cap j y :: [])) _ _ _
 refine QM.then ?_
 first | refine wpM.condD rfl (fun h2 => ?_) (fun h2 => ?_) | refine wpM.condB rfl (fun h2 => ?_) (fun h2 => ?_)
 ·
  obtain ⟨hQ, hlt4, rfl⟩ := hq1 h2
  refine wpM.skip ?_
  refine QM.then ?_
  refine wpM.block ?_
  refine wpM.seq (wpM.region ?_)
  refine LM.mv rfl ?_
  refine LM.mv rfl ?_
  refine LM.cW (oc_call (enters_fn Tryz.func34 (by kernel_rfl) rfl) rfl) (fun w hm hc hg => tfield_spec b j x 16 wGroup w hn hx (hl.kp hc hab) hab (SubM.mem au1 w hm)) rfl (fun hlt => by first | exact rfl | exact absurd hlt (by omega)) ?_
  refine LM.single Tryz.underlying26 Tryz.sizeOf3 Tryz.zeroValue3 rfl rfl rfl rfl rfl (fun b20 hb20 => ?_)
  refine LM.app (a := (fldE ws j x wGroup 16).2.2) Tryz.underlying26 Tryz.typeInfo3 rfl rfl rfl rfl rfl rfl rfl (by assumption) (by rfl) (by intro _; rfl) (by intro _ u hu; simp [fI] at hu; (repeat (first | (rcases hu with rfl | hu) | subst hu | rfl))) (by first | exact Nat.le_refl _ | omega) au9 (by first | omega | (unfold maxLen; omega)) (by simp only [Tryz.t3]; omega) (fun ad21 n21 cap21 m21 hn21 hs21 hin21 => ?_)
  refine LM.as rfl ?_
  refine LM.nil (QM.sub (e' := [(0, _), (3, _)]) ⟨rfl, rfl, trivial⟩ (QM.then (wpM.region ?_)))
  refine LM.mv rfl ?_
  refine LM.cW (oc_call (enters_fn Tryz.func35 (by kernel_rfl) rfl) rfl) (fun w hm hc hg => tend_spec b (fldE ws j x wGroup 16).1 (fldE ws j x wGroup 16).2.1 w hn hx (hl.kp hc hab) hab (SubM.mem au1 w hm)) rfl (fun hlt => by first | exact rfl | exact absurd hlt (by omega)) ?_
  refine LM.nil (QM.sub (e' := [(0, _), (3, _)]) ⟨rfl, rfl, trivial⟩ ?_)
  refine QM.block_normal ?_
  refine QM.againK (((linE ws j x wGroup 16).1, (linE ws j x wGroup 16).2.1, gs ++ [(linE ws j x wGroup 16).2.2], ad21, n21, cap21, m21)) ⟨au2, rfl, trivial⟩ au1 (fun _ h => h) ?_ ?_
  · exact ⟨by rw [← gpL_next hQ (by omega)]; exact hG, by simp, by simp; omega, by rw [hn21]; simp, hs21⟩
  · dsimp only; rw [List.length_append, List.length_singleton]; omega
 have hR := hq2 h2
 refine wpM.exit ?_
 refine QM.then_exit ?_
 refine QM.then_exit ?_
 refine QM.block_hit ?_
 refine QM.then (wpM.seq (wpM.region ?_))
 refine LM.mv rfl ?_
 refine LM.as rfl ?_
 refine LM.nil (QM.sub (e' := [(2, _)]) ⟨rfl, trivial⟩ (QM.then ?_))
 refine wpM.ret ?_
 refine QM.leave (.inl rfl) [.tmp 2] Tryz.results36 rfl ?_
 intro w' hm' hc' hg'
 rw [hG] at hR; have h9 := hm'.at b; rw [hR]; exact ⟨hc', h9, mg, ⟨gs, adg, ng, cg, rfl, hng, hsg, fun _ => rfl⟩, hm'.pick mg, fun p hp => Sl.ge hsg p hp⟩
set_option maxRecDepth 100000 in
set_option maxHeartbeats 1000000 in
theorem tlocks_spec {ws : List Wrd} (b : Nat) {ad : Option Addr} {n cap : Nat} (i : Nat) (e : Int) (w : World) (hn : n = ws.length) (hx : ws.length ≤ 1000000000) (hl : Sr fW 4 ws (.slice ad n cap) w) (hab : 0 < ws.length → adB ad ≠ b) (hM : Mem w [tB b ad n cap i e]) : Ret Tryz.prog 37 #[.pointer (some ⟨b, 0, none⟩)] w (WrN b (tO ad n cap (lkL ws i e []).2.1 (lkL ws i e []).2.2) (LkT (lkL ws i e [])) w) := by
 refine Ret.enterM (l := [.pointer (some ⟨b, 0, none⟩)]) Tryz.func37 rfl Tryz.ntmps37 rfl ([tB b ad n cap i e]) ((fun x => x = b)) hM ?_
 refine wpM.seq (wpM.region ?_)
 refine LM.as rfl ?_
 refine LM.nil (QM.sub (e' := [(0, _)]) ⟨rfl, trivial⟩ (QM.then (wpM.seq (wpM.region ?_))))
 refine LM.as rfl ?_
 refine LM.nil (QM.sub (e' := [(0, _), (3, _)]) ⟨rfl, rfl, trivial⟩ (QM.then ?_))
 refine wpM.seq ?_
 refine wpM.block ?_
 refine wpM.loopK0 (α := Nat × Int × List CLk × Option Addr × Nat × Nat × Mem0) (fun ⟨j, x, ls, adl, nl, cl, ml⟩ => [(3, .slice adl nl cl)]) [(0, _)] (fun ⟨j, x, ls, adl, nl, cl, ml⟩ => ml ++ (tB b ad n cap j x :: [])) (fun ⟨j, x, ls, adl, nl, cl, ml⟩ => lkL ws j x ls = lkL ws i e [] ∧ ls.length ≤ 8 ∧ nl = ls.length ∧ Sl fL 63 5 w.heap.size ls (.slice adl nl cl) ml) (fun ⟨j, x, ls, adl, nl, cl, ml⟩ => 9 - ls.length) ((i, e, [], none, 0, 0, [])) ⟨au2, rfl, trivial⟩ au1 ⟨rfl, by decide, rfl, .nil _ _ _ _⟩ ?_
 rintro ⟨j, x, ls, adl, nl, cl, ml⟩ ⟨hL, hl8, hnl, hsl⟩
 change wpM _ _ _ _ _ _ _ (ml ++ (tB b ad n cap j x :: [])) _ _ _
 refine wpM.seq ?_
 refine wpM.seq ?_
 refine wpM.joinK (α := Bool × Int) (fun ⟨q, y⟩ => [(15, .bool q)]) [(0, _), (3, _)] (fun ⟨q, y⟩ => ml ++ (tB b ad n cap j y :: [])) (fun ⟨q, y⟩ => (q = true → isL ws j x = true ∧ nl < 8 ∧ x = y) ∧ (q = false → lkL ws j x ls = (ls, j, y))) ⟨rfl, rfl, trivial⟩ ?_ ?_
 ·
  refine wpM.region ?_
  refine LM.mv rfl ?_
  refine LM.callE (oc_call (enters_fn Tryz.func82 (by kernel_rfl) rfl) rfl) (fun w hm hc hg => tis_spec b j x wLock w hn (hl.kp hc hab) (SubM.mem au1 w hm)) ?_
  refine LM.mv rfl ?_
  first | refine LM.splitD (t := 6) rfl (fun h1 => ?_) (fun h1 => ?_) | refine LM.splitB (t := 6) rfl (fun h1 => ?_) (fun h1 => ?_)
  ·
   refine LM.dr 6 rfl rfl rfl ?_
   refine LM.dr 6 rfl rfl rfl ?_
   refine LM.val (ov_pickT rfl rfl) ?_
   refine LM.mv rfl ?_
   refine LM.sp 10 rfl rfl rfl ?_
   refine LM.mv rfl ?_
   refine LM.sp 10 rfl rfl rfl ?_
   refine LM.mv rfl ?_
   refine LM.sp 10 rfl rfl rfl ?_
   refine LM.val (ov_len Tryz.underlying27 rfl) ?_
   refine LM.sp 10 rfl rfl rfl ?_
   refine LM.cW (oc_call (enters_fn Tryz.func83 (by kernel_rfl) rfl) rfl) (fun w hm hc hg => troom_spec (ws := ws) b j x (nl : Nat) 8 w (SubM.mem au1 w hm)) rfl (fun hlt => by first | exact rfl | exact absurd hlt (by omega)) ?_
   refine LM.val (ov_pickT rfl rfl) ?_
   refine LM.nil (QM.sub (e' := [(0, _), (3, _), (15, _)]) ⟨rfl, rfl, rfl, trivial⟩ ?_)
   refine QM.meetK ((decide (x = 0) && !decide ((8 : Int) ≤ (nl : Nat)), (if x = 0 ∧ (8 : Int) ≤ (nl : Nat) then 6 else x))) ⟨au2, rfl, rfl, trivial⟩ au1 ?_
   · have hQ : isL ws j x = true := (by unfold isL; rw [h1]; rfl); have hr := room_t (m := 8) (n := nl) (isL_lt hQ).2; exact ⟨fun q => ⟨hQ, by have := (hr.1 q).1; omega, (hr.1 q).2.symm⟩, fun q => by rw [(hr.2 q).2]; exact lkL_full hQ (by have := (hr.2 q).1; omega)⟩
  refine LM.sp 6 rfl rfl rfl ?_
  refine LM.mv rfl ?_
  refine LM.sp 6 rfl rfl rfl ?_
  refine LM.callE (oc_call (enters_fn Tryz.func82 (by kernel_rfl) rfl) rfl) (fun w hm hc hg => tis_spec b j x wShared w hn (hl.kp hc hab) (SubM.mem au1 w hm)) ?_
  refine LM.val (ov_pickF rfl rfl) ?_
  refine LM.mv rfl ?_
  first | refine LM.splitD (t := 10) rfl (fun h2 => ?_) (fun h2 => ?_) | refine LM.splitB (t := 10) rfl (fun h2 => ?_) (fun h2 => ?_)
  ·
   refine LM.sp 10 rfl rfl rfl ?_
   refine LM.mv rfl ?_
   refine LM.sp 10 rfl rfl rfl ?_
   refine LM.mv rfl ?_
   refine LM.sp 10 rfl rfl rfl ?_
   refine LM.val (ov_len Tryz.underlying27 rfl) ?_
   refine LM.sp 10 rfl rfl rfl ?_
   refine LM.cW (oc_call (enters_fn Tryz.func83 (by kernel_rfl) rfl) rfl) (fun w hm hc hg => troom_spec (ws := ws) b j x (nl : Nat) 8 w (SubM.mem au1 w hm)) rfl (fun hlt => by first | exact rfl | exact absurd hlt (by omega)) ?_
   refine LM.val (ov_pickT rfl rfl) ?_
   refine LM.nil (QM.sub (e' := [(0, _), (3, _), (15, _)]) ⟨rfl, rfl, rfl, trivial⟩ ?_)
   refine QM.meetK ((decide (x = 0) && !decide ((8 : Int) ≤ (nl : Nat)), (if x = 0 ∧ (8 : Int) ≤ (nl : Nat) then 6 else x))) ⟨au2, rfl, rfl, trivial⟩ au1 ?_
   · have hQ : isL ws j x = true := (by unfold isL; rw [h1, h2]; rfl); have hr := room_t (m := 8) (n := nl) (isL_lt hQ).2; exact ⟨fun q => ⟨hQ, by have := (hr.1 q).1; omega, (hr.1 q).2.symm⟩, fun q => by rw [(hr.2 q).2]; exact lkL_full hQ (by have := (hr.2 q).1; omega)⟩
  refine LM.dr 10 rfl rfl rfl ?_
  refine LM.dr 10 rfl rfl rfl ?_
  refine LM.dr 10 rfl rfl rfl ?_
  refine LM.dr 10 rfl rfl rfl ?_
  refine LM.val (ov_pickF rfl rfl) ?_
  refine LM.nil (QM.sub (e' := [(0, _), (3, _), (15, _)]) ⟨rfl, rfl, rfl, trivial⟩ ?_)
  refine QM.meetK ((false, x)) ⟨au2, rfl, rfl, trivial⟩ au1 ?_
  · exact ⟨fun q => (by cases q), fun _ => lkL_stop (by unfold isL; rw [h1, h2]; rfl)⟩
 rintro ⟨q, y⟩ ⟨hq1, hq2⟩
 change QM _ _ _ _ _ (ml ++ (tB b ad n cap j y :: [])) _ _ _
 refine QM.then ?_
 first | refine wpM.condD rfl (fun h3 => ?_) (fun h3 => ?_) | refine wpM.condB rfl (fun h3 => ?_) (fun h3 => ?_)
 ·
  obtain ⟨hQ, hlt8, rfl⟩ := hq1 h3
  refine wpM.skip ?_
  refine QM.then ?_
  refine wpM.block ?_
  refine wpM.region ?_
  refine LM.mv rfl ?_
  refine LM.mv rfl ?_
  refine LM.cW (oc_call (enters_fn Tryz.func84 (by kernel_rfl) rfl) rfl) (fun w hm hc hg => tlock_spec b j x w hn hx (hl.kp hc hab) hab (SubM.mem au1 w hm) (isL_lt hQ).1) rfl (fun hlt => by first | exact rfl | exact absurd hlt (by omega)) ?_
  refine LM.single Tryz.underlying27 Tryz.sizeOf63 Tryz.zeroValue63 rfl rfl rfl rfl rfl (fun b19 hb19 => ?_)
  refine LM.app (a := (lckE ws (isE ws j x 1 wShared) (j + 1) x).2.2) Tryz.underlying27 Tryz.typeInfo63 rfl rfl rfl rfl rfl rfl rfl (by assumption) (by rfl) (by intro _; rfl) (by intro _ u hu; simp [fL] at hu; (repeat (first | (rcases hu with rfl | hu) | subst hu | rfl))) (by first | exact Nat.le_refl _ | omega) au9 (by first | omega | (unfold maxLen; omega)) (by simp only [Tryz.t63]; omega) (fun ad20 n20 cap20 m20 hn20 hs20 hin20 => ?_)
  refine LM.as rfl ?_
  refine LM.nil (QM.sub (e' := [(0, _), (3, _)]) ⟨rfl, rfl, trivial⟩ ?_)
  refine QM.block_normal ?_
  refine QM.againK (((lckE ws (isE ws j x 1 wShared) (j + 1) x).1, (lckE ws (isE ws j x 1 wShared) (j + 1) x).2.1, ls ++ [(lckE ws (isE ws j x 1 wShared) (j + 1) x).2.2], ad20, n20, cap20, m20)) ⟨au2, rfl, trivial⟩ au1 (fun _ h => h) ?_ ?_
  · exact ⟨by rw [← lkL_next hQ (by omega)]; exact hL, by simp; omega, by rw [hn20]; simp, hs20⟩
  · dsimp only; rw [List.length_append, List.length_singleton]; omega
 have hR := hq2 h3
 refine wpM.exit ?_
 refine QM.then_exit ?_
 refine QM.then_exit ?_
 refine QM.block_hit ?_
 refine QM.then (wpM.seq (wpM.region ?_))
 refine LM.mv rfl ?_
 refine LM.as rfl ?_
 refine LM.nil (QM.sub (e' := [(2, _)]) ⟨rfl, trivial⟩ (QM.then ?_))
 refine wpM.ret ?_
 refine QM.leave (.inl rfl) [.tmp 2] Tryz.results37 rfl ?_
 intro w' hm' hc' hg'
 rw [hL] at hR; have h9 := hm'.at b; rw [hR]; exact ⟨hc', h9, ml, ⟨adl, nl, cl, rfl, hnl, hsl⟩, hm'.pick ml, fun p hp => Sl.ge hsl p hp⟩
set_option maxRecDepth 100000 in
set_option maxHeartbeats 2000000 in
theorem tprogs_spec {ws : List Wrd} (b : Nat) {ad : Option Addr} {n cap : Nat} (i : Nat) (e : Int) (w : World) (hn : n = ws.length) (hx : ws.length ≤ 1000000000) (hl : Sr fW 4 ws (.slice ad n cap) w) (hab : 0 < ws.length → adB ad ≠ b) (hM : Mem w [tB b ad n cap i e]) (hi0 : i ≤ ws.length) : Ret Tryz.prog 38 #[.pointer (some ⟨b, 0, none⟩)] w (WrN b (tO ad n cap (pgL ws i e [] []).2.2.1 (pgL ws i e [] []).2.2.2) (PgT (pgL ws i e [] [])) w) := by
 refine Ret.enterM (l := [.pointer (some ⟨b, 0, none⟩)]) Tryz.func38 rfl Tryz.ntmps38 rfl ([tB b ad n cap i e]) ((fun x => x = b)) hM ?_
 refine wpM.seq (wpM.region ?_)
 refine LM.as rfl ?_
 refine LM.as rfl ?_
 refine LM.nil (QM.sub (e' := [(0, _)]) ⟨rfl, trivial⟩ (QM.then (wpM.seq (wpM.region ?_))))
 refine LM.as rfl ?_
 refine LM.nil (QM.sub (e' := [(0, _), (4, _)]) ⟨rfl, rfl, trivial⟩ (QM.then (wpM.seq (wpM.region ?_))))
 refine LM.as rfl ?_
 refine LM.nil (QM.sub (e' := [(0, _), (4, _), (5, _)]) ⟨rfl, rfl, rfl, trivial⟩ (QM.then ?_))
 refine wpM.seq ?_
 refine wpM.block ?_
 refine wpM.loopK0 (α := Nat × Int × List PgV × Option Addr × Nat × Nat × Mem0 × List Int × Option Addr × Nat × Nat × Mem0 × Mem0) (fun ⟨j, x, ps, adp, np, cp, mp, pl, adq, nq, cq, mq, mo⟩ => [(4, .slice adp np cp), (5, .slice adq nq cq)]) [(0, _)] (fun ⟨j, x, ps, adp, np, cp, mp, pl, adq, nq, cq, mq, mo⟩ => mo ++ (mp ++ (mq ++ (tB b ad n cap j x :: [])))) (fun ⟨j, x, ps, adp, np, cp, mp, pl, adq, nq, cq, mq, mo⟩ => pgL ws j x (ps.map PgV.c) pl = pgL ws i e [] [] ∧ j ≤ ws.length ∧ ps.length ≤ 8 ∧ np = ps.length ∧ Sl fPg 87 2 w.heap.size ps (.slice adp np cp) mp ∧ pl.length = ps.length ∧ nq = pl.length ∧ Sl fI 3 1 w.heap.size pl (.slice adq nq cq) mq ∧ (∀ w, Mem w mo → PgsIn ps w) ∧ (∀ p ∈ mo, w.heap.size ≤ p.1)) (fun ⟨j, x, ps, adp, np, cp, mp, pl, adq, nq, cq, mq, mo⟩ => 9 - ps.length) ((i, e, [], none, 0, 0, [], [], none, 0, 0, [], [])) ⟨au2, au2, rfl, trivial⟩ au1 ⟨rfl, hi0, by decide, rfl, .nil _ _ _ _, rfl, rfl, .nil _ _ _ _, (fun w _ p hp => by cases hp), (fun p hp => by cases hp)⟩ ?_
 rintro ⟨j, x, ps, adp, np, cp, mp, pl, adq, nq, cq, mq, mo⟩ ⟨hP, hj, hp8, hnp, hsp, hplp, hnq, hsq, hop, hog⟩
 change wpM _ _ _ _ _ _ _ (mo ++ (mp ++ (mq ++ (tB b ad n cap j x :: [])))) _ _ _
 have hpp := par_pos hj; obtain ⟨j9, hj9⟩ : ∃ j' : Nat, (parseO ws (j : Int)).2.2.1 = (j' : Int) := ⟨_, (Int.toNat_of_nonneg hpp.1).symm⟩
 refine wpM.seq ?_
 refine wpM.seq ?_
 refine wpM.joinK (α := Bool × Int) (fun ⟨q, y⟩ => [(28, .bool q)]) [(0, _), (4, _), (5, _)] (fun ⟨q, y⟩ => mo ++ (mp ++ (mq ++ (tB b ad n cap j y :: [])))) (fun ⟨q, y⟩ => (q = true → isP ws j x (ps.map PgV.c) = true ∧ np < 8 ∧ x = y) ∧ (q = false → pgL ws j x (ps.map PgV.c) pl = (ps.map PgV.c, pl, j, y))) ⟨rfl, rfl, rfl, trivial⟩ ?_ ?_
 ·
  refine wpM.region ?_
  refine LM.mv rfl ?_
  refine LM.val (ov_nilCheck rfl) ?_
  refine LM.val (ov_field Tryz.underlying70 rfl Tryz.sizeOf31 rfl (k := 2) rfl rfl) ?_
  refine LM.rd (om_ld Tryz.isAgg31 rfl rfl) ?_
  refine LM.val (ov_eql rfl rfl) ?_
  refine LM.mv rfl ?_
  refine LM.splitD (t := 14) rfl (fun h1 => ?_) (fun h1 => ?_)
  ·
   refine LM.sp 14 rfl rfl rfl ?_
   refine LM.mv rfl ?_
   refine LM.sp 14 rfl rfl rfl ?_
   refine LM.val (ov_len Tryz.underlying28 rfl) ?_
   refine LM.sp 14 rfl rfl rfl ?_
   refine LM.val (ov_eql rfl rfl) ?_
   refine LM.sp 14 rfl rfl rfl ?_
   refine LM.mv rfl ?_
   refine LM.splitD (t := 18) rfl (fun h2 => ?_) (fun h2 => ?_)
   ·
    refine LM.dr 18 rfl rfl rfl ?_
    refine LM.dr 18 rfl rfl rfl ?_
    refine LM.sp 14 rfl rfl rfl ?_
    refine LM.val (ov_pickT rfl rfl) ?_
    refine LM.val (ov_pickT rfl rfl) ?_
    refine LM.mv rfl ?_
    refine LM.sp 23 rfl rfl rfl ?_
    refine LM.mv rfl ?_
    refine LM.sp 23 rfl rfl rfl ?_
    refine LM.mv rfl ?_
    refine LM.sp 23 rfl rfl rfl ?_
    refine LM.val (ov_len Tryz.underlying28 rfl) ?_
    refine LM.sp 23 rfl rfl rfl ?_
    refine LM.cW (oc_call (enters_fn Tryz.func83 (by kernel_rfl) rfl) rfl) (fun w hm hc hg => troom_spec (ws := ws) b j x (np : Nat) 8 w (SubM.mem au1 w hm)) rfl (fun hlt => by first | exact rfl | exact absurd hlt (by omega)) ?_
    refine LM.val (ov_pickT rfl rfl) ?_
    refine LM.nil (QM.sub (e' := [(0, _), (4, _), (5, _), (28, _)]) ⟨rfl, rfl, rfl, rfl, trivial⟩ ?_)
    refine QM.meetK ((decide (x = 0) && !decide ((8 : Int) ≤ (np : Nat)), (if x = 0 ∧ (8 : Int) ≤ (np : Nat) then 6 else x))) ⟨au2, rfl, rfl, rfl, trivial⟩ au1 ?_
    · have hQ : isP ws j x (ps.map PgV.c) = true := (by unfold isP; rw [decide_eq_true h1, List.length_map, decide_eq_true (show ps.length = 0 by omega)]; rfl); have hr := room_t (m := 8) (n := np) (isP_zero hQ); exact ⟨fun q => ⟨hQ, by have := (hr.1 q).1; omega, (hr.1 q).2.symm⟩, fun q => by rw [(hr.2 q).2]; exact pgL_full hQ (by have := (hr.2 q).1; rw [List.length_map]; omega)⟩
   refine LM.sp 18 rfl rfl rfl ?_
   refine LM.mv rfl ?_
   refine LM.sp 18 rfl rfl rfl ?_
   refine LM.callE (oc_call (enters_fn Tryz.func82 (by kernel_rfl) rfl) rfl) (fun w hm hc hg => tis_spec b j x wProg w hn (hl.kp hc hab) (SubM.mem au1 w hm)) ?_
   refine LM.sp 14 rfl rfl rfl ?_
   refine LM.val (ov_pickF rfl rfl) ?_
   refine LM.val (ov_pickT rfl rfl) ?_
   refine LM.mv rfl ?_
   first | refine LM.splitD (t := 23) rfl (fun h3 => ?_) (fun h3 => ?_) | refine LM.splitB (t := 23) rfl (fun h3 => ?_) (fun h3 => ?_)
   ·
    refine LM.sp 23 rfl rfl rfl ?_
    refine LM.mv rfl ?_
    refine LM.sp 23 rfl rfl rfl ?_
    refine LM.mv rfl ?_
    refine LM.sp 23 rfl rfl rfl ?_
    refine LM.val (ov_len Tryz.underlying28 rfl) ?_
    refine LM.sp 23 rfl rfl rfl ?_
    refine LM.cW (oc_call (enters_fn Tryz.func83 (by kernel_rfl) rfl) rfl) (fun w hm hc hg => troom_spec (ws := ws) b j x (np : Nat) 8 w (SubM.mem au1 w hm)) rfl (fun hlt => by first | exact rfl | exact absurd hlt (by omega)) ?_
    refine LM.val (ov_pickT rfl rfl) ?_
    refine LM.nil (QM.sub (e' := [(0, _), (4, _), (5, _), (28, _)]) ⟨rfl, rfl, rfl, rfl, trivial⟩ ?_)
    refine QM.meetK ((decide (x = 0) && !decide ((8 : Int) ≤ (np : Nat)), (if x = 0 ∧ (8 : Int) ≤ (np : Nat) then 6 else x))) ⟨au2, rfl, rfl, rfl, trivial⟩ au1 ?_
    · have hQ : isP ws j x (ps.map PgV.c) = true := (by unfold isP; rw [decide_eq_true h1, h3]; simp); have hr := room_t (m := 8) (n := np) (isP_zero hQ); exact ⟨fun q => ⟨hQ, by have := (hr.1 q).1; omega, (hr.1 q).2.symm⟩, fun q => by rw [(hr.2 q).2]; exact pgL_full hQ (by have := (hr.2 q).1; rw [List.length_map]; omega)⟩
   refine LM.dr 23 rfl rfl rfl ?_
   refine LM.dr 23 rfl rfl rfl ?_
   refine LM.dr 23 rfl rfl rfl ?_
   refine LM.dr 23 rfl rfl rfl ?_
   refine LM.val (ov_pickF rfl rfl) ?_
   refine LM.nil (QM.sub (e' := [(0, _), (4, _), (5, _), (28, _)]) ⟨rfl, rfl, rfl, rfl, trivial⟩ ?_)
   refine QM.meetK ((false, x)) ⟨au2, rfl, rfl, rfl, trivial⟩ au1 ?_
   · exact ⟨fun q => (by cases q), fun _ => pgL_stop (by unfold isP; rw [List.length_map, decide_eq_false (show ¬ ps.length = 0 by omega), h3]; simp)⟩
  refine LM.dr 14 rfl rfl rfl ?_
  refine LM.dr 14 rfl rfl rfl ?_
  refine LM.dr 14 rfl rfl rfl ?_
  refine LM.dropU (t := 14) rfl rfl rfl ?_
  refine LM.dropX (t := 18) rfl rfl ?_
  refine LM.dropX (t := 18) rfl rfl ?_
  refine LM.dr 14 rfl rfl rfl ?_
  refine LM.val (ov_pickF rfl rfl) ?_
  refine LM.mv rfl ?_
  refine LM.dr 23 rfl rfl rfl ?_
  refine LM.dr 23 rfl rfl rfl ?_
  refine LM.dr 23 rfl rfl rfl ?_
  refine LM.dr 23 rfl rfl rfl ?_
  refine LM.val (ov_pickF rfl rfl) ?_
  refine LM.nil (QM.sub (e' := [(0, _), (4, _), (5, _), (28, _)]) ⟨rfl, rfl, rfl, rfl, trivial⟩ ?_)
  refine QM.meetK ((false, x)) ⟨au2, rfl, rfl, rfl, trivial⟩ au1 ?_
  · exact ⟨fun q => (by cases q), fun _ => pgL_stop (by unfold isP; rw [decide_eq_false h1]; rfl)⟩
 rintro ⟨q, y⟩ ⟨hq1, hq2⟩
 change QM _ _ _ _ _ (mo ++ (mp ++ (mq ++ (tB b ad n cap j y :: [])))) _ _ _
 refine QM.then ?_
 first | refine wpM.condD rfl (fun h4 => ?_) (fun h4 => ?_) | refine wpM.condB rfl (fun h4 => ?_) (fun h4 => ?_)
 ·
  obtain ⟨hQ, hlt8, rfl⟩ := hq1 h4
  refine wpM.skip ?_
  refine QM.then ?_
  refine wpM.block ?_
  refine wpM.seq ?_
  refine wpM.joinK (α := Nat × Option Addr × Nat × Nat × Mem0) (fun ⟨c6, ad38, n38, cap38, m38⟩ => [(6, .pointer (some ⟨c6, 0, none⟩)), (7, .int .i64 (j9 : Nat)), (8, .int .i64 (parseO ws (j : Int)).2.2.2)]) [(0, _), (4, _), (5, _)] (fun ⟨c6, ad38, n38, cap38, m38⟩ => m38 ++ ((c6, .cells #[.bool (parseO ws (j : Int)).1, .slice ad38 n38 cap38] 87 (0, 0)) :: (mo ++ (mp ++ (mq ++ (tB b ad n cap j x :: [])))))) (fun ⟨c6, ad38, n38, cap38, m38⟩ => n38 = (parseO ws (j : Int)).2.1.length ∧ Sl fO 135 3 w.heap.size (parseO ws (j : Int)).2.1 (.slice ad38 n38 cap38) m38 ∧ (∀ p ∈ m38, w.heap.size ≤ p.1)) ⟨rfl, rfl, rfl, trivial⟩ ?_ ?_
  ·
   refine wpM.keep ((b, _) :: []) (fun _ => True) (.one 0 0 (.one 1 0 (.one 2 0 (.one 3 1 (.one 4 0 (.one 5 0 (.one 6 0 (.one 7 1 (.fork 8 (.one 9 0 (.one 10 0 (.one 11 0 (.one 12 0 (.one 13 2 (.one 14 2 (.one 15 0 (.one 16 0 .nil)))))))) 13 (.one 8 2 (.one 9 0 (.one 10 0 (.one 11 0 (.one 12 0 (.one 14 2 (.one 15 0 (.one 16 0 .nil))))))))))))))))) (by kernel_rfl) (by kernel_rfl) au1 (fun _ _ => trivial) ?_
   refine KD.val rfl rfl (ov_move rfl) ?_
   refine KD.val rfl rfl (ov_nilCheck rfl) ?_
   refine KD.val rfl rfl (ov_field Tryz.underlying70 rfl Tryz.sizeOf23 rfl (k := 0) rfl rfl) ?_
   refine KD.rd rfl rfl (om_ld Tryz.isAgg23 rfl rfl) ?_
   refine KD.val rfl rfl (ov_move rfl) ?_
   refine KD.val rfl rfl (ov_nilCheck rfl) ?_
   refine KD.val rfl rfl (ov_field Tryz.underlying70 rfl Tryz.sizeOf3 rfl (k := 1) rfl rfl) ?_
   refine KD.rd rfl rfl (om_ld Tryz.isAgg3 rfl rfl) ?_
   refine KD.fork rfl rfl ?_ ?_
   ·
    refine LM.callT (oc_call (enters_fn Tryz.func85 (by kernel_rfl) rfl) rfl) ParT.mono (fun w hm hc hg => parse_spec (j : Nat) w hn hx (hl.kp hc hab)) ?_
    rintro u38 m38 ⟨ad38, n38, cap38, rfl, hn38, hs38⟩ hge38; rw [hj9]
    refine LM.nil ?_
    refine QM.one au1 (fun _ _ => trivial) ?_
    refine KD.val rfl rfl (ov_move rfl) ?_
    refine KD.val rfl rfl (ov_extract rfl rfl) ?_
    refine KD.val rfl rfl (ov_extract rfl rfl) ?_
    refine KD.val rfl rfl (ov_extract rfl rfl) ?_
    refine KD.one rfl ?_
    refine LM.alloc Tryz.zeroValue87 rfl (fun b6 hb6 => ?_)
    refine LM.nil ?_
    refine QM.one au1 (fun _ _ => trivial) ?_
    refine KD.one rfl ?_
    refine LM.stW Tryz.sizeOf87 rfl rfl rfl rfl au7 (fun hlt => by first | exact rfl | exact absurd hlt (by omega)) ?_
    refine LM.nil ?_
    refine QM.one au1 (fun _ _ => trivial) ?_
    refine KD.val rfl rfl (ov_assign rfl) ?_
    refine KD.val rfl rfl (ov_assign rfl) ?_
    refine KD.nil ?_
    refine QM.sub (e' := [(0, _), (4, _), (5, _), (6, _), (7, _), (8, _)]) ⟨rfl, rfl, rfl, rfl, rfl, rfl, trivial⟩ ?_
    refine QM.meetK ((b6, ad38, n38, cap38, m38)) ⟨au2, au2, au2, rfl, rfl, rfl, trivial⟩ au1 ?_
    · exact ⟨hn38, hs38, hge38⟩
   refine LM.alloc Tryz.zeroValue87 rfl (fun b6 hb6 => ?_)
   refine LM.nil ?_
   refine QM.one au1 (fun _ _ => trivial) ?_
   refine KD.one rfl ?_
   refine LM.callT (oc_call (enters_fn Tryz.func85 (by kernel_rfl) rfl) rfl) ParT.mono (fun w hm hc hg => parse_spec (j : Nat) w hn hx (hl.kp hc hab)) ?_
   rintro u38 m38 ⟨ad38, n38, cap38, rfl, hn38, hs38⟩ hge38; rw [hj9]
   refine LM.nil ?_
   refine QM.one au1 (fun _ _ => trivial) ?_
   refine KD.val rfl rfl (ov_move rfl) ?_
   refine KD.val rfl rfl (ov_extract rfl rfl) ?_
   refine KD.val rfl rfl (ov_extract rfl rfl) ?_
   refine KD.val rfl rfl (ov_extract rfl rfl) ?_
   refine KD.one rfl ?_
   refine LM.stW Tryz.sizeOf87 rfl rfl rfl rfl au7 (fun hlt => by first | exact rfl | exact absurd hlt (by omega)) ?_
   refine LM.nil ?_
   refine QM.one au1 (fun _ _ => trivial) ?_
   refine KD.val rfl rfl (ov_assign rfl) ?_
   refine KD.val rfl rfl (ov_assign rfl) ?_
   refine KD.nil ?_
   refine QM.sub (e' := [(0, _), (4, _), (5, _), (6, _), (7, _), (8, _)]) ⟨rfl, rfl, rfl, rfl, rfl, rfl, trivial⟩ ?_
   refine QM.meetK ((b6, ad38, n38, cap38, m38)) ⟨au2, au2, au2, rfl, rfl, rfl, trivial⟩ au1 ?_
   · exact ⟨hn38, hs38, hge38⟩
  rintro ⟨c6, ad38, n38, cap38, m38⟩ ⟨hn38, hs38, hge38⟩
  change QM _ _ _ _ _ (m38 ++ ((c6, .cells #[.bool (parseO ws (j : Int)).1, .slice ad38 n38 cap38] 87 (0, 0)) :: (mo ++ (mp ++ (mq ++ (tB b ad n cap j x :: [])))))) _ _ _
  refine QM.then ?_
  refine wpM.seq ?_
  refine wpM.joinK (α := Option Addr × Nat × Nat × Mem0 × Option Addr × Nat × Nat × Mem0) (fun ⟨ad45, n45, cap45, m45, ad52, n52, cap52, m52⟩ => [(4, .slice ad45 n45 cap45), (5, .slice ad52 n52 cap52)]) [(0, _), (7, _), (8, _)] (fun ⟨ad45, n45, cap45, m45, ad52, n52, cap52, m52⟩ => m38 ++ (mo ++ (m45 ++ (m52 ++ (tB b ad n cap j x :: []))))) (fun ⟨ad45, n45, cap45, m45, ad52, n52, cap52, m52⟩ => n45 = ps.length + 1 ∧ Sl fPg 87 2 w.heap.size (ps ++ [(⟨prC (parseO ws (j : Int)), ad38, n38, cap38⟩ : PgV)]) (.slice ad45 n45 cap45) m45 ∧ n52 = pl.length + 1 ∧ Sl fI 3 1 w.heap.size (pl ++ [(j : Int)]) (.slice ad52 n52 cap52) m52) ⟨rfl, rfl, rfl, trivial⟩ ?_ ?_
  ·
   refine wpM.keep ((c6, _) :: (b, _) :: []) (fun _ => True) (.one 0 0 (.one 1 1 (.one 4 0 (.one 5 0 (.one 6 0 (.one 7 0 (.one 8 1 (.fork 2 (.fork 3 (.one 9 2 (.one 10 2 (.one 11 0 (.one 12 0 .nil)))) 9 (.one 3 2 (.one 10 2 (.one 11 0 (.one 12 0 .nil))))) 9 (.one 2 2 (.one 3 2 (.one 10 2 (.one 11 0 (.one 12 0 .nil))))))))))))) (by kernel_rfl) (by kernel_rfl) au1 (fun _ _ => trivial) ?_
   refine KD.val rfl rfl (ov_move rfl) ?_
   refine KD.rd rfl rfl (om_ldW Tryz.isAgg87 Tryz.sizeOf87 rfl rfl) ?_
   refine KD.val rfl rfl (ov_move rfl) ?_
   refine KD.val rfl rfl (ov_move rfl) ?_
   refine KD.val rfl rfl (ov_nilCheck rfl) ?_
   refine KD.val rfl rfl (ov_field Tryz.underlying70 rfl Tryz.sizeOf3 rfl (k := 1) rfl rfl) ?_
   refine KD.rd rfl rfl (om_ld Tryz.isAgg3 rfl rfl) ?_
   refine KD.fork rfl rfl ?_ ?_
   ·
    refine LM.single Tryz.underlying28 Tryz.sizeOf87 Tryz.zeroValue87 rfl rfl rfl rfl rfl (fun b44 hb44 => ?_)
    refine LM.nil ?_
    refine QM.one au1 (fun _ _ => trivial) ?_
    refine KD.fork rfl rfl ?_ ?_
    ·
     refine LM.app (a := (⟨prC (parseO ws (j : Int)), ad38, n38, cap38⟩ : PgV)) Tryz.underlying28 Tryz.typeInfo87 rfl rfl rfl rfl rfl rfl rfl (by assumption) (by rfl) (by intro _; rfl) (by intro _ u hu; simp [fPg] at hu; (repeat (first | (rcases hu with rfl | hu) | subst hu | rfl))) (by first | exact Nat.le_refl _ | omega) au9 (by first | omega | (unfold maxLen; omega)) (by simp only [Tryz.t87]; omega) (fun ad45 n45 cap45 m45 hn45 hs45 hin45 => ?_)
     refine LM.nil ?_
     refine QM.one au1 (fun _ _ => trivial) ?_
     refine KD.one rfl ?_
     refine LM.single Tryz.underlying26 Tryz.sizeOf3 Tryz.zeroValue3 rfl rfl rfl rfl rfl (fun b51 hb51 => ?_)
     refine LM.nil ?_
     refine QM.one au1 (fun _ _ => trivial) ?_
     refine KD.one rfl ?_
     refine LM.app (a := (j : Int)) Tryz.underlying26 Tryz.typeInfo3 rfl rfl rfl rfl rfl rfl rfl (by assumption) (by rfl) (by intro _; rfl) (by intro _ u hu; simp [fI] at hu; (repeat (first | (rcases hu with rfl | hu) | subst hu | rfl))) (by first | exact Nat.le_refl _ | omega) au9 (by first | omega | (unfold maxLen; omega)) (by simp only [Tryz.t3]; omega) (fun ad52 n52 cap52 m52 hn52 hs52 hin52 => ?_)
     refine LM.nil ?_
     refine QM.one au1 (fun _ _ => trivial) ?_
     refine KD.val rfl rfl (ov_assign rfl) ?_
     refine KD.val rfl rfl (ov_assign rfl) ?_
     refine KD.nil ?_
     refine QM.sub (e' := [(0, _), (4, _), (5, _), (7, _), (8, _)]) ⟨rfl, rfl, rfl, rfl, rfl, trivial⟩ ?_
     refine QM.meetK ((ad45, n45, cap45, m45, ad52, n52, cap52, m52)) ⟨au2, au2, rfl, rfl, rfl, trivial⟩ au1 ?_
     · exact ⟨hn45, hs45, hn52, hs52⟩
    refine LM.single Tryz.underlying26 Tryz.sizeOf3 Tryz.zeroValue3 rfl rfl rfl rfl rfl (fun b51 hb51 => ?_)
    refine LM.nil ?_
    refine QM.one au1 (fun _ _ => trivial) ?_
    refine KD.one rfl ?_
    refine LM.app (a := (⟨prC (parseO ws (j : Int)), ad38, n38, cap38⟩ : PgV)) Tryz.underlying28 Tryz.typeInfo87 rfl rfl rfl rfl rfl rfl rfl (by assumption) (by rfl) (by intro _; rfl) (by intro _ u hu; simp [fPg] at hu; (repeat (first | (rcases hu with rfl | hu) | subst hu | rfl))) (by first | exact Nat.le_refl _ | omega) au9 (by first | omega | (unfold maxLen; omega)) (by simp only [Tryz.t87]; omega) (fun ad45 n45 cap45 m45 hn45 hs45 hin45 => ?_)
    refine LM.nil ?_
    refine QM.one au1 (fun _ _ => trivial) ?_
    refine KD.one rfl ?_
    refine LM.app (a := (j : Int)) Tryz.underlying26 Tryz.typeInfo3 rfl rfl rfl rfl rfl rfl rfl (by assumption) (by rfl) (by intro _; rfl) (by intro _ u hu; simp [fI] at hu; (repeat (first | (rcases hu with rfl | hu) | subst hu | rfl))) (by first | exact Nat.le_refl _ | omega) au9 (by first | omega | (unfold maxLen; omega)) (by simp only [Tryz.t3]; omega) (fun ad52 n52 cap52 m52 hn52 hs52 hin52 => ?_)
    refine LM.nil ?_
    refine QM.one au1 (fun _ _ => trivial) ?_
    refine KD.val rfl rfl (ov_assign rfl) ?_
    refine KD.val rfl rfl (ov_assign rfl) ?_
    refine KD.nil ?_
    refine QM.sub (e' := [(0, _), (4, _), (5, _), (7, _), (8, _)]) ⟨rfl, rfl, rfl, rfl, rfl, trivial⟩ ?_
    refine QM.meetK ((ad45, n45, cap45, m45, ad52, n52, cap52, m52)) ⟨au2, au2, rfl, rfl, rfl, trivial⟩ au1 ?_
    · exact ⟨hn45, hs45, hn52, hs52⟩
   refine LM.single Tryz.underlying26 Tryz.sizeOf3 Tryz.zeroValue3 rfl rfl rfl rfl rfl (fun b51 hb51 => ?_)
   refine LM.nil ?_
   refine QM.one au1 (fun _ _ => trivial) ?_
   refine KD.one rfl ?_
   refine LM.single Tryz.underlying28 Tryz.sizeOf87 Tryz.zeroValue87 rfl rfl rfl rfl rfl (fun b44 hb44 => ?_)
   refine LM.nil ?_
   refine QM.one au1 (fun _ _ => trivial) ?_
   refine KD.one rfl ?_
   refine LM.app (a := (⟨prC (parseO ws (j : Int)), ad38, n38, cap38⟩ : PgV)) Tryz.underlying28 Tryz.typeInfo87 rfl rfl rfl rfl rfl rfl rfl (by assumption) (by rfl) (by intro _; rfl) (by intro _ u hu; simp [fPg] at hu; (repeat (first | (rcases hu with rfl | hu) | subst hu | rfl))) (by first | exact Nat.le_refl _ | omega) au9 (by first | omega | (unfold maxLen; omega)) (by simp only [Tryz.t87]; omega) (fun ad45 n45 cap45 m45 hn45 hs45 hin45 => ?_)
   refine LM.nil ?_
   refine QM.one au1 (fun _ _ => trivial) ?_
   refine KD.one rfl ?_
   refine LM.app (a := (j : Int)) Tryz.underlying26 Tryz.typeInfo3 rfl rfl rfl rfl rfl rfl rfl (by assumption) (by rfl) (by intro _; rfl) (by intro _ u hu; simp [fI] at hu; (repeat (first | (rcases hu with rfl | hu) | subst hu | rfl))) (by first | exact Nat.le_refl _ | omega) au9 (by first | omega | (unfold maxLen; omega)) (by simp only [Tryz.t3]; omega) (fun ad52 n52 cap52 m52 hn52 hs52 hin52 => ?_)
   refine LM.nil ?_
   refine QM.one au1 (fun _ _ => trivial) ?_
   refine KD.val rfl rfl (ov_assign rfl) ?_
   refine KD.val rfl rfl (ov_assign rfl) ?_
   refine KD.nil ?_
   refine QM.sub (e' := [(0, _), (4, _), (5, _), (7, _), (8, _)]) ⟨rfl, rfl, rfl, rfl, rfl, trivial⟩ ?_
   refine QM.meetK ((ad45, n45, cap45, m45, ad52, n52, cap52, m52)) ⟨au2, au2, rfl, rfl, rfl, trivial⟩ au1 ?_
   · exact ⟨hn45, hs45, hn52, hs52⟩
  rintro ⟨ad45, n45, cap45, m45, ad52, n52, cap52, m52⟩ ⟨hn45, hs45, hn52, hs52⟩
  change QM _ _ _ _ _ (m38 ++ (mo ++ (m45 ++ (m52 ++ (tB b ad n cap j x :: []))))) _ _ _
  refine QM.then (wpM.region ?_)
  refine LM.mv rfl ?_
  refine LM.mv rfl ?_
  refine LM.mv rfl ?_
  refine LM.mv rfl ?_
  refine LM.val (ov_nilCheck rfl) ?_
  refine LM.val (ov_field Tryz.underlying70 rfl Tryz.sizeOf3 rfl (k := 1) rfl rfl) ?_
  refine LM.st Tryz.sizeOf3 rfl rfl rfl au5 rfl (fun hlt => by first | exact rfl | exact absurd hlt (by omega)) ?_
  refine LM.val (ov_nilCheck rfl) ?_
  refine LM.val (ov_field Tryz.underlying70 rfl Tryz.sizeOf31 rfl (k := 2) rfl rfl) ?_
  refine LM.st Tryz.sizeOf31 rfl rfl rfl au5 rfl (fun hlt => by first | exact rfl | exact absurd hlt (by omega)) ?_
  refine LM.nil (QM.sub (e' := [(0, _), (4, _), (5, _)]) ⟨rfl, rfl, rfl, trivial⟩ ?_)
  refine QM.block_normal ?_
  refine QM.againK ((j9, (parseO ws (j : Int)).2.2.2, ps ++ [(⟨prC (parseO ws (j : Int)), ad38, n38, cap38⟩ : PgV)], ad45, n45, cap45, m45, pl ++ [(j : Int)], ad52, n52, cap52, m52, m38 ++ mo)) ⟨au2, au2, rfl, trivial⟩ au1 (fun _ h => h) ?_ ?_
  · exact ⟨by rw [snoc_map, ← hP, pgL_next hQ (by simp; omega), hj9, Int.toNat_natCast], by have := hpp.2; rw [hj9, Int.toNat_natCast] at this; exact this, by simp; omega, by rw [hn45]; simp, hs45, by simp [hplp], by rw [hn52]; simp, hs52, (fun w hm => snoc_in (hop w (hm.sub (List.sublist_append_right _ _))) ⟨hn38, sr_of_sl hs38 (fun _ => rfl) (hm.sub (List.sublist_append_left _ _))⟩), List.forall_mem_append.2 ⟨hge38, hog⟩⟩
  · dsimp only; rw [List.length_append, List.length_singleton]; omega
 have hR := hq2 h4
 refine wpM.exit ?_
 refine QM.then_exit ?_
 refine QM.then_exit ?_
 refine QM.block_hit ?_
 refine QM.then (wpM.seq (wpM.region ?_))
 refine LM.mv rfl ?_
 refine LM.mv rfl ?_
 refine LM.as rfl ?_
 refine LM.as rfl ?_
 refine LM.nil (QM.sub (e' := [(2, _), (3, _)]) ⟨rfl, rfl, trivial⟩ (QM.then ?_))
 refine wpM.ret ?_
 refine QM.leave (.inl rfl) [.tmp 2, .tmp 3] Tryz.results38 rfl ?_
 intro w' hm' hc' hg'
 rw [hP] at hR; have h9 := hm'.at b; rw [hR]; refine ⟨hc', h9, mo ++ (mp ++ (mq ++ [])), ⟨ps, adp, np, cp, adq, nq, cq, mp, mq, mo, rfl, rfl, hnp, hp8, hnq, hplp, rfl, hsp, hsq, hop, hog⟩, SubM.mem (by (repeat' (first | exact SubM.nil _ | refine SubM.app ?_))) w' hm', ?_⟩; intro p hp; simp only [List.mem_append, List.not_mem_nil, or_false] at hp; rcases hp with hp | hp | hp; exact hog p hp; exact Sl.ge hsp p hp; exact Sl.ge hsq p hp
def sv (ws : List Wrd) (i0 : Nat) (gs : List Int) (adg : Option Addr) (ng cg : Nat) (adl : Option Addr) (nl cl : Nat) (ps : List PgV) (adp : Option Addr) (np cp : Nat) : StV := ⟨(sA ws i0).2.2, (sB2 ws i0).2.2, gs, adg, ng, cg, (sL ws i0).1, adl, nl, cl, ps, adp, np, cp⟩
theorem misfit_at {ws : List Wrd} {i0 : Nat} {gs : List Int} {adg : Option Addr} {ng cg : Nat} {adl : Option Addr} {nl cl : Nat} {ps : List PgV} {adp : Option Addr} {np cp : Nat} (w : World) (hI : (sv ws i0 gs adg ng cg adl nl cl ps adp np cp).In w) (hx : ps.length ≤ 1000000) :
    Ret Tryz.prog 39 #[.agg #[.int .i64 (sA ws i0).2.2, .int .i64 (sB2 ws i0).2.2, .slice adg ng cg, .slice adl nl cl, .slice adp np cp]] w (fun v w' => v = .tuple #[.int .i64 (misI (sL ws i0).1 (ps.map PgV.c)), .int .i64 (misE (sL ws i0).1 (ps.map PgV.c) (misI (sL ws i0).1 (ps.map PgV.c)))] ∧ Ext w w') := misfit_spec (s := sv ws i0 gs adg ng cg adl nl cl ps adp np cp) w hI hx
theorem SetI.mis2 {ws : List Wrd} {i0 : Nat} {gs : List Int} {i1 : Nat} {e1 : Int} {ls : List CLk} {i2 : Nat} {e2 : Int} {ps : List PgC} {pl : List Int} {i3 : Nat} {e3 : Int} (h : SetI ws i0 gs i1 e1 ls i2 e2 ps pl i3 e3) (he : e3 = 0) (hm : 0 ≤ misI ls ps) : stpR ws i0 = (default, pl.getD (misI ls ps).toNat 0, misE ls ps (misI ls ps)) := by
  unfold stpR; rw [h.two.2, h.two.1]; simp only; rw [if_neg (by simp [he]), if_pos hm]
theorem Mem.pickN {m : Mem0} {w : World} (h : Mem w (m ++ [])) : Mem w m := by simpa using h
set_option maxRecDepth 100000 in
set_option maxHeartbeats 4000000 in
theorem setup_spec {ws : List Wrd} {ad : Option Addr} {n cap : Nat} (p : Int) (w : World) (hn : n = ws.length) (hx : ws.length ≤ 1000000000) (hl : Sr fW 4 ws (.slice ad n cap) w) : Ret Tryz.prog 11 #[.slice ad n cap, .int .i64 p] w (fun v w' => Ext w w' ∧ ∃ m, StT (setO ws p) w.heap.size v m ∧ Mem w' m ∧ ∀ p ∈ m, w.heap.size ≤ p.1) := by
 refine Ret.enterM (l := [.slice ad n cap, .int .i64 p]) Tryz.func11 rfl Tryz.ntmps11 rfl ([]) (no) (Mem.nil w) ?_
 refine wpM.seq (wpM.region ?_)
 refine LM.alloc Tryz.zeroValue30 rfl (fun b4 hb4 => ?_)
 refine LM.as rfl ?_
 refine LM.as rfl ?_
 refine LM.nil (QM.sub (e' := [(0, _), (1, _), (4, _)]) ⟨rfl, rfl, rfl, trivial⟩ (QM.then ?_))
 refine wpM.seq ?_
 refine wpM.seq (wpM.region ?_)
 refine LM.mv rfl ?_
 refine LM.val (ov_lss rfl rfl) ?_
 refine LM.mv rfl ?_
 refine LM.splitD (t := 15) rfl (fun h1 => ?_) (fun h1 => ?_)
 ·
  refine LM.dr 15 rfl rfl rfl ?_
  refine LM.dr 15 rfl rfl rfl ?_
  refine LM.dr 15 rfl rfl rfl ?_
  refine LM.dr 15 rfl rfl rfl ?_
  refine LM.val (ov_pickT rfl rfl) ?_
  refine LM.nil (QM.sub (e' := [(0, _), (1, _), (4, _), (20, _)]) ⟨rfl, rfl, rfl, rfl, trivial⟩ (QM.then ?_))
  refine wpM.condT rfl ?_
  refine wpM.seq (wpM.region ?_)
  refine LM.val (ov_build (cs := #[_, _, _, _, _]) rfl (by first | rfl | kernel_rfl)) ?_
  refine LM.stW Tryz.sizeOf30 rfl rfl rfl rfl au7 au8 ?_
  refine LM.as rfl ?_
  refine LM.as rfl ?_
  refine LM.nil (QM.sub (e' := [(4, _), (5, _), (6, _)]) ⟨rfl, rfl, rfl, trivial⟩ (QM.then ?_))
  refine wpM.ret ?_
  refine QM.then_ret ?_
  refine QM.leaveCs (ds := ([])) (.inl rfl) [.cell 4 30, .tmp 5, .tmp 6] Tryz.results11 hd_nil (rc_w rfl Tryz.isAgg30 Tryz.sizeOf30 rfl (rc_tmp rfl (rc_tmp rfl rc_nil))) ?_
  intro w' hm' hc'
  have hpar : setO ws p = (default, 0, 5) := (by unfold setO; rw [if_pos (by omega)]); rw [hpar]; exact ⟨hc', [], StT.none, Mem.nil _, fun p hp => by cases hp⟩
 refine LM.sp 15 rfl rfl rfl ?_
 refine LM.mv rfl ?_
 refine LM.sp 15 rfl rfl rfl ?_
 refine LM.mv rfl ?_
 refine LM.sp 15 rfl rfl rfl ?_
 refine LM.val (ov_len Tryz.underlying23 rfl) ?_
 refine LM.sp 15 rfl rfl rfl ?_
 refine LM.val (ov_gtr rfl rfl) ?_
 refine LM.val (ov_pickF rfl rfl) ?_
 refine LM.nil (QM.sub (e' := [(0, _), (1, _), (4, _), (20, _)]) ⟨rfl, rfl, rfl, rfl, trivial⟩ (QM.then ?_))
 refine wpM.condD rfl (fun h2 => ?_) (fun h2 => ?_)
 ·
  refine wpM.seq (wpM.region ?_)
  refine LM.val (ov_build (cs := #[_, _, _, _, _]) rfl (by first | rfl | kernel_rfl)) ?_
  refine LM.stW Tryz.sizeOf30 rfl rfl rfl rfl au7 au8 ?_
  refine LM.as rfl ?_
  refine LM.as rfl ?_
  refine LM.nil (QM.sub (e' := [(4, _), (5, _), (6, _)]) ⟨rfl, rfl, rfl, trivial⟩ (QM.then ?_))
  refine wpM.ret ?_
  refine QM.then_ret ?_
  refine QM.leaveCs (ds := ([])) (.inl rfl) [.cell 4 30, .tmp 5, .tmp 6] Tryz.results11 hd_nil (rc_w rfl Tryz.isAgg30 Tryz.sizeOf30 rfl (rc_tmp rfl (rc_tmp rfl rc_nil))) ?_
  intro w' hm' hc'
  have hpar : setO ws p = (default, 0, 5) := (by unfold setO; rw [if_pos (by omega)]); rw [hpar]; exact ⟨hc', [], StT.none, Mem.nil _, fun p hp => by cases hp⟩
 obtain ⟨i0, rfl⟩ : ∃ i0 : Nat, p = (i0 : Nat) := ⟨p.toNat, by omega⟩; have hi0 : i0 ≤ ws.length := (by omega); have hle : (sL ws i0).2.1 ≤ ws.length := lkF_le _ _ _ _ (gpF_le _ _ _ _ (lin_le (lin_le (lin_le hi0))))
 refine wpM.skip ?_
 refine QM.then (wpM.seq (wpM.region ?_))
 refine LM.mv rfl ?_
 refine LM.mv rfl ?_
 refine LM.val (ov_build (cs := #[_, _, _]) rfl (by first | rfl | kernel_rfl)) ?_
 refine LM.box rfl rfl (fun b25 hb25 => ?_)
 refine LM.as rfl ?_
 refine LM.nil (QM.sub (e' := [(4, _), (7, _)]) ⟨rfl, rfl, trivial⟩ (QM.then (wpM.seq (wpM.region ?_))))
 refine LM.alloc Tryz.zeroValue30 rfl (fun b8 hb8 => ?_)
 refine LM.nil (QM.sub (e' := [(4, _), (7, _), (8, _)]) ⟨rfl, rfl, rfl, trivial⟩ (QM.then (wpM.seq (wpM.region ?_))))
 have hab25 : 0 < ws.length → adB ad ≠ b25 := (fun h0 => by have := hl.adlt h0; omega)
 refine LM.mv rfl ?_
 refine LM.cW (oc_call (enters_fn Tryz.func34 (by kernel_rfl) rfl) rfl) (fun w hm hc hg => tfield_spec b25 i0 0 4 wCores w hn hx (hl.ext hc) hab25 (SubM.mem au1 w hm)) rfl au8 ?_
 refine LM.val (ov_field Tryz.underlying30 rfl Tryz.sizeOf3 rfl (k := 0) rfl rfl) ?_
 refine LM.st Tryz.sizeOf3 rfl rfl rfl au5 rfl au8 ?_
 refine LM.nil (QM.sub (e' := [(4, _), (7, _), (8, _)]) ⟨rfl, rfl, rfl, trivial⟩ (QM.then (wpM.seq (wpM.region ?_))))
 refine LM.mv rfl ?_
 refine LM.cW (oc_call (enters_fn Tryz.func35 (by kernel_rfl) rfl) rfl) (fun w hm hc hg => tend_spec b25 (fldE ws i0 0 wCores 4).1 (fldE ws i0 0 wCores 4).2.1 w hn hx (hl.ext hc) hab25 (SubM.mem au1 w hm)) rfl au8 ?_
 refine LM.nil (QM.sub (e' := [(4, _), (7, _), (8, _)]) ⟨rfl, rfl, rfl, trivial⟩ (QM.then (wpM.seq (wpM.region ?_))))
 refine LM.mv rfl ?_
 refine LM.cW (oc_call (enters_fn Tryz.func34 (by kernel_rfl) rfl) rfl) (fun w hm hc hg => tfield_spec b25 (sA ws i0).1 (sA ws i0).2.1 8 wGrain w hn hx (hl.ext hc) hab25 (SubM.mem au1 w hm)) rfl au8 ?_
 refine LM.val (ov_field Tryz.underlying30 rfl Tryz.sizeOf3 rfl (k := 1) rfl rfl) ?_
 refine LM.st Tryz.sizeOf3 rfl rfl rfl au5 rfl au8 ?_
 refine LM.nil (QM.sub (e' := [(4, _), (7, _), (8, _)]) ⟨rfl, rfl, rfl, trivial⟩ (QM.then (wpM.seq (wpM.region ?_))))
 refine LM.mv rfl ?_
 refine LM.cW (oc_call (enters_fn Tryz.func35 (by kernel_rfl) rfl) rfl) (fun w hm hc hg => tend_spec b25 (fldE ws (sA ws i0).1 (sA ws i0).2.1 wGrain 8).1 (fldE ws (sA ws i0).1 (sA ws i0).2.1 wGrain 8).2.1 w hn hx (hl.ext hc) hab25 (SubM.mem au1 w hm)) rfl au8 ?_
 refine LM.nil (QM.sub (e' := [(4, _), (7, _), (8, _)]) ⟨rfl, rfl, rfl, trivial⟩ (QM.then (wpM.seq (wpM.region ?_))))
 refine LM.mv rfl ?_
 refine LM.cWN (oc_call (enters_fn Tryz.func36 (by kernel_rfl) rfl) rfl) GpT.mono (fun w hm hc hg => tgroups_spec b25 (sB2 ws i0).1 (sB2 ws i0).2.1 w hn hx (hl.ext hc) hab25 (SubM.mem au1 w hm)) rfl au8 ?_
 rintro u37 m37 ⟨gs, adg, ng, cg, rfl, hng, hsg, hgs⟩ -
 refine LM.val (ov_field Tryz.underlying30 rfl Tryz.sizeOf26 rfl (k := 2) rfl rfl) ?_
 refine LM.st Tryz.sizeOf26 rfl rfl rfl au5 rfl au8 ?_
 refine LM.nil (QM.sub (e' := [(4, _), (7, _), (8, _)]) ⟨rfl, rfl, rfl, trivial⟩ (QM.then (wpM.seq (wpM.region ?_))))
 refine LM.mv rfl ?_
 refine LM.cWN (oc_call (enters_fn Tryz.func37 (by kernel_rfl) rfl) rfl) LkT.mono (fun w hm hc hg => tlocks_spec b25 (sG ws i0).2.1 (sG ws i0).2.2 w hn hx (hl.ext hc) hab25 (SubM.mem au1 w hm)) rfl au8 ?_
 rintro u40 m40 ⟨adl, nl, cl, rfl, hnl, hsl⟩ -
 refine LM.val (ov_field Tryz.underlying30 rfl Tryz.sizeOf27 rfl (k := 3) rfl rfl) ?_
 refine LM.st Tryz.sizeOf27 rfl rfl rfl au5 rfl au8 ?_
 refine LM.nil (QM.sub (e' := [(4, _), (7, _), (8, _)]) ⟨rfl, rfl, rfl, trivial⟩ (QM.then (wpM.seq (wpM.region ?_))))
 refine LM.mv rfl ?_
 refine LM.cWN (oc_call (enters_fn Tryz.func38 (by kernel_rfl) rfl) rfl) PgT.mono (fun w hm hc hg => tprogs_spec b25 (sL ws i0).2.1 (sL ws i0).2.2 w hn hx (hl.ext hc) hab25 (SubM.mem au1 w hm) hle) rfl au8 ?_
 rintro u44 m44 ⟨ps, adp, np, cp, adq, nq, cq, mp, mq, mo, rfl, hps, hnp, hp8, hnq, hplp, rfl, hsp, hsq, hop, hog⟩ -; have hI : SetI ws i0 gs (sG ws i0).2.1 (sG ws i0).2.2 (sL ws i0).1 (sL ws i0).2.1 (sL ws i0).2.2 (ps.map PgV.c) (sP ws i0).2.1 (sP ws i0).2.2.1 (sP ws i0).2.2.2 := ⟨⟨rfl, fun q => (hgs q).symm⟩, rfl, by rw [hps]; rfl⟩
 refine LM.mv rfl ?_
 refine LM.val (ov_extract rfl rfl) ?_
 refine LM.val (ov_extract rfl rfl) ?_
 refine LM.as rfl ?_
 refine LM.as rfl ?_
 refine LM.nil (QM.sub (e' := [(4, _), (7, _), (8, _), (9, _), (10, _)]) ⟨rfl, rfl, rfl, rfl, rfl, trivial⟩ (QM.then (wpM.seq (wpM.region ?_))))
 refine LM.mv rfl ?_
 refine LM.val (ov_field Tryz.underlying30 rfl Tryz.sizeOf28 rfl (k := 4) rfl rfl) ?_
 refine LM.st Tryz.sizeOf28 rfl rfl rfl au5 rfl au8 ?_
 refine LM.nil (QM.sub (e' := [(4, _), (7, _), (8, _), (10, _)]) ⟨rfl, rfl, rfl, rfl, trivial⟩ (QM.then ?_))
 refine wpM.seq ?_
 refine wpM.seq (wpM.region ?_)
 refine LM.mv rfl ?_
 refine LM.val (ov_nilCheck rfl) ?_
 refine LM.val (ov_field Tryz.underlying70 rfl Tryz.sizeOf31 rfl (k := 2) rfl rfl) ?_
 refine LM.rd (om_ld Tryz.isAgg31 rfl rfl) ?_
 refine LM.val (ov_neq rfl rfl) ?_
 refine LM.nil (QM.sub (e' := [(4, _), (7, _), (8, _), (10, _), (53, _)]) ⟨rfl, rfl, rfl, rfl, rfl, trivial⟩ (QM.then ?_))
 refine wpM.condD rfl (fun h3 => ?_) (fun h3 => ?_)
 ·
  refine wpM.seq ?_
  refine wpM.keep ((b25, _) :: []) (fun _ => True) (.one 0 0 (.one 1 0 (.one 2 0 (.one 3 0 (.one 4 1 (.one 5 0 (.one 6 0 (.one 7 0 (.one 8 1 (.one 9 2 (.one 10 0 (.one 11 0 .nil)))))))))))) (by kernel_rfl) (by kernel_rfl) au1 (fun _ _ => trivial) ?_
  refine KD.val rfl rfl (ov_build (cs := #[_, _, _, _, _]) rfl (by first | rfl | kernel_rfl)) ?_
  refine KD.val rfl rfl (ov_move rfl) ?_
  refine KD.val rfl rfl (ov_nilCheck rfl) ?_
  refine KD.val rfl rfl (ov_field Tryz.underlying70 rfl Tryz.sizeOf3 rfl (k := 1) rfl rfl) ?_
  refine KD.rd rfl rfl (om_ld Tryz.isAgg3 rfl rfl) ?_
  refine KD.val rfl rfl (ov_move rfl) ?_
  refine KD.val rfl rfl (ov_nilCheck rfl) ?_
  refine KD.val rfl rfl (ov_field Tryz.underlying70 rfl Tryz.sizeOf31 rfl (k := 2) rfl rfl) ?_
  refine KD.rd rfl rfl (om_ld Tryz.isAgg31 rfl rfl) ?_
  refine KD.one rfl ?_
  refine LM.stW Tryz.sizeOf30 rfl rfl rfl rfl au7 au8 ?_
  refine LM.nil ?_
  refine QM.one au1 (fun _ _ => trivial) ?_
  refine KD.val rfl rfl (ov_assign rfl) ?_
  refine KD.val rfl rfl (ov_assign rfl) ?_
  refine KD.nil ?_
  refine QM.sub (e' := [(4, _), (5, _), (6, _)]) ⟨rfl, rfl, rfl, trivial⟩ (QM.then ?_)
  refine wpM.ret ?_
  refine QM.then_ret ?_
  refine QM.leaveCs (ds := ([])) (.inl rfl) [.cell 4 30, .tmp 5, .tmp 6] Tryz.results11 hd_nil (rc_w rfl Tryz.isAgg30 Tryz.sizeOf30 rfl (rc_tmp rfl (rc_tmp rfl rc_nil))) ?_
  intro w' hm' hc'
  rw [set_nat hi0, hI.bad h3]; exact ⟨hc', [], StT.none, Mem.nil _, fun p hp => by cases hp⟩
 have he3 : (sP ws i0).2.2.2 = 0 := Classical.not_not.1 h3
 refine wpM.skip ?_
 refine QM.then ?_
 refine wpM.seq ?_
 refine wpM.seq (wpM.region ?_)
 refine LM.rd (om_ldW Tryz.isAgg30 Tryz.sizeOf30 rfl rfl) ?_
 refine LM.callE (oc_call (enters_fn Tryz.func39 (by kernel_rfl) rfl) rfl) (fun w hm hc hg => misfit_at (gs := gs) (ps := ps) w ⟨hng, sr_of_sl hsg (fun _ => rfl) (hm.pick m37), hnl, sr_of_sl hsl (fun _ => rfl) (hm.pick m40), hnp, sr_of_sl hsp (fun _ => rfl) (SubM.mem au1 w hm : Mem w (mp ++ [])).pickN, hop w (hm.pick mo)⟩ (by omega)) ?_
 refine LM.mv rfl ?_
 refine LM.val (ov_extract rfl rfl) ?_
 refine LM.val (ov_extract rfl rfl) ?_
 refine LM.as rfl ?_
 refine LM.as rfl ?_
 refine LM.nil (QM.sub (e' := [(4, _), (7, _), (8, _), (10, _), (11, _), (12, _)]) ⟨rfl, rfl, rfl, rfl, rfl, rfl, trivial⟩ (QM.then (wpM.seq (wpM.region ?_))))
 refine LM.mv rfl ?_
 refine LM.val (ov_geq rfl rfl) ?_
 refine LM.nil (QM.sub (e' := [(4, _), (7, _), (8, _), (10, _), (11, _), (12, _), (69, _)]) ⟨rfl, rfl, rfl, rfl, rfl, rfl, rfl, trivial⟩ (QM.then ?_))
 refine wpM.condD rfl (fun h4 => ?_) (fun h4 => ?_)
 ·
  have hfx := (fix_ge (p := misB (sL ws i0).1 (ps.map PgV.c).length) (xs := ps.map PgV.c) default h4).1; have hfl : (ps.map PgV.c).length = ps.length := List.length_map ..; have h4' : 0 ≤ misI (sL ws i0).1 (ps.map PgV.c) := h4; have hfx : (misI (sL ws i0).1 (ps.map PgV.c)).toNat < ps.length := (by rw [← hfl]; exact hfx)
  refine wpM.seq ?_
  refine wpM.keep (mq ++ []) (fun _ => True) (.one 0 0 (.one 1 0 (.one 2 0 (.one 3 0 (.one 4 1 (.one 5 0 (.one 6 2 (.one 7 0 (.one 8 0 .nil))))))))) (by kernel_rfl) (by kernel_rfl) au1 (fun _ _ => trivial) ?_
  refine KD.val rfl rfl (ov_build (cs := #[_, _, _, _, _]) rfl (by first | rfl | kernel_rfl)) ?_
  refine KD.val rfl rfl (ov_move rfl) ?_
  refine KD.val rfl rfl (ov_move rfl) ?_
  first | refine KD.val rfl rfl (ov_idxSN au6 Tryz.underlying26 Tryz.sizeOf3 rfl rfl (by omega)) ?_ | refine KD.val rfl rfl (ov_idxS au6 Tryz.underlying26 Tryz.sizeOf3 rfl rfl (by omega)) ?_ | refine KD.val rfl rfl (ov_idx1 Tryz.underlying26 Tryz.sizeOf3 rfl rfl (by omega)) ?_
  refine KD.rd rfl rfl (om_sl1 (by assumption) (by intro _; rfl) Tryz.isAgg3 rfl rfl (by exact getq 0 au4) (by rfl)) ?_
  refine KD.val rfl rfl (ov_move rfl) ?_
  refine KD.one rfl ?_
  refine LM.stW Tryz.sizeOf30 rfl rfl rfl rfl au7 au8 ?_
  refine LM.nil ?_
  refine QM.one au1 (fun _ _ => trivial) ?_
  refine KD.val rfl rfl (ov_assign rfl) ?_
  refine KD.val rfl rfl (ov_assign rfl) ?_
  refine KD.nil ?_
  refine QM.sub (e' := [(4, _), (5, _), (6, _)]) ⟨rfl, rfl, rfl, trivial⟩ (QM.then ?_)
  refine wpM.ret ?_
  refine QM.then_ret ?_
  refine QM.leaveCs (ds := ([])) (.inl rfl) [.cell 4 30, .tmp 5, .tmp 6] Tryz.results11 hd_nil (rc_w rfl Tryz.isAgg30 Tryz.sizeOf30 rfl (rc_tmp rfl (rc_tmp rfl rc_nil))) ?_
  intro w' hm' hc'
  rw [set_nat hi0, hI.mis2 he3 h4]; exact ⟨hc', [], StT.none, Mem.nil _, fun p hp => by cases hp⟩
 refine wpM.skip ?_
 refine QM.then ?_
 refine wpM.seq ?_
 refine wpM.keep ((b25, _) :: (b8, _) :: []) (fun _ => True) (.one 0 1 (.one 1 0 (.one 2 0 (.one 3 0 (.one 4 1 (.one 5 2 (.one 6 0 (.one 7 0 .nil)))))))) (by kernel_rfl) (by kernel_rfl) au1 (fun _ _ => trivial) ?_
 refine KD.rd rfl rfl (om_ldW Tryz.isAgg30 Tryz.sizeOf30 rfl rfl) ?_
 refine KD.val rfl rfl (ov_move rfl) ?_
 refine KD.val rfl rfl (ov_nilCheck rfl) ?_
 refine KD.val rfl rfl (ov_field Tryz.underlying70 rfl Tryz.sizeOf3 rfl (k := 1) rfl rfl) ?_
 refine KD.rd rfl rfl (om_ld Tryz.isAgg3 rfl rfl) ?_
 refine KD.one rfl ?_
 refine LM.stW Tryz.sizeOf30 rfl rfl rfl rfl au7 au8 ?_
 refine LM.nil ?_
 refine QM.one au1 (fun _ _ => trivial) ?_
 refine KD.val rfl rfl (ov_assign rfl) ?_
 refine KD.val rfl rfl (ov_assign rfl) ?_
 refine KD.nil ?_
 refine QM.sub (e' := [(4, _), (5, _), (6, _)]) ⟨rfl, rfl, rfl, trivial⟩ (QM.then ?_)
 refine wpM.ret ?_
 refine QM.leaveCs (ds := ([])) (.inl rfl) [.cell 4 30, .tmp 5, .tmp 6] Tryz.results11 hd_nil (rc_w rfl Tryz.isAgg30 Tryz.sizeOf30 rfl (rc_tmp rfl (rc_tmp rfl rc_nil))) ?_
 intro w' hm' hc'
 rw [set_nat hi0, hI.ok he3 (fix_lt (p := misB (sL ws i0).1 (ps.map PgV.c).length) (xs := ps.map PgV.c) (fun q => h4 q))]; refine ⟨hc', mo ++ (mp ++ (m40 ++ (m37 ++ []))), ⟨sv ws i0 gs adg ng cg adl nl cl ps adp np cp, rfl, rfl, fun w hm => ⟨hng, sr_of_sl hsg (fun _ => rfl) (hm.pick m37), hnl, sr_of_sl hsl (fun _ => rfl) (hm.pick m40), hnp, sr_of_sl hsp (fun _ => rfl) (hm.pick mp), hop w (hm.pick mo)⟩⟩, SubM.mem (by (repeat' (first | exact SubM.nil _ | refine SubM.app ?_))) w' hm', ?_⟩; intro p hp; simp only [List.mem_append, List.not_mem_nil, or_false] at hp; rcases hp with hp | hp | hp | hp; exact hog p hp; exact Sl.ge hsp p hp; exact Sl.ge hsl p hp; exact Sl.ge hsg p hp
end Go.Eng
