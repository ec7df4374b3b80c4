/- The walk of the scanner's words; token.Scan. No condition. -/
import Derived.Test.YtbndlommbpkijaaGreatDoorM6
import Derived.Test.YtbndlommbpkijaaGreatDoorM2
set_option linter.unusedVariables false
set_option linter.unusedSimpArgs false
namespace Go.Eng
open Go Go.Proofs Go.RowKit
def tokW (s : List UInt8) (i : Nat) : Wrd := if digB (s.getD i 0) && !(oneO s i).2.2 then ⟨2, [], 0, (i : Nat)⟩ else (oneO s i).1
theorem dig_notlet {c : UInt8} (h : digB c = true) : letB c = false := dig_let c h
theorem take_dig {s : List UInt8} {i : Nat} (h : i < s.length) (hd : digB (s.getD i 0) = true) : (s.drop i).take (runL digB s i) ≠ [] ∧ ((s.drop i).take (runL digB s i)).length = runL digB s i ∧ ((s.drop i).take (runL digB s i)).all digB = true ∧ ((s.drop i).take (runL digB s i)).getD 0 0 = s.getD i 0 ∧ numF 9 ((s.drop i).take (runL digB s i)) 0 = numF 9 (s.drop i) 0 := by
  have h1 := runL_step h hd
  have hl : ((s.drop i).take (runL digB s i)).length = runL digB s i := by rw [run_pre]; rfl
  refine ⟨fun q => by rw [q] at hl; simp at hl; omega, hl, by rw [run_pre]; exact all_tw _ _, ?_, by rw [run_pre, numF_tw]⟩
  rw [List.getD_eq_getElem?_getD, List.getElem?_take_of_lt (by omega), List.getElem?_drop, ← List.getD_eq_getElem?_getD]; rfl
theorem okT_dig {s : List UInt8} {i : Nat} (h : i < s.length) (hd : digB (s.getD i 0) = true) : okT ((s.drop i).take (runL digB s i)) = (oneO s i).2.2 := by
  obtain ⟨h1, h2, h3, h4, h5⟩ := take_dig h hd
  have hr := runL_step h hd
  unfold okT oneO
  rw [h2, h4, decide_eq_true h1, Bool.true_and, if_neg (by rw [dig_notlet hd]; simp), if_pos hd]
  simp only
  congr 1
  rw [Bool.not_and, ← decide_not, ← decide_not, Bool.or_comm]
  congr 1
  exact decide_eq_decide.2 (by omega)
def besO (i : Nat) (k last kind : Int) : Bool := decide ((i : Int) = last) && decide (k ≠ 3) && decide (kind ≠ 3)
theorem tokW_k (s : List UInt8) (i : Nat) : (tokW s i).k = (oneO s i).1.k := by
  unfold tokW; split
  · rename_i h; simp only [Bool.and_eq_true] at h
    unfold oneO; rw [if_neg (by rw [dig_notlet h.1]; simp), if_pos h.1]
  · rfl
theorem tokW_p (s : List UInt8) (i : Nat) : (tokW s i).p = (i : Int) := by
  unfold tokW oneO; (repeat' split) <;> rfl
theorem tokW_ok {s : List UInt8} {i : Nat} (h : (oneO s i).2.2 = true) : tokW s i = (oneO s i).1 := by
  unfold tokW; rw [h]; simp
theorem tok_let {s : List UInt8} {i : Nat} (hl : letB (s.getD i 0) = true) : (⟨1, (s.drop i).take (runL letB s i), 0, (i : Nat)⟩ : Wrd) = tokW s i ∧ i + runL letB s i = (oneO s i).2.1 ∧ decide ((((s.drop i).take (runL letB s i)).length : Int) ≤ 12) = (oneO s i).2.2 := by
  have hd : digB (s.getD i 0) = false := by
    cases hd : digB (s.getD i 0) with
    | false => rfl
    | true => rw [dig_let _ hd] at hl; cases hl
  have h1 : tokW s i = (oneO s i).1 := by unfold tokW; rw [hd]; rfl
  have h2 : ((s.drop i).take (runL letB s i)).length = runL letB s i := by rw [run_pre]; rfl
  rw [h1, h2]
  unfold oneO; rw [if_pos hl]
  exact ⟨rfl, rfl, decide_eq_decide.2 (by omega)⟩
theorem tok_dig {s : List UInt8} {i : Nat} (h : i < s.length) (hd : digB (s.getD i 0) = true) : (⟨2, [], if okT ((s.drop i).take (runL digB s i)) then numF 9 ((s.drop i).take (runL digB s i)) 0 else 0, (i : Nat)⟩ : Wrd) = tokW s i ∧ i + runL digB s i = (oneO s i).2.1 ∧ okT ((s.drop i).take (runL digB s i)) = (oneO s i).2.2 := by
  have h1 := okT_dig h hd
  obtain ⟨_, _, _, _, h5⟩ := take_dig h hd
  rw [h1, h5]
  have e : (oneO s i).1 = ⟨2, [], numF 9 (s.drop i) 0, (i : Nat)⟩ ∧ i + runL digB s i = (oneO s i).2.1 := by
    unfold oneO; rw [if_neg (by rw [dig_notlet hd]; simp), if_pos hd]; exact ⟨rfl, rfl⟩
  refine ⟨?_, e.2, rfl⟩
  unfold tokW
  rw [hd, Bool.true_and, e.1]
  cases (oneO s i).2.2 <;> rfl
theorem tok_mark {s : List UInt8} {i : Nat} (hl : letB (s.getD i 0) = false) (hd : digB (s.getD i 0) = false) : (⟨3, (s.drop ((i : Nat) : Int).toNat).take ((((i : Nat) : Int) + 1).toNat - ((i : Nat) : Int).toNat), 0, (i : Nat)⟩ : Wrd) = tokW s i ∧ i + 1 = (oneO s i).2.1 ∧ decide (Lib.indexByte marksL (s.getD i 0) ≥ 0) = (oneO s i).2.2 := by
  have h1 : tokW s i = (oneO s i).1 := by unfold tokW; rw [hd]; rfl
  have h3 := marks_mark (s.getD i 0)
  rw [h1, show ((i : Nat) : Int).toNat = i from Int.toNat_natCast i, show (((i : Nat) : Int) + 1).toNat - i = 1 by omega]
  unfold oneO; rw [if_neg (by rw [hl]; simp), if_neg (by rw [hd]; simp)]
  exact ⟨rfl, rfl, h3⟩
theorem c8 (c : UInt8) : (((c.toNat : Nat) : Int)).toNat.toUInt8 = c := by simp
theorem idxc_ret (t : List UInt8) (c : UInt8) (w : World) : Ret Tryz.prog 144 #[vS t, .int .u8 (c.toNat : Nat)] w (fun v w' => v = .int .i64 (Lib.indexByte t c) ∧ Ext w w') :=
  (idx_ret t _ w).mono (fun v w' ⟨h2, h3⟩ => ⟨by rw [h2, c8], h3⟩)
set_option maxRecDepth 100000 in
theorem number_spec9 (t : List UInt8) (w : World) (ha : t.all digB = true) (hx : t.length ≤ 1000000000) : Ret Tryz.prog 145 #[vS t] w (fun v w' => v = .tuple #[.int .i64 (if okT t then numF 9 t 0 else 0), .bool (okT t)] ∧ Ext w w') := by
 refine Ret.enterM (l := [vS t]) Tryz.func145 rfl Tryz.ntmps145 rfl ([]) (no) (Mem.nil w) ?_
 refine wpM.seq (wpM.region ?_)
 refine LM.as rfl ?_
 refine LM.as rfl ?_
 refine LM.nil (QM.sub (e' := [(0, _)]) ⟨rfl, trivial⟩ (QM.then ?_))
 refine wpM.seq ?_
 refine wpM.seq ?_
 refine wpM.joinK (α := Bool) (fun q => [(22, .bool q)]) [(0, _)] (fun q => []) (fun q => q = !okT t) ⟨rfl, trivial⟩ ?_ ?_
 ·
  refine wpM.region ?_
  refine LM.mv rfl ?_
  refine LM.val (ov_seqlL rfl rfl) ?_
  refine LM.mv rfl ?_
  refine LM.splitD (t := 8) rfl (fun h1 => ?_) (fun h1 => ?_)
  ·
   refine LM.dr 8 rfl rfl rfl ?_
   refine LM.dr 8 rfl rfl rfl ?_
   refine LM.dr 8 rfl rfl rfl ?_
   refine LM.val (ov_pickT rfl rfl) ?_
   refine LM.mv rfl ?_
   refine LM.dr 13 rfl rfl rfl ?_
   refine LM.dr 13 rfl rfl rfl ?_
   refine LM.dr 13 rfl rfl rfl ?_
   refine LM.dropU (t := 13) rfl rfl rfl ?_
   refine LM.dropX (t := 17) rfl rfl ?_
   refine LM.dropX (t := 17) rfl rfl ?_
   refine LM.dropX (t := 17) rfl rfl ?_
   refine LM.dr 13 rfl rfl rfl ?_
   refine LM.val (ov_pickT rfl rfl) ?_
   refine LM.nil (QM.sub (e' := [(0, _), (22, _)]) ⟨rfl, rfl, trivial⟩ ?_)
   refine QM.meetK (_) ⟨au2, rfl, trivial⟩ au1 ?_
   · unfold okT; rw [decide_eq_false (show ¬ t ≠ [] from fun q => q h1)]; rfl
  refine LM.sp 8 rfl rfl rfl ?_
  refine LM.mv rfl ?_
  refine LM.sp 8 rfl rfl rfl ?_
  refine LM.val (ov_slenL Tryz.underlying9 rfl) ?_
  refine LM.sp 8 rfl rfl rfl ?_
  refine LM.val (ov_gtr rfl rfl) ?_
  refine LM.val (ov_pickF rfl rfl) ?_
  refine LM.mv rfl ?_
  refine LM.splitD (t := 13) rfl (fun h2 => ?_) (fun h2 => ?_)
  ·
   refine LM.dr 13 rfl rfl rfl ?_
   refine LM.dr 13 rfl rfl rfl ?_
   refine LM.dr 13 rfl rfl rfl ?_
   refine LM.dropU (t := 13) rfl rfl rfl ?_
   refine LM.dropX (t := 17) rfl rfl ?_
   refine LM.dropX (t := 17) rfl rfl ?_
   refine LM.dropX (t := 17) rfl rfl ?_
   refine LM.dr 13 rfl rfl rfl ?_
   refine LM.val (ov_pickT rfl rfl) ?_
   refine LM.nil (QM.sub (e' := [(0, _), (22, _)]) ⟨rfl, rfl, trivial⟩ ?_)
   refine QM.meetK (_) ⟨au2, rfl, trivial⟩ au1 ?_
   · unfold okT; rw [decide_eq_true (show t ≠ [] from h1), decide_eq_false (show ¬ t.length ≤ 9 by omega)]; rfl
  refine LM.sp 13 rfl rfl rfl ?_
  refine LM.mv rfl ?_
  refine LM.sp 13 rfl rfl rfl ?_
  refine LM.val (ov_slenL Tryz.underlying9 rfl) ?_
  refine LM.sp 13 rfl rfl rfl ?_
  refine LM.val (ov_gtr rfl rfl) ?_
  refine LM.sp 13 rfl rfl rfl ?_
  refine LM.mv rfl ?_
  refine LM.splitD (t := 17) rfl (fun h3 => ?_) (fun h3 => ?_)
  ·
   refine LM.sp 17 rfl rfl rfl ?_
   refine LM.mv rfl ?_
   refine LM.sp 17 rfl rfl rfl ?_
   first | refine LM.val (ov_sidxN Tryz.underlying9 rfl rfl (by omega)) ?_ | refine LM.val (ov_sidxL Tryz.underlying9 rfl rfl (by omega)) ?_
   refine LM.sp 17 rfl rfl rfl ?_
   refine LM.val (ov_eql rfl rfl) ?_
   refine LM.sp 13 rfl rfl rfl ?_
   refine LM.val (ov_pickT rfl rfl) ?_
   refine LM.val (ov_pickF rfl rfl) ?_
   refine LM.nil (QM.sub (e' := [(0, _), (22, _)]) ⟨rfl, rfl, trivial⟩ ?_)
   refine QM.meetK (_) ⟨au2, rfl, trivial⟩ au1 ?_
   · unfold okT; rw [decide_eq_true (show t ≠ [] from h1), decide_eq_true (show t.length ≤ 9 by omega), decide_eq_true (show 1 < t.length by omega)]; simp only [Bool.true_and, Bool.not_not]; rfl
  refine LM.dr 17 rfl rfl rfl ?_
  refine LM.dr 17 rfl rfl rfl ?_
  refine LM.dr 17 rfl rfl rfl ?_
  refine LM.sp 13 rfl rfl rfl ?_
  refine LM.val (ov_pickF rfl rfl) ?_
  refine LM.val (ov_pickF rfl rfl) ?_
  refine LM.nil (QM.sub (e' := [(0, _), (22, _)]) ⟨rfl, rfl, trivial⟩ ?_)
  refine QM.meetK (_) ⟨au2, rfl, trivial⟩ au1 ?_
  · unfold okT; rw [decide_eq_true (show t ≠ [] from h1), decide_eq_true (show t.length ≤ 9 by omega), decide_eq_false (show ¬ 1 < t.length by omega)]; rfl
 rintro q hq
 change QM _ _ _ _ _ ([]) _ _ _
 refine QM.then ?_
 first | refine wpM.condD rfl (fun h4 => ?_) (fun h4 => ?_) | refine wpM.condB rfl (fun h4 => ?_) (fun h4 => ?_)
 ·
  refine wpM.seq (wpM.region ?_)
  refine LM.as rfl ?_
  refine LM.as rfl ?_
  refine LM.nil (QM.sub (e' := [(2, _), (3, _)]) ⟨rfl, rfl, trivial⟩ (QM.then ?_))
  refine wpM.ret ?_
  refine QM.then_ret ?_
  refine QM.leave (.inl rfl) [.tmp 2, .tmp 3] Tryz.results145 rfl ?_
  intro w' hm' hc' hg'
  have hok0 : okT t = false := (by simpa using hq.symm.trans h4); refine ⟨?_, hc'⟩; rw [hok0]; rfl
 have hok0 : okT t = true := (by simpa using hq.symm.trans h4); have hok : t ≠ [] ∧ t.length ≤ 9 := (by have q := hok0; unfold okT at q; simp only [Bool.and_eq_true, decide_eq_true_eq] at q; exact q.1)
 refine wpM.skip ?_
 refine QM.then (wpM.seq (wpM.region ?_))
 refine LM.mv rfl ?_
 refine LM.callE (oc_call (enters_fn Tryz.func169 (by kernel_rfl) rfl) rfl) (fun w hm hc hg => atoi_ret hok.1 hok.2 ha w) ?_
 refine LM.mv rfl ?_
 refine LM.val (ov_extract rfl rfl) ?_
 refine LM.val (ov_extract rfl rfl) ?_
 refine LM.as rfl ?_
 refine LM.as rfl ?_
 refine LM.nil (QM.sub (e' := [(4, _)]) ⟨rfl, trivial⟩ (QM.then (wpM.seq (wpM.region ?_))))
 refine LM.mv rfl ?_
 refine LM.as rfl ?_
 refine LM.as rfl ?_
 refine LM.nil (QM.sub (e' := [(2, _), (3, _)]) ⟨rfl, rfl, trivial⟩ (QM.then ?_))
 refine wpM.ret ?_
 refine QM.leave (.inl rfl) [.tmp 2, .tmp 3] Tryz.results145 rfl ?_
 intro w' hm' hc' hg'
 refine ⟨?_, hc'⟩; rw [hok0]; rfl
set_option maxRecDepth 100000 in
set_option maxHeartbeats 1000000 in
theorem tword_spec (b : Nat) (s : List UInt8) (i : Nat) (last kind : Int) (w : World) (hi : i < s.length) (hs : s.length ≤ 1000000000) (hM : Mem w [xB b s i last kind]) : Ret Tryz.prog 109 #[.pointer (some ⟨b, 0, none⟩)] w (WrP b (.tuple #[.agg (fW (tokW s i)).toArray, .bool ((oneO s i).2.2 && !besO i (oneO s i).1.k last kind)]) (xO s (oneO s i).2.1 ((oneO s i).2.1 : Nat) (oneO s i).1.k) w) := by
 refine Ret.enterM (l := [.pointer (some ⟨b, 0, none⟩)]) Tryz.func109 rfl Tryz.ntmps109 rfl ([xB b s i last kind]) ((fun x => x = b)) hM ?_
 refine wpM.seq (wpM.region ?_)
 refine LM.alloc Tryz.zeroValue65 rfl (fun b2 hb2 => ?_)
 refine LM.as rfl ?_
 refine LM.nil (QM.sub (e' := [(0, _), (2, _)]) ⟨rfl, rfl, trivial⟩ (QM.then (wpM.seq (wpM.region ?_))))
 refine LM.mv rfl ?_
 refine LM.val (ov_nilCheck rfl) ?_
 refine LM.val (ov_field Tryz.underlying165 rfl Tryz.sizeOf3 rfl (k := 1) rfl rfl) ?_
 refine LM.rd (om_ld Tryz.isAgg3 rfl rfl) ?_
 refine LM.as rfl ?_
 refine LM.nil (QM.sub (e' := [(0, _), (2, _), (4, _)]) ⟨rfl, rfl, rfl, trivial⟩ (QM.then (wpM.seq (wpM.region ?_))))
 refine LM.mv rfl ?_
 refine LM.val (ov_nilCheck rfl) ?_
 refine LM.val (ov_field Tryz.underlying165 rfl Tryz.sizeOf9 rfl (k := 0) rfl rfl) ?_
 refine LM.rd (om_ld Tryz.isAgg9 rfl rfl) ?_
 refine LM.mv rfl ?_
 refine LM.val (ov_sidxN Tryz.underlying9 rfl rfl (by omega)) ?_
 refine LM.as rfl ?_
 refine LM.nil (QM.sub (e' := [(0, _), (2, _), (4, _), (5, _)]) ⟨rfl, rfl, rfl, rfl, trivial⟩ (QM.then (wpM.seq (wpM.region ?_))))
 refine LM.mv rfl ?_
 refine LM.val (ov_build (cs := #[_, _, _, _]) rfl (by first | rfl | kernel_rfl)) ?_
 refine LM.alloc Tryz.zeroValue65 rfl (fun b6 hb6 => ?_)
 refine LM.stW Tryz.sizeOf65 rfl rfl rfl rfl au7 (fun hlt => by first | exact rfl | exact absurd hlt (by omega)) ?_
 refine LM.nil (QM.sub (e' := [(0, _), (2, _), (4, _), (5, _), (6, _)]) ⟨rfl, rfl, rfl, rfl, rfl, trivial⟩ (QM.then (wpM.seq (wpM.region ?_))))
 refine LM.as rfl ?_
 refine LM.nil (QM.sub (e' := [(0, _), (2, _), (4, _), (5, _), (6, _)]) ⟨rfl, rfl, rfl, rfl, rfl, trivial⟩ (QM.then ?_))
 refine wpM.seq ?_
 refine wpM.joinK (α := Wrd × Nat × Bool) (fun ⟨x, j, ok⟩ => [(7, .bool ok)]) [(0, _), (2, _), (4, _), (6, _)] (fun ⟨x, j, ok⟩ => (b6, .cells (fW x).toArray 65 (0, 0)) :: (b2, .cells (fW default).toArray 65 (0, 0)) :: xB b s j last kind :: []) (fun ⟨x, j, ok⟩ => x = tokW s i ∧ j = (oneO s i).2.1 ∧ ok = (oneO s i).2.2) ⟨rfl, rfl, rfl, rfl, trivial⟩ ?_ ?_
 ·
  refine wpM.block ?_
  refine wpM.seq (wpM.region ?_)
  refine LM.mv rfl ?_
  refine LM.callE (oc_call (enters_fn Tryz.func144 (by kernel_rfl) rfl) rfl) (fun w hm hc hg => idxc_ret lettersL (s.getD i 0) w) ?_
  refine LM.val (ov_geq rfl rfl) ?_
  refine LM.as rfl ?_
  refine LM.nil (QM.sub (e' := [(0, _), (2, _), (4, _), (5, _), (6, _), (41, _)]) ⟨rfl, rfl, rfl, rfl, rfl, rfl, trivial⟩ (QM.then ?_))
  refine wpM.condD rfl (fun h1 => ?_) (fun h1 => ?_)
  ·
   have hlt : letB (s.getD i 0) = true := (by rw [← letters_at]; exact decide_eq_true h1)
   refine wpM.seq (wpM.region ?_)
   refine LM.mv rfl ?_
   refine LM.cW (oc_call (enters_fn Tryz.func142 (by kernel_rfl) rfl) rfl) (fun w hm hc hg => run_spec letters_let (by decide) (by decide) b s i last kind w (by omega) hs (hm.pick _)) rfl (fun hlt => by first | exact rfl | exact absurd hlt (by omega)) ?_
   refine LM.val (ov_field Tryz.underlying65 rfl Tryz.sizeOf3 rfl (k := 0) rfl rfl) ?_
   refine LM.st Tryz.sizeOf3 rfl rfl rfl au5 rfl (fun hlt => by first | exact rfl | exact absurd hlt (by omega)) ?_
   refine LM.val (ov_field Tryz.underlying65 rfl Tryz.sizeOf9 rfl (k := 1) rfl rfl) ?_
   refine LM.st Tryz.sizeOf9 rfl rfl rfl au5 rfl (fun hlt => by first | exact rfl | exact absurd hlt (by omega)) ?_
   refine LM.nil (QM.sub (e' := [(0, _), (2, _), (4, _), (6, _)]) ⟨rfl, rfl, rfl, rfl, trivial⟩ (QM.then (wpM.region ?_)))
   refine LM.val (ov_field Tryz.underlying65 rfl Tryz.sizeOf9 rfl (k := 1) rfl rfl) ?_
   refine LM.rd (om_ld Tryz.isAgg9 rfl rfl) ?_
   refine LM.val (ov_slenL Tryz.underlying9 rfl) ?_
   refine LM.val (ov_leq rfl rfl) ?_
   refine LM.as rfl ?_
   refine LM.nil (QM.sub (e' := [(0, _), (2, _), (4, _), (6, _), (7, _)]) ⟨rfl, rfl, rfl, rfl, rfl, trivial⟩ ?_)
   refine QM.block_normal ?_
   refine QM.meetK ((⟨1, (s.drop i).take (runL letB s i), 0, (i : Nat)⟩, i + runL letB s i, decide ((((s.drop i).take (runL letB s i)).length : Int) ≤ 12))) ⟨au2, rfl, rfl, rfl, rfl, trivial⟩ au1 ?_
   · exact tok_let hlt
  have hlf : letB (s.getD i 0) = false := (by rw [← letters_at]; exact decide_eq_false h1)
  refine wpM.seq (wpM.region ?_)
  refine LM.mv rfl ?_
  refine LM.callE (oc_call (enters_fn Tryz.func144 (by kernel_rfl) rfl) rfl) (fun w hm hc hg => idxc_ret digitL (s.getD i 0) w) ?_
  refine LM.val (ov_geq rfl rfl) ?_
  refine LM.as rfl ?_
  refine LM.nil (QM.sub (e' := [(0, _), (2, _), (4, _), (5, _), (6, _), (53, _)]) ⟨rfl, rfl, rfl, rfl, rfl, rfl, trivial⟩ (QM.then ?_))
  refine wpM.condD rfl (fun h2 => ?_) (fun h2 => ?_)
  ·
   have hdt : digB (s.getD i 0) = true := (by rw [← digits_at]; exact decide_eq_true h2); have htd := take_dig hi hdt; have hrl := runL_le digB s i
   refine wpM.seq (wpM.region ?_)
   refine LM.val (ov_field Tryz.underlying65 rfl Tryz.sizeOf3 rfl (k := 0) rfl rfl) ?_
   refine LM.st Tryz.sizeOf3 rfl rfl rfl au5 rfl (fun hlt => by first | exact rfl | exact absurd hlt (by omega)) ?_
   refine LM.nil (QM.sub (e' := [(0, _), (2, _), (4, _), (6, _)]) ⟨rfl, rfl, rfl, rfl, trivial⟩ (QM.then (wpM.region ?_)))
   refine LM.mv rfl ?_
   refine LM.cW (oc_call (enters_fn Tryz.func142 (by kernel_rfl) rfl) rfl) (fun w hm hc hg => run_spec digits_dig (by decide) (by decide) b s i last kind w (by omega) hs (hm.pick _)) rfl (fun hlt => by first | exact rfl | exact absurd hlt (by omega)) ?_
   refine LM.callE (oc_call (enters_fn Tryz.func145 (by kernel_rfl) rfl) rfl) (fun w hm hc hg => number_spec9 _ w htd.2.2.1 (by rw [htd.2.1]; omega)) ?_
   refine LM.mv rfl ?_
   refine LM.val (ov_extract rfl rfl) ?_
   refine LM.val (ov_extract rfl rfl) ?_
   refine LM.val (ov_field Tryz.underlying65 rfl Tryz.sizeOf3 rfl (k := 2) rfl rfl) ?_
   refine LM.st Tryz.sizeOf3 rfl rfl rfl au5 rfl (fun hlt => by first | exact rfl | exact absurd hlt (by omega)) ?_
   refine LM.as rfl ?_
   refine LM.nil (QM.sub (e' := [(0, _), (2, _), (4, _), (6, _), (7, _)]) ⟨rfl, rfl, rfl, rfl, rfl, trivial⟩ ?_)
   refine QM.block_normal ?_
   refine QM.meetK ((⟨2, [], if okT ((s.drop i).take (runL digB s i)) then numF 9 ((s.drop i).take (runL digB s i)) 0 else 0, (i : Nat)⟩, i + runL digB s i, okT ((s.drop i).take (runL digB s i)))) ⟨au2, rfl, rfl, rfl, rfl, trivial⟩ au1 ?_
   · exact tok_dig hi hdt
  have hdf : digB (s.getD i 0) = false := (by rw [← digits_at]; exact decide_eq_false h2)
  refine wpM.seq ?_
  refine wpM.keep ((b, _) :: []) (fun _ => True) (.one 0 0 (.one 1 0 (.one 2 0 (.one 3 1 (.one 4 0 (.one 5 0 (.one 6 0 (.one 7 0 (.one 8 0 (.one 9 2 (.one 10 0 (.one 11 2 .nil)))))))))))) (by kernel_rfl) (by kernel_rfl) au1 (fun _ _ => trivial) ?_
  refine KD.val rfl rfl (ov_move rfl) ?_
  refine KD.val rfl rfl (ov_nilCheck rfl) ?_
  refine KD.val rfl rfl (ov_field Tryz.underlying165 rfl Tryz.sizeOf9 rfl (k := 0) rfl rfl) ?_
  refine KD.rd rfl rfl (om_ld Tryz.isAgg9 rfl rfl) ?_
  refine KD.val rfl rfl (ov_move rfl) ?_
  refine KD.val rfl rfl (ov_move rfl) ?_
  refine KD.val rfl rfl (ov_add64 rfl rfl (by omega)) ?_
  refine KD.val rfl rfl (ov_sslcL Tryz.underlying9 rfl rfl rfl (by omega) (by omega) (by omega)) ?_
  refine KD.val rfl rfl (ov_field Tryz.underlying65 rfl Tryz.sizeOf3 rfl (k := 0) rfl rfl) ?_
  refine KD.one rfl ?_
  refine LM.st Tryz.sizeOf3 rfl rfl rfl au5 rfl (fun hlt => by first | exact rfl | exact absurd hlt (by omega)) ?_
  refine LM.nil ?_
  refine QM.one au1 (fun _ _ => trivial) ?_
  refine KD.val rfl rfl (ov_field Tryz.underlying65 rfl Tryz.sizeOf9 rfl (k := 1) rfl rfl) ?_
  refine KD.one rfl ?_
  refine LM.st Tryz.sizeOf9 rfl rfl rfl au5 rfl (fun hlt => by first | exact rfl | exact absurd hlt (by omega)) ?_
  refine LM.nil ?_
  refine QM.one au1 (fun _ _ => trivial) ?_
  refine KD.nil ?_
  refine QM.sub (e' := [(0, _), (2, _), (4, _), (5, _), (6, _)]) ⟨rfl, rfl, rfl, rfl, rfl, trivial⟩ (QM.then (wpM.seq (wpM.region ?_)))
  refine LM.mv rfl ?_
  refine LM.callE (oc_call (enters_fn Tryz.func144 (by kernel_rfl) rfl) rfl) (fun w hm hc hg => idxc_ret marksL (s.getD i 0) w) ?_
  refine LM.val (ov_geq rfl rfl) ?_
  refine LM.as rfl ?_
  refine LM.nil (QM.sub (e' := [(0, _), (2, _), (4, _), (6, _), (7, _)]) ⟨rfl, rfl, rfl, rfl, rfl, trivial⟩ (QM.then (wpM.region ?_)))
  refine LM.mv rfl ?_
  refine LM.val (ov_nilCheck rfl) ?_
  refine LM.val (ov_field Tryz.underlying165 rfl Tryz.sizeOf3 rfl (k := 1) rfl rfl) ?_
  refine LM.rd (om_ld Tryz.isAgg3 rfl rfl) ?_
  refine LM.val (ov_add64 rfl rfl (by omega)) ?_
  refine LM.val (ov_nilCheck rfl) ?_
  refine LM.val (ov_field Tryz.underlying165 rfl Tryz.sizeOf3 rfl (k := 1) rfl rfl) ?_
  refine LM.st Tryz.sizeOf3 rfl rfl rfl au5 rfl (fun hlt => by first | exact rfl | exact absurd hlt (by omega)) ?_
  refine LM.nil (QM.sub (e' := [(0, _), (2, _), (4, _), (6, _), (7, _)]) ⟨rfl, rfl, rfl, rfl, rfl, trivial⟩ ?_)
  refine QM.block_normal ?_
  refine QM.meetK ((⟨3, (s.drop ((i : Nat) : Int).toNat).take ((((i : Nat) : Int) + 1).toNat - ((i : Nat) : Int).toNat), 0, (i : Nat)⟩, i + 1, decide (Lib.indexByte marksL (s.getD i 0) ≥ 0))) ⟨au2, rfl, rfl, rfl, rfl, trivial⟩ au1 ?_
  · exact tok_mark hlf hdf
 rintro ⟨x, j, ok⟩ ⟨hxw, hjw, hokw⟩
 change QM _ _ _ _ _ ((b6, .cells (fW x).toArray 65 (0, 0)) :: (b2, .cells (fW default).toArray 65 (0, 0)) :: xB b s j last kind :: []) _ _ _
 refine QM.then ?_
 refine wpM.seq ?_
 refine wpM.joinK (α := Bool) (fun q => [(8, .bool q)]) [(0, _), (2, _), (6, _), (7, _)] (fun q => (b6, .cells (fW x).toArray 65 (0, 0)) :: (b2, .cells (fW default).toArray 65 (0, 0)) :: xB b s j last kind :: []) (fun q => q = besO i x.k last kind) ⟨rfl, rfl, rfl, rfl, trivial⟩ ?_ ?_
 ·
  refine wpM.region ?_
  refine LM.mv rfl ?_
  refine LM.mv rfl ?_
  refine LM.val (ov_nilCheck rfl) ?_
  refine LM.val (ov_field Tryz.underlying165 rfl Tryz.sizeOf3 rfl (k := 2) rfl rfl) ?_
  refine LM.rd (om_ld Tryz.isAgg3 rfl rfl) ?_
  refine LM.val (ov_eql rfl rfl) ?_
  refine LM.mv rfl ?_
  refine LM.splitD (t := 71) rfl (fun h3 => ?_) (fun h3 => ?_)
  ·
   refine LM.sp 71 rfl rfl rfl ?_
   refine LM.val (ov_field Tryz.underlying65 rfl Tryz.sizeOf3 rfl (k := 0) rfl rfl) ?_
   refine LM.sp 71 rfl rfl rfl ?_
   refine LM.rd (om_ld Tryz.isAgg3 rfl rfl) ?_
   refine LM.sp 71 rfl rfl rfl ?_
   refine LM.val (ov_neq rfl rfl) ?_
   refine LM.val (ov_pickT rfl rfl) ?_
   refine LM.mv rfl ?_
   refine LM.splitD (t := 76) rfl (fun h4 => ?_) (fun h4 => ?_)
   ·
    refine LM.sp 76 rfl rfl rfl ?_
    refine LM.mv rfl ?_
    refine LM.sp 76 rfl rfl rfl ?_
    refine LM.val (ov_nilCheck rfl) ?_
    refine LM.sp 76 rfl rfl rfl ?_
    refine LM.val (ov_field Tryz.underlying165 rfl Tryz.sizeOf3 rfl (k := 3) rfl rfl) ?_
    refine LM.sp 76 rfl rfl rfl ?_
    refine LM.rd (om_ld Tryz.isAgg3 rfl rfl) ?_
    refine LM.sp 76 rfl rfl rfl ?_
    refine LM.val (ov_neq rfl rfl) ?_
    refine LM.val (ov_pickT rfl rfl) ?_
    refine LM.as rfl ?_
    refine LM.nil (QM.sub (e' := [(0, _), (2, _), (6, _), (7, _), (8, _)]) ⟨rfl, rfl, rfl, rfl, rfl, trivial⟩ ?_)
    refine QM.meetK (_) ⟨au2, rfl, rfl, rfl, rfl, trivial⟩ au1 ?_
    · unfold besO; first | (simp only [h3, h4, decide_true, decide_false, Bool.true_and, Bool.false_and, Bool.and_true, Bool.and_false, Bool.not_true, Bool.not_false, Bool.true_or, Bool.false_or, Bool.or_true, Bool.or_false, ne_eq, not_true_eq_false, not_false_eq_true, Bool.and_self]; done) | (simp only [h3, h4, decide_true, decide_false, Bool.true_and, Bool.false_and, Bool.and_true, Bool.and_false, Bool.not_true, Bool.not_false, Bool.true_or, Bool.false_or, Bool.or_true, Bool.or_false, ne_eq, not_true_eq_false, not_false_eq_true, Bool.and_self]; rfl)
   refine LM.dr 76 rfl rfl rfl ?_
   refine LM.dr 76 rfl rfl rfl ?_
   refine LM.dr 76 rfl rfl rfl ?_
   refine LM.dr 76 rfl rfl rfl ?_
   refine LM.dr 76 rfl rfl rfl ?_
   refine LM.val (ov_pickF rfl rfl) ?_
   refine LM.as rfl ?_
   refine LM.nil (QM.sub (e' := [(0, _), (2, _), (6, _), (7, _), (8, _)]) ⟨rfl, rfl, rfl, rfl, rfl, trivial⟩ ?_)
   refine QM.meetK (_) ⟨au2, rfl, rfl, rfl, rfl, trivial⟩ au1 ?_
   · unfold besO; first | (simp only [h3, h4, decide_true, decide_false, Bool.true_and, Bool.false_and, Bool.and_true, Bool.and_false, Bool.not_true, Bool.not_false, Bool.true_or, Bool.false_or, Bool.or_true, Bool.or_false, ne_eq, not_true_eq_false, not_false_eq_true, Bool.and_self]; done) | (simp only [h3, h4, decide_true, decide_false, Bool.true_and, Bool.false_and, Bool.and_true, Bool.and_false, Bool.not_true, Bool.not_false, Bool.true_or, Bool.false_or, Bool.or_true, Bool.or_false, ne_eq, not_true_eq_false, not_false_eq_true, Bool.and_self]; rfl)
  refine LM.dr 71 rfl rfl rfl ?_
  refine LM.dr 71 rfl rfl rfl ?_
  refine LM.dr 71 rfl rfl rfl ?_
  refine LM.val (ov_pickF rfl rfl) ?_
  refine LM.mv rfl ?_
  refine LM.dr 76 rfl rfl rfl ?_
  refine LM.dr 76 rfl rfl rfl ?_
  refine LM.dr 76 rfl rfl rfl ?_
  refine LM.dr 76 rfl rfl rfl ?_
  refine LM.dr 76 rfl rfl rfl ?_
  refine LM.val (ov_pickF rfl rfl) ?_
  refine LM.as rfl ?_
  refine LM.nil (QM.sub (e' := [(0, _), (2, _), (6, _), (7, _), (8, _)]) ⟨rfl, rfl, rfl, rfl, rfl, trivial⟩ ?_)
  refine QM.meetK (_) ⟨au2, rfl, rfl, rfl, rfl, trivial⟩ au1 ?_
  · unfold besO; first | (simp only [h3, decide_true, decide_false, Bool.true_and, Bool.false_and, Bool.and_true, Bool.and_false, Bool.not_true, Bool.not_false, Bool.true_or, Bool.false_or, Bool.or_true, Bool.or_false, ne_eq, not_true_eq_false, not_false_eq_true, Bool.and_self]; done) | (simp only [h3, decide_true, decide_false, Bool.true_and, Bool.false_and, Bool.and_true, Bool.and_false, Bool.not_true, Bool.not_false, Bool.true_or, Bool.false_or, Bool.or_true, Bool.or_false, ne_eq, not_true_eq_false, not_false_eq_true, Bool.and_self]; rfl)
 rintro q hqb
 change QM _ _ _ _ _ ((b6, .cells (fW x).toArray 65 (0, 0)) :: (b2, .cells (fW default).toArray 65 (0, 0)) :: xB b s j last kind :: []) _ _ _
 refine QM.then ?_
 refine wpM.seq ?_
 refine wpM.keep ((b6, _) :: []) (fun _ => True) (.one 0 0 (.one 1 0 (.one 2 0 (.one 3 0 (.one 4 0 (.one 6 0 (.one 7 1 (.one 5 2 (.one 8 0 (.one 9 0 (.one 10 2 (.one 11 0 (.one 12 0 (.one 13 2 .nil)))))))))))))) (by kernel_rfl) (by kernel_rfl) au1 (fun _ _ => trivial) ?_
 refine KD.val rfl rfl (ov_move rfl) ?_
 refine KD.val rfl rfl (ov_move rfl) ?_
 refine KD.val rfl rfl (ov_move rfl) ?_
 refine KD.val rfl rfl (ov_nilCheck rfl) ?_
 refine KD.val rfl rfl (ov_field Tryz.underlying165 rfl Tryz.sizeOf3 rfl (k := 1) rfl rfl) ?_
 refine KD.val rfl rfl (ov_field Tryz.underlying65 rfl Tryz.sizeOf3 rfl (k := 0) rfl rfl) ?_
 refine KD.rd rfl rfl (om_ld Tryz.isAgg3 rfl rfl) ?_
 refine KD.one rfl ?_
 refine LM.rd (om_ld Tryz.isAgg3 rfl rfl) ?_
 refine LM.nil ?_
 refine QM.one au1 (fun _ _ => trivial) ?_
 refine KD.val rfl rfl (ov_nilCheck rfl) ?_
 refine KD.val rfl rfl (ov_field Tryz.underlying165 rfl Tryz.sizeOf3 rfl (k := 2) rfl rfl) ?_
 refine KD.one rfl ?_
 refine LM.st Tryz.sizeOf3 rfl rfl rfl au5 rfl (fun hlt => by first | exact rfl | exact absurd hlt (by omega)) ?_
 refine LM.nil ?_
 refine QM.one au1 (fun _ _ => trivial) ?_
 refine KD.val rfl rfl (ov_nilCheck rfl) ?_
 refine KD.val rfl rfl (ov_field Tryz.underlying165 rfl Tryz.sizeOf3 rfl (k := 3) rfl rfl) ?_
 refine KD.one rfl ?_
 refine LM.st Tryz.sizeOf3 rfl rfl rfl au5 rfl (fun hlt => by first | exact rfl | exact absurd hlt (by omega)) ?_
 refine LM.nil ?_
 refine QM.one au1 (fun _ _ => trivial) ?_
 refine KD.nil ?_
 refine QM.sub (e' := [(2, _), (6, _), (7, _), (8, _)]) ⟨rfl, rfl, rfl, rfl, trivial⟩ (QM.then (wpM.seq (wpM.region ?_)))
 refine LM.rd (om_ldW Tryz.isAgg65 Tryz.sizeOf65 rfl rfl) ?_
 refine LM.mv rfl ?_
 refine LM.mv rfl ?_
 first | refine LM.splitD (t := 97) rfl (fun h5 => ?_) (fun h5 => ?_) | refine LM.splitB (t := 97) rfl (fun h5 => ?_) (fun h5 => ?_)
 ·
  refine LM.sp 97 rfl rfl rfl ?_
  refine LM.mv rfl ?_
  refine LM.sp 97 rfl rfl rfl ?_
  first | refine LM.val (ov_notD rfl) ?_ | refine LM.val (ov_not rfl) ?_
  refine LM.val (ov_pickT rfl rfl) ?_
  refine LM.stW Tryz.sizeOf65 rfl rfl rfl rfl au7 (fun hlt => by first | exact rfl | exact absurd hlt (by omega)) ?_
  refine LM.as rfl ?_
  refine LM.nil (QM.sub (e' := [(2, _), (3, _)]) ⟨rfl, rfl, trivial⟩ (QM.then ?_))
  refine wpM.ret ?_
  refine QM.leaveCs (ds := ([])) (.inl rfl) [.cell 2 65, .tmp 3] Tryz.results109 hd_nil (rc_w rfl Tryz.isAgg65 Tryz.sizeOf65 rfl (rc_tmp rfl rc_nil)) ?_
  intro w' hm' hc'
  subst hxw; subst hjw; have hok1 : (oneO s i).2.2 = true := (by rw [← hokw]; exact h5); refine ⟨?_, hc', ?_⟩; (rw [hok1, Bool.true_and, ← tokW_k, ← hqb]; rfl); (rw [← tokW_k]; exact hm'.at b)
 refine LM.dr 97 rfl rfl rfl ?_
 refine LM.dr 97 rfl rfl rfl ?_
 refine LM.val (ov_pickF rfl rfl) ?_
 refine LM.stW Tryz.sizeOf65 rfl rfl rfl rfl au7 (fun hlt => by first | exact rfl | exact absurd hlt (by omega)) ?_
 refine LM.as rfl ?_
 refine LM.nil (QM.sub (e' := [(2, _), (3, _)]) ⟨rfl, rfl, trivial⟩ (QM.then ?_))
 refine wpM.ret ?_
 refine QM.leaveCs (ds := ([])) (.inl rfl) [.cell 2 65, .tmp 3] Tryz.results109 hd_nil (rc_w rfl Tryz.isAgg65 Tryz.sizeOf65 rfl (rc_tmp rfl rc_nil)) ?_
 intro w' hm' hc'
 subst hxw; subst hjw; have hok1 : (oneO s i).2.2 = false := (by rw [← hokw]; exact h5); refine ⟨?_, hc', ?_⟩; (rw [hok1]; rfl); (rw [← tokW_k]; exact hm'.at b)
end Go.Eng
namespace Go.Eng
open Go Go.Proofs Go.RowKit
def okW (s : List UInt8) (i : Nat) (last kind : Int) : Bool := (oneO s i).2.2 && !besO i (oneO s i).1.k last kind
theorem okW_bad {s : List UInt8} {i : Nat} {last kind : Int} {out : List Wrd} (h : last = -1 ∨ (out ≠ [] ∧ kind = (out.getD (out.length - 1) default).k)) : badO (oneO s i) i last out = !okW s i last kind := by
  unfold okW besO badO
  rcases h with rfl | ⟨_, rfl⟩
  · rw [decide_eq_false (show ¬ (-1 : Int) = (i : Nat) by omega), decide_eq_false (show ¬ ((i : Nat) : Int) = -1 by omega)]; simp
  · rw [Bool.not_and, Bool.not_not]
    congr 2
    congr 1
    exact decide_eq_decide.2 ⟨Eq.symm, Eq.symm⟩
set_option maxRecDepth 100000 in
set_option maxHeartbeats 1000000 in
theorem tscan_spec {s : List UInt8} (w : World) : Ret Tryz.prog 66 #[vS s] w (fun v w' => Ext w w' ∧ ∃ m, ScT (scanO s) w.heap.size v m ∧ Mem w' m ∧ ∀ p ∈ m, w.heap.size ≤ p.1) := by
 refine Ret.enterM (l := [vS s]) Tryz.func66 rfl Tryz.ntmps66 rfl ([]) (no) (Mem.nil w) ?_
 refine wpM.seq (wpM.region ?_)
 refine LM.as rfl ?_
 refine LM.as rfl ?_
 refine LM.as rfl ?_
 refine LM.nil (QM.sub (e' := [(0, _)]) ⟨rfl, trivial⟩ (QM.then ?_))
 refine wpM.seq ?_
 refine wpM.seq (wpM.region ?_)
 refine LM.mv rfl ?_
 refine LM.val (ov_slenL Tryz.underlying9 rfl) ?_
 refine LM.val (ov_gtr rfl rfl) ?_
 refine LM.nil (QM.sub (e' := [(0, _), (11, _)]) ⟨rfl, rfl, trivial⟩ (QM.then ?_))
 refine wpM.condD rfl (fun h1 => ?_) (fun h1 => ?_)
 ·
  refine wpM.seq (wpM.region ?_)
  refine LM.as rfl ?_
  refine LM.as rfl ?_
  refine LM.as rfl ?_
  refine LM.nil (QM.sub (e' := [(2, _), (3, _), (4, _)]) ⟨rfl, rfl, rfl, trivial⟩ (QM.then ?_))
  refine wpM.ret ?_
  refine QM.then_ret ?_
  refine QM.leave (.inl rfl) [.tmp 2, .tmp 3, .tmp 4] Tryz.results66 rfl ?_
  intro w' hm' hc' hg'
  have hr : scanO s = ([], 8000, 6) := (by unfold scanO; rw [if_pos (by omega)]); rw [hr]; exact ⟨hc', [], ⟨none, 0, 0, rfl, rfl, .nil _ _ _ _⟩, Mem.nil _, fun p hp => by cases hp⟩
 refine wpM.skip ?_
 refine QM.then (wpM.seq (wpM.region ?_))
 refine LM.mv rfl ?_
 refine LM.val (ov_build (cs := #[_, _, _, _]) rfl (by first | rfl | kernel_rfl)) ?_
 refine LM.box rfl rfl (fun b14 hb14 => ?_)
 refine LM.as rfl ?_
 refine LM.nil (QM.sub (e' := [(0, _), (5, _)]) ⟨rfl, rfl, trivial⟩ (QM.then (wpM.seq (wpM.region ?_))))
 refine LM.as rfl ?_
 refine LM.nil (QM.sub (e' := [(0, _), (5, _), (6, _)]) ⟨rfl, rfl, rfl, trivial⟩ (QM.then ?_))
 refine wpM.seq ?_
 refine wpM.seq (wpM.region ?_)
 change LM _ _ _ _ _ _ _ _ (xB b14 s 0 (-1) 0 :: []) _ _ _
 refine LM.mv rfl ?_
 refine LM.cW (oc_call (enters_fn Tryz.func108 (by kernel_rfl) rfl) rfl) (fun w hm hc hg => skip_spec b14 s 0 (-1) 0 w (Nat.zero_le _) (by omega) (hm.pick _)) rfl au8 ?_
 refine LM.nil (QM.sub (e' := [(0, _), (5, _), (6, _)]) ⟨rfl, rfl, rfl, trivial⟩ (QM.then ?_))
 refine wpM.block ?_
 refine wpM.loopK0 (α := Nat × Int × Int × List Wrd × Option Addr × Nat × Nat × Mem0) (fun ⟨i, last, kind, out, ad6, n6, cap6, m6⟩ => [(6, .slice ad6 n6 cap6)]) [(0, _), (5, _)] (fun ⟨i, last, kind, out, ad6, n6, cap6, m6⟩ => m6 ++ (xB b14 s i last kind :: [])) (fun ⟨i, last, kind, out, ad6, n6, cap6, m6⟩ => i ≤ s.length ∧ scanR s i last out = scanR s 0 (-1) [] ∧ (i < s.length → blankB (s.getD i 0) = false ∧ hashB (s.getD i 0) = false) ∧ n6 = out.length ∧ Sl fW 65 4 w.heap.size out (.slice ad6 n6 cap6) m6 ∧ (last = -1 ∨ (out ≠ [] ∧ kind = (out.getD (out.length - 1) default).k)) ∧ out.length ≤ i) (fun ⟨i, last, kind, out, ad6, n6, cap6, m6⟩ => s.length - i) ((skipO s 0, -1, 0, [], none, 0, 0, [])) ⟨au2, rfl, rfl, trivial⟩ au1 ⟨(skip_end (Nat.zero_le _)).2.1, (scanR_skip (Nat.zero_le _)).symm, (skip_end (Nat.zero_le _)).2.2, rfl, .nil _ _ _ _, .inl rfl, Nat.zero_le _⟩ ?_
 rintro ⟨i, last, kind, out, ad6, n6, cap6, m6⟩ ⟨hi, hsc, hbl, hn6, hs6, hlast, hol⟩
 change wpM _ _ _ _ _ _ _ (m6 ++ (xB b14 s i last kind :: [])) _ _ _
 have hlen8 : s.length ≤ 8000 := (by omega)
 refine wpM.seq ?_
 refine wpM.seq (wpM.region ?_)
 refine LM.mv rfl ?_
 refine LM.val (ov_nilCheck rfl) ?_
 refine LM.val (ov_field Tryz.underlying165 rfl Tryz.sizeOf3 rfl (k := 1) rfl rfl) ?_
 refine LM.rd (om_ld Tryz.isAgg3 rfl rfl) ?_
 refine LM.mv rfl ?_
 refine LM.val (ov_slenL Tryz.underlying9 rfl) ?_
 refine LM.val (ov_lss rfl rfl) ?_
 refine LM.nil (QM.sub (e' := [(0, _), (5, _), (6, _), (23, _)]) ⟨rfl, rfl, rfl, rfl, trivial⟩ (QM.then ?_))
 refine wpM.condD rfl (fun h2 => ?_) (fun h2 => ?_)
 ·
  have hl1 := one_lt (show i < s.length by omega)
  refine wpM.skip ?_
  refine QM.then ?_
  refine wpM.seq ?_
  refine wpM.block ?_
  refine wpM.seq (wpM.region ?_)
  refine LM.mv rfl ?_
  refine LM.cW (oc_call (enters_fn Tryz.func109 (by kernel_rfl) rfl) rfl) (fun w hm hc hg => tword_spec b14 s i last kind w (by omega) (by omega) (hm.pick _)) rfl au8 ?_
  refine LM.mv rfl ?_
  refine LM.val (ov_extract rfl rfl) ?_
  refine LM.val (ov_extract rfl rfl) ?_
  refine LM.alloc Tryz.zeroValue65 rfl (fun b7 hb7 => ?_)
  refine LM.stW Tryz.sizeOf65 rfl rfl rfl rfl au7 au8 ?_
  refine LM.as rfl ?_
  refine LM.nil (QM.sub (e' := [(0, _), (5, _), (6, _), (7, _), (8, _)]) ⟨rfl, rfl, rfl, rfl, rfl, trivial⟩ (QM.then ?_))
  refine wpM.seq ?_
  refine wpM.seq (wpM.region ?_)
  refine LM.mv rfl ?_
  first | refine LM.val (ov_notD rfl) ?_ | refine LM.val (ov_not rfl) ?_
  refine LM.nil (QM.sub (e' := [(0, _), (5, _), (6, _), (7, _), (32, _)]) ⟨rfl, rfl, rfl, rfl, rfl, trivial⟩ (QM.then ?_))
  first | refine wpM.condD rfl (fun h3 => ?_) (fun h3 => ?_) | refine wpM.condB rfl (fun h3 => ?_) (fun h3 => ?_)
  ·
   refine wpM.seq ?_
   refine wpM.draw [(0, 0), (1, 1), (2, 0), (3, 0), (4, 0)] (by kernel_rfl) (by kernel_rfl) ?_
   refine LD.val rfl rfl (ov_field Tryz.underlying65 rfl Tryz.sizeOf3 rfl (k := 3) rfl rfl) ?_
   refine LD.rd rfl rfl (om_ld Tryz.isAgg3 rfl rfl) ?_
   refine LD.val rfl rfl (ov_assign rfl) ?_
   refine LD.val rfl rfl (ov_assign rfl) ?_
   refine LD.val rfl rfl (ov_assign rfl) ?_
   refine LD.nil ?_
   refine QM.sub (e' := [(2, _), (3, _), (4, _)]) ⟨rfl, rfl, rfl, trivial⟩ (QM.then ?_)
   refine wpM.ret ?_
   refine QM.then_ret ?_
   refine QM.block_ret ?_
   refine QM.then_ret ?_
   refine QM.then_ret ?_
   refine QM.block_ret ?_
   refine QM.then_ret ?_
   refine QM.leave (.inl rfl) [.tmp 2, .tmp 3, .tmp 4] Tryz.results66 rfl ?_
   intro w' hm' hc' hg'
   have hokw : okW s i last kind = false := (by have q : (!okW s i last kind) = true := h3; simpa using q); have hr : scanO s = ([], (i : Int), 5) := (by unfold scanO; rw [if_neg (by omega), ← hsc, scanR_bad (by omega) (hbl (by omega)).1 (hbl (by omega)).2 (by rw [okW_bad hlast, hokw]; rfl)]); rw [hr]; refine ⟨hc', [], ⟨none, 0, 0, ?_, rfl, .nil _ _ _ _⟩, Mem.nil _, fun p hp => by cases hp⟩; show Value.tuple #[.slice none 0 0, .int .i64 (tokW s i).p, .int .i64 5] = _; rw [tokW_p]
  have hokw : okW s i last kind = true := (by unfold okW; simpa using h3); have hwx : tokW s i = (oneO s i).1 := tokW_ok (by have q := hokw; unfold okW at q; rw [Bool.and_eq_true] at q; exact q.1)
  refine wpM.skip ?_
  refine QM.then (wpM.region ?_)
  refine LM.mv rfl ?_
  refine LM.rd (om_ldW Tryz.isAgg65 Tryz.sizeOf65 rfl rfl) ?_
  refine LM.single Tryz.underlying23 Tryz.sizeOf65 Tryz.zeroValue65 rfl rfl rfl rfl rfl (fun b37 hb37 => ?_)
  refine LM.app (a := tokW s i) Tryz.underlying23 Tryz.typeInfo65 rfl rfl rfl rfl rfl rfl rfl (by assumption) (by rfl) (by intro _; rfl) (by intro _ u hu; simp [fW] at hu; (repeat (first | (rcases hu with rfl | hu) | subst hu | rfl))) (by first | exact Nat.le_refl _ | omega) au9 (by first | omega | (unfold maxLen; omega)) (by simp only [Tryz.t65]; omega) (fun ad38 n38 cap38 m38 hn38 hs38 hin38 => ?_)
  refine LM.as rfl ?_
  refine LM.nil (QM.sub (e' := [(0, _), (5, _), (6, _)]) ⟨rfl, rfl, rfl, trivial⟩ ?_)
  refine QM.block_normal ?_
  refine QM.then (wpM.region ?_)
  refine LM.mv rfl ?_
  refine LM.cW (oc_call (enters_fn Tryz.func108 (by kernel_rfl) rfl) rfl) (fun w hm hc hg => skip_spec b14 s (oneO s i).2.1 ((oneO s i).2.1 : Nat) (oneO s i).1.k w (by omega) (by omega) (hm.pick _)) rfl au8 ?_
  refine LM.nil (QM.sub (e' := [(0, _), (5, _), (6, _)]) ⟨rfl, rfl, rfl, trivial⟩ ?_)
  have hsk := skip_end hl1.2
  refine QM.againK ((skipO s (oneO s i).2.1, ((oneO s i).2.1 : Nat), (oneO s i).1.k, out ++ [tokW s i], ad38, n38, cap38, m38)) ⟨au2, rfl, rfl, trivial⟩ au1 (fun _ h => h) ?_ ?_
  · refine ⟨hsk.2.1, ?_, hsk.2.2, by rw [hn38]; simp, hs38, .inr ⟨by simp, ?_⟩, by simp; omega⟩; (rw [← scanR_skip hl1.2, hwx, ← scanR_word (by omega) (hbl (by omega)).1 (hbl (by omega)).2 (by rw [okW_bad hlast, hokw]; rfl)]; exact hsc); (rw [hwx]; simp)
  · first | omega | (dsimp only; omega)
 refine wpM.exit ?_
 refine QM.then_exit ?_
 refine QM.then_exit ?_
 refine QM.block_hit ?_
 refine QM.then (wpM.seq (wpM.region ?_))
 refine LM.mv rfl ?_
 refine LM.as rfl ?_
 refine LM.as rfl ?_
 refine LM.as rfl ?_
 refine LM.nil (QM.sub (e' := [(2, _), (3, _), (4, _)]) ⟨rfl, rfl, rfl, trivial⟩ (QM.then ?_))
 refine wpM.ret ?_
 refine QM.leave (.inl rfl) [.tmp 2, .tmp 3, .tmp 4] Tryz.results66 rfl ?_
 intro w' hm' hc' hg'
 have hr : scanO s = (out, 0, 0) := (by unfold scanO; rw [if_neg (by omega), ← hsc, scanR_end (by omega)]); rw [hr]; exact ⟨hc', m6, ⟨ad6, n6, cap6, rfl, hn6, hs6⟩, hm'.pick m6, fun p hp => Sl.ge hs6 p hp⟩
end Go.Eng
namespace Go.Eng
open Go Go.Proofs Go.RowKit
def ScV.same (x y : ScV) : Bool := decide (x.sv.C = y.sv.C) && decide (x.xs = y.xs)
def mayX (s : StC) (l : List Act) : Bool := mayS s && mayA l
def printX (s : StC) (l : List Act) : List UInt8 × Int := if mayX s l then joinO (setW s ++ l.flatMap actW) else ([], 1)
theorem mayA_len {l : List Act} (h : mayA l = true) : l.length ≤ 4000 := by
  unfold mayA at h; simp only [Bool.and_eq_true, decide_eq_true_eq] at h; exact h.1
theorem mayA_words {l : List Act} (h : mayA l = true) : wordsA l = (l.flatMap actW, 0) := by
  unfold mayA at h; simp only [Bool.and_eq_true, decide_eq_true_eq] at h
  unfold wordsA; rw [if_pos h.2, if_neg (by omega)]
set_option maxRecDepth 100000 in
theorem script_spec (s : List UInt8) (w : World) (hs : s.length ≤ 1000000000) : Ret Tryz.prog 24 #[vS s] w (fun v w' => Ext w w' ∧ ∃ m, SpT (scriptO s) w.heap.size v m ∧ Mem w' m ∧ ∀ p ∈ m, w.heap.size ≤ p.1) := by
 refine Ret.enterM (l := [vS s]) Tryz.func24 rfl Tryz.ntmps24 rfl ([]) (no) (Mem.nil w) ?_
 refine wpM.seq (wpM.region ?_)
 refine LM.alloc Tryz.zeroValue49 rfl (fun b2 hb2 => ?_)
 refine LM.as rfl ?_
 refine LM.as rfl ?_
 refine LM.nil (QM.sub (e' := [(0, _), (2, _)]) ⟨rfl, rfl, trivial⟩ (QM.then (wpM.seq (wpM.region ?_))))
 refine LM.mv rfl ?_
 refine LM.callT (oc_call (enters_fn Tryz.func66 (by kernel_rfl) rfl) rfl) ScT.mono (fun w hm hc hg => tscan_spec w) ?_
 rintro u13 m13 ⟨ad13, n13, cap13, rfl, hn13, hs13⟩ -; have hl13 := scan_len s
 refine LM.mv rfl ?_
 refine LM.val (ov_extract rfl rfl) ?_
 refine LM.val (ov_extract rfl rfl) ?_
 refine LM.val (ov_extract rfl rfl) ?_
 refine LM.as rfl ?_
 refine LM.as rfl ?_
 refine LM.as rfl ?_
 refine LM.nil (QM.sub (e' := [(0, _), (2, _), (5, _), (6, _), (7, _)]) ⟨rfl, rfl, rfl, rfl, rfl, trivial⟩ (QM.then ?_))
 refine wpM.seq ?_
 refine wpM.seq (wpM.region ?_)
 refine LM.mv rfl ?_
 refine LM.val (ov_neq rfl rfl) ?_
 refine LM.nil (QM.sub (e' := [(0, _), (2, _), (5, _), (6, _), (7, _), (18, _)]) ⟨rfl, rfl, rfl, rfl, rfl, rfl, trivial⟩ (QM.then ?_))
 refine wpM.condD rfl (fun h1 => ?_) (fun h1 => ?_)
 ·
  refine wpM.seq (wpM.region ?_)
  refine LM.val (ov_build (cs := #[_, _, _, _, _, _]) rfl (by first | rfl | kernel_rfl)) ?_
  refine LM.mv rfl ?_
  refine LM.mv rfl ?_
  refine LM.stW Tryz.sizeOf49 rfl rfl rfl rfl au7 au8 ?_
  refine LM.as rfl ?_
  refine LM.as rfl ?_
  refine LM.nil (QM.sub (e' := [(2, _), (3, _), (4, _)]) ⟨rfl, rfl, rfl, trivial⟩ (QM.then ?_))
  refine wpM.ret ?_
  refine QM.then_ret ?_
  refine QM.leaveCs (ds := ([])) (.inl rfl) [.cell 2 49, .tmp 3, .tmp 4] Tryz.results24 hd_nil (rc_w rfl Tryz.isAgg49 Tryz.sizeOf49 rfl (rc_tmp rfl (rc_tmp rfl rc_nil))) ?_
  intro w' hm' hc'
  unfold scriptO; rw [if_pos h1]; exact ⟨hc', [], SpT.nil0, Mem.nil _, fun p hp => by cases hp⟩
 refine wpM.skip ?_
 refine QM.then (wpM.seq (wpM.region ?_))
 refine LM.mv rfl ?_
 refine LM.callT (oc_call (enters_fn Tryz.func11 (by kernel_rfl) rfl) rfl) StT.mono (fun w hm hc hg => setup_spec 0 w hn13 (by omega) (hs13.srM (by intro _; rfl) hm)) ?_
 rintro u24 m24 ⟨sv, rfl, hsv, hin⟩ hge24
 refine LM.mv rfl ?_
 refine LM.val (ov_extract rfl rfl) ?_
 refine LM.val (ov_extract rfl rfl) ?_
 refine LM.val (ov_extract rfl rfl) ?_
 refine LM.alloc Tryz.zeroValue30 rfl (fun b8 hb8 => ?_)
 refine LM.stW Tryz.sizeOf30 rfl rfl rfl rfl au7 au8 ?_
 refine LM.as rfl ?_
 refine LM.as rfl ?_
 refine LM.nil (QM.sub (e' := [(0, _), (2, _), (5, _), (7, _), (8, _), (9, _)]) ⟨rfl, rfl, rfl, rfl, rfl, rfl, trivial⟩ (QM.then ?_))
 refine wpM.seq ?_
 refine wpM.seq (wpM.region ?_)
 refine LM.mv rfl ?_
 refine LM.val (ov_neq rfl rfl) ?_
 refine LM.nil (QM.sub (e' := [(0, _), (2, _), (5, _), (7, _), (8, _), (9, _), (29, _)]) ⟨rfl, rfl, rfl, rfl, rfl, rfl, rfl, trivial⟩ (QM.then ?_))
 refine wpM.condD rfl (fun h2 => ?_) (fun h2 => ?_)
 ·
  refine wpM.seq (wpM.region ?_)
  refine LM.val (ov_build (cs := #[_, _, _, _, _, _]) rfl (by first | rfl | kernel_rfl)) ?_
  refine LM.mv rfl ?_
  refine LM.mv rfl ?_
  refine LM.mv rfl ?_
  refine LM.callE (oc_call (enters_fn Tryz.func67 (by kernel_rfl) rfl) rfl) (fun w hm hc hg => splace_spec s _ w hn13 (hs13.srM (by intro _; rfl) hm) (set_pos _ _)) ?_
  refine LM.mv rfl ?_
  refine LM.stW Tryz.sizeOf49 rfl rfl rfl rfl au7 au8 ?_
  refine LM.as rfl ?_
  refine LM.as rfl ?_
  refine LM.nil (QM.sub (e' := [(2, _), (3, _), (4, _)]) ⟨rfl, rfl, rfl, trivial⟩ (QM.then ?_))
  refine wpM.ret ?_
  refine QM.then_ret ?_
  refine QM.leaveCs (ds := ([])) (.inl rfl) [.cell 2 49, .tmp 3, .tmp 4] Tryz.results24 hd_nil (rc_w rfl Tryz.isAgg49 Tryz.sizeOf49 rfl (rc_tmp rfl (rc_tmp rfl rc_nil))) ?_
  intro w' hm' hc'
  unfold scriptO; rw [if_neg h1, if_pos h2]; exact ⟨hc', [], SpT.nil0, Mem.nil _, fun p hp => by cases hp⟩
 refine wpM.skip ?_
 refine QM.then (wpM.seq (wpM.region ?_))
 refine LM.mv rfl ?_
 refine LM.mv rfl ?_
 refine LM.callT (oc_call (enters_fn Tryz.func68 (by kernel_rfl) rfl) rfl) AcT.mono (fun w hm hc hg => aparse_spec _ w hn13 (by omega) (hs13.srM (by intro _; rfl) hm)) ?_
 rintro u39 m39 ⟨ad39, n39, cap39, rfl, hn39, hs39⟩ hge39
 refine LM.mv rfl ?_
 refine LM.val (ov_extract rfl rfl) ?_
 refine LM.val (ov_extract rfl rfl) ?_
 refine LM.val (ov_extract rfl rfl) ?_
 refine LM.as rfl ?_
 refine LM.as rfl ?_
 refine LM.as rfl ?_
 refine LM.nil (QM.sub (e' := [(0, _), (2, _), (5, _), (7, _), (8, _), (9, _), (10, _)]) ⟨rfl, rfl, rfl, rfl, rfl, rfl, rfl, trivial⟩ (QM.then ?_))
 refine wpM.seq ?_
 refine wpM.seq (wpM.region ?_)
 refine LM.mv rfl ?_
 refine LM.val (ov_neq rfl rfl) ?_
 refine LM.nil (QM.sub (e' := [(0, _), (2, _), (5, _), (7, _), (8, _), (9, _), (10, _), (44, _)]) ⟨rfl, rfl, rfl, rfl, rfl, rfl, rfl, rfl, trivial⟩ (QM.then ?_))
 refine wpM.condD rfl (fun h3 => ?_) (fun h3 => ?_)
 ·
  refine wpM.seq (wpM.region ?_)
  refine LM.val (ov_build (cs := #[_, _, _, _, _, _]) rfl (by first | rfl | kernel_rfl)) ?_
  refine LM.mv rfl ?_
  refine LM.mv rfl ?_
  refine LM.mv rfl ?_
  refine LM.callE (oc_call (enters_fn Tryz.func67 (by kernel_rfl) rfl) rfl) (fun w hm hc hg => splace_spec s _ w hn13 (hs13.srM (by intro _; rfl) hm) (acts_pos _ _)) ?_
  refine LM.mv rfl ?_
  refine LM.stW Tryz.sizeOf49 rfl rfl rfl rfl au7 au8 ?_
  refine LM.as rfl ?_
  refine LM.as rfl ?_
  refine LM.nil (QM.sub (e' := [(2, _), (3, _), (4, _)]) ⟨rfl, rfl, rfl, trivial⟩ (QM.then ?_))
  refine wpM.ret ?_
  refine QM.then_ret ?_
  refine QM.leaveCs (ds := ([])) (.inl rfl) [.cell 2 49, .tmp 3, .tmp 4] Tryz.results24 hd_nil (rc_w rfl Tryz.isAgg49 Tryz.sizeOf49 rfl (rc_tmp rfl (rc_tmp rfl rc_nil))) ?_
  intro w' hm' hc'
  unfold scriptO; rw [if_neg h1, if_neg h2, if_pos h3]; exact ⟨hc', [], SpT.nil0, Mem.nil _, fun p hp => by cases hp⟩
 refine wpM.skip ?_
 refine QM.then (wpM.seq (wpM.region ?_))
 refine LM.rd (om_ldW Tryz.isAgg30 Tryz.sizeOf30 rfl rfl) ?_
 refine LM.mv rfl ?_
 refine LM.val (ov_build (cs := #[_, _, _, _, _, _]) rfl (by first | rfl | kernel_rfl)) ?_
 refine LM.stW Tryz.sizeOf49 rfl rfl rfl rfl au7 au8 ?_
 refine LM.as rfl ?_
 refine LM.as rfl ?_
 refine LM.nil (QM.sub (e' := [(2, _), (3, _), (4, _)]) ⟨rfl, rfl, rfl, trivial⟩ (QM.then ?_))
 refine wpM.ret ?_
 refine QM.leaveCs (ds := ([])) (.inl rfl) [.cell 2 49, .tmp 3, .tmp 4] Tryz.results24 hd_nil (rc_w rfl Tryz.isAgg49 Tryz.sizeOf49 rfl (rc_tmp rfl (rc_tmp rfl rc_nil))) ?_
 intro w' hm' hc'
 unfold scriptO; rw [if_neg h1, if_neg h2, if_neg h3]; refine ⟨hc', m39 ++ (m24 ++ []), ⟨⟨sv, _, ad39, n39, cap39⟩, rfl, hsv, rfl, fun w hm => ⟨hin w (hm.pick m24), hn39, hs39.srM (by intro _; rfl) hm⟩⟩, SubM.mem (by (repeat' (first | exact SubM.nil _ | refine SubM.app ?_))) w' hm', ?_⟩; intro p hp; simp only [List.mem_append, List.not_mem_nil, or_false] at hp; rcases hp with hp | hp; exact hge39 p hp; exact hge24 p hp
set_option maxRecDepth 100000 in
theorem xmay_spec {x : ScV} (w : World) (hX : x.In w) : Ret Tryz.prog 27 #[x.val] w (fun v w' => v = .bool (mayX x.sv.C x.xs) ∧ Ext w w') := by
 refine Ret.enterM (l := [x.val]) Tryz.func27 rfl Tryz.ntmps27 rfl ([]) (no) (Mem.nil w) ?_
 refine wpM.seq (wpM.region ?_)
 refine LM.box rfl rfl (fun b1 hb1 => ?_)
 refine LM.as rfl ?_
 refine LM.nil (QM.sub (e' := [(1, _)]) ⟨rfl, trivial⟩ (QM.then (wpM.seq (wpM.region ?_))))
 refine LM.val (ov_field Tryz.underlying49 rfl Tryz.sizeOf30 rfl (k := 0) rfl rfl) ?_
 first | refine LM.rd (om_ldW Tryz.isAgg30 Tryz.sizeOf30 rfl rfl) ?_ | refine LM.rd (om_ldA Tryz.isAgg30 Tryz.sizeOf30 rfl (vs := [_, _, _, _, _]) rfl ⟨rfl, rfl, rfl, rfl, rfl, trivial⟩) ?_
 refine LM.callE (oc_call (enters_fn Tryz.func14 (by kernel_rfl) rfl) rfl) (fun w hm hc hg => mayS_spec (s := x.sv) w (hX.st.ext hc)) ?_
 refine LM.mv rfl ?_
 first | refine LM.splitD (t := 6) rfl (fun h1 => ?_) (fun h1 => ?_) | refine LM.splitB (t := 6) rfl (fun h1 => ?_) (fun h1 => ?_)
 ·
  refine LM.sp 6 rfl rfl rfl ?_
  refine LM.val (ov_field Tryz.underlying49 rfl Tryz.sizeOf47 rfl (k := 5) rfl rfl) ?_
  refine LM.sp 6 rfl rfl rfl ?_
  refine LM.rd (om_ld Tryz.isAgg47 rfl rfl) ?_
  refine LM.sp 6 rfl rfl rfl ?_
  refine LM.callE (oc_call (enters_fn Tryz.func71 (by kernel_rfl) rfl) rfl) (fun w hm hc hg => amay_spec w hX.hn (hX.hx.ext hc)) ?_
  refine LM.val (ov_pickT rfl rfl) ?_
  refine LM.as rfl ?_
  refine LM.nil (QM.sub (e' := [(2, _)]) ⟨rfl, trivial⟩ (QM.then ?_))
  refine wpM.ret ?_
  refine QM.leave (.inl rfl) [.tmp 2] Tryz.results27 rfl ?_
  intro w' hm' hc' hg'
  refine ⟨?_, hc'⟩; simp only [resV, mayX]; simp only [h1, decide_true, decide_false, Bool.true_and, Bool.false_and, Bool.and_true, Bool.and_false, Bool.not_true, Bool.not_false, Bool.true_or, Bool.false_or, Bool.or_true, Bool.or_false, ne_eq, not_true_eq_false, not_false_eq_true, Bool.and_self]
 refine LM.dr 6 rfl rfl rfl ?_
 refine LM.dr 6 rfl rfl rfl ?_
 refine LM.dr 6 rfl rfl rfl ?_
 refine LM.val (ov_pickF rfl rfl) ?_
 refine LM.as rfl ?_
 refine LM.nil (QM.sub (e' := [(2, _)]) ⟨rfl, trivial⟩ (QM.then ?_))
 refine wpM.ret ?_
 refine QM.leave (.inl rfl) [.tmp 2] Tryz.results27 rfl ?_
 intro w' hm' hc' hg'
 refine ⟨?_, hc'⟩; simp only [resV, mayX]; simp only [h1, decide_true, decide_false, Bool.true_and, Bool.false_and, Bool.and_true, Bool.and_false, Bool.not_true, Bool.not_false, Bool.true_or, Bool.false_or, Bool.or_true, Bool.or_false, ne_eq, not_true_eq_false, not_false_eq_true, Bool.and_self]
set_option maxRecDepth 100000 in
theorem rxsame_spec {x y : ScV} (w : World) (hX : x.In w) (hY : y.In w) (hb : x.sv.Bd) (hl : x.xs.length ≤ 1000000) : Ret Tryz.prog 26 #[x.val, y.val] w (fun v w' => v = .bool (x.same y) ∧ Ext w w') := by
 refine Ret.enterM (l := [x.val, y.val]) Tryz.func26 rfl Tryz.ntmps26 rfl ([]) (no) (Mem.nil w) ?_
 refine wpM.seq (wpM.region ?_)
 refine LM.box rfl rfl (fun b2 hb2 => ?_)
 refine LM.box rfl rfl (fun b3 hb3 => ?_)
 refine LM.as rfl ?_
 refine LM.nil (QM.sub (e' := [(2, _), (3, _)]) ⟨rfl, rfl, trivial⟩ (QM.then (wpM.seq (wpM.region ?_))))
 refine LM.val (ov_field Tryz.underlying49 rfl Tryz.sizeOf30 rfl (k := 0) rfl rfl) ?_
 first | refine LM.rd (om_ldW Tryz.isAgg30 Tryz.sizeOf30 rfl rfl) ?_ | refine LM.rd (om_ldA Tryz.isAgg30 Tryz.sizeOf30 rfl (vs := [_, _, _, _, _]) rfl ⟨rfl, rfl, rfl, rfl, rfl, trivial⟩) ?_
 refine LM.val (ov_field Tryz.underlying49 rfl Tryz.sizeOf30 rfl (k := 0) rfl rfl) ?_
 first | refine LM.rd (om_ldW Tryz.isAgg30 Tryz.sizeOf30 rfl rfl) ?_ | refine LM.rd (om_ldA Tryz.isAgg30 Tryz.sizeOf30 rfl (vs := [_, _, _, _, _]) rfl ⟨rfl, rfl, rfl, rfl, rfl, trivial⟩) ?_
 refine LM.callE (oc_call (enters_fn Tryz.func13 (by kernel_rfl) rfl) rfl) (fun w hm hc hg => rssame_spec (a := x.sv) (b := y.sv) w (hX.st.ext hc) (hY.st.ext hc) hb) ?_
 refine LM.mv rfl ?_
 refine LM.splitD (t := 10) rfl (fun h1 => ?_) (fun h1 => ?_)
 ·
  refine LM.sp 10 rfl rfl rfl ?_
  refine LM.val (ov_field Tryz.underlying49 rfl Tryz.sizeOf47 rfl (k := 5) rfl rfl) ?_
  refine LM.sp 10 rfl rfl rfl ?_
  refine LM.rd (om_ld Tryz.isAgg47 rfl rfl) ?_
  refine LM.sp 10 rfl rfl rfl ?_
  refine LM.val (ov_field Tryz.underlying49 rfl Tryz.sizeOf47 rfl (k := 5) rfl rfl) ?_
  refine LM.sp 10 rfl rfl rfl ?_
  refine LM.rd (om_ld Tryz.isAgg47 rfl rfl) ?_
  refine LM.sp 10 rfl rfl rfl ?_
  refine LM.callE (oc_call (enters_fn Tryz.func32 (by kernel_rfl) rfl) rfl) (fun w hm hc hg => asame_spec w hX.hn (hX.hx.ext hc) hY.hn (hY.hx.ext hc) (by omega)) ?_
  refine LM.val (ov_pickT rfl rfl) ?_
  refine LM.as rfl ?_
  refine LM.nil (QM.sub (e' := [(4, _)]) ⟨rfl, trivial⟩ (QM.then ?_))
  refine wpM.ret ?_
  refine QM.leave (.inl rfl) [.tmp 4] Tryz.results26 rfl ?_
  intro w' hm' hc' hg'
  refine ⟨?_, hc'⟩; simp only [resV, ScV.same]; simp only [h1, decide_true, decide_false, Bool.true_and, Bool.false_and, Bool.and_true, Bool.and_false, Bool.not_true, Bool.not_false, Bool.true_or, Bool.false_or, Bool.or_true, Bool.or_false, ne_eq, not_true_eq_false, not_false_eq_true, Bool.and_self]
 refine LM.dr 10 rfl rfl rfl ?_
 refine LM.dr 10 rfl rfl rfl ?_
 refine LM.dr 10 rfl rfl rfl ?_
 refine LM.dr 10 rfl rfl rfl ?_
 refine LM.dr 10 rfl rfl rfl ?_
 refine LM.val (ov_pickF rfl rfl) ?_
 refine LM.as rfl ?_
 refine LM.nil (QM.sub (e' := [(4, _)]) ⟨rfl, trivial⟩ (QM.then ?_))
 refine wpM.ret ?_
 refine QM.leave (.inl rfl) [.tmp 4] Tryz.results26 rfl ?_
 intro w' hm' hc' hg'
 refine ⟨?_, hc'⟩; simp only [resV, ScV.same]; simp only [h1, decide_true, decide_false, Bool.true_and, Bool.false_and, Bool.and_true, Bool.and_false, Bool.not_true, Bool.not_false, Bool.true_or, Bool.false_or, Bool.or_true, Bool.or_false, ne_eq, not_true_eq_false, not_false_eq_true, Bool.and_self]
end Go.Eng
namespace Go.Eng
open Go Go.Proofs Go.RowKit
structure SlW where
  ad : Option Addr
  n : Nat
  cap : Nat
  xs : List Wrd
  deriving Inhabited
def fSl (x : SlW) : List Value := [.slice x.ad x.n x.cap]
def allW (L : List SlW) : List Wrd := L.flatMap SlW.xs
theorem allW_snoc {L : List SlW} {i : Nat} (h : i < L.length) : allW (L.take (i + 1)) = allW (L.take i) ++ (L.getD i default).xs := by
  unfold allW; rw [take_snoc default h, List.flatMap_append]; simp
theorem allW_le (L : List SlW) (i : Nat) : (allW (L.take i)).length ≤ (allW L).length := by
  have := congrArg List.length (congrArg allW (List.take_append_drop i L))
  unfold allW at this ⊢; rw [List.flatMap_append, List.length_append] at this; omega
set_option maxRecDepth 100000 in
theorem growW_spec (k : Nat) (w : World) (hk : k ≤ 1000000) : Ret Tryz.prog 121 #[.slice none 0 0, .int .i64 (k : Nat)] w (New fW 65 4 [] w) := by
 refine Ret.enterM (l := [.slice none 0 0, .int .i64 (k : Nat)]) Tryz.func121 rfl Tryz.ntmps121 rfl ([]) (no) (Mem.nil w) ?_
 refine wpM.seq (wpM.region ?_)
 refine LM.as rfl ?_
 refine LM.nil (QM.sub (e' := [(0, _), (1, _)]) ⟨rfl, rfl, trivial⟩ (QM.then ?_))
 refine wpM.seq ?_
 refine wpM.seq (wpM.region ?_)
 refine LM.mv rfl ?_
 refine LM.val (ov_lss rfl rfl) ?_
 refine LM.nil (QM.sub (e' := [(0, _), (1, _), (6, _)]) ⟨rfl, rfl, rfl, trivial⟩ (QM.then ?_))
 refine wpM.condD rfl (fun h1 => ?_) (fun h1 => ?_)
 ·
  exfalso; omega
 refine wpM.skip ?_
 refine QM.then ?_
 refine wpM.seq ?_
 refine wpM.seq (wpM.region ?_)
 refine LM.mv rfl ?_
 refine LM.mv rfl ?_
 refine LM.val (ov_cap Tryz.underlying23 rfl) ?_
 refine LM.mv rfl ?_
 refine LM.val (ov_len Tryz.underlying23 rfl) ?_
 refine LM.val (ov_sub64 rfl rfl (by omega)) ?_
 refine LM.val (ov_sub64 rfl rfl (by omega)) ?_
 refine LM.as rfl ?_
 refine LM.nil (QM.sub (e' := [(0, _), (1, _)]) ⟨rfl, rfl, trivial⟩ (QM.then (wpM.seq (wpM.region ?_))))
 refine LM.mv rfl ?_
 refine LM.val (ov_gtr rfl rfl) ?_
 refine LM.nil (QM.sub (e' := [(0, _), (1, _), (16, _)]) ⟨rfl, rfl, rfl, trivial⟩ (QM.then ?_))
 refine wpM.condD rfl (fun h2 => ?_) (fun h2 => ?_)
 ·
  refine wpM.region ?_
  refine LM.mv rfl ?_
  refine LM.mv rfl ?_
  refine LM.val (ov_cap Tryz.underlying23 rfl) ?_
  refine LM.val (ov_subHi Tryz.underlying23 Tryz.sizeOf65 rfl rfl (by omega) (by omega)) ?_
  refine LM.mv rfl ?_
  refine LM.appZ (n := k) Tryz.underlying23 Tryz.underlying3 Tryz.typeInfo65 rfl rfl rfl rfl rfl rfl rfl (by omega) (by omega) (by unfold maxLen; omega) (by simp only [Tryz.t65]; omega) (fun b22 cap22 cs22 hb22 hn22 hc22 hl22 => ?_)
  refine LM.mv rfl ?_
  refine LM.val (ov_len Tryz.underlying23 rfl) ?_
  refine LM.val (ov_subHi Tryz.underlying23 Tryz.sizeOf65 rfl rfl (by omega) (by omega)) ?_
  refine LM.as rfl ?_
  refine LM.nil (QM.sub (e' := [(0, _)]) ⟨rfl, trivial⟩ (QM.then (wpM.seq (wpM.region ?_))))
  refine LM.mv rfl ?_
  refine LM.as rfl ?_
  refine LM.nil (QM.sub (e' := [(4, _)]) ⟨rfl, trivial⟩ (QM.then ?_))
  refine wpM.ret ?_
  refine QM.leave (.inl rfl) [.tmp 4] Tryz.results121 rfl ?_
  intro w' hm' hc' hg'
  exact ⟨hc', _, .void hb22 hc22 hl22, hm'⟩
 refine wpM.skip ?_
 refine QM.then (wpM.seq (wpM.region ?_))
 refine LM.mv rfl ?_
 refine LM.as rfl ?_
 refine LM.nil (QM.sub (e' := [(4, _)]) ⟨rfl, trivial⟩ (QM.then ?_))
 refine wpM.ret ?_
 refine QM.leave (.inl rfl) [.tmp 4] Tryz.results121 rfl ?_
 intro w' hm' hc' hg'
 exact ⟨hc', [], .nil _ _ _ _, Mem.nil _⟩
set_option maxRecDepth 100000 in
theorem concat_spec {L : List SlW} {ad : Option Addr} {n cap : Nat} (w : World) (hn : n = L.length) (hl : Sr fSl 1 L (.slice ad n cap) w) (hL : ∀ x ∈ L, x.n = x.xs.length ∧ Sr fW 4 x.xs (.slice x.ad x.n x.cap) w) (hz : (allW L).length ≤ 1000000) (hk : L.length ≤ 1000000) : Ret Tryz.prog 73 #[.slice ad n cap] w (New fW 65 4 (allW L) w) := by
 refine Ret.enterM (l := [.slice ad n cap]) Tryz.func73 rfl Tryz.ntmps73 rfl ([]) (no) (Mem.nil w) ?_
 refine wpM.seq (wpM.region ?_)
 refine LM.as rfl ?_
 refine LM.nil (QM.sub (e' := [(0, _)]) ⟨rfl, trivial⟩ (QM.then (wpM.seq (wpM.region ?_))))
 refine LM.as rfl ?_
 refine LM.nil (QM.sub (e' := [(0, _), (3, _)]) ⟨rfl, rfl, trivial⟩ (QM.then ?_))
 refine wpM.seq ?_
 refine wpM.seq (wpM.region ?_)
 refine LM.mv rfl ?_
 refine LM.val (ov_len Tryz.underlying176 rfl) ?_
 refine LM.mv rfl ?_
 refine LM.nil (QM.sub (e' := [(0, _), (3, _), (9, _), (10, _), (11, _)]) ⟨rfl, rfl, rfl, rfl, rfl, trivial⟩ (QM.then ?_))
 refine wpM.block ?_
 refine wpM.loopK0 (α := Nat) (fun i => [(3, .int .i64 ((allW (L.take i)).length : Nat)), (11, .int .i64 (i : Nat))]) [(0, _), (9, _), (10, _)] (fun i => []) (fun i => i ≤ L.length) (fun i => L.length - i) (0) ⟨au2, au2, rfl, rfl, rfl, trivial⟩ au1 (Nat.zero_le _) ?_
 rintro i hi
 change wpM _ _ _ _ _ _ _ ([]) _ _ _
 refine wpM.seq (wpM.region ?_)
 refine LM.val (ov_lss rfl rfl) ?_
 refine LM.nil (QM.sub (e' := [(0, _), (3, _), (9, _), (10, _), (11, _), (12, _)]) ⟨rfl, rfl, rfl, rfl, rfl, rfl, trivial⟩ (QM.then ?_))
 refine wpM.seq ?_
 refine wpM.condD rfl (fun h1 => ?_) (fun h1 => ?_)
 ·
  refine wpM.skip ?_
  refine QM.then ?_
  refine wpM.seq ?_
  refine wpM.block ?_
  refine wpM.seq (wpM.region ?_)
  refine LM.val (ov_idxSN au6 Tryz.underlying176 Tryz.sizeOf23 rfl rfl (by omega)) ?_
  first | refine LM.rd (om_sl1 (by assumption) (by intro _; rfl) Tryz.isAgg23 rfl rfl au3 (by rfl)) ?_ | refine LM.rdC (om_sr1 (by assumption) Tryz.isAgg23 rfl rfl au3 (by rfl) id) ?_ | refine LM.rd (om_ld Tryz.isAgg23 rfl rfl) ?_
  refine LM.as rfl ?_
  refine LM.nil (QM.sub (e' := [(0, _), (3, _), (5, _), (9, _), (10, _), (11, _)]) ⟨rfl, rfl, rfl, rfl, rfl, rfl, trivial⟩ (QM.then (wpM.seq (wpM.region ?_))))
  have hgi : L.getD i default ∈ L := (by rw [List.getD_eq_getElem?_getD, List.getElem?_eq_getElem (by omega)]; exact List.getElem_mem _); have hni := (hL _ hgi).1; have hsn := congrArg List.length (allW_snoc (L := L) (i := i) (by omega)); have hle := allW_le L (i + 1); rw [List.length_append] at hsn
  refine LM.mv rfl ?_
  refine LM.mv rfl ?_
  refine LM.val (ov_len Tryz.underlying23 rfl) ?_
  refine LM.val (ov_add64 rfl rfl (by omega)) ?_
  refine LM.as rfl ?_
  refine LM.nil (QM.sub (e' := [(0, _), (3, _), (9, _), (10, _), (11, _)]) ⟨rfl, rfl, rfl, rfl, rfl, trivial⟩ (QM.then (wpM.seq (wpM.region ?_))))
  refine LM.mv rfl ?_
  refine LM.val (ov_lss rfl rfl) ?_
  refine LM.nil (QM.sub (e' := [(0, _), (3, _), (9, _), (10, _), (11, _), (20, _)]) ⟨rfl, rfl, rfl, rfl, rfl, rfl, trivial⟩ (QM.then ?_))
  refine wpM.condD rfl (fun h2 => ?_) (fun h2 => ?_)
  ·
   exfalso; omega
  refine wpM.skip ?_
  refine QM.block_normal ?_
  refine QM.then (wpM.region ?_)
  refine LM.val (ov_add64 rfl rfl (by omega)) ?_
  refine LM.mv rfl ?_
  refine LM.nil (QM.sub (e' := [(0, _), (3, _), (9, _), (10, _), (11, _)]) ⟨rfl, rfl, rfl, rfl, rfl, trivial⟩ ?_)
  refine QM.againK (i + 1) ⟨au2, au2, rfl, rfl, rfl, trivial⟩ au1 (fun _ h => h) ?_ ?_
  · exact (by omega)
  · omega
 refine wpM.exit ?_
 refine QM.then_exit ?_
 refine QM.then_exit ?_
 refine QM.block_hit ?_
 refine QM.then (wpM.seq (wpM.region ?_))
 refine LM.mv rfl ?_
 refine LM.cS (oc_call (enters_fn Tryz.func121 (by kernel_rfl) rfl) rfl) (fun w hm hc hg => growW_spec (allW (L.take i)).length w (by have := allW_le L i; omega)) (fun ad24 n24 cap24 m24 hn24 hs24 => ?_)
 refine LM.as rfl ?_
 refine LM.nil (QM.sub (e' := [(0, _), (6, _)]) ⟨rfl, rfl, trivial⟩ (QM.then ?_))
 refine wpM.seq ?_
 refine wpM.seq (wpM.region ?_)
 refine LM.mv rfl ?_
 refine LM.val (ov_len Tryz.underlying176 rfl) ?_
 refine LM.mv rfl ?_
 refine LM.nil (QM.sub (e' := [(6, _), (25, _), (26, _), (27, _)]) ⟨rfl, rfl, rfl, rfl, trivial⟩ (QM.then ?_))
 refine wpM.block ?_
 refine wpM.loopK0 (α := Nat × Option Addr × Nat × Nat × Mem0) (fun ⟨i, ad6, n6, cap6, m6⟩ => [(6, .slice ad6 n6 cap6), (27, .int .i64 (i : Nat))]) [(25, _), (26, _)] (fun ⟨i, ad6, n6, cap6, m6⟩ => m6 ++ []) (fun ⟨i, ad6, n6, cap6, m6⟩ => i ≤ L.length ∧ n6 = (allW (L.take i)).length ∧ Sl fW 65 4 w.heap.size (allW (L.take i)) (.slice ad6 n6 cap6) m6) (fun ⟨i, ad6, n6, cap6, m6⟩ => L.length - i) ((0, ad24, n24, cap24, m24)) ⟨au2, au2, rfl, rfl, trivial⟩ au1 ⟨Nat.zero_le _, hn24, hs24⟩ ?_
 rintro ⟨i, ad6, n6, cap6, m6⟩ ⟨hi, hn6, hs6⟩
 change wpM _ _ _ _ _ _ _ (m6 ++ []) _ _ _
 refine wpM.seq (wpM.region ?_)
 refine LM.val (ov_lss rfl rfl) ?_
 refine LM.nil (QM.sub (e' := [(6, _), (25, _), (26, _), (27, _), (28, _)]) ⟨rfl, rfl, rfl, rfl, rfl, trivial⟩ (QM.then ?_))
 refine wpM.seq ?_
 refine wpM.condD rfl (fun h3 => ?_) (fun h3 => ?_)
 ·
  refine wpM.skip ?_
  refine QM.then ?_
  refine wpM.seq ?_
  refine wpM.block ?_
  refine wpM.seq (wpM.region ?_)
  refine LM.val (ov_idxSN au6 Tryz.underlying176 Tryz.sizeOf23 rfl rfl (by omega)) ?_
  first | refine LM.rd (om_sl1 (by assumption) (by intro _; rfl) Tryz.isAgg23 rfl rfl au3 (by rfl)) ?_ | refine LM.rdC (om_sr1 (by assumption) Tryz.isAgg23 rfl rfl au3 (by rfl) id) ?_ | refine LM.rd (om_ld Tryz.isAgg23 rfl rfl) ?_
  refine LM.as rfl ?_
  refine LM.nil (QM.sub (e' := [(6, _), (8, _), (25, _), (26, _), (27, _)]) ⟨rfl, rfl, rfl, rfl, rfl, trivial⟩ (QM.then (wpM.region ?_)))
  have hgi : L.getD i default ∈ L := (by rw [List.getD_eq_getElem?_getD, List.getElem?_eq_getElem (by omega)]; exact List.getElem_mem _); have hni := (hL _ hgi).1; have hsn := congrArg List.length (allW_snoc (L := L) (i := i) (by omega)); have hle := allW_le L (i + 1); rw [List.length_append] at hsn
  refine LM.mv rfl ?_
  refine LM.mv rfl ?_
  refine LM.appN (ys := (L.getD i default).xs) Tryz.underlying23 Tryz.typeInfo65 rfl rfl rfl rfl rfl rfl rfl hs6 (fun w hm hc hg => (hL _ hgi).2.ext hc) (by intro _; rfl) (by intro _ u hu; simp [fW] at hu; (repeat (first | (rcases hu with rfl | hu) | subst hu | rfl))) (Nat.le_refl _) (fun p hp hlt => absurd hlt (Nat.not_lt_of_le (Sl.ge hs6 p hp))) (by unfold maxLen; omega) (by simp only [Tryz.t65]; omega) (fun ad33 n33 cap33 m33 hn33 hs33 hin33 => ?_)
  refine LM.as rfl ?_
  refine LM.nil (QM.sub (e' := [(6, _), (25, _), (26, _), (27, _)]) ⟨rfl, rfl, rfl, rfl, trivial⟩ ?_)
  refine QM.block_normal ?_
  refine QM.then (wpM.region ?_)
  refine LM.val (ov_add64 rfl rfl (by omega)) ?_
  refine LM.mv rfl ?_
  refine LM.nil (QM.sub (e' := [(6, _), (25, _), (26, _), (27, _)]) ⟨rfl, rfl, rfl, rfl, trivial⟩ ?_)
  refine QM.againK ((i + 1, ad33, n33, cap33, m33)) ⟨au2, au2, rfl, rfl, trivial⟩ au1 (fun _ h => h) ?_ ?_
  · exact ⟨by omega, by rw [allW_snoc (by omega), List.length_append]; exact hn33, by rw [allW_snoc (by omega)]; exact hs33⟩
  · first | omega | (dsimp only; omega)
 refine wpM.exit ?_
 refine QM.then_exit ?_
 refine QM.then_exit ?_
 refine QM.block_hit ?_
 refine QM.then (wpM.seq (wpM.region ?_))
 refine LM.mv rfl ?_
 refine LM.as rfl ?_
 refine LM.nil (QM.sub (e' := [(2, _)]) ⟨rfl, trivial⟩ (QM.then ?_))
 refine wpM.ret ?_
 refine QM.leave (.inl rfl) [.tmp 2] Tryz.results73 rfl ?_
 intro w' hm' hc' hg'
 exact ⟨hc', m6, by (have he : i = L.length := by omega); rw [he, List.take_length] at hs6; exact hs6, hm'.pick _⟩
theorem acts_text (l : List Act) : ∀ x ∈ l.flatMap actW, x.t.length ≤ 7 := by
  intro x hx; obtain ⟨o, _, ho⟩ := List.mem_flatMap.1 hx; exact actW_text o x ho
theorem setW_t (s : StC) (l : List Act) : ∀ x ∈ setW s ++ l.flatMap actW, x.t.length ≤ 7 := by
  intro x hx
  rcases List.mem_append.1 hx with h | h
  · exact setW_text s x h
  · exact acts_text l x h
set_option maxRecDepth 100000 in
theorem xprint_spec {x : ScV} (w : World) (hX : x.In w) (hT : Tb w) : Ret Tryz.prog 28 #[x.val] w (fun v w' => v = .tuple #[vS (printX x.sv.C x.xs).1, .int .i64 (printX x.sv.C x.xs).2] ∧ Ext w w') := by
 refine Ret.enterM (l := [x.val]) Tryz.func28 rfl Tryz.ntmps28 rfl ([]) (no) (Mem.nil w) ?_
 refine wpM.seq (wpM.region ?_)
 refine LM.box rfl rfl (fun b1 hb1 => ?_)
 refine LM.as rfl ?_
 refine LM.as rfl ?_
 refine LM.nil (QM.sub (e' := [(1, _)]) ⟨rfl, trivial⟩ (QM.then ?_))
 refine wpM.seq ?_
 refine wpM.seq (wpM.region ?_)
 refine LM.rd (om_ldW Tryz.isAgg49 Tryz.sizeOf49 rfl rfl) ?_
 refine LM.callE (oc_call (enters_fn Tryz.func27 (by kernel_rfl) rfl) rfl) (fun w hm hc hg => xmay_spec w (hX.ext hc)) ?_
 first | refine LM.val (ov_notD rfl) ?_ | refine LM.val (ov_not rfl) ?_
 refine LM.nil (QM.sub (e' := [(1, _), (10, _)]) ⟨rfl, rfl, trivial⟩ (QM.then ?_))
 first | refine wpM.condD rfl (fun h1 => ?_) (fun h1 => ?_) | refine wpM.condB rfl (fun h1 => ?_) (fun h1 => ?_)
 ·
  refine wpM.seq (wpM.region ?_)
  refine LM.as rfl ?_
  refine LM.as rfl ?_
  refine LM.nil (QM.sub (e' := [(2, _), (3, _)]) ⟨rfl, rfl, trivial⟩ (QM.then ?_))
  refine wpM.ret ?_
  refine QM.then_ret ?_
  refine QM.leave (.inl rfl) [.tmp 2, .tmp 3] Tryz.results28 rfl ?_
  intro w' hm' hc' hg'
  refine ⟨?_, hc'⟩; unfold printX; rw [if_neg (by simpa using h1)]; rfl
 have hmX : mayX x.sv.C x.xs = true := (by simpa using h1); have hmS : mayS x.sv.C = true := (by unfold mayX at hmX; simp only [Bool.and_eq_true] at hmX; exact hmX.1); have hmA : mayA x.xs = true := (by unfold mayX at hmX; simp only [Bool.and_eq_true] at hmX; exact hmX.2); have hla := mayA_len hmA
 refine wpM.skip ?_
 refine QM.then (wpM.seq (wpM.region ?_))
 refine LM.val (ov_field Tryz.underlying49 rfl Tryz.sizeOf30 rfl (k := 0) rfl rfl) ?_
 first | refine LM.rd (om_ldW Tryz.isAgg30 Tryz.sizeOf30 rfl rfl) ?_ | refine LM.rd (om_ldA Tryz.isAgg30 Tryz.sizeOf30 rfl (vs := [_, _, _, _, _]) rfl ⟨rfl, rfl, rfl, rfl, rfl, trivial⟩) ?_
 refine LM.callT (oc_call (enters_fn Tryz.func18 (by kernel_rfl) rfl) rfl) WoT.mono (fun w hm hc hg => swords_spec w (hX.st.ext hc)) ?_
 rw [show wordsS x.sv.C = (setW x.sv.C, 0) by unfold wordsS; rw [if_pos hmS]]; rintro u14 m14 ⟨ad14, n14, cap14, rfl, hn14, hs14⟩ -
 refine LM.mv rfl ?_
 refine LM.val (ov_extract rfl rfl) ?_
 refine LM.val (ov_extract rfl rfl) ?_
 refine LM.as rfl ?_
 refine LM.as rfl ?_
 refine LM.nil (QM.sub (e' := [(1, _), (4, _)]) ⟨rfl, rfl, trivial⟩ (QM.then (wpM.seq (wpM.region ?_))))
 refine LM.val (ov_field Tryz.underlying49 rfl Tryz.sizeOf47 rfl (k := 5) rfl rfl) ?_
 refine LM.rd (om_ld Tryz.isAgg47 rfl rfl) ?_
 refine LM.callT (oc_call (enters_fn Tryz.func72 (by kernel_rfl) rfl) rfl) WoT.mono (fun w hm hc hg => awords_spec w hX.hn (hX.hx.ext hc) (by omega)) ?_
 rw [mayA_words hmA]; rintro u20 m20 ⟨ad20, n20, cap20, rfl, hn20, hs20⟩ -
 refine LM.mv rfl ?_
 refine LM.val (ov_extract rfl rfl) ?_
 refine LM.val (ov_extract rfl rfl) ?_
 refine LM.as rfl ?_
 refine LM.as rfl ?_
 refine LM.nil (QM.sub (e' := [(4, _), (6, _)]) ⟨rfl, rfl, trivial⟩ (QM.then (wpM.seq (wpM.region ?_))))
 refine LM.mv rfl ?_
 refine LM.mv rfl ?_
 refine LM.row (vs := [_, _]) Tryz.underlying176 Tryz.sizeOf23 Tryz.zeroValue23 rfl rfl rfl rfl rfl rfl (fun b25 hb25 => ?_)
 have hs25 : Sl fSl 23 1 w.heap.size [⟨ad14, n14, cap14, setW x.sv.C⟩, ⟨ad20, n20, cap20, x.xs.flatMap actW⟩] (.slice (some ⟨b25, 0, none⟩) 2 2) [(b25, .cells (arr fSl [⟨ad14, n14, cap14, setW x.sv.C⟩, ⟨ad20, n20, cap20, x.xs.flatMap actW⟩] []) 23 (0, 0))] := .inr ⟨b25, 2, [], hb25, rfl, rfl, Nat.le_refl 2, by unfold maxLen; decide, rfl⟩; have hlA := flatA_len x.xs; have hlS := setW_len hmS; have hlW : (allW [⟨ad14, n14, cap14, setW x.sv.C⟩, ⟨ad20, n20, cap20, x.xs.flatMap actW⟩]).length = (setW x.sv.C).length + (x.xs.flatMap actW).length := (by simp [allW])
 refine LM.cS (oc_call (enters_fn Tryz.func73 (by kernel_rfl) rfl) rfl) (fun w hm hc hg => concat_spec (L := [⟨ad14, n14, cap14, setW x.sv.C⟩, ⟨ad20, n20, cap20, x.xs.flatMap actW⟩]) w rfl (by have hm2 : Mem w ((b25, .cells (arr fSl [⟨ad14, n14, cap14, setW x.sv.C⟩, ⟨ad20, n20, cap20, x.xs.flatMap actW⟩] []) 23 (0, 0)) :: _) := hm; exact hs25.srM (by intro _; rfl) hm2) (by intro p hp; simp only [List.mem_cons, List.not_mem_nil, or_false] at hp; rcases hp with rfl | rfl; exact ⟨hn14, hs14.srM (by intro _; rfl) hm⟩; exact ⟨hn20, hs20.srM (by intro _; rfl) hm⟩) (by rw [hlW]; omega) (by show 2 ≤ 1000000; decide)) (fun ad26 n26 cap26 m26 hn26 hs26 => ?_)
 refine LM.callE (oc_call (enters_fn Tryz.func54 (by kernel_rfl) rfl) rfl) (fun w hm hc hg => join_spec (ws := setW x.sv.C ++ x.xs.flatMap actW) w (by rw [hn26]; simp [allW]) (by rw [List.length_append]; omega) (by have he : allW [⟨ad14, n14, cap14, setW x.sv.C⟩, ⟨ad20, n20, cap20, x.xs.flatMap actW⟩] = setW x.sv.C ++ x.xs.flatMap actW := (by simp [allW]); rw [← he]; exact hs26.srM (by intro _; rfl) hm) (by intro y hy; have := setW_t _ _ y hy; omega) (hT.ext hc)) ?_
 refine LM.val (ov_extract rfl rfl) ?_
 refine LM.val (ov_extract rfl rfl) ?_
 refine LM.as rfl ?_
 refine LM.as rfl ?_
 refine LM.nil (QM.sub (e' := [(2, _), (3, _)]) ⟨rfl, rfl, trivial⟩ (QM.then ?_))
 refine wpM.ret ?_
 refine QM.leave (.inl rfl) [.tmp 2, .tmp 3] Tryz.results28 rfl ?_
 intro w' hm' hc' hg'
 refine ⟨?_, hc'⟩; unfold printX; rw [if_pos hmX]; rfl
end Go.Eng
namespace Go.Eng
open Go Go.Proofs Go.RowKit
def aw14L : List UInt8 := [99, 111, 114, 101, 115, 32, 49, 59, 32, 103, 114, 97, 105, 110, 32, 49, 59, 32, 103, 114, 111, 117, 112, 32, 49, 59, 32, 112, 114, 111, 103, 32, 123, 32, 101, 120, 105, 116, 59, 32, 125, 32, 115, 112, 97, 119, 110, 32, 48, 32, 48, 32, 49, 32, 48, 59, 32, 116, 105, 99, 107, 32, 48, 59]
def aw14M : List UInt8 := [99, 111, 114, 101, 115, 32, 49, 59, 32, 103, 114, 97, 105, 110, 32, 49, 59, 32, 103, 114, 111, 117, 112, 32, 49, 59, 32, 112, 114, 111, 103, 32, 123, 32, 101, 120, 105, 116, 59, 32, 125, 32, 115, 112, 97, 119, 110, 32, 48, 32, 48, 32, 49, 32, 48, 59, 32, 116, 105, 99, 107, 32, 48, 59, 32, 120]
def aw14S : StC := ⟨1, 1, [1], [], [⟨false, [⟨11, 0, 0⟩]⟩]⟩
def aw14A : List Act := [⟨4, 0, 0, 1, 0⟩, ⟨1, 0, 0, 0, 0⟩]
theorem aw14_1 : scriptO aw14L = (aw14S, aw14A, 0, 0) := by decide +kernel
theorem aw14_2 : scriptO aw14M = (default, [], 65, 5) := by decide +kernel
theorem aw14_pr : printX aw14S aw14A = (aw14L, 0) := by decide +kernel
theorem aw14_may : mayX aw14S aw14A = true := by decide +kernel
theorem scr_len (s : List UInt8) : (scriptO s).2.1.length ≤ 4000 := by
  unfold scriptO
  split
  · exact Nat.zero_le _
  split
  · exact Nat.zero_le _
  split
  · exact Nat.zero_le _
  · exact acts_len acts_may
theorem scr_may {s : List UInt8} (h : (scriptO s).2.2.2 = 0) : mayX (scriptO s).1 (scriptO s).2.1 = true := by
  unfold scriptO at h ⊢
  split
  · rename_i q; rw [if_pos q] at h; exact absurd h q
  rename_i q; rw [if_neg q] at h
  split
  · rename_i q; rw [if_pos q] at h; exact absurd h q
  rename_i q2; rw [if_neg q2] at h
  split
  · rename_i q; rw [if_pos q] at h; exact absurd h q
  · unfold mayX; rw [set_may (Classical.not_not.1 q2), acts_may]; rfl
theorem scr_set (s : List UInt8) : (scriptO s).1 = (setO [] (-1)).1 ∨ (scriptO s).1 = (setO (scanO s).1 0).1 := by
  unfold scriptO
  split
  · exact .inl rfl
  split
  · exact .inl rfl
  split
  · exact .inl rfl
  · exact .inr rfl
theorem scr_bd {s : List UInt8} {x : StV} (h : x.C = (scriptO s).1) : x.Bd := by
  rcases scr_set s with q | q
  · exact bd_par (h.trans q)
  · exact bd_par (h.trans q)
theorem same_refl {x y : ScV} (h : x.sv.C = y.sv.C) (h2 : x.xs = y.xs) : x.same y = true := by
  unfold ScV.same; rw [decide_eq_true h, decide_eq_true h2]; rfl
set_option maxRecDepth 100000 in
set_option maxHeartbeats 2000000 in
theorem awake14_spec (w : World) (hT : Tb w) : Ret Tryz.prog 23 #[] w (fun v w' => v = .bool true ∧ Ext w w') := by
 refine Ret.enterM (l := []) Tryz.func23 rfl Tryz.ntmps23 rfl ([]) (no) (Mem.nil w) ?_
 refine wpM.seq (wpM.region ?_)
 refine LM.as rfl ?_
 refine LM.nil (QM.sub (e' := []) trivial (QM.then (wpM.seq (wpM.region ?_))))
 refine LM.callT (oc_call (enters_fn Tryz.func24 (by kernel_rfl) rfl) rfl) SpT.mono (fun w hm hc hg => script_spec aw14L w (by decide)) ?_
 rw [aw14_1]; rintro u10 m10 ⟨xa, rfl, hxs, hxa, hin⟩ -
 refine LM.mv rfl ?_
 refine LM.val (ov_extract rfl rfl) ?_
 refine LM.val (ov_extract rfl rfl) ?_
 refine LM.val (ov_extract rfl rfl) ?_
 refine LM.alloc Tryz.zeroValue49 rfl (fun b1 hb1 => ?_)
 refine LM.stW Tryz.sizeOf49 rfl rfl rfl rfl au7 au8 ?_
 refine LM.as rfl ?_
 refine LM.as rfl ?_
 refine LM.nil (QM.sub (e' := [(1, _), (2, _), (3, _)]) ⟨rfl, rfl, rfl, trivial⟩ (QM.then (wpM.seq (wpM.region ?_))))
 refine LM.rd (om_ldW Tryz.isAgg49 Tryz.sizeOf49 rfl rfl) ?_
 refine LM.callE (oc_call (enters_fn Tryz.func28 (by kernel_rfl) rfl) rfl) (fun w hm hc hg => (show printX xa.sv.C xa.xs = (aw14L, 0) by rw [hxs, hxa]; exact aw14_pr) ▸ xprint_spec w (hin w (hm.pick m10)) (hT.ext hc)) ?_
 refine LM.mv rfl ?_
 refine LM.val (ov_extract rfl rfl) ?_
 refine LM.val (ov_extract rfl rfl) ?_
 refine LM.as rfl ?_
 refine LM.as rfl ?_
 refine LM.nil (QM.sub (e' := [(1, _), (2, _), (3, _), (4, _), (5, _)]) ⟨rfl, rfl, rfl, rfl, rfl, trivial⟩ (QM.then (wpM.seq (wpM.region ?_))))
 refine LM.callT (oc_call (enters_fn Tryz.func24 (by kernel_rfl) rfl) rfl) SpT.mono (fun w hm hc hg => script_spec aw14M w (by decide)) ?_
 rw [aw14_2]; rintro u20 m20 ⟨xb, rfl, hxs2, hxa2, hin2⟩ -
 refine LM.mv rfl ?_
 refine LM.val (ov_extract rfl rfl) ?_
 refine LM.val (ov_extract rfl rfl) ?_
 refine LM.val (ov_extract rfl rfl) ?_
 refine LM.alloc Tryz.zeroValue49 rfl (fun b6 hb6 => ?_)
 refine LM.stW Tryz.sizeOf49 rfl rfl rfl rfl au7 au8 ?_
 refine LM.as rfl ?_
 refine LM.as rfl ?_
 refine LM.nil (QM.sub (e' := [(1, _), (2, _), (3, _), (4, _), (5, _), (7, _), (8, _)]) ⟨rfl, rfl, rfl, rfl, rfl, rfl, rfl, trivial⟩ (QM.then (wpM.seq (wpM.region ?_))))
 refine LM.mv rfl ?_
 refine LM.val (ov_eql rfl rfl) ?_
 refine LM.mv rfl ?_
 refine LM.splitD (t := 26) rfl (fun h1 => ?_) (fun h1 => ?_)
 ·
  refine LM.sp 26 rfl rfl rfl ?_
  refine LM.mv rfl ?_
  refine LM.sp 26 rfl rfl rfl ?_
  refine LM.val (ov_eql rfl rfl) ?_
  refine LM.val (ov_pickT rfl rfl) ?_
  refine LM.mv rfl ?_
  refine LM.splitD (t := 30) rfl (fun h2 => ?_) (fun h2 => ?_)
  ·
   refine LM.sp 30 rfl rfl rfl ?_
   refine LM.mv rfl ?_
   refine LM.sp 30 rfl rfl rfl ?_
   refine LM.val (ov_eql rfl rfl) ?_
   refine LM.val (ov_pickT rfl rfl) ?_
   refine LM.mv rfl ?_
   refine LM.splitD (t := 34) rfl (fun h3 => ?_) (fun h3 => ?_)
   ·
    refine LM.sp 34 rfl rfl rfl ?_
    refine LM.mv rfl ?_
    refine LM.sp 34 rfl rfl rfl ?_
    refine LM.val (ov_seqlL rfl rfl) ?_
    refine LM.val (ov_pickT rfl rfl) ?_
    refine LM.mv rfl ?_
    refine LM.splitD (t := 38) rfl (fun h4 => ?_) (fun h4 => ?_)
    ·
     refine LM.sp 38 rfl rfl rfl ?_
     refine LM.val (ov_field Tryz.underlying49 rfl Tryz.sizeOf47 rfl (k := 5) rfl rfl) ?_
     refine LM.sp 38 rfl rfl rfl ?_
     refine LM.rd (om_ld Tryz.isAgg47 rfl rfl) ?_
     refine LM.sp 38 rfl rfl rfl ?_
     refine LM.val (ov_len Tryz.underlying47 rfl) ?_
     refine LM.sp 38 rfl rfl rfl ?_
     refine LM.val (ov_eql rfl rfl) ?_
     refine LM.val (ov_pickT rfl rfl) ?_
     refine LM.mv rfl ?_
     refine LM.splitD (t := 44) rfl (fun h5 => ?_) (fun h5 => ?_)
     ·
      refine LM.sp 44 rfl rfl rfl ?_
      refine LM.rd (om_ldW Tryz.isAgg49 Tryz.sizeOf49 rfl rfl) ?_
      refine LM.sp 44 rfl rfl rfl ?_
      refine LM.callE (oc_call (enters_fn Tryz.func27 (by kernel_rfl) rfl) rfl) (fun w hm hc hg => (show mayX xa.sv.C xa.xs = true by rw [hxs, hxa]; exact aw14_may) ▸ xmay_spec w (hin w (hm.pick m10))) ?_
      refine LM.val (ov_pickT rfl rfl) ?_
      refine LM.mv rfl ?_
      first | refine LM.splitD (t := 48) rfl (fun h6 => ?_) (fun h6 => ?_) | refine LM.splitB (t := 48) rfl (fun h6 => ?_) (fun h6 => ?_)
      ·
       refine LM.sp 48 rfl rfl rfl ?_
       refine LM.mv rfl ?_
       refine LM.sp 48 rfl rfl rfl ?_
       refine LM.val (ov_eql rfl rfl) ?_
       refine LM.val (ov_pickT rfl rfl) ?_
       refine LM.mv rfl ?_
       refine LM.splitD (t := 52) rfl (fun h7 => ?_) (fun h7 => ?_)
       ·
        refine LM.sp 52 rfl rfl rfl ?_
        refine LM.mv rfl ?_
        refine LM.sp 52 rfl rfl rfl ?_
        refine LM.val (ov_eql rfl rfl) ?_
        refine LM.val (ov_pickT rfl rfl) ?_
        refine LM.as rfl ?_
        refine LM.nil (QM.sub (e' := [(0, _)]) ⟨rfl, trivial⟩ (QM.then ?_))
        refine wpM.ret ?_
        refine QM.leave (.inl rfl) [.tmp 0] Tryz.results23 rfl ?_
        intro w' hm' hc' hg'
        exact ⟨rfl, hc'⟩
       refine LM.dr 52 rfl rfl rfl ?_
       refine LM.dr 52 rfl rfl rfl ?_
       refine LM.val (ov_pickF rfl rfl) ?_
       refine LM.as rfl ?_
       refine LM.nil (QM.sub (e' := [(0, _)]) ⟨rfl, trivial⟩ (QM.then ?_))
       refine wpM.ret ?_
       refine QM.leave (.inl rfl) [.tmp 0] Tryz.results23 rfl ?_
       intro w' hm' hc' hg'
       first | exact ⟨rfl, hc'⟩ | (exfalso; first | omega | (simp at *; done) | (simp_all; done))
      refine LM.dr 48 rfl rfl rfl ?_
      refine LM.dr 48 rfl rfl rfl ?_
      refine LM.val (ov_pickF rfl rfl) ?_
      refine LM.mv rfl ?_
      refine LM.dr 52 rfl rfl rfl ?_
      refine LM.dr 52 rfl rfl rfl ?_
      refine LM.val (ov_pickF rfl rfl) ?_
      refine LM.as rfl ?_
      refine LM.nil (QM.sub (e' := [(0, _)]) ⟨rfl, trivial⟩ (QM.then ?_))
      refine wpM.ret ?_
      refine QM.leave (.inl rfl) [.tmp 0] Tryz.results23 rfl ?_
      intro w' hm' hc' hg'
      first | exact ⟨rfl, hc'⟩ | (exfalso; first | omega | (simp at *; done) | (simp_all; done))
     refine LM.dr 44 rfl rfl rfl ?_
     refine LM.dr 44 rfl rfl rfl ?_
     refine LM.val (ov_pickF rfl rfl) ?_
     refine LM.mv rfl ?_
     refine LM.dr 48 rfl rfl rfl ?_
     refine LM.dr 48 rfl rfl rfl ?_
     refine LM.val (ov_pickF rfl rfl) ?_
     refine LM.mv rfl ?_
     refine LM.dr 52 rfl rfl rfl ?_
     refine LM.dr 52 rfl rfl rfl ?_
     refine LM.val (ov_pickF rfl rfl) ?_
     refine LM.as rfl ?_
     refine LM.nil (QM.sub (e' := [(0, _)]) ⟨rfl, trivial⟩ (QM.then ?_))
     refine wpM.ret ?_
     refine QM.leave (.inl rfl) [.tmp 0] Tryz.results23 rfl ?_
     intro w' hm' hc' hg'
     have hq := (hin w' (hm'.pick m10)).hn; rw [hxa] at hq; exact absurd (by rw [hq]; rfl) h5
    refine LM.dr 38 rfl rfl rfl ?_
    refine LM.dr 38 rfl rfl rfl ?_
    refine LM.dr 38 rfl rfl rfl ?_
    refine LM.dr 38 rfl rfl rfl ?_
    refine LM.val (ov_pickF rfl rfl) ?_
    refine LM.mv rfl ?_
    refine LM.dr 44 rfl rfl rfl ?_
    refine LM.dr 44 rfl rfl rfl ?_
    refine LM.val (ov_pickF rfl rfl) ?_
    refine LM.mv rfl ?_
    refine LM.dr 48 rfl rfl rfl ?_
    refine LM.dr 48 rfl rfl rfl ?_
    refine LM.val (ov_pickF rfl rfl) ?_
    refine LM.mv rfl ?_
    refine LM.dr 52 rfl rfl rfl ?_
    refine LM.dr 52 rfl rfl rfl ?_
    refine LM.val (ov_pickF rfl rfl) ?_
    refine LM.as rfl ?_
    refine LM.nil (QM.sub (e' := [(0, _)]) ⟨rfl, trivial⟩ (QM.then ?_))
    refine wpM.ret ?_
    refine QM.leave (.inl rfl) [.tmp 0] Tryz.results23 rfl ?_
    intro w' hm' hc' hg'
    exact absurd rfl h4
   refine LM.dr 34 rfl rfl rfl ?_
   refine LM.dr 34 rfl rfl rfl ?_
   refine LM.val (ov_pickF rfl rfl) ?_
   refine LM.mv rfl ?_
   refine LM.dr 38 rfl rfl rfl ?_
   refine LM.dr 38 rfl rfl rfl ?_
   refine LM.dr 38 rfl rfl rfl ?_
   refine LM.dr 38 rfl rfl rfl ?_
   refine LM.val (ov_pickF rfl rfl) ?_
   refine LM.mv rfl ?_
   refine LM.dr 44 rfl rfl rfl ?_
   refine LM.dr 44 rfl rfl rfl ?_
   refine LM.val (ov_pickF rfl rfl) ?_
   refine LM.mv rfl ?_
   refine LM.dr 48 rfl rfl rfl ?_
   refine LM.dr 48 rfl rfl rfl ?_
   refine LM.val (ov_pickF rfl rfl) ?_
   refine LM.mv rfl ?_
   refine LM.dr 52 rfl rfl rfl ?_
   refine LM.dr 52 rfl rfl rfl ?_
   refine LM.val (ov_pickF rfl rfl) ?_
   refine LM.as rfl ?_
   refine LM.nil (QM.sub (e' := [(0, _)]) ⟨rfl, trivial⟩ (QM.then ?_))
   refine wpM.ret ?_
   refine QM.leave (.inl rfl) [.tmp 0] Tryz.results23 rfl ?_
   intro w' hm' hc' hg'
   first | exact ⟨rfl, hc'⟩ | (exfalso; first | omega | (simp at *; done) | (simp_all; done))
  refine LM.dr 30 rfl rfl rfl ?_
  refine LM.dr 30 rfl rfl rfl ?_
  refine LM.val (ov_pickF rfl rfl) ?_
  refine LM.mv rfl ?_
  refine LM.dr 34 rfl rfl rfl ?_
  refine LM.dr 34 rfl rfl rfl ?_
  refine LM.val (ov_pickF rfl rfl) ?_
  refine LM.mv rfl ?_
  refine LM.dr 38 rfl rfl rfl ?_
  refine LM.dr 38 rfl rfl rfl ?_
  refine LM.dr 38 rfl rfl rfl ?_
  refine LM.dr 38 rfl rfl rfl ?_
  refine LM.val (ov_pickF rfl rfl) ?_
  refine LM.mv rfl ?_
  refine LM.dr 44 rfl rfl rfl ?_
  refine LM.dr 44 rfl rfl rfl ?_
  refine LM.val (ov_pickF rfl rfl) ?_
  refine LM.mv rfl ?_
  refine LM.dr 48 rfl rfl rfl ?_
  refine LM.dr 48 rfl rfl rfl ?_
  refine LM.val (ov_pickF rfl rfl) ?_
  refine LM.mv rfl ?_
  refine LM.dr 52 rfl rfl rfl ?_
  refine LM.dr 52 rfl rfl rfl ?_
  refine LM.val (ov_pickF rfl rfl) ?_
  refine LM.as rfl ?_
  refine LM.nil (QM.sub (e' := [(0, _)]) ⟨rfl, trivial⟩ (QM.then ?_))
  refine wpM.ret ?_
  refine QM.leave (.inl rfl) [.tmp 0] Tryz.results23 rfl ?_
  intro w' hm' hc' hg'
  first | exact ⟨rfl, hc'⟩ | (exfalso; first | omega | (simp at *; done) | (simp_all; done))
 refine LM.dr 26 rfl rfl rfl ?_
 refine LM.dr 26 rfl rfl rfl ?_
 refine LM.val (ov_pickF rfl rfl) ?_
 refine LM.mv rfl ?_
 refine LM.dr 30 rfl rfl rfl ?_
 refine LM.dr 30 rfl rfl rfl ?_
 refine LM.val (ov_pickF rfl rfl) ?_
 refine LM.mv rfl ?_
 refine LM.dr 34 rfl rfl rfl ?_
 refine LM.dr 34 rfl rfl rfl ?_
 refine LM.val (ov_pickF rfl rfl) ?_
 refine LM.mv rfl ?_
 refine LM.dr 38 rfl rfl rfl ?_
 refine LM.dr 38 rfl rfl rfl ?_
 refine LM.dr 38 rfl rfl rfl ?_
 refine LM.dr 38 rfl rfl rfl ?_
 refine LM.val (ov_pickF rfl rfl) ?_
 refine LM.mv rfl ?_
 refine LM.dr 44 rfl rfl rfl ?_
 refine LM.dr 44 rfl rfl rfl ?_
 refine LM.val (ov_pickF rfl rfl) ?_
 refine LM.mv rfl ?_
 refine LM.dr 48 rfl rfl rfl ?_
 refine LM.dr 48 rfl rfl rfl ?_
 refine LM.val (ov_pickF rfl rfl) ?_
 refine LM.mv rfl ?_
 refine LM.dr 52 rfl rfl rfl ?_
 refine LM.dr 52 rfl rfl rfl ?_
 refine LM.val (ov_pickF rfl rfl) ?_
 refine LM.as rfl ?_
 refine LM.nil (QM.sub (e' := [(0, _)]) ⟨rfl, trivial⟩ (QM.then ?_))
 refine wpM.ret ?_
 refine QM.leave (.inl rfl) [.tmp 0] Tryz.results23 rfl ?_
 intro w' hm' hc' hg'
 first | exact ⟨rfl, hc'⟩ | (exfalso; first | omega | (simp at *; done) | (simp_all; done))
set_option maxRecDepth 100000 in
set_option maxHeartbeats 2000000 in
theorem scriptAny (s : List UInt8) (w : World) (hT : Tb w) (hsx : s.length ≤ 9223372036854775807) : Ret Tryz.prog 6 #[vS s] w (fun v w' => v = .bool true ∧ Ext w w') := by
 refine Ret.enterM (l := [vS s]) Tryz.func6 rfl Tryz.ntmps6 rfl ([]) (no) (Mem.nil w) ?_
 refine wpM.seq (wpM.region ?_)
 refine LM.as rfl ?_
 refine LM.nil (QM.sub (e' := [(0, _)]) ⟨rfl, trivial⟩ (QM.then ?_))
 refine wpM.seq ?_
 refine wpM.seq (wpM.region ?_)
 refine LM.callE (oc_call (enters_fn Tryz.func23 (by kernel_rfl) rfl) rfl) (fun w hm hc hg => awake14_spec w (hT.ext hc)) ?_
 first | refine LM.val (ov_notD rfl) ?_ | refine LM.val (ov_not rfl) ?_
 refine LM.nil (QM.sub (e' := [(0, _), (10, _)]) ⟨rfl, rfl, trivial⟩ (QM.then ?_))
 first | refine wpM.condD rfl (fun h1 => ?_) (fun h1 => ?_) | refine wpM.condB rfl (fun h1 => ?_) (fun h1 => ?_)
 ·
  refine wpM.seq (wpM.region ?_)
  refine LM.as rfl ?_
  refine LM.nil (QM.sub (e' := [(2, _)]) ⟨rfl, trivial⟩ (QM.then ?_))
  refine wpM.ret ?_
  refine QM.then_ret ?_
  refine QM.leave (.inl rfl) [.tmp 2] Tryz.results6 rfl ?_
  intro w' hm' hc' hg'
  first | exact ⟨rfl, hc'⟩ | (exfalso; first | omega | (simp at *; done) | (simp_all; done))
 refine wpM.skip ?_
 refine QM.then ?_
 refine wpM.seq ?_
 refine wpM.seq (wpM.region ?_)
 refine LM.mv rfl ?_
 refine LM.val (ov_slenL Tryz.underlying9 rfl) ?_
 refine LM.val (ov_gtr rfl rfl) ?_
 refine LM.nil (QM.sub (e' := [(0, _), (13, _)]) ⟨rfl, rfl, trivial⟩ (QM.then ?_))
 refine wpM.condD rfl (fun h2 => ?_) (fun h2 => ?_)
 ·
  refine wpM.seq (wpM.region ?_)
  refine LM.as rfl ?_
  refine LM.nil (QM.sub (e' := [(2, _)]) ⟨rfl, trivial⟩ (QM.then ?_))
  refine wpM.ret ?_
  refine QM.then_ret ?_
  refine QM.leave (.inl rfl) [.tmp 2] Tryz.results6 rfl ?_
  intro w' hm' hc' hg'
  exact ⟨rfl, hc'⟩
 refine wpM.skip ?_
 refine QM.then (wpM.seq (wpM.region ?_))
 refine LM.mv rfl ?_
 refine LM.callT (oc_call (enters_fn Tryz.func24 (by kernel_rfl) rfl) rfl) SpT.mono (fun w hm hc hg => script_spec s w (by omega)) ?_
 rintro u16 m16 ⟨xa, rfl, hxs, hxa, hin⟩ -; have hla := scr_len s; rw [← hxa] at hla
 refine LM.mv rfl ?_
 refine LM.val (ov_extract rfl rfl) ?_
 refine LM.val (ov_extract rfl rfl) ?_
 refine LM.val (ov_extract rfl rfl) ?_
 refine LM.alloc Tryz.zeroValue49 rfl (fun b3 hb3 => ?_)
 refine LM.stW Tryz.sizeOf49 rfl rfl rfl rfl au7 au8 ?_
 refine LM.as rfl ?_
 refine LM.as rfl ?_
 refine LM.nil (QM.sub (e' := [(0, _), (3, _), (4, _), (5, _)]) ⟨rfl, rfl, rfl, rfl, trivial⟩ (QM.then (wpM.seq (wpM.region ?_))))
 refine LM.mv rfl ?_
 refine LM.callT (oc_call (enters_fn Tryz.func25 (by kernel_rfl) rfl) rfl) SpT.mono (fun w hm hc hg => rscript_spec s w (by omega)) ?_
 rintro u22 m22 ⟨xb, rfl, hxs2, hxa2, hin2⟩ -
 refine LM.mv rfl ?_
 refine LM.val (ov_extract rfl rfl) ?_
 refine LM.val (ov_extract rfl rfl) ?_
 refine LM.val (ov_extract rfl rfl) ?_
 refine LM.alloc Tryz.zeroValue49 rfl (fun b6 hb6 => ?_)
 refine LM.stW Tryz.sizeOf49 rfl rfl rfl rfl au7 au8 ?_
 refine LM.as rfl ?_
 refine LM.as rfl ?_
 refine LM.nil (QM.sub (e' := [(3, _), (4, _), (5, _), (6, _), (7, _), (8, _)]) ⟨rfl, rfl, rfl, rfl, rfl, rfl, trivial⟩ (QM.then (wpM.seq (wpM.region ?_))))
 refine LM.rd (om_ldW Tryz.isAgg49 Tryz.sizeOf49 rfl rfl) ?_
 refine LM.rd (om_ldW Tryz.isAgg49 Tryz.sizeOf49 rfl rfl) ?_
 refine LM.callE (oc_call (enters_fn Tryz.func26 (by kernel_rfl) rfl) rfl) (fun w hm hc hg => rxsame_spec w (hin w (hm.pick m16)) (hin2 w (hm.pick m22)) (scr_bd hxs) (by omega)) ?_
 refine LM.mv rfl ?_
 first | refine LM.splitD (t := 29) rfl (fun h3 => ?_) (fun h3 => ?_) | refine LM.splitB (t := 29) rfl (fun h3 => ?_) (fun h3 => ?_)
 ·
  refine LM.sp 29 rfl rfl rfl ?_
  refine LM.mv rfl ?_
  refine LM.sp 29 rfl rfl rfl ?_
  refine LM.mv rfl ?_
  refine LM.sp 29 rfl rfl rfl ?_
  refine LM.val (ov_eql rfl rfl) ?_
  refine LM.val (ov_pickT rfl rfl) ?_
  refine LM.mv rfl ?_
  refine LM.splitD (t := 34) rfl (fun h4 => ?_) (fun h4 => ?_)
  ·
   refine LM.sp 34 rfl rfl rfl ?_
   refine LM.mv rfl ?_
   refine LM.sp 34 rfl rfl rfl ?_
   refine LM.mv rfl ?_
   refine LM.sp 34 rfl rfl rfl ?_
   refine LM.val (ov_eql rfl rfl) ?_
   refine LM.val (ov_pickT rfl rfl) ?_
   refine LM.mv rfl ?_
   refine LM.splitD (t := 39) rfl (fun h5 => ?_) (fun h5 => ?_)
   ·
    refine LM.sp 39 rfl rfl rfl ?_
    refine LM.mv rfl ?_
    refine LM.sp 39 rfl rfl rfl ?_
    refine LM.val (ov_neq rfl rfl) ?_
    refine LM.sp 39 rfl rfl rfl ?_
    refine LM.mv rfl ?_
    refine LM.splitD (t := 42) rfl (fun h6 => ?_) (fun h6 => ?_)
    ·
     refine LM.dr 42 rfl rfl rfl ?_
     refine LM.dr 42 rfl rfl rfl ?_
     refine LM.sp 39 rfl rfl rfl ?_
     refine LM.val (ov_pickT rfl rfl) ?_
     refine LM.val (ov_pickT rfl rfl) ?_
     refine LM.as rfl ?_
     refine LM.nil (QM.sub (e' := [(2, _)]) ⟨rfl, trivial⟩ (QM.then ?_))
     refine wpM.ret ?_
     refine QM.leave (.inl rfl) [.tmp 2] Tryz.results6 rfl ?_
     intro w' hm' hc' hg'
     exact ⟨rfl, hc'⟩
    refine LM.sp 42 rfl rfl rfl ?_
    refine LM.rd (om_ldW Tryz.isAgg49 Tryz.sizeOf49 rfl rfl) ?_
    refine LM.sp 42 rfl rfl rfl ?_
    refine LM.callE (oc_call (enters_fn Tryz.func27 (by kernel_rfl) rfl) rfl) (fun w hm hc hg => xmay_spec w (hin w (hm.pick m16))) ?_
    refine LM.sp 39 rfl rfl rfl ?_
    refine LM.val (ov_pickF rfl rfl) ?_
    refine LM.val (ov_pickT rfl rfl) ?_
    refine LM.as rfl ?_
    refine LM.nil (QM.sub (e' := [(2, _)]) ⟨rfl, trivial⟩ (QM.then ?_))
    refine wpM.ret ?_
    refine QM.leave (.inl rfl) [.tmp 2] Tryz.results6 rfl ?_
    intro w' hm' hc' hg'
    exact ⟨by show Value.bool (mayX xa.sv.C xa.xs) = _; rw [hxs, hxa, scr_may (Classical.not_not.1 h6)], hc'⟩
   refine LM.dr 39 rfl rfl rfl ?_
   refine LM.dr 39 rfl rfl rfl ?_
   refine LM.dropU (t := 39) rfl rfl rfl ?_
   refine LM.dropX (t := 42) rfl rfl ?_
   refine LM.dropX (t := 42) rfl rfl ?_
   refine LM.dr 39 rfl rfl rfl ?_
   refine LM.val (ov_pickF rfl rfl) ?_
   refine LM.as rfl ?_
   refine LM.nil (QM.sub (e' := [(2, _)]) ⟨rfl, trivial⟩ (QM.then ?_))
   refine wpM.ret ?_
   refine QM.leave (.inl rfl) [.tmp 2] Tryz.results6 rfl ?_
   intro w' hm' hc' hg'
   exact absurd rfl h5
  refine LM.dr 34 rfl rfl rfl ?_
  refine LM.dr 34 rfl rfl rfl ?_
  refine LM.dr 34 rfl rfl rfl ?_
  refine LM.val (ov_pickF rfl rfl) ?_
  refine LM.mv rfl ?_
  refine LM.dr 39 rfl rfl rfl ?_
  refine LM.dr 39 rfl rfl rfl ?_
  refine LM.dropU (t := 39) rfl rfl rfl ?_
  refine LM.dropX (t := 42) rfl rfl ?_
  refine LM.dropX (t := 42) rfl rfl ?_
  refine LM.dr 39 rfl rfl rfl ?_
  refine LM.val (ov_pickF rfl rfl) ?_
  refine LM.as rfl ?_
  refine LM.nil (QM.sub (e' := [(2, _)]) ⟨rfl, trivial⟩ (QM.then ?_))
  refine wpM.ret ?_
  refine QM.leave (.inl rfl) [.tmp 2] Tryz.results6 rfl ?_
  intro w' hm' hc' hg'
  exact absurd rfl h4
 refine LM.dr 29 rfl rfl rfl ?_
 refine LM.dr 29 rfl rfl rfl ?_
 refine LM.dr 29 rfl rfl rfl ?_
 refine LM.val (ov_pickF rfl rfl) ?_
 refine LM.mv rfl ?_
 refine LM.dr 34 rfl rfl rfl ?_
 refine LM.dr 34 rfl rfl rfl ?_
 refine LM.dr 34 rfl rfl rfl ?_
 refine LM.val (ov_pickF rfl rfl) ?_
 refine LM.mv rfl ?_
 refine LM.dr 39 rfl rfl rfl ?_
 refine LM.dr 39 rfl rfl rfl ?_
 refine LM.dropU (t := 39) rfl rfl rfl ?_
 refine LM.dropX (t := 42) rfl rfl ?_
 refine LM.dropX (t := 42) rfl rfl ?_
 refine LM.dr 39 rfl rfl rfl ?_
 refine LM.val (ov_pickF rfl rfl) ?_
 refine LM.as rfl ?_
 refine LM.nil (QM.sub (e' := [(2, _)]) ⟨rfl, trivial⟩ (QM.then ?_))
 refine wpM.ret ?_
 refine QM.leave (.inl rfl) [.tmp 2] Tryz.results6 rfl ?_
 intro w' hm' hc' hg'
 rw [same_refl (hxs.trans hxs2.symm) (hxa.trans hxa2.symm)] at h3; cases h3
end Go.Eng
