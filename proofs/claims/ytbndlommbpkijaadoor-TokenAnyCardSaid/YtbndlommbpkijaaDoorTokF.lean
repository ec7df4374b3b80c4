/- The walk of the scanner's words; token.Scan. No condition. -/
import Derived.Test.YtbndlommbpkijaaDoorTokE
set_option linter.unusedVariables false
set_option linter.unusedSimpArgs false
namespace Go.Eng
open Go Go.Proofs Go.RowKit

/-- the word that is there, as the scanner hands it out -/
def tokW (s : List UInt8) (i : Nat) : Wrd := if digB (s.getD i 0) && !(oneO s i).2.2 then ⟨2, [], 0, (i : Nat)⟩ else (oneO s i).1
theorem dig_notlet {c : UInt8} (h : digB c = true) : letB c = false := dig_let c h
theorem take_dig {s : List UInt8} {i : Nat} (h : i < s.length) (hd : digB (s.getD i 0) = true) : (s.drop i).take (runL digB s i) ≠ [] ∧ ((s.drop i).take (runL digB s i)).length = runL digB s i ∧ ((s.drop i).take (runL digB s i)).all digB = true ∧ ((s.drop i).take (runL digB s i)).getD 0 0 = s.getD i 0 ∧ numF 9 ((s.drop i).take (runL digB s i)) 0 = numF 9 (s.drop i) 0 := by
  have h1 := runL_step h hd
  have hl : ((s.drop i).take (runL digB s i)).length = runL digB s i := by rw [run_pre]; rfl
  refine ⟨fun q => by rw [q] at hl; simp at hl; omega, hl, by rw [run_pre]; exact all_tw _ _, ?_, by rw [run_pre, numF_tw]⟩
  rw [List.getD_eq_getElem?_getD, List.getElem?_take_of_lt (by omega), List.getElem?_drop, ← List.getD_eq_getElem?_getD]; rfl
theorem okT_dig {s : List UInt8} {i : Nat} (h : i < s.length) (hd : digB (s.getD i 0) = true) : okT ((s.drop i).take (runL digB s i)) = (oneO s i).2.2 := by
  obtain ⟨h1, h2, h3, h4, h5⟩ := take_dig h hd
  have hr := runL_step h hd
  unfold okT oneO
  rw [h2, h4, decide_eq_true h1, Bool.true_and, if_neg (by rw [dig_notlet hd]; simp), if_pos hd]
  simp only
  congr 1
  rw [Bool.not_and, ← decide_not, ← decide_not, Bool.or_comm]
  congr 1
  exact decide_eq_decide.2 (by omega)
def besO (i : Nat) (k last kind : Int) : Bool := decide ((i : Int) = last) && decide (k ≠ 3) && decide (kind ≠ 3)
theorem tokW_k (s : List UInt8) (i : Nat) : (tokW s i).k = (oneO s i).1.k := by
  unfold tokW; split
  · rename_i h; simp only [Bool.and_eq_true] at h
    unfold oneO; rw [if_neg (by rw [dig_notlet h.1]; simp), if_pos h.1]
  · rfl
theorem tokW_p (s : List UInt8) (i : Nat) : (tokW s i).p = (i : Int) := by
  unfold tokW oneO; (repeat' split) <;> rfl
theorem tokW_ok {s : List UInt8} {i : Nat} (h : (oneO s i).2.2 = true) : tokW s i = (oneO s i).1 := by
  unfold tokW; rw [h]; simp
theorem tok_let {s : List UInt8} {i : Nat} (hl : letB (s.getD i 0) = true) : (⟨1, (s.drop i).take (runL letB s i), 0, (i : Nat)⟩ : Wrd) = tokW s i ∧ i + runL letB s i = (oneO s i).2.1 ∧ decide ((((s.drop i).take (runL letB s i)).length : Int) ≤ 12) = (oneO s i).2.2 := by
  have hd : digB (s.getD i 0) = false := by
    cases hd : digB (s.getD i 0) with
    | false => rfl
    | true => rw [dig_let _ hd] at hl; cases hl
  have h1 : tokW s i = (oneO s i).1 := by unfold tokW; rw [hd]; rfl
  have h2 : ((s.drop i).take (runL letB s i)).length = runL letB s i := by rw [run_pre]; rfl
  rw [h1, h2]
  unfold oneO; rw [if_pos hl]
  exact ⟨rfl, rfl, decide_eq_decide.2 (by omega)⟩
theorem tok_dig {s : List UInt8} {i : Nat} (h : i < s.length) (hd : digB (s.getD i 0) = true) : (⟨2, [], if okT ((s.drop i).take (runL digB s i)) then numF 9 ((s.drop i).take (runL digB s i)) 0 else 0, (i : Nat)⟩ : Wrd) = tokW s i ∧ i + runL digB s i = (oneO s i).2.1 ∧ okT ((s.drop i).take (runL digB s i)) = (oneO s i).2.2 := by
  have h1 := okT_dig h hd
  obtain ⟨_, _, _, _, h5⟩ := take_dig h hd
  rw [h1, h5]
  have e : (oneO s i).1 = ⟨2, [], numF 9 (s.drop i) 0, (i : Nat)⟩ ∧ i + runL digB s i = (oneO s i).2.1 := by
    unfold oneO; rw [if_neg (by rw [dig_notlet hd]; simp), if_pos hd]; exact ⟨rfl, rfl⟩
  refine ⟨?_, e.2, rfl⟩
  unfold tokW
  rw [hd, Bool.true_and, e.1]
  cases (oneO s i).2.2 <;> rfl
theorem tok_mark {s : List UInt8} {i : Nat} (hl : letB (s.getD i 0) = false) (hd : digB (s.getD i 0) = false) : (⟨3, (s.drop ((i : Nat) : Int).toNat).take ((((i : Nat) : Int) + 1).toNat - ((i : Nat) : Int).toNat), 0, (i : Nat)⟩ : Wrd) = tokW s i ∧ i + 1 = (oneO s i).2.1 ∧ decide (Lib.indexByte marksL (s.getD i 0) ≥ 0) = (oneO s i).2.2 := by
  have h1 : tokW s i = (oneO s i).1 := by unfold tokW; rw [hd]; rfl
  have h3 := marks_mark (s.getD i 0)
  rw [h1, show ((i : Nat) : Int).toNat = i from Int.toNat_natCast i, show (((i : Nat) : Int) + 1).toNat - i = 1 by omega]
  unfold oneO; rw [if_neg (by rw [hl]; simp), if_neg (by rw [hd]; simp)]
  exact ⟨rfl, rfl, h3⟩
theorem c8 (c : UInt8) : (((c.toNat : Nat) : Int)).toNat.toUInt8 = c := by simp
theorem idxc_ret (t : List UInt8) (c : UInt8) (w : World) : Ret Tryd.prog 55 #[vS t, .int .u8 (c.toNat : Nat)] w (fun v w' => v = .int .i64 (Lib.indexByte t c) ∧ Ext w w') :=
  (idx_ret t _ w).mono (fun v w' ⟨h2, h3⟩ => ⟨by rw [h2, c8], h3⟩)
set_option maxRecDepth 100000 in
theorem number_spec9 (t : List UInt8) (w : World) (ha : t.all digB = true) (hx : t.length ≤ 1000000000) : Ret Tryd.prog 83 #[vS t] w (fun v w' => v = .tuple #[.int .i64 (if okT t then numF 9 t 0 else 0), .bool (okT t)] ∧ Ext w w') := by
 refine Ret.enterM (l := [vS t]) Tryd.func83 rfl Tryd.ntmps83 rfl ([]) (no) (Mem.nil w) ?_
 refine wpM.seq ?_
 refine wpM.region ?_
 refine LM.val (ov_assign rfl) ?_
 refine LM.val (ov_assign rfl) ?_
 refine LM.nil ?_
 refine QM.sub (e' := [(0, _)]) ⟨rfl, trivial⟩ ?_
 refine QM.then ?_
 refine wpM.seq ?_
 refine wpM.seq ?_
 refine wpM.joinK (α := Bool) (fun q => [(22, .bool q)]) [(0, _)] (fun q => []) (fun q => q = !okT t) ⟨rfl, trivial⟩ ?_ ?_
 ·
  refine wpM.region ?_
  refine LM.val (ov_move rfl) ?_
  refine LM.val (ov_seqlL rfl rfl) ?_
  refine LM.val (ov_move rfl) ?_
  first | refine LM.splitD (t := 8) rfl (fun h1 => ?_) (fun h1 => ?_) | refine LM.splitB (t := 8) rfl (fun h1 => ?_) (fun h1 => ?_)
  ·
   refine LM.drop (t := 8) rfl rfl rfl ?_
   refine LM.drop (t := 8) rfl rfl rfl ?_
   refine LM.drop (t := 8) rfl rfl rfl ?_
   refine LM.val (ov_pickT rfl rfl) ?_
   refine LM.val (ov_move rfl) ?_
   refine LM.drop (t := 13) rfl rfl rfl ?_
   refine LM.drop (t := 13) rfl rfl rfl ?_
   refine LM.drop (t := 13) rfl rfl rfl ?_
   refine LM.dropU (t := 13) rfl rfl rfl ?_
   refine LM.dropX (t := 17) rfl rfl ?_
   refine LM.dropX (t := 17) rfl rfl ?_
   refine LM.dropX (t := 17) rfl rfl ?_
   refine LM.drop (t := 13) rfl rfl rfl ?_
   refine LM.val (ov_pickT rfl rfl) ?_
   refine LM.nil ?_
   refine QM.sub (e' := [(0, _), (22, _)]) ⟨rfl, rfl, trivial⟩ ?_
   refine QM.meetK (_) ⟨(by first | rfl | exact lk rfl (by congr 1; omega) | exact lk rfl (by simp)), rfl, trivial⟩ (by (repeat' (first | exact SubM.nil _ | refine SubM.cons rfl ?_ | refine SubM.app ?_))) ?_
   · unfold okT; rw [decide_eq_false (show ¬ t ≠ [] from fun q => q h1)]; rfl
  ·
   refine LM.strip (t := 8) rfl rfl rfl ?_
   refine LM.val (ov_move rfl) ?_
   refine LM.strip (t := 8) rfl rfl rfl ?_
   refine LM.val (ov_slenL Tryd.underlying9 rfl) ?_
   refine LM.strip (t := 8) rfl rfl rfl ?_
   refine LM.val (ov_gtr rfl rfl) ?_
   refine LM.val (ov_pickF rfl rfl) ?_
   refine LM.val (ov_move rfl) ?_
   first | refine LM.splitD (t := 13) rfl (fun h2 => ?_) (fun h2 => ?_) | refine LM.splitB (t := 13) rfl (fun h2 => ?_) (fun h2 => ?_)
   ·
    refine LM.drop (t := 13) rfl rfl rfl ?_
    refine LM.drop (t := 13) rfl rfl rfl ?_
    refine LM.drop (t := 13) rfl rfl rfl ?_
    refine LM.dropU (t := 13) rfl rfl rfl ?_
    refine LM.dropX (t := 17) rfl rfl ?_
    refine LM.dropX (t := 17) rfl rfl ?_
    refine LM.dropX (t := 17) rfl rfl ?_
    refine LM.drop (t := 13) rfl rfl rfl ?_
    refine LM.val (ov_pickT rfl rfl) ?_
    refine LM.nil ?_
    refine QM.sub (e' := [(0, _), (22, _)]) ⟨rfl, rfl, trivial⟩ ?_
    refine QM.meetK (_) ⟨(by first | rfl | exact lk rfl (by congr 1; omega) | exact lk rfl (by simp)), rfl, trivial⟩ (by (repeat' (first | exact SubM.nil _ | refine SubM.cons rfl ?_ | refine SubM.app ?_))) ?_
    · unfold okT; rw [decide_eq_true (show t ≠ [] from h1), decide_eq_false (show ¬ t.length ≤ 9 by omega)]; rfl
   ·
    refine LM.strip (t := 13) rfl rfl rfl ?_
    refine LM.val (ov_move rfl) ?_
    refine LM.strip (t := 13) rfl rfl rfl ?_
    refine LM.val (ov_slenL Tryd.underlying9 rfl) ?_
    refine LM.strip (t := 13) rfl rfl rfl ?_
    refine LM.val (ov_gtr rfl rfl) ?_
    refine LM.strip (t := 13) rfl rfl rfl ?_
    refine LM.val (ov_move rfl) ?_
    first | refine LM.splitD (t := 17) rfl (fun h3 => ?_) (fun h3 => ?_) | refine LM.splitB (t := 17) rfl (fun h3 => ?_) (fun h3 => ?_)
    ·
     refine LM.strip (t := 17) rfl rfl rfl ?_
     refine LM.val (ov_move rfl) ?_
     refine LM.strip (t := 17) rfl rfl rfl ?_
     first | refine LM.val (ov_sidxN Tryd.underlying9 rfl rfl (by omega)) ?_ | refine LM.val (ov_sidxL Tryd.underlying9 rfl rfl (by omega)) ?_
     refine LM.strip (t := 17) rfl rfl rfl ?_
     refine LM.val (ov_eql rfl rfl) ?_
     refine LM.strip (t := 13) rfl rfl rfl ?_
     refine LM.val (ov_pickT rfl rfl) ?_
     refine LM.val (ov_pickF rfl rfl) ?_
     refine LM.nil ?_
     refine QM.sub (e' := [(0, _), (22, _)]) ⟨rfl, rfl, trivial⟩ ?_
     refine QM.meetK (_) ⟨(by first | rfl | exact lk rfl (by congr 1; omega) | exact lk rfl (by simp)), rfl, trivial⟩ (by (repeat' (first | exact SubM.nil _ | refine SubM.cons rfl ?_ | refine SubM.app ?_))) ?_
     · unfold okT; rw [decide_eq_true (show t ≠ [] from h1), decide_eq_true (show t.length ≤ 9 by omega), decide_eq_true (show 1 < t.length by omega)]; simp only [Bool.true_and, Bool.not_not]; rfl
    ·
     refine LM.drop (t := 17) rfl rfl rfl ?_
     refine LM.drop (t := 17) rfl rfl rfl ?_
     refine LM.drop (t := 17) rfl rfl rfl ?_
     refine LM.strip (t := 13) rfl rfl rfl ?_
     refine LM.val (ov_pickF rfl rfl) ?_
     refine LM.val (ov_pickF rfl rfl) ?_
     refine LM.nil ?_
     refine QM.sub (e' := [(0, _), (22, _)]) ⟨rfl, rfl, trivial⟩ ?_
     refine QM.meetK (_) ⟨(by first | rfl | exact lk rfl (by congr 1; omega) | exact lk rfl (by simp)), rfl, trivial⟩ (by (repeat' (first | exact SubM.nil _ | refine SubM.cons rfl ?_ | refine SubM.app ?_))) ?_
     · unfold okT; rw [decide_eq_true (show t ≠ [] from h1), decide_eq_true (show t.length ≤ 9 by omega), decide_eq_false (show ¬ 1 < t.length by omega)]; rfl
 ·
  rintro q hq
  change QM _ _ _ _ _ ([]) _ _ _
  refine QM.then ?_
  first | refine wpM.condD rfl (fun h4 => ?_) (fun h4 => ?_) | refine wpM.condB rfl (fun h4 => ?_) (fun h4 => ?_)
  ·
   refine wpM.seq ?_
   refine wpM.region ?_
   refine LM.val (ov_assign rfl) ?_
   refine LM.val (ov_assign rfl) ?_
   refine LM.nil ?_
   refine QM.sub (e' := [(2, _), (3, _)]) ⟨rfl, rfl, trivial⟩ ?_
   refine QM.then ?_
   refine wpM.ret ?_
   refine QM.then_ret ?_
   refine QM.leave (.inl rfl) [.tmp 2, .tmp 3] Tryd.results83 rfl ?_
   intro w' hm' hc' hg'
   have hok0 : okT t = false := (by simpa using hq.symm.trans h4); refine ⟨?_, hc'⟩; rw [hok0]; rfl
  ·
   have hok0 : okT t = true := (by simpa using hq.symm.trans h4); have hok : t ≠ [] ∧ t.length ≤ 9 := (by have q := hok0; unfold okT at q; simp only [Bool.and_eq_true, decide_eq_true_eq] at q; exact q.1)
   refine wpM.skip ?_
   refine QM.then ?_
   refine wpM.seq ?_
   refine wpM.region ?_
   refine LM.val (ov_move rfl) ?_
   refine LM.callE (oc_call (enters_fn Tryd.func118 (by kernel_rfl) rfl) rfl) (fun w hm hc hg => atoi_ret hok.1 hok.2 ha w) ?_
   refine LM.val (ov_move rfl) ?_
   refine LM.val (ov_extract rfl rfl) ?_
   refine LM.val (ov_extract rfl rfl) ?_
   refine LM.val (ov_assign rfl) ?_
   refine LM.val (ov_assign rfl) ?_
   refine LM.nil ?_
   refine QM.sub (e' := [(4, _)]) ⟨rfl, trivial⟩ ?_
   refine QM.then ?_
   refine wpM.seq ?_
   refine wpM.region ?_
   refine LM.val (ov_move rfl) ?_
   refine LM.val (ov_assign rfl) ?_
   refine LM.val (ov_assign rfl) ?_
   refine LM.nil ?_
   refine QM.sub (e' := [(2, _), (3, _)]) ⟨rfl, rfl, trivial⟩ ?_
   refine QM.then ?_
   refine wpM.ret ?_
   refine QM.leave (.inl rfl) [.tmp 2, .tmp 3] Tryd.results83 rfl ?_
   intro w' hm' hc' hg'
   refine ⟨?_, hc'⟩; rw [hok0]; rfl

set_option maxRecDepth 100000 in
set_option maxHeartbeats 1000000 in
theorem tword_spec (b : Nat) (s : List UInt8) (i : Nat) (last kind : Int) (w : World) (hi : i < s.length) (hs : s.length ≤ 1000000000) (hM : Mem w [xB b s i last kind]) : Ret Tryd.prog 44 #[.pointer (some ⟨b, 0, none⟩)] w (WrP b (.tuple #[.agg (fW (tokW s i)).toArray, .bool ((oneO s i).2.2 && !besO i (oneO s i).1.k last kind)]) (xO s (oneO s i).2.1 ((oneO s i).2.1 : Nat) (oneO s i).1.k) w) := by
 refine Ret.enterM (l := [.pointer (some ⟨b, 0, none⟩)]) Tryd.func44 rfl Tryd.ntmps44 rfl ([xB b s i last kind]) ((fun x => x = b)) hM ?_
 refine wpM.seq ?_
 refine wpM.region ?_
 refine LM.alloc Tryd.zeroValue80 rfl (fun b2 hb2 => ?_)
 refine LM.val (ov_assign rfl) ?_
 refine LM.nil ?_
 refine QM.sub (e' := [(0, _), (2, _)]) ⟨rfl, rfl, trivial⟩ ?_
 refine QM.then ?_
 refine wpM.seq ?_
 refine wpM.region ?_
 refine LM.val (ov_move rfl) ?_
 refine LM.val (ov_nilCheck rfl) ?_
 refine LM.val (ov_field Tryd.underlying83 rfl Tryd.sizeOf3 rfl (k := 1) rfl rfl) ?_
 first | refine LM.rd (om_ld Tryd.isAgg3 rfl rfl) ?_
 refine LM.val (ov_assign rfl) ?_
 refine LM.nil ?_
 refine QM.sub (e' := [(0, _), (2, _), (4, _)]) ⟨rfl, rfl, rfl, trivial⟩ ?_
 refine QM.then ?_
 refine wpM.seq ?_
 refine wpM.region ?_
 refine LM.val (ov_move rfl) ?_
 refine LM.val (ov_nilCheck rfl) ?_
 refine LM.val (ov_field Tryd.underlying83 rfl Tryd.sizeOf9 rfl (k := 0) rfl rfl) ?_
 first | refine LM.rd (om_ld Tryd.isAgg9 rfl rfl) ?_
 refine LM.val (ov_move rfl) ?_
 first | refine LM.val (ov_sidxN Tryd.underlying9 rfl rfl (by omega)) ?_ | refine LM.val (ov_sidxL Tryd.underlying9 rfl rfl (by omega)) ?_
 refine LM.val (ov_assign rfl) ?_
 refine LM.nil ?_
 refine QM.sub (e' := [(0, _), (2, _), (4, _), (5, _)]) ⟨rfl, rfl, rfl, rfl, trivial⟩ ?_
 refine QM.then ?_
 refine wpM.seq ?_
 refine wpM.region ?_
 refine LM.val (ov_move rfl) ?_
 refine LM.val (ov_build (cs := #[_, _, _, _]) rfl (by first | rfl | kernel_rfl)) ?_
 refine LM.alloc Tryd.zeroValue80 rfl (fun b6 hb6 => ?_)
 first | refine LM.stW Tryd.sizeOf80 rfl rfl rfl rfl (by first | rfl | decide | (simp; done)) (fun hlt => by first | exact rfl | exact absurd hlt (by omega)) ?_ | refine LM.st Tryd.sizeOf80 rfl rfl rfl (by first | decide | exact Nat.le_of_ble_eq_true rfl | (simp; done) | (simp; omega)) rfl (fun hlt => by first | exact rfl | exact absurd hlt (by omega)) ?_
 refine LM.nil ?_
 refine QM.sub (e' := [(0, _), (2, _), (4, _), (5, _), (6, _)]) ⟨rfl, rfl, rfl, rfl, rfl, trivial⟩ ?_
 refine QM.then ?_
 refine wpM.seq ?_
 refine wpM.region ?_
 refine LM.val (ov_assign rfl) ?_
 refine LM.nil ?_
 refine QM.sub (e' := [(0, _), (2, _), (4, _), (5, _), (6, _)]) ⟨rfl, rfl, rfl, rfl, rfl, trivial⟩ ?_
 refine QM.then ?_
 refine wpM.seq ?_
 refine wpM.joinK (α := Wrd × Nat × Bool) (fun ⟨x, j, ok⟩ => [(7, .bool ok)]) [(0, _), (2, _), (4, _), (6, _)] (fun ⟨x, j, ok⟩ => (b6, .cells (fW x).toArray 80 (0, 0)) :: (b2, .cells (fW default).toArray 80 (0, 0)) :: xB b s j last kind :: []) (fun ⟨x, j, ok⟩ => x = tokW s i ∧ j = (oneO s i).2.1 ∧ ok = (oneO s i).2.2) ⟨rfl, rfl, rfl, rfl, trivial⟩ ?_ ?_
 ·
  refine wpM.block ?_
  refine wpM.seq ?_
  refine wpM.region ?_
  refine LM.val (ov_move rfl) ?_
  refine LM.callE (oc_call (enters_fn Tryd.func55 (by kernel_rfl) rfl) rfl) (fun w hm hc hg => idxc_ret lettersL (s.getD i 0) w) ?_
  refine LM.val (ov_geq rfl rfl) ?_
  refine LM.val (ov_assign rfl) ?_
  refine LM.nil ?_
  refine QM.sub (e' := [(0, _), (2, _), (4, _), (5, _), (6, _), (41, _)]) ⟨rfl, rfl, rfl, rfl, rfl, rfl, trivial⟩ ?_
  refine QM.then ?_
  first | refine wpM.condD rfl (fun h1 => ?_) (fun h1 => ?_) | refine wpM.condB rfl (fun h1 => ?_) (fun h1 => ?_)
  ·
   have hlt : letB (s.getD i 0) = true := (by rw [← letters_at]; exact decide_eq_true h1)
   refine wpM.seq ?_
   refine wpM.region ?_
   refine LM.val (ov_move rfl) ?_
   refine LM.cW (oc_call (enters_fn Tryd.func81 (by kernel_rfl) rfl) rfl) (fun w hm hc hg => run_spec letters_let (by decide) (by decide) b s i last kind w (by omega) hs (hm.pick _)) rfl (fun hlt => by first | exact rfl | exact absurd hlt (by omega)) ?_
   refine LM.val (ov_field Tryd.underlying80 rfl Tryd.sizeOf3 rfl (k := 0) rfl rfl) ?_
   refine LM.st Tryd.sizeOf3 rfl rfl rfl (by first | decide | exact Nat.le_of_ble_eq_true rfl | (simp; done) | (simp; omega)) rfl (fun hlt => by first | exact rfl | exact absurd hlt (by omega)) ?_
   refine LM.val (ov_field Tryd.underlying80 rfl Tryd.sizeOf9 rfl (k := 1) rfl rfl) ?_
   refine LM.st Tryd.sizeOf9 rfl rfl rfl (by first | decide | exact Nat.le_of_ble_eq_true rfl | (simp; done) | (simp; omega)) rfl (fun hlt => by first | exact rfl | exact absurd hlt (by omega)) ?_
   refine LM.nil ?_
   refine QM.sub (e' := [(0, _), (2, _), (4, _), (6, _)]) ⟨rfl, rfl, rfl, rfl, trivial⟩ ?_
   refine QM.then ?_
   refine wpM.region ?_
   refine LM.val (ov_field Tryd.underlying80 rfl Tryd.sizeOf9 rfl (k := 1) rfl rfl) ?_
   first | refine LM.rd (om_ld Tryd.isAgg9 rfl rfl) ?_
   refine LM.val (ov_slenL Tryd.underlying9 rfl) ?_
   refine LM.val (ov_leq rfl rfl) ?_
   refine LM.val (ov_assign rfl) ?_
   refine LM.nil ?_
   refine QM.sub (e' := [(0, _), (2, _), (4, _), (6, _), (7, _)]) ⟨rfl, rfl, rfl, rfl, rfl, trivial⟩ ?_
   refine QM.block_normal ?_
   refine QM.meetK ((⟨1, (s.drop i).take (runL letB s i), 0, (i : Nat)⟩, i + runL letB s i, decide ((((s.drop i).take (runL letB s i)).length : Int) ≤ 12))) ⟨(by first | rfl | exact lk rfl (by congr 1; omega) | exact lk rfl (by simp)), rfl, rfl, rfl, rfl, trivial⟩ (by (repeat' (first | exact SubM.nil _ | refine SubM.cons rfl ?_ | refine SubM.app ?_))) ?_
   · exact tok_let hlt
  ·
   have hlf : letB (s.getD i 0) = false := (by rw [← letters_at]; exact decide_eq_false h1)
   refine wpM.seq ?_
   refine wpM.region ?_
   refine LM.val (ov_move rfl) ?_
   refine LM.callE (oc_call (enters_fn Tryd.func55 (by kernel_rfl) rfl) rfl) (fun w hm hc hg => idxc_ret digitL (s.getD i 0) w) ?_
   refine LM.val (ov_geq rfl rfl) ?_
   refine LM.val (ov_assign rfl) ?_
   refine LM.nil ?_
   refine QM.sub (e' := [(0, _), (2, _), (4, _), (5, _), (6, _), (53, _)]) ⟨rfl, rfl, rfl, rfl, rfl, rfl, trivial⟩ ?_
   refine QM.then ?_
   first | refine wpM.condD rfl (fun h2 => ?_) (fun h2 => ?_) | refine wpM.condB rfl (fun h2 => ?_) (fun h2 => ?_)
   ·
    have hdt : digB (s.getD i 0) = true := (by rw [← digits_at]; exact decide_eq_true h2); have htd := take_dig hi hdt; have hrl := runL_le digB s i
    refine wpM.seq ?_
    refine wpM.region ?_
    refine LM.val (ov_field Tryd.underlying80 rfl Tryd.sizeOf3 rfl (k := 0) rfl rfl) ?_
    refine LM.st Tryd.sizeOf3 rfl rfl rfl (by first | decide | exact Nat.le_of_ble_eq_true rfl | (simp; done) | (simp; omega)) rfl (fun hlt => by first | exact rfl | exact absurd hlt (by omega)) ?_
    refine LM.nil ?_
    refine QM.sub (e' := [(0, _), (2, _), (4, _), (6, _)]) ⟨rfl, rfl, rfl, rfl, trivial⟩ ?_
    refine QM.then ?_
    refine wpM.region ?_
    refine LM.val (ov_move rfl) ?_
    refine LM.cW (oc_call (enters_fn Tryd.func81 (by kernel_rfl) rfl) rfl) (fun w hm hc hg => run_spec digits_dig (by decide) (by decide) b s i last kind w (by omega) hs (hm.pick _)) rfl (fun hlt => by first | exact rfl | exact absurd hlt (by omega)) ?_
    refine LM.callE (oc_call (enters_fn Tryd.func83 (by kernel_rfl) rfl) rfl) (fun w hm hc hg => number_spec9 _ w htd.2.2.1 (by rw [htd.2.1]; omega)) ?_
    refine LM.val (ov_move rfl) ?_
    refine LM.val (ov_extract rfl rfl) ?_
    refine LM.val (ov_extract rfl rfl) ?_
    refine LM.val (ov_field Tryd.underlying80 rfl Tryd.sizeOf3 rfl (k := 2) rfl rfl) ?_
    refine LM.st Tryd.sizeOf3 rfl rfl rfl (by first | decide | exact Nat.le_of_ble_eq_true rfl | (simp; done) | (simp; omega)) rfl (fun hlt => by first | exact rfl | exact absurd hlt (by omega)) ?_
    refine LM.val (ov_assign rfl) ?_
    refine LM.nil ?_
    refine QM.sub (e' := [(0, _), (2, _), (4, _), (6, _), (7, _)]) ⟨rfl, rfl, rfl, rfl, rfl, trivial⟩ ?_
    refine QM.block_normal ?_
    refine QM.meetK ((⟨2, [], if okT ((s.drop i).take (runL digB s i)) then numF 9 ((s.drop i).take (runL digB s i)) 0 else 0, (i : Nat)⟩, i + runL digB s i, okT ((s.drop i).take (runL digB s i)))) ⟨(by first | rfl | exact lk rfl (by congr 1; omega) | exact lk rfl (by simp)), rfl, rfl, rfl, rfl, trivial⟩ (by (repeat' (first | exact SubM.nil _ | refine SubM.cons rfl ?_ | refine SubM.app ?_))) ?_
    · exact tok_dig hi hdt
   ·
    have hdf : digB (s.getD i 0) = false := (by rw [← digits_at]; exact decide_eq_false h2)
    refine wpM.seq ?_
    refine wpM.keep ((b, _) :: []) (fun _ => True) (.one 0 0 (.one 1 0 (.one 2 0 (.one 3 1 (.one 4 0 (.one 5 0 (.one 6 0 (.one 7 0 (.one 8 0 (.one 9 2 (.one 10 0 (.one 11 2 .nil)))))))))))) (by kernel_rfl) (by kernel_rfl) (by (repeat' (first | exact SubM.nil _ | refine SubM.cons rfl ?_ | refine SubM.app ?_))) (fun _ _ => trivial) ?_
    refine KD.val rfl rfl (ov_move rfl) ?_
    refine KD.val rfl rfl (ov_nilCheck rfl) ?_
    refine KD.val rfl rfl (ov_field Tryd.underlying83 rfl Tryd.sizeOf9 rfl (k := 0) rfl rfl) ?_
    first | refine KD.rd rfl rfl (om_ld Tryd.isAgg9 rfl rfl) ?_
    refine KD.val rfl rfl (ov_move rfl) ?_
    refine KD.val rfl rfl (ov_move rfl) ?_
    refine KD.val rfl rfl (ov_add64 rfl rfl (by omega)) ?_
    refine KD.val rfl rfl (ov_sslcL Tryd.underlying9 rfl rfl rfl (by omega) (by omega) (by omega)) ?_
    refine KD.val rfl rfl (ov_field Tryd.underlying80 rfl Tryd.sizeOf3 rfl (k := 0) rfl rfl) ?_
    refine KD.one rfl ?_
    refine LM.st Tryd.sizeOf3 rfl rfl rfl (by first | decide | exact Nat.le_of_ble_eq_true rfl | (simp; done) | (simp; omega)) rfl (fun hlt => by first | exact rfl | exact absurd hlt (by omega)) ?_
    refine LM.nil ?_
    refine QM.one (by (repeat' (first | exact SubM.nil _ | refine SubM.cons rfl ?_ | refine SubM.app ?_))) (fun _ _ => trivial) ?_
    refine KD.val rfl rfl (ov_field Tryd.underlying80 rfl Tryd.sizeOf9 rfl (k := 1) rfl rfl) ?_
    refine KD.one rfl ?_
    refine LM.st Tryd.sizeOf9 rfl rfl rfl (by first | decide | exact Nat.le_of_ble_eq_true rfl | (simp; done) | (simp; omega)) rfl (fun hlt => by first | exact rfl | exact absurd hlt (by omega)) ?_
    refine LM.nil ?_
    refine QM.one (by (repeat' (first | exact SubM.nil _ | refine SubM.cons rfl ?_ | refine SubM.app ?_))) (fun _ _ => trivial) ?_
    refine KD.nil ?_
    refine QM.sub (e' := [(0, _), (2, _), (4, _), (5, _), (6, _)]) ⟨rfl, rfl, rfl, rfl, rfl, trivial⟩ ?_
    refine QM.then ?_
    refine wpM.seq ?_
    refine wpM.region ?_
    refine LM.val (ov_move rfl) ?_
    refine LM.callE (oc_call (enters_fn Tryd.func55 (by kernel_rfl) rfl) rfl) (fun w hm hc hg => idxc_ret marksL (s.getD i 0) w) ?_
    refine LM.val (ov_geq rfl rfl) ?_
    refine LM.val (ov_assign rfl) ?_
    refine LM.nil ?_
    refine QM.sub (e' := [(0, _), (2, _), (4, _), (6, _), (7, _)]) ⟨rfl, rfl, rfl, rfl, rfl, trivial⟩ ?_
    refine QM.then ?_
    refine wpM.region ?_
    refine LM.val (ov_move rfl) ?_
    refine LM.val (ov_nilCheck rfl) ?_
    refine LM.val (ov_field Tryd.underlying83 rfl Tryd.sizeOf3 rfl (k := 1) rfl rfl) ?_
    first | refine LM.rd (om_ld Tryd.isAgg3 rfl rfl) ?_
    refine LM.val (ov_add64 rfl rfl (by omega)) ?_
    refine LM.val (ov_nilCheck rfl) ?_
    refine LM.val (ov_field Tryd.underlying83 rfl Tryd.sizeOf3 rfl (k := 1) rfl rfl) ?_
    refine LM.st Tryd.sizeOf3 rfl rfl rfl (by first | decide | exact Nat.le_of_ble_eq_true rfl | (simp; done) | (simp; omega)) rfl (fun hlt => by first | exact rfl | exact absurd hlt (by omega)) ?_
    refine LM.nil ?_
    refine QM.sub (e' := [(0, _), (2, _), (4, _), (6, _), (7, _)]) ⟨rfl, rfl, rfl, rfl, rfl, trivial⟩ ?_
    refine QM.block_normal ?_
    refine QM.meetK ((⟨3, (s.drop ((i : Nat) : Int).toNat).take ((((i : Nat) : Int) + 1).toNat - ((i : Nat) : Int).toNat), 0, (i : Nat)⟩, i + 1, decide (Lib.indexByte marksL (s.getD i 0) ≥ 0))) ⟨(by first | rfl | exact lk rfl (by congr 1; omega) | exact lk rfl (by simp)), rfl, rfl, rfl, rfl, trivial⟩ (by (repeat' (first | exact SubM.nil _ | refine SubM.cons rfl ?_ | refine SubM.app ?_))) ?_
    · exact tok_mark hlf hdf
 ·
  rintro ⟨x, j, ok⟩ ⟨hxw, hjw, hokw⟩
  change QM _ _ _ _ _ ((b6, .cells (fW x).toArray 80 (0, 0)) :: (b2, .cells (fW default).toArray 80 (0, 0)) :: xB b s j last kind :: []) _ _ _
  refine QM.then ?_
  refine wpM.seq ?_
  refine wpM.joinK (α := Bool) (fun q => [(8, .bool q)]) [(0, _), (2, _), (6, _), (7, _)] (fun q => (b6, .cells (fW x).toArray 80 (0, 0)) :: (b2, .cells (fW default).toArray 80 (0, 0)) :: xB b s j last kind :: []) (fun q => q = besO i x.k last kind) ⟨rfl, rfl, rfl, rfl, trivial⟩ ?_ ?_
  ·
   refine wpM.region ?_
   refine LM.val (ov_move rfl) ?_
   refine LM.val (ov_move rfl) ?_
   refine LM.val (ov_nilCheck rfl) ?_
   refine LM.val (ov_field Tryd.underlying83 rfl Tryd.sizeOf3 rfl (k := 2) rfl rfl) ?_
   first | refine LM.rd (om_ld Tryd.isAgg3 rfl rfl) ?_
   refine LM.val (ov_eql rfl rfl) ?_
   refine LM.val (ov_move rfl) ?_
   first | refine LM.splitD (t := 71) rfl (fun h3 => ?_) (fun h3 => ?_) | refine LM.splitB (t := 71) rfl (fun h3 => ?_) (fun h3 => ?_)
   ·
    refine LM.strip (t := 71) rfl rfl rfl ?_
    refine LM.val (ov_field Tryd.underlying80 rfl Tryd.sizeOf3 rfl (k := 0) rfl rfl) ?_
    refine LM.strip (t := 71) rfl rfl rfl ?_
    first | refine LM.rd (om_ld Tryd.isAgg3 rfl rfl) ?_
    refine LM.strip (t := 71) rfl rfl rfl ?_
    refine LM.val (ov_neq rfl rfl) ?_
    refine LM.val (ov_pickT rfl rfl) ?_
    refine LM.val (ov_move rfl) ?_
    first | refine LM.splitD (t := 76) rfl (fun h4 => ?_) (fun h4 => ?_) | refine LM.splitB (t := 76) rfl (fun h4 => ?_) (fun h4 => ?_)
    ·
     refine LM.strip (t := 76) rfl rfl rfl ?_
     refine LM.val (ov_move rfl) ?_
     refine LM.strip (t := 76) rfl rfl rfl ?_
     refine LM.val (ov_nilCheck rfl) ?_
     refine LM.strip (t := 76) rfl rfl rfl ?_
     refine LM.val (ov_field Tryd.underlying83 rfl Tryd.sizeOf3 rfl (k := 3) rfl rfl) ?_
     refine LM.strip (t := 76) rfl rfl rfl ?_
     first | refine LM.rd (om_ld Tryd.isAgg3 rfl rfl) ?_
     refine LM.strip (t := 76) rfl rfl rfl ?_
     refine LM.val (ov_neq rfl rfl) ?_
     refine LM.val (ov_pickT rfl rfl) ?_
     refine LM.val (ov_assign rfl) ?_
     refine LM.nil ?_
     refine QM.sub (e' := [(0, _), (2, _), (6, _), (7, _), (8, _)]) ⟨rfl, rfl, rfl, rfl, rfl, trivial⟩ ?_
     refine QM.meetK (_) ⟨(by first | rfl | exact lk rfl (by congr 1; omega) | exact lk rfl (by simp)), rfl, rfl, rfl, rfl, trivial⟩ (by (repeat' (first | exact SubM.nil _ | refine SubM.cons rfl ?_ | refine SubM.app ?_))) ?_
     · unfold besO; first | (simp only [h3, h4, decide_true, decide_false, Bool.true_and, Bool.false_and, Bool.and_true, Bool.and_false, Bool.not_true, Bool.not_false, Bool.true_or, Bool.false_or, Bool.or_true, Bool.or_false, ne_eq, not_true_eq_false, not_false_eq_true, Bool.and_self]; done) | (simp only [h3, h4, decide_true, decide_false, Bool.true_and, Bool.false_and, Bool.and_true, Bool.and_false, Bool.not_true, Bool.not_false, Bool.true_or, Bool.false_or, Bool.or_true, Bool.or_false, ne_eq, not_true_eq_false, not_false_eq_true, Bool.and_self]; rfl)
    ·
     refine LM.drop (t := 76) rfl rfl rfl ?_
     refine LM.drop (t := 76) rfl rfl rfl ?_
     refine LM.drop (t := 76) rfl rfl rfl ?_
     refine LM.drop (t := 76) rfl rfl rfl ?_
     refine LM.drop (t := 76) rfl rfl rfl ?_
     refine LM.val (ov_pickF rfl rfl) ?_
     refine LM.val (ov_assign rfl) ?_
     refine LM.nil ?_
     refine QM.sub (e' := [(0, _), (2, _), (6, _), (7, _), (8, _)]) ⟨rfl, rfl, rfl, rfl, rfl, trivial⟩ ?_
     refine QM.meetK (_) ⟨(by first | rfl | exact lk rfl (by congr 1; omega) | exact lk rfl (by simp)), rfl, rfl, rfl, rfl, trivial⟩ (by (repeat' (first | exact SubM.nil _ | refine SubM.cons rfl ?_ | refine SubM.app ?_))) ?_
     · unfold besO; first | (simp only [h3, h4, decide_true, decide_false, Bool.true_and, Bool.false_and, Bool.and_true, Bool.and_false, Bool.not_true, Bool.not_false, Bool.true_or, Bool.false_or, Bool.or_true, Bool.or_false, ne_eq, not_true_eq_false, not_false_eq_true, Bool.and_self]; done) | (simp only [h3, h4, decide_true, decide_false, Bool.true_and, Bool.false_and, Bool.and_true, Bool.and_false, Bool.not_true, Bool.not_false, Bool.true_or, Bool.false_or, Bool.or_true, Bool.or_false, ne_eq, not_true_eq_false, not_false_eq_true, Bool.and_self]; rfl)
   ·
    refine LM.drop (t := 71) rfl rfl rfl ?_
    refine LM.drop (t := 71) rfl rfl rfl ?_
    refine LM.drop (t := 71) rfl rfl rfl ?_
    refine LM.val (ov_pickF rfl rfl) ?_
    refine LM.val (ov_move rfl) ?_
    refine LM.drop (t := 76) rfl rfl rfl ?_
    refine LM.drop (t := 76) rfl rfl rfl ?_
    refine LM.drop (t := 76) rfl rfl rfl ?_
    refine LM.drop (t := 76) rfl rfl rfl ?_
    refine LM.drop (t := 76) rfl rfl rfl ?_
    refine LM.val (ov_pickF rfl rfl) ?_
    refine LM.val (ov_assign rfl) ?_
    refine LM.nil ?_
    refine QM.sub (e' := [(0, _), (2, _), (6, _), (7, _), (8, _)]) ⟨rfl, rfl, rfl, rfl, rfl, trivial⟩ ?_
    refine QM.meetK (_) ⟨(by first | rfl | exact lk rfl (by congr 1; omega) | exact lk rfl (by simp)), rfl, rfl, rfl, rfl, trivial⟩ (by (repeat' (first | exact SubM.nil _ | refine SubM.cons rfl ?_ | refine SubM.app ?_))) ?_
    · unfold besO; first | (simp only [h3, decide_true, decide_false, Bool.true_and, Bool.false_and, Bool.and_true, Bool.and_false, Bool.not_true, Bool.not_false, Bool.true_or, Bool.false_or, Bool.or_true, Bool.or_false, ne_eq, not_true_eq_false, not_false_eq_true, Bool.and_self]; done) | (simp only [h3, decide_true, decide_false, Bool.true_and, Bool.false_and, Bool.and_true, Bool.and_false, Bool.not_true, Bool.not_false, Bool.true_or, Bool.false_or, Bool.or_true, Bool.or_false, ne_eq, not_true_eq_false, not_false_eq_true, Bool.and_self]; rfl)
  ·
   rintro q hqb
   change QM _ _ _ _ _ ((b6, .cells (fW x).toArray 80 (0, 0)) :: (b2, .cells (fW default).toArray 80 (0, 0)) :: xB b s j last kind :: []) _ _ _
   refine QM.then ?_
   refine wpM.seq ?_
   refine wpM.keep ((b6, _) :: []) (fun _ => True) (.one 0 0 (.one 1 0 (.one 2 0 (.one 3 0 (.one 4 0 (.one 6 0 (.one 7 1 (.one 5 2 (.one 8 0 (.one 9 0 (.one 10 2 (.one 11 0 (.one 12 0 (.one 13 2 .nil)))))))))))))) (by kernel_rfl) (by kernel_rfl) (by (repeat' (first | exact SubM.nil _ | refine SubM.cons rfl ?_ | refine SubM.app ?_))) (fun _ _ => trivial) ?_
   refine KD.val rfl rfl (ov_move rfl) ?_
   refine KD.val rfl rfl (ov_move rfl) ?_
   refine KD.val rfl rfl (ov_move rfl) ?_
   refine KD.val rfl rfl (ov_nilCheck rfl) ?_
   refine KD.val rfl rfl (ov_field Tryd.underlying83 rfl Tryd.sizeOf3 rfl (k := 1) rfl rfl) ?_
   refine KD.val rfl rfl (ov_field Tryd.underlying80 rfl Tryd.sizeOf3 rfl (k := 0) rfl rfl) ?_
   first | refine KD.rd rfl rfl (om_ld Tryd.isAgg3 rfl rfl) ?_
   refine KD.one rfl ?_
   first | refine LM.rd (om_ld Tryd.isAgg3 rfl rfl) ?_
   refine LM.nil ?_
   refine QM.one (by (repeat' (first | exact SubM.nil _ | refine SubM.cons rfl ?_ | refine SubM.app ?_))) (fun _ _ => trivial) ?_
   refine KD.val rfl rfl (ov_nilCheck rfl) ?_
   refine KD.val rfl rfl (ov_field Tryd.underlying83 rfl Tryd.sizeOf3 rfl (k := 2) rfl rfl) ?_
   refine KD.one rfl ?_
   refine LM.st Tryd.sizeOf3 rfl rfl rfl (by first | decide | exact Nat.le_of_ble_eq_true rfl | (simp; done) | (simp; omega)) rfl (fun hlt => by first | exact rfl | exact absurd hlt (by omega)) ?_
   refine LM.nil ?_
   refine QM.one (by (repeat' (first | exact SubM.nil _ | refine SubM.cons rfl ?_ | refine SubM.app ?_))) (fun _ _ => trivial) ?_
   refine KD.val rfl rfl (ov_nilCheck rfl) ?_
   refine KD.val rfl rfl (ov_field Tryd.underlying83 rfl Tryd.sizeOf3 rfl (k := 3) rfl rfl) ?_
   refine KD.one rfl ?_
   refine LM.st Tryd.sizeOf3 rfl rfl rfl (by first | decide | exact Nat.le_of_ble_eq_true rfl | (simp; done) | (simp; omega)) rfl (fun hlt => by first | exact rfl | exact absurd hlt (by omega)) ?_
   refine LM.nil ?_
   refine QM.one (by (repeat' (first | exact SubM.nil _ | refine SubM.cons rfl ?_ | refine SubM.app ?_))) (fun _ _ => trivial) ?_
   refine KD.nil ?_
   refine QM.sub (e' := [(2, _), (6, _), (7, _), (8, _)]) ⟨rfl, rfl, rfl, rfl, trivial⟩ ?_
   refine QM.then ?_
   refine wpM.seq ?_
   refine wpM.region ?_
   first | refine LM.rd (om_ldW Tryd.isAgg80 Tryd.sizeOf80 rfl rfl) ?_ | refine LM.rd (om_ldA Tryd.isAgg80 Tryd.sizeOf80 rfl (vs := [_, _, _, _]) rfl ⟨rfl, rfl, rfl, rfl, trivial⟩) ?_
   refine LM.val (ov_move rfl) ?_
   refine LM.val (ov_move rfl) ?_
   first | refine LM.splitD (t := 97) rfl (fun h5 => ?_) (fun h5 => ?_) | refine LM.splitB (t := 97) rfl (fun h5 => ?_) (fun h5 => ?_)
   ·
    refine LM.strip (t := 97) rfl rfl rfl ?_
    refine LM.val (ov_move rfl) ?_
    refine LM.strip (t := 97) rfl rfl rfl ?_
    first | refine LM.val (ov_notD rfl) ?_ | refine LM.val (ov_not rfl) ?_
    refine LM.val (ov_pickT rfl rfl) ?_
    first | refine LM.stW Tryd.sizeOf80 rfl rfl rfl rfl (by first | rfl | decide | (simp; done)) (fun hlt => by first | exact rfl | exact absurd hlt (by omega)) ?_ | refine LM.st Tryd.sizeOf80 rfl rfl rfl (by first | decide | exact Nat.le_of_ble_eq_true rfl | (simp; done) | (simp; omega)) rfl (fun hlt => by first | exact rfl | exact absurd hlt (by omega)) ?_
    refine LM.val (ov_assign rfl) ?_
    refine LM.nil ?_
    refine QM.sub (e' := [(2, _), (3, _)]) ⟨rfl, rfl, trivial⟩ ?_
    refine QM.then ?_
    refine wpM.ret ?_
    refine QM.leaveCs (ds := ([])) (.inl rfl) [.cell 2 80, .tmp 3] Tryd.results44 hd_nil (rc_w rfl Tryd.isAgg80 Tryd.sizeOf80 rfl (rc_tmp rfl rc_nil)) ?_
    intro w' hm' hc'
    subst hxw; subst hjw; have hok1 : (oneO s i).2.2 = true := (by rw [← hokw]; exact h5); refine ⟨?_, hc', ?_⟩; (rw [hok1, Bool.true_and, ← tokW_k, ← hqb]; rfl); (rw [← tokW_k]; exact hm'.at b)
   ·
    refine LM.drop (t := 97) rfl rfl rfl ?_
    refine LM.drop (t := 97) rfl rfl rfl ?_
    refine LM.val (ov_pickF rfl rfl) ?_
    first | refine LM.stW Tryd.sizeOf80 rfl rfl rfl rfl (by first | rfl | decide | (simp; done)) (fun hlt => by first | exact rfl | exact absurd hlt (by omega)) ?_ | refine LM.st Tryd.sizeOf80 rfl rfl rfl (by first | decide | exact Nat.le_of_ble_eq_true rfl | (simp; done) | (simp; omega)) rfl (fun hlt => by first | exact rfl | exact absurd hlt (by omega)) ?_
    refine LM.val (ov_assign rfl) ?_
    refine LM.nil ?_
    refine QM.sub (e' := [(2, _), (3, _)]) ⟨rfl, rfl, trivial⟩ ?_
    refine QM.then ?_
    refine wpM.ret ?_
    refine QM.leaveCs (ds := ([])) (.inl rfl) [.cell 2 80, .tmp 3] Tryd.results44 hd_nil (rc_w rfl Tryd.isAgg80 Tryd.sizeOf80 rfl (rc_tmp rfl rc_nil)) ?_
    intro w' hm' hc'
    subst hxw; subst hjw; have hok1 : (oneO s i).2.2 = false := (by rw [← hokw]; exact h5); refine ⟨?_, hc', ?_⟩; (rw [hok1]; rfl); (rw [← tokW_k]; exact hm'.at b)

end Go.Eng

