/- The walks of the orders, and of the law's own first lines. No condition. -/
import Derived.Test.YtpemcncnehhgfaaMix
namespace Go.Eng
open Go Go.Proofs Go.RowKit

theorem getD_arr {xs : List Int} {junk : List Value} {i : Nat} (h : i < xs.length) : (arr fI xs junk)[i]? = some (.int .i64 (xs.getD i 0)) := arr_getI h
theorem ordLen_eq (n : Int) : (if (64 : Int) < (if (0 : Int) > n then 0 else n) then (64 : Int) else (if (0 : Int) > n then 0 else n)) = ((ordLen n : Nat) : Int) := by
  unfold ordLen; split <;> split <;> omega

set_option maxRecDepth 100000 in
theorem order_spec (seed : BitVec 64) (n : Int) (w : World) : Ret Try.prog 16 #[U seed, .int .i64 n] w (New fI 3 1 (orderF seed n) w) := by
  have hL := ordLen_le n
  refine Ret.enterM (l := [U seed, .int .i64 n]) Try.func16 rfl Try.ntmps16 rfl ([]) (no) (Mem.nil w) ?_
  refine wpM.seq ?_
  refine wpM.region ?_
  refine LM.val (ov_assign rfl) ?_
  refine LM.nil ?_
  refine QM.sub (e' := [(0, _), (1, _)]) ⟨rfl, rfl, trivial⟩ ?_
  refine QM.then ?_
  refine wpM.seq ?_
  refine wpM.region ?_
  refine LM.val (ov_move rfl) ?_
  refine LM.val (ov_max rfl rfl) ?_
  refine LM.val (ov_min rfl rfl) ?_
  refine LM.sub (e' := [(0, _), (11, .int .i64 ((ordLen n : Nat) : Int))]) ⟨rfl, lk rfl (congrArg (Value.int .i64) (ordLen_eq n)), trivial⟩ ?_
  refine LM.make (f := fI) (a0 := 0) Try.underlying26 Try.typeInfo3 rfl rfl rfl rfl fI_len rfl rfl rfl (by omega) (by simp only [Try.t3]; omega) (by omega) (fun b12 hb12 => ?_)
  refine LM.val (ov_assign rfl) ?_
  refine LM.nil ?_
  refine QM.sub (e' := [(0, _), (5, _)]) ⟨rfl, rfl, trivial⟩ ?_
  refine QM.then ?_
  refine wpM.seq ?_
  refine wpM.seq ?_
  refine wpM.region ?_
  refine LM.val (ov_move rfl) ?_
  refine LM.val (ov_len Try.underlying26 rfl) ?_
  refine LM.val (ov_move rfl) ?_
  refine LM.nil ?_
  refine QM.sub (e' := [(0, _), (5, _), (14, _), (15, _)]) ⟨rfl, rfl, rfl, rfl, trivial⟩ ?_
  refine QM.then ?_
  refine wpM.block ?_
  refine wpM.loop (α := Int) (fun k => [(0, U seed), (5, .slice (some ⟨b12, 0, none⟩) (ordLen n) (ordLen n)), (14, .int .i64 ((ordLen n : Nat) : Int)), (15, .int .i64 k)]) (fun k => [(b12, .cells (arr fI (ini k.toNat (ordLen n)) []) 3 (0, 0))]) (fun k => 0 ≤ k ∧ k ≤ (ordLen n : Nat)) (fun k => (ordLen n - k).toNat) 0 ⟨rfl, rfl, rfl, rfl, trivial⟩ (fun w hm => by rw [show (↑(ordLen n) : Int).toNat = ordLen n from rfl, ini_zero] at hm; exact hm) ⟨by omega, by omega⟩ ?_
  rintro k ⟨hk0, hk1⟩
  refine wpM.seq ?_
  refine wpM.region ?_
  refine LM.val (ov_lss rfl rfl) ?_
  refine LM.nil ?_
  refine QM.sub (e' := [(0, _), (5, _), (14, _), (15, _), (16, _)]) ⟨rfl, rfl, rfl, rfl, rfl, trivial⟩ ?_
  refine QM.then ?_
  refine wpM.seq ?_
  first | refine wpM.condD rfl (fun h1 => ?_) (fun h1 => ?_) | refine wpM.condB rfl (fun h1 => ?_) (fun h1 => ?_)
  ·
    refine wpM.skip ?_
    refine QM.then ?_
    refine wpM.seq ?_
    refine wpM.block ?_
    refine wpM.seq ?_
    refine wpM.region ?_
    refine LM.val (ov_move rfl) ?_
    refine LM.val (ov_assign rfl) ?_
    refine LM.nil ?_
    refine QM.sub (e' := [(0, _), (5, _), (6, _), (14, _), (15, _)]) ⟨rfl, rfl, rfl, rfl, rfl, trivial⟩ ?_
    refine QM.then ?_
    refine wpM.region ?_
    refine LM.val (ov_move rfl) ?_
    refine LM.val (ov_move rfl) ?_
    refine LM.val (ov_move rfl) ?_
    first | refine LM.val (ov_idx10 Try.underlying26 Try.sizeOf3 rfl rfl (by omega)) ?_ | refine LM.val (ov_idx1 Try.underlying26 Try.sizeOf3 rfl rfl (by omega)) ?_
    refine LM.storeI 0 Try.sizeOf3 rfl rfl rfl (by rw [ini_len (by omega)]; omega) (fun hlt => absurd hlt (by omega)) ?_
    refine LM.nil ?_
    refine QM.sub (e' := [(0, _), (5, _), (14, _), (15, _)]) ⟨rfl, rfl, rfl, rfl, trivial⟩ ?_
    refine QM.block_normal ?_
    refine QM.then ?_
    refine wpM.region ?_
    refine LM.val (ov_add64 rfl rfl (by omega)) ?_
    refine LM.val (ov_move rfl) ?_
    refine LM.nil ?_
    refine QM.sub (e' := [(0, _), (5, _), (14, _), (15, _)]) ⟨rfl, rfl, rfl, rfl, trivial⟩ ?_
    exact QM.again (k + 1) ⟨rfl, rfl, rfl, rfl, trivial⟩ (fun w hm => by have e1 := ini_set (k := k.toNat) (L := ordLen n) (by omega); rw [show ((k.toNat : Nat) : Int) = k by omega] at e1; rw [show (k + 1).toNat = k.toNat + 1 by omega, ← e1]; exact hm) ⟨by omega, by omega⟩ (by omega)
  ·
    refine wpM.exit ?_
    refine QM.then_exit ?_
    refine QM.then_exit ?_
    refine QM.block_hit ?_
    refine QM.then ?_
    refine wpM.seq ?_
    refine wpM.seq ?_
    refine wpM.region ?_
    refine LM.val (ov_move rfl) ?_
    refine LM.val (ov_len Try.underlying26 rfl) ?_
    refine LM.val (ov_sub64 rfl rfl (by omega)) ?_
    refine LM.val (ov_assign rfl) ?_
    refine LM.nil ?_
    refine QM.sub (e' := [(0, _), (5, _), (7, _)]) ⟨rfl, rfl, rfl, trivial⟩ ?_
    refine QM.then ?_
    refine wpM.block ?_
    refine wpM.loop (α := Int × List Int) (fun ⟨i, xs⟩ => [(0, U seed), (5, .slice (some ⟨b12, 0, none⟩) (ordLen n) (ordLen n)), (7, .int .i64 i)]) (fun ⟨i, xs⟩ => [(b12, .cells (arr fI xs []) 3 (0, 0))]) (fun ⟨i, xs⟩ => -1 ≤ i ∧ i < (ordLen n : Nat) ∧ xs.length = ordLen n ∧ Hid (shuf seed i.toNat xs = orderF seed n)) (fun ⟨i, xs⟩ => (i + 1).toNat) (((ordLen n : Nat) : Int) - 1, iota (ordLen n)) ⟨rfl, rfl, rfl, trivial⟩ (fun w hm => by rw [show k.toNat = ordLen n by omega, ini_all] at hm; exact hm) ⟨by omega, by omega, iota_len _, by unfold orderF; rw [show (((ordLen n : Nat) : Int) - 1).toNat = ordLen n - 1 by omega]; exact rfl⟩ ?_
    rintro ⟨i, xs⟩ ⟨hi0, hi1, hx, hsh⟩
    refine wpM.seq ?_
    refine wpM.seq ?_
    refine wpM.region ?_
    refine LM.val (ov_move rfl) ?_
    refine LM.val (ov_gtr rfl rfl) ?_
    refine LM.nil ?_
    refine QM.sub (e' := [(0, _), (5, _), (7, _), (27, _)]) ⟨rfl, rfl, rfl, rfl, trivial⟩ ?_
    refine QM.then ?_
    first | refine wpM.condD rfl (fun h2 => ?_) (fun h2 => ?_) | refine wpM.condB rfl (fun h2 => ?_) (fun h2 => ?_)
    ·
      refine wpM.skip ?_
      refine QM.then ?_
      refine wpM.seq ?_
      refine wpM.block ?_
      refine wpM.seq ?_
      refine wpM.region ?_
      refine LM.val (ov_move rfl) ?_
      refine LM.val (ov_move rfl) ?_
      refine LM.val (ov_toU Try.underlying3 Try.underlying22 rfl) ?_
      refine LM.val (ov_uadd rfl rfl) ?_
      refine LM.val (ov_ofU Try.underlying22 Try.underlying3 rfl) ?_
      refine LM.val (ov_move rfl) ?_
      refine LM.val (ov_add64 rfl rfl (by omega)) ?_
      refine LM.callE (oc_call (enters_fn Try.func14 (by kernel_rfl) rfl) rfl) (fun w hm => bucket_spec _ _ w (by omega)) ?_
      refine LM.val (ov_assign rfl) ?_
      refine LM.nil ?_
      refine QM.sub (e' := [(0, _), (5, _), (7, _), (8, _)]) ⟨rfl, rfl, rfl, rfl, trivial⟩ ?_
      refine QM.then ?_
      refine wpM.draw [(0, 0), (1, 0), (2, 0), (3, 0), (4, 0), (5, 0), (6, 0), (7, 1), (8, 0), (9, 0), (10, 0), (11, 1), (12, 0), (13, 3), (14, 3), (15, 3)] (by kernel_rfl) (by kernel_rfl) ?_
      have hkb := bucket_rng ((seed + BitVec.ofInt 64 i).toInt) (i + 1) (by omega)
      refine LD.val rfl rfl (ov_move rfl) ?_
      refine LD.val rfl rfl (ov_move rfl) ?_
      refine LD.val rfl rfl (ov_move rfl) ?_
      refine LD.val rfl rfl (ov_move rfl) ?_
      refine LD.val rfl rfl (ov_move rfl) ?_
      refine LD.val rfl rfl (ov_move rfl) ?_
      first | refine LD.val rfl rfl (ov_idx10 Try.underlying26 Try.sizeOf3 rfl rfl (by omega)) ?_ | refine LD.val rfl rfl (ov_idx1 Try.underlying26 Try.sizeOf3 rfl rfl (by omega)) ?_
      refine LD.rd rfl rfl (om_load 0 Try.isAgg3 rfl rfl (getD_arr (by omega))) ?_
      refine LD.val rfl rfl (ov_move rfl) ?_
      refine LD.val rfl rfl (ov_move rfl) ?_
      first | refine LD.val rfl rfl (ov_idx10 Try.underlying26 Try.sizeOf3 rfl rfl (by omega)) ?_ | refine LD.val rfl rfl (ov_idx1 Try.underlying26 Try.sizeOf3 rfl rfl (by omega)) ?_
      refine LD.rd rfl rfl (om_load 0 Try.isAgg3 rfl rfl (getD_arr (by omega))) ?_
      first | refine LD.val rfl rfl (ov_idx10 Try.underlying26 Try.sizeOf3 rfl rfl (by omega)) ?_ | refine LD.val rfl rfl (ov_idx1 Try.underlying26 Try.sizeOf3 rfl rfl (by omega)) ?_
      refine LD.tail rfl rfl ?_
      refine LM.storeI 0 Try.sizeOf3 rfl rfl rfl (by first | omega | (rw [List.length_set]; omega)) (fun hlt => absurd hlt (by omega)) ?_
      first | refine LM.val (ov_idx10 Try.underlying26 Try.sizeOf3 rfl rfl (by omega)) ?_ | refine LM.val (ov_idx1 Try.underlying26 Try.sizeOf3 rfl rfl (by omega)) ?_
      refine LM.storeI 0 Try.sizeOf3 rfl rfl rfl (by first | omega | (rw [List.length_set]; omega)) (fun hlt => absurd hlt (by omega)) ?_
      refine LM.nil ?_
      refine QM.qn ?_
      refine QM.sub (e' := [(0, _), (5, _), (7, _)]) ⟨rfl, rfl, rfl, trivial⟩ ?_
      refine QM.block_normal ?_
      refine QM.then ?_
      refine wpM.region ?_
      refine LM.val (ov_move rfl) ?_
      refine LM.val (ov_sub64 rfl rfl (by omega)) ?_
      refine LM.val (ov_assign rfl) ?_
      refine LM.nil ?_
      refine QM.sub (e' := [(0, _), (5, _), (7, _)]) ⟨rfl, rfl, rfl, trivial⟩ ?_
      exact QM.again (i - 1, swapL xs i.toNat (bucketF ((seed + BitVec.ofInt 64 i).toInt) (i + 1)).toNat) ⟨rfl, rfl, rfl, trivial⟩ (fun w hm => hm) ⟨by show -1 ≤ i - 1; omega, by show i - 1 < _; omega, by rw [swapL_len]; exact hx, by obtain ⟨m, rfl⟩ : ∃ m : Nat, i = (m : Int) + 1 := ⟨(i - 1).toNat, by omega⟩; have h5 := hsh.out; rw [show ((m : Int) + 1).toNat = m + 1 by omega, shuf] at h5; show shuf seed ((m : Int) + 1 - 1).toNat _ = _; rw [show ((m : Int) + 1 - 1).toNat = m by omega]; exact h5⟩ (by show (i - 1 + 1).toNat < (i + 1).toNat; omega)
    ·
      refine wpM.exit ?_
      refine QM.then_exit ?_
      refine QM.then_exit ?_
      refine QM.block_hit ?_
      refine QM.then ?_
      refine wpM.seq ?_
      refine wpM.region ?_
      refine LM.val (ov_move rfl) ?_
      refine LM.val (ov_assign rfl) ?_
      refine LM.nil ?_
      refine QM.sub (e' := [(4, _)]) ⟨rfl, trivial⟩ ?_
      refine QM.then ?_
      refine wpM.ret ?_
      refine QM.leave (.inl rfl) [.tmp 4] Try.results16 rfl ?_
      intro w' hm' hc'
      -- leaf 1: h1- h2-
      have e1 : orderF seed n = xs := by have h5 := hsh.out; rw [show i.toNat = 0 by omega] at h5; exact h5.symm
      rw [e1]; exact ⟨hc', _, .inr ⟨b12, ordLen n, [], hb12, by rw [hx]; rfl, rfl, by omega, by unfold maxLen; omega, by rw [hx]; rfl⟩, hm'⟩

set_option maxRecDepth 100000 in
theorem rorder_spec (seed : BitVec 64) (n : Int) (w : World) : Ret Try.prog 17 #[U seed, .int .i64 n] w (New fI 3 1 (orderF seed n) w) := by
  have hL := ordLen_le n
  refine Ret.enterM (l := [U seed, .int .i64 n]) Try.func17 rfl Try.ntmps17 rfl ([]) (no) (Mem.nil w) ?_
  refine wpM.seq ?_
  refine wpM.region ?_
  refine LM.val (ov_assign rfl) ?_
  refine LM.nil ?_
  refine QM.sub (e' := [(0, _), (1, _)]) ⟨rfl, rfl, trivial⟩ ?_
  refine QM.then ?_
  refine wpM.seq ?_
  refine wpM.region ?_
  refine LM.val (ov_assign rfl) ?_
  refine LM.nil ?_
  refine QM.sub (e' := [(0, _), (1, _), (5, _)]) ⟨rfl, rfl, rfl, trivial⟩ ?_
  refine QM.then ?_
  refine wpM.seq ?_
  refine wpM.seq ?_
  refine wpM.region ?_
  refine LM.val (ov_assign rfl) ?_
  refine LM.nil ?_
  refine QM.sub (e' := [(0, _), (1, _), (5, _), (6, _)]) ⟨rfl, rfl, rfl, rfl, trivial⟩ ?_
  refine QM.then ?_
  refine wpM.join (α := Value × Mem0) (fun ⟨v, m⟩ => [(0, U seed), (5, v)]) (fun ⟨v, m⟩ => m) (fun ⟨v, m⟩ => Sl fI 3 1 w.heap.size (iota (ordLen n)) v m) ?_ ?_
  ·
    refine wpM.block ?_
    refine wpM.loop (α := Int × Value × Mem0) (fun ⟨k, v, m⟩ => [(0, U seed), (1, .int .i64 n), (5, v), (6, .int .i64 k)]) (fun ⟨k, v, m⟩ => m) (fun ⟨k, v, m⟩ => 0 ≤ k ∧ k ≤ (ordLen n : Nat) ∧ Sl fI 3 1 w.heap.size (iota k.toNat) v m) (fun ⟨k, v, m⟩ => (ordLen n - k).toNat) (0, .slice none 0 0, []) ⟨rfl, rfl, rfl, rfl, trivial⟩ (fun _ hm => hm) ⟨Int.le_refl _, by show (0 : Int) ≤ _; omega, .nil _ _ _ _⟩ ?_
    rintro ⟨k, v, m⟩ ⟨hk0, hk1, hsl⟩
    have hil := iota_len k.toNat
    refine wpM.seq ?_
    refine wpM.seq ?_
    refine wpM.region ?_
    refine LM.val (ov_move rfl) ?_
    refine LM.val (ov_move rfl) ?_
    refine LM.val (ov_lss rfl rfl) ?_
    refine LM.val (ov_move rfl) ?_
    first | refine LM.splitD (t := 13) rfl (fun h1 => ?_) (fun h1 => ?_) | refine LM.splitB (t := 13) rfl (fun h1 => ?_) (fun h1 => ?_)
    ·
      refine LM.strip (t := 13) rfl rfl rfl ?_
      refine LM.val (ov_move rfl) ?_
      refine LM.strip (t := 13) rfl rfl rfl ?_
      refine LM.val (ov_lss rfl rfl) ?_
      refine LM.val (ov_pickT rfl rfl) ?_
      refine LM.nil ?_
      refine QM.sub (e' := [(0, _), (1, _), (5, _), (6, _), (16, _)]) ⟨rfl, rfl, rfl, rfl, rfl, trivial⟩ ?_
      refine QM.then ?_
      first | refine wpM.condD rfl (fun h2 => ?_) (fun h2 => ?_) | refine wpM.condB rfl (fun h2 => ?_) (fun h2 => ?_)
      ·
        refine wpM.skip ?_
        refine QM.then ?_
        refine wpM.seq ?_
        refine wpM.block ?_
        refine wpM.region ?_
        refine LM.val (ov_move rfl) ?_
        refine LM.val (ov_move rfl) ?_
        refine LM.mem (M' := m ++ []) (fun w hm => by simpa using hm) ?_
        refine LM.single Try.underlying26 Try.sizeOf3 Try.zeroValue3 rfl rfl rfl rfl rfl (fun b21 hb21 => ?_)
        refine LM.append (m := m) (M2 := []) (f := fI) (a := k) Try.underlying26 Try.typeInfo3 rfl rfl rfl rfl rfl rfl rfl hsl ⟨_, _, rfl⟩ fI_len fI_one (by unfold maxLen; omega) (by simp only [Try.t3]; omega) (fun v' m' hsl' => ?_)
        refine LM.val (ov_assign rfl) ?_
        refine LM.nil ?_
        refine QM.sub (e' := [(0, _), (1, _), (5, _), (6, _)]) ⟨rfl, rfl, rfl, rfl, trivial⟩ ?_
        refine QM.block_normal ?_
        refine QM.then ?_
        refine wpM.region ?_
        refine LM.val (ov_move rfl) ?_
        refine LM.val (ov_add64 rfl rfl (by omega)) ?_
        refine LM.val (ov_assign rfl) ?_
        refine LM.nil ?_
        refine QM.sub (e' := [(0, _), (1, _), (5, _), (6, _)]) ⟨rfl, rfl, rfl, rfl, trivial⟩ ?_
        exact QM.again (k + 1, v', m') ⟨rfl, rfl, rfl, rfl, trivial⟩ (fun w hm => by simpa using hm) ⟨by show 0 ≤ k + 1; omega, by show k + 1 ≤ _; unfold ordLen at *; omega, by show Sl _ _ _ _ (iota (k + 1).toNat) _ _; rw [show (k + 1).toNat = k.toNat + 1 by omega, iota_succ, show ((k.toNat : Nat) : Int) = k by omega]; exact hsl'⟩ (by show (_ - (k + 1)).toNat < (_ - k).toNat; unfold ordLen at *; omega)
      ·
        refine wpM.exit ?_
        refine QM.then_exit ?_
        refine QM.then_exit ?_
        refine QM.block_hit ?_
        exact QM.meet (v, m) ⟨rfl, rfl, trivial⟩ (fun _ hm => hm) (by show Sl _ _ _ _ (iota (ordLen n)) _ _; rw [show ordLen n = k.toNat by unfold ordLen at *; omega]; exact hsl)
    ·
      refine LM.drop (t := 13) rfl rfl rfl ?_
      refine LM.drop (t := 13) rfl rfl rfl ?_
      refine LM.val (ov_pickF rfl rfl) ?_
      refine LM.nil ?_
      refine QM.sub (e' := [(0, _), (1, _), (5, _), (6, _), (16, _)]) ⟨rfl, rfl, rfl, rfl, rfl, trivial⟩ ?_
      refine QM.then ?_
      refine wpM.condF rfl ?_
      refine wpM.exit ?_
      refine QM.then_exit ?_
      refine QM.then_exit ?_
      refine QM.block_hit ?_
      exact QM.meet (v, m) ⟨rfl, rfl, trivial⟩ (fun _ hm => hm) (by show Sl _ _ _ _ (iota (ordLen n)) _ _; rw [show ordLen n = k.toNat by unfold ordLen at *; omega]; exact hsl)
  ·
    rintro ⟨v, m⟩ hsl
    simp only at hsl
    refine QM.then ?_
    refine wpM.seq ?_
    refine wpM.seq ?_
    refine wpM.region ?_
    refine LM.val (ov_move rfl) ?_
    obtain ⟨ad, cap, rfl⟩ := hsl.form; rw [iota_len] at *
    refine LM.val (ov_len Try.underlying26 rfl) ?_
    refine LM.val (ov_sub64 rfl rfl (by omega)) ?_
    refine LM.val (ov_assign rfl) ?_
    refine LM.nil ?_
    refine QM.sub (e' := [(0, _), (5, _), (7, _)]) ⟨rfl, rfl, rfl, trivial⟩ ?_
    refine QM.then ?_
    refine wpM.block ?_
    refine wpM.loop (α := Int × List Int × Value × Mem0) (fun ⟨i, xs, v, m⟩ => [(0, U seed), (5, v), (7, .int .i64 i)]) (fun ⟨i, xs, v, m⟩ => m) (fun ⟨i, xs, v, m⟩ => -1 ≤ i ∧ i < (ordLen n : Nat) ∧ xs.length = ordLen n ∧ Hid (shuf seed i.toNat xs = orderF seed n) ∧ Sl fI 3 1 w.heap.size xs v m) (fun ⟨i, xs, v, m⟩ => (i + 1).toNat) (((ordLen n : Nat) : Int) - 1, iota (ordLen n), _, m) ⟨rfl, rfl, rfl, trivial⟩ (fun _ hm => hm) ⟨by omega, by omega, iota_len _, by unfold orderF; rw [show (((ordLen n : Nat) : Int) - 1).toNat = ordLen n - 1 by omega]; exact rfl, hsl⟩ ?_
    rintro ⟨i, xs, v, m⟩ ⟨hi0, hi1, hx, hsh, hs2⟩
    refine wpM.seq ?_
    refine wpM.seq ?_
    refine wpM.region ?_
    refine LM.val (ov_move rfl) ?_
    refine LM.val (ov_gtr rfl rfl) ?_
    refine LM.nil ?_
    refine QM.sub (e' := [(0, _), (5, _), (7, _), (27, _)]) ⟨rfl, rfl, rfl, rfl, trivial⟩ ?_
    refine QM.then ?_
    first | refine wpM.condD rfl (fun h3 => ?_) (fun h3 => ?_) | refine wpM.condB rfl (fun h3 => ?_) (fun h3 => ?_)
    ·
      refine wpM.skip ?_
      refine QM.then ?_
      refine wpM.seq ?_
      refine wpM.block ?_
      refine wpM.seq ?_
      refine wpM.region ?_
      obtain ⟨b, cap, junk, hb, rfl, rfl, hcap, hmx, hsz⟩ := hs2.ne (by omega)
      refine LM.val (ov_move rfl) ?_
      refine LM.val (ov_move rfl) ?_
      refine LM.val (ov_toU Try.underlying3 Try.underlying22 rfl) ?_
      refine LM.val (ov_uadd rfl rfl) ?_
      refine LM.val (ov_ofU Try.underlying22 Try.underlying3 rfl) ?_
      refine LM.val (ov_move rfl) ?_
      refine LM.val (ov_add64 rfl rfl (by omega)) ?_
      refine LM.callE (oc_call (enters_fn Try.func15 (by kernel_rfl) rfl) rfl) (fun w hm => rbucket_spec _ _ w (by omega)) ?_
      refine LM.val (ov_assign rfl) ?_
      refine LM.nil ?_
      refine QM.sub (e' := [(0, _), (5, _), (7, _), (8, _)]) ⟨rfl, rfl, rfl, rfl, trivial⟩ ?_
      refine QM.then ?_
      refine wpM.seq ?_
      refine wpM.region ?_
      have hkb := bucket_rng ((seed + BitVec.ofInt 64 i).toInt) (i + 1) (by omega)
      refine LM.val (ov_move rfl) ?_
      refine LM.val (ov_move rfl) ?_
      first | refine LM.val (ov_idx10 Try.underlying26 Try.sizeOf3 rfl rfl (by omega)) ?_ | refine LM.val (ov_idx1 Try.underlying26 Try.sizeOf3 rfl rfl (by omega)) ?_
      refine LM.rd (om_load 0 Try.isAgg3 rfl rfl (getD_arr (by omega))) ?_
      refine LM.val (ov_assign rfl) ?_
      refine LM.nil ?_
      refine QM.sub (e' := [(0, _), (5, _), (7, _), (8, _), (9, _)]) ⟨rfl, rfl, rfl, rfl, rfl, trivial⟩ ?_
      refine QM.then ?_
      refine wpM.seq ?_
      refine wpM.region ?_
      refine LM.val (ov_move rfl) ?_
      refine LM.val (ov_move rfl) ?_
      refine LM.val (ov_move rfl) ?_
      refine LM.val (ov_move rfl) ?_
      first | refine LM.val (ov_idx10 Try.underlying26 Try.sizeOf3 rfl rfl (by omega)) ?_ | refine LM.val (ov_idx1 Try.underlying26 Try.sizeOf3 rfl rfl (by omega)) ?_
      refine LM.rd (om_load 0 Try.isAgg3 rfl rfl (getD_arr (by omega))) ?_
      first | refine LM.val (ov_idx10 Try.underlying26 Try.sizeOf3 rfl rfl (by omega)) ?_ | refine LM.val (ov_idx1 Try.underlying26 Try.sizeOf3 rfl rfl (by omega)) ?_
      refine LM.storeI 0 Try.sizeOf3 rfl rfl rfl (by omega) (fun hlt => absurd hlt (by omega)) ?_
      refine LM.nil ?_
      refine QM.sub (e' := [(0, _), (5, _), (7, _), (8, _), (9, _)]) ⟨rfl, rfl, rfl, rfl, rfl, trivial⟩ ?_
      refine QM.then ?_
      refine wpM.region ?_
      refine LM.val (ov_move rfl) ?_
      refine LM.val (ov_move rfl) ?_
      refine LM.val (ov_move rfl) ?_
      first | refine LM.val (ov_idx10 Try.underlying26 Try.sizeOf3 rfl rfl (by omega)) ?_ | refine LM.val (ov_idx1 Try.underlying26 Try.sizeOf3 rfl rfl (by omega)) ?_
      refine LM.storeI 0 Try.sizeOf3 rfl rfl rfl (by rw [List.length_set]; omega) (fun hlt => absurd hlt (by omega)) ?_
      refine LM.nil ?_
      refine QM.sub (e' := [(0, _), (5, _), (7, _)]) ⟨rfl, rfl, rfl, trivial⟩ ?_
      refine QM.block_normal ?_
      refine QM.then ?_
      refine wpM.region ?_
      refine LM.val (ov_move rfl) ?_
      refine LM.val (ov_sub64 rfl rfl (by omega)) ?_
      refine LM.val (ov_assign rfl) ?_
      refine LM.nil ?_
      refine QM.sub (e' := [(0, _), (5, _), (7, _)]) ⟨rfl, rfl, rfl, trivial⟩ ?_
      exact QM.again (i - 1, swapL xs i.toNat (bucketF ((seed + BitVec.ofInt 64 i).toInt) (i + 1)).toNat, _, _) ⟨rfl, rfl, rfl, trivial⟩ (fun w hm => hm) ⟨by show -1 ≤ i - 1; omega, by show i - 1 < _; omega, by rw [swapL_len]; exact hx, by obtain ⟨m, rfl⟩ : ∃ m : Nat, i = (m : Int) + 1 := ⟨(i - 1).toNat, by omega⟩; have h5 := hsh.out; rw [show ((m : Int) + 1).toNat = m + 1 by omega, shuf] at h5; show shuf seed ((m : Int) + 1 - 1).toNat _ = _; rw [show ((m : Int) + 1 - 1).toNat = m by omega]; exact h5, .inr ⟨b, cap, junk, hb, by rw [swapL_len], rfl, by rw [swapL_len]; exact hcap, hmx, by rw [swapL_len]; exact hsz⟩⟩ (by show (i - 1 + 1).toNat < (i + 1).toNat; omega)
    ·
      refine wpM.exit ?_
      refine QM.then_exit ?_
      refine QM.then_exit ?_
      refine QM.block_hit ?_
      refine QM.then ?_
      refine wpM.seq ?_
      refine wpM.region ?_
      refine LM.val (ov_move rfl) ?_
      refine LM.val (ov_assign rfl) ?_
      refine LM.nil ?_
      refine QM.sub (e' := [(4, _)]) ⟨rfl, trivial⟩ ?_
      refine QM.then ?_
      refine wpM.ret ?_
      refine QM.leave (.inl rfl) [.tmp 4] Try.results17 rfl ?_
      intro w' hm' hc'
      -- leaf 1: h1- h3-
      have e1 : orderF seed n = xs := by have h5 := hsh.out; rw [show i.toNat = 0 by omega] at h5; exact h5.symm
      rw [e1]; exact ⟨hc', m, hs2, hm'⟩

end Go.Eng
