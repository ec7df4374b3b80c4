/- The walks of lotteries: who wins. No condition. -/
import Derived.Test.YtpemcncnehhgfaaLotLaw
import Derived.Test.YtpemcncnehhgfaaMix
import Derived.Test.YtpemcncnehhgfaaRows
set_option linter.unusedVariables false
set_option linter.unusedSimpArgs false
namespace Go.Eng
open Go Go.Proofs Go.RowKit

abbrev IB (xs : List Int) : Prop := ∀ i, -9223372036854775808 ≤ xs.getD i 0 ∧ xs.getD i 0 ≤ 9223372036854775807
def BrT (xs : List Int) (n0 : Nat) (u : Value) (m : Mem0) : Prop := ∃ v, u = .tuple #[v, U (BitVec.ofInt 64 (sumL (bringL xs)))] ∧ Sl fI 3 1 n0 (bringL xs) v m
theorem BrT.mono {xs : List Int} : ∀ (k k' : Nat) u m, k' ≤ k → BrT xs k u m → BrT xs k' u m := fun k k' u m h ⟨v, h1, h2⟩ => ⟨v, h1, h2.mono h⟩

set_option maxRecDepth 100000 in
theorem rbr_spec (n : Int) (w : World) : Ret Try.prog 71 #[.int .i64 n, .int .i64 0, .int .i64 1000000] w (fun v w' => v = .int .i64 (brg n) ∧ Ext w w') := by
  refine Ret.enterM (l := [.int .i64 n, .int .i64 0, .int .i64 1000000]) Try.func71 rfl Try.ntmps71 rfl ([]) (no) (Mem.nil w) ?_
  refine wpM.seq ?_
  refine wpM.region ?_
  refine LM.val (ov_assign rfl) ?_
  refine LM.nil ?_
  refine QM.sub (e' := [(0, _), (1, _), (2, _)]) ⟨rfl, rfl, rfl, trivial⟩ ?_
  refine QM.then ?_
  refine wpM.seq ?_
  refine wpM.seq ?_
  refine wpM.region ?_
  refine LM.val (ov_move rfl) ?_
  refine LM.val (ov_move rfl) ?_
  refine LM.val (ov_lss rfl rfl) ?_
  refine LM.nil ?_
  refine QM.sub (e' := [(0, _), (1, _), (2, _), (9, _)]) ⟨rfl, rfl, rfl, rfl, trivial⟩ ?_
  refine QM.then ?_
  first | refine wpM.condD rfl (fun h1 => ?_) (fun h1 => ?_) | refine wpM.condB rfl (fun h1 => ?_) (fun h1 => ?_)
  ·
    refine wpM.seq ?_
    refine wpM.region ?_
    refine LM.val (ov_move rfl) ?_
    refine LM.val (ov_assign rfl) ?_
    refine LM.nil ?_
    refine QM.sub (e' := [(6, _)]) ⟨rfl, trivial⟩ ?_
    refine QM.then ?_
    refine wpM.ret ?_
    refine QM.then_ret ?_
    refine QM.leave (.inl rfl) [.tmp 6] Try.results71 rfl ?_
    intro w' hm' hc' hg'
    -- leaf 1: h1+
    exact ⟨by simp only [resV, brg]; congr 1; (repeat' split) <;> omega, hc'⟩
  ·
    refine wpM.skip ?_
    refine QM.then ?_
    refine wpM.seq ?_
    refine wpM.seq ?_
    refine wpM.region ?_
    refine LM.val (ov_move rfl) ?_
    refine LM.val (ov_move rfl) ?_
    refine LM.val (ov_gtr rfl rfl) ?_
    refine LM.nil ?_
    refine QM.sub (e' := [(0, _), (2, _), (13, _)]) ⟨rfl, rfl, rfl, trivial⟩ ?_
    refine QM.then ?_
    first | refine wpM.condD rfl (fun h2 => ?_) (fun h2 => ?_) | refine wpM.condB rfl (fun h2 => ?_) (fun h2 => ?_)
    ·
      refine wpM.seq ?_
      refine wpM.region ?_
      refine LM.val (ov_move rfl) ?_
      refine LM.val (ov_assign rfl) ?_
      refine LM.nil ?_
      refine QM.sub (e' := [(6, _)]) ⟨rfl, trivial⟩ ?_
      refine QM.then ?_
      refine wpM.ret ?_
      refine QM.then_ret ?_
      refine QM.leave (.inl rfl) [.tmp 6] Try.results71 rfl ?_
      intro w' hm' hc' hg'
      -- leaf 2: h1- h2+
      exact ⟨by simp only [resV, brg]; congr 1; (repeat' split) <;> omega, hc'⟩
    ·
      refine wpM.skip ?_
      refine QM.then ?_
      refine wpM.seq ?_
      refine wpM.region ?_
      refine LM.val (ov_move rfl) ?_
      refine LM.val (ov_assign rfl) ?_
      refine LM.nil ?_
      refine QM.sub (e' := [(6, _)]) ⟨rfl, trivial⟩ ?_
      refine QM.then ?_
      refine wpM.ret ?_
      refine QM.leave (.inl rfl) [.tmp 6] Try.results71 rfl ?_
      intro w' hm' hc' hg'
      -- leaf 3: h1- h2-
      exact ⟨by simp only [resV, brg]; congr 1; (repeat' split) <;> omega, hc'⟩

set_option maxRecDepth 100000 in
theorem bring_spec {xs : List Int} {ad : Option Addr} {cap : Nat} (w : World) (hl : Sr fI 1 xs (.slice ad xs.length cap) w) : Ret Try.prog 58 #[.slice ad xs.length cap] w (fun v w' => Ext w w' ∧ ∃ m, BrT xs w.heap.size v m ∧ Mem w' m ∧ ∀ p ∈ m, w.heap.size ≤ p.1) := by
  obtain ⟨-, hcl, hne⟩ := hl.open; have hbl := bringL_len xs; have hmin : (if (16 : Int) < xs.length then (16 : Int) else xs.length) = ((min 16 xs.length : Nat) : Int) := (by split <;> omega)
  refine Ret.enterM (l := [.slice ad xs.length cap]) Try.func58 rfl Try.ntmps58 rfl ([]) (no) (Mem.nil w) ?_
  refine wpM.seq ?_
  refine wpM.region ?_
  refine LM.val (ov_assign rfl) ?_
  refine LM.val (ov_assign rfl) ?_
  refine LM.nil ?_
  refine QM.sub (e' := [(0, _)]) ⟨rfl, trivial⟩ ?_
  refine QM.then ?_
  refine wpM.seq ?_
  refine wpM.region ?_
  refine LM.val (ov_assign rfl) ?_
  refine LM.nil ?_
  refine QM.sub (e' := [(0, _), (4, _)]) ⟨rfl, rfl, trivial⟩ ?_
  refine QM.then ?_
  refine wpM.seq ?_
  refine wpM.region ?_
  refine LM.val (ov_assign rfl) ?_
  refine LM.nil ?_
  refine QM.sub (e' := [(0, _), (4, _), (5, _)]) ⟨rfl, rfl, rfl, trivial⟩ ?_
  refine QM.then ?_
  refine wpM.seq ?_
  refine wpM.seq ?_
  refine wpM.region ?_
  refine LM.val (ov_move rfl) ?_
  refine LM.val (ov_move rfl) ?_
  refine LM.val (ov_len Try.underlying26 rfl) ?_
  refine LM.val (ov_min rfl rfl) ?_
  refine LM.sub (e' := [(4, _), (5, _), (8, .slice ad xs.length cap), (11, .int .i64 ((min 16 xs.length : Nat) : Int))]) ⟨rfl, rfl, rfl, lk rfl (congrArg (Value.int .i64) hmin), trivial⟩ ?_
  refine LM.val (ov_subHi Try.underlying26 Try.sizeOf3 rfl rfl (by omega) (by omega)) ?_
  refine LM.val (ov_len Try.underlying26 rfl) ?_
  refine LM.val (ov_move rfl) ?_
  refine LM.nil ?_
  refine QM.sub (e' := [(4, _), (5, _), (12, _), (13, _), (14, _)]) ⟨rfl, rfl, rfl, rfl, rfl, trivial⟩ ?_
  refine QM.then ?_
  refine wpM.block ?_
  refine wpM.loop (α := Nat × Value × Mem0) (fun ⟨i, v, m⟩ => [(4, v), (5, U (BitVec.ofInt 64 (sumL ((bringL xs).take i)))), (12, .slice ad (min 16 xs.length) cap), (13, .int .i64 ((min 16 xs.length : Nat) : Int)), (14, .int .i64 i)]) (fun ⟨i, v, m⟩ => m) (fun ⟨i, v, m⟩ => i ≤ min 16 xs.length ∧ Sl fI 3 1 w.heap.size ((bringL xs).take i) v m) (fun ⟨i, v, m⟩ => min 16 xs.length - i) (0, .slice none 0 0, []) ⟨rfl, rfl, rfl, rfl, rfl, trivial⟩ (fun _ hm => hm) ⟨Nat.zero_le _, .nil _ _ _ _⟩ ?_
  rintro ⟨i, v, m⟩ ⟨hi, hsl⟩
  have hil : ((bringL xs).take i).length = i := (by rw [List.length_take]; omega)
  refine wpM.seq ?_
  refine wpM.region ?_
  refine LM.val (ov_lss rfl rfl) ?_
  refine LM.nil ?_
  refine QM.sub (e' := [(4, _), (5, _), (12, _), (13, _), (14, _), (15, _)]) ⟨rfl, rfl, rfl, rfl, rfl, rfl, trivial⟩ ?_
  refine QM.then ?_
  refine wpM.seq ?_
  first | refine wpM.condD rfl (fun h1 => ?_) (fun h1 => ?_) | refine wpM.condB rfl (fun h1 => ?_) (fun h1 => ?_)
  ·
    refine wpM.skip ?_
    refine QM.then ?_
    refine wpM.seq ?_
    refine wpM.block ?_
    refine wpM.seq ?_
    refine wpM.region ?_
    obtain ⟨b, off, cs, E, fz, had, hb, hr⟩ := hne (by omega); have hbg := bringL_get (xs := xs) (i := i) (by omega) (by omega); have hbq : (if (1000000 : Int) < (if (0 : Int) > xs.getD (i : Int).toNat 0 then 0 else xs.getD (i : Int).toNat 0) then (1000000 : Int) else (if (0 : Int) > xs.getD (i : Int).toNat 0 then 0 else xs.getD (i : Int).toNat 0)) = brg (xs.getD i 0) := (by rw [Int.toNat_natCast]; unfold brg; (repeat' split) <;> omega)
    refine LM.val (ov_idx1E had Try.underlying26 Try.sizeOf3 rfl rfl (by omega)) ?_
    refine LM.rdC (om_srI Try.isAgg3 rfl hb hr (by omega) id) ?_
    refine LM.val (ov_assign rfl) ?_
    refine LM.nil ?_
    refine QM.sub (e' := [(4, _), (5, _), (7, _), (12, _), (13, _), (14, _)]) ⟨rfl, rfl, rfl, rfl, rfl, rfl, trivial⟩ ?_
    refine QM.then ?_
    refine wpM.seq ?_
    refine wpM.region ?_
    refine LM.val (ov_move rfl) ?_
    refine LM.val (ov_max rfl rfl) ?_
    refine LM.val (ov_min rfl rfl) ?_
    refine LM.val (ov_assign rfl) ?_
    refine LM.nil ?_
    refine QM.sub (e' := [(4, _), (5, _), (7, _), (12, _), (13, _), (14, _)]) ⟨rfl, rfl, rfl, rfl, rfl, rfl, trivial⟩ ?_
    refine QM.then ?_
    refine wpM.seq ?_
    refine wpM.region ?_
    refine LM.val (ov_move rfl) ?_
    refine LM.val (ov_move rfl) ?_
    refine LM.mem (M' := m ++ []) (fun w hm => by simpa using hm) ?_
    refine LM.single Try.underlying26 Try.sizeOf3 Try.zeroValue3 rfl rfl rfl rfl rfl (fun b23 hb23 => ?_)
    refine LM.append (m := m) (M2 := []) (f := fI) Try.underlying26 Try.typeInfo3 rfl rfl rfl rfl rfl rfl rfl hsl ⟨_, _, rfl⟩ fI_len fI_one (by unfold maxLen; omega) (by simp only [Try.t3]; omega) (fun v' m' hsl' => ?_)
    refine LM.val (ov_assign rfl) ?_
    refine LM.nil ?_
    refine QM.sub (e' := [(4, _), (5, _), (7, _), (12, _), (13, _), (14, _)]) ⟨rfl, rfl, rfl, rfl, rfl, rfl, trivial⟩ ?_
    refine QM.then ?_
    refine wpM.region ?_
    refine LM.val (ov_move rfl) ?_
    refine LM.val (ov_move rfl) ?_
    refine LM.val (ov_toU Try.underlying3 Try.underlying22 rfl) ?_
    refine LM.val (ov_uadd rfl rfl) ?_
    refine LM.val (ov_assign rfl) ?_
    refine LM.nil ?_
    refine QM.sub (e' := [(4, _), (5, _), (12, _), (13, _), (14, _)]) ⟨rfl, rfl, rfl, rfl, rfl, trivial⟩ ?_
    refine QM.block_normal ?_
    refine QM.then ?_
    refine wpM.region ?_
    refine LM.val (ov_add64 rfl rfl (by omega)) ?_
    refine LM.val (ov_move rfl) ?_
    refine LM.nil ?_
    refine QM.sub (e' := [(4, _), (5, _), (12, _), (13, _), (14, _)]) ⟨rfl, rfl, rfl, rfl, rfl, trivial⟩ ?_
    exact QM.again (i + 1, v', m') ⟨rfl, lk rfl (by rw [ofInt_add', sumL_take (by omega), hbg, hbq]), rfl, rfl, rfl, trivial⟩ (fun w hm => by simpa using hm) ⟨by omega, by rw [← bringL_take (by omega) (by omega), ← hbq]; exact hsl'⟩ (by show min 16 xs.length - (i + 1) < min 16 xs.length - i; omega)
  ·
    refine wpM.exit ?_
    refine QM.then_exit ?_
    refine QM.then_exit ?_
    refine QM.block_hit ?_
    refine QM.then ?_
    refine wpM.seq ?_
    refine wpM.region ?_
    refine LM.val (ov_move rfl) ?_
    refine LM.val (ov_move rfl) ?_
    refine LM.val (ov_assign rfl) ?_
    refine LM.val (ov_assign rfl) ?_
    refine LM.nil ?_
    refine QM.sub (e' := [(2, _), (3, _)]) ⟨rfl, rfl, trivial⟩ ?_
    refine QM.then ?_
    refine wpM.ret ?_
    refine QM.leave (.inl rfl) [.tmp 2, .tmp 3] Try.results58 rfl ?_
    intro w' hm' hc' hg'
    -- leaf 1: h1-
    have e1 : (bringL xs).take i = bringL xs := List.take_of_length_le (by omega)
    rw [e1] at hsl; simp only [resV]; rw [e1]; exact ⟨hc', m, ⟨v, rfl, hsl⟩, hm', hsl.ge⟩

set_option maxRecDepth 100000 in
theorem rbring45_spec {xs : List Int} {ad : Option Addr} {cap : Nat} (w : World) (hl : Sr fI 1 xs (.slice ad xs.length cap) w) (hx : xs.length ≤ 1000) : Ret Try.prog 59 #[.slice ad xs.length cap] w (New fI 3 1 (bringL xs) w) := by
  obtain ⟨-, hcl, hne⟩ := hl.open; have hbl := bringL_len xs
  refine Ret.enterM (l := [.slice ad xs.length cap]) Try.func59 rfl Try.ntmps59 rfl ([]) (no) (Mem.nil w) ?_
  refine wpM.seq ?_
  refine wpM.region ?_
  refine LM.val (ov_assign rfl) ?_
  refine LM.nil ?_
  refine QM.sub (e' := [(0, _)]) ⟨rfl, trivial⟩ ?_
  refine QM.then ?_
  refine wpM.seq ?_
  refine wpM.region ?_
  refine LM.val (ov_assign rfl) ?_
  refine LM.nil ?_
  refine QM.sub (e' := [(0, _), (3, _)]) ⟨rfl, rfl, trivial⟩ ?_
  refine QM.then ?_
  refine wpM.seq ?_
  refine wpM.seq ?_
  refine wpM.region ?_
  refine LM.val (ov_assign rfl) ?_
  refine LM.nil ?_
  refine QM.sub (e' := [(0, _), (3, _), (4, _)]) ⟨rfl, rfl, rfl, trivial⟩ ?_
  refine QM.then ?_
  refine wpM.block ?_
  refine wpM.loop (α := Nat × Value × Mem0) (fun ⟨i, v, m⟩ => [(0, .slice ad xs.length cap), (3, v), (4, .int .i64 i)]) (fun ⟨i, v, m⟩ => m) (fun ⟨i, v, m⟩ => i ≤ min 16 xs.length ∧ Sl fI 3 1 w.heap.size ((bringL xs).take i) v m) (fun ⟨i, v, m⟩ => min 16 xs.length - i) (0, .slice none 0 0, []) ⟨rfl, rfl, rfl, trivial⟩ (fun _ hm => hm) ⟨Nat.zero_le _, .nil _ _ _ _⟩ ?_
  rintro ⟨i, v, m⟩ ⟨hi, hsl⟩
  have hil : ((bringL xs).take i).length = i := (by rw [List.length_take]; omega)
  refine wpM.seq ?_
  refine wpM.seq ?_
  refine wpM.region ?_
  refine LM.val (ov_move rfl) ?_
  refine LM.val (ov_move rfl) ?_
  refine LM.val (ov_len Try.underlying26 rfl) ?_
  refine LM.val (ov_lss rfl rfl) ?_
  refine LM.val (ov_move rfl) ?_
  first | refine LM.splitD (t := 9) rfl (fun h1 => ?_) (fun h1 => ?_) | refine LM.splitB (t := 9) rfl (fun h1 => ?_) (fun h1 => ?_)
  ·
    refine LM.strip (t := 9) rfl rfl rfl ?_
    refine LM.val (ov_move rfl) ?_
    refine LM.strip (t := 9) rfl rfl rfl ?_
    refine LM.val (ov_lss rfl rfl) ?_
    refine LM.val (ov_pickT rfl rfl) ?_
    refine LM.nil ?_
    refine QM.sub (e' := [(0, _), (3, _), (4, _), (12, _)]) ⟨rfl, rfl, rfl, rfl, trivial⟩ ?_
    refine QM.then ?_
    first | refine wpM.condD rfl (fun h2 => ?_) (fun h2 => ?_) | refine wpM.condB rfl (fun h2 => ?_) (fun h2 => ?_)
    ·
      refine wpM.skip ?_
      refine QM.then ?_
      refine wpM.seq ?_
      refine wpM.block ?_
      refine wpM.region ?_
      refine LM.val (ov_move rfl) ?_
      refine LM.val (ov_move rfl) ?_
      refine LM.val (ov_move rfl) ?_
      obtain ⟨b, off, cs, E, fz, had, hb, hr⟩ := hne (by omega)
      refine LM.val (ov_idx1E had Try.underlying26 Try.sizeOf3 rfl rfl (by omega)) ?_
      refine LM.rdC (om_srI Try.isAgg3 rfl hb hr (by omega) id) ?_
      refine LM.callE (oc_call (enters_fn Try.func71 (by kernel_rfl) rfl) rfl) (fun w hm hc hg => rbr_spec _ w) ?_
      refine LM.mem (M' := m ++ []) (fun w hm => by simpa using hm) ?_
      refine LM.single Try.underlying26 Try.sizeOf3 Try.zeroValue3 rfl rfl rfl rfl rfl (fun b21 hb21 => ?_)
      refine LM.append (m := m) (M2 := []) (f := fI) Try.underlying26 Try.typeInfo3 rfl rfl rfl rfl rfl rfl rfl hsl ⟨_, _, rfl⟩ fI_len fI_one (by unfold maxLen; omega) (by simp only [Try.t3]; omega) (fun v' m' hsl' => ?_)
      refine LM.val (ov_assign rfl) ?_
      refine LM.nil ?_
      refine QM.sub (e' := [(0, _), (3, _), (4, _)]) ⟨rfl, rfl, rfl, trivial⟩ ?_
      refine QM.block_normal ?_
      refine QM.then ?_
      refine wpM.region ?_
      refine LM.val (ov_move rfl) ?_
      refine LM.val (ov_add64 rfl rfl (by omega)) ?_
      refine LM.val (ov_assign rfl) ?_
      refine LM.nil ?_
      refine QM.sub (e' := [(0, _), (3, _), (4, _)]) ⟨rfl, rfl, rfl, trivial⟩ ?_
      exact QM.again (i + 1, v', m') ⟨rfl, rfl, rfl, trivial⟩ (fun w hm => by simpa using hm) ⟨by omega, by rw [← bringL_take (by omega) (by omega)]; exact hsl'⟩ (by show min 16 xs.length - (i + 1) < min 16 xs.length - i; omega)
    ·
      refine wpM.exit ?_
      refine QM.then_exit ?_
      refine QM.then_exit ?_
      refine QM.block_hit ?_
      refine QM.then ?_
      refine wpM.seq ?_
      refine wpM.region ?_
      refine LM.val (ov_move rfl) ?_
      refine LM.val (ov_assign rfl) ?_
      refine LM.nil ?_
      refine QM.sub (e' := [(2, _)]) ⟨rfl, trivial⟩ ?_
      refine QM.then ?_
      refine wpM.ret ?_
      refine QM.leave (.inl rfl) [.tmp 2] Try.results59 rfl ?_
      intro w' hm' hc' hg'
      -- leaf 1: h1+ h2-
      have e1 : (bringL xs).take i = bringL xs := List.take_of_length_le (by omega)
      rw [e1] at hsl; exact ⟨hc', m, hsl, hm'⟩
  ·
    refine LM.drop (t := 9) rfl rfl rfl ?_
    refine LM.drop (t := 9) rfl rfl rfl ?_
    refine LM.val (ov_pickF rfl rfl) ?_
    refine LM.nil ?_
    refine QM.sub (e' := [(0, _), (3, _), (4, _), (12, _)]) ⟨rfl, rfl, rfl, rfl, trivial⟩ ?_
    refine QM.then ?_
    refine wpM.condF rfl ?_
    refine wpM.exit ?_
    refine QM.then_exit ?_
    refine QM.then_exit ?_
    refine QM.block_hit ?_
    refine QM.then ?_
    refine wpM.seq ?_
    refine wpM.region ?_
    refine LM.val (ov_move rfl) ?_
    refine LM.val (ov_assign rfl) ?_
    refine LM.nil ?_
    refine QM.sub (e' := [(2, _)]) ⟨rfl, trivial⟩ ?_
    refine QM.then ?_
    refine wpM.ret ?_
    refine QM.leave (.inl rfl) [.tmp 2] Try.results59 rfl ?_
    intro w' hm' hc' hg'
    -- leaf 2: h1-
    have e1 : (bringL xs).take i = bringL xs := List.take_of_length_le (by omega)
    rw [e1] at hsl; exact ⟨hc', m, hsl, hm'⟩

set_option maxRecDepth 100000 in
theorem winner_spec {xs : List Int} {ad : Option Addr} {cap : Nat} (n : BitVec 64) (w : World) (hl : Sr fI 1 xs (.slice ad xs.length cap) w) : Ret Try.prog 29 #[.slice ad xs.length cap, U n] w (fun v w' => v = .tuple #[.int .i64 (winI xs n), .bool (decide (0 ≤ winI xs n))] ∧ Ext w w') := by
  have hs := sum_bring_rng xs; have hbl := bringL_len xs; have hz := ofInt_zero_iff (r := sumL (bringL xs)) (by omega)
  refine Ret.enterM (l := [.slice ad xs.length cap, U n]) Try.func29 rfl Try.ntmps29 rfl ([]) (no) (Mem.nil w) ?_
  refine wpM.seq ?_
  refine wpM.region ?_
  refine LM.val (ov_assign rfl) ?_
  refine LM.val (ov_assign rfl) ?_
  refine LM.nil ?_
  refine QM.sub (e' := [(0, _), (1, _)]) ⟨rfl, rfl, trivial⟩ ?_
  refine QM.then ?_
  refine wpM.seq ?_
  refine wpM.region ?_
  refine LM.val (ov_move rfl) ?_
  refine LM.callT (oc_call (enters_fn Try.func58 (by kernel_rfl) rfl) rfl) BrT.mono (fun w hm hc hg => bring_spec w (hl.ext hc)) ?_
  rintro u13 m13 ⟨v13, rfl, hsl⟩ -
  refine LM.val (ov_move rfl) ?_
  refine LM.val (ov_extract rfl rfl) ?_
  refine LM.val (ov_extract rfl rfl) ?_
  refine LM.val (ov_assign rfl) ?_
  refine LM.val (ov_assign rfl) ?_
  refine LM.nil ?_
  refine QM.sub (e' := [(1, _), (6, _), (7, _)]) ⟨rfl, rfl, rfl, trivial⟩ ?_
  refine QM.then ?_
  refine wpM.seq ?_
  refine wpM.seq ?_
  refine wpM.region ?_
  refine LM.val (ov_move rfl) ?_
  refine LM.val (ov_ueql (b := 0#64) rfl rfl) ?_
  refine LM.nil ?_
  refine QM.sub (e' := [(1, _), (6, _), (7, _), (17, _)]) ⟨rfl, rfl, rfl, rfl, trivial⟩ ?_
  refine QM.then ?_
  first | refine wpM.condD rfl (fun h1 => ?_) (fun h1 => ?_) | refine wpM.condB rfl (fun h1 => ?_) (fun h1 => ?_)
  ·
    refine wpM.seq ?_
    refine wpM.region ?_
    refine LM.val (ov_assign rfl) ?_
    refine LM.val (ov_assign rfl) ?_
    refine LM.nil ?_
    refine QM.sub (e' := [(4, _), (5, _)]) ⟨rfl, rfl, trivial⟩ ?_
    refine QM.then ?_
    refine wpM.ret ?_
    refine QM.then_ret ?_
    refine QM.leave (.inl rfl) [.tmp 4, .tmp 5] Try.results29 rfl ?_
    intro w' hm' hc' hg'
    -- leaf 1: h1+
    have e0 : winI xs n = -1 := (winI_rng xs n).2.2.1 (hz.1 h1)
    exact ⟨by simp only [resV]; rw [e0]; rfl, hc'⟩
  ·
    refine wpM.skip ?_
    refine QM.then ?_
    refine wpM.seq ?_
    refine wpM.region ?_
    refine LM.val (ov_move rfl) ?_
    refine LM.callE (oc_call (enters_fn Try.func12 (by kernel_rfl) rfl) rfl) (fun w hm hc hg => mix_spec _ w) ?_
    refine LM.val (ov_move rfl) ?_
    have hs0 : sumL (bringL xs) ≠ 0 := fun h => h1 (hz.2 h)
    refine LM.val (ov_urem rfl rfl (by first | decide | assumption)) ?_
    refine LM.val (ov_assign rfl) ?_
    refine LM.nil ?_
    refine QM.sub (e' := [(6, _), (8, _)]) ⟨rfl, rfl, trivial⟩ ?_
    refine QM.then ?_
    refine wpM.seq ?_
    refine wpM.seq ?_
    refine wpM.region ?_
    obtain ⟨ad2, cap2, rfl⟩ := hsl.form; have hdk := drawK_rng (l := bringL xs) (n := n) (by omega)
    refine LM.val (ov_move rfl) ?_
    refine LM.val (ov_len Try.underlying26 rfl) ?_
    refine LM.val (ov_move rfl) ?_
    refine LM.nil ?_
    refine QM.sub (e' := [(8, _), (22, _), (23, _), (24, _)]) ⟨rfl, rfl, rfl, rfl, trivial⟩ ?_
    refine QM.then ?_
    refine wpM.block ?_
    refine wpM.loop (α := Nat × Int) (fun ⟨i, r⟩ => [(8, U (BitVec.ofInt 64 r)), (22, .slice ad2 (bringL xs).length cap2), (23, .int .i64 ((bringL xs).length : Nat)), (24, .int .i64 i)]) (fun ⟨i, r⟩ => m13 ++ []) (fun ⟨i, r⟩ => i ≤ (bringL xs).length ∧ 0 ≤ r ∧ r < sumL ((bringL xs).drop i) ∧ sumL ((bringL xs).drop i) ≤ 16000000 ∧ (pick (bringL xs) (drawK (bringL xs) n) = i + pick ((bringL xs).drop i) r)) (fun ⟨i, r⟩ => (bringL xs).length - i) (0, drawK (bringL xs) n) ⟨lk rfl (by rw [mod_draw (by omega) hs0]), rfl, rfl, rfl, trivial⟩ (fun _ hm => hm) ⟨Nat.zero_le _, hdk.1, hdk.2, by simpa using hs.2, by simp⟩ ?_
    rintro ⟨i, r⟩ ⟨hi, hr0, hr1, hr2, hp⟩
    refine wpM.seq ?_
    refine wpM.region ?_
    refine LM.val (ov_lss rfl rfl) ?_
    refine LM.nil ?_
    refine QM.sub (e' := [(8, _), (22, _), (23, _), (24, _), (25, _)]) ⟨rfl, rfl, rfl, rfl, rfl, trivial⟩ ?_
    refine QM.then ?_
    refine wpM.seq ?_
    first | refine wpM.condD rfl (fun h2 => ?_) (fun h2 => ?_) | refine wpM.condB rfl (fun h2 => ?_) (fun h2 => ?_)
    ·
      refine wpM.skip ?_
      refine QM.then ?_
      refine wpM.seq ?_
      refine wpM.block ?_
      refine wpM.seq ?_
      refine wpM.region ?_
      refine LM.val (ov_move rfl) ?_
      obtain ⟨b, cap3, junk, hb, he, rfl, hcap, hmx, hsz⟩ := hsl.ne (by omega); simp only [Value.slice.injEq] at he; obtain ⟨rfl, -, rfl⟩ := he; have hri := bringL_rng (xs := xs) (i := i); have hsd := sumL_drop (l := bringL xs) (i := i) (by omega); have ht1 := toNat_ofInt' (r := r) (by omega); have ht2 : (BitVec.ofInt 64 ((bringL xs).getD (i : Int).toNat 0)).toNat = ((bringL xs).getD i 0).toNat := (by rw [Int.toNat_natCast]; exact toNat_ofInt' (by omega))
      first | refine LM.val (ov_idx10 Try.underlying26 Try.sizeOf3 rfl rfl (by omega)) ?_ | refine LM.val (ov_idx1 Try.underlying26 Try.sizeOf3 rfl rfl (by omega)) ?_
      refine LM.rd (om_load 0 Try.isAgg3 rfl rfl (arr_getI (by omega))) ?_
      refine LM.val (ov_assign rfl) ?_
      refine LM.val (ov_assign rfl) ?_
      refine LM.nil ?_
      refine QM.sub (e' := [(8, _), (9, _), (10, _), (22, _), (23, _), (24, _)]) ⟨rfl, rfl, rfl, rfl, rfl, rfl, trivial⟩ ?_
      refine QM.then ?_
      refine wpM.seq ?_
      refine wpM.seq ?_
      refine wpM.region ?_
      refine LM.val (ov_move rfl) ?_
      refine LM.val (ov_move rfl) ?_
      refine LM.val (ov_toU Try.underlying3 Try.underlying22 rfl) ?_
      refine LM.val (ov_ulss rfl rfl) ?_
      refine LM.nil ?_
      refine QM.sub (e' := [(8, _), (9, _), (10, _), (22, _), (23, _), (24, _), (32, _)]) ⟨rfl, rfl, rfl, rfl, rfl, rfl, rfl, trivial⟩ ?_
      refine QM.then ?_
      first | refine wpM.condD rfl (fun h3 => ?_) (fun h3 => ?_) | refine wpM.condB rfl (fun h3 => ?_) (fun h3 => ?_)
      ·
        refine wpM.seq ?_
        refine wpM.region ?_
        refine LM.val (ov_move rfl) ?_
        refine LM.val (ov_assign rfl) ?_
        refine LM.val (ov_assign rfl) ?_
        refine LM.nil ?_
        refine QM.sub (e' := [(4, _), (5, _)]) ⟨rfl, rfl, trivial⟩ ?_
        refine QM.then ?_
        refine wpM.ret ?_
        refine QM.then_ret ?_
        refine QM.block_ret ?_
        refine QM.then_ret ?_
        refine QM.then_ret ?_
        refine QM.block_ret ?_
        refine QM.then_ret ?_
        refine QM.leave (.inl rfl) [.tmp 4, .tmp 5] Try.results29 rfl ?_
        intro w' hm' hc' hg'
        -- leaf 2: h1- h2+ h3+
        have e0 : winI xs n = i := (by unfold winI winL; rw [if_neg hs0, hp, pick_here (by omega) (by omega)]; omega)
        exact ⟨by simp only [resV]; rw [e0, decide_eq_true (by omega)], hc'⟩
      ·
        refine wpM.skip ?_
        refine QM.then ?_
        refine wpM.region ?_
        refine LM.val (ov_move rfl) ?_
        refine LM.val (ov_move rfl) ?_
        refine LM.val (ov_toU Try.underlying3 Try.underlying22 rfl) ?_
        refine LM.val (ov_usub rfl rfl) ?_
        refine LM.val (ov_assign rfl) ?_
        refine LM.nil ?_
        refine QM.sub (e' := [(8, _), (22, _), (23, _), (24, _)]) ⟨rfl, rfl, rfl, rfl, trivial⟩ ?_
        refine QM.block_normal ?_
        refine QM.then ?_
        refine wpM.region ?_
        refine LM.val (ov_add64 rfl rfl (by omega)) ?_
        refine LM.val (ov_move rfl) ?_
        refine LM.nil ?_
        refine QM.sub (e' := [(8, _), (22, _), (23, _), (24, _)]) ⟨rfl, rfl, rfl, rfl, trivial⟩ ?_
        exact QM.again (i + 1, r - (bringL xs).getD i 0) ⟨lk rfl (by rw [ofInt_sub', Int.toNat_natCast]), rfl, rfl, rfl, trivial⟩ (fun _ hm => hm) ⟨by omega, by show 0 ≤ r - _; omega, by show r - _ < _; omega, by show sumL ((bringL xs).drop (i + 1)) ≤ _; omega, by rw [hp, pick_drop (by omega) (by omega)]; show _ = i + 1 + _; omega⟩ (by show (bringL xs).length - (i + 1) < (bringL xs).length - i; omega)
    ·
      refine wpM.exit ?_
      refine QM.then_exit ?_
      refine QM.then_exit ?_
      refine QM.block_hit ?_
      refine QM.then ?_
      refine wpM.seq ?_
      refine wpM.region ?_
      refine LM.val (ov_assign rfl) ?_
      refine LM.val (ov_assign rfl) ?_
      refine LM.nil ?_
      refine QM.sub (e' := [(4, _), (5, _)]) ⟨rfl, rfl, trivial⟩ ?_
      refine QM.then ?_
      refine wpM.ret ?_
      refine QM.leave (.inl rfl) [.tmp 4, .tmp 5] Try.results29 rfl ?_
      intro w' hm' hc' hg'
      -- leaf 3: h1- h2-
      rw [List.drop_of_length_le (by omega)] at hr1; simp only [sumL] at hr1; omega

set_option maxRecDepth 100000 in
theorem rwinner_spec {xs : List Int} {ad : Option Addr} {cap : Nat} (n : BitVec 64) (w : World) (hl : Sr fI 1 xs (.slice ad xs.length cap) w) (hx : xs.length ≤ 1000) : Ret Try.prog 30 #[.slice ad xs.length cap, U n] w (fun v w' => v = .int .i64 (winI xs n) ∧ Ext w w') := by
  have hs := sum_bring_rng xs; have hbl := bringL_len xs; have hz := ofInt_zero_iff (r := sumL (bringL xs)) (by omega)
  refine Ret.enterM (l := [.slice ad xs.length cap, U n]) Try.func30 rfl Try.ntmps30 rfl ([]) (no) (Mem.nil w) ?_
  refine wpM.seq ?_
  refine wpM.region ?_
  refine LM.val (ov_assign rfl) ?_
  refine LM.nil ?_
  refine QM.sub (e' := [(0, _), (1, _)]) ⟨rfl, rfl, trivial⟩ ?_
  refine QM.then ?_
  refine wpM.seq ?_
  refine wpM.region ?_
  refine LM.val (ov_move rfl) ?_
  refine LM.callS (oc_call (enters_fn Try.func59 (by kernel_rfl) rfl) rfl) (fun w hm hc hg => rbring45_spec w (hl.ext hc) hx) (fun u11 m11 hs11 => ?_)
  obtain ⟨ad2, cap2, rfl⟩ := hs11.form
  refine LM.val (ov_assign rfl) ?_
  refine LM.nil ?_
  refine QM.sub (e' := [(1, _), (5, _)]) ⟨rfl, rfl, trivial⟩ ?_
  refine QM.then ?_
  refine wpM.seq ?_
  refine wpM.region ?_
  refine LM.val (ov_assign rfl) ?_
  refine LM.nil ?_
  refine QM.sub (e' := [(1, _), (5, _), (6, _)]) ⟨rfl, rfl, rfl, trivial⟩ ?_
  refine QM.then ?_
  refine wpM.seq ?_
  refine wpM.seq ?_
  refine wpM.region ?_
  refine LM.val (ov_assign rfl) ?_
  refine LM.nil ?_
  refine QM.sub (e' := [(1, _), (5, _), (6, _), (7, _)]) ⟨rfl, rfl, rfl, rfl, trivial⟩ ?_
  refine QM.then ?_
  refine wpM.block ?_
  refine wpM.loop (α := Nat) (fun i => [(1, U n), (5, .slice ad2 (bringL xs).length cap2), (6, .int .i64 (sumL ((bringL xs).take i))), (7, .int .i64 i)]) (fun i => m11 ++ []) (fun i => i ≤ (bringL xs).length ∧ 0 ≤ sumL ((bringL xs).take i) ∧ sumL ((bringL xs).take i) ≤ 1000000 * i) (fun i => (bringL xs).length - i) 0 ⟨rfl, rfl, rfl, rfl, trivial⟩ (fun _ hm => hm) ⟨Nat.zero_le _, by simp [sumL], by simp [sumL]⟩ ?_
  rintro i ⟨hi, h0, h9⟩
  refine wpM.seq ?_
  refine wpM.seq ?_
  refine wpM.region ?_
  refine LM.val (ov_move rfl) ?_
  refine LM.val (ov_move rfl) ?_
  refine LM.val (ov_len Try.underlying26 rfl) ?_
  refine LM.val (ov_lss rfl rfl) ?_
  refine LM.nil ?_
  refine QM.sub (e' := [(1, _), (5, _), (6, _), (7, _), (15, _)]) ⟨rfl, rfl, rfl, rfl, rfl, trivial⟩ ?_
  refine QM.then ?_
  first | refine wpM.condD rfl (fun h1 => ?_) (fun h1 => ?_) | refine wpM.condB rfl (fun h1 => ?_) (fun h1 => ?_)
  ·
    refine wpM.skip ?_
    refine QM.then ?_
    refine wpM.seq ?_
    refine wpM.block ?_
    refine wpM.region ?_
    refine LM.val (ov_move rfl) ?_
    refine LM.val (ov_move rfl) ?_
    refine LM.val (ov_move rfl) ?_
    obtain ⟨b, cap3, junk, hb, he, rfl, hcap, hmx, hsz⟩ := hs11.ne (by omega); simp only [Value.slice.injEq] at he; obtain ⟨rfl, -, rfl⟩ := he; have hri := bringL_rng (xs := xs) (i := i); have hq : (bringL xs).getD (i : Int).toNat 0 = (bringL xs).getD i 0 := (by rw [Int.toNat_natCast])
    first | refine LM.val (ov_idx10 Try.underlying26 Try.sizeOf3 rfl rfl (by omega)) ?_ | refine LM.val (ov_idx1 Try.underlying26 Try.sizeOf3 rfl rfl (by omega)) ?_
    refine LM.rd (om_load 0 Try.isAgg3 rfl rfl (arr_getI (by omega))) ?_
    refine LM.val (ov_add64 rfl rfl (by omega)) ?_
    refine LM.val (ov_assign rfl) ?_
    refine LM.nil ?_
    refine QM.sub (e' := [(1, _), (5, _), (6, _), (7, _)]) ⟨rfl, rfl, rfl, rfl, trivial⟩ ?_
    refine QM.block_normal ?_
    refine QM.then ?_
    refine wpM.region ?_
    refine LM.val (ov_move rfl) ?_
    refine LM.val (ov_add64 rfl rfl (by omega)) ?_
    refine LM.val (ov_assign rfl) ?_
    refine LM.nil ?_
    refine QM.sub (e' := [(1, _), (5, _), (6, _), (7, _)]) ⟨rfl, rfl, rfl, rfl, trivial⟩ ?_
    exact QM.again (i + 1) ⟨rfl, rfl, lk rfl (by rw [sumL_take (by omega), Int.toNat_natCast]), rfl, trivial⟩ (fun _ hm => hm) ⟨by omega, by rw [sumL_take (by omega)]; omega, by rw [sumL_take (by omega)]; omega⟩ (by omega)
  ·
    refine wpM.exit ?_
    refine QM.then_exit ?_
    refine QM.then_exit ?_
    refine QM.block_hit ?_
    refine QM.then ?_
    refine wpM.seq ?_
    refine wpM.seq ?_
    refine wpM.region ?_
    have htk : (bringL xs).take i = bringL xs := List.take_of_length_le (by omega)
    refine LM.val (ov_move rfl) ?_
    refine LM.val (ov_eql rfl rfl) ?_
    refine LM.nil ?_
    refine QM.sub (e' := [(1, _), (5, _), (6, _), (25, _)]) ⟨rfl, rfl, rfl, rfl, trivial⟩ ?_
    refine QM.then ?_
    first | refine wpM.condD rfl (fun h2 => ?_) (fun h2 => ?_) | refine wpM.condB rfl (fun h2 => ?_) (fun h2 => ?_)
    ·
      refine wpM.seq ?_
      refine wpM.region ?_
      refine LM.val (ov_assign rfl) ?_
      refine LM.nil ?_
      refine QM.sub (e' := [(4, _)]) ⟨rfl, trivial⟩ ?_
      refine QM.then ?_
      refine wpM.ret ?_
      refine QM.then_ret ?_
      refine QM.leave (.inl rfl) [.tmp 4] Try.results30 rfl ?_
      intro w' hm' hc' hg'
      -- leaf 1: h1- h2+
      have e0 : winI xs n = -1 := (winI_rng xs n).2.2.1 (by rw [← htk]; exact h2)
      exact ⟨by simp only [resV]; rw [e0], hc'⟩
    ·
      have hs0 : sumL (bringL xs) ≠ 0 := (by rw [← htk]; exact h2); have hdk := drawK_rng (l := bringL xs) (n := n) (by omega)
      refine wpM.skip ?_
      refine QM.then ?_
      refine wpM.seq ?_
      refine wpM.region ?_
      refine LM.val (ov_move rfl) ?_
      refine LM.callE (oc_call (enters_fn Try.func13 (by kernel_rfl) rfl) rfl) (fun w hm hc hg => rmix_spec _ w) ?_
      refine LM.val (ov_move rfl) ?_
      refine LM.val (ov_toU Try.underlying3 Try.underlying22 rfl) ?_
      have hnz : BitVec.ofInt 64 (sumL ((bringL xs).take i)) ≠ 0#64 := (by rw [htk]; exact fun h => hs0 (hz.1 h))
      refine LM.val (ov_urem rfl rfl (by first | decide | assumption)) ?_
      refine LM.val (ov_ofU Try.underlying22 Try.underlying3 rfl) ?_
      refine LM.val (ov_assign rfl) ?_
      refine LM.nil ?_
      refine QM.sub (e' := [(5, _), (8, _)]) ⟨rfl, rfl, trivial⟩ ?_
      refine QM.then ?_
      refine wpM.seq ?_
      refine wpM.region ?_
      refine LM.val (ov_assign rfl) ?_
      refine LM.nil ?_
      refine QM.sub (e' := [(5, _), (8, _), (9, _)]) ⟨rfl, rfl, rfl, trivial⟩ ?_
      refine QM.then ?_
      refine wpM.seq ?_
      refine wpM.block ?_
      refine wpM.loop (α := Nat × Int) (fun ⟨j, r⟩ => [(5, .slice ad2 (bringL xs).length cap2), (8, .int .i64 r), (9, .int .i64 j)]) (fun ⟨j, r⟩ => m11 ++ []) (fun ⟨j, r⟩ => j ≤ (bringL xs).length ∧ 0 ≤ r ∧ r < sumL ((bringL xs).drop j) ∧ sumL ((bringL xs).drop j) ≤ 16000000 ∧ (pick (bringL xs) (drawK (bringL xs) n) = j + pick ((bringL xs).drop j) r)) (fun ⟨j, r⟩ => (bringL xs).length - j) (0, drawK (bringL xs) n) ⟨rfl, lk rfl (by rw [htk, mod_draw (by omega) hs0, toInt_ofInt' (by omega)]), rfl, trivial⟩ (fun _ hm => hm) ⟨Nat.zero_le _, hdk.1, hdk.2, by simpa using hs.2, by simp⟩ ?_
      rintro ⟨j, r⟩ ⟨hj, hr0, hr1, hr2, hp⟩
      have hjl : j < (bringL xs).length := (by apply Nat.lt_of_not_le; intro hge; rw [List.drop_of_length_le hge] at hr1; simp only [sumL] at hr1; omega)
      refine wpM.seq ?_
      refine wpM.seq ?_
      refine wpM.region ?_
      refine LM.val (ov_move rfl) ?_
      refine LM.val (ov_move rfl) ?_
      refine LM.val (ov_move rfl) ?_
      obtain ⟨b, cap3, junk, hb, he, rfl, hcap, hmx, hsz⟩ := hs11.ne (by omega); simp only [Value.slice.injEq] at he; obtain ⟨rfl, -, rfl⟩ := he; have hri := bringL_rng (xs := xs) (i := j); have hsd := sumL_drop (l := bringL xs) (i := j) hjl; have hq : (bringL xs).getD (j : Int).toNat 0 = (bringL xs).getD j 0 := (by rw [Int.toNat_natCast])
      first | refine LM.val (ov_idx10 Try.underlying26 Try.sizeOf3 rfl rfl (by omega)) ?_ | refine LM.val (ov_idx1 Try.underlying26 Try.sizeOf3 rfl rfl (by omega)) ?_
      refine LM.rd (om_load 0 Try.isAgg3 rfl rfl (arr_getI (by omega))) ?_
      refine LM.val (ov_geq rfl rfl) ?_
      refine LM.nil ?_
      refine QM.sub (e' := [(5, _), (8, _), (9, _), (37, _)]) ⟨rfl, rfl, rfl, rfl, trivial⟩ ?_
      refine QM.then ?_
      first | refine wpM.condD rfl (fun h3 => ?_) (fun h3 => ?_) | refine wpM.condB rfl (fun h3 => ?_) (fun h3 => ?_)
      ·
        refine wpM.skip ?_
        refine QM.then ?_
        refine wpM.block ?_
        refine wpM.seq ?_
        refine wpM.region ?_
        refine LM.val (ov_move rfl) ?_
        refine LM.val (ov_move rfl) ?_
        refine LM.val (ov_move rfl) ?_
        first | refine LM.val (ov_idx10 Try.underlying26 Try.sizeOf3 rfl rfl (by omega)) ?_ | refine LM.val (ov_idx1 Try.underlying26 Try.sizeOf3 rfl rfl (by omega)) ?_
        refine LM.rd (om_load 0 Try.isAgg3 rfl rfl (arr_getI (by omega))) ?_
        refine LM.val (ov_sub64 rfl rfl (by omega)) ?_
        refine LM.val (ov_assign rfl) ?_
        refine LM.nil ?_
        refine QM.sub (e' := [(5, _), (8, _), (9, _)]) ⟨rfl, rfl, rfl, trivial⟩ ?_
        refine QM.then ?_
        refine wpM.region ?_
        refine LM.val (ov_move rfl) ?_
        refine LM.val (ov_add64 rfl rfl (by omega)) ?_
        refine LM.val (ov_assign rfl) ?_
        refine LM.nil ?_
        refine QM.sub (e' := [(5, _), (8, _), (9, _)]) ⟨rfl, rfl, rfl, trivial⟩ ?_
        refine QM.block_normal ?_
        exact QM.again (j + 1, r - (bringL xs).getD j 0) ⟨rfl, lk rfl (by rw [Int.toNat_natCast]), rfl, trivial⟩ (fun _ hm => hm) ⟨hjl, by show 0 ≤ r - _; omega, by show r - _ < _; omega, by show sumL ((bringL xs).drop (j + 1)) ≤ _; omega, by rw [hp, pick_drop hjl (by omega)]; show _ = j + 1 + _; omega⟩ (by show (bringL xs).length - (j + 1) < (bringL xs).length - j; omega)
      ·
        refine wpM.exit ?_
        refine QM.then_exit ?_
        refine QM.then_exit ?_
        refine QM.block_hit ?_
        refine QM.then ?_
        refine wpM.seq ?_
        refine wpM.region ?_
        refine LM.val (ov_move rfl) ?_
        refine LM.val (ov_assign rfl) ?_
        refine LM.nil ?_
        refine QM.sub (e' := [(4, _)]) ⟨rfl, trivial⟩ ?_
        refine QM.then ?_
        refine wpM.ret ?_
        refine QM.leave (.inl rfl) [.tmp 4] Try.results30 rfl ?_
        intro w' hm' hc' hg'
        -- leaf 2: h1- h2- h3-
        have e0 : winI xs n = j := (by unfold winI winL; rw [if_neg hs0, hp, pick_here hjl (by omega)]; omega)
        exact ⟨by simp only [resV]; rw [e0], hc'⟩

end Go.Eng

