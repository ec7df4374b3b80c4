/- The walks of lotteries: draws, counts. No condition. -/
import Derived.Test.YtpemcncnehhgfaaLot
set_option linter.unusedVariables false
set_option linter.unusedSimpArgs false
namespace Go.Eng
open Go Go.Proofs Go.RowKit

abbrev uB (b : Nat) (n : BitVec 64) : Nat × Obj := (b, .cells #[U n] 22 (0, 0))
abbrev nB (b : Nat) (n : Int) : Nat × Obj := (b, .cells #[.int .i64 n] 3 (0, 0))
abbrev slB (b : Nat) (ad : Option Addr) (len cap : Nat) : Nat × Obj := (b, .cells #[.slice ad len cap] 26 (0, 0))
def DrawT (ad : Option Addr) (len cap : Nat) (seed : BitVec 64) (n0 : Nat) (u : Value) (m : Mem0) : Prop := ∃ b3 b2, u = .func (.func 61) #[] #[.pointer (some ⟨b3, 0, none⟩), .pointer (some ⟨b2, 0, none⟩)] ∧ m = [uB b3 seed, slB b2 ad len cap] ∧ n0 ≤ b3 ∧ n0 ≤ b2
theorem DrawT.mono {ad : Option Addr} {len cap : Nat} {seed : BitVec 64} : ∀ (k k' : Nat) u m, k' ≤ k → DrawT ad len cap seed k u m → DrawT ad len cap seed k' u m := fun k k' u m h ⟨b3, b2, h1, h2, h3, h4⟩ => ⟨b3, b2, h1, h2, by omega, by omega⟩

set_option maxRecDepth 100000 in
theorem draws_spec (ad : Option Addr) (len cap : Nat) (seed : BitVec 64) (w : World) : Ret Try.prog 36 #[.slice ad len cap, U seed] w (fun v w' => Ext w w' ∧ ∃ m, DrawT ad len cap seed w.heap.size v m ∧ Mem w' m ∧ ∀ p ∈ m, w.heap.size ≤ p.1) := by
  refine Ret.enterM (l := [.slice ad len cap, U seed]) Try.func36 rfl Try.ntmps36 rfl ([]) (no) (Mem.nil w) ?_
  refine wpM.seq ?_
  refine wpM.region ?_
  refine LM.box rfl rfl (fun b2 hb2 => ?_)
  refine LM.box rfl rfl (fun b3 hb3 => ?_)
  refine LM.val (ov_assign rfl) ?_
  refine LM.nil ?_
  refine QM.sub (e' := [(2, _), (3, _)]) ⟨rfl, rfl, trivial⟩ ?_
  refine QM.then ?_
  refine wpM.seq ?_
  refine wpM.region ?_
  refine LM.val (ov_makeFunc rfl) ?_
  refine LM.val (ov_assign rfl) ?_
  refine LM.nil ?_
  refine QM.sub (e' := [(4, _)]) ⟨rfl, trivial⟩ ?_
  refine QM.then ?_
  refine wpM.ret ?_
  refine QM.leave (.inl rfl) [.tmp 4] Try.results36 rfl ?_
  intro w' hm' hc' hg'
  -- leaf 1: 
  exact ⟨hc', _, ⟨b3, b2, rfl, rfl, hb3, hb2⟩, hm', fun p hp => by simp only [List.mem_cons, List.not_mem_nil, or_false] at hp; rcases hp with rfl | rfl <;> assumption⟩

set_option maxRecDepth 100000 in
theorem draws_seq {xs : List Int} {ad : Option Addr} {cap b3 b2 : Nat} {seed : BitVec 64} (N : Nat) : SeqC Try.prog 61 #[.pointer (some ⟨b3, 0, none⟩),  .pointer (some ⟨b2, 0, none⟩)] (drawA xs seed N) (fun w => Mem w [uB b3 seed, slB b2 ad xs.length cap] ∧ Sr fI 1 xs (.slice ad xs.length cap) w) (sumL (bringL xs) = 0) := by
  refine SeqC.enter (lb := [.pointer (some ⟨b3, 0, none⟩),  .pointer (some ⟨b2, 0, none⟩)]) Try.func61 rfl Try.ntmps61 rfl ?_
  intro l n0 J Jx w0 hfin hJr gJ gJx hy
  have hw := fun m => winI_rng xs m; rw [drawA_len] at hfin
  refine wpM.seq ?_
  refine wpM.region ?_
  refine LM.rdC (fun w _ _ hg => om_load (M := [uB b3 seed, slB b2 ad xs.length cap]) 0 Try.isAgg22 rfl rfl rfl w (hJr _ w hg).1) ?_
  refine LM.val (ov_assign rfl) ?_
  refine LM.nil ?_
  refine QM.sub (e' := [(0, _), (2, _), (4, _)]) ⟨rfl, rfl, rfl, trivial⟩ ?_
  refine QM.then ?_
  refine wpM.block ?_
  refine wpM.loopG (α := Nat) (fun k => [(0, .func (.yield l) #[] #[]), (2, .pointer (some ⟨b2, 0, none⟩)), (4, U (seed + BitVec.ofNat 64 k))]) (fun k => []) (fun k => J k) (fun k => (sumL (bringL xs) = 0 → k = 0) ∧ (sumL (bringL xs) ≠ 0 → k ≤ N)) (fun k => N - k) 0 ⟨rfl, rfl, lk rfl (by simp), trivial⟩ (fun _ hm => hm) (fun _ h => h) ⟨fun _ => rfl, fun _ => Nat.zero_le _⟩ ?_
  rintro k hk
  refine wpM.seq ?_
  refine wpM.block ?_
  refine wpM.seq ?_
  refine wpM.region ?_
  refine LM.know (p := sumL (bringL xs) ≠ 0 → k < N) (fun w _ _ hg h0 => (by rcases hfin with h | h; exact absurd h h0; rw [if_neg h0] at h; have := hk.2 h0; rcases Nat.lt_or_ge k N with h2 | h2; exact h2; exact absurd (show J N w by rw [show N = k by omega]; exact hg) (h w))) (fun hkn => ?_)
  refine LM.rdC (fun w _ _ hg => om_load (M := [uB b3 seed, slB b2 ad xs.length cap]) 1 Try.isAgg26 rfl rfl rfl w (hJr _ w hg).1) ?_
  refine LM.val (ov_move rfl) ?_
  refine LM.callE (oc_call (enters_fn Try.func29 (by kernel_rfl) rfl) rfl) (fun w hm hc hg => winner_spec _ w (hJr _ w hg).2) ?_
  refine LM.val (ov_move rfl) ?_
  refine LM.val (ov_extract rfl rfl) ?_
  refine LM.val (ov_extract rfl rfl) ?_
  refine LM.val (ov_assign rfl) ?_
  refine LM.val (ov_assign rfl) ?_
  refine LM.nil ?_
  refine QM.sub (e' := [(0, _), (2, _), (4, _), (5, _), (6, _)]) ⟨rfl, rfl, rfl, rfl, rfl, trivial⟩ ?_
  refine QM.then ?_
  refine wpM.seq ?_
  refine wpM.region ?_
  refine LM.val (ov_move rfl) ?_
  first | refine LM.val (ov_notD rfl) ?_ | refine LM.val (ov_not rfl) ?_
  refine LM.val (ov_move rfl) ?_
  first | refine LM.splitD (t := 18) rfl (fun h1 => ?_) (fun h1 => ?_) | refine LM.splitB (t := 18) rfl (fun h1 => ?_) (fun h1 => ?_)
  ·
    refine LM.drop (t := 18) rfl rfl rfl ?_
    refine LM.drop (t := 18) rfl rfl rfl ?_
    refine LM.drop (t := 18) rfl rfl rfl ?_
    refine LM.drop (t := 18) rfl rfl rfl ?_
    refine LM.drop (t := 18) rfl rfl rfl ?_
    refine LM.val (ov_pickT rfl rfl) ?_
    refine LM.nil ?_
    refine QM.sub (e' := [(0, _), (2, _), (4, _), (24, _)]) ⟨rfl, rfl, rfl, rfl, trivial⟩ ?_
    refine QM.then ?_
    refine wpM.condT rfl ?_
    refine wpM.ret ?_
    refine QM.block_ret ?_
    refine QM.then_ret ?_
    refine QM.then_ret ?_
    refine QM.block_ret ?_
    refine QM.leave (.inl rfl) [] Try.results61 rfl ?_
    intro w' hm' hc' hg'
    -- leaf 1: h1+
    first | exact .inr hg' | exact .inl (by have h0 : sumL (bringL xs) = 0 := (by apply Classical.byContradiction; intro h; have := (hw (seed + BitVec.ofNat 64 k)).2.2.2 h; omega); rw [drawA_len, if_pos h0, ← hk.1 h0]; exact hg')
  ·
    have hs0 : sumL (bringL xs) ≠ 0 := (fun h => by have := (hw (seed + BitVec.ofNat 64 k)).2.2.1 h; omega)
    refine LM.strip (t := 18) rfl rfl rfl ?_
    refine LM.val (ov_move rfl) ?_
    refine LM.strip (t := 18) rfl rfl rfl ?_
    refine LM.val (ov_move rfl) ?_
    refine LM.strip (t := 18) rfl rfl rfl ?_
    refine LM.val (ov_move rfl) ?_
    refine LM.strip (t := 18) rfl rfl rfl ?_
    refine LM.yield (n := n0) (G1 := J (k + 1)) (G2 := Jx) rfl rfl (fun w hj => hy (k) _ w (drawA_get hs0 (hkn hs0)) hj) (fun _ => trivial) ?_ ?_
    ·
      refine LM.strip (t := 18) rfl rfl rfl ?_
      first | refine LM.val (ov_notD rfl) ?_ | refine LM.val (ov_not rfl) ?_
      refine LM.val (ov_pickF rfl rfl) ?_
      refine LM.nil ?_
      refine QM.sub (e' := [(0, _), (2, _), (4, _), (24, _)]) ⟨rfl, rfl, rfl, rfl, trivial⟩ ?_
      refine QM.then ?_
      refine wpM.condF rfl ?_
      refine wpM.skip ?_
      refine QM.block_normal ?_
      refine QM.then ?_
      refine wpM.region ?_
      refine LM.val (ov_move rfl) ?_
      refine LM.val (ov_uadd (b := 1#64) rfl rfl) ?_
      refine LM.val (ov_assign rfl) ?_
      refine LM.nil ?_
      refine QM.sub (e' := [(0, _), (2, _), (4, _)]) ⟨rfl, rfl, rfl, trivial⟩ ?_
      exact QM.againG (k + 1) ⟨rfl, rfl, lk rfl (by rw [BitVec.ofNat_add, BitVec.add_assoc]), trivial⟩ (fun _ h => h) (fun _ h => h) ⟨fun h => absurd h hs0, fun _ => hkn hs0⟩ (by have := hkn hs0; omega)
    ·
      refine LM.strip (t := 18) rfl rfl rfl ?_
      first | refine LM.val (ov_notD rfl) ?_ | refine LM.val (ov_not rfl) ?_
      refine LM.val (ov_pickF rfl rfl) ?_
      refine LM.nil ?_
      refine QM.sub (e' := [(0, _), (2, _), (4, _), (24, _)]) ⟨rfl, rfl, rfl, rfl, trivial⟩ ?_
      refine QM.then ?_
      refine wpM.condT rfl ?_
      refine wpM.ret ?_
      refine QM.block_ret ?_
      refine QM.then_ret ?_
      refine QM.then_ret ?_
      refine QM.block_ret ?_
      refine QM.leave (.inl rfl) [] Try.results61 rfl ?_
      intro w' hm' hc' hg'
      -- leaf 2: h1-
      first | exact .inr hg' | exact .inl (by have h0 : sumL (bringL xs) = 0 := (by apply Classical.byContradiction; intro h; have := (hw (seed + BitVec.ofNat 64 k)).2.2.2 h; omega); rw [drawA_len, if_pos h0, ← hk.1 h0]; exact hg')

set_option maxRecDepth 100000 in
theorem rcount_spec {xs : List Int} {ad : Option Addr} {cap : Nat} (seed : BitVec 64) (n : Int) (w : World) (hl : Sr fI 1 xs (.slice ad xs.length cap) w) (hx : xs.length ≤ 1000) : Ret Try.prog 35 #[.slice ad xs.length cap, U seed, .int .i64 n] w (New fI 3 1 (countL xs seed (cntN n)) w) := by
  have hbl := bringL_len xs; have hcn := cntN_le n
  refine Ret.enterM (l := [.slice ad xs.length cap, U seed, .int .i64 n]) Try.func35 rfl Try.ntmps35 rfl ([]) (no) (Mem.nil w) ?_
  refine wpM.seq ?_
  refine wpM.region ?_
  refine LM.val (ov_assign rfl) ?_
  refine LM.nil ?_
  refine QM.sub (e' := [(0, _), (1, _), (2, _)]) ⟨rfl, rfl, rfl, trivial⟩ ?_
  refine QM.then ?_
  refine wpM.seq ?_
  refine wpM.region ?_
  refine LM.val (ov_move rfl) ?_
  refine LM.callS (oc_call (enters_fn Try.func59 (by kernel_rfl) rfl) rfl) (fun w hm hc hg => rbring45_spec w (hl.ext hc) hx) (fun u11 m11 hs11 => ?_)
  obtain ⟨ad2, cap2, rfl⟩ := hs11.form
  refine LM.val (ov_len Try.underlying26 rfl) ?_
  refine LM.make (f := fI) (a0 := 0) Try.underlying26 Try.typeInfo3 rfl rfl rfl rfl fI_len rfl rfl rfl (by omega) (by simp only [Try.t3]; omega) (by omega) (fun b13 hb13 => ?_)
  refine LM.val (ov_assign rfl) ?_
  refine LM.nil ?_
  refine QM.sub (e' := [(0, _), (1, _), (2, _), (7, _)]) ⟨rfl, rfl, rfl, rfl, trivial⟩ ?_
  refine QM.then ?_
  refine wpM.seq ?_
  refine wpM.seq ?_
  refine wpM.region ?_
  refine LM.val (ov_assign rfl) ?_
  refine LM.nil ?_
  refine QM.sub (e' := [(0, _), (1, _), (2, _), (7, _), (8, _)]) ⟨rfl, rfl, rfl, rfl, rfl, trivial⟩ ?_
  refine QM.then ?_
  refine wpM.block ?_
  refine wpM.loop (α := Nat) (fun k => [(0, .slice ad xs.length cap), (1, U seed), (2, .int .i64 n), (7, .slice (some ⟨b13, 0, none⟩) ((bringL xs).length : Int).toNat ((bringL xs).length : Int).toNat), (8, .int .i64 k)]) (fun k => (b13, .cells (arr fI (countL xs seed k) []) 3 (0, 0)) :: (m11 ++ [])) (fun k => k ≤ cntN n) (fun k => cntN n - k) 0 ⟨rfl, rfl, rfl, rfl, rfl, trivial⟩ (fun _ hm => hm) (Nat.zero_le _) ?_
  rintro k hk
  have hcl := countL_len xs seed k
  refine wpM.seq ?_
  refine wpM.seq ?_
  refine wpM.region ?_
  refine LM.val (ov_move rfl) ?_
  refine LM.val (ov_move rfl) ?_
  refine LM.val (ov_lss rfl rfl) ?_
  refine LM.val (ov_move rfl) ?_
  first | refine LM.splitD (t := 17) rfl (fun h1 => ?_) (fun h1 => ?_) | refine LM.splitB (t := 17) rfl (fun h1 => ?_) (fun h1 => ?_)
  ·
    refine LM.strip (t := 17) rfl rfl rfl ?_
    refine LM.val (ov_move rfl) ?_
    refine LM.strip (t := 17) rfl rfl rfl ?_
    refine LM.val (ov_lss rfl rfl) ?_
    refine LM.val (ov_pickT rfl rfl) ?_
    refine LM.nil ?_
    refine QM.sub (e' := [(0, _), (1, _), (2, _), (7, _), (8, _), (20, _)]) ⟨rfl, rfl, rfl, rfl, rfl, rfl, trivial⟩ ?_
    refine QM.then ?_
    first | refine wpM.condD rfl (fun h2 => ?_) (fun h2 => ?_) | refine wpM.condB rfl (fun h2 => ?_) (fun h2 => ?_)
    ·
      refine wpM.skip ?_
      refine QM.then ?_
      refine wpM.seq ?_
      refine wpM.block ?_
      refine wpM.seq ?_
      refine wpM.region ?_
      refine LM.val (ov_move rfl) ?_
      refine LM.val (ov_move rfl) ?_
      refine LM.val (ov_move rfl) ?_
      refine LM.val (ov_toU Try.underlying3 Try.underlying22 rfl) ?_
      refine LM.val (ov_uadd rfl rfl) ?_
      refine LM.callE (oc_call (enters_fn Try.func30 (by kernel_rfl) rfl) rfl) (fun w hm hc hg => rwinner_spec _ w (hl.ext hc) hx) ?_
      refine LM.val (ov_assign rfl) ?_
      refine LM.nil ?_
      refine QM.sub (e' := [(0, _), (1, _), (2, _), (7, _), (8, _), (9, _)]) ⟨rfl, rfl, rfl, rfl, rfl, rfl, trivial⟩ ?_
      refine QM.then ?_
      refine wpM.seq ?_
      refine wpM.region ?_
      have hw := winI_rng xs (seed + BitVec.ofInt 64 (k : Int)); have hsd : seed + BitVec.ofInt 64 (k : Int) = seed + BitVec.ofNat 64 k := (by rw [BitVec.ofInt_natCast])
      refine LM.val (ov_move rfl) ?_
      refine LM.val (ov_geq rfl rfl) ?_
      refine LM.nil ?_
      refine QM.sub (e' := [(0, _), (1, _), (2, _), (7, _), (8, _), (9, _), (30, _)]) ⟨rfl, rfl, rfl, rfl, rfl, rfl, rfl, trivial⟩ ?_
      refine QM.then ?_
      first | refine wpM.condD rfl (fun h3 => ?_) (fun h3 => ?_) | refine wpM.condB rfl (fun h3 => ?_) (fun h3 => ?_)
      ·
        refine wpM.region ?_
        have hs0 : sumL (bringL xs) ≠ 0 := (fun h => by have := hw.2.2.1 h; omega); have hw2 := hw.2.2.2 hs0; have hcr := countL_rng xs seed k (winI xs (seed + BitVec.ofInt 64 (k : Int))).toNat
        refine LM.val (ov_move rfl) ?_
        refine LM.val (ov_move rfl) ?_
        first | refine LM.val (ov_idx10 Try.underlying26 Try.sizeOf3 rfl rfl (by omega)) ?_ | refine LM.val (ov_idx1 Try.underlying26 Try.sizeOf3 rfl rfl (by omega)) ?_
        refine LM.rd (om_load 0 Try.isAgg3 rfl rfl (arr_getI (by omega))) ?_
        refine LM.val (ov_add64 rfl rfl (by omega)) ?_
        first | refine LM.val (ov_idx10 Try.underlying26 Try.sizeOf3 rfl rfl (by omega)) ?_ | refine LM.val (ov_idx1 Try.underlying26 Try.sizeOf3 rfl rfl (by omega)) ?_
        refine LM.storeI 0 Try.sizeOf3 rfl rfl rfl (by omega) (fun hlt => absurd hlt (by omega)) ?_
        refine LM.nil ?_
        refine QM.sub (e' := [(0, _), (1, _), (2, _), (7, _), (8, _)]) ⟨rfl, rfl, rfl, rfl, rfl, trivial⟩ ?_
        refine QM.block_normal ?_
        refine QM.then ?_
        refine wpM.region ?_
        refine LM.val (ov_move rfl) ?_
        refine LM.val (ov_add64 rfl rfl (by omega)) ?_
        refine LM.val (ov_assign rfl) ?_
        refine LM.nil ?_
        refine QM.sub (e' := [(0, _), (1, _), (2, _), (7, _), (8, _)]) ⟨rfl, rfl, rfl, rfl, rfl, trivial⟩ ?_
        exact QM.again (k + 1) ⟨rfl, rfl, rfl, rfl, rfl, trivial⟩ (fun w hm => by rw [countL, if_neg hs0]; rw [hsd] at hm; exact hm) (by unfold cntN at *; omega) (by unfold cntN at *; omega)
      ·
        refine wpM.skip ?_
        refine QM.block_normal ?_
        refine QM.then ?_
        refine wpM.region ?_
        refine LM.val (ov_move rfl) ?_
        refine LM.val (ov_add64 rfl rfl (by omega)) ?_
        refine LM.val (ov_assign rfl) ?_
        refine LM.nil ?_
        refine QM.sub (e' := [(0, _), (1, _), (2, _), (7, _), (8, _)]) ⟨rfl, rfl, rfl, rfl, rfl, trivial⟩ ?_
        exact QM.again (k + 1) ⟨rfl, rfl, rfl, rfl, rfl, trivial⟩ (fun w hm => by rw [countL, if_pos (by apply Classical.byContradiction; intro h; have := hw.2.2.2 h; omega)]; exact hm) (by unfold cntN at *; omega) (by unfold cntN at *; omega)
    ·
      refine wpM.exit ?_
      refine QM.then_exit ?_
      refine QM.then_exit ?_
      refine QM.block_hit ?_
      refine QM.then ?_
      refine wpM.seq ?_
      refine wpM.region ?_
      refine LM.val (ov_move rfl) ?_
      refine LM.val (ov_assign rfl) ?_
      refine LM.nil ?_
      refine QM.sub (e' := [(6, _)]) ⟨rfl, trivial⟩ ?_
      refine QM.then ?_
      refine wpM.ret ?_
      refine QM.leave (.inl rfl) [.tmp 6] Try.results35 rfl ?_
      intro w' hm' hc' hg'
      -- leaf 1: h1+ h2-
      have hk2 : k = cntN n := (by unfold cntN at *; omega); subst hk2; have hcl2 := countL_len xs seed (cntN n)
      refine ⟨hc', [(b13, .cells (arr fI (countL xs seed (cntN n)) []) 3 (0, 0))], .inr ⟨b13, ((bringL xs).length : Int).toNat, [], hb13, ?_, rfl, by omega, by unfold maxLen; omega, by simp; omega⟩, hm'.sub (.cons_cons _ (List.nil_sublist _))⟩
      simp only [resV]; rw [hcl2, Int.toNat_natCast]
  ·
    refine LM.drop (t := 17) rfl rfl rfl ?_
    refine LM.drop (t := 17) rfl rfl rfl ?_
    refine LM.val (ov_pickF rfl rfl) ?_
    refine LM.nil ?_
    refine QM.sub (e' := [(0, _), (1, _), (2, _), (7, _), (8, _), (20, _)]) ⟨rfl, rfl, rfl, rfl, rfl, rfl, trivial⟩ ?_
    refine QM.then ?_
    refine wpM.condF rfl ?_
    refine wpM.exit ?_
    refine QM.then_exit ?_
    refine QM.then_exit ?_
    refine QM.block_hit ?_
    refine QM.then ?_
    refine wpM.seq ?_
    refine wpM.region ?_
    refine LM.val (ov_move rfl) ?_
    refine LM.val (ov_assign rfl) ?_
    refine LM.nil ?_
    refine QM.sub (e' := [(6, _)]) ⟨rfl, trivial⟩ ?_
    refine QM.then ?_
    refine wpM.ret ?_
    refine QM.leave (.inl rfl) [.tmp 6] Try.results35 rfl ?_
    intro w' hm' hc' hg'
    -- leaf 2: h1-
    have hk2 : k = cntN n := (by unfold cntN at *; omega); subst hk2; have hcl2 := countL_len xs seed (cntN n)
    refine ⟨hc', [(b13, .cells (arr fI (countL xs seed (cntN n)) []) 3 (0, 0))], .inr ⟨b13, ((bringL xs).length : Int).toNat, [], hb13, ?_, rfl, by omega, by unfold maxLen; omega, by simp; omega⟩, hm'.sub (.cons_cons _ (List.nil_sublist _))⟩
    simp only [resV]; rw [hcl2, Int.toNat_natCast]

set_option maxRecDepth 100000 in
theorem count_spec {xs : List Int} {ad : Option Addr} {cap : Nat} (seed : BitVec 64) (n : Int) (w : World) (hl : Sr fI 1 xs (.slice ad xs.length cap) w) : Ret Try.prog 34 #[.slice ad xs.length cap, U seed, .int .i64 n] w (New fI 3 1 (countL xs seed (cntN n)) w) := by
  have hbl := bringL_len xs; have hcn := cntN_le n
  refine Ret.enterM (l := [.slice ad xs.length cap, U seed, .int .i64 n]) Try.func34 rfl Try.ntmps34 rfl ([]) (no) (Mem.nil w) ?_
  refine wpM.seq ?_
  refine wpM.region ?_
  refine LM.box rfl rfl (fun b4 hb4 => ?_)
  refine LM.box rfl rfl (fun b5 hb5 => ?_)
  refine LM.val (ov_assign rfl) ?_
  refine LM.nil ?_
  refine QM.sub (e' := [(0, _), (4, _), (5, _)]) ⟨rfl, rfl, rfl, trivial⟩ ?_
  refine QM.then ?_
  refine wpM.seq ?_
  refine wpM.region ?_
  refine LM.val (ov_move rfl) ?_
  refine LM.callT (oc_call (enters_fn Try.func58 (by kernel_rfl) rfl) rfl) BrT.mono (fun w hm hc hg => bring_spec w (hl.ext hc)) ?_
  rintro u12 m12 ⟨v12, rfl, hsl⟩ -; obtain ⟨ad2, cap2, rfl⟩ := hsl.form; refine LM.mem (M' := [nB b5 n, uB b4 seed]) (fun w hm => hm.sub (List.sublist_append_right _ _)) ?_
  refine LM.val (ov_move rfl) ?_
  refine LM.val (ov_extract rfl rfl) ?_
  refine LM.val (ov_extract rfl rfl) ?_
  refine LM.val (ov_assign rfl) ?_
  refine LM.val (ov_assign rfl) ?_
  refine LM.nil ?_
  refine QM.sub (e' := [(0, _), (4, _), (5, _), (7, _)]) ⟨rfl, rfl, rfl, rfl, trivial⟩ ?_
  refine QM.then ?_
  refine wpM.seq ?_
  refine wpM.region ?_
  refine LM.val (ov_move rfl) ?_
  refine LM.val (ov_len Try.underlying26 rfl) ?_
  refine LM.make (f := fI) (a0 := 0) Try.underlying26 Try.typeInfo3 rfl rfl rfl rfl fI_len rfl rfl rfl (by omega) (by simp only [Try.t3]; omega) (by omega) (fun b19 hb19 => ?_)
  refine LM.alloc Try.zeroValue26 rfl (fun b9 hb9 => ?_)
  first | refine LM.store 0 Try.sizeOf26 rfl rfl rfl rfl (by first | decide | (simp; done) | (simp; omega)) rfl (fun hlt => absurd hlt (by omega)) ?_ | refine LM.store 1 Try.sizeOf26 rfl rfl rfl rfl (by first | decide | (simp; done) | (simp; omega)) rfl (fun hlt => absurd hlt (by omega)) ?_ | refine LM.store 2 Try.sizeOf26 rfl rfl rfl rfl (by first | decide | (simp; done) | (simp; omega)) rfl (fun hlt => absurd hlt (by omega)) ?_ | refine LM.store 3 Try.sizeOf26 rfl rfl rfl rfl (by first | decide | (simp; done) | (simp; omega)) rfl (fun hlt => absurd hlt (by omega)) ?_ | refine LM.store 4 Try.sizeOf26 rfl rfl rfl rfl (by first | decide | (simp; done) | (simp; omega)) rfl (fun hlt => absurd hlt (by omega)) ?_ | refine LM.store 5 Try.sizeOf26 rfl rfl rfl rfl (by first | decide | (simp; done) | (simp; omega)) rfl (fun hlt => absurd hlt (by omega)) ?_ | refine LM.store 6 Try.sizeOf26 rfl rfl rfl rfl (by first | decide | (simp; done) | (simp; omega)) rfl (fun hlt => absurd hlt (by omega)) ?_ | refine LM.store 7 Try.sizeOf26 rfl rfl rfl rfl (by first | decide | (simp; done) | (simp; omega)) rfl (fun hlt => absurd hlt (by omega)) ?_ | refine LM.store 8 Try.sizeOf26 rfl rfl rfl rfl (by first | decide | (simp; done) | (simp; omega)) rfl (fun hlt => absurd hlt (by omega)) ?_
  refine LM.nil ?_
  refine QM.sub (e' := [(0, _), (4, _), (5, _), (9, _)]) ⟨rfl, rfl, rfl, rfl, trivial⟩ ?_
  refine QM.then ?_
  refine wpM.seq ?_
  refine wpM.region ?_
  first | refine LM.rd (om_load 0 Try.isAgg3 rfl rfl rfl) ?_ | refine LM.rd (om_load 1 Try.isAgg3 rfl rfl rfl) ?_ | refine LM.rd (om_load 2 Try.isAgg3 rfl rfl rfl) ?_ | refine LM.rd (om_load 3 Try.isAgg3 rfl rfl rfl) ?_ | refine LM.rd (om_load 4 Try.isAgg3 rfl rfl rfl) ?_ | refine LM.rd (om_load 5 Try.isAgg3 rfl rfl rfl) ?_ | refine LM.rd (om_load 6 Try.isAgg3 rfl rfl rfl) ?_ | refine LM.rd (om_load 7 Try.isAgg3 rfl rfl rfl) ?_ | refine LM.rd (om_load 8 Try.isAgg3 rfl rfl rfl) ?_
  refine LM.val (ov_max rfl rfl) ?_
  refine LM.val (ov_min rfl rfl) ?_
  refine LM.sub (e' := [(0, _), (4, _), (5, _), (9, _), (22, .int .i64 ((cntN n : Nat) : Int))]) ⟨rfl, rfl, rfl, rfl, lk rfl (congrArg (Value.int .i64) (cntN_if n)), trivial⟩ ?_; refine LM.store 2 Try.sizeOf3 rfl rfl rfl rfl (by simp) rfl (fun hlt => absurd hlt (by omega)) ?_
  refine LM.nil ?_
  refine QM.sub (e' := [(0, _), (4, _), (5, _), (9, _)]) ⟨rfl, rfl, rfl, rfl, trivial⟩ ?_
  refine QM.then ?_
  refine wpM.seq ?_
  refine wpM.seq ?_
  refine wpM.region ?_
  refine LM.val (ov_move rfl) ?_
  first | refine LM.rd (om_load 0 Try.isAgg22 rfl rfl rfl) ?_ | refine LM.rd (om_load 1 Try.isAgg22 rfl rfl rfl) ?_ | refine LM.rd (om_load 2 Try.isAgg22 rfl rfl rfl) ?_ | refine LM.rd (om_load 3 Try.isAgg22 rfl rfl rfl) ?_ | refine LM.rd (om_load 4 Try.isAgg22 rfl rfl rfl) ?_ | refine LM.rd (om_load 5 Try.isAgg22 rfl rfl rfl) ?_ | refine LM.rd (om_load 6 Try.isAgg22 rfl rfl rfl) ?_ | refine LM.rd (om_load 7 Try.isAgg22 rfl rfl rfl) ?_ | refine LM.rd (om_load 8 Try.isAgg22 rfl rfl rfl) ?_
  refine LM.callT (oc_call (enters_fn Try.func36 (by kernel_rfl) rfl) rfl) DrawT.mono (fun w hm hc hg => draws_spec ad xs.length cap seed w) ?_
  rintro u25 m25 ⟨b3, b2, rfl, rfl, hb3, hb2⟩ -
  refine LM.nil ?_
  refine QM.sub (e' := [(4, _), (5, _), (9, _), (25, _)]) ⟨rfl, rfl, rfl, rfl, trivial⟩ ?_
  refine QM.then ?_
  refine wpM.block ?_
  refine wpM.range (α := Unit) (β := Unit) (enters_fn Try.func61 (by kernel_rfl) rfl) rfl (draws_seq (ad := ad) (cap := cap) (xs := xs) (cntN n + 1)) (fun k ⟨⟩ => [uB b3 seed, slB b2 ad xs.length cap] ++ [slB b9 (some ⟨b19, 0, none⟩) ((bringL xs).length : Int).toNat ((bringL xs).length : Int).toNat, (b19, .cells (arr fI (countL xs seed k) []) 3 (0, 0)), nB b5 (cntN n : Nat), uB b4 seed]) (fun _ _ => top) (fun k ⟨⟩ => k ≤ cntN n) (fun ⟨⟩ => [uB b3 seed, slB b2 ad xs.length cap] ++ [slB b9 (some ⟨b19, 0, none⟩) ((bringL xs).length : Int).toNat ((bringL xs).length : Int).toNat, (b19, .cells (arr fI (countL xs seed (cntN n)) []) 3 (0, 0)), nB b5 (cntN n : Nat), uB b4 seed]) (fun _ => top) (fun c ⟨⟩ => c = .exit 0) ⟨⟩ rfl (fun _ h => h) (Nat.zero_le _) (by kernel_rfl) (by intro k av hav; obtain ⟨hs0, hk1, rfl⟩ := drawA_inv hav; rfl) (by by_cases h : sumL (bringL xs) = 0; exact .inl h; exact .inr (fun x hI => by rw [drawA_len, if_neg h] at hI; omega)) (fun k x w hm hc _ _ => ⟨hm.sub (.cons_cons _ (.cons_cons _ (List.nil_sublist _))), hl.ext hc⟩) (fun _ _ _ _ => gl_top _) (fun _ _ _ => gl_top _) (fun k x _ => by ((repeat (refine mm_cons rfl ?_)); exact fun p hp => .inl (by first | exact hp | (simp at hp; done) | (simp [hp]; done)))) (fun c z _ => by ((repeat (refine mm_cons rfl ?_)); exact fun p hp => .inl (by first | exact hp | (simp at hp; done) | (simp [hp]; done)))) ?_ ?_ ?_ ?_
  ·
    rintro k av ⟨⟩ l D rc n1 W1 hD hl hput hrc hav hk
    obtain ⟨hs0, hk1, rfl⟩ := drawA_inv hav
    have hcl := countL_len xs seed k
    refine wpM.seq ?_
    refine wpM.region ?_
    refine LM.val (ov_assign rfl) ?_
    refine LM.nil ?_
    refine QM.sub (e' := [(4, _), (5, _), (9, _), (10, _), (27, _)]) ⟨rfl, rfl, rfl, rfl, rfl, trivial⟩ ?_
    refine QM.then ?_
    refine wpM.region ?_
    refine LM.val (ov_assign rfl) ?_
    refine LM.nil ?_
    refine QM.sub (e' := [(4, _), (5, _), (9, _), (10, _), (11, _)]) ⟨rfl, rfl, rfl, rfl, rfl, trivial⟩ ?_
    refine QM.toBody (hput k ⟨⟩) hl ?_
    refine wpM.block ?_
    refine wpM.seq ?_
    refine wpM.seq ?_
    refine wpM.region ?_
    have hadd := add_sub_seed seed (k := k) (by omega); have hct := toNat_ofInt' (r := ((cntN n : Nat) : Int)) (by omega)
    refine LM.val (ov_move rfl) ?_
    first | refine LM.rd (om_load 0 Try.isAgg22 rfl rfl rfl) ?_ | refine LM.rd (om_load 1 Try.isAgg22 rfl rfl rfl) ?_ | refine LM.rd (om_load 2 Try.isAgg22 rfl rfl rfl) ?_ | refine LM.rd (om_load 3 Try.isAgg22 rfl rfl rfl) ?_ | refine LM.rd (om_load 4 Try.isAgg22 rfl rfl rfl) ?_ | refine LM.rd (om_load 5 Try.isAgg22 rfl rfl rfl) ?_ | refine LM.rd (om_load 6 Try.isAgg22 rfl rfl rfl) ?_ | refine LM.rd (om_load 7 Try.isAgg22 rfl rfl rfl) ?_ | refine LM.rd (om_load 8 Try.isAgg22 rfl rfl rfl) ?_
    refine LM.val (ov_usub rfl rfl) ?_
    first | refine LM.rd (om_load 0 Try.isAgg3 rfl rfl rfl) ?_ | refine LM.rd (om_load 1 Try.isAgg3 rfl rfl rfl) ?_ | refine LM.rd (om_load 2 Try.isAgg3 rfl rfl rfl) ?_ | refine LM.rd (om_load 3 Try.isAgg3 rfl rfl rfl) ?_ | refine LM.rd (om_load 4 Try.isAgg3 rfl rfl rfl) ?_ | refine LM.rd (om_load 5 Try.isAgg3 rfl rfl rfl) ?_ | refine LM.rd (om_load 6 Try.isAgg3 rfl rfl rfl) ?_ | refine LM.rd (om_load 7 Try.isAgg3 rfl rfl rfl) ?_ | refine LM.rd (om_load 8 Try.isAgg3 rfl rfl rfl) ?_
    refine LM.val (ov_toU Try.underlying3 Try.underlying22 rfl) ?_
    refine LM.val (ov_ugeq rfl rfl) ?_
    refine LM.nil ?_
    refine QM.sub (e' := [(9, _), (11, _), (33, _)]) ⟨rfl, rfl, rfl, trivial⟩ ?_
    refine QM.then ?_
    first | refine wpM.condD rfl (fun h1 => ?_) (fun h1 => ?_) | refine wpM.condB rfl (fun h1 => ?_) (fun h1 => ?_)
    ·
      refine wpM.exit ?_
      refine QM.then_exit ?_
      refine QM.block_miss rfl ?_
      -- exit1: h1+
      exact QM.rexit ⟨⟩ (fun w hm => by rw [show cntN n = k by omega]; rw [show cntN n = k by omega] at hm; exact hm) (fun _ h => h) rfl
    ·
      refine wpM.skip ?_
      refine QM.then ?_
      refine wpM.region ?_
      first | refine LM.rd (om_load 0 Try.isAgg26 rfl rfl rfl) ?_ | refine LM.rd (om_load 1 Try.isAgg26 rfl rfl rfl) ?_ | refine LM.rd (om_load 2 Try.isAgg26 rfl rfl rfl) ?_ | refine LM.rd (om_load 3 Try.isAgg26 rfl rfl rfl) ?_ | refine LM.rd (om_load 4 Try.isAgg26 rfl rfl rfl) ?_ | refine LM.rd (om_load 5 Try.isAgg26 rfl rfl rfl) ?_ | refine LM.rd (om_load 6 Try.isAgg26 rfl rfl rfl) ?_ | refine LM.rd (om_load 7 Try.isAgg26 rfl rfl rfl) ?_ | refine LM.rd (om_load 8 Try.isAgg26 rfl rfl rfl) ?_
      refine LM.val (ov_move rfl) ?_
      have hw := winI_rng xs (seed + BitVec.ofNat 64 k); have hw2 := hw.2.2.2 hs0; have hcr := countL_rng xs seed k (winI xs (seed + BitVec.ofNat 64 k)).toNat
      first | refine LM.val (ov_idx10 Try.underlying26 Try.sizeOf3 rfl rfl (by omega)) ?_ | refine LM.val (ov_idx1 Try.underlying26 Try.sizeOf3 rfl rfl (by omega)) ?_
      refine LM.rd (om_load 5 Try.isAgg3 rfl rfl (arr_getI (by omega))) ?_
      refine LM.val (ov_add64 rfl rfl (by omega)) ?_
      first | refine LM.val (ov_idx10 Try.underlying26 Try.sizeOf3 rfl rfl (by omega)) ?_ | refine LM.val (ov_idx1 Try.underlying26 Try.sizeOf3 rfl rfl (by omega)) ?_
      refine LM.storeI 5 Try.sizeOf3 rfl rfl rfl (by omega) (fun hlt => absurd hlt (by omega)) ?_
      refine LM.nil ?_
      refine QM.sub (e' := []) trivial ?_
      refine QM.block_normal ?_
      -- next1: h1-
      exact QM.next ⟨⟩ (fun w hm => by rw [countL, if_neg hs0]; exact hm) (fun _ h => h) (by omega)
  ·
    rintro ⟨⟩ D0 hD0 hk
    refine QM.sub (e' := [(9, _)]) ⟨rfl, trivial⟩ ?_
    refine QM.block_normal ?_
    refine QM.then ?_
    refine wpM.seq ?_
    refine wpM.region ?_
    first | refine LM.rd (om_load 0 Try.isAgg26 rfl rfl rfl) ?_ | refine LM.rd (om_load 1 Try.isAgg26 rfl rfl rfl) ?_ | refine LM.rd (om_load 2 Try.isAgg26 rfl rfl rfl) ?_ | refine LM.rd (om_load 3 Try.isAgg26 rfl rfl rfl) ?_ | refine LM.rd (om_load 4 Try.isAgg26 rfl rfl rfl) ?_ | refine LM.rd (om_load 5 Try.isAgg26 rfl rfl rfl) ?_ | refine LM.rd (om_load 6 Try.isAgg26 rfl rfl rfl) ?_ | refine LM.rd (om_load 7 Try.isAgg26 rfl rfl rfl) ?_ | refine LM.rd (om_load 8 Try.isAgg26 rfl rfl rfl) ?_
    refine LM.val (ov_assign rfl) ?_
    refine LM.nil ?_
    refine QM.sub (e' := [(6, _)]) ⟨rfl, trivial⟩ ?_
    refine QM.then ?_
    refine wpM.ret ?_
    refine QM.leaveD (ds := [D0]) (.inl rfl) [.tmp 6] Try.results34 rfl (fun D h => by simp only [List.mem_cons, List.not_mem_nil, or_false] at h; omega) ?_
    intro w' hm' hc'
    -- leaf 1: h1-
    have h0 : sumL (bringL xs) = 0 := (by apply Classical.byContradiction; intro h; rw [drawA_len, if_neg h] at hk; omega)
    rw [drawA_len, if_pos h0] at hm'; rw [countL_zero xs seed h0 0, ← countL_zero xs seed h0 (cntN n)] at hm'
    have hcl2 := countL_len xs seed (cntN n)
    refine ⟨hc', [(b19, .cells (arr fI (countL xs seed (cntN n)) []) 3 (0, 0))], .inr ⟨b19, ((bringL xs).length : Int).toNat, [], hb19, ?_, rfl, by omega, by unfold maxLen; omega, by simp; omega⟩, hm'.sub (.cons _ (.cons _ (.cons _ (.cons_cons _ (List.nil_sublist _)))))⟩
    simp only [resV]; rw [hcl2, Int.toNat_natCast]; rfl
  ·
    rintro ⟨⟩ D0 hD0 hx
    cases hx
  ·
    rintro id ⟨⟩ D0 hD0 hx
    cases hx
    refine QM.block_hit ?_
    refine QM.then ?_
    refine wpM.seq ?_
    refine wpM.region ?_
    first | refine LM.rd (om_load 0 Try.isAgg26 rfl rfl rfl) ?_ | refine LM.rd (om_load 1 Try.isAgg26 rfl rfl rfl) ?_ | refine LM.rd (om_load 2 Try.isAgg26 rfl rfl rfl) ?_ | refine LM.rd (om_load 3 Try.isAgg26 rfl rfl rfl) ?_ | refine LM.rd (om_load 4 Try.isAgg26 rfl rfl rfl) ?_ | refine LM.rd (om_load 5 Try.isAgg26 rfl rfl rfl) ?_ | refine LM.rd (om_load 6 Try.isAgg26 rfl rfl rfl) ?_ | refine LM.rd (om_load 7 Try.isAgg26 rfl rfl rfl) ?_ | refine LM.rd (om_load 8 Try.isAgg26 rfl rfl rfl) ?_
    refine LM.val (ov_assign rfl) ?_
    refine LM.nil ?_
    refine QM.sub (e' := [(6, _)]) ⟨rfl, trivial⟩ ?_
    refine QM.then ?_
    refine wpM.ret ?_
    refine QM.leaveD (ds := [D0]) (.inl rfl) [.tmp 6] Try.results34 rfl (fun D h => by simp only [List.mem_cons, List.not_mem_nil, or_false] at h; omega) ?_
    intro w' hm' hc'
    -- leaf 2: h1-
    have hcl2 := countL_len xs seed (cntN n)
    refine ⟨hc', [(b19, .cells (arr fI (countL xs seed (cntN n)) []) 3 (0, 0))], .inr ⟨b19, ((bringL xs).length : Int).toNat, [], hb19, ?_, rfl, by omega, by unfold maxLen; omega, by simp; omega⟩, hm'.sub (.cons _ (.cons _ (.cons _ (.cons_cons _ (List.nil_sublist _)))))⟩
    simp only [resV]; rw [hcl2, Int.toNat_natCast]; rfl

end Go.Eng

