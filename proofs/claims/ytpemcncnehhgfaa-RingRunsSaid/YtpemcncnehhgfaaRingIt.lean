/- The walks of what a ring is gone over with. No condition. -/
import Derived.Test.YtpemcncnehhgfaaRing
set_option linter.unusedVariables false
set_option linter.unusedSimpArgs false
namespace Go.Eng
open Go Go.Proofs Go.RowKit

/-- a ring's own block -/
abbrev rB (br : Nat) (sv : Value) (most len : Nat) : Nat × Obj := (br, .cells #[sv, .int .i64 (most : Int), .int .i64 (len : Int)] 86 (0, 0))
abbrev iB (b : Nat) (n : Int) : Nat × Obj := (b, .cells #[.int .i64 n] 3 (0, 0))
abbrev pB (b br : Nat) : Nat × Obj := (b, .cells #[.pointer (some ⟨br, 0, none⟩)] 32 (0, 0))

def FromT (br : Nat) (n : Int) (n0 : Nat) (v : Value) (m : Mem0) : Prop := ∃ b3 b2, v = .func (.func 69) #[] #[.pointer (some ⟨b3, 0, none⟩), .pointer (some ⟨b2, 0, none⟩)] ∧ m = [iB b3 n, pB b2 br] ∧ n0 ≤ b3 ∧ n0 ≤ b2
theorem FromT.mono {br : Nat} {n : Int} : ∀ (k k' : Nat) u m, k' ≤ k → FromT br n k u m → FromT br n k' u m := fun k k' u m h ⟨b3, b2, h1, h2, h3, h4⟩ => ⟨b3, b2, h1, h2, by omega, by omega⟩
def BackT (br : Nat) (n0 : Nat) (v : Value) (m : Mem0) : Prop := ∃ b2, v = .func (.func 70) #[] #[.pointer (some ⟨b2, 0, none⟩)] ∧ m = [pB b2 br] ∧ n0 ≤ b2
theorem BackT.mono {br : Nat} : ∀ (k k' : Nat) u m, k' ≤ k → BackT br k u m → BackT br k' u m := fun k k' u m h ⟨b2, h1, h2, h4⟩ => ⟨b2, h1, h2, by omega⟩

set_option maxRecDepth 100000 in
theorem ifrom_spec (br : Nat) (n : Int) (w : World) : Ret Try.prog 56 #[.pointer (some ⟨br, 0, none⟩), .int .i64 n] w (fun v w' => Ext w w' ∧ ∃ m, FromT br n w.heap.size v m ∧ Mem w' m ∧ ∀ p ∈ m, w.heap.size ≤ p.1) := by
  refine Ret.enterM (l := [.pointer (some ⟨br, 0, none⟩), .int .i64 n]) Try.func56 rfl Try.ntmps56 rfl ([]) (no) (Mem.nil w) ?_
  refine wpM.seq ?_
  refine wpM.region ?_
  refine LM.box rfl rfl (fun b2 hb2 => ?_)
  refine LM.box rfl rfl (fun b3 hb3 => ?_)
  refine LM.val (ov_assign rfl) ?_
  refine LM.nil ?_
  refine QM.sub (e' := [(2, _), (3, _)]) ⟨rfl, rfl, trivial⟩ ?_
  refine QM.then ?_
  refine wpM.seq ?_
  refine wpM.region ?_
  refine LM.val (ov_makeFunc rfl) ?_
  refine LM.val (ov_assign rfl) ?_
  refine LM.nil ?_
  refine QM.sub (e' := [(4, _)]) ⟨rfl, trivial⟩ ?_
  refine QM.then ?_
  refine wpM.ret ?_
  refine QM.leave (.inl rfl) [.tmp 4] Try.results56 rfl ?_
  intro w' hm' hc' hg'
  -- leaf 1: 
  exact ⟨hc', _, ⟨b3, b2, rfl, rfl, hb3, hb2⟩, hm', fun p hp => by simp only [List.mem_cons, List.not_mem_nil, or_false] at hp; rcases hp with rfl | rfl <;> assumption⟩

set_option maxRecDepth 100000 in
theorem iback_spec (br : Nat) (w : World) : Ret Try.prog 57 #[.pointer (some ⟨br, 0, none⟩)] w (fun v w' => Ext w w' ∧ ∃ m, BackT br w.heap.size v m ∧ Mem w' m ∧ ∀ p ∈ m, w.heap.size ≤ p.1) := by
  refine Ret.enterM (l := [.pointer (some ⟨br, 0, none⟩)]) Try.func57 rfl Try.ntmps57 rfl ([]) (no) (Mem.nil w) ?_
  refine wpM.seq ?_
  refine wpM.region ?_
  refine LM.box rfl rfl (fun b1 hb1 => ?_)
  refine LM.val (ov_assign rfl) ?_
  refine LM.nil ?_
  refine QM.sub (e' := [(1, _)]) ⟨rfl, trivial⟩ ?_
  refine QM.then ?_
  refine wpM.seq ?_
  refine wpM.region ?_
  refine LM.val (ov_makeFunc rfl) ?_
  refine LM.val (ov_assign rfl) ?_
  refine LM.nil ?_
  refine QM.sub (e' := [(2, _)]) ⟨rfl, trivial⟩ ?_
  refine QM.then ?_
  refine wpM.ret ?_
  refine QM.leave (.inl rfl) [.tmp 2] Try.results57 rfl ?_
  intro w' hm' hc' hg'
  -- leaf 1: 
  exact ⟨hc', _, ⟨b1, rfl, rfl, hb1⟩, hm', fun p hp => by simp only [List.mem_cons, List.not_mem_nil, or_false] at hp; subst hp; assumption⟩

set_option maxRecDepth 100000 in
theorem ifrom_seq {most : Nat} {xs ss : List Int} {b3 b2 br n0 : Nat} {n : Int} {sv : Value} {ms : Mem0} (hsl : Sl fI 3 1 n0 ss sv ms) (hri : RI most xs ss) (hx : xs.length ≤ 1000) (hmo : 0 < most) (hn : -9223372036854775808 ≤ n ∧ n ≤ 9223372036854775807) : SeqC Try.prog 69 #[.pointer (some ⟨b3, 0, none⟩),  .pointer (some ⟨b2, 0, none⟩)] (fromA xs (fromS n ((xs.length - min xs.length most : Nat) : Int))) (fun w => Mem w ([iB b3 n, pB b2 br, rB br sv most xs.length] ++ ms)) (True) := by
  refine SeqC.enter (lb := [.pointer (some ⟨b3, 0, none⟩),  .pointer (some ⟨b2, 0, none⟩)]) Try.func69 rfl Try.ntmps69 rfl ?_
  intro l n0 J Jx w0 hfin hJr gJ gJx hy
  have hs0 : (0 : Int) ≤ fromS n ((xs.length - min xs.length most : Nat) : Int) := (by unfold fromS; split <;> omega); have hs1 : ((xs.length - min xs.length most : Nat) : Int) ≤ fromS n ((xs.length - min xs.length most : Nat) : Int) := (by unfold fromS; split <;> omega); have hs2 : fromS n ((xs.length - min xs.length most : Nat) : Int) ≤ 9223372036854775807 := (by unfold fromS; split <;> omega)
  refine wpM.seq ?_
  refine wpM.draw [(0, 1), (1, 1), (2, 2), (3, 0), (4, 0)] (by kernel_rfl) (by kernel_rfl) ?_
  refine LD.rdC rfl rfl (fun w _ _ hg => om_load (M := [iB b3 n, pB b2 br, rB br sv most xs.length] ++ ms) 0 Try.isAgg3 rfl rfl rfl w (hJr _ w hg)) ?_
  refine LD.rdC rfl rfl (fun w _ _ hg => om_load (M := [iB b3 n, pB b2 br, rB br sv most xs.length] ++ ms) 1 Try.isAgg32 rfl rfl rfl w (hJr _ w hg)) ?_
  refine LD.callE rfl rfl (oc_call (enters_fn Try.func23 (by kernel_rfl) rfl) rfl) (fun w hm hc hg => ifirst_spec (hJr _ w hg).tail.tail hsl hri hx) ?_
  refine LD.val rfl rfl (ov_max rfl rfl) ?_
  refine LD.val rfl rfl (ov_assign rfl) ?_
  refine LD.nil ?_
  refine QM.sub (e' := [(0, _), (2, _), (4, _)]) ⟨rfl, rfl, rfl, trivial⟩ ?_
  refine QM.then ?_
  refine wpM.block ?_
  refine wpM.loopG (α := Nat) (fun k => [(0, .func (.yield l) #[] #[]), (2, .pointer (some ⟨b2, 0, none⟩)), (4, .int .i64 (fromS n ((xs.length - min xs.length most : Nat) : Int) + k))]) (fun k => []) (fun k => J k) (fun k => k ≤ ((xs.length : Int) - fromS n ((xs.length - min xs.length most : Nat) : Int)).toNat) (fun k => ((xs.length : Int) - fromS n ((xs.length - min xs.length most : Nat) : Int)).toNat - k) 0 ⟨rfl, rfl, lk rfl (by rw [Int.natCast_zero, Int.add_zero]; rfl), trivial⟩ (fun _ hm => hm) (fun _ h => h) (Nat.zero_le _) ?_
  rintro k hk
  refine wpM.seq ?_
  refine wpM.seq ?_
  refine wpM.region ?_
  refine LM.val (ov_move rfl) ?_
  refine LM.rdC (fun w _ _ hg => om_load (M := [iB b3 n, pB b2 br, rB br sv most xs.length] ++ ms) 1 Try.isAgg32 rfl rfl rfl w (hJr _ w hg)) ?_
  refine LM.callE (oc_call (enters_fn Try.func20 (by kernel_rfl) rfl) rfl) (fun w hm hc hg => inext_spec (hJr _ w hg).tail.tail) ?_
  refine LM.val (ov_lss rfl rfl) ?_
  refine LM.nil ?_
  refine QM.sub (e' := [(0, _), (2, _), (4, _), (14, _)]) ⟨rfl, rfl, rfl, rfl, trivial⟩ ?_
  refine QM.then ?_
  first | refine wpM.condD rfl (fun h1 => ?_) (fun h1 => ?_) | refine wpM.condB rfl (fun h1 => ?_) (fun h1 => ?_)
  ·
    refine wpM.skip ?_
    refine QM.then ?_
    refine wpM.seq ?_
    refine wpM.block ?_
    refine wpM.seq ?_
    refine wpM.region ?_
    refine LM.rdC (fun w _ _ hg => om_load (M := [iB b3 n, pB b2 br, rB br sv most xs.length] ++ ms) 1 Try.isAgg32 rfl rfl rfl w (hJr _ w hg)) ?_
    refine LM.val (ov_move rfl) ?_
    refine LM.callE (oc_call (enters_fn Try.func25 (by kernel_rfl) rfl) rfl) (fun w hm hc hg => iget_spec _ (hJr _ w hg).tail.tail hsl hri hx hmo) ?_
    refine LM.val (ov_move rfl) ?_
    refine LM.val (ov_extract rfl rfl) ?_
    refine LM.val (ov_extract rfl rfl) ?_
    refine LM.val (ov_assign rfl) ?_
    refine LM.val (ov_assign rfl) ?_
    refine LM.nil ?_
    refine QM.sub (e' := [(0, _), (2, _), (4, _), (5, _), (6, _)]) ⟨rfl, rfl, rfl, rfl, rfl, trivial⟩ ?_
    refine QM.then ?_
    refine wpM.seq ?_
    refine wpM.region ?_
    refine LM.val (ov_move rfl) ?_
    refine LM.val (ov_move rfl) ?_
    first | refine LM.splitD (t := 24) rfl (fun h2 => ?_) (fun h2 => ?_) | refine LM.splitB (t := 24) rfl (fun h2 => ?_) (fun h2 => ?_)
    ·
      refine LM.strip (t := 24) rfl rfl rfl ?_
      refine LM.val (ov_move rfl) ?_
      refine LM.strip (t := 24) rfl rfl rfl ?_
      refine LM.val (ov_move rfl) ?_
      refine LM.strip (t := 24) rfl rfl rfl ?_
      refine LM.val (ov_move rfl) ?_
      refine LM.strip (t := 24) rfl rfl rfl ?_
      refine LM.yield (n := n0) (G1 := J (k + 1)) (G2 := Jx) rfl rfl (fun w hj => hy (k) _ w (by rw [if_pos ⟨by omega, by omega⟩]; exact fromA_get (by omega)) hj) (fun _ => trivial) ?_ ?_
      ·
        refine LM.strip (t := 24) rfl rfl rfl ?_
        first | refine LM.val (ov_notD rfl) ?_ | refine LM.val (ov_not rfl) ?_
        refine LM.val (ov_pickT rfl rfl) ?_
        refine LM.nil ?_
        refine QM.sub (e' := [(0, _), (2, _), (4, _), (30, _)]) ⟨rfl, rfl, rfl, rfl, trivial⟩ ?_
        refine QM.then ?_
        refine wpM.condF rfl ?_
        refine wpM.skip ?_
        refine QM.block_normal ?_
        refine QM.then ?_
        refine wpM.region ?_
        refine LM.val (ov_move rfl) ?_
        refine LM.val (ov_add64 rfl rfl (by omega)) ?_
        refine LM.val (ov_assign rfl) ?_
        refine LM.nil ?_
        refine QM.sub (e' := [(0, _), (2, _), (4, _)]) ⟨rfl, rfl, rfl, trivial⟩ ?_
        exact QM.againG (k + 1) ⟨rfl, rfl, lk rfl (by rw [Int.natCast_add, ← Int.add_assoc]; rfl), trivial⟩ (fun _ h => h) (fun _ h => h) (by omega) (by omega)
      ·
        refine LM.strip (t := 24) rfl rfl rfl ?_
        first | refine LM.val (ov_notD rfl) ?_ | refine LM.val (ov_not rfl) ?_
        refine LM.val (ov_pickT rfl rfl) ?_
        refine LM.nil ?_
        refine QM.sub (e' := [(0, _), (2, _), (4, _), (30, _)]) ⟨rfl, rfl, rfl, rfl, trivial⟩ ?_
        refine QM.then ?_
        refine wpM.condT rfl ?_
        refine wpM.ret ?_
        refine QM.block_ret ?_
        refine QM.then_ret ?_
        refine QM.then_ret ?_
        refine QM.block_ret ?_
        refine QM.leave (.inl rfl) [] Try.results69 rfl ?_
        intro w' hm' hc' hg'
        -- leaf 1: h1+ h2+
        exact .inr hg'
    ·
      refine LM.drop (t := 24) rfl rfl rfl ?_
      refine LM.drop (t := 24) rfl rfl rfl ?_
      refine LM.drop (t := 24) rfl rfl rfl ?_
      refine LM.drop (t := 24) rfl rfl rfl ?_
      refine LM.drop (t := 24) rfl rfl rfl ?_
      refine LM.val (ov_pickF rfl rfl) ?_
      refine LM.nil ?_
      refine QM.sub (e' := [(0, _), (2, _), (4, _), (30, _)]) ⟨rfl, rfl, rfl, rfl, trivial⟩ ?_
      refine QM.then ?_
      refine wpM.condF rfl ?_
      refine wpM.skip ?_
      refine QM.block_normal ?_
      refine QM.then ?_
      refine wpM.region ?_
      refine LM.val (ov_move rfl) ?_
      refine LM.val (ov_add64 rfl rfl (by omega)) ?_
      refine LM.val (ov_assign rfl) ?_
      refine LM.nil ?_
      refine QM.sub (e' := [(0, _), (2, _), (4, _)]) ⟨rfl, rfl, rfl, trivial⟩ ?_
      exfalso; omega
  ·
    refine wpM.exit ?_
    refine QM.then_exit ?_
    refine QM.then_exit ?_
    refine QM.block_hit ?_
    refine QM.leave (.inr rfl) [] Try.results69 rfl ?_
    intro w' hm' hc' hg'
    -- leaf 2: h1-
    first | (exfalso; omega) | exact .inl (by rw [fromA_len]; rw [show ((xs.length : Int) - fromS n ((xs.length - min xs.length most : Nat) : Int)).toNat = k by omega]; exact hg')

set_option maxRecDepth 100000 in
theorem iback_seq {most : Nat} {xs ss : List Int} {b2 br n0 : Nat} {sv : Value} {ms : Mem0} (hsl : Sl fI 3 1 n0 ss sv ms) (hri : RI most xs ss) (hx : xs.length ≤ 1000) (hmo : 0 < most) : SeqC Try.prog 70 #[.pointer (some ⟨b2, 0, none⟩)] (backA xs (xs.length - min xs.length most)) (fun w => Mem w ([pB b2 br, rB br sv most xs.length] ++ ms)) (True) := by
  refine SeqC.enter (lb := [.pointer (some ⟨b2, 0, none⟩)]) Try.func70 rfl Try.ntmps70 rfl ?_
  intro l n0 J Jx w0 hfin hJr gJ gJx hy
  refine wpM.seq ?_
  refine wpM.region ?_
  refine LM.rdC (fun w _ _ hg => om_load (M := [pB b2 br, rB br sv most xs.length] ++ ms) 0 Try.isAgg32 rfl rfl rfl w (hJr _ w hg)) ?_
  refine LM.callE (oc_call (enters_fn Try.func20 (by kernel_rfl) rfl) rfl) (fun w hm hc hg => inext_spec (hJr _ w hg).tail) ?_
  refine LM.val (ov_sub64 rfl rfl (by omega)) ?_
  refine LM.val (ov_assign rfl) ?_
  refine LM.nil ?_
  refine QM.sub (e' := [(0, _), (1, _), (3, _)]) ⟨rfl, rfl, rfl, trivial⟩ ?_
  refine QM.then ?_
  refine wpM.block ?_
  refine wpM.loopG (α := Nat) (fun k => [(0, .func (.yield l) #[] #[]), (1, .pointer (some ⟨b2, 0, none⟩)), (3, .int .i64 ((xs.length : Int) - 1 - k))]) (fun k => []) (fun k => J k) (fun k => k ≤ xs.length - (xs.length - min xs.length most)) (fun k => xs.length - k) 0 ⟨rfl, rfl, lk rfl (by rw [Int.natCast_zero, Int.sub_zero]), trivial⟩ (fun _ hm => hm) (fun _ h => h) (Nat.zero_le _) ?_
  rintro k hk
  refine wpM.seq ?_
  refine wpM.seq ?_
  refine wpM.region ?_
  refine LM.val (ov_move rfl) ?_
  refine LM.rdC (fun w _ _ hg => om_load (M := [pB b2 br, rB br sv most xs.length] ++ ms) 0 Try.isAgg32 rfl rfl rfl w (hJr _ w hg)) ?_
  refine LM.callE (oc_call (enters_fn Try.func23 (by kernel_rfl) rfl) rfl) (fun w hm hc hg => ifirst_spec (hJr _ w hg).tail hsl hri hx) ?_
  refine LM.val (ov_geq rfl rfl) ?_
  refine LM.nil ?_
  refine QM.sub (e' := [(0, _), (1, _), (3, _), (12, _)]) ⟨rfl, rfl, rfl, rfl, trivial⟩ ?_
  refine QM.then ?_
  first | refine wpM.condD rfl (fun h1 => ?_) (fun h1 => ?_) | refine wpM.condB rfl (fun h1 => ?_) (fun h1 => ?_)
  ·
    refine wpM.skip ?_
    refine QM.then ?_
    refine wpM.seq ?_
    refine wpM.block ?_
    refine wpM.seq ?_
    refine wpM.region ?_
    refine LM.rdC (fun w _ _ hg => om_load (M := [pB b2 br, rB br sv most xs.length] ++ ms) 0 Try.isAgg32 rfl rfl rfl w (hJr _ w hg)) ?_
    refine LM.val (ov_move rfl) ?_
    refine LM.callE (oc_call (enters_fn Try.func25 (by kernel_rfl) rfl) rfl) (fun w hm hc hg => iget_spec _ (hJr _ w hg).tail hsl hri hx hmo) ?_
    refine LM.val (ov_move rfl) ?_
    refine LM.val (ov_extract rfl rfl) ?_
    refine LM.val (ov_extract rfl rfl) ?_
    refine LM.val (ov_assign rfl) ?_
    refine LM.val (ov_assign rfl) ?_
    refine LM.nil ?_
    refine QM.sub (e' := [(0, _), (1, _), (3, _), (4, _), (5, _)]) ⟨rfl, rfl, rfl, rfl, rfl, trivial⟩ ?_
    refine QM.then ?_
    refine wpM.seq ?_
    refine wpM.region ?_
    refine LM.val (ov_move rfl) ?_
    refine LM.val (ov_move rfl) ?_
    first | refine LM.splitD (t := 22) rfl (fun h2 => ?_) (fun h2 => ?_) | refine LM.splitB (t := 22) rfl (fun h2 => ?_) (fun h2 => ?_)
    ·
      refine LM.strip (t := 22) rfl rfl rfl ?_
      refine LM.val (ov_move rfl) ?_
      refine LM.strip (t := 22) rfl rfl rfl ?_
      refine LM.val (ov_move rfl) ?_
      refine LM.strip (t := 22) rfl rfl rfl ?_
      refine LM.val (ov_move rfl) ?_
      refine LM.strip (t := 22) rfl rfl rfl ?_
      refine LM.yield (n := n0) (G1 := J (k + 1)) (G2 := Jx) rfl rfl (fun w hj => hy (k) _ w (by rw [if_pos ⟨by omega, by omega⟩]; exact backA_get (by omega)) hj) (fun _ => trivial) ?_ ?_
      ·
        refine LM.strip (t := 22) rfl rfl rfl ?_
        first | refine LM.val (ov_notD rfl) ?_ | refine LM.val (ov_not rfl) ?_
        refine LM.val (ov_pickT rfl rfl) ?_
        refine LM.nil ?_
        refine QM.sub (e' := [(0, _), (1, _), (3, _), (28, _)]) ⟨rfl, rfl, rfl, rfl, trivial⟩ ?_
        refine QM.then ?_
        refine wpM.condF rfl ?_
        refine wpM.skip ?_
        refine QM.block_normal ?_
        refine QM.then ?_
        refine wpM.region ?_
        refine LM.val (ov_move rfl) ?_
        refine LM.val (ov_sub64 rfl rfl (by omega)) ?_
        refine LM.val (ov_assign rfl) ?_
        refine LM.nil ?_
        refine QM.sub (e' := [(0, _), (1, _), (3, _)]) ⟨rfl, rfl, rfl, trivial⟩ ?_
        exact QM.againG (k + 1) ⟨rfl, rfl, lk rfl (by congr 1; show _ = _ - ((k + 1 : Nat) : Int); omega), trivial⟩ (fun _ h => h) (fun _ h => h) (by omega) (by omega)
      ·
        refine LM.strip (t := 22) rfl rfl rfl ?_
        first | refine LM.val (ov_notD rfl) ?_ | refine LM.val (ov_not rfl) ?_
        refine LM.val (ov_pickT rfl rfl) ?_
        refine LM.nil ?_
        refine QM.sub (e' := [(0, _), (1, _), (3, _), (28, _)]) ⟨rfl, rfl, rfl, rfl, trivial⟩ ?_
        refine QM.then ?_
        refine wpM.condT rfl ?_
        refine wpM.ret ?_
        refine QM.block_ret ?_
        refine QM.then_ret ?_
        refine QM.then_ret ?_
        refine QM.block_ret ?_
        refine QM.leave (.inl rfl) [] Try.results70 rfl ?_
        intro w' hm' hc' hg'
        -- leaf 1: h1+ h2+
        exact .inr hg'
    ·
      refine LM.drop (t := 22) rfl rfl rfl ?_
      refine LM.drop (t := 22) rfl rfl rfl ?_
      refine LM.drop (t := 22) rfl rfl rfl ?_
      refine LM.drop (t := 22) rfl rfl rfl ?_
      refine LM.drop (t := 22) rfl rfl rfl ?_
      refine LM.val (ov_pickF rfl rfl) ?_
      refine LM.nil ?_
      refine QM.sub (e' := [(0, _), (1, _), (3, _), (28, _)]) ⟨rfl, rfl, rfl, rfl, trivial⟩ ?_
      refine QM.then ?_
      refine wpM.condF rfl ?_
      refine wpM.skip ?_
      refine QM.block_normal ?_
      refine QM.then ?_
      refine wpM.region ?_
      refine LM.val (ov_move rfl) ?_
      refine LM.val (ov_sub64 rfl rfl (by omega)) ?_
      refine LM.val (ov_assign rfl) ?_
      refine LM.nil ?_
      refine QM.sub (e' := [(0, _), (1, _), (3, _)]) ⟨rfl, rfl, rfl, trivial⟩ ?_
      exfalso; omega
  ·
    refine wpM.exit ?_
    refine QM.then_exit ?_
    refine QM.then_exit ?_
    refine QM.block_hit ?_
    refine QM.leave (.inr rfl) [] Try.results70 rfl ?_
    intro w' hm' hc' hg'
    -- leaf 2: h1-
    first | (exfalso; omega) | exact .inl (by rw [backA_len]; rw [show xs.length - (xs.length - min xs.length most) = k by omega]; exact hg')

set_option maxRecDepth 100000 in
theorem kept_spec {most : Nat} {xs ss : List Int} {br n0 : Nat} {sv : Value} {ad : Option Addr} {cap : Nat} {ms : Mem0} {w : World} (s n : Int) (hM : Mem w (rB br sv most xs.length :: ms)) (hsl : Sl fI 3 1 n0 ss sv ms) (hri : RI most xs ss) (hx : xs.length ≤ 1000) (hmo : 0 < most) (hl : Sr fI 1 xs (.slice ad xs.length cap) w) (hs : ((xs.length - min xs.length most : Nat) : Int) ≤ s ∧ s ≤ xs.length) (hn : -9223372036854775808 ≤ n ∧ n ≤ 9223372036854775807) : Ret Try.prog 24 #[.pointer (some ⟨br, 0, none⟩), .slice ad xs.length cap, .int .i64 s, .int .i64 n] w (fun v w' => v = .bool true ∧ Ext w w') := by
  obtain ⟨-, hcl, hne⟩ := hl.open; have hfs : fromS s ((xs.length - min xs.length most : Nat) : Int) = s := (by unfold fromS; split <;> omega)
  refine Ret.enterM (l := [.pointer (some ⟨br, 0, none⟩), .slice ad xs.length cap, .int .i64 s, .int .i64 n]) Try.func24 rfl Try.ntmps24 rfl (rB br sv most xs.length :: ms) (no) hM ?_
  refine wpM.seq ?_
  refine wpM.region ?_
  refine LM.box rfl rfl (fun b5 hb5 => ?_)
  refine LM.box rfl rfl (fun b7 hb7 => ?_)
  refine LM.alloc Try.zeroValue4 rfl (fun b8 hb8 => ?_)
  refine LM.nil ?_
  refine QM.sub (e' := [(0, _), (2, _), (5, _), (7, _), (8, _)]) ⟨rfl, rfl, rfl, rfl, rfl, trivial⟩ ?_
  refine QM.then ?_
  refine wpM.seq ?_
  refine wpM.region ?_
  refine LM.val (ov_move rfl) ?_
  refine LM.alloc Try.zeroValue3 rfl (fun b9 hb9 => ?_)
  first | refine LM.store 0 Try.sizeOf3 rfl rfl rfl rfl (by first | decide | (simp; done) | (simp; omega)) rfl (fun hlt => absurd hlt (by omega)) ?_ | refine LM.store 1 Try.sizeOf3 rfl rfl rfl rfl (by first | decide | (simp; done) | (simp; omega)) rfl (fun hlt => absurd hlt (by omega)) ?_ | refine LM.store 2 Try.sizeOf3 rfl rfl rfl rfl (by first | decide | (simp; done) | (simp; omega)) rfl (fun hlt => absurd hlt (by omega)) ?_ | refine LM.store 3 Try.sizeOf3 rfl rfl rfl rfl (by first | decide | (simp; done) | (simp; omega)) rfl (fun hlt => absurd hlt (by omega)) ?_ | refine LM.store 4 Try.sizeOf3 rfl rfl rfl rfl (by first | decide | (simp; done) | (simp; omega)) rfl (fun hlt => absurd hlt (by omega)) ?_ | refine LM.store 5 Try.sizeOf3 rfl rfl rfl rfl (by first | decide | (simp; done) | (simp; omega)) rfl (fun hlt => absurd hlt (by omega)) ?_ | refine LM.store 6 Try.sizeOf3 rfl rfl rfl rfl (by first | decide | (simp; done) | (simp; omega)) rfl (fun hlt => absurd hlt (by omega)) ?_ | refine LM.store 7 Try.sizeOf3 rfl rfl rfl rfl (by first | decide | (simp; done) | (simp; omega)) rfl (fun hlt => absurd hlt (by omega)) ?_ | refine LM.store 8 Try.sizeOf3 rfl rfl rfl rfl (by first | decide | (simp; done) | (simp; omega)) rfl (fun hlt => absurd hlt (by omega)) ?_
  refine LM.nil ?_
  refine QM.sub (e' := [(0, _), (2, _), (5, _), (7, _), (8, _), (9, _)]) ⟨rfl, rfl, rfl, rfl, rfl, rfl, trivial⟩ ?_
  refine QM.then ?_
  refine wpM.seq ?_
  refine wpM.seq ?_
  refine wpM.region ?_
  refine LM.val (ov_move rfl) ?_
  refine LM.val (ov_move rfl) ?_
  refine LM.callT (oc_call (enters_fn Try.func56 (by kernel_rfl) rfl) rfl) FromT.mono (fun w hm hc hg => ifrom_spec br s w) ?_
  rintro u m ⟨b3, b2, rfl, rfl, hb3, hb2⟩ -
  refine LM.nil ?_
  refine QM.sub (e' := [(5, _), (7, _), (8, _), (9, _), (15, _)]) ⟨rfl, rfl, rfl, rfl, rfl, trivial⟩ ?_
  refine QM.then ?_
  refine wpM.block ?_
  refine wpM.range (α := Unit) (β := Int) (enters_fn Try.func69 (by kernel_rfl) rfl) rfl (ifrom_seq (n := s) hsl hri hx hmo (by omega)) (fun k ⟨⟩ => [iB b3 s, pB b2 br] ++ (iB b9 (s + k) :: (b8, .cells #[.bool false] 4 (0, 0)) :: iB b7 n :: (b5, .cells #[.slice ad xs.length cap] 26 (0, 0)) :: rB br sv most xs.length :: ms)) (fun _ _ => top) (fun k ⟨⟩ => True) (fun k => [iB b3 s, pB b2 br] ++ (iB b9 k :: (b8, .cells #[.bool true] 4 (0, 0)) :: iB b7 n :: (b5, .cells #[.slice ad xs.length cap] 26 (0, 0)) :: rB br sv most xs.length :: ms)) (fun _ => top) (fun c k => c = .ret ∧ True) ⟨⟩ (by simp only [Int.natCast_zero, Int.add_zero]; rfl) (fun _ h => h) trivial (by kernel_rfl) (by intro k av hav; obtain ⟨-, rfl⟩ := fromA_inv hav; rfl) (.inl trivial) (fun k x w hm _ _ => hm.sub (.cons_cons _ (.cons_cons _ (.cons _ (.cons _ (.cons _ (.cons _ (List.Sublist.refl _)))))))) (fun _ _ _ _ => gl_top _) (fun _ _ _ => gl_top _) (fun k x _ => by ((repeat (refine mm_cons rfl ?_)); exact fun p hp => .inl (by first | exact hp | (simp at hp; done) | (simp [hp]; done)))) (fun c z _ => by ((repeat (refine mm_cons rfl ?_)); exact fun p hp => .inl (by first | exact hp | (simp at hp; done) | (simp [hp]; done)))) ?_ ?_ ?_ ?_
  ·
    rintro k av ⟨⟩ l D rc n1 W1 hD hl hput hrc hav -
    rw [hfs] at hav; obtain ⟨hk, rfl⟩ := fromA_inv hav
    refine wpM.seq ?_
    refine wpM.region ?_
    refine LM.val (ov_assign rfl) ?_
    refine LM.nil ?_
    refine QM.sub (e' := [(5, _), (7, _), (8, _), (9, _), (10, _), (17, _)]) ⟨rfl, rfl, rfl, rfl, rfl, rfl, trivial⟩ ?_
    refine QM.then ?_
    refine wpM.region ?_
    refine LM.val (ov_assign rfl) ?_
    refine LM.nil ?_
    refine QM.sub (e' := [(5, _), (7, _), (8, _), (9, _), (10, _), (11, _)]) ⟨rfl, rfl, rfl, rfl, rfl, rfl, trivial⟩ ?_
    refine QM.toBody (hput k ⟨⟩) hl ?_
    refine wpM.block ?_
    refine wpM.seq ?_
    refine wpM.seq ?_
    refine wpM.region ?_
    refine LM.val (ov_move rfl) ?_
    first | refine LM.rd (om_load 0 Try.isAgg3 rfl rfl rfl) ?_ | refine LM.rd (om_load 1 Try.isAgg3 rfl rfl rfl) ?_ | refine LM.rd (om_load 2 Try.isAgg3 rfl rfl rfl) ?_ | refine LM.rd (om_load 3 Try.isAgg3 rfl rfl rfl) ?_ | refine LM.rd (om_load 4 Try.isAgg3 rfl rfl rfl) ?_ | refine LM.rd (om_load 5 Try.isAgg3 rfl rfl rfl) ?_ | refine LM.rd (om_load 6 Try.isAgg3 rfl rfl rfl) ?_ | refine LM.rd (om_load 7 Try.isAgg3 rfl rfl rfl) ?_ | refine LM.rd (om_load 8 Try.isAgg3 rfl rfl rfl) ?_
    refine LM.val (ov_neq rfl rfl) ?_
    refine LM.val (ov_move rfl) ?_
    first | refine LM.splitD (t := 21) rfl (fun h1 => ?_) (fun h1 => ?_) | refine LM.splitB (t := 21) rfl (fun h1 => ?_) (fun h1 => ?_)
    ·
      refine LM.drop (t := 21) rfl rfl rfl ?_
      refine LM.drop (t := 21) rfl rfl rfl ?_
      refine LM.val (ov_pickT rfl rfl) ?_
      refine LM.val (ov_move rfl) ?_
      refine LM.drop (t := 25) rfl rfl rfl ?_
      refine LM.drop (t := 25) rfl rfl rfl ?_
      refine LM.drop (t := 25) rfl rfl rfl ?_
      refine LM.drop (t := 25) rfl rfl rfl ?_
      refine LM.val (ov_pickT rfl rfl) ?_
      refine LM.val (ov_move rfl) ?_
      refine LM.drop (t := 31) rfl rfl rfl ?_
      refine LM.drop (t := 31) rfl rfl rfl ?_
      refine LM.drop (t := 31) rfl rfl rfl ?_
      refine LM.drop (t := 31) rfl rfl rfl ?_
      refine LM.drop (t := 31) rfl rfl rfl ?_
      refine LM.drop (t := 31) rfl rfl rfl ?_
      refine LM.val (ov_pickT rfl rfl) ?_
      refine LM.nil ?_
      refine QM.sub (e' := [(7, _), (8, _), (9, _), (38, _)]) ⟨rfl, rfl, rfl, rfl, trivial⟩ ?_
      refine QM.then ?_
      refine wpM.condT rfl ?_
      refine wpM.seq ?_
      refine wpM.region ?_
      first | refine LM.store 0 Try.sizeOf4 rfl rfl rfl rfl (by first | decide | (simp; done) | (simp; omega)) rfl (fun hlt => absurd hlt (by omega)) ?_ | refine LM.store 1 Try.sizeOf4 rfl rfl rfl rfl (by first | decide | (simp; done) | (simp; omega)) rfl (fun hlt => absurd hlt (by omega)) ?_ | refine LM.store 2 Try.sizeOf4 rfl rfl rfl rfl (by first | decide | (simp; done) | (simp; omega)) rfl (fun hlt => absurd hlt (by omega)) ?_ | refine LM.store 3 Try.sizeOf4 rfl rfl rfl rfl (by first | decide | (simp; done) | (simp; omega)) rfl (fun hlt => absurd hlt (by omega)) ?_ | refine LM.store 4 Try.sizeOf4 rfl rfl rfl rfl (by first | decide | (simp; done) | (simp; omega)) rfl (fun hlt => absurd hlt (by omega)) ?_ | refine LM.store 5 Try.sizeOf4 rfl rfl rfl rfl (by first | decide | (simp; done) | (simp; omega)) rfl (fun hlt => absurd hlt (by omega)) ?_ | refine LM.store 6 Try.sizeOf4 rfl rfl rfl rfl (by first | decide | (simp; done) | (simp; omega)) rfl (fun hlt => absurd hlt (by omega)) ?_ | refine LM.store 7 Try.sizeOf4 rfl rfl rfl rfl (by first | decide | (simp; done) | (simp; omega)) rfl (fun hlt => absurd hlt (by omega)) ?_ | refine LM.store 8 Try.sizeOf4 rfl rfl rfl rfl (by first | decide | (simp; done) | (simp; omega)) rfl (fun hlt => absurd hlt (by omega)) ?_
      refine LM.nil ?_
      refine QM.sub (e' := [(8, _)]) ⟨rfl, trivial⟩ ?_
      refine QM.then ?_
      refine wpM.ret ?_
      refine QM.then_ret ?_
      refine QM.block_ret ?_
      -- ret1: h1+
      exfalso; first | omega | contradiction | (simp at *; done) | (simp_all; done)
    ·
      refine LM.strip (t := 21) rfl rfl rfl ?_
      refine LM.val (ov_move rfl) ?_
      refine LM.strip (t := 21) rfl rfl rfl ?_
      refine LM.val (ov_lss rfl rfl) ?_
      refine LM.val (ov_pickF rfl rfl) ?_
      refine LM.val (ov_move rfl) ?_
      first | refine LM.splitD (t := 25) rfl (fun h2 => ?_) (fun h2 => ?_) | refine LM.splitB (t := 25) rfl (fun h2 => ?_) (fun h2 => ?_)
      ·
        refine LM.drop (t := 25) rfl rfl rfl ?_
        refine LM.drop (t := 25) rfl rfl rfl ?_
        refine LM.drop (t := 25) rfl rfl rfl ?_
        refine LM.drop (t := 25) rfl rfl rfl ?_
        refine LM.val (ov_pickT rfl rfl) ?_
        refine LM.val (ov_move rfl) ?_
        refine LM.drop (t := 31) rfl rfl rfl ?_
        refine LM.drop (t := 31) rfl rfl rfl ?_
        refine LM.drop (t := 31) rfl rfl rfl ?_
        refine LM.drop (t := 31) rfl rfl rfl ?_
        refine LM.drop (t := 31) rfl rfl rfl ?_
        refine LM.drop (t := 31) rfl rfl rfl ?_
        refine LM.val (ov_pickT rfl rfl) ?_
        refine LM.nil ?_
        refine QM.sub (e' := [(7, _), (8, _), (9, _), (38, _)]) ⟨rfl, rfl, rfl, rfl, trivial⟩ ?_
        refine QM.then ?_
        refine wpM.condT rfl ?_
        refine wpM.seq ?_
        refine wpM.region ?_
        first | refine LM.store 0 Try.sizeOf4 rfl rfl rfl rfl (by first | decide | (simp; done) | (simp; omega)) rfl (fun hlt => absurd hlt (by omega)) ?_ | refine LM.store 1 Try.sizeOf4 rfl rfl rfl rfl (by first | decide | (simp; done) | (simp; omega)) rfl (fun hlt => absurd hlt (by omega)) ?_ | refine LM.store 2 Try.sizeOf4 rfl rfl rfl rfl (by first | decide | (simp; done) | (simp; omega)) rfl (fun hlt => absurd hlt (by omega)) ?_ | refine LM.store 3 Try.sizeOf4 rfl rfl rfl rfl (by first | decide | (simp; done) | (simp; omega)) rfl (fun hlt => absurd hlt (by omega)) ?_ | refine LM.store 4 Try.sizeOf4 rfl rfl rfl rfl (by first | decide | (simp; done) | (simp; omega)) rfl (fun hlt => absurd hlt (by omega)) ?_ | refine LM.store 5 Try.sizeOf4 rfl rfl rfl rfl (by first | decide | (simp; done) | (simp; omega)) rfl (fun hlt => absurd hlt (by omega)) ?_ | refine LM.store 6 Try.sizeOf4 rfl rfl rfl rfl (by first | decide | (simp; done) | (simp; omega)) rfl (fun hlt => absurd hlt (by omega)) ?_ | refine LM.store 7 Try.sizeOf4 rfl rfl rfl rfl (by first | decide | (simp; done) | (simp; omega)) rfl (fun hlt => absurd hlt (by omega)) ?_ | refine LM.store 8 Try.sizeOf4 rfl rfl rfl rfl (by first | decide | (simp; done) | (simp; omega)) rfl (fun hlt => absurd hlt (by omega)) ?_
        refine LM.nil ?_
        refine QM.sub (e' := [(8, _)]) ⟨rfl, trivial⟩ ?_
        refine QM.then ?_
        refine wpM.ret ?_
        refine QM.then_ret ?_
        refine QM.block_ret ?_
        -- ret2: h1- h2+
        exfalso; first | omega | contradiction | (simp at *; done) | (simp_all; done)
      ·
        refine LM.strip (t := 25) rfl rfl rfl ?_
        refine LM.val (ov_move rfl) ?_
        refine LM.strip (t := 25) rfl rfl rfl ?_
        first | refine LM.rd (om_load 0 Try.isAgg26 rfl rfl rfl) ?_ | refine LM.rd (om_load 1 Try.isAgg26 rfl rfl rfl) ?_ | refine LM.rd (om_load 2 Try.isAgg26 rfl rfl rfl) ?_ | refine LM.rd (om_load 3 Try.isAgg26 rfl rfl rfl) ?_ | refine LM.rd (om_load 4 Try.isAgg26 rfl rfl rfl) ?_ | refine LM.rd (om_load 5 Try.isAgg26 rfl rfl rfl) ?_ | refine LM.rd (om_load 6 Try.isAgg26 rfl rfl rfl) ?_ | refine LM.rd (om_load 7 Try.isAgg26 rfl rfl rfl) ?_ | refine LM.rd (om_load 8 Try.isAgg26 rfl rfl rfl) ?_
        refine LM.strip (t := 25) rfl rfl rfl ?_
        refine LM.val (ov_len Try.underlying26 rfl) ?_
        refine LM.strip (t := 25) rfl rfl rfl ?_
        refine LM.val (ov_geq rfl rfl) ?_
        refine LM.val (ov_pickF rfl rfl) ?_
        refine LM.val (ov_move rfl) ?_
        first | refine LM.splitD (t := 31) rfl (fun h3 => ?_) (fun h3 => ?_) | refine LM.splitB (t := 31) rfl (fun h3 => ?_) (fun h3 => ?_)
        ·
          refine LM.drop (t := 31) rfl rfl rfl ?_
          refine LM.drop (t := 31) rfl rfl rfl ?_
          refine LM.drop (t := 31) rfl rfl rfl ?_
          refine LM.drop (t := 31) rfl rfl rfl ?_
          refine LM.drop (t := 31) rfl rfl rfl ?_
          refine LM.drop (t := 31) rfl rfl rfl ?_
          refine LM.val (ov_pickT rfl rfl) ?_
          refine LM.nil ?_
          refine QM.sub (e' := [(7, _), (8, _), (9, _), (38, _)]) ⟨rfl, rfl, rfl, rfl, trivial⟩ ?_
          refine QM.then ?_
          refine wpM.condT rfl ?_
          refine wpM.seq ?_
          refine wpM.region ?_
          first | refine LM.store 0 Try.sizeOf4 rfl rfl rfl rfl (by first | decide | (simp; done) | (simp; omega)) rfl (fun hlt => absurd hlt (by omega)) ?_ | refine LM.store 1 Try.sizeOf4 rfl rfl rfl rfl (by first | decide | (simp; done) | (simp; omega)) rfl (fun hlt => absurd hlt (by omega)) ?_ | refine LM.store 2 Try.sizeOf4 rfl rfl rfl rfl (by first | decide | (simp; done) | (simp; omega)) rfl (fun hlt => absurd hlt (by omega)) ?_ | refine LM.store 3 Try.sizeOf4 rfl rfl rfl rfl (by first | decide | (simp; done) | (simp; omega)) rfl (fun hlt => absurd hlt (by omega)) ?_ | refine LM.store 4 Try.sizeOf4 rfl rfl rfl rfl (by first | decide | (simp; done) | (simp; omega)) rfl (fun hlt => absurd hlt (by omega)) ?_ | refine LM.store 5 Try.sizeOf4 rfl rfl rfl rfl (by first | decide | (simp; done) | (simp; omega)) rfl (fun hlt => absurd hlt (by omega)) ?_ | refine LM.store 6 Try.sizeOf4 rfl rfl rfl rfl (by first | decide | (simp; done) | (simp; omega)) rfl (fun hlt => absurd hlt (by omega)) ?_ | refine LM.store 7 Try.sizeOf4 rfl rfl rfl rfl (by first | decide | (simp; done) | (simp; omega)) rfl (fun hlt => absurd hlt (by omega)) ?_ | refine LM.store 8 Try.sizeOf4 rfl rfl rfl rfl (by first | decide | (simp; done) | (simp; omega)) rfl (fun hlt => absurd hlt (by omega)) ?_
          refine LM.nil ?_
          refine QM.sub (e' := [(8, _)]) ⟨rfl, trivial⟩ ?_
          refine QM.then ?_
          refine wpM.ret ?_
          refine QM.then_ret ?_
          refine QM.block_ret ?_
          -- ret3: h1- h2- h3+
          exfalso; first | omega | contradiction | (simp at *; done) | (simp_all; done)
        ·
          refine LM.strip (t := 31) rfl rfl rfl ?_
          first | refine LM.rd (om_load 0 Try.isAgg26 rfl rfl rfl) ?_ | refine LM.rd (om_load 1 Try.isAgg26 rfl rfl rfl) ?_ | refine LM.rd (om_load 2 Try.isAgg26 rfl rfl rfl) ?_ | refine LM.rd (om_load 3 Try.isAgg26 rfl rfl rfl) ?_ | refine LM.rd (om_load 4 Try.isAgg26 rfl rfl rfl) ?_ | refine LM.rd (om_load 5 Try.isAgg26 rfl rfl rfl) ?_ | refine LM.rd (om_load 6 Try.isAgg26 rfl rfl rfl) ?_ | refine LM.rd (om_load 7 Try.isAgg26 rfl rfl rfl) ?_ | refine LM.rd (om_load 8 Try.isAgg26 rfl rfl rfl) ?_
          refine LM.strip (t := 31) rfl rfl rfl ?_
          refine LM.val (ov_move rfl) ?_
          refine LM.strip (t := 31) rfl rfl rfl ?_
          obtain ⟨b, off, cs, E, fz, rfl, hb, hr⟩ := hne (by omega)
          first | refine LM.val (ov_idx10 Try.underlying26 Try.sizeOf3 rfl rfl (by omega)) ?_ | refine LM.val (ov_idx1 Try.underlying26 Try.sizeOf3 rfl rfl (by omega)) ?_
          refine LM.strip (t := 31) rfl rfl rfl ?_
          refine LM.rdC (om_srI Try.isAgg3 rfl hb hr (by omega) id) ?_
          refine LM.strip (t := 31) rfl rfl rfl ?_
          refine LM.val (ov_move rfl) ?_
          refine LM.strip (t := 31) rfl rfl rfl ?_
          refine LM.val (ov_neq rfl rfl) ?_
          refine LM.val (ov_pickF rfl rfl) ?_
          refine LM.nil ?_
          refine QM.sub (e' := [(7, _), (8, _), (9, _), (38, _)]) ⟨rfl, rfl, rfl, rfl, trivial⟩ ?_
          refine QM.then ?_
          first | refine wpM.condD rfl (fun h4 => ?_) (fun h4 => ?_) | refine wpM.condB rfl (fun h4 => ?_) (fun h4 => ?_)
          ·
            refine wpM.seq ?_
            refine wpM.region ?_
            first | refine LM.store 0 Try.sizeOf4 rfl rfl rfl rfl (by first | decide | (simp; done) | (simp; omega)) rfl (fun hlt => absurd hlt (by omega)) ?_ | refine LM.store 1 Try.sizeOf4 rfl rfl rfl rfl (by first | decide | (simp; done) | (simp; omega)) rfl (fun hlt => absurd hlt (by omega)) ?_ | refine LM.store 2 Try.sizeOf4 rfl rfl rfl rfl (by first | decide | (simp; done) | (simp; omega)) rfl (fun hlt => absurd hlt (by omega)) ?_ | refine LM.store 3 Try.sizeOf4 rfl rfl rfl rfl (by first | decide | (simp; done) | (simp; omega)) rfl (fun hlt => absurd hlt (by omega)) ?_ | refine LM.store 4 Try.sizeOf4 rfl rfl rfl rfl (by first | decide | (simp; done) | (simp; omega)) rfl (fun hlt => absurd hlt (by omega)) ?_ | refine LM.store 5 Try.sizeOf4 rfl rfl rfl rfl (by first | decide | (simp; done) | (simp; omega)) rfl (fun hlt => absurd hlt (by omega)) ?_ | refine LM.store 6 Try.sizeOf4 rfl rfl rfl rfl (by first | decide | (simp; done) | (simp; omega)) rfl (fun hlt => absurd hlt (by omega)) ?_ | refine LM.store 7 Try.sizeOf4 rfl rfl rfl rfl (by first | decide | (simp; done) | (simp; omega)) rfl (fun hlt => absurd hlt (by omega)) ?_ | refine LM.store 8 Try.sizeOf4 rfl rfl rfl rfl (by first | decide | (simp; done) | (simp; omega)) rfl (fun hlt => absurd hlt (by omega)) ?_
            refine LM.nil ?_
            refine QM.sub (e' := [(8, _)]) ⟨rfl, trivial⟩ ?_
            refine QM.then ?_
            refine wpM.ret ?_
            refine QM.then_ret ?_
            refine QM.block_ret ?_
            -- ret4: h1- h2- h3- h4+
            exfalso; first | omega | contradiction | (simp at *; done) | (simp_all; done)
          ·
            refine wpM.skip ?_
            refine QM.then ?_
            refine wpM.seq ?_
            refine wpM.region ?_
            first | refine LM.rd (om_load 0 Try.isAgg3 rfl rfl rfl) ?_ | refine LM.rd (om_load 1 Try.isAgg3 rfl rfl rfl) ?_ | refine LM.rd (om_load 2 Try.isAgg3 rfl rfl rfl) ?_ | refine LM.rd (om_load 3 Try.isAgg3 rfl rfl rfl) ?_ | refine LM.rd (om_load 4 Try.isAgg3 rfl rfl rfl) ?_ | refine LM.rd (om_load 5 Try.isAgg3 rfl rfl rfl) ?_ | refine LM.rd (om_load 6 Try.isAgg3 rfl rfl rfl) ?_ | refine LM.rd (om_load 7 Try.isAgg3 rfl rfl rfl) ?_ | refine LM.rd (om_load 8 Try.isAgg3 rfl rfl rfl) ?_
            refine LM.val (ov_add64 rfl rfl (by omega)) ?_
            first | refine LM.store 0 Try.sizeOf3 rfl rfl rfl rfl (by first | decide | (simp; done) | (simp; omega)) rfl (fun hlt => absurd hlt (by omega)) ?_ | refine LM.store 1 Try.sizeOf3 rfl rfl rfl rfl (by first | decide | (simp; done) | (simp; omega)) rfl (fun hlt => absurd hlt (by omega)) ?_ | refine LM.store 2 Try.sizeOf3 rfl rfl rfl rfl (by first | decide | (simp; done) | (simp; omega)) rfl (fun hlt => absurd hlt (by omega)) ?_ | refine LM.store 3 Try.sizeOf3 rfl rfl rfl rfl (by first | decide | (simp; done) | (simp; omega)) rfl (fun hlt => absurd hlt (by omega)) ?_ | refine LM.store 4 Try.sizeOf3 rfl rfl rfl rfl (by first | decide | (simp; done) | (simp; omega)) rfl (fun hlt => absurd hlt (by omega)) ?_ | refine LM.store 5 Try.sizeOf3 rfl rfl rfl rfl (by first | decide | (simp; done) | (simp; omega)) rfl (fun hlt => absurd hlt (by omega)) ?_ | refine LM.store 6 Try.sizeOf3 rfl rfl rfl rfl (by first | decide | (simp; done) | (simp; omega)) rfl (fun hlt => absurd hlt (by omega)) ?_ | refine LM.store 7 Try.sizeOf3 rfl rfl rfl rfl (by first | decide | (simp; done) | (simp; omega)) rfl (fun hlt => absurd hlt (by omega)) ?_ | refine LM.store 8 Try.sizeOf3 rfl rfl rfl rfl (by first | decide | (simp; done) | (simp; omega)) rfl (fun hlt => absurd hlt (by omega)) ?_
            refine LM.nil ?_
            refine QM.sub (e' := [(7, _), (8, _), (9, _)]) ⟨rfl, rfl, rfl, trivial⟩ ?_
            refine QM.then ?_
            refine wpM.seq ?_
            refine wpM.region ?_
            first | refine LM.rd (om_load 0 Try.isAgg3 rfl rfl rfl) ?_ | refine LM.rd (om_load 1 Try.isAgg3 rfl rfl rfl) ?_ | refine LM.rd (om_load 2 Try.isAgg3 rfl rfl rfl) ?_ | refine LM.rd (om_load 3 Try.isAgg3 rfl rfl rfl) ?_ | refine LM.rd (om_load 4 Try.isAgg3 rfl rfl rfl) ?_ | refine LM.rd (om_load 5 Try.isAgg3 rfl rfl rfl) ?_ | refine LM.rd (om_load 6 Try.isAgg3 rfl rfl rfl) ?_ | refine LM.rd (om_load 7 Try.isAgg3 rfl rfl rfl) ?_ | refine LM.rd (om_load 8 Try.isAgg3 rfl rfl rfl) ?_
            first | refine LM.rd (om_load 0 Try.isAgg3 rfl rfl rfl) ?_ | refine LM.rd (om_load 1 Try.isAgg3 rfl rfl rfl) ?_ | refine LM.rd (om_load 2 Try.isAgg3 rfl rfl rfl) ?_ | refine LM.rd (om_load 3 Try.isAgg3 rfl rfl rfl) ?_ | refine LM.rd (om_load 4 Try.isAgg3 rfl rfl rfl) ?_ | refine LM.rd (om_load 5 Try.isAgg3 rfl rfl rfl) ?_ | refine LM.rd (om_load 6 Try.isAgg3 rfl rfl rfl) ?_ | refine LM.rd (om_load 7 Try.isAgg3 rfl rfl rfl) ?_ | refine LM.rd (om_load 8 Try.isAgg3 rfl rfl rfl) ?_
            refine LM.val (ov_gtr rfl rfl) ?_
            refine LM.nil ?_
            refine QM.sub (e' := [(8, _), (43, _)]) ⟨rfl, rfl, trivial⟩ ?_
            refine QM.then ?_
            first | refine wpM.condD rfl (fun h5 => ?_) (fun h5 => ?_) | refine wpM.condB rfl (fun h5 => ?_) (fun h5 => ?_)
            ·
              refine wpM.seq ?_
              refine wpM.region ?_
              first | refine LM.store 0 Try.sizeOf4 rfl rfl rfl rfl (by first | decide | (simp; done) | (simp; omega)) rfl (fun hlt => absurd hlt (by omega)) ?_ | refine LM.store 1 Try.sizeOf4 rfl rfl rfl rfl (by first | decide | (simp; done) | (simp; omega)) rfl (fun hlt => absurd hlt (by omega)) ?_ | refine LM.store 2 Try.sizeOf4 rfl rfl rfl rfl (by first | decide | (simp; done) | (simp; omega)) rfl (fun hlt => absurd hlt (by omega)) ?_ | refine LM.store 3 Try.sizeOf4 rfl rfl rfl rfl (by first | decide | (simp; done) | (simp; omega)) rfl (fun hlt => absurd hlt (by omega)) ?_ | refine LM.store 4 Try.sizeOf4 rfl rfl rfl rfl (by first | decide | (simp; done) | (simp; omega)) rfl (fun hlt => absurd hlt (by omega)) ?_ | refine LM.store 5 Try.sizeOf4 rfl rfl rfl rfl (by first | decide | (simp; done) | (simp; omega)) rfl (fun hlt => absurd hlt (by omega)) ?_ | refine LM.store 6 Try.sizeOf4 rfl rfl rfl rfl (by first | decide | (simp; done) | (simp; omega)) rfl (fun hlt => absurd hlt (by omega)) ?_ | refine LM.store 7 Try.sizeOf4 rfl rfl rfl rfl (by first | decide | (simp; done) | (simp; omega)) rfl (fun hlt => absurd hlt (by omega)) ?_ | refine LM.store 8 Try.sizeOf4 rfl rfl rfl rfl (by first | decide | (simp; done) | (simp; omega)) rfl (fun hlt => absurd hlt (by omega)) ?_
              refine LM.nil ?_
              refine QM.sub (e' := [(8, _)]) ⟨rfl, trivial⟩ ?_
              refine QM.then ?_
              refine wpM.ret ?_
              refine QM.block_ret ?_
              -- ret5: h1- h2- h3- h4- h5+
              exact QM.rret (s + k + 1) (fun w hm => hm) (fun _ h => ⟨trivial, h.2⟩) ⟨rfl, trivial⟩
            ·
              refine wpM.skip ?_
              refine QM.block_normal ?_
              -- next1: h1- h2- h3- h4- h5-
              exact QM.next ⟨⟩ (fun w hm => by rw [Int.natCast_add, ← Int.add_assoc]; exact hm) (fun _ h => h) trivial
  ·
    rintro ⟨⟩ D0 hD0 -
    refine QM.sub (e' := [(5, _), (8, _), (9, _)]) ⟨rfl, rfl, rfl, trivial⟩ ?_
    refine QM.block_normal ?_
    refine QM.then ?_
    refine wpM.seq ?_
    refine wpM.region ?_
    first | refine LM.rd (om_load 0 Try.isAgg3 rfl rfl rfl) ?_ | refine LM.rd (om_load 1 Try.isAgg3 rfl rfl rfl) ?_ | refine LM.rd (om_load 2 Try.isAgg3 rfl rfl rfl) ?_ | refine LM.rd (om_load 3 Try.isAgg3 rfl rfl rfl) ?_ | refine LM.rd (om_load 4 Try.isAgg3 rfl rfl rfl) ?_ | refine LM.rd (om_load 5 Try.isAgg3 rfl rfl rfl) ?_ | refine LM.rd (om_load 6 Try.isAgg3 rfl rfl rfl) ?_ | refine LM.rd (om_load 7 Try.isAgg3 rfl rfl rfl) ?_ | refine LM.rd (om_load 8 Try.isAgg3 rfl rfl rfl) ?_
    first | refine LM.rd (om_load 0 Try.isAgg26 rfl rfl rfl) ?_ | refine LM.rd (om_load 1 Try.isAgg26 rfl rfl rfl) ?_ | refine LM.rd (om_load 2 Try.isAgg26 rfl rfl rfl) ?_ | refine LM.rd (om_load 3 Try.isAgg26 rfl rfl rfl) ?_ | refine LM.rd (om_load 4 Try.isAgg26 rfl rfl rfl) ?_ | refine LM.rd (om_load 5 Try.isAgg26 rfl rfl rfl) ?_ | refine LM.rd (om_load 6 Try.isAgg26 rfl rfl rfl) ?_ | refine LM.rd (om_load 7 Try.isAgg26 rfl rfl rfl) ?_ | refine LM.rd (om_load 8 Try.isAgg26 rfl rfl rfl) ?_
    refine LM.val (ov_len Try.underlying26 rfl) ?_
    refine LM.val (ov_eql rfl rfl) ?_
    first | refine LM.store 0 Try.sizeOf4 rfl rfl rfl rfl (by first | decide | (simp; done) | (simp; omega)) rfl (fun hlt => absurd hlt (by omega)) ?_ | refine LM.store 1 Try.sizeOf4 rfl rfl rfl rfl (by first | decide | (simp; done) | (simp; omega)) rfl (fun hlt => absurd hlt (by omega)) ?_ | refine LM.store 2 Try.sizeOf4 rfl rfl rfl rfl (by first | decide | (simp; done) | (simp; omega)) rfl (fun hlt => absurd hlt (by omega)) ?_ | refine LM.store 3 Try.sizeOf4 rfl rfl rfl rfl (by first | decide | (simp; done) | (simp; omega)) rfl (fun hlt => absurd hlt (by omega)) ?_ | refine LM.store 4 Try.sizeOf4 rfl rfl rfl rfl (by first | decide | (simp; done) | (simp; omega)) rfl (fun hlt => absurd hlt (by omega)) ?_ | refine LM.store 5 Try.sizeOf4 rfl rfl rfl rfl (by first | decide | (simp; done) | (simp; omega)) rfl (fun hlt => absurd hlt (by omega)) ?_ | refine LM.store 6 Try.sizeOf4 rfl rfl rfl rfl (by first | decide | (simp; done) | (simp; omega)) rfl (fun hlt => absurd hlt (by omega)) ?_ | refine LM.store 7 Try.sizeOf4 rfl rfl rfl rfl (by first | decide | (simp; done) | (simp; omega)) rfl (fun hlt => absurd hlt (by omega)) ?_ | refine LM.store 8 Try.sizeOf4 rfl rfl rfl rfl (by first | decide | (simp; done) | (simp; omega)) rfl (fun hlt => absurd hlt (by omega)) ?_
    refine LM.nil ?_
    refine QM.sub (e' := [(8, _)]) ⟨rfl, trivial⟩ ?_
    refine QM.then ?_
    refine wpM.ret ?_
    first | refine QM.leaveCD (ds := [D0]) Try.results24 rfl (fun D h => by simp only [List.mem_cons, List.not_mem_nil, or_false] at h; omega) (lv_cell 0 Try.isAgg4 rfl rfl) ?_ | refine QM.leaveCD (ds := [D0]) Try.results24 rfl (fun D h => by simp only [List.mem_cons, List.not_mem_nil, or_false] at h; omega) (lv_cell 1 Try.isAgg4 rfl rfl) ?_ | refine QM.leaveCD (ds := [D0]) Try.results24 rfl (fun D h => by simp only [List.mem_cons, List.not_mem_nil, or_false] at h; omega) (lv_cell 2 Try.isAgg4 rfl rfl) ?_ | refine QM.leaveCD (ds := [D0]) Try.results24 rfl (fun D h => by simp only [List.mem_cons, List.not_mem_nil, or_false] at h; omega) (lv_cell 3 Try.isAgg4 rfl rfl) ?_ | refine QM.leaveCD (ds := [D0]) Try.results24 rfl (fun D h => by simp only [List.mem_cons, List.not_mem_nil, or_false] at h; omega) (lv_cell 4 Try.isAgg4 rfl rfl) ?_ | refine QM.leaveCD (ds := [D0]) Try.results24 rfl (fun D h => by simp only [List.mem_cons, List.not_mem_nil, or_false] at h; omega) (lv_cell 5 Try.isAgg4 rfl rfl) ?_ | refine QM.leaveCD (ds := [D0]) Try.results24 rfl (fun D h => by simp only [List.mem_cons, List.not_mem_nil, or_false] at h; omega) (lv_cell 6 Try.isAgg4 rfl rfl) ?_ | refine QM.leaveCD (ds := [D0]) Try.results24 rfl (fun D h => by simp only [List.mem_cons, List.not_mem_nil, or_false] at h; omega) (lv_cell 7 Try.isAgg4 rfl rfl) ?_ | refine QM.leaveCD (ds := [D0]) Try.results24 rfl (fun D h => by simp only [List.mem_cons, List.not_mem_nil, or_false] at h; omega) (lv_cell 8 Try.isAgg4 rfl rfl) ?_
    intro w' hm' hc'
    -- leaf 1: h1- h2- h3- h4- h5-
    refine ⟨?_, hc'⟩; show Value.bool (decide _) = _; rw [decide_eq_true]; rw [fromA_len] at *; omega
  ·
    rintro k D0 hD0 hx
    obtain ⟨-, hx⟩ := hx
    refine QM.block_ret ?_
    refine QM.then_ret ?_
    first | refine QM.leaveCD (ds := [D0]) Try.results24 rfl (fun D h => by simp only [List.mem_cons, List.not_mem_nil, or_false] at h; omega) (lv_cell 0 Try.isAgg4 rfl rfl) ?_ | refine QM.leaveCD (ds := [D0]) Try.results24 rfl (fun D h => by simp only [List.mem_cons, List.not_mem_nil, or_false] at h; omega) (lv_cell 1 Try.isAgg4 rfl rfl) ?_ | refine QM.leaveCD (ds := [D0]) Try.results24 rfl (fun D h => by simp only [List.mem_cons, List.not_mem_nil, or_false] at h; omega) (lv_cell 2 Try.isAgg4 rfl rfl) ?_ | refine QM.leaveCD (ds := [D0]) Try.results24 rfl (fun D h => by simp only [List.mem_cons, List.not_mem_nil, or_false] at h; omega) (lv_cell 3 Try.isAgg4 rfl rfl) ?_ | refine QM.leaveCD (ds := [D0]) Try.results24 rfl (fun D h => by simp only [List.mem_cons, List.not_mem_nil, or_false] at h; omega) (lv_cell 4 Try.isAgg4 rfl rfl) ?_ | refine QM.leaveCD (ds := [D0]) Try.results24 rfl (fun D h => by simp only [List.mem_cons, List.not_mem_nil, or_false] at h; omega) (lv_cell 5 Try.isAgg4 rfl rfl) ?_ | refine QM.leaveCD (ds := [D0]) Try.results24 rfl (fun D h => by simp only [List.mem_cons, List.not_mem_nil, or_false] at h; omega) (lv_cell 6 Try.isAgg4 rfl rfl) ?_ | refine QM.leaveCD (ds := [D0]) Try.results24 rfl (fun D h => by simp only [List.mem_cons, List.not_mem_nil, or_false] at h; omega) (lv_cell 7 Try.isAgg4 rfl rfl) ?_ | refine QM.leaveCD (ds := [D0]) Try.results24 rfl (fun D h => by simp only [List.mem_cons, List.not_mem_nil, or_false] at h; omega) (lv_cell 8 Try.isAgg4 rfl rfl) ?_
    intro w' hm' hc'
    -- leaf 2: h1- h2- h3- h4- h5-
    exact ⟨rfl, hc'⟩
  ·
    rintro id k D0 hD0 hx
    first | exact hx.elim | cases hx.1

set_option maxRecDepth 100000 in
theorem back_spec {most : Nat} {xs ss : List Int} {br n0 : Nat} {sv : Value} {ad : Option Addr} {cap : Nat} {ms : Mem0} {w : World} (hM : Mem w (rB br sv most xs.length :: ms)) (hsl : Sl fI 3 1 n0 ss sv ms) (hri : RI most xs ss) (hx : xs.length ≤ 1000) (hmo : 0 < most) (hl : Sr fI 1 xs (.slice ad xs.length cap) w) : Ret Try.prog 27 #[.pointer (some ⟨br, 0, none⟩), .slice ad xs.length cap, .int .i64 ((xs.length - min xs.length most : Nat) : Int)] w (fun v w' => v = .bool true ∧ Ext w w') := by
  obtain ⟨-, hcl, hne⟩ := hl.open
  refine Ret.enterM (l := [.pointer (some ⟨br, 0, none⟩), .slice ad xs.length cap, .int .i64 ((xs.length - min xs.length most : Nat) : Int)]) Try.func27 rfl Try.ntmps27 rfl (rB br sv most xs.length :: ms) (no) hM ?_
  refine wpM.seq ?_
  refine wpM.region ?_
  refine LM.box rfl rfl (fun b4 hb4 => ?_)
  refine LM.box rfl rfl (fun b5 hb5 => ?_)
  refine LM.alloc Try.zeroValue4 rfl (fun b6 hb6 => ?_)
  refine LM.nil ?_
  refine QM.sub (e' := [(0, _), (4, _), (5, _), (6, _)]) ⟨rfl, rfl, rfl, rfl, trivial⟩ ?_
  refine QM.then ?_
  refine wpM.seq ?_
  refine wpM.region ?_
  first | refine LM.rd (om_load 0 Try.isAgg26 rfl rfl rfl) ?_ | refine LM.rd (om_load 1 Try.isAgg26 rfl rfl rfl) ?_ | refine LM.rd (om_load 2 Try.isAgg26 rfl rfl rfl) ?_ | refine LM.rd (om_load 3 Try.isAgg26 rfl rfl rfl) ?_ | refine LM.rd (om_load 4 Try.isAgg26 rfl rfl rfl) ?_ | refine LM.rd (om_load 5 Try.isAgg26 rfl rfl rfl) ?_ | refine LM.rd (om_load 6 Try.isAgg26 rfl rfl rfl) ?_ | refine LM.rd (om_load 7 Try.isAgg26 rfl rfl rfl) ?_ | refine LM.rd (om_load 8 Try.isAgg26 rfl rfl rfl) ?_
  refine LM.val (ov_len Try.underlying26 rfl) ?_
  refine LM.alloc Try.zeroValue3 rfl (fun b7 hb7 => ?_)
  first | refine LM.store 0 Try.sizeOf3 rfl rfl rfl rfl (by first | decide | (simp; done) | (simp; omega)) rfl (fun hlt => absurd hlt (by omega)) ?_ | refine LM.store 1 Try.sizeOf3 rfl rfl rfl rfl (by first | decide | (simp; done) | (simp; omega)) rfl (fun hlt => absurd hlt (by omega)) ?_ | refine LM.store 2 Try.sizeOf3 rfl rfl rfl rfl (by first | decide | (simp; done) | (simp; omega)) rfl (fun hlt => absurd hlt (by omega)) ?_ | refine LM.store 3 Try.sizeOf3 rfl rfl rfl rfl (by first | decide | (simp; done) | (simp; omega)) rfl (fun hlt => absurd hlt (by omega)) ?_ | refine LM.store 4 Try.sizeOf3 rfl rfl rfl rfl (by first | decide | (simp; done) | (simp; omega)) rfl (fun hlt => absurd hlt (by omega)) ?_ | refine LM.store 5 Try.sizeOf3 rfl rfl rfl rfl (by first | decide | (simp; done) | (simp; omega)) rfl (fun hlt => absurd hlt (by omega)) ?_ | refine LM.store 6 Try.sizeOf3 rfl rfl rfl rfl (by first | decide | (simp; done) | (simp; omega)) rfl (fun hlt => absurd hlt (by omega)) ?_ | refine LM.store 7 Try.sizeOf3 rfl rfl rfl rfl (by first | decide | (simp; done) | (simp; omega)) rfl (fun hlt => absurd hlt (by omega)) ?_ | refine LM.store 8 Try.sizeOf3 rfl rfl rfl rfl (by first | decide | (simp; done) | (simp; omega)) rfl (fun hlt => absurd hlt (by omega)) ?_
  refine LM.nil ?_
  refine QM.sub (e' := [(0, _), (4, _), (5, _), (6, _), (7, _)]) ⟨rfl, rfl, rfl, rfl, rfl, trivial⟩ ?_
  refine QM.then ?_
  refine wpM.seq ?_
  refine wpM.seq ?_
  refine wpM.region ?_
  refine LM.val (ov_move rfl) ?_
  refine LM.callT (oc_call (enters_fn Try.func57 (by kernel_rfl) rfl) rfl) BackT.mono (fun w hm hc hg => iback_spec br w) ?_
  rintro u m ⟨b2, rfl, rfl, hb2⟩ -
  refine LM.nil ?_
  refine QM.sub (e' := [(4, _), (5, _), (6, _), (7, _), (13, _)]) ⟨rfl, rfl, rfl, rfl, rfl, trivial⟩ ?_
  refine QM.then ?_
  refine wpM.block ?_
  refine wpM.range (α := Unit) (β := Unit) (enters_fn Try.func70 (by kernel_rfl) rfl) rfl (iback_seq hsl hri hx hmo) (fun k ⟨⟩ => [pB b2 br] ++ (iB b7 ((xs.length : Int) - k) :: (b6, .cells #[.bool false] 4 (0, 0)) :: iB b5 ((xs.length - min xs.length most : Nat) : Int) :: (b4, .cells #[.slice ad xs.length cap] 26 (0, 0)) :: rB br sv most xs.length :: ms)) (fun _ _ => top) (fun k ⟨⟩ => True) (fun ⟨⟩ => []) (fun _ => top) (fun c ⟨⟩ => False) ⟨⟩ (by simp only [Int.natCast_zero, Int.sub_zero]; rfl) (fun _ h => h) trivial (by kernel_rfl) (by intro k av hav; obtain ⟨hk, rfl⟩ := backA_inv hav; rfl) (.inl trivial) (fun k x w hm _ _ => hm.sub (.cons_cons _ (.cons _ (.cons _ (.cons _ (.cons _ (List.Sublist.refl _))))))) (fun _ _ _ _ => gl_top _) (fun _ _ _ => gl_top _) (fun k x _ => by ((repeat (refine mm_cons rfl ?_)); exact fun p hp => .inl (by first | exact hp | (simp at hp; done) | (simp [hp]; done)))) (fun c z _ => by ((repeat (refine mm_cons rfl ?_)); exact fun p hp => .inl (by first | exact hp | (simp at hp; done) | (simp [hp]; done)))) ?_ ?_ ?_ ?_
  ·
    rintro k av ⟨⟩ l D rc n1 W1 hD hl hput hrc hav -
    obtain ⟨hk, rfl⟩ := backA_inv hav
    refine wpM.seq ?_
    refine wpM.region ?_
    refine LM.val (ov_assign rfl) ?_
    refine LM.nil ?_
    refine QM.sub (e' := [(4, _), (5, _), (6, _), (7, _), (8, _), (15, _)]) ⟨rfl, rfl, rfl, rfl, rfl, rfl, trivial⟩ ?_
    refine QM.then ?_
    refine wpM.region ?_
    refine LM.val (ov_assign rfl) ?_
    refine LM.nil ?_
    refine QM.sub (e' := [(4, _), (5, _), (6, _), (7, _), (8, _), (9, _)]) ⟨rfl, rfl, rfl, rfl, rfl, rfl, trivial⟩ ?_
    refine QM.toBody (hput k ⟨⟩) hl ?_
    refine wpM.block ?_
    refine wpM.seq ?_
    refine wpM.region ?_
    first | refine LM.rd (om_load 0 Try.isAgg3 rfl rfl rfl) ?_ | refine LM.rd (om_load 1 Try.isAgg3 rfl rfl rfl) ?_ | refine LM.rd (om_load 2 Try.isAgg3 rfl rfl rfl) ?_ | refine LM.rd (om_load 3 Try.isAgg3 rfl rfl rfl) ?_ | refine LM.rd (om_load 4 Try.isAgg3 rfl rfl rfl) ?_ | refine LM.rd (om_load 5 Try.isAgg3 rfl rfl rfl) ?_ | refine LM.rd (om_load 6 Try.isAgg3 rfl rfl rfl) ?_ | refine LM.rd (om_load 7 Try.isAgg3 rfl rfl rfl) ?_ | refine LM.rd (om_load 8 Try.isAgg3 rfl rfl rfl) ?_
    refine LM.val (ov_sub64 rfl rfl (by omega)) ?_
    first | refine LM.store 0 Try.sizeOf3 rfl rfl rfl rfl (by first | decide | (simp; done) | (simp; omega)) rfl (fun hlt => absurd hlt (by omega)) ?_ | refine LM.store 1 Try.sizeOf3 rfl rfl rfl rfl (by first | decide | (simp; done) | (simp; omega)) rfl (fun hlt => absurd hlt (by omega)) ?_ | refine LM.store 2 Try.sizeOf3 rfl rfl rfl rfl (by first | decide | (simp; done) | (simp; omega)) rfl (fun hlt => absurd hlt (by omega)) ?_ | refine LM.store 3 Try.sizeOf3 rfl rfl rfl rfl (by first | decide | (simp; done) | (simp; omega)) rfl (fun hlt => absurd hlt (by omega)) ?_ | refine LM.store 4 Try.sizeOf3 rfl rfl rfl rfl (by first | decide | (simp; done) | (simp; omega)) rfl (fun hlt => absurd hlt (by omega)) ?_ | refine LM.store 5 Try.sizeOf3 rfl rfl rfl rfl (by first | decide | (simp; done) | (simp; omega)) rfl (fun hlt => absurd hlt (by omega)) ?_ | refine LM.store 6 Try.sizeOf3 rfl rfl rfl rfl (by first | decide | (simp; done) | (simp; omega)) rfl (fun hlt => absurd hlt (by omega)) ?_ | refine LM.store 7 Try.sizeOf3 rfl rfl rfl rfl (by first | decide | (simp; done) | (simp; omega)) rfl (fun hlt => absurd hlt (by omega)) ?_ | refine LM.store 8 Try.sizeOf3 rfl rfl rfl rfl (by first | decide | (simp; done) | (simp; omega)) rfl (fun hlt => absurd hlt (by omega)) ?_
    refine LM.nil ?_
    refine QM.sub (e' := [(4, _), (5, _), (6, _), (7, _), (8, _), (9, _)]) ⟨rfl, rfl, rfl, rfl, rfl, rfl, trivial⟩ ?_
    refine QM.then ?_
    refine wpM.seq ?_
    refine wpM.region ?_
    refine LM.val (ov_move rfl) ?_
    first | refine LM.rd (om_load 0 Try.isAgg3 rfl rfl rfl) ?_ | refine LM.rd (om_load 1 Try.isAgg3 rfl rfl rfl) ?_ | refine LM.rd (om_load 2 Try.isAgg3 rfl rfl rfl) ?_ | refine LM.rd (om_load 3 Try.isAgg3 rfl rfl rfl) ?_ | refine LM.rd (om_load 4 Try.isAgg3 rfl rfl rfl) ?_ | refine LM.rd (om_load 5 Try.isAgg3 rfl rfl rfl) ?_ | refine LM.rd (om_load 6 Try.isAgg3 rfl rfl rfl) ?_ | refine LM.rd (om_load 7 Try.isAgg3 rfl rfl rfl) ?_ | refine LM.rd (om_load 8 Try.isAgg3 rfl rfl rfl) ?_
    refine LM.val (ov_neq rfl rfl) ?_
    refine LM.val (ov_move rfl) ?_
    first | refine LM.splitD (t := 21) rfl (fun h1 => ?_) (fun h1 => ?_) | refine LM.splitB (t := 21) rfl (fun h1 => ?_) (fun h1 => ?_)
    ·
      refine LM.drop (t := 21) rfl rfl rfl ?_
      refine LM.drop (t := 21) rfl rfl rfl ?_
      refine LM.drop (t := 21) rfl rfl rfl ?_
      refine LM.val (ov_pickT rfl rfl) ?_
      refine LM.val (ov_move rfl) ?_
      refine LM.drop (t := 26) rfl rfl rfl ?_
      refine LM.drop (t := 26) rfl rfl rfl ?_
      refine LM.drop (t := 26) rfl rfl rfl ?_
      refine LM.drop (t := 26) rfl rfl rfl ?_
      refine LM.drop (t := 26) rfl rfl rfl ?_
      refine LM.drop (t := 26) rfl rfl rfl ?_
      refine LM.val (ov_pickT rfl rfl) ?_
      refine LM.nil ?_
      refine QM.sub (e' := [(6, _), (33, _)]) ⟨rfl, rfl, trivial⟩ ?_
      refine QM.then ?_
      refine wpM.condT rfl ?_
      refine wpM.seq ?_
      refine wpM.region ?_
      first | refine LM.store 0 Try.sizeOf4 rfl rfl rfl rfl (by first | decide | (simp; done) | (simp; omega)) rfl (fun hlt => absurd hlt (by omega)) ?_ | refine LM.store 1 Try.sizeOf4 rfl rfl rfl rfl (by first | decide | (simp; done) | (simp; omega)) rfl (fun hlt => absurd hlt (by omega)) ?_ | refine LM.store 2 Try.sizeOf4 rfl rfl rfl rfl (by first | decide | (simp; done) | (simp; omega)) rfl (fun hlt => absurd hlt (by omega)) ?_ | refine LM.store 3 Try.sizeOf4 rfl rfl rfl rfl (by first | decide | (simp; done) | (simp; omega)) rfl (fun hlt => absurd hlt (by omega)) ?_ | refine LM.store 4 Try.sizeOf4 rfl rfl rfl rfl (by first | decide | (simp; done) | (simp; omega)) rfl (fun hlt => absurd hlt (by omega)) ?_ | refine LM.store 5 Try.sizeOf4 rfl rfl rfl rfl (by first | decide | (simp; done) | (simp; omega)) rfl (fun hlt => absurd hlt (by omega)) ?_ | refine LM.store 6 Try.sizeOf4 rfl rfl rfl rfl (by first | decide | (simp; done) | (simp; omega)) rfl (fun hlt => absurd hlt (by omega)) ?_ | refine LM.store 7 Try.sizeOf4 rfl rfl rfl rfl (by first | decide | (simp; done) | (simp; omega)) rfl (fun hlt => absurd hlt (by omega)) ?_ | refine LM.store 8 Try.sizeOf4 rfl rfl rfl rfl (by first | decide | (simp; done) | (simp; omega)) rfl (fun hlt => absurd hlt (by omega)) ?_
      refine LM.nil ?_
      refine QM.sub (e' := [(6, _)]) ⟨rfl, trivial⟩ ?_
      refine QM.then ?_
      refine wpM.ret ?_
      refine QM.block_ret ?_
      -- ret1: h1+
      exfalso; first | omega | contradiction | (simp at *; done) | (simp_all; done)
    ·
      refine LM.strip (t := 21) rfl rfl rfl ?_
      first | refine LM.rd (om_load 0 Try.isAgg3 rfl rfl rfl) ?_ | refine LM.rd (om_load 1 Try.isAgg3 rfl rfl rfl) ?_ | refine LM.rd (om_load 2 Try.isAgg3 rfl rfl rfl) ?_ | refine LM.rd (om_load 3 Try.isAgg3 rfl rfl rfl) ?_ | refine LM.rd (om_load 4 Try.isAgg3 rfl rfl rfl) ?_ | refine LM.rd (om_load 5 Try.isAgg3 rfl rfl rfl) ?_ | refine LM.rd (om_load 6 Try.isAgg3 rfl rfl rfl) ?_ | refine LM.rd (om_load 7 Try.isAgg3 rfl rfl rfl) ?_ | refine LM.rd (om_load 8 Try.isAgg3 rfl rfl rfl) ?_
      refine LM.strip (t := 21) rfl rfl rfl ?_
      first | refine LM.rd (om_load 0 Try.isAgg3 rfl rfl rfl) ?_ | refine LM.rd (om_load 1 Try.isAgg3 rfl rfl rfl) ?_ | refine LM.rd (om_load 2 Try.isAgg3 rfl rfl rfl) ?_ | refine LM.rd (om_load 3 Try.isAgg3 rfl rfl rfl) ?_ | refine LM.rd (om_load 4 Try.isAgg3 rfl rfl rfl) ?_ | refine LM.rd (om_load 5 Try.isAgg3 rfl rfl rfl) ?_ | refine LM.rd (om_load 6 Try.isAgg3 rfl rfl rfl) ?_ | refine LM.rd (om_load 7 Try.isAgg3 rfl rfl rfl) ?_ | refine LM.rd (om_load 8 Try.isAgg3 rfl rfl rfl) ?_
      refine LM.strip (t := 21) rfl rfl rfl ?_
      refine LM.val (ov_lss rfl rfl) ?_
      refine LM.val (ov_pickF rfl rfl) ?_
      refine LM.val (ov_move rfl) ?_
      first | refine LM.splitD (t := 26) rfl (fun h2 => ?_) (fun h2 => ?_) | refine LM.splitB (t := 26) rfl (fun h2 => ?_) (fun h2 => ?_)
      ·
        refine LM.drop (t := 26) rfl rfl rfl ?_
        refine LM.drop (t := 26) rfl rfl rfl ?_
        refine LM.drop (t := 26) rfl rfl rfl ?_
        refine LM.drop (t := 26) rfl rfl rfl ?_
        refine LM.drop (t := 26) rfl rfl rfl ?_
        refine LM.drop (t := 26) rfl rfl rfl ?_
        refine LM.val (ov_pickT rfl rfl) ?_
        refine LM.nil ?_
        refine QM.sub (e' := [(6, _), (33, _)]) ⟨rfl, rfl, trivial⟩ ?_
        refine QM.then ?_
        refine wpM.condT rfl ?_
        refine wpM.seq ?_
        refine wpM.region ?_
        first | refine LM.store 0 Try.sizeOf4 rfl rfl rfl rfl (by first | decide | (simp; done) | (simp; omega)) rfl (fun hlt => absurd hlt (by omega)) ?_ | refine LM.store 1 Try.sizeOf4 rfl rfl rfl rfl (by first | decide | (simp; done) | (simp; omega)) rfl (fun hlt => absurd hlt (by omega)) ?_ | refine LM.store 2 Try.sizeOf4 rfl rfl rfl rfl (by first | decide | (simp; done) | (simp; omega)) rfl (fun hlt => absurd hlt (by omega)) ?_ | refine LM.store 3 Try.sizeOf4 rfl rfl rfl rfl (by first | decide | (simp; done) | (simp; omega)) rfl (fun hlt => absurd hlt (by omega)) ?_ | refine LM.store 4 Try.sizeOf4 rfl rfl rfl rfl (by first | decide | (simp; done) | (simp; omega)) rfl (fun hlt => absurd hlt (by omega)) ?_ | refine LM.store 5 Try.sizeOf4 rfl rfl rfl rfl (by first | decide | (simp; done) | (simp; omega)) rfl (fun hlt => absurd hlt (by omega)) ?_ | refine LM.store 6 Try.sizeOf4 rfl rfl rfl rfl (by first | decide | (simp; done) | (simp; omega)) rfl (fun hlt => absurd hlt (by omega)) ?_ | refine LM.store 7 Try.sizeOf4 rfl rfl rfl rfl (by first | decide | (simp; done) | (simp; omega)) rfl (fun hlt => absurd hlt (by omega)) ?_ | refine LM.store 8 Try.sizeOf4 rfl rfl rfl rfl (by first | decide | (simp; done) | (simp; omega)) rfl (fun hlt => absurd hlt (by omega)) ?_
        refine LM.nil ?_
        refine QM.sub (e' := [(6, _)]) ⟨rfl, trivial⟩ ?_
        refine QM.then ?_
        refine wpM.ret ?_
        refine QM.block_ret ?_
        -- ret2: h1- h2+
        exfalso; first | omega | contradiction | (simp at *; done) | (simp_all; done)
      ·
        refine LM.strip (t := 26) rfl rfl rfl ?_
        first | refine LM.rd (om_load 0 Try.isAgg26 rfl rfl rfl) ?_ | refine LM.rd (om_load 1 Try.isAgg26 rfl rfl rfl) ?_ | refine LM.rd (om_load 2 Try.isAgg26 rfl rfl rfl) ?_ | refine LM.rd (om_load 3 Try.isAgg26 rfl rfl rfl) ?_ | refine LM.rd (om_load 4 Try.isAgg26 rfl rfl rfl) ?_ | refine LM.rd (om_load 5 Try.isAgg26 rfl rfl rfl) ?_ | refine LM.rd (om_load 6 Try.isAgg26 rfl rfl rfl) ?_ | refine LM.rd (om_load 7 Try.isAgg26 rfl rfl rfl) ?_ | refine LM.rd (om_load 8 Try.isAgg26 rfl rfl rfl) ?_
        refine LM.strip (t := 26) rfl rfl rfl ?_
        first | refine LM.rd (om_load 0 Try.isAgg3 rfl rfl rfl) ?_ | refine LM.rd (om_load 1 Try.isAgg3 rfl rfl rfl) ?_ | refine LM.rd (om_load 2 Try.isAgg3 rfl rfl rfl) ?_ | refine LM.rd (om_load 3 Try.isAgg3 rfl rfl rfl) ?_ | refine LM.rd (om_load 4 Try.isAgg3 rfl rfl rfl) ?_ | refine LM.rd (om_load 5 Try.isAgg3 rfl rfl rfl) ?_ | refine LM.rd (om_load 6 Try.isAgg3 rfl rfl rfl) ?_ | refine LM.rd (om_load 7 Try.isAgg3 rfl rfl rfl) ?_ | refine LM.rd (om_load 8 Try.isAgg3 rfl rfl rfl) ?_
        refine LM.strip (t := 26) rfl rfl rfl ?_
        obtain ⟨b, off, cs, E, fz, rfl, hb, hr⟩ := hne (by omega)
        first | refine LM.val (ov_idx10 Try.underlying26 Try.sizeOf3 rfl rfl (by omega)) ?_ | refine LM.val (ov_idx1 Try.underlying26 Try.sizeOf3 rfl rfl (by omega)) ?_
        refine LM.strip (t := 26) rfl rfl rfl ?_
        refine LM.rdC (om_srI Try.isAgg3 rfl hb hr (by omega) id) ?_
        refine LM.strip (t := 26) rfl rfl rfl ?_
        refine LM.val (ov_move rfl) ?_
        refine LM.strip (t := 26) rfl rfl rfl ?_
        refine LM.val (ov_neq rfl rfl) ?_
        refine LM.val (ov_pickF rfl rfl) ?_
        refine LM.nil ?_
        refine QM.sub (e' := [(6, _), (33, _)]) ⟨rfl, rfl, trivial⟩ ?_
        refine QM.then ?_
        first | refine wpM.condD rfl (fun h3 => ?_) (fun h3 => ?_) | refine wpM.condB rfl (fun h3 => ?_) (fun h3 => ?_)
        ·
          refine wpM.seq ?_
          refine wpM.region ?_
          first | refine LM.store 0 Try.sizeOf4 rfl rfl rfl rfl (by first | decide | (simp; done) | (simp; omega)) rfl (fun hlt => absurd hlt (by omega)) ?_ | refine LM.store 1 Try.sizeOf4 rfl rfl rfl rfl (by first | decide | (simp; done) | (simp; omega)) rfl (fun hlt => absurd hlt (by omega)) ?_ | refine LM.store 2 Try.sizeOf4 rfl rfl rfl rfl (by first | decide | (simp; done) | (simp; omega)) rfl (fun hlt => absurd hlt (by omega)) ?_ | refine LM.store 3 Try.sizeOf4 rfl rfl rfl rfl (by first | decide | (simp; done) | (simp; omega)) rfl (fun hlt => absurd hlt (by omega)) ?_ | refine LM.store 4 Try.sizeOf4 rfl rfl rfl rfl (by first | decide | (simp; done) | (simp; omega)) rfl (fun hlt => absurd hlt (by omega)) ?_ | refine LM.store 5 Try.sizeOf4 rfl rfl rfl rfl (by first | decide | (simp; done) | (simp; omega)) rfl (fun hlt => absurd hlt (by omega)) ?_ | refine LM.store 6 Try.sizeOf4 rfl rfl rfl rfl (by first | decide | (simp; done) | (simp; omega)) rfl (fun hlt => absurd hlt (by omega)) ?_ | refine LM.store 7 Try.sizeOf4 rfl rfl rfl rfl (by first | decide | (simp; done) | (simp; omega)) rfl (fun hlt => absurd hlt (by omega)) ?_ | refine LM.store 8 Try.sizeOf4 rfl rfl rfl rfl (by first | decide | (simp; done) | (simp; omega)) rfl (fun hlt => absurd hlt (by omega)) ?_
          refine LM.nil ?_
          refine QM.sub (e' := [(6, _)]) ⟨rfl, trivial⟩ ?_
          refine QM.then ?_
          refine wpM.ret ?_
          refine QM.block_ret ?_
          -- ret3: h1- h2- h3+
          exfalso; first | omega | contradiction | (simp at *; done) | (simp_all; done)
        ·
          refine wpM.skip ?_
          refine QM.block_normal ?_
          -- next1: h1- h2- h3-
          exact QM.next ⟨⟩ (fun w hm => by rw [show (xs.length : Int) - ((k + 1 : Nat) : Int) = xs.length - k - 1 by omega]; exact hm) (fun _ h => h) trivial
  ·
    rintro ⟨⟩ D0 hD0 -
    refine QM.sub (e' := [(5, _), (6, _), (7, _)]) ⟨rfl, rfl, rfl, trivial⟩ ?_
    refine QM.block_normal ?_
    refine QM.then ?_
    refine wpM.seq ?_
    refine wpM.region ?_
    first | refine LM.rd (om_load 0 Try.isAgg3 rfl rfl rfl) ?_ | refine LM.rd (om_load 1 Try.isAgg3 rfl rfl rfl) ?_ | refine LM.rd (om_load 2 Try.isAgg3 rfl rfl rfl) ?_ | refine LM.rd (om_load 3 Try.isAgg3 rfl rfl rfl) ?_ | refine LM.rd (om_load 4 Try.isAgg3 rfl rfl rfl) ?_ | refine LM.rd (om_load 5 Try.isAgg3 rfl rfl rfl) ?_ | refine LM.rd (om_load 6 Try.isAgg3 rfl rfl rfl) ?_ | refine LM.rd (om_load 7 Try.isAgg3 rfl rfl rfl) ?_ | refine LM.rd (om_load 8 Try.isAgg3 rfl rfl rfl) ?_
    first | refine LM.rd (om_load 0 Try.isAgg3 rfl rfl rfl) ?_ | refine LM.rd (om_load 1 Try.isAgg3 rfl rfl rfl) ?_ | refine LM.rd (om_load 2 Try.isAgg3 rfl rfl rfl) ?_ | refine LM.rd (om_load 3 Try.isAgg3 rfl rfl rfl) ?_ | refine LM.rd (om_load 4 Try.isAgg3 rfl rfl rfl) ?_ | refine LM.rd (om_load 5 Try.isAgg3 rfl rfl rfl) ?_ | refine LM.rd (om_load 6 Try.isAgg3 rfl rfl rfl) ?_ | refine LM.rd (om_load 7 Try.isAgg3 rfl rfl rfl) ?_ | refine LM.rd (om_load 8 Try.isAgg3 rfl rfl rfl) ?_
    refine LM.val (ov_eql rfl rfl) ?_
    first | refine LM.store 0 Try.sizeOf4 rfl rfl rfl rfl (by first | decide | (simp; done) | (simp; omega)) rfl (fun hlt => absurd hlt (by omega)) ?_ | refine LM.store 1 Try.sizeOf4 rfl rfl rfl rfl (by first | decide | (simp; done) | (simp; omega)) rfl (fun hlt => absurd hlt (by omega)) ?_ | refine LM.store 2 Try.sizeOf4 rfl rfl rfl rfl (by first | decide | (simp; done) | (simp; omega)) rfl (fun hlt => absurd hlt (by omega)) ?_ | refine LM.store 3 Try.sizeOf4 rfl rfl rfl rfl (by first | decide | (simp; done) | (simp; omega)) rfl (fun hlt => absurd hlt (by omega)) ?_ | refine LM.store 4 Try.sizeOf4 rfl rfl rfl rfl (by first | decide | (simp; done) | (simp; omega)) rfl (fun hlt => absurd hlt (by omega)) ?_ | refine LM.store 5 Try.sizeOf4 rfl rfl rfl rfl (by first | decide | (simp; done) | (simp; omega)) rfl (fun hlt => absurd hlt (by omega)) ?_ | refine LM.store 6 Try.sizeOf4 rfl rfl rfl rfl (by first | decide | (simp; done) | (simp; omega)) rfl (fun hlt => absurd hlt (by omega)) ?_ | refine LM.store 7 Try.sizeOf4 rfl rfl rfl rfl (by first | decide | (simp; done) | (simp; omega)) rfl (fun hlt => absurd hlt (by omega)) ?_ | refine LM.store 8 Try.sizeOf4 rfl rfl rfl rfl (by first | decide | (simp; done) | (simp; omega)) rfl (fun hlt => absurd hlt (by omega)) ?_
    refine LM.nil ?_
    refine QM.sub (e' := [(6, _)]) ⟨rfl, trivial⟩ ?_
    refine QM.then ?_
    refine wpM.ret ?_
    first | refine QM.leaveCD (ds := [D0]) Try.results27 rfl (fun D h => by simp only [List.mem_cons, List.not_mem_nil, or_false] at h; omega) (lv_cell 0 Try.isAgg4 rfl rfl) ?_ | refine QM.leaveCD (ds := [D0]) Try.results27 rfl (fun D h => by simp only [List.mem_cons, List.not_mem_nil, or_false] at h; omega) (lv_cell 1 Try.isAgg4 rfl rfl) ?_ | refine QM.leaveCD (ds := [D0]) Try.results27 rfl (fun D h => by simp only [List.mem_cons, List.not_mem_nil, or_false] at h; omega) (lv_cell 2 Try.isAgg4 rfl rfl) ?_ | refine QM.leaveCD (ds := [D0]) Try.results27 rfl (fun D h => by simp only [List.mem_cons, List.not_mem_nil, or_false] at h; omega) (lv_cell 3 Try.isAgg4 rfl rfl) ?_ | refine QM.leaveCD (ds := [D0]) Try.results27 rfl (fun D h => by simp only [List.mem_cons, List.not_mem_nil, or_false] at h; omega) (lv_cell 4 Try.isAgg4 rfl rfl) ?_ | refine QM.leaveCD (ds := [D0]) Try.results27 rfl (fun D h => by simp only [List.mem_cons, List.not_mem_nil, or_false] at h; omega) (lv_cell 5 Try.isAgg4 rfl rfl) ?_ | refine QM.leaveCD (ds := [D0]) Try.results27 rfl (fun D h => by simp only [List.mem_cons, List.not_mem_nil, or_false] at h; omega) (lv_cell 6 Try.isAgg4 rfl rfl) ?_ | refine QM.leaveCD (ds := [D0]) Try.results27 rfl (fun D h => by simp only [List.mem_cons, List.not_mem_nil, or_false] at h; omega) (lv_cell 7 Try.isAgg4 rfl rfl) ?_ | refine QM.leaveCD (ds := [D0]) Try.results27 rfl (fun D h => by simp only [List.mem_cons, List.not_mem_nil, or_false] at h; omega) (lv_cell 8 Try.isAgg4 rfl rfl) ?_
    intro w' hm' hc'
    -- leaf 1: h1- h2- h3-
    refine ⟨?_, hc'⟩; show Value.bool (decide _) = _; rw [decide_eq_true]; rw [backA_len] at *; omega
  ·
    rintro ⟨⟩ D0 hD0 hx
    exact hx.elim
  ·
    rintro id ⟨⟩ D0 hD0 hx
    first | exact hx.elim | cases hx.1

end Go.Eng

