/- The walks of rings. No condition. -/
import Derived.Test.YtpemcncnehhgfaaRingLaw
import Derived.Test.YtpemcncnehhgfaaRows
set_option linter.unusedVariables false
set_option linter.unusedSimpArgs false
namespace Go.Eng
open Go Go.Proofs Go.RowKit

set_option maxRecDepth 100000 in
theorem rbring_spec (n : Int) (w : World) : Ret Try.prog 55 #[.int .i64 n] w (fun v w' => v = .int .i64 (bringN n : Nat) ∧ Ext w w') := by
  refine Ret.enterM (l := [.int .i64 n]) Try.func55 rfl Try.ntmps55 rfl ([]) (no) (Mem.nil w) ?_
  refine wpM.seq ?_
  refine wpM.region ?_
  refine LM.val (ov_assign rfl) ?_
  refine LM.nil ?_
  refine QM.sub (e' := [(0, _)]) ⟨rfl, trivial⟩ ?_
  refine QM.then ?_
  refine wpM.seq ?_
  refine wpM.seq ?_
  refine wpM.region ?_
  refine LM.val (ov_move rfl) ?_
  refine LM.val (ov_lss rfl rfl) ?_
  refine LM.nil ?_
  refine QM.sub (e' := [(0, _), (4, _)]) ⟨rfl, rfl, trivial⟩ ?_
  refine QM.then ?_
  first | refine wpM.condD rfl (fun h1 => ?_) (fun h1 => ?_) | refine wpM.condB rfl (fun h1 => ?_) (fun h1 => ?_)
  ·
    refine wpM.seq ?_
    refine wpM.region ?_
    refine LM.val (ov_assign rfl) ?_
    refine LM.nil ?_
    refine QM.sub (e' := [(2, _)]) ⟨rfl, trivial⟩ ?_
    refine QM.then ?_
    refine wpM.ret ?_
    refine QM.then_ret ?_
    refine QM.leave (.inl rfl) [.tmp 2] Try.results55 rfl ?_
    intro w' hm' hc' hg'
    -- leaf 1: h1+
    exact ⟨by simp only [resV, bringN]; congr 1; (repeat' split) <;> omega, hc'⟩
  ·
    refine wpM.skip ?_
    refine QM.then ?_
    refine wpM.seq ?_
    refine wpM.seq ?_
    refine wpM.region ?_
    refine LM.val (ov_move rfl) ?_
    refine LM.val (ov_gtr rfl rfl) ?_
    refine LM.nil ?_
    refine QM.sub (e' := [(0, _), (6, _)]) ⟨rfl, rfl, trivial⟩ ?_
    refine QM.then ?_
    first | refine wpM.condD rfl (fun h2 => ?_) (fun h2 => ?_) | refine wpM.condB rfl (fun h2 => ?_) (fun h2 => ?_)
    ·
      refine wpM.seq ?_
      refine wpM.region ?_
      refine LM.val (ov_assign rfl) ?_
      refine LM.nil ?_
      refine QM.sub (e' := [(2, _)]) ⟨rfl, trivial⟩ ?_
      refine QM.then ?_
      refine wpM.ret ?_
      refine QM.then_ret ?_
      refine QM.leave (.inl rfl) [.tmp 2] Try.results55 rfl ?_
      intro w' hm' hc' hg'
      -- leaf 2: h1- h2+
      exact ⟨by simp only [resV, bringN]; congr 1; (repeat' split) <;> omega, hc'⟩
    ·
      refine wpM.skip ?_
      refine QM.then ?_
      refine wpM.seq ?_
      refine wpM.region ?_
      refine LM.val (ov_move rfl) ?_
      refine LM.val (ov_assign rfl) ?_
      refine LM.nil ?_
      refine QM.sub (e' := [(2, _)]) ⟨rfl, trivial⟩ ?_
      refine QM.then ?_
      refine wpM.ret ?_
      refine QM.leave (.inl rfl) [.tmp 2] Try.results55 rfl ?_
      intro w' hm' hc' hg'
      -- leaf 3: h1- h2-
      exact ⟨by simp only [resV, bringN]; congr 1; (repeat' split) <;> omega, hc'⟩

set_option maxRecDepth 100000 in
theorem rfirst_spec (k most : Int) (w : World) (hk : 0 ≤ k ∧ k ≤ 1000) : Ret Try.prog 22 #[.int .i64 k, .int .i64 most] w (fun v w' => v = .int .i64 ((k.toNat - min k.toNat (bringN most) : Nat) : Int) ∧ Ext w w') := by
  have hb := bringN_pos most
  refine Ret.enterM (l := [.int .i64 k, .int .i64 most]) Try.func22 rfl Try.ntmps22 rfl ([]) (no) (Mem.nil w) ?_
  refine wpM.seq ?_
  refine wpM.region ?_
  refine LM.val (ov_assign rfl) ?_
  refine LM.nil ?_
  refine QM.sub (e' := [(0, _), (1, _)]) ⟨rfl, rfl, trivial⟩ ?_
  refine QM.then ?_
  refine wpM.seq ?_
  refine wpM.seq ?_
  refine wpM.region ?_
  refine LM.val (ov_move rfl) ?_
  refine LM.val (ov_move rfl) ?_
  refine LM.callE (oc_call (enters_fn Try.func55 (by kernel_rfl) rfl) rfl) (fun w hm hc hg => rbring_spec _ _) ?_
  refine LM.val (ov_gtr rfl rfl) ?_
  refine LM.nil ?_
  refine QM.sub (e' := [(0, _), (1, _), (8, _)]) ⟨rfl, rfl, rfl, trivial⟩ ?_
  refine QM.then ?_
  first | refine wpM.condD rfl (fun h1 => ?_) (fun h1 => ?_) | refine wpM.condB rfl (fun h1 => ?_) (fun h1 => ?_)
  ·
    refine wpM.seq ?_
    refine wpM.region ?_
    refine LM.val (ov_move rfl) ?_
    refine LM.val (ov_move rfl) ?_
    refine LM.callE (oc_call (enters_fn Try.func55 (by kernel_rfl) rfl) rfl) (fun w hm hc hg => rbring_spec _ _) ?_
    refine LM.val (ov_sub64 rfl rfl (by omega)) ?_
    refine LM.val (ov_assign rfl) ?_
    refine LM.nil ?_
    refine QM.sub (e' := [(4, _)]) ⟨rfl, trivial⟩ ?_
    refine QM.then ?_
    refine wpM.ret ?_
    refine QM.then_ret ?_
    refine QM.leave (.inl rfl) [.tmp 4] Try.results22 rfl ?_
    intro w' hm' hc' hg'
    -- leaf 1: h1+
    exact ⟨by simp only [resV]; congr 1; omega, hc'⟩
  ·
    refine wpM.skip ?_
    refine QM.then ?_
    refine wpM.seq ?_
    refine wpM.region ?_
    refine LM.val (ov_assign rfl) ?_
    refine LM.nil ?_
    refine QM.sub (e' := [(4, _)]) ⟨rfl, trivial⟩ ?_
    refine QM.then ?_
    refine wpM.ret ?_
    refine QM.leave (.inl rfl) [.tmp 4] Try.results22 rfl ?_
    intro w' hm' hc' hg'
    -- leaf 2: h1-
    exact ⟨by simp only [resV]; congr 1; omega, hc'⟩

set_option maxRecDepth 100000 in
theorem inew_spec (most : Int) (w : World) : Ret Try.prog 19 #[.int .i64 most] w (fun v w' => Ext w w' ∧ ∃ m, RingM fI 86 3 w.heap.size (bringN most) ([] : List Int) v m ∧ Mem w' m ∧ ∀ p ∈ m, w.heap.size ≤ p.1) := by
  refine Ret.enterM (l := [.int .i64 most]) Try.func19 rfl Try.ntmps19 rfl ([]) (no) (Mem.nil w) ?_
  refine wpM.seq ?_
  refine wpM.region ?_
  refine LM.val (ov_assign rfl) ?_
  refine LM.nil ?_
  refine QM.sub (e' := [(0, _)]) ⟨rfl, trivial⟩ ?_
  refine QM.then ?_
  refine wpM.seq ?_
  refine wpM.region ?_
  refine LM.val (ov_move rfl) ?_
  refine LM.val (ov_max rfl rfl) ?_
  refine LM.val (ov_min rfl rfl) ?_
  refine LM.val (ov_build (cs := #[_, _, _]) rfl (by first | rfl | kernel_rfl)) ?_
  refine LM.box rfl rfl (fun b7 hb7 => ?_)
  refine LM.val (ov_assign rfl) ?_
  refine LM.nil ?_
  refine QM.sub (e' := [(2, _)]) ⟨rfl, trivial⟩ ?_
  refine QM.then ?_
  refine wpM.ret ?_
  refine QM.leave (.inl rfl) [.tmp 2] Try.results19 rfl ?_
  intro w' hm' hc' hg'
  -- leaf 1: 
  refine ⟨hc', [(b7, .cells #[.slice none 0 0, .int .i64 (bringN most : Nat), .int .i64 ((([] : List Int).length : Nat) : Int)] 86 (0, 0))], ⟨b7, _, [], [], hb7, rfl, rfl, .nil _ _ _ _, .nil _⟩, ?_, fun p hp => by rw [List.mem_singleton] at hp; subst hp; exact hb7⟩
  have h9 := bringN_if most; rw [← h9]; exact hm'

set_option maxRecDepth 100000 in
theorem ifirst_spec {most : Nat} {xs ss : List Int} {br n0 : Nat} {sv : Value} {ms : Mem0} {w : World} (hM : Mem w ((br, .cells #[sv, .int .i64 (most : Int), .int .i64 (xs.length : Int)] 86 (0, 0)) :: ms)) (hsl : Sl fI 3 1 n0 ss sv ms) (hri : RI most xs ss) (hx : xs.length ≤ 1000) : Ret Try.prog 23 #[.pointer (some ⟨br, 0, none⟩)] w (fun v w' => v = .int .i64 ((xs.length - min xs.length most : Nat) : Int) ∧ Ext w w') := by
  obtain ⟨ad, cap, rfl⟩ := hsl.form; have hl := hri.1
  refine Ret.enterM (l := [.pointer (some ⟨br, 0, none⟩)]) Try.func23 rfl Try.ntmps23 rfl ((br, .cells #[.slice ad ss.length cap, .int .i64 (most : Int), .int .i64 (xs.length : Int)] 86 (0, 0)) :: ms) (no) hM ?_
  refine wpM.seq ?_
  refine wpM.region ?_
  refine LM.val (ov_assign rfl) ?_
  refine LM.nil ?_
  refine QM.sub (e' := [(0, _)]) ⟨rfl, trivial⟩ ?_
  refine QM.then ?_
  refine wpM.seq ?_
  refine wpM.seq ?_
  refine wpM.region ?_
  refine LM.val (ov_move rfl) ?_
  refine LM.val (ov_peql (by kernel_rfl) rfl rfl) ?_
  refine LM.nil ?_
  refine QM.sub (e' := [(0, _), (4, _)]) ⟨rfl, rfl, trivial⟩ ?_
  refine QM.then ?_
  refine wpM.condF rfl ?_
  refine wpM.skip ?_
  refine QM.then ?_
  refine wpM.seq ?_
  refine wpM.draw [(0, 0), (1, 0), (2, 0), (3, 1), (4, 0), (5, 0), (6, 0), (7, 1), (8, 0), (9, 0), (10, 0)] (by kernel_rfl) (by kernel_rfl) ?_
  refine LD.val rfl rfl (ov_move rfl) ?_
  refine LD.val rfl rfl (ov_nilCheck rfl) ?_
  refine LD.val rfl rfl (ov_field Try.underlying86 rfl Try.sizeOf3 rfl (k := 2) rfl rfl) ?_
  first | refine LD.rd rfl rfl (om_load 0 Try.isAgg3 rfl rfl rfl) ?_ | refine LD.rd rfl rfl (om_load 1 Try.isAgg3 rfl rfl rfl) ?_ | refine LD.rd rfl rfl (om_load 2 Try.isAgg3 rfl rfl rfl) ?_ | refine LD.rd rfl rfl (om_load 3 Try.isAgg3 rfl rfl rfl) ?_ | refine LD.rd rfl rfl (om_load 4 Try.isAgg3 rfl rfl rfl) ?_ | refine LD.rd rfl rfl (om_load 5 Try.isAgg3 rfl rfl rfl) ?_ | refine LD.rd rfl rfl (om_load 6 Try.isAgg3 rfl rfl rfl) ?_ | refine LD.rd rfl rfl (om_load 7 Try.isAgg3 rfl rfl rfl) ?_ | refine LD.rd rfl rfl (om_load 8 Try.isAgg3 rfl rfl rfl) ?_
  refine LD.val rfl rfl (ov_move rfl) ?_
  refine LD.val rfl rfl (ov_nilCheck rfl) ?_
  refine LD.val rfl rfl (ov_field Try.underlying86 rfl Try.sizeOf26 rfl (k := 0) rfl rfl) ?_
  first | refine LD.rd rfl rfl (om_load 0 Try.isAgg26 rfl rfl rfl) ?_ | refine LD.rd rfl rfl (om_load 1 Try.isAgg26 rfl rfl rfl) ?_ | refine LD.rd rfl rfl (om_load 2 Try.isAgg26 rfl rfl rfl) ?_ | refine LD.rd rfl rfl (om_load 3 Try.isAgg26 rfl rfl rfl) ?_ | refine LD.rd rfl rfl (om_load 4 Try.isAgg26 rfl rfl rfl) ?_ | refine LD.rd rfl rfl (om_load 5 Try.isAgg26 rfl rfl rfl) ?_ | refine LD.rd rfl rfl (om_load 6 Try.isAgg26 rfl rfl rfl) ?_ | refine LD.rd rfl rfl (om_load 7 Try.isAgg26 rfl rfl rfl) ?_ | refine LD.rd rfl rfl (om_load 8 Try.isAgg26 rfl rfl rfl) ?_
  refine LD.val rfl rfl (ov_len Try.underlying26 rfl) ?_
  refine LD.val rfl rfl (ov_sub64 rfl rfl (by omega)) ?_
  refine LD.val rfl rfl (ov_assign rfl) ?_
  refine LD.nil ?_
  refine QM.sub (e' := [(2, _)]) ⟨rfl, trivial⟩ ?_
  refine QM.then ?_
  refine wpM.ret ?_
  refine QM.leave (.inl rfl) [.tmp 2] Try.results23 rfl ?_
  intro w' hm' hc' hg'
  -- leaf 1: 
  exact ⟨by simp only [resV]; congr 1; omega, hc'⟩

set_option maxRecDepth 100000 in
theorem inext_spec {most : Nat} {xs : List Int} {br : Nat} {sv : Value} {ms : Mem0} {w : World} (hM : Mem w ((br, .cells #[sv, .int .i64 (most : Int), .int .i64 (xs.length : Int)] 86 (0, 0)) :: ms)) : Ret Try.prog 20 #[.pointer (some ⟨br, 0, none⟩)] w (fun v w' => v = .int .i64 (xs.length : Int) ∧ Ext w w') := by
  refine Ret.enterM (l := [.pointer (some ⟨br, 0, none⟩)]) Try.func20 rfl Try.ntmps20 rfl ((br, .cells #[sv, .int .i64 (most : Int), .int .i64 (xs.length : Int)] 86 (0, 0)) :: ms) (no) hM ?_
  refine wpM.seq ?_
  refine wpM.region ?_
  refine LM.val (ov_assign rfl) ?_
  refine LM.nil ?_
  refine QM.sub (e' := [(0, _)]) ⟨rfl, trivial⟩ ?_
  refine QM.then ?_
  refine wpM.seq ?_
  refine wpM.seq ?_
  refine wpM.region ?_
  refine LM.val (ov_move rfl) ?_
  refine LM.val (ov_peql (by kernel_rfl) rfl rfl) ?_
  refine LM.nil ?_
  refine QM.sub (e' := [(0, _), (4, _)]) ⟨rfl, rfl, trivial⟩ ?_
  refine QM.then ?_
  refine wpM.condF rfl ?_
  refine wpM.skip ?_
  refine QM.then ?_
  refine wpM.seq ?_
  refine wpM.region ?_
  refine LM.val (ov_move rfl) ?_
  refine LM.val (ov_nilCheck rfl) ?_
  refine LM.val (ov_field Try.underlying86 rfl Try.sizeOf3 rfl (k := 2) rfl rfl) ?_
  first | refine LM.rd (om_load 0 Try.isAgg3 rfl rfl rfl) ?_ | refine LM.rd (om_load 1 Try.isAgg3 rfl rfl rfl) ?_ | refine LM.rd (om_load 2 Try.isAgg3 rfl rfl rfl) ?_ | refine LM.rd (om_load 3 Try.isAgg3 rfl rfl rfl) ?_ | refine LM.rd (om_load 4 Try.isAgg3 rfl rfl rfl) ?_ | refine LM.rd (om_load 5 Try.isAgg3 rfl rfl rfl) ?_ | refine LM.rd (om_load 6 Try.isAgg3 rfl rfl rfl) ?_ | refine LM.rd (om_load 7 Try.isAgg3 rfl rfl rfl) ?_ | refine LM.rd (om_load 8 Try.isAgg3 rfl rfl rfl) ?_
  refine LM.val (ov_assign rfl) ?_
  refine LM.nil ?_
  refine QM.sub (e' := [(2, _)]) ⟨rfl, trivial⟩ ?_
  refine QM.then ?_
  refine wpM.ret ?_
  refine QM.leave (.inl rfl) [.tmp 2] Try.results20 rfl ?_
  intro w' hm' hc' hg'
  -- leaf 1: 
  first | exact ⟨rfl, hc'⟩ | (exfalso; first | omega | (simp at *; done) | (simp_all; done))

set_option maxRecDepth 100000 in
theorem iget_spec {most : Nat} {xs ss : List Int} {br n0 : Nat} {sv : Value} {ms : Mem0} {w : World} (n : Int) (hM : Mem w ((br, .cells #[sv, .int .i64 (most : Int), .int .i64 (xs.length : Int)] 86 (0, 0)) :: ms)) (hsl : Sl fI 3 1 n0 ss sv ms) (hri : RI most xs ss) (hx : xs.length ≤ 1000) (hmo : 0 < most) : Ret Try.prog 25 #[.pointer (some ⟨br, 0, none⟩), .int .i64 n] w (fun v w' => v = .tuple #[.int .i64 (if ((xs.length - min xs.length most : Nat) : Int) ≤ n ∧ n < xs.length then xs.getD n.toNat 0 else 0), .bool (decide (((xs.length - min xs.length most : Nat) : Int) ≤ n ∧ n < xs.length))] ∧ Ext w w') := by
  obtain ⟨ad, cap, rfl⟩ := hsl.form; have hl := hri.1
  refine Ret.enterM (l := [.pointer (some ⟨br, 0, none⟩), .int .i64 n]) Try.func25 rfl Try.ntmps25 rfl ((br, .cells #[.slice ad ss.length cap, .int .i64 (most : Int), .int .i64 (xs.length : Int)] 86 (0, 0)) :: ms) (no) hM ?_
  refine wpM.seq ?_
  refine wpM.region ?_
  refine LM.val (ov_assign rfl) ?_
  refine LM.val (ov_assign rfl) ?_
  refine LM.nil ?_
  refine QM.sub (e' := [(0, _), (1, _)]) ⟨rfl, rfl, trivial⟩ ?_
  refine QM.then ?_
  refine wpM.seq ?_
  refine wpM.seq ?_
  refine wpM.region ?_
  refine LM.val (ov_move rfl) ?_
  refine LM.val (ov_peql (by kernel_rfl) rfl rfl) ?_
  refine LM.val (ov_move rfl) ?_
  refine LM.strip (t := 9) rfl rfl rfl ?_
  refine LM.val (ov_move rfl) ?_
  refine LM.strip (t := 9) rfl rfl rfl ?_
  refine LM.val (ov_move rfl) ?_
  refine LM.strip (t := 9) rfl rfl rfl ?_
  refine LM.callE (oc_call (enters_fn Try.func23 (by kernel_rfl) rfl) rfl) (fun w hm hc hg => ifirst_spec hm hsl hri hx) ?_
  refine LM.strip (t := 9) rfl rfl rfl ?_
  refine LM.val (ov_lss rfl rfl) ?_
  refine LM.val (ov_pickF rfl rfl) ?_
  refine LM.val (ov_move rfl) ?_
  first | refine LM.splitD (t := 15) rfl (fun h1 => ?_) (fun h1 => ?_) | refine LM.splitB (t := 15) rfl (fun h1 => ?_) (fun h1 => ?_)
  ·
    refine LM.drop (t := 15) rfl rfl rfl ?_
    refine LM.drop (t := 15) rfl rfl rfl ?_
    refine LM.drop (t := 15) rfl rfl rfl ?_
    refine LM.drop (t := 15) rfl rfl rfl ?_
    refine LM.drop (t := 15) rfl rfl rfl ?_
    refine LM.drop (t := 15) rfl rfl rfl ?_
    refine LM.val (ov_pickT rfl rfl) ?_
    refine LM.nil ?_
    refine QM.sub (e' := [(0, _), (1, _), (22, _)]) ⟨rfl, rfl, rfl, trivial⟩ ?_
    refine QM.then ?_
    refine wpM.condT rfl ?_
    refine wpM.seq ?_
    refine wpM.region ?_
    refine LM.val (ov_assign rfl) ?_
    refine LM.nil ?_
    refine QM.sub (e' := [(6, _)]) ⟨rfl, trivial⟩ ?_
    refine QM.then ?_
    refine wpM.seq ?_
    refine wpM.region ?_
    refine LM.val (ov_move rfl) ?_
    refine LM.val (ov_assign rfl) ?_
    refine LM.val (ov_assign rfl) ?_
    refine LM.nil ?_
    refine QM.sub (e' := [(4, _), (5, _)]) ⟨rfl, rfl, trivial⟩ ?_
    refine QM.then ?_
    refine wpM.ret ?_
    refine QM.then_ret ?_
    refine QM.leave (.inl rfl) [.tmp 4, .tmp 5] Try.results25 rfl ?_
    intro w' hm' hc' hg'
    -- leaf 1: h1+
    exact ⟨by simp only [resV]; rw [if_neg (by omega), decide_eq_false (by omega)], hc'⟩
  ·
    refine LM.strip (t := 15) rfl rfl rfl ?_
    refine LM.val (ov_move rfl) ?_
    refine LM.strip (t := 15) rfl rfl rfl ?_
    refine LM.val (ov_move rfl) ?_
    refine LM.strip (t := 15) rfl rfl rfl ?_
    refine LM.val (ov_nilCheck rfl) ?_
    refine LM.strip (t := 15) rfl rfl rfl ?_
    refine LM.val (ov_field Try.underlying86 rfl Try.sizeOf3 rfl (k := 2) rfl rfl) ?_
    refine LM.strip (t := 15) rfl rfl rfl ?_
    first | refine LM.rd (om_load 0 Try.isAgg3 rfl rfl rfl) ?_ | refine LM.rd (om_load 1 Try.isAgg3 rfl rfl rfl) ?_ | refine LM.rd (om_load 2 Try.isAgg3 rfl rfl rfl) ?_ | refine LM.rd (om_load 3 Try.isAgg3 rfl rfl rfl) ?_ | refine LM.rd (om_load 4 Try.isAgg3 rfl rfl rfl) ?_ | refine LM.rd (om_load 5 Try.isAgg3 rfl rfl rfl) ?_ | refine LM.rd (om_load 6 Try.isAgg3 rfl rfl rfl) ?_ | refine LM.rd (om_load 7 Try.isAgg3 rfl rfl rfl) ?_ | refine LM.rd (om_load 8 Try.isAgg3 rfl rfl rfl) ?_
    refine LM.strip (t := 15) rfl rfl rfl ?_
    refine LM.val (ov_geq rfl rfl) ?_
    refine LM.val (ov_pickF rfl rfl) ?_
    refine LM.nil ?_
    refine QM.sub (e' := [(0, _), (1, _), (22, _)]) ⟨rfl, rfl, rfl, trivial⟩ ?_
    refine QM.then ?_
    first | refine wpM.condD rfl (fun h2 => ?_) (fun h2 => ?_) | refine wpM.condB rfl (fun h2 => ?_) (fun h2 => ?_)
    ·
      refine wpM.seq ?_
      refine wpM.region ?_
      refine LM.val (ov_assign rfl) ?_
      refine LM.nil ?_
      refine QM.sub (e' := [(6, _)]) ⟨rfl, trivial⟩ ?_
      refine QM.then ?_
      refine wpM.seq ?_
      refine wpM.region ?_
      refine LM.val (ov_move rfl) ?_
      refine LM.val (ov_assign rfl) ?_
      refine LM.val (ov_assign rfl) ?_
      refine LM.nil ?_
      refine QM.sub (e' := [(4, _), (5, _)]) ⟨rfl, rfl, trivial⟩ ?_
      refine QM.then ?_
      refine wpM.ret ?_
      refine QM.then_ret ?_
      refine QM.leave (.inl rfl) [.tmp 4, .tmp 5] Try.results25 rfl ?_
      intro w' hm' hc' hg'
      -- leaf 2: h1- h2+
      exact ⟨by simp only [resV]; rw [if_neg (by omega), decide_eq_false (by omega)], hc'⟩
    ·
      refine wpM.skip ?_
      refine QM.then ?_
      refine wpM.seq ?_
      refine wpM.draw [(0, 0), (1, 0), (2, 0), (3, 1), (4, 0), (5, 0), (6, 0), (7, 0), (8, 1), (9, 0), (10, 0), (11, 1), (12, 0), (13, 0)] (by kernel_rfl) (by kernel_rfl) ?_
      have hpos : 0 < ss.length := (by omega); obtain ⟨q, rfl⟩ : ∃ q : Nat, n = q := ⟨n.toNat, by omega⟩; have hlt : q % most < ss.length := (by rw [hl]; have := Nat.mod_lt q hmo; have := Nat.mod_le q most; omega)
      refine LD.val rfl rfl (ov_move rfl) ?_
      refine LD.val rfl rfl (ov_nilCheck rfl) ?_
      refine LD.val rfl rfl (ov_field Try.underlying86 rfl Try.sizeOf26 rfl (k := 0) rfl rfl) ?_
      first | refine LD.rd rfl rfl (om_load 0 Try.isAgg26 rfl rfl rfl) ?_ | refine LD.rd rfl rfl (om_load 1 Try.isAgg26 rfl rfl rfl) ?_ | refine LD.rd rfl rfl (om_load 2 Try.isAgg26 rfl rfl rfl) ?_ | refine LD.rd rfl rfl (om_load 3 Try.isAgg26 rfl rfl rfl) ?_ | refine LD.rd rfl rfl (om_load 4 Try.isAgg26 rfl rfl rfl) ?_ | refine LD.rd rfl rfl (om_load 5 Try.isAgg26 rfl rfl rfl) ?_ | refine LD.rd rfl rfl (om_load 6 Try.isAgg26 rfl rfl rfl) ?_ | refine LD.rd rfl rfl (om_load 7 Try.isAgg26 rfl rfl rfl) ?_ | refine LD.rd rfl rfl (om_load 8 Try.isAgg26 rfl rfl rfl) ?_
      refine LD.val rfl rfl (ov_move rfl) ?_
      refine LD.val rfl rfl (ov_move rfl) ?_
      refine LD.val rfl rfl (ov_nilCheck rfl) ?_
      refine LD.val rfl rfl (ov_field Try.underlying86 rfl Try.sizeOf3 rfl (k := 1) rfl rfl) ?_
      first | refine LD.rd rfl rfl (om_load 0 Try.isAgg3 rfl rfl rfl) ?_ | refine LD.rd rfl rfl (om_load 1 Try.isAgg3 rfl rfl rfl) ?_ | refine LD.rd rfl rfl (om_load 2 Try.isAgg3 rfl rfl rfl) ?_ | refine LD.rd rfl rfl (om_load 3 Try.isAgg3 rfl rfl rfl) ?_ | refine LD.rd rfl rfl (om_load 4 Try.isAgg3 rfl rfl rfl) ?_ | refine LD.rd rfl rfl (om_load 5 Try.isAgg3 rfl rfl rfl) ?_ | refine LD.rd rfl rfl (om_load 6 Try.isAgg3 rfl rfl rfl) ?_ | refine LD.rd rfl rfl (om_load 7 Try.isAgg3 rfl rfl rfl) ?_ | refine LD.rd rfl rfl (om_load 8 Try.isAgg3 rfl rfl rfl) ?_
      refine LD.val rfl rfl (ov_rem64 rfl rfl (by omega) (by omega)) ?_
      obtain ⟨b, cap', junk, hb, he, rfl, hcap, hmx, hsz⟩ := hsl.ne hpos; simp only [Value.slice.injEq] at he; obtain ⟨rfl, -, rfl⟩ := he; have hgv : ss[((q : Int) % (most : Int)).toNat]? = some (xs.getD q 0) := by rw [← Int.natCast_emod, Int.toNat_natCast, hri.get (by omega) (by omega), List.getD_eq_getElem?_getD, List.getElem?_eq_getElem (by omega)]; rfl
      first | refine LD.val rfl rfl (ov_idx10 Try.underlying26 Try.sizeOf3 rfl rfl (by omega)) ?_ | refine LD.val rfl rfl (ov_idx1 Try.underlying26 Try.sizeOf3 rfl rfl (by omega)) ?_
      refine LD.rd rfl rfl (om_load 1 Try.isAgg3 rfl rfl (arr_getI' hgv)) ?_
      refine LD.val rfl rfl (ov_assign rfl) ?_
      refine LD.val rfl rfl (ov_assign rfl) ?_
      refine LD.nil ?_
      refine QM.sub (e' := [(4, _), (5, _)]) ⟨rfl, rfl, trivial⟩ ?_
      refine QM.then ?_
      refine wpM.ret ?_
      refine QM.leave (.inl rfl) [.tmp 4, .tmp 5] Try.results25 rfl ?_
      intro w' hm' hc' hg'
      -- leaf 3: h1- h2-
      exact ⟨by simp only [resV]; rw [if_pos (by omega), decide_eq_true (by omega)]; rfl, hc'⟩

set_option maxRecDepth 100000 in
theorem ilost_spec {most : Nat} {xs ss : List Int} {br n0 : Nat} {sv : Value} {ms : Mem0} {w : World} (n : Int) (hn : -9223372036854775808 ≤ n ∧ n ≤ 9223372036854775807) (hM : Mem w ((br, .cells #[sv, .int .i64 (most : Int), .int .i64 (xs.length : Int)] 86 (0, 0)) :: ms)) (hsl : Sl fI 3 1 n0 ss sv ms) (hri : RI most xs ss) (hx : xs.length ≤ 1000) : Ret Try.prog 26 #[.pointer (some ⟨br, 0, none⟩), .int .i64 n] w (fun v w' => v = .int .i64 (max (((xs.length - min xs.length most : Nat) : Int) - max n 0) 0) ∧ Ext w w') := by
  refine Ret.enterM (l := [.pointer (some ⟨br, 0, none⟩), .int .i64 n]) Try.func26 rfl Try.ntmps26 rfl ((br, .cells #[sv, .int .i64 (most : Int), .int .i64 (xs.length : Int)] 86 (0, 0)) :: ms) (no) hM ?_
  refine wpM.seq ?_
  refine wpM.region ?_
  refine LM.val (ov_assign rfl) ?_
  refine LM.nil ?_
  refine QM.sub (e' := [(0, _), (1, _)]) ⟨rfl, rfl, trivial⟩ ?_
  refine QM.then ?_
  refine wpM.seq ?_
  refine wpM.region ?_
  refine LM.val (ov_move rfl) ?_
  refine LM.callE (oc_call (enters_fn Try.func23 (by kernel_rfl) rfl) rfl) (fun w hm hc hg => ifirst_spec hm hsl hri hx) ?_
  refine LM.val (ov_move rfl) ?_
  refine LM.val (ov_max rfl rfl) ?_
  refine LM.val (ov_sub64 rfl rfl (by omega)) ?_
  refine LM.val (ov_max rfl rfl) ?_
  refine LM.val (ov_assign rfl) ?_
  refine LM.nil ?_
  refine QM.sub (e' := [(4, _)]) ⟨rfl, trivial⟩ ?_
  refine QM.then ?_
  refine wpM.ret ?_
  refine QM.leave (.inl rfl) [.tmp 4] Try.results26 rfl ?_
  intro w' hm' hc' hg'
  -- leaf 1: 
  exact ⟨by simp only [resV]; congr 1; split <;> omega, hc'⟩

set_option maxRecDepth 100000 in
theorem iput_spec {most : Nat} {xs ss : List Int} {br n0 : Nat} {sv : Value} {ms : Mem0} {w : World} (a : Int) (hM : Mem w ((br, .cells #[sv, .int .i64 (most : Int), .int .i64 (xs.length : Int)] 86 (0, 0)) :: ms)) (hsl : Sl fI 3 1 n0 ss sv ms) (hri : RI most xs ss) (hx : xs.length ≤ 1000) (hmo : 0 < most ∧ most ≤ 4096) (hbr : n0 ≤ br) (hn0 : n0 ≤ w.heap.size) : Ret Try.prog 21 #[.pointer (some ⟨br, 0, none⟩), .int .i64 a] w (Upd ((br, .cells #[sv, .int .i64 (most : Int), .int .i64 (xs.length : Int)] 86 (0, 0)) :: ms) (fun u m' => u = .int .i64 (xs.length : Int) ∧ RingM fI 86 3 n0 most (xs ++ [a]) (.pointer (some ⟨br, 0, none⟩)) m') w) := by
  obtain ⟨ad, cap, rfl⟩ := hsl.form; have hl := hri.1
  refine Ret.enterM (l := [.pointer (some ⟨br, 0, none⟩), .int .i64 a]) Try.func21 rfl Try.ntmps21 rfl ((br, .cells #[.slice ad ss.length cap, .int .i64 (most : Int), .int .i64 (xs.length : Int)] 86 (0, 0)) :: ms) ((fun b => ∃ q ∈ (br, .cells #[.slice ad ss.length cap, .int .i64 (most : Int), .int .i64 (xs.length : Int)] 86 (0, 0)) :: ms, q.1 = b)) hM ?_
  refine wpM.seq ?_
  refine wpM.region ?_
  refine LM.val (ov_assign rfl) ?_
  refine LM.nil ?_
  refine QM.sub (e' := [(0, _), (1, _)]) ⟨rfl, rfl, trivial⟩ ?_
  refine QM.then ?_
  refine wpM.seq ?_
  refine wpM.seq ?_
  refine wpM.region ?_
  refine LM.val (ov_move rfl) ?_
  refine LM.val (ov_peql (by kernel_rfl) rfl rfl) ?_
  refine LM.nil ?_
  refine QM.sub (e' := [(0, _), (1, _), (6, _)]) ⟨rfl, rfl, rfl, trivial⟩ ?_
  refine QM.then ?_
  refine wpM.condF rfl ?_
  refine wpM.skip ?_
  refine QM.then ?_
  refine wpM.seq ?_
  refine wpM.seq ?_
  refine wpM.draw [(0, 0), (1, 0), (2, 0), (3, 1), (4, 0), (5, 0), (6, 0), (7, 0), (8, 1), (9, 0)] (by kernel_rfl) (by kernel_rfl) ?_
  refine LD.val rfl rfl (ov_move rfl) ?_
  refine LD.val rfl rfl (ov_nilCheck rfl) ?_
  refine LD.val rfl rfl (ov_field Try.underlying86 rfl Try.sizeOf26 rfl (k := 0) rfl rfl) ?_
  first | refine LD.rd rfl rfl (om_load 0 Try.isAgg26 rfl rfl rfl) ?_ | refine LD.rd rfl rfl (om_load 1 Try.isAgg26 rfl rfl rfl) ?_ | refine LD.rd rfl rfl (om_load 2 Try.isAgg26 rfl rfl rfl) ?_ | refine LD.rd rfl rfl (om_load 3 Try.isAgg26 rfl rfl rfl) ?_ | refine LD.rd rfl rfl (om_load 4 Try.isAgg26 rfl rfl rfl) ?_ | refine LD.rd rfl rfl (om_load 5 Try.isAgg26 rfl rfl rfl) ?_ | refine LD.rd rfl rfl (om_load 6 Try.isAgg26 rfl rfl rfl) ?_ | refine LD.rd rfl rfl (om_load 7 Try.isAgg26 rfl rfl rfl) ?_ | refine LD.rd rfl rfl (om_load 8 Try.isAgg26 rfl rfl rfl) ?_
  refine LD.val rfl rfl (ov_len Try.underlying26 rfl) ?_
  refine LD.val rfl rfl (ov_move rfl) ?_
  refine LD.val rfl rfl (ov_nilCheck rfl) ?_
  refine LD.val rfl rfl (ov_field Try.underlying86 rfl Try.sizeOf3 rfl (k := 1) rfl rfl) ?_
  first | refine LD.rd rfl rfl (om_load 0 Try.isAgg3 rfl rfl rfl) ?_ | refine LD.rd rfl rfl (om_load 1 Try.isAgg3 rfl rfl rfl) ?_ | refine LD.rd rfl rfl (om_load 2 Try.isAgg3 rfl rfl rfl) ?_ | refine LD.rd rfl rfl (om_load 3 Try.isAgg3 rfl rfl rfl) ?_ | refine LD.rd rfl rfl (om_load 4 Try.isAgg3 rfl rfl rfl) ?_ | refine LD.rd rfl rfl (om_load 5 Try.isAgg3 rfl rfl rfl) ?_ | refine LD.rd rfl rfl (om_load 6 Try.isAgg3 rfl rfl rfl) ?_ | refine LD.rd rfl rfl (om_load 7 Try.isAgg3 rfl rfl rfl) ?_ | refine LD.rd rfl rfl (om_load 8 Try.isAgg3 rfl rfl rfl) ?_
  refine LD.val rfl rfl (ov_lss rfl rfl) ?_
  refine LD.nil ?_
  refine QM.sub (e' := [(0, _), (1, _), (16, _)]) ⟨rfl, rfl, rfl, trivial⟩ ?_
  refine QM.then ?_
  first | refine wpM.condD rfl (fun h1 => ?_) (fun h1 => ?_) | refine wpM.condB rfl (fun h1 => ?_) (fun h1 => ?_)
  ·
    refine wpM.region ?_
    refine LM.val (ov_move rfl) ?_
    refine LM.val (ov_move rfl) ?_
    refine LM.val (ov_nilCheck rfl) ?_
    refine LM.val (ov_field Try.underlying86 rfl Try.sizeOf26 rfl (k := 0) rfl rfl) ?_
    first | refine LM.rd (om_load 0 Try.isAgg26 rfl rfl rfl) ?_ | refine LM.rd (om_load 1 Try.isAgg26 rfl rfl rfl) ?_ | refine LM.rd (om_load 2 Try.isAgg26 rfl rfl rfl) ?_ | refine LM.rd (om_load 3 Try.isAgg26 rfl rfl rfl) ?_ | refine LM.rd (om_load 4 Try.isAgg26 rfl rfl rfl) ?_ | refine LM.rd (om_load 5 Try.isAgg26 rfl rfl rfl) ?_ | refine LM.rd (om_load 6 Try.isAgg26 rfl rfl rfl) ?_ | refine LM.rd (om_load 7 Try.isAgg26 rfl rfl rfl) ?_ | refine LM.rd (om_load 8 Try.isAgg26 rfl rfl rfl) ?_
    refine LM.val (ov_move rfl) ?_
    refine LM.single Try.underlying26 Try.sizeOf3 Try.zeroValue3 rfl rfl rfl rfl rfl (fun b23 hb23 => ?_)
    refine LM.mem (M' := (b23, _) :: (ms ++ [(br, _)])) (fun w hm => hm.perm (.cons _ (List.perm_append_singleton _ _).symm)) ?_; refine LM.appendU (m := ms) (M2 := [(br, _)]) (f := fI) (a := a) Try.underlying26 Try.typeInfo3 rfl rfl rfl rfl rfl rfl rfl hn0 (fun p hp _ => ⟨p, List.mem_cons_of_mem _ hp, rfl⟩) hsl ⟨_, _, rfl⟩ fI_len fI_one (by unfold maxLen; omega) (by simp only [Try.t3]; omega) (fun v' m' hsl' hge => ?_); obtain ⟨ad', cap2, rfl⟩ := hsl'.form; refine LM.mem (M' := (br, _) :: m') (fun w hm => hm.perm (List.perm_append_singleton _ _)) ?_
    refine LM.val (ov_nilCheck rfl) ?_
    refine LM.val (ov_field Try.underlying86 rfl Try.sizeOf26 rfl (k := 0) rfl rfl) ?_
    first | refine LM.store 0 Try.sizeOf26 rfl rfl rfl rfl (by first | decide | (simp; done) | (simp; omega)) rfl (fun _ => ⟨_, List.mem_cons_self .., rfl⟩) ?_ | refine LM.store 1 Try.sizeOf26 rfl rfl rfl rfl (by first | decide | (simp; done) | (simp; omega)) rfl (fun _ => ⟨_, List.mem_cons_self .., rfl⟩) ?_ | refine LM.store 2 Try.sizeOf26 rfl rfl rfl rfl (by first | decide | (simp; done) | (simp; omega)) rfl (fun _ => ⟨_, List.mem_cons_self .., rfl⟩) ?_ | refine LM.store 3 Try.sizeOf26 rfl rfl rfl rfl (by first | decide | (simp; done) | (simp; omega)) rfl (fun _ => ⟨_, List.mem_cons_self .., rfl⟩) ?_ | refine LM.store 4 Try.sizeOf26 rfl rfl rfl rfl (by first | decide | (simp; done) | (simp; omega)) rfl (fun _ => ⟨_, List.mem_cons_self .., rfl⟩) ?_ | refine LM.store 5 Try.sizeOf26 rfl rfl rfl rfl (by first | decide | (simp; done) | (simp; omega)) rfl (fun _ => ⟨_, List.mem_cons_self .., rfl⟩) ?_ | refine LM.store 6 Try.sizeOf26 rfl rfl rfl rfl (by first | decide | (simp; done) | (simp; omega)) rfl (fun _ => ⟨_, List.mem_cons_self .., rfl⟩) ?_ | refine LM.store 7 Try.sizeOf26 rfl rfl rfl rfl (by first | decide | (simp; done) | (simp; omega)) rfl (fun _ => ⟨_, List.mem_cons_self .., rfl⟩) ?_ | refine LM.store 8 Try.sizeOf26 rfl rfl rfl rfl (by first | decide | (simp; done) | (simp; omega)) rfl (fun _ => ⟨_, List.mem_cons_self .., rfl⟩) ?_
    refine LM.nil ?_
    refine QM.sub (e' := [(0, _)]) ⟨rfl, trivial⟩ ?_
    refine QM.then ?_
    refine wpM.seq ?_
    refine wpM.region ?_
    refine LM.val (ov_move rfl) ?_
    refine LM.val (ov_nilCheck rfl) ?_
    refine LM.val (ov_field Try.underlying86 rfl Try.sizeOf3 rfl (k := 2) rfl rfl) ?_
    first | refine LM.rd (om_load 0 Try.isAgg3 rfl rfl rfl) ?_ | refine LM.rd (om_load 1 Try.isAgg3 rfl rfl rfl) ?_ | refine LM.rd (om_load 2 Try.isAgg3 rfl rfl rfl) ?_ | refine LM.rd (om_load 3 Try.isAgg3 rfl rfl rfl) ?_ | refine LM.rd (om_load 4 Try.isAgg3 rfl rfl rfl) ?_ | refine LM.rd (om_load 5 Try.isAgg3 rfl rfl rfl) ?_ | refine LM.rd (om_load 6 Try.isAgg3 rfl rfl rfl) ?_ | refine LM.rd (om_load 7 Try.isAgg3 rfl rfl rfl) ?_ | refine LM.rd (om_load 8 Try.isAgg3 rfl rfl rfl) ?_
    refine LM.val (ov_add64 rfl rfl (by omega)) ?_
    refine LM.val (ov_nilCheck rfl) ?_
    refine LM.val (ov_field Try.underlying86 rfl Try.sizeOf3 rfl (k := 2) rfl rfl) ?_
    first | refine LM.store 0 Try.sizeOf3 rfl rfl rfl rfl (by first | decide | (simp; done) | (simp; omega)) rfl (fun _ => ⟨_, List.mem_cons_self .., rfl⟩) ?_ | refine LM.store 1 Try.sizeOf3 rfl rfl rfl rfl (by first | decide | (simp; done) | (simp; omega)) rfl (fun _ => ⟨_, List.mem_cons_self .., rfl⟩) ?_ | refine LM.store 2 Try.sizeOf3 rfl rfl rfl rfl (by first | decide | (simp; done) | (simp; omega)) rfl (fun _ => ⟨_, List.mem_cons_self .., rfl⟩) ?_ | refine LM.store 3 Try.sizeOf3 rfl rfl rfl rfl (by first | decide | (simp; done) | (simp; omega)) rfl (fun _ => ⟨_, List.mem_cons_self .., rfl⟩) ?_ | refine LM.store 4 Try.sizeOf3 rfl rfl rfl rfl (by first | decide | (simp; done) | (simp; omega)) rfl (fun _ => ⟨_, List.mem_cons_self .., rfl⟩) ?_ | refine LM.store 5 Try.sizeOf3 rfl rfl rfl rfl (by first | decide | (simp; done) | (simp; omega)) rfl (fun _ => ⟨_, List.mem_cons_self .., rfl⟩) ?_ | refine LM.store 6 Try.sizeOf3 rfl rfl rfl rfl (by first | decide | (simp; done) | (simp; omega)) rfl (fun _ => ⟨_, List.mem_cons_self .., rfl⟩) ?_ | refine LM.store 7 Try.sizeOf3 rfl rfl rfl rfl (by first | decide | (simp; done) | (simp; omega)) rfl (fun _ => ⟨_, List.mem_cons_self .., rfl⟩) ?_ | refine LM.store 8 Try.sizeOf3 rfl rfl rfl rfl (by first | decide | (simp; done) | (simp; omega)) rfl (fun _ => ⟨_, List.mem_cons_self .., rfl⟩) ?_
    refine LM.nil ?_
    refine QM.sub (e' := [(0, _)]) ⟨rfl, trivial⟩ ?_
    refine QM.then ?_
    refine wpM.seq ?_
    refine wpM.region ?_
    refine LM.val (ov_move rfl) ?_
    refine LM.val (ov_nilCheck rfl) ?_
    refine LM.val (ov_field Try.underlying86 rfl Try.sizeOf3 rfl (k := 2) rfl rfl) ?_
    first | refine LM.rd (om_load 0 Try.isAgg3 rfl rfl rfl) ?_ | refine LM.rd (om_load 1 Try.isAgg3 rfl rfl rfl) ?_ | refine LM.rd (om_load 2 Try.isAgg3 rfl rfl rfl) ?_ | refine LM.rd (om_load 3 Try.isAgg3 rfl rfl rfl) ?_ | refine LM.rd (om_load 4 Try.isAgg3 rfl rfl rfl) ?_ | refine LM.rd (om_load 5 Try.isAgg3 rfl rfl rfl) ?_ | refine LM.rd (om_load 6 Try.isAgg3 rfl rfl rfl) ?_ | refine LM.rd (om_load 7 Try.isAgg3 rfl rfl rfl) ?_ | refine LM.rd (om_load 8 Try.isAgg3 rfl rfl rfl) ?_
    refine LM.val (ov_sub64 rfl rfl (by omega)) ?_
    refine LM.val (ov_assign rfl) ?_
    refine LM.nil ?_
    refine QM.sub (e' := [(4, _)]) ⟨rfl, trivial⟩ ?_
    refine QM.then ?_
    refine wpM.ret ?_
    refine QM.leave (.inl rfl) [.tmp 4] Try.results21 rfl ?_
    intro w' hm' hc' hg'
    -- leaf 1: h1+
    refine ⟨hc', (br, .cells #[.slice ad' (ss ++ [a]).length cap2, .int .i64 (most : Int), .int .i64 ((xs.length : Int) + 1)] 86 (0, 0)) :: m', ⟨by simp only [resV]; congr 1; omega, br, _, m', ss ++ [a], hbr, rfl, by simp, hsl', hri.grow (by omega) a⟩, hm', fun p hp => ?_⟩
    rcases List.mem_cons.1 hp with rfl | hp
    exact .inr ⟨_, List.mem_cons_self .., rfl⟩
    rcases hge p hp with h | ⟨q, hq, hqp⟩
    exact .inl h
    exact .inr ⟨q, List.mem_cons_of_mem _ hq, hqp⟩
  ·
    refine wpM.draw [(0, 0), (1, 0), (2, 0), (3, 1), (4, 0), (5, 0), (6, 0), (7, 1), (8, 0), (9, 0), (10, 0), (11, 1), (12, 0), (13, 0), (14, 0), (15, 3)] (by kernel_rfl) (by kernel_rfl) ?_
    refine LD.val rfl rfl (ov_move rfl) ?_
    refine LD.val rfl rfl (ov_nilCheck rfl) ?_
    refine LD.val rfl rfl (ov_field Try.underlying86 rfl Try.sizeOf26 rfl (k := 0) rfl rfl) ?_
    first | refine LD.rd rfl rfl (om_load 0 Try.isAgg26 rfl rfl rfl) ?_ | refine LD.rd rfl rfl (om_load 1 Try.isAgg26 rfl rfl rfl) ?_ | refine LD.rd rfl rfl (om_load 2 Try.isAgg26 rfl rfl rfl) ?_ | refine LD.rd rfl rfl (om_load 3 Try.isAgg26 rfl rfl rfl) ?_ | refine LD.rd rfl rfl (om_load 4 Try.isAgg26 rfl rfl rfl) ?_ | refine LD.rd rfl rfl (om_load 5 Try.isAgg26 rfl rfl rfl) ?_ | refine LD.rd rfl rfl (om_load 6 Try.isAgg26 rfl rfl rfl) ?_ | refine LD.rd rfl rfl (om_load 7 Try.isAgg26 rfl rfl rfl) ?_ | refine LD.rd rfl rfl (om_load 8 Try.isAgg26 rfl rfl rfl) ?_
    refine LD.val rfl rfl (ov_move rfl) ?_
    refine LD.val rfl rfl (ov_nilCheck rfl) ?_
    refine LD.val rfl rfl (ov_field Try.underlying86 rfl Try.sizeOf3 rfl (k := 2) rfl rfl) ?_
    first | refine LD.rd rfl rfl (om_load 0 Try.isAgg3 rfl rfl rfl) ?_ | refine LD.rd rfl rfl (om_load 1 Try.isAgg3 rfl rfl rfl) ?_ | refine LD.rd rfl rfl (om_load 2 Try.isAgg3 rfl rfl rfl) ?_ | refine LD.rd rfl rfl (om_load 3 Try.isAgg3 rfl rfl rfl) ?_ | refine LD.rd rfl rfl (om_load 4 Try.isAgg3 rfl rfl rfl) ?_ | refine LD.rd rfl rfl (om_load 5 Try.isAgg3 rfl rfl rfl) ?_ | refine LD.rd rfl rfl (om_load 6 Try.isAgg3 rfl rfl rfl) ?_ | refine LD.rd rfl rfl (om_load 7 Try.isAgg3 rfl rfl rfl) ?_ | refine LD.rd rfl rfl (om_load 8 Try.isAgg3 rfl rfl rfl) ?_
    refine LD.val rfl rfl (ov_move rfl) ?_
    refine LD.val rfl rfl (ov_nilCheck rfl) ?_
    refine LD.val rfl rfl (ov_field Try.underlying86 rfl Try.sizeOf3 rfl (k := 1) rfl rfl) ?_
    first | refine LD.rd rfl rfl (om_load 0 Try.isAgg3 rfl rfl rfl) ?_ | refine LD.rd rfl rfl (om_load 1 Try.isAgg3 rfl rfl rfl) ?_ | refine LD.rd rfl rfl (om_load 2 Try.isAgg3 rfl rfl rfl) ?_ | refine LD.rd rfl rfl (om_load 3 Try.isAgg3 rfl rfl rfl) ?_ | refine LD.rd rfl rfl (om_load 4 Try.isAgg3 rfl rfl rfl) ?_ | refine LD.rd rfl rfl (om_load 5 Try.isAgg3 rfl rfl rfl) ?_ | refine LD.rd rfl rfl (om_load 6 Try.isAgg3 rfl rfl rfl) ?_ | refine LD.rd rfl rfl (om_load 7 Try.isAgg3 rfl rfl rfl) ?_ | refine LD.rd rfl rfl (om_load 8 Try.isAgg3 rfl rfl rfl) ?_
    have hmz : (0 : Int) < (most : Int) := (by omega)
    refine LD.val rfl rfl (ov_rem64 rfl rfl (by omega) (by omega)) ?_
    refine LD.val rfl rfl (ov_move rfl) ?_
    obtain ⟨b, cap', junk, hb, he, rfl, hcap, hmx, hsz⟩ := hsl.ne (by omega); simp only [Value.slice.injEq] at he; obtain ⟨rfl, -, rfl⟩ := he; have hlt : xs.length % most < ss.length := (by have := Nat.mod_lt xs.length hmo.1; omega); have hlt2 : ((xs.length : Int) % (most : Int)).toNat = xs.length % most := (by rw [← Int.natCast_emod, Int.toNat_natCast])
    first | refine LD.val rfl rfl (ov_idx10 Try.underlying26 Try.sizeOf3 rfl rfl (by omega)) ?_ | refine LD.val rfl rfl (ov_idx1 Try.underlying26 Try.sizeOf3 rfl rfl (by omega)) ?_
    refine LD.tail rfl rfl ?_
    refine LM.store1 fI_len fI_one 1 (a := a) Try.sizeOf3 rfl rfl rfl rfl (by omega) (fun _ => ⟨_, List.mem_cons_of_mem _ (List.mem_singleton.2 rfl), rfl⟩) ?_
    refine LM.nil ?_
    refine QM.qn ?_
    refine QM.sub (e' := [(0, _)]) ⟨rfl, trivial⟩ ?_
    refine QM.then ?_
    refine wpM.seq ?_
    refine wpM.region ?_
    refine LM.val (ov_move rfl) ?_
    refine LM.val (ov_nilCheck rfl) ?_
    refine LM.val (ov_field Try.underlying86 rfl Try.sizeOf3 rfl (k := 2) rfl rfl) ?_
    first | refine LM.rd (om_load 0 Try.isAgg3 rfl rfl rfl) ?_ | refine LM.rd (om_load 1 Try.isAgg3 rfl rfl rfl) ?_ | refine LM.rd (om_load 2 Try.isAgg3 rfl rfl rfl) ?_ | refine LM.rd (om_load 3 Try.isAgg3 rfl rfl rfl) ?_ | refine LM.rd (om_load 4 Try.isAgg3 rfl rfl rfl) ?_ | refine LM.rd (om_load 5 Try.isAgg3 rfl rfl rfl) ?_ | refine LM.rd (om_load 6 Try.isAgg3 rfl rfl rfl) ?_ | refine LM.rd (om_load 7 Try.isAgg3 rfl rfl rfl) ?_ | refine LM.rd (om_load 8 Try.isAgg3 rfl rfl rfl) ?_
    refine LM.val (ov_add64 rfl rfl (by omega)) ?_
    refine LM.val (ov_nilCheck rfl) ?_
    refine LM.val (ov_field Try.underlying86 rfl Try.sizeOf3 rfl (k := 2) rfl rfl) ?_
    first | refine LM.store 0 Try.sizeOf3 rfl rfl rfl rfl (by first | decide | (simp; done) | (simp; omega)) rfl (fun _ => ⟨_, List.mem_cons_self .., rfl⟩) ?_ | refine LM.store 1 Try.sizeOf3 rfl rfl rfl rfl (by first | decide | (simp; done) | (simp; omega)) rfl (fun _ => ⟨_, List.mem_cons_self .., rfl⟩) ?_ | refine LM.store 2 Try.sizeOf3 rfl rfl rfl rfl (by first | decide | (simp; done) | (simp; omega)) rfl (fun _ => ⟨_, List.mem_cons_self .., rfl⟩) ?_ | refine LM.store 3 Try.sizeOf3 rfl rfl rfl rfl (by first | decide | (simp; done) | (simp; omega)) rfl (fun _ => ⟨_, List.mem_cons_self .., rfl⟩) ?_ | refine LM.store 4 Try.sizeOf3 rfl rfl rfl rfl (by first | decide | (simp; done) | (simp; omega)) rfl (fun _ => ⟨_, List.mem_cons_self .., rfl⟩) ?_ | refine LM.store 5 Try.sizeOf3 rfl rfl rfl rfl (by first | decide | (simp; done) | (simp; omega)) rfl (fun _ => ⟨_, List.mem_cons_self .., rfl⟩) ?_ | refine LM.store 6 Try.sizeOf3 rfl rfl rfl rfl (by first | decide | (simp; done) | (simp; omega)) rfl (fun _ => ⟨_, List.mem_cons_self .., rfl⟩) ?_ | refine LM.store 7 Try.sizeOf3 rfl rfl rfl rfl (by first | decide | (simp; done) | (simp; omega)) rfl (fun _ => ⟨_, List.mem_cons_self .., rfl⟩) ?_ | refine LM.store 8 Try.sizeOf3 rfl rfl rfl rfl (by first | decide | (simp; done) | (simp; omega)) rfl (fun _ => ⟨_, List.mem_cons_self .., rfl⟩) ?_
    refine LM.nil ?_
    refine QM.sub (e' := [(0, _)]) ⟨rfl, trivial⟩ ?_
    refine QM.then ?_
    refine wpM.seq ?_
    refine wpM.region ?_
    refine LM.val (ov_move rfl) ?_
    refine LM.val (ov_nilCheck rfl) ?_
    refine LM.val (ov_field Try.underlying86 rfl Try.sizeOf3 rfl (k := 2) rfl rfl) ?_
    first | refine LM.rd (om_load 0 Try.isAgg3 rfl rfl rfl) ?_ | refine LM.rd (om_load 1 Try.isAgg3 rfl rfl rfl) ?_ | refine LM.rd (om_load 2 Try.isAgg3 rfl rfl rfl) ?_ | refine LM.rd (om_load 3 Try.isAgg3 rfl rfl rfl) ?_ | refine LM.rd (om_load 4 Try.isAgg3 rfl rfl rfl) ?_ | refine LM.rd (om_load 5 Try.isAgg3 rfl rfl rfl) ?_ | refine LM.rd (om_load 6 Try.isAgg3 rfl rfl rfl) ?_ | refine LM.rd (om_load 7 Try.isAgg3 rfl rfl rfl) ?_ | refine LM.rd (om_load 8 Try.isAgg3 rfl rfl rfl) ?_
    refine LM.val (ov_sub64 rfl rfl (by omega)) ?_
    refine LM.val (ov_assign rfl) ?_
    refine LM.nil ?_
    refine QM.sub (e' := [(4, _)]) ⟨rfl, trivial⟩ ?_
    refine QM.then ?_
    refine wpM.ret ?_
    refine QM.leave (.inl rfl) [.tmp 4] Try.results21 rfl ?_
    intro w' hm' hc' hg'
    -- leaf 2: h1-
    rw [hlt2] at hm'; refine ⟨hc', [(br, .cells #[.slice (some ⟨b, 0, none⟩) ss.length cap, .int .i64 (most : Int), .int .i64 ((xs.length : Int) + 1)] 86 (0, 0)), (b, .cells (arr fI (ss.set (xs.length % most) a) junk) 3 (0, 0))], ⟨by simp only [resV]; congr 1; omega, br, .slice (some ⟨b, 0, none⟩) ss.length cap, [(b, .cells (arr fI (ss.set (xs.length % most) a) junk) 3 (0, 0))], ss.set (xs.length % most) a, hbr, rfl, by simp, .inr ⟨b, cap, junk, hb, by rw [List.length_set], rfl, by rw [List.length_set]; exact hcap, hmx, by rw [List.length_set]; exact hsz⟩, hri.set hmo.1 (by omega) a⟩, hm', fun p hp => ?_⟩
    simp only [List.mem_cons, List.not_mem_nil, or_false] at hp
    rcases hp with rfl | rfl
    exact .inr ⟨_, List.mem_cons_self .., rfl⟩
    exact .inr ⟨_, List.mem_cons_of_mem _ (List.mem_singleton.2 rfl), rfl⟩

set_option maxRecDepth 100000 in
theorem snew_spec (most : Int) (w : World) : Ret Try.prog 49 #[.int .i64 most] w (fun v w' => Ext w w' ∧ ∃ m, RingM fS 105 9 w.heap.size (bringN most) ([] : List ByteArray) v m ∧ Mem w' m ∧ ∀ p ∈ m, w.heap.size ≤ p.1) := by
  refine Ret.enterM (l := [.int .i64 most]) Try.func49 rfl Try.ntmps49 rfl ([]) (no) (Mem.nil w) ?_
  refine wpM.seq ?_
  refine wpM.region ?_
  refine LM.val (ov_assign rfl) ?_
  refine LM.nil ?_
  refine QM.sub (e' := [(0, _)]) ⟨rfl, trivial⟩ ?_
  refine QM.then ?_
  refine wpM.seq ?_
  refine wpM.region ?_
  refine LM.val (ov_move rfl) ?_
  refine LM.val (ov_max rfl rfl) ?_
  refine LM.val (ov_min rfl rfl) ?_
  refine LM.val (ov_build (cs := #[_, _, _]) rfl (by first | rfl | kernel_rfl)) ?_
  refine LM.box rfl rfl (fun b7 hb7 => ?_)
  refine LM.val (ov_assign rfl) ?_
  refine LM.nil ?_
  refine QM.sub (e' := [(2, _)]) ⟨rfl, trivial⟩ ?_
  refine QM.then ?_
  refine wpM.ret ?_
  refine QM.leave (.inl rfl) [.tmp 2] Try.results49 rfl ?_
  intro w' hm' hc' hg'
  -- leaf 1: 
  refine ⟨hc', [(b7, .cells #[.slice none 0 0, .int .i64 (bringN most : Nat), .int .i64 ((([] : List ByteArray).length : Nat) : Int)] 105 (0, 0))], ⟨b7, _, [], [], hb7, rfl, rfl, .nil _ _ _ _, .nil _⟩, ?_, fun p hp => by rw [List.mem_singleton] at hp; subst hp; exact hb7⟩
  have h9 := bringN_if most; rw [← h9]; exact hm'

set_option maxRecDepth 100000 in
theorem sfirst_spec {most : Nat} {xs ss : List ByteArray} {br n0 : Nat} {sv : Value} {ms : Mem0} {w : World} (hM : Mem w ((br, .cells #[sv, .int .i64 (most : Int), .int .i64 (xs.length : Int)] 105 (0, 0)) :: ms)) (hsl : Sl fS 9 1 n0 ss sv ms) (hri : RI most xs ss) (hx : xs.length ≤ 1000) : Ret Try.prog 52 #[.pointer (some ⟨br, 0, none⟩)] w (fun v w' => v = .int .i64 ((xs.length - min xs.length most : Nat) : Int) ∧ Ext w w') := by
  obtain ⟨ad, cap, rfl⟩ := hsl.form; have hl := hri.1
  refine Ret.enterM (l := [.pointer (some ⟨br, 0, none⟩)]) Try.func52 rfl Try.ntmps52 rfl ((br, .cells #[.slice ad ss.length cap, .int .i64 (most : Int), .int .i64 (xs.length : Int)] 105 (0, 0)) :: ms) (no) hM ?_
  refine wpM.seq ?_
  refine wpM.region ?_
  refine LM.val (ov_assign rfl) ?_
  refine LM.nil ?_
  refine QM.sub (e' := [(0, _)]) ⟨rfl, trivial⟩ ?_
  refine QM.then ?_
  refine wpM.seq ?_
  refine wpM.seq ?_
  refine wpM.region ?_
  refine LM.val (ov_move rfl) ?_
  refine LM.val (ov_peql (by kernel_rfl) rfl rfl) ?_
  refine LM.nil ?_
  refine QM.sub (e' := [(0, _), (4, _)]) ⟨rfl, rfl, trivial⟩ ?_
  refine QM.then ?_
  refine wpM.condF rfl ?_
  refine wpM.skip ?_
  refine QM.then ?_
  refine wpM.seq ?_
  refine wpM.draw [(0, 0), (1, 0), (2, 0), (3, 1), (4, 0), (5, 0), (6, 0), (7, 1), (8, 0), (9, 0), (10, 0)] (by kernel_rfl) (by kernel_rfl) ?_
  refine LD.val rfl rfl (ov_move rfl) ?_
  refine LD.val rfl rfl (ov_nilCheck rfl) ?_
  refine LD.val rfl rfl (ov_field Try.underlying105 rfl Try.sizeOf3 rfl (k := 2) rfl rfl) ?_
  first | refine LD.rd rfl rfl (om_load 0 Try.isAgg3 rfl rfl rfl) ?_ | refine LD.rd rfl rfl (om_load 1 Try.isAgg3 rfl rfl rfl) ?_ | refine LD.rd rfl rfl (om_load 2 Try.isAgg3 rfl rfl rfl) ?_ | refine LD.rd rfl rfl (om_load 3 Try.isAgg3 rfl rfl rfl) ?_ | refine LD.rd rfl rfl (om_load 4 Try.isAgg3 rfl rfl rfl) ?_ | refine LD.rd rfl rfl (om_load 5 Try.isAgg3 rfl rfl rfl) ?_ | refine LD.rd rfl rfl (om_load 6 Try.isAgg3 rfl rfl rfl) ?_ | refine LD.rd rfl rfl (om_load 7 Try.isAgg3 rfl rfl rfl) ?_ | refine LD.rd rfl rfl (om_load 8 Try.isAgg3 rfl rfl rfl) ?_
  refine LD.val rfl rfl (ov_move rfl) ?_
  refine LD.val rfl rfl (ov_nilCheck rfl) ?_
  refine LD.val rfl rfl (ov_field Try.underlying105 rfl Try.sizeOf103 rfl (k := 0) rfl rfl) ?_
  first | refine LD.rd rfl rfl (om_load 0 Try.isAgg103 rfl rfl rfl) ?_ | refine LD.rd rfl rfl (om_load 1 Try.isAgg103 rfl rfl rfl) ?_ | refine LD.rd rfl rfl (om_load 2 Try.isAgg103 rfl rfl rfl) ?_ | refine LD.rd rfl rfl (om_load 3 Try.isAgg103 rfl rfl rfl) ?_ | refine LD.rd rfl rfl (om_load 4 Try.isAgg103 rfl rfl rfl) ?_ | refine LD.rd rfl rfl (om_load 5 Try.isAgg103 rfl rfl rfl) ?_ | refine LD.rd rfl rfl (om_load 6 Try.isAgg103 rfl rfl rfl) ?_ | refine LD.rd rfl rfl (om_load 7 Try.isAgg103 rfl rfl rfl) ?_ | refine LD.rd rfl rfl (om_load 8 Try.isAgg103 rfl rfl rfl) ?_
  refine LD.val rfl rfl (ov_len Try.underlying103 rfl) ?_
  refine LD.val rfl rfl (ov_sub64 rfl rfl (by omega)) ?_
  refine LD.val rfl rfl (ov_assign rfl) ?_
  refine LD.nil ?_
  refine QM.sub (e' := [(2, _)]) ⟨rfl, trivial⟩ ?_
  refine QM.then ?_
  refine wpM.ret ?_
  refine QM.leave (.inl rfl) [.tmp 2] Try.results52 rfl ?_
  intro w' hm' hc' hg'
  -- leaf 1: 
  exact ⟨by simp only [resV]; congr 1; omega, hc'⟩

set_option maxRecDepth 100000 in
theorem snext_spec {most : Nat} {xs : List ByteArray} {br : Nat} {sv : Value} {ms : Mem0} {w : World} (hM : Mem w ((br, .cells #[sv, .int .i64 (most : Int), .int .i64 (xs.length : Int)] 105 (0, 0)) :: ms)) : Ret Try.prog 53 #[.pointer (some ⟨br, 0, none⟩)] w (fun v w' => v = .int .i64 (xs.length : Int) ∧ Ext w w') := by
  refine Ret.enterM (l := [.pointer (some ⟨br, 0, none⟩)]) Try.func53 rfl Try.ntmps53 rfl ((br, .cells #[sv, .int .i64 (most : Int), .int .i64 (xs.length : Int)] 105 (0, 0)) :: ms) (no) hM ?_
  refine wpM.seq ?_
  refine wpM.region ?_
  refine LM.val (ov_assign rfl) ?_
  refine LM.nil ?_
  refine QM.sub (e' := [(0, _)]) ⟨rfl, trivial⟩ ?_
  refine QM.then ?_
  refine wpM.seq ?_
  refine wpM.seq ?_
  refine wpM.region ?_
  refine LM.val (ov_move rfl) ?_
  refine LM.val (ov_peql (by kernel_rfl) rfl rfl) ?_
  refine LM.nil ?_
  refine QM.sub (e' := [(0, _), (4, _)]) ⟨rfl, rfl, trivial⟩ ?_
  refine QM.then ?_
  refine wpM.condF rfl ?_
  refine wpM.skip ?_
  refine QM.then ?_
  refine wpM.seq ?_
  refine wpM.region ?_
  refine LM.val (ov_move rfl) ?_
  refine LM.val (ov_nilCheck rfl) ?_
  refine LM.val (ov_field Try.underlying105 rfl Try.sizeOf3 rfl (k := 2) rfl rfl) ?_
  first | refine LM.rd (om_load 0 Try.isAgg3 rfl rfl rfl) ?_ | refine LM.rd (om_load 1 Try.isAgg3 rfl rfl rfl) ?_ | refine LM.rd (om_load 2 Try.isAgg3 rfl rfl rfl) ?_ | refine LM.rd (om_load 3 Try.isAgg3 rfl rfl rfl) ?_ | refine LM.rd (om_load 4 Try.isAgg3 rfl rfl rfl) ?_ | refine LM.rd (om_load 5 Try.isAgg3 rfl rfl rfl) ?_ | refine LM.rd (om_load 6 Try.isAgg3 rfl rfl rfl) ?_ | refine LM.rd (om_load 7 Try.isAgg3 rfl rfl rfl) ?_ | refine LM.rd (om_load 8 Try.isAgg3 rfl rfl rfl) ?_
  refine LM.val (ov_assign rfl) ?_
  refine LM.nil ?_
  refine QM.sub (e' := [(2, _)]) ⟨rfl, trivial⟩ ?_
  refine QM.then ?_
  refine wpM.ret ?_
  refine QM.leave (.inl rfl) [.tmp 2] Try.results53 rfl ?_
  intro w' hm' hc' hg'
  -- leaf 1: 
  first | exact ⟨rfl, hc'⟩ | (exfalso; first | omega | (simp at *; done) | (simp_all; done))

set_option maxRecDepth 100000 in
theorem sget_spec {most : Nat} {xs ss : List ByteArray} {br n0 : Nat} {sv : Value} {ms : Mem0} {w : World} (n : Int) (hM : Mem w ((br, .cells #[sv, .int .i64 (most : Int), .int .i64 (xs.length : Int)] 105 (0, 0)) :: ms)) (hsl : Sl fS 9 1 n0 ss sv ms) (hri : RI most xs ss) (hx : xs.length ≤ 1000) (hmo : 0 < most) : Ret Try.prog 51 #[.pointer (some ⟨br, 0, none⟩), .int .i64 n] w (fun v w' => v = .tuple #[.string (if ((xs.length - min xs.length most : Nat) : Int) ≤ n ∧ n < xs.length then xs.getD n.toNat ⟨#[]⟩ else ⟨#[]⟩), .bool (decide (((xs.length - min xs.length most : Nat) : Int) ≤ n ∧ n < xs.length))] ∧ Ext w w') := by
  obtain ⟨ad, cap, rfl⟩ := hsl.form; have hl := hri.1
  refine Ret.enterM (l := [.pointer (some ⟨br, 0, none⟩), .int .i64 n]) Try.func51 rfl Try.ntmps51 rfl ((br, .cells #[.slice ad ss.length cap, .int .i64 (most : Int), .int .i64 (xs.length : Int)] 105 (0, 0)) :: ms) (no) hM ?_
  refine wpM.seq ?_
  refine wpM.region ?_
  refine LM.val (ov_assign rfl) ?_
  refine LM.val (ov_assign rfl) ?_
  refine LM.nil ?_
  refine QM.sub (e' := [(0, _), (1, _)]) ⟨rfl, rfl, trivial⟩ ?_
  refine QM.then ?_
  refine wpM.seq ?_
  refine wpM.seq ?_
  refine wpM.region ?_
  refine LM.val (ov_move rfl) ?_
  refine LM.val (ov_peql (by kernel_rfl) rfl rfl) ?_
  refine LM.val (ov_move rfl) ?_
  refine LM.strip (t := 9) rfl rfl rfl ?_
  refine LM.val (ov_move rfl) ?_
  refine LM.strip (t := 9) rfl rfl rfl ?_
  refine LM.val (ov_move rfl) ?_
  refine LM.strip (t := 9) rfl rfl rfl ?_
  refine LM.callE (oc_call (enters_fn Try.func52 (by kernel_rfl) rfl) rfl) (fun w hm hc hg => sfirst_spec hm hsl hri hx) ?_
  refine LM.strip (t := 9) rfl rfl rfl ?_
  refine LM.val (ov_lss rfl rfl) ?_
  refine LM.val (ov_pickF rfl rfl) ?_
  refine LM.val (ov_move rfl) ?_
  first | refine LM.splitD (t := 15) rfl (fun h1 => ?_) (fun h1 => ?_) | refine LM.splitB (t := 15) rfl (fun h1 => ?_) (fun h1 => ?_)
  ·
    refine LM.drop (t := 15) rfl rfl rfl ?_
    refine LM.drop (t := 15) rfl rfl rfl ?_
    refine LM.drop (t := 15) rfl rfl rfl ?_
    refine LM.drop (t := 15) rfl rfl rfl ?_
    refine LM.drop (t := 15) rfl rfl rfl ?_
    refine LM.drop (t := 15) rfl rfl rfl ?_
    refine LM.val (ov_pickT rfl rfl) ?_
    refine LM.nil ?_
    refine QM.sub (e' := [(0, _), (1, _), (22, _)]) ⟨rfl, rfl, rfl, trivial⟩ ?_
    refine QM.then ?_
    refine wpM.condT rfl ?_
    refine wpM.seq ?_
    refine wpM.region ?_
    refine LM.val (ov_assign rfl) ?_
    refine LM.nil ?_
    refine QM.sub (e' := [(6, _)]) ⟨rfl, trivial⟩ ?_
    refine QM.then ?_
    refine wpM.seq ?_
    refine wpM.region ?_
    refine LM.val (ov_move rfl) ?_
    refine LM.val (ov_assign rfl) ?_
    refine LM.val (ov_assign rfl) ?_
    refine LM.nil ?_
    refine QM.sub (e' := [(4, _), (5, _)]) ⟨rfl, rfl, trivial⟩ ?_
    refine QM.then ?_
    refine wpM.ret ?_
    refine QM.then_ret ?_
    refine QM.leave (.inl rfl) [.tmp 4, .tmp 5] Try.results51 rfl ?_
    intro w' hm' hc' hg'
    -- leaf 1: h1+
    exact ⟨by simp only [resV]; rw [if_neg (by omega), decide_eq_false (by omega)], hc'⟩
  ·
    refine LM.strip (t := 15) rfl rfl rfl ?_
    refine LM.val (ov_move rfl) ?_
    refine LM.strip (t := 15) rfl rfl rfl ?_
    refine LM.val (ov_move rfl) ?_
    refine LM.strip (t := 15) rfl rfl rfl ?_
    refine LM.val (ov_nilCheck rfl) ?_
    refine LM.strip (t := 15) rfl rfl rfl ?_
    refine LM.val (ov_field Try.underlying105 rfl Try.sizeOf3 rfl (k := 2) rfl rfl) ?_
    refine LM.strip (t := 15) rfl rfl rfl ?_
    first | refine LM.rd (om_load 0 Try.isAgg3 rfl rfl rfl) ?_ | refine LM.rd (om_load 1 Try.isAgg3 rfl rfl rfl) ?_ | refine LM.rd (om_load 2 Try.isAgg3 rfl rfl rfl) ?_ | refine LM.rd (om_load 3 Try.isAgg3 rfl rfl rfl) ?_ | refine LM.rd (om_load 4 Try.isAgg3 rfl rfl rfl) ?_ | refine LM.rd (om_load 5 Try.isAgg3 rfl rfl rfl) ?_ | refine LM.rd (om_load 6 Try.isAgg3 rfl rfl rfl) ?_ | refine LM.rd (om_load 7 Try.isAgg3 rfl rfl rfl) ?_ | refine LM.rd (om_load 8 Try.isAgg3 rfl rfl rfl) ?_
    refine LM.strip (t := 15) rfl rfl rfl ?_
    refine LM.val (ov_geq rfl rfl) ?_
    refine LM.val (ov_pickF rfl rfl) ?_
    refine LM.nil ?_
    refine QM.sub (e' := [(0, _), (1, _), (22, _)]) ⟨rfl, rfl, rfl, trivial⟩ ?_
    refine QM.then ?_
    first | refine wpM.condD rfl (fun h2 => ?_) (fun h2 => ?_) | refine wpM.condB rfl (fun h2 => ?_) (fun h2 => ?_)
    ·
      refine wpM.seq ?_
      refine wpM.region ?_
      refine LM.val (ov_assign rfl) ?_
      refine LM.nil ?_
      refine QM.sub (e' := [(6, _)]) ⟨rfl, trivial⟩ ?_
      refine QM.then ?_
      refine wpM.seq ?_
      refine wpM.region ?_
      refine LM.val (ov_move rfl) ?_
      refine LM.val (ov_assign rfl) ?_
      refine LM.val (ov_assign rfl) ?_
      refine LM.nil ?_
      refine QM.sub (e' := [(4, _), (5, _)]) ⟨rfl, rfl, trivial⟩ ?_
      refine QM.then ?_
      refine wpM.ret ?_
      refine QM.then_ret ?_
      refine QM.leave (.inl rfl) [.tmp 4, .tmp 5] Try.results51 rfl ?_
      intro w' hm' hc' hg'
      -- leaf 2: h1- h2+
      exact ⟨by simp only [resV]; rw [if_neg (by omega), decide_eq_false (by omega)], hc'⟩
    ·
      refine wpM.skip ?_
      refine QM.then ?_
      refine wpM.seq ?_
      refine wpM.draw [(0, 0), (1, 0), (2, 0), (3, 1), (4, 0), (5, 0), (6, 0), (7, 0), (8, 1), (9, 0), (10, 0), (11, 1), (12, 0), (13, 0)] (by kernel_rfl) (by kernel_rfl) ?_
      have hpos : 0 < ss.length := (by omega); obtain ⟨q, rfl⟩ : ∃ q : Nat, n = q := ⟨n.toNat, by omega⟩; have hlt : q % most < ss.length := (by rw [hl]; have := Nat.mod_lt q hmo; have := Nat.mod_le q most; omega)
      refine LD.val rfl rfl (ov_move rfl) ?_
      refine LD.val rfl rfl (ov_nilCheck rfl) ?_
      refine LD.val rfl rfl (ov_field Try.underlying105 rfl Try.sizeOf103 rfl (k := 0) rfl rfl) ?_
      first | refine LD.rd rfl rfl (om_load 0 Try.isAgg103 rfl rfl rfl) ?_ | refine LD.rd rfl rfl (om_load 1 Try.isAgg103 rfl rfl rfl) ?_ | refine LD.rd rfl rfl (om_load 2 Try.isAgg103 rfl rfl rfl) ?_ | refine LD.rd rfl rfl (om_load 3 Try.isAgg103 rfl rfl rfl) ?_ | refine LD.rd rfl rfl (om_load 4 Try.isAgg103 rfl rfl rfl) ?_ | refine LD.rd rfl rfl (om_load 5 Try.isAgg103 rfl rfl rfl) ?_ | refine LD.rd rfl rfl (om_load 6 Try.isAgg103 rfl rfl rfl) ?_ | refine LD.rd rfl rfl (om_load 7 Try.isAgg103 rfl rfl rfl) ?_ | refine LD.rd rfl rfl (om_load 8 Try.isAgg103 rfl rfl rfl) ?_
      refine LD.val rfl rfl (ov_move rfl) ?_
      refine LD.val rfl rfl (ov_move rfl) ?_
      refine LD.val rfl rfl (ov_nilCheck rfl) ?_
      refine LD.val rfl rfl (ov_field Try.underlying105 rfl Try.sizeOf3 rfl (k := 1) rfl rfl) ?_
      first | refine LD.rd rfl rfl (om_load 0 Try.isAgg3 rfl rfl rfl) ?_ | refine LD.rd rfl rfl (om_load 1 Try.isAgg3 rfl rfl rfl) ?_ | refine LD.rd rfl rfl (om_load 2 Try.isAgg3 rfl rfl rfl) ?_ | refine LD.rd rfl rfl (om_load 3 Try.isAgg3 rfl rfl rfl) ?_ | refine LD.rd rfl rfl (om_load 4 Try.isAgg3 rfl rfl rfl) ?_ | refine LD.rd rfl rfl (om_load 5 Try.isAgg3 rfl rfl rfl) ?_ | refine LD.rd rfl rfl (om_load 6 Try.isAgg3 rfl rfl rfl) ?_ | refine LD.rd rfl rfl (om_load 7 Try.isAgg3 rfl rfl rfl) ?_ | refine LD.rd rfl rfl (om_load 8 Try.isAgg3 rfl rfl rfl) ?_
      refine LD.val rfl rfl (ov_rem64 rfl rfl (by omega) (by omega)) ?_
      obtain ⟨b, cap', junk, hb, he, rfl, hcap, hmx, hsz⟩ := hsl.ne hpos; simp only [Value.slice.injEq] at he; obtain ⟨rfl, -, rfl⟩ := he; have hgv : ss[((q : Int) % (most : Int)).toNat]? = some (xs.getD q ⟨#[]⟩) := by rw [← Int.natCast_emod, Int.toNat_natCast, hri.get (by omega) (by omega), List.getD_eq_getElem?_getD, List.getElem?_eq_getElem (by omega)]; rfl
      first | refine LD.val rfl rfl (ov_idx10 Try.underlying103 Try.sizeOf9 rfl rfl (by omega)) ?_ | refine LD.val rfl rfl (ov_idx1 Try.underlying103 Try.sizeOf9 rfl rfl (by omega)) ?_
      refine LD.rd rfl rfl (om_load 1 Try.isAgg9 rfl rfl (arr_getS hgv)) ?_
      refine LD.val rfl rfl (ov_assign rfl) ?_
      refine LD.val rfl rfl (ov_assign rfl) ?_
      refine LD.nil ?_
      refine QM.sub (e' := [(4, _), (5, _)]) ⟨rfl, rfl, trivial⟩ ?_
      refine QM.then ?_
      refine wpM.ret ?_
      refine QM.leave (.inl rfl) [.tmp 4, .tmp 5] Try.results51 rfl ?_
      intro w' hm' hc' hg'
      -- leaf 3: h1- h2-
      exact ⟨by simp only [resV]; rw [if_pos (by omega), decide_eq_true (by omega)]; rfl, hc'⟩

set_option maxRecDepth 100000 in
theorem slost_spec {most : Nat} {xs ss : List ByteArray} {br n0 : Nat} {sv : Value} {ms : Mem0} {w : World} (n : Int) (hn : -9223372036854775808 ≤ n ∧ n ≤ 9223372036854775807) (hM : Mem w ((br, .cells #[sv, .int .i64 (most : Int), .int .i64 (xs.length : Int)] 105 (0, 0)) :: ms)) (hsl : Sl fS 9 1 n0 ss sv ms) (hri : RI most xs ss) (hx : xs.length ≤ 1000) : Ret Try.prog 54 #[.pointer (some ⟨br, 0, none⟩), .int .i64 n] w (fun v w' => v = .int .i64 (max (((xs.length - min xs.length most : Nat) : Int) - max n 0) 0) ∧ Ext w w') := by
  refine Ret.enterM (l := [.pointer (some ⟨br, 0, none⟩), .int .i64 n]) Try.func54 rfl Try.ntmps54 rfl ((br, .cells #[sv, .int .i64 (most : Int), .int .i64 (xs.length : Int)] 105 (0, 0)) :: ms) (no) hM ?_
  refine wpM.seq ?_
  refine wpM.region ?_
  refine LM.val (ov_assign rfl) ?_
  refine LM.nil ?_
  refine QM.sub (e' := [(0, _), (1, _)]) ⟨rfl, rfl, trivial⟩ ?_
  refine QM.then ?_
  refine wpM.seq ?_
  refine wpM.region ?_
  refine LM.val (ov_move rfl) ?_
  refine LM.callE (oc_call (enters_fn Try.func52 (by kernel_rfl) rfl) rfl) (fun w hm hc hg => sfirst_spec hm hsl hri hx) ?_
  refine LM.val (ov_move rfl) ?_
  refine LM.val (ov_max rfl rfl) ?_
  refine LM.val (ov_sub64 rfl rfl (by omega)) ?_
  refine LM.val (ov_max rfl rfl) ?_
  refine LM.val (ov_assign rfl) ?_
  refine LM.nil ?_
  refine QM.sub (e' := [(4, _)]) ⟨rfl, trivial⟩ ?_
  refine QM.then ?_
  refine wpM.ret ?_
  refine QM.leave (.inl rfl) [.tmp 4] Try.results54 rfl ?_
  intro w' hm' hc' hg'
  -- leaf 1: 
  exact ⟨by simp only [resV]; congr 1; split <;> omega, hc'⟩

set_option maxRecDepth 100000 in
theorem sput_spec {most : Nat} {xs ss : List ByteArray} {br n0 : Nat} {sv : Value} {ms : Mem0} {w : World} (a : ByteArray) (hM : Mem w ((br, .cells #[sv, .int .i64 (most : Int), .int .i64 (xs.length : Int)] 105 (0, 0)) :: ms)) (hsl : Sl fS 9 1 n0 ss sv ms) (hri : RI most xs ss) (hx : xs.length ≤ 1000) (hmo : 0 < most ∧ most ≤ 4096) (hbr : n0 ≤ br) (hn0 : n0 ≤ w.heap.size) : Ret Try.prog 50 #[.pointer (some ⟨br, 0, none⟩), .string a] w (Upd ((br, .cells #[sv, .int .i64 (most : Int), .int .i64 (xs.length : Int)] 105 (0, 0)) :: ms) (fun u m' => u = .int .i64 (xs.length : Int) ∧ RingM fS 105 9 n0 most (xs ++ [a]) (.pointer (some ⟨br, 0, none⟩)) m') w) := by
  obtain ⟨ad, cap, rfl⟩ := hsl.form; have hl := hri.1
  refine Ret.enterM (l := [.pointer (some ⟨br, 0, none⟩), .string a]) Try.func50 rfl Try.ntmps50 rfl ((br, .cells #[.slice ad ss.length cap, .int .i64 (most : Int), .int .i64 (xs.length : Int)] 105 (0, 0)) :: ms) ((fun b => ∃ q ∈ (br, .cells #[.slice ad ss.length cap, .int .i64 (most : Int), .int .i64 (xs.length : Int)] 105 (0, 0)) :: ms, q.1 = b)) hM ?_
  refine wpM.seq ?_
  refine wpM.region ?_
  refine LM.val (ov_assign rfl) ?_
  refine LM.nil ?_
  refine QM.sub (e' := [(0, _), (1, _)]) ⟨rfl, rfl, trivial⟩ ?_
  refine QM.then ?_
  refine wpM.seq ?_
  refine wpM.seq ?_
  refine wpM.region ?_
  refine LM.val (ov_move rfl) ?_
  refine LM.val (ov_peql (by kernel_rfl) rfl rfl) ?_
  refine LM.nil ?_
  refine QM.sub (e' := [(0, _), (1, _), (6, _)]) ⟨rfl, rfl, rfl, trivial⟩ ?_
  refine QM.then ?_
  refine wpM.condF rfl ?_
  refine wpM.skip ?_
  refine QM.then ?_
  refine wpM.seq ?_
  refine wpM.seq ?_
  refine wpM.draw [(0, 0), (1, 0), (2, 0), (3, 1), (4, 0), (5, 0), (6, 0), (7, 0), (8, 1), (9, 0)] (by kernel_rfl) (by kernel_rfl) ?_
  refine LD.val rfl rfl (ov_move rfl) ?_
  refine LD.val rfl rfl (ov_nilCheck rfl) ?_
  refine LD.val rfl rfl (ov_field Try.underlying105 rfl Try.sizeOf103 rfl (k := 0) rfl rfl) ?_
  first | refine LD.rd rfl rfl (om_load 0 Try.isAgg103 rfl rfl rfl) ?_ | refine LD.rd rfl rfl (om_load 1 Try.isAgg103 rfl rfl rfl) ?_ | refine LD.rd rfl rfl (om_load 2 Try.isAgg103 rfl rfl rfl) ?_ | refine LD.rd rfl rfl (om_load 3 Try.isAgg103 rfl rfl rfl) ?_ | refine LD.rd rfl rfl (om_load 4 Try.isAgg103 rfl rfl rfl) ?_ | refine LD.rd rfl rfl (om_load 5 Try.isAgg103 rfl rfl rfl) ?_ | refine LD.rd rfl rfl (om_load 6 Try.isAgg103 rfl rfl rfl) ?_ | refine LD.rd rfl rfl (om_load 7 Try.isAgg103 rfl rfl rfl) ?_ | refine LD.rd rfl rfl (om_load 8 Try.isAgg103 rfl rfl rfl) ?_
  refine LD.val rfl rfl (ov_len Try.underlying103 rfl) ?_
  refine LD.val rfl rfl (ov_move rfl) ?_
  refine LD.val rfl rfl (ov_nilCheck rfl) ?_
  refine LD.val rfl rfl (ov_field Try.underlying105 rfl Try.sizeOf3 rfl (k := 1) rfl rfl) ?_
  first | refine LD.rd rfl rfl (om_load 0 Try.isAgg3 rfl rfl rfl) ?_ | refine LD.rd rfl rfl (om_load 1 Try.isAgg3 rfl rfl rfl) ?_ | refine LD.rd rfl rfl (om_load 2 Try.isAgg3 rfl rfl rfl) ?_ | refine LD.rd rfl rfl (om_load 3 Try.isAgg3 rfl rfl rfl) ?_ | refine LD.rd rfl rfl (om_load 4 Try.isAgg3 rfl rfl rfl) ?_ | refine LD.rd rfl rfl (om_load 5 Try.isAgg3 rfl rfl rfl) ?_ | refine LD.rd rfl rfl (om_load 6 Try.isAgg3 rfl rfl rfl) ?_ | refine LD.rd rfl rfl (om_load 7 Try.isAgg3 rfl rfl rfl) ?_ | refine LD.rd rfl rfl (om_load 8 Try.isAgg3 rfl rfl rfl) ?_
  refine LD.val rfl rfl (ov_lss rfl rfl) ?_
  refine LD.nil ?_
  refine QM.sub (e' := [(0, _), (1, _), (16, _)]) ⟨rfl, rfl, rfl, trivial⟩ ?_
  refine QM.then ?_
  first | refine wpM.condD rfl (fun h1 => ?_) (fun h1 => ?_) | refine wpM.condB rfl (fun h1 => ?_) (fun h1 => ?_)
  ·
    refine wpM.region ?_
    refine LM.val (ov_move rfl) ?_
    refine LM.val (ov_move rfl) ?_
    refine LM.val (ov_nilCheck rfl) ?_
    refine LM.val (ov_field Try.underlying105 rfl Try.sizeOf103 rfl (k := 0) rfl rfl) ?_
    first | refine LM.rd (om_load 0 Try.isAgg103 rfl rfl rfl) ?_ | refine LM.rd (om_load 1 Try.isAgg103 rfl rfl rfl) ?_ | refine LM.rd (om_load 2 Try.isAgg103 rfl rfl rfl) ?_ | refine LM.rd (om_load 3 Try.isAgg103 rfl rfl rfl) ?_ | refine LM.rd (om_load 4 Try.isAgg103 rfl rfl rfl) ?_ | refine LM.rd (om_load 5 Try.isAgg103 rfl rfl rfl) ?_ | refine LM.rd (om_load 6 Try.isAgg103 rfl rfl rfl) ?_ | refine LM.rd (om_load 7 Try.isAgg103 rfl rfl rfl) ?_ | refine LM.rd (om_load 8 Try.isAgg103 rfl rfl rfl) ?_
    refine LM.val (ov_move rfl) ?_
    refine LM.single Try.underlying103 Try.sizeOf9 Try.zeroValue9 rfl rfl rfl rfl rfl (fun b23 hb23 => ?_)
    refine LM.mem (M' := (b23, _) :: (ms ++ [(br, _)])) (fun w hm => hm.perm (.cons _ (List.perm_append_singleton _ _).symm)) ?_; refine LM.appendU (m := ms) (M2 := [(br, _)]) (f := fS) (a := a) Try.underlying103 Try.typeInfo9 rfl rfl rfl rfl rfl rfl rfl hn0 (fun p hp _ => ⟨p, List.mem_cons_of_mem _ hp, rfl⟩) hsl ⟨_, _, rfl⟩ fS_len fS_one (by unfold maxLen; omega) (by simp only [Try.t9]; omega) (fun v' m' hsl' hge => ?_); obtain ⟨ad', cap2, rfl⟩ := hsl'.form; refine LM.mem (M' := (br, _) :: m') (fun w hm => hm.perm (List.perm_append_singleton _ _)) ?_
    refine LM.val (ov_nilCheck rfl) ?_
    refine LM.val (ov_field Try.underlying105 rfl Try.sizeOf103 rfl (k := 0) rfl rfl) ?_
    first | refine LM.store 0 Try.sizeOf103 rfl rfl rfl rfl (by first | decide | (simp; done) | (simp; omega)) rfl (fun _ => ⟨_, List.mem_cons_self .., rfl⟩) ?_ | refine LM.store 1 Try.sizeOf103 rfl rfl rfl rfl (by first | decide | (simp; done) | (simp; omega)) rfl (fun _ => ⟨_, List.mem_cons_self .., rfl⟩) ?_ | refine LM.store 2 Try.sizeOf103 rfl rfl rfl rfl (by first | decide | (simp; done) | (simp; omega)) rfl (fun _ => ⟨_, List.mem_cons_self .., rfl⟩) ?_ | refine LM.store 3 Try.sizeOf103 rfl rfl rfl rfl (by first | decide | (simp; done) | (simp; omega)) rfl (fun _ => ⟨_, List.mem_cons_self .., rfl⟩) ?_ | refine LM.store 4 Try.sizeOf103 rfl rfl rfl rfl (by first | decide | (simp; done) | (simp; omega)) rfl (fun _ => ⟨_, List.mem_cons_self .., rfl⟩) ?_ | refine LM.store 5 Try.sizeOf103 rfl rfl rfl rfl (by first | decide | (simp; done) | (simp; omega)) rfl (fun _ => ⟨_, List.mem_cons_self .., rfl⟩) ?_ | refine LM.store 6 Try.sizeOf103 rfl rfl rfl rfl (by first | decide | (simp; done) | (simp; omega)) rfl (fun _ => ⟨_, List.mem_cons_self .., rfl⟩) ?_ | refine LM.store 7 Try.sizeOf103 rfl rfl rfl rfl (by first | decide | (simp; done) | (simp; omega)) rfl (fun _ => ⟨_, List.mem_cons_self .., rfl⟩) ?_ | refine LM.store 8 Try.sizeOf103 rfl rfl rfl rfl (by first | decide | (simp; done) | (simp; omega)) rfl (fun _ => ⟨_, List.mem_cons_self .., rfl⟩) ?_
    refine LM.nil ?_
    refine QM.sub (e' := [(0, _)]) ⟨rfl, trivial⟩ ?_
    refine QM.then ?_
    refine wpM.seq ?_
    refine wpM.region ?_
    refine LM.val (ov_move rfl) ?_
    refine LM.val (ov_nilCheck rfl) ?_
    refine LM.val (ov_field Try.underlying105 rfl Try.sizeOf3 rfl (k := 2) rfl rfl) ?_
    first | refine LM.rd (om_load 0 Try.isAgg3 rfl rfl rfl) ?_ | refine LM.rd (om_load 1 Try.isAgg3 rfl rfl rfl) ?_ | refine LM.rd (om_load 2 Try.isAgg3 rfl rfl rfl) ?_ | refine LM.rd (om_load 3 Try.isAgg3 rfl rfl rfl) ?_ | refine LM.rd (om_load 4 Try.isAgg3 rfl rfl rfl) ?_ | refine LM.rd (om_load 5 Try.isAgg3 rfl rfl rfl) ?_ | refine LM.rd (om_load 6 Try.isAgg3 rfl rfl rfl) ?_ | refine LM.rd (om_load 7 Try.isAgg3 rfl rfl rfl) ?_ | refine LM.rd (om_load 8 Try.isAgg3 rfl rfl rfl) ?_
    refine LM.val (ov_add64 rfl rfl (by omega)) ?_
    refine LM.val (ov_nilCheck rfl) ?_
    refine LM.val (ov_field Try.underlying105 rfl Try.sizeOf3 rfl (k := 2) rfl rfl) ?_
    first | refine LM.store 0 Try.sizeOf3 rfl rfl rfl rfl (by first | decide | (simp; done) | (simp; omega)) rfl (fun _ => ⟨_, List.mem_cons_self .., rfl⟩) ?_ | refine LM.store 1 Try.sizeOf3 rfl rfl rfl rfl (by first | decide | (simp; done) | (simp; omega)) rfl (fun _ => ⟨_, List.mem_cons_self .., rfl⟩) ?_ | refine LM.store 2 Try.sizeOf3 rfl rfl rfl rfl (by first | decide | (simp; done) | (simp; omega)) rfl (fun _ => ⟨_, List.mem_cons_self .., rfl⟩) ?_ | refine LM.store 3 Try.sizeOf3 rfl rfl rfl rfl (by first | decide | (simp; done) | (simp; omega)) rfl (fun _ => ⟨_, List.mem_cons_self .., rfl⟩) ?_ | refine LM.store 4 Try.sizeOf3 rfl rfl rfl rfl (by first | decide | (simp; done) | (simp; omega)) rfl (fun _ => ⟨_, List.mem_cons_self .., rfl⟩) ?_ | refine LM.store 5 Try.sizeOf3 rfl rfl rfl rfl (by first | decide | (simp; done) | (simp; omega)) rfl (fun _ => ⟨_, List.mem_cons_self .., rfl⟩) ?_ | refine LM.store 6 Try.sizeOf3 rfl rfl rfl rfl (by first | decide | (simp; done) | (simp; omega)) rfl (fun _ => ⟨_, List.mem_cons_self .., rfl⟩) ?_ | refine LM.store 7 Try.sizeOf3 rfl rfl rfl rfl (by first | decide | (simp; done) | (simp; omega)) rfl (fun _ => ⟨_, List.mem_cons_self .., rfl⟩) ?_ | refine LM.store 8 Try.sizeOf3 rfl rfl rfl rfl (by first | decide | (simp; done) | (simp; omega)) rfl (fun _ => ⟨_, List.mem_cons_self .., rfl⟩) ?_
    refine LM.nil ?_
    refine QM.sub (e' := [(0, _)]) ⟨rfl, trivial⟩ ?_
    refine QM.then ?_
    refine wpM.seq ?_
    refine wpM.region ?_
    refine LM.val (ov_move rfl) ?_
    refine LM.val (ov_nilCheck rfl) ?_
    refine LM.val (ov_field Try.underlying105 rfl Try.sizeOf3 rfl (k := 2) rfl rfl) ?_
    first | refine LM.rd (om_load 0 Try.isAgg3 rfl rfl rfl) ?_ | refine LM.rd (om_load 1 Try.isAgg3 rfl rfl rfl) ?_ | refine LM.rd (om_load 2 Try.isAgg3 rfl rfl rfl) ?_ | refine LM.rd (om_load 3 Try.isAgg3 rfl rfl rfl) ?_ | refine LM.rd (om_load 4 Try.isAgg3 rfl rfl rfl) ?_ | refine LM.rd (om_load 5 Try.isAgg3 rfl rfl rfl) ?_ | refine LM.rd (om_load 6 Try.isAgg3 rfl rfl rfl) ?_ | refine LM.rd (om_load 7 Try.isAgg3 rfl rfl rfl) ?_ | refine LM.rd (om_load 8 Try.isAgg3 rfl rfl rfl) ?_
    refine LM.val (ov_sub64 rfl rfl (by omega)) ?_
    refine LM.val (ov_assign rfl) ?_
    refine LM.nil ?_
    refine QM.sub (e' := [(4, _)]) ⟨rfl, trivial⟩ ?_
    refine QM.then ?_
    refine wpM.ret ?_
    refine QM.leave (.inl rfl) [.tmp 4] Try.results50 rfl ?_
    intro w' hm' hc' hg'
    -- leaf 1: h1+
    refine ⟨hc', (br, .cells #[.slice ad' (ss ++ [a]).length cap2, .int .i64 (most : Int), .int .i64 ((xs.length : Int) + 1)] 105 (0, 0)) :: m', ⟨by simp only [resV]; congr 1; omega, br, _, m', ss ++ [a], hbr, rfl, by simp, hsl', hri.grow (by omega) a⟩, hm', fun p hp => ?_⟩
    rcases List.mem_cons.1 hp with rfl | hp
    exact .inr ⟨_, List.mem_cons_self .., rfl⟩
    rcases hge p hp with h | ⟨q, hq, hqp⟩
    exact .inl h
    exact .inr ⟨q, List.mem_cons_of_mem _ hq, hqp⟩
  ·
    refine wpM.draw [(0, 0), (1, 0), (2, 0), (3, 1), (4, 0), (5, 0), (6, 0), (7, 1), (8, 0), (9, 0), (10, 0), (11, 1), (12, 0), (13, 0), (14, 0), (15, 3)] (by kernel_rfl) (by kernel_rfl) ?_
    refine LD.val rfl rfl (ov_move rfl) ?_
    refine LD.val rfl rfl (ov_nilCheck rfl) ?_
    refine LD.val rfl rfl (ov_field Try.underlying105 rfl Try.sizeOf103 rfl (k := 0) rfl rfl) ?_
    first | refine LD.rd rfl rfl (om_load 0 Try.isAgg103 rfl rfl rfl) ?_ | refine LD.rd rfl rfl (om_load 1 Try.isAgg103 rfl rfl rfl) ?_ | refine LD.rd rfl rfl (om_load 2 Try.isAgg103 rfl rfl rfl) ?_ | refine LD.rd rfl rfl (om_load 3 Try.isAgg103 rfl rfl rfl) ?_ | refine LD.rd rfl rfl (om_load 4 Try.isAgg103 rfl rfl rfl) ?_ | refine LD.rd rfl rfl (om_load 5 Try.isAgg103 rfl rfl rfl) ?_ | refine LD.rd rfl rfl (om_load 6 Try.isAgg103 rfl rfl rfl) ?_ | refine LD.rd rfl rfl (om_load 7 Try.isAgg103 rfl rfl rfl) ?_ | refine LD.rd rfl rfl (om_load 8 Try.isAgg103 rfl rfl rfl) ?_
    refine LD.val rfl rfl (ov_move rfl) ?_
    refine LD.val rfl rfl (ov_nilCheck rfl) ?_
    refine LD.val rfl rfl (ov_field Try.underlying105 rfl Try.sizeOf3 rfl (k := 2) rfl rfl) ?_
    first | refine LD.rd rfl rfl (om_load 0 Try.isAgg3 rfl rfl rfl) ?_ | refine LD.rd rfl rfl (om_load 1 Try.isAgg3 rfl rfl rfl) ?_ | refine LD.rd rfl rfl (om_load 2 Try.isAgg3 rfl rfl rfl) ?_ | refine LD.rd rfl rfl (om_load 3 Try.isAgg3 rfl rfl rfl) ?_ | refine LD.rd rfl rfl (om_load 4 Try.isAgg3 rfl rfl rfl) ?_ | refine LD.rd rfl rfl (om_load 5 Try.isAgg3 rfl rfl rfl) ?_ | refine LD.rd rfl rfl (om_load 6 Try.isAgg3 rfl rfl rfl) ?_ | refine LD.rd rfl rfl (om_load 7 Try.isAgg3 rfl rfl rfl) ?_ | refine LD.rd rfl rfl (om_load 8 Try.isAgg3 rfl rfl rfl) ?_
    refine LD.val rfl rfl (ov_move rfl) ?_
    refine LD.val rfl rfl (ov_nilCheck rfl) ?_
    refine LD.val rfl rfl (ov_field Try.underlying105 rfl Try.sizeOf3 rfl (k := 1) rfl rfl) ?_
    first | refine LD.rd rfl rfl (om_load 0 Try.isAgg3 rfl rfl rfl) ?_ | refine LD.rd rfl rfl (om_load 1 Try.isAgg3 rfl rfl rfl) ?_ | refine LD.rd rfl rfl (om_load 2 Try.isAgg3 rfl rfl rfl) ?_ | refine LD.rd rfl rfl (om_load 3 Try.isAgg3 rfl rfl rfl) ?_ | refine LD.rd rfl rfl (om_load 4 Try.isAgg3 rfl rfl rfl) ?_ | refine LD.rd rfl rfl (om_load 5 Try.isAgg3 rfl rfl rfl) ?_ | refine LD.rd rfl rfl (om_load 6 Try.isAgg3 rfl rfl rfl) ?_ | refine LD.rd rfl rfl (om_load 7 Try.isAgg3 rfl rfl rfl) ?_ | refine LD.rd rfl rfl (om_load 8 Try.isAgg3 rfl rfl rfl) ?_
    have hmz : (0 : Int) < (most : Int) := (by omega)
    refine LD.val rfl rfl (ov_rem64 rfl rfl (by omega) (by omega)) ?_
    refine LD.val rfl rfl (ov_move rfl) ?_
    obtain ⟨b, cap', junk, hb, he, rfl, hcap, hmx, hsz⟩ := hsl.ne (by omega); simp only [Value.slice.injEq] at he; obtain ⟨rfl, -, rfl⟩ := he; have hlt : xs.length % most < ss.length := (by have := Nat.mod_lt xs.length hmo.1; omega); have hlt2 : ((xs.length : Int) % (most : Int)).toNat = xs.length % most := (by rw [← Int.natCast_emod, Int.toNat_natCast])
    first | refine LD.val rfl rfl (ov_idx10 Try.underlying103 Try.sizeOf9 rfl rfl (by omega)) ?_ | refine LD.val rfl rfl (ov_idx1 Try.underlying103 Try.sizeOf9 rfl rfl (by omega)) ?_
    refine LD.tail rfl rfl ?_
    refine LM.store1 fS_len fS_one 1 (a := a) Try.sizeOf9 rfl rfl rfl rfl (by omega) (fun _ => ⟨_, List.mem_cons_of_mem _ (List.mem_singleton.2 rfl), rfl⟩) ?_
    refine LM.nil ?_
    refine QM.qn ?_
    refine QM.sub (e' := [(0, _)]) ⟨rfl, trivial⟩ ?_
    refine QM.then ?_
    refine wpM.seq ?_
    refine wpM.region ?_
    refine LM.val (ov_move rfl) ?_
    refine LM.val (ov_nilCheck rfl) ?_
    refine LM.val (ov_field Try.underlying105 rfl Try.sizeOf3 rfl (k := 2) rfl rfl) ?_
    first | refine LM.rd (om_load 0 Try.isAgg3 rfl rfl rfl) ?_ | refine LM.rd (om_load 1 Try.isAgg3 rfl rfl rfl) ?_ | refine LM.rd (om_load 2 Try.isAgg3 rfl rfl rfl) ?_ | refine LM.rd (om_load 3 Try.isAgg3 rfl rfl rfl) ?_ | refine LM.rd (om_load 4 Try.isAgg3 rfl rfl rfl) ?_ | refine LM.rd (om_load 5 Try.isAgg3 rfl rfl rfl) ?_ | refine LM.rd (om_load 6 Try.isAgg3 rfl rfl rfl) ?_ | refine LM.rd (om_load 7 Try.isAgg3 rfl rfl rfl) ?_ | refine LM.rd (om_load 8 Try.isAgg3 rfl rfl rfl) ?_
    refine LM.val (ov_add64 rfl rfl (by omega)) ?_
    refine LM.val (ov_nilCheck rfl) ?_
    refine LM.val (ov_field Try.underlying105 rfl Try.sizeOf3 rfl (k := 2) rfl rfl) ?_
    first | refine LM.store 0 Try.sizeOf3 rfl rfl rfl rfl (by first | decide | (simp; done) | (simp; omega)) rfl (fun _ => ⟨_, List.mem_cons_self .., rfl⟩) ?_ | refine LM.store 1 Try.sizeOf3 rfl rfl rfl rfl (by first | decide | (simp; done) | (simp; omega)) rfl (fun _ => ⟨_, List.mem_cons_self .., rfl⟩) ?_ | refine LM.store 2 Try.sizeOf3 rfl rfl rfl rfl (by first | decide | (simp; done) | (simp; omega)) rfl (fun _ => ⟨_, List.mem_cons_self .., rfl⟩) ?_ | refine LM.store 3 Try.sizeOf3 rfl rfl rfl rfl (by first | decide | (simp; done) | (simp; omega)) rfl (fun _ => ⟨_, List.mem_cons_self .., rfl⟩) ?_ | refine LM.store 4 Try.sizeOf3 rfl rfl rfl rfl (by first | decide | (simp; done) | (simp; omega)) rfl (fun _ => ⟨_, List.mem_cons_self .., rfl⟩) ?_ | refine LM.store 5 Try.sizeOf3 rfl rfl rfl rfl (by first | decide | (simp; done) | (simp; omega)) rfl (fun _ => ⟨_, List.mem_cons_self .., rfl⟩) ?_ | refine LM.store 6 Try.sizeOf3 rfl rfl rfl rfl (by first | decide | (simp; done) | (simp; omega)) rfl (fun _ => ⟨_, List.mem_cons_self .., rfl⟩) ?_ | refine LM.store 7 Try.sizeOf3 rfl rfl rfl rfl (by first | decide | (simp; done) | (simp; omega)) rfl (fun _ => ⟨_, List.mem_cons_self .., rfl⟩) ?_ | refine LM.store 8 Try.sizeOf3 rfl rfl rfl rfl (by first | decide | (simp; done) | (simp; omega)) rfl (fun _ => ⟨_, List.mem_cons_self .., rfl⟩) ?_
    refine LM.nil ?_
    refine QM.sub (e' := [(0, _)]) ⟨rfl, trivial⟩ ?_
    refine QM.then ?_
    refine wpM.seq ?_
    refine wpM.region ?_
    refine LM.val (ov_move rfl) ?_
    refine LM.val (ov_nilCheck rfl) ?_
    refine LM.val (ov_field Try.underlying105 rfl Try.sizeOf3 rfl (k := 2) rfl rfl) ?_
    first | refine LM.rd (om_load 0 Try.isAgg3 rfl rfl rfl) ?_ | refine LM.rd (om_load 1 Try.isAgg3 rfl rfl rfl) ?_ | refine LM.rd (om_load 2 Try.isAgg3 rfl rfl rfl) ?_ | refine LM.rd (om_load 3 Try.isAgg3 rfl rfl rfl) ?_ | refine LM.rd (om_load 4 Try.isAgg3 rfl rfl rfl) ?_ | refine LM.rd (om_load 5 Try.isAgg3 rfl rfl rfl) ?_ | refine LM.rd (om_load 6 Try.isAgg3 rfl rfl rfl) ?_ | refine LM.rd (om_load 7 Try.isAgg3 rfl rfl rfl) ?_ | refine LM.rd (om_load 8 Try.isAgg3 rfl rfl rfl) ?_
    refine LM.val (ov_sub64 rfl rfl (by omega)) ?_
    refine LM.val (ov_assign rfl) ?_
    refine LM.nil ?_
    refine QM.sub (e' := [(4, _)]) ⟨rfl, trivial⟩ ?_
    refine QM.then ?_
    refine wpM.ret ?_
    refine QM.leave (.inl rfl) [.tmp 4] Try.results50 rfl ?_
    intro w' hm' hc' hg'
    -- leaf 2: h1-
    rw [hlt2] at hm'; refine ⟨hc', [(br, .cells #[.slice (some ⟨b, 0, none⟩) ss.length cap, .int .i64 (most : Int), .int .i64 ((xs.length : Int) + 1)] 105 (0, 0)), (b, .cells (arr fS (ss.set (xs.length % most) a) junk) 9 (0, 0))], ⟨by simp only [resV]; congr 1; omega, br, .slice (some ⟨b, 0, none⟩) ss.length cap, [(b, .cells (arr fS (ss.set (xs.length % most) a) junk) 9 (0, 0))], ss.set (xs.length % most) a, hbr, rfl, by simp, .inr ⟨b, cap, junk, hb, by rw [List.length_set], rfl, by rw [List.length_set]; exact hcap, hmx, by rw [List.length_set]; exact hsz⟩, hri.set hmo.1 (by omega) a⟩, hm', fun p hp => ?_⟩
    simp only [List.mem_cons, List.not_mem_nil, or_false] at hp
    rcases hp with rfl | rfl
    exact .inr ⟨_, List.mem_cons_self .., rfl⟩
    exact .inr ⟨_, List.mem_cons_of_mem _ (List.mem_singleton.2 rfl), rfl⟩

end Go.Eng

