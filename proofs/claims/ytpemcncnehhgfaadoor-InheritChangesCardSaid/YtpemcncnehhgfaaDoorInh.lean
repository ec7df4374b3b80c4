/- The walks of what a task weighs with all that wait for it. No condition. -/
import Derived.Test.YtpemcncnehhgfaaDoorGraph8
import Derived.Test.YtpemcncnehhgfaaDoorInhLaw
set_option linter.unusedVariables false
set_option linter.unusedSimpArgs false
namespace Go.Eng
open Go Go.Proofs Go.RowKit

abbrev slI (b : Nat) (ad : Option Addr) (n cap : Nat) : Nat × Obj := (b, .cells #[.slice ad n cap] 22 (0, 0))
def ofI (own : List Int) (G : Gr) (who : Int) : Int := if 0 ≤ who ∧ who.toNat < min own.length 64 then ofW own G who.toNat else 0
theorem ofI_nat {own : List Int} {G : Gr} {i : Nat} (h : i < min own.length 64) : ofI own G (i : Nat) = ofW own G i := by unfold ofI; rw [if_pos (by simp only [Int.toNat_natCast]; omega), Int.toNat_natCast]
def NewG (G : Gr) (n0 : Nat) (v : Value) (m : Mem0) : Prop := ∃ b, v = .pointer (some ⟨b, 0, none⟩) ∧ m = [gB b G] ∧ n0 ≤ b
theorem NewG.mono {G : Gr} : ∀ (k k' : Nat) u m, k' ≤ k → NewG G k u m → NewG G k' u m := fun k k' u m h ⟨b, h1, h2, h3⟩ => ⟨b, h1, h2, by omega⟩
theorem copy_at {G : Gr} {i : Nat} (b : Nat) (hG : G.length = 64) (hA : Acy G) (hi : i < 64) (w : World) (hT : Tab w) (hb0 : 0 < b) (hM : Mem w [gB b (cpN G i)]) :
    Ret Tryd.prog 28 #[.pointer (some ⟨b, 0, none⟩), .int .i64 (i : Nat), U (ot G i)] w (WrP b (.int .i64 0) (gO (cpN G (i + 1))) w) := by
  have h := wait_spec b (cpN G i) (i : Nat) (ot G i) w (cpN_len hG (by omega)) hT hb0 hM
  rwa [(cp_wait hG hA hi).1, (cp_wait hG hA hi).2] at h
set_option maxRecDepth 100000 in
theorem weight_spec {own : List Int} {ad : Option Addr} {n cap : Nat} (i : Nat) (w : World) (hn : n = own.length) (hl : Sr fI 1 own (.slice ad n cap) w) : Ret Tryd.prog 64 #[.slice ad n cap, .int .i64 (i : Nat)] w (fun v w' => v = .int .i64 (wt own i) ∧ Ext w w') := by
  refine Ret.enterM (l := [.slice ad n cap, .int .i64 (i : Nat)]) Tryd.func64 rfl Tryd.ntmps64 rfl ([]) (no) (Mem.nil w) ?_
  refine wpM.seq ?_
  refine wpM.region ?_
  refine LM.val (ov_assign rfl) ?_
  refine LM.nil ?_
  refine QM.sub (e' := [(0, _), (1, _)]) ⟨rfl, rfl, trivial⟩ ?_
  refine QM.then ?_
  refine wpM.seq ?_
  refine wpM.seq ?_
  refine wpM.region ?_
  refine LM.val (ov_move rfl) ?_
  refine LM.val (ov_lss rfl rfl) ?_
  refine LM.val (ov_move rfl) ?_
  first | refine LM.splitD (t := 7) rfl (fun h1 => ?_) (fun h1 => ?_) | refine LM.splitB (t := 7) rfl (fun h1 => ?_) (fun h1 => ?_)
  ·
    refine LM.drop (t := 7) rfl rfl rfl ?_
    refine LM.drop (t := 7) rfl rfl rfl ?_
    refine LM.drop (t := 7) rfl rfl rfl ?_
    refine LM.drop (t := 7) rfl rfl rfl ?_
    refine LM.drop (t := 7) rfl rfl rfl ?_
    refine LM.val (ov_pickT rfl rfl) ?_
    refine LM.nil ?_
    refine QM.sub (e' := [(0, _), (1, _), (13, _)]) ⟨rfl, rfl, rfl, trivial⟩ ?_
    refine QM.then ?_
    refine wpM.condT rfl ?_
    refine wpM.seq ?_
    refine wpM.region ?_
    refine LM.val (ov_assign rfl) ?_
    refine LM.nil ?_
    refine QM.sub (e' := [(4, _)]) ⟨rfl, trivial⟩ ?_
    refine QM.then ?_
    refine wpM.ret ?_
    refine QM.then_ret ?_
    refine QM.leave (.inl rfl) [.tmp 4] Tryd.results64 rfl ?_
    intro w' hm' hc' hg'
    -- leaf 1: h1+
    first | exact ⟨rfl, hc'⟩ | (exfalso; first | omega | (simp at *; done) | (simp_all; done))
  ·
    refine LM.strip (t := 7) rfl rfl rfl ?_
    refine LM.val (ov_move rfl) ?_
    refine LM.strip (t := 7) rfl rfl rfl ?_
    refine LM.val (ov_move rfl) ?_
    refine LM.strip (t := 7) rfl rfl rfl ?_
    refine LM.val (ov_len Tryd.underlying22 rfl) ?_
    refine LM.strip (t := 7) rfl rfl rfl ?_
    refine LM.val (ov_min rfl rfl) ?_
    refine LM.strip (t := 7) rfl rfl rfl ?_
    refine LM.val (ov_geq rfl rfl) ?_
    refine LM.val (ov_pickF rfl rfl) ?_
    refine LM.nil ?_
    refine QM.sub (e' := [(0, _), (1, _), (13, _)]) ⟨rfl, rfl, rfl, trivial⟩ ?_
    refine QM.then ?_
    first | refine wpM.condD rfl (fun h2 => ?_) (fun h2 => ?_) | refine wpM.condB rfl (fun h2 => ?_) (fun h2 => ?_)
    ·
      refine wpM.seq ?_
      refine wpM.region ?_
      refine LM.val (ov_assign rfl) ?_
      refine LM.nil ?_
      refine QM.sub (e' := [(4, _)]) ⟨rfl, trivial⟩ ?_
      refine QM.then ?_
      refine wpM.ret ?_
      refine QM.then_ret ?_
      refine QM.leave (.inl rfl) [.tmp 4] Tryd.results64 rfl ?_
      intro w' hm' hc' hg'
      -- leaf 2: h1- h2+
      refine ⟨?_, hc'⟩; simp only [resV]; rw [wt_off (by omega)]
    ·
      refine wpM.skip ?_
      refine QM.then ?_
      refine wpM.seq ?_
      refine wpM.region ?_
      refine LM.val (ov_move rfl) ?_
      refine LM.val (ov_move rfl) ?_
      first | refine LM.val (ov_idxSN (by first | exact Sr.spt (by assumption) | exact Sl.spt (by assumption)) Tryd.underlying22 Tryd.sizeOf3 rfl rfl (by omega)) ?_ | refine LM.val (ov_idxS (by first | exact Sr.spt (by assumption) | exact Sl.spt (by assumption)) Tryd.underlying22 Tryd.sizeOf3 rfl rfl (by omega)) ?_ | refine LM.val (ov_idx1 Tryd.underlying22 Tryd.sizeOf3 rfl rfl (by omega)) ?_
      first | refine LM.rd (om_sl1 (by assumption) (by intro _; rfl) Tryd.isAgg3 rfl rfl (by exact getq 0 (by first | omega | (simp only [List.length_set, List.length_append, List.length_cons, List.length_nil]; omega))) (by rfl)) ?_ | refine LM.rdC (om_sr1 (by assumption) Tryd.isAgg3 rfl rfl (by exact getq 0 (by first | omega | (simp only [List.length_set, List.length_append, List.length_cons, List.length_nil]; omega))) (by rfl) id) ?_ | refine LM.rd (om_ld Tryd.isAgg3 rfl rfl) ?_
      refine LM.val (ov_max rfl rfl) ?_
      refine LM.val (ov_min rfl rfl) ?_
      refine LM.val (ov_assign rfl) ?_
      refine LM.nil ?_
      refine QM.sub (e' := [(4, _)]) ⟨rfl, trivial⟩ ?_
      refine QM.then ?_
      refine wpM.ret ?_
      refine QM.leave (.inl rfl) [.tmp 4] Tryd.results64 rfl ?_
      intro w' hm' hc' hg'
      -- leaf 3: h1- h2-
      refine ⟨?_, hc'⟩; simp only [resV]; have hw : wt own i = min (max (own.getD i 0) 0) 16 := (by unfold wt; exact if_pos (by omega)); rw [hw]; congr 1; (repeat' split) <;> omega

set_option maxRecDepth 100000 in
theorem bring15 (x lo hi : Int) (w : World) (h : lo ≤ hi) : Ret Tryd.prog 63 #[.int .i64 x, .int .i64 lo, .int .i64 hi] w (fun v w' => v = .int .i64 (min (max x lo) hi) ∧ Ext w w') := by
  refine Ret.enterM (l := [.int .i64 x, .int .i64 lo, .int .i64 hi]) Tryd.func63 rfl Tryd.ntmps63 rfl ([]) (no) (Mem.nil w) ?_
  refine wpM.seq ?_
  refine wpM.region ?_
  refine LM.val (ov_assign rfl) ?_
  refine LM.nil ?_
  refine QM.sub (e' := [(0, _), (1, _), (2, _)]) ⟨rfl, rfl, rfl, trivial⟩ ?_
  refine QM.then ?_
  refine wpM.seq ?_
  refine wpM.seq ?_
  refine wpM.region ?_
  refine LM.val (ov_move rfl) ?_
  refine LM.val (ov_move rfl) ?_
  refine LM.val (ov_lss rfl rfl) ?_
  refine LM.nil ?_
  refine QM.sub (e' := [(0, _), (1, _), (2, _), (9, _)]) ⟨rfl, rfl, rfl, rfl, trivial⟩ ?_
  refine QM.then ?_
  first | refine wpM.condD rfl (fun h1 => ?_) (fun h1 => ?_) | refine wpM.condB rfl (fun h1 => ?_) (fun h1 => ?_)
  ·
    refine wpM.seq ?_
    refine wpM.region ?_
    refine LM.val (ov_move rfl) ?_
    refine LM.val (ov_assign rfl) ?_
    refine LM.nil ?_
    refine QM.sub (e' := [(6, _)]) ⟨rfl, trivial⟩ ?_
    refine QM.then ?_
    refine wpM.ret ?_
    refine QM.then_ret ?_
    refine QM.leave (.inl rfl) [.tmp 6] Tryd.results63 rfl ?_
    intro w' hm' hc' hg'
    -- leaf 1: h1+
    refine ⟨?_, hc'⟩; simp only [resV]; congr 1; omega
  ·
    refine wpM.skip ?_
    refine QM.then ?_
    refine wpM.seq ?_
    refine wpM.seq ?_
    refine wpM.region ?_
    refine LM.val (ov_move rfl) ?_
    refine LM.val (ov_move rfl) ?_
    refine LM.val (ov_gtr rfl rfl) ?_
    refine LM.nil ?_
    refine QM.sub (e' := [(0, _), (2, _), (13, _)]) ⟨rfl, rfl, rfl, trivial⟩ ?_
    refine QM.then ?_
    first | refine wpM.condD rfl (fun h2 => ?_) (fun h2 => ?_) | refine wpM.condB rfl (fun h2 => ?_) (fun h2 => ?_)
    ·
      refine wpM.seq ?_
      refine wpM.region ?_
      refine LM.val (ov_move rfl) ?_
      refine LM.val (ov_assign rfl) ?_
      refine LM.nil ?_
      refine QM.sub (e' := [(6, _)]) ⟨rfl, trivial⟩ ?_
      refine QM.then ?_
      refine wpM.ret ?_
      refine QM.then_ret ?_
      refine QM.leave (.inl rfl) [.tmp 6] Tryd.results63 rfl ?_
      intro w' hm' hc' hg'
      -- leaf 2: h1- h2+
      refine ⟨?_, hc'⟩; simp only [resV]; congr 1; omega
    ·
      refine wpM.skip ?_
      refine QM.then ?_
      refine wpM.seq ?_
      refine wpM.region ?_
      refine LM.val (ov_move rfl) ?_
      refine LM.val (ov_assign rfl) ?_
      refine LM.nil ?_
      refine QM.sub (e' := [(6, _)]) ⟨rfl, trivial⟩ ?_
      refine QM.then ?_
      refine wpM.ret ?_
      refine QM.leave (.inl rfl) [.tmp 6] Tryd.results63 rfl ?_
      intro w' hm' hc' hg'
      -- leaf 3: h1- h2-
      refine ⟨?_, hc'⟩; simp only [resV]; congr 1; omega

set_option maxRecDepth 100000 in
theorem ints_true {l k : List Int} {ad ad2 : Option Addr} {n cap n2 cap2 : Nat} (w : World) (he : l = k) (hn : n = l.length) (hl : Sr fI 1 l (.slice ad n cap) w) (hn2 : n2 = k.length) (hl2 : Sr fI 1 k (.slice ad2 n2 cap2) w) (hx : l.length ≤ 1000000000000) : Ret Tryd.prog 37 #[.slice ad n cap, .slice ad2 n2 cap2] w (fun v w' => v = .bool true ∧ Ext w w') := by
  subst he
  refine Ret.enterM (l := [.slice ad n cap, .slice ad2 n2 cap2]) Tryd.func37 rfl Tryd.ntmps37 rfl ([]) (no) (Mem.nil w) ?_
  refine wpM.seq ?_
  refine wpM.region ?_
  refine LM.val (ov_assign rfl) ?_
  refine LM.nil ?_
  refine QM.sub (e' := [(0, _), (1, _)]) ⟨rfl, rfl, trivial⟩ ?_
  refine QM.then ?_
  refine wpM.seq ?_
  refine wpM.seq ?_
  refine wpM.region ?_
  refine LM.val (ov_move rfl) ?_
  refine LM.val (ov_len Tryd.underlying22 rfl) ?_
  refine LM.val (ov_move rfl) ?_
  refine LM.val (ov_len Tryd.underlying22 rfl) ?_
  refine LM.val (ov_neq rfl rfl) ?_
  refine LM.nil ?_
  refine QM.sub (e' := [(0, _), (1, _), (10, _)]) ⟨rfl, rfl, rfl, trivial⟩ ?_
  refine QM.then ?_
  first | refine wpM.condD rfl (fun h1 => ?_) (fun h1 => ?_) | refine wpM.condB rfl (fun h1 => ?_) (fun h1 => ?_)
  ·
    refine wpM.seq ?_
    refine wpM.region ?_
    refine LM.val (ov_assign rfl) ?_
    refine LM.nil ?_
    refine QM.sub (e' := [(4, _)]) ⟨rfl, trivial⟩ ?_
    refine QM.then ?_
    refine wpM.ret ?_
    refine QM.then_ret ?_
    refine QM.leave (.inl rfl) [.tmp 4] Tryd.results37 rfl ?_
    intro w' hm' hc' hg'
    -- leaf 1: h1+
    first | exact ⟨rfl, hc'⟩ | (exfalso; first | omega | (simp at *; done) | (simp_all; done))
  ·
    refine wpM.skip ?_
    refine QM.then ?_
    refine wpM.seq ?_
    refine wpM.seq ?_
    refine wpM.region ?_
    refine LM.val (ov_move rfl) ?_
    refine LM.val (ov_len Tryd.underlying22 rfl) ?_
    refine LM.val (ov_move rfl) ?_
    refine LM.nil ?_
    refine QM.sub (e' := [(0, _), (1, _), (12, _), (13, _)]) ⟨rfl, rfl, rfl, rfl, trivial⟩ ?_
    refine QM.then ?_
    refine wpM.block ?_
    refine wpM.loopK0 (α := Nat) (fun i => [(13, .int .i64 (i : Nat))]) [(0, _), (1, _), (12, _)] (fun i => []) (fun i => i ≤ l.length) (fun i => l.length - i) (0) ⟨(by first | rfl | exact lk rfl (by congr 1; omega) | exact lk rfl (by simp)), rfl, rfl, rfl, trivial⟩ (by (repeat' (first | exact SubM.nil _ | refine SubM.cons rfl ?_ | refine SubM.app ?_))) (Nat.zero_le _) ?_
    rintro i hi
    change wpM _ _ _ _ _ _ _ ([]) _ _ _
    refine wpM.seq ?_
    refine wpM.region ?_
    refine LM.val (ov_lss rfl rfl) ?_
    refine LM.nil ?_
    refine QM.sub (e' := [(0, _), (1, _), (12, _), (13, _), (14, _)]) ⟨rfl, rfl, rfl, rfl, rfl, trivial⟩ ?_
    refine QM.then ?_
    refine wpM.seq ?_
    first | refine wpM.condD rfl (fun h2 => ?_) (fun h2 => ?_) | refine wpM.condB rfl (fun h2 => ?_) (fun h2 => ?_)
    ·
      refine wpM.skip ?_
      refine QM.then ?_
      refine wpM.seq ?_
      refine wpM.block ?_
      refine wpM.seq ?_
      refine wpM.region ?_
      refine LM.val (ov_move rfl) ?_
      refine LM.val (ov_assign rfl) ?_
      refine LM.nil ?_
      refine QM.sub (e' := [(0, _), (1, _), (5, _), (12, _), (13, _)]) ⟨rfl, rfl, rfl, rfl, rfl, trivial⟩ ?_
      refine QM.then ?_
      refine wpM.seq ?_
      refine wpM.draw [(0, 0), (1, 0), (2, 0), (3, 1), (4, 0), (5, 0), (6, 0), (7, 1), (8, 0)] (by kernel_rfl) (by kernel_rfl) ?_
      refine LD.val rfl rfl (ov_move rfl) ?_
      refine LD.val rfl rfl (ov_move rfl) ?_
      first | refine LD.val rfl rfl (ov_idxSN (by first | exact Sr.spt (by assumption) | exact Sl.spt (by assumption)) Tryd.underlying22 Tryd.sizeOf3 rfl rfl (by omega)) ?_ | refine LD.val rfl rfl (ov_idxS (by first | exact Sr.spt (by assumption) | exact Sl.spt (by assumption)) Tryd.underlying22 Tryd.sizeOf3 rfl rfl (by omega)) ?_ | refine LD.val rfl rfl (ov_idx1 Tryd.underlying22 Tryd.sizeOf3 rfl rfl (by omega)) ?_
      first | refine LD.rd rfl rfl (om_sl1 (by assumption) (by intro _; rfl) Tryd.isAgg3 rfl rfl (by exact getq 0 (by first | omega | (simp only [List.length_set, List.length_append, List.length_cons, List.length_nil]; omega))) (by rfl)) ?_ | refine LD.rdC rfl rfl (om_sr1 (by assumption) Tryd.isAgg3 rfl rfl (by exact getq 0 (by first | omega | (simp only [List.length_set, List.length_append, List.length_cons, List.length_nil]; omega))) (by rfl) id) ?_ | refine LD.rd rfl rfl (om_ld Tryd.isAgg3 rfl rfl) ?_
      refine LD.val rfl rfl (ov_move rfl) ?_
      refine LD.val rfl rfl (ov_move rfl) ?_
      first | refine LD.val rfl rfl (ov_idxSN (by first | exact Sr.spt (by assumption) | exact Sl.spt (by assumption)) Tryd.underlying22 Tryd.sizeOf3 rfl rfl (by omega)) ?_ | refine LD.val rfl rfl (ov_idxS (by first | exact Sr.spt (by assumption) | exact Sl.spt (by assumption)) Tryd.underlying22 Tryd.sizeOf3 rfl rfl (by omega)) ?_ | refine LD.val rfl rfl (ov_idx1 Tryd.underlying22 Tryd.sizeOf3 rfl rfl (by omega)) ?_
      first | refine LD.rd rfl rfl (om_sl1 (by assumption) (by intro _; rfl) Tryd.isAgg3 rfl rfl (by exact getq 0 (by first | omega | (simp only [List.length_set, List.length_append, List.length_cons, List.length_nil]; omega))) (by rfl)) ?_ | refine LD.rdC rfl rfl (om_sr1 (by assumption) Tryd.isAgg3 rfl rfl (by exact getq 0 (by first | omega | (simp only [List.length_set, List.length_append, List.length_cons, List.length_nil]; omega))) (by rfl) id) ?_ | refine LD.rd rfl rfl (om_ld Tryd.isAgg3 rfl rfl) ?_
      refine LD.val rfl rfl (ov_neq rfl rfl) ?_
      refine LD.nil ?_
      refine QM.sub (e' := [(0, _), (1, _), (12, _), (13, _), (24, _)]) ⟨rfl, rfl, rfl, rfl, rfl, trivial⟩ ?_
      refine QM.then ?_
      first | refine wpM.condD rfl (fun h3 => ?_) (fun h3 => ?_) | refine wpM.condB rfl (fun h3 => ?_) (fun h3 => ?_)
      ·
        refine wpM.seq ?_
        refine wpM.region ?_
        refine LM.val (ov_assign rfl) ?_
        refine LM.nil ?_
        refine QM.sub (e' := [(4, _)]) ⟨rfl, trivial⟩ ?_
        refine QM.then ?_
        refine wpM.ret ?_
        refine QM.block_ret ?_
        refine QM.then_ret ?_
        refine QM.then_ret ?_
        refine QM.block_ret ?_
        refine QM.then_ret ?_
        refine QM.leave (.inl rfl) [.tmp 4] Tryd.results37 rfl ?_
        intro w' hm' hc' hg'
        -- leaf 2: h1- h2+ h3+
        first | exact ⟨rfl, hc'⟩ | (exfalso; first | omega | (simp at *; done) | (simp_all; done))
      ·
        refine wpM.skip ?_
        refine QM.block_normal ?_
        refine QM.then ?_
        refine wpM.region ?_
        refine LM.val (ov_add64 rfl rfl (by omega)) ?_
        refine LM.val (ov_move rfl) ?_
        refine LM.nil ?_
        refine QM.sub (e' := [(0, _), (1, _), (12, _), (13, _)]) ⟨rfl, rfl, rfl, rfl, trivial⟩ ?_
        -- again1: h1- h2+ h3-
        refine QM.againK (i + 1) ⟨(by first | rfl | exact lk rfl (by congr 1; omega) | exact lk rfl (by simp)), rfl, rfl, rfl, trivial⟩ (by (repeat' (first | exact SubM.nil _ | refine SubM.cons rfl ?_ | refine SubM.app ?_))) (fun _ h => h) ?_ ?_
        · omega
        · first | omega | (dsimp only; omega)
    ·
      refine wpM.exit ?_
      refine QM.then_exit ?_
      refine QM.then_exit ?_
      refine QM.block_hit ?_
      refine QM.then ?_
      refine wpM.seq ?_
      refine wpM.region ?_
      refine LM.val (ov_assign rfl) ?_
      refine LM.nil ?_
      refine QM.sub (e' := [(4, _)]) ⟨rfl, trivial⟩ ?_
      refine QM.then ?_
      refine wpM.ret ?_
      refine QM.leave (.inl rfl) [.tmp 4] Tryd.results37 rfl ?_
      intro w' hm' hc' hg'
      -- leaf 3: h1- h2-
      first | exact ⟨rfl, hc'⟩ | (exfalso; first | omega | (simp at *; done) | (simp_all; done))

set_option maxRecDepth 100000 in
theorem ofw_spec {own : List Int} {ad : Option Addr} {n cap : Nat} (b : Nat) (G : Gr) (who : Int) (w : World) (hG : G.length = 64) (hT : Tab w) (hn : n = own.length) (hl : Sr fI 1 own (.slice ad n cap) w) (hM : Mem w [gB b G]) : Ret Tryd.prog 41 #[.slice ad n cap, .pointer (some ⟨b, 0, none⟩), .int .i64 who] w (fun v w' => v = .int .i64 (ofI own G who) ∧ Ext w w') := by
  refine Ret.enterM (l := [.slice ad n cap, .pointer (some ⟨b, 0, none⟩), .int .i64 who]) Tryd.func41 rfl Tryd.ntmps41 rfl ([gB b G]) (no) hM ?_
  refine wpM.seq ?_
  refine wpM.region ?_
  refine LM.box rfl rfl (fun b3 hb3 => ?_)
  refine LM.val (ov_assign rfl) ?_
  refine LM.nil ?_
  refine QM.sub (e' := [(1, _), (2, _), (3, _)]) ⟨rfl, rfl, rfl, trivial⟩ ?_
  refine QM.then ?_
  refine wpM.seq ?_
  refine wpM.seq ?_
  refine wpM.region ?_
  refine LM.val (ov_move rfl) ?_
  refine LM.val (ov_lss rfl rfl) ?_
  refine LM.val (ov_move rfl) ?_
  first | refine LM.splitD (t := 11) rfl (fun h1 => ?_) (fun h1 => ?_) | refine LM.splitB (t := 11) rfl (fun h1 => ?_) (fun h1 => ?_)
  ·
    refine LM.drop (t := 11) rfl rfl rfl ?_
    refine LM.drop (t := 11) rfl rfl rfl ?_
    refine LM.drop (t := 11) rfl rfl rfl ?_
    refine LM.drop (t := 11) rfl rfl rfl ?_
    refine LM.drop (t := 11) rfl rfl rfl ?_
    refine LM.val (ov_pickT rfl rfl) ?_
    refine LM.nil ?_
    refine QM.sub (e' := [(1, _), (2, _), (3, _), (17, _)]) ⟨rfl, rfl, rfl, rfl, trivial⟩ ?_
    refine QM.then ?_
    refine wpM.condT rfl ?_
    refine wpM.seq ?_
    refine wpM.region ?_
    refine LM.val (ov_assign rfl) ?_
    refine LM.nil ?_
    refine QM.sub (e' := [(6, _)]) ⟨rfl, trivial⟩ ?_
    refine QM.then ?_
    refine wpM.ret ?_
    refine QM.then_ret ?_
    refine QM.leave (.inl rfl) [.tmp 6] Tryd.results41 rfl ?_
    intro w' hm' hc' hg'
    -- leaf 1: h1+
    refine ⟨?_, hc'⟩; simp only [resV]; unfold ofI; rw [if_neg (by omega)]
  ·
    obtain ⟨wn, rfl⟩ : ∃ wn : Nat, who = (wn : Nat) := ⟨who.toNat, by omega⟩
    refine LM.strip (t := 11) rfl rfl rfl ?_
    refine LM.val (ov_move rfl) ?_
    refine LM.strip (t := 11) rfl rfl rfl ?_
    first | refine LM.rd (om_ld Tryd.isAgg22 rfl rfl) ?_
    refine LM.strip (t := 11) rfl rfl rfl ?_
    refine LM.val (ov_len Tryd.underlying22 rfl) ?_
    refine LM.strip (t := 11) rfl rfl rfl ?_
    refine LM.val (ov_min rfl rfl) ?_
    refine LM.strip (t := 11) rfl rfl rfl ?_
    refine LM.val (ov_geq rfl rfl) ?_
    refine LM.val (ov_pickF rfl rfl) ?_
    refine LM.nil ?_
    refine QM.sub (e' := [(1, _), (2, _), (3, _), (17, _)]) ⟨rfl, rfl, rfl, rfl, trivial⟩ ?_
    refine QM.then ?_
    first | refine wpM.condD rfl (fun h2 => ?_) (fun h2 => ?_) | refine wpM.condB rfl (fun h2 => ?_) (fun h2 => ?_)
    ·
      refine wpM.seq ?_
      refine wpM.region ?_
      refine LM.val (ov_assign rfl) ?_
      refine LM.nil ?_
      refine QM.sub (e' := [(6, _)]) ⟨rfl, trivial⟩ ?_
      refine QM.then ?_
      refine wpM.ret ?_
      refine QM.then_ret ?_
      refine QM.leave (.inl rfl) [.tmp 6] Tryd.results41 rfl ?_
      intro w' hm' hc' hg'
      -- leaf 2: h1- h2+
      refine ⟨?_, hc'⟩; simp only [resV]; unfold ofI; rw [if_neg (by omega)]
    ·
      refine wpM.skip ?_
      refine QM.then ?_
      refine wpM.seq ?_
      refine wpM.region ?_
      first | refine LM.rd (om_ld Tryd.isAgg22 rfl rfl) ?_
      refine LM.val (ov_move rfl) ?_
      refine LM.callE (oc_call (enters_fn Tryd.func64 (by kernel_rfl) rfl) rfl) (fun w hm hc hg => weight_spec _ w hn (hl.ext hc)) ?_
      refine LM.alloc Tryd.zeroValue3 rfl (fun b7 hb7 => ?_)
      refine LM.st Tryd.sizeOf3 rfl rfl rfl (by first | decide | exact Nat.le_of_ble_eq_true rfl | (simp; done) | (simp; omega)) rfl (fun hlt => absurd hlt (by omega)) ?_
      refine LM.nil ?_
      refine QM.sub (e' := [(1, _), (2, _), (3, _), (7, _)]) ⟨rfl, rfl, rfl, rfl, trivial⟩ ?_
      refine QM.then ?_
      refine wpM.seq ?_
      refine wpM.seq ?_
      refine wpM.region ?_
      refine LM.val (ov_move rfl) ?_
      refine LM.val (ov_move rfl) ?_
      refine LM.callE (oc_call (enters_fn Tryd.func30 (by kernel_rfl) rfl) rfl) (fun w hm hc hg => gbehind_spec b G _ w hG (hm.pick _)) ?_
      refine LM.callT (oc_call (enters_fn Tryd.func18 (by kernel_rfl) rfl) rfl) AllT.mono (fun w hm hc hg => all_spec _ w) ?_
      rintro u24 m24 ⟨c1, rfl, rfl, hc1⟩ -
      refine LM.nil ?_
      refine QM.sub (e' := [(3, _), (7, _), (24, _)]) ⟨rfl, rfl, rfl, trivial⟩ ?_
      refine QM.then ?_
      refine wpM.block ?_
      refine wpM.toRange (α := Int) (fun k v => uBx c1 (bhdG G (wn : Nat)) :: iB b7 v :: slI b3 ad n cap :: gB b G :: []) ((wt own wn)) (by (repeat' (first | exact SubM.nil _ | refine SubM.cons rfl ?_ | refine SubM.app ?_))) ?_
      refine wpM.range (α := Int) (β := Unit) (enters_fn Tryd.func56 (by kernel_rfl) rfl) rfl (all_seq (s := bhdG G (wn : Nat))) (fun k v => uBx c1 (bhdG G (wn : Nat)) :: iB b7 v :: slI b3 ad n cap :: gB b G :: []) (fun _ _ => top) (fun k v => k ≤ (allL (bhdG G (wn : Nat))).length ∧ v = wt own wn + sumL own ((allL (bhdG G (wn : Nat))).take k)) (fun ⟨⟩ => []) (fun _ => top) (fun c ⟨⟩ => False) (wt own wn) rfl (fun _ h => h) ⟨Nat.zero_le _, by unfold sumL; simp⟩ (by kernel_rfl) (by intro k av hav; obtain ⟨i, hi, rfl⟩ := allA_inv hav; have hlt := (List.getElem?_eq_some_iff.1 hi).1; have hal := allL_len (bhdG G (wn : Nat)); have hs1 := sumL_rng own ((allL (bhdG G (wn : Nat))).take k); rw [List.length_take] at hs1; have hw1 := wt_rng own wn; have hw2 := wt_rng own i; have hsn : sumL own ((allL (bhdG G (wn : Nat))).take (k + 1)) = sumL own ((allL (bhdG G (wn : Nat))).take k) + wt own i := (by rw [take_snoc 0 hlt, sumL_snoc, List.getD_eq_getElem?_getD, hi]; rfl); rfl) (.inl trivial) (fun k a w hm hc _ _ => ⟨SubM.mem (by (repeat' (first | exact SubM.nil _ | refine SubM.cons rfl ?_ | refine SubM.app ?_))) w hm, hT.ext hc⟩) (fun _ _ _ _ => gl_top _) (fun _ _ _ => gl_top _) (fun k x _ => mm_cons rfl (mm_cons rfl (mm_cons rfl (mm_cons rfl mm_nil)))) (fun c z _ => by ((repeat (refine mm_cons rfl ?_)); exact fun p hp => .inl (by first | exact hp | (simp at hp; done) | (simp [hp]; done) | (simp at hp ⊢; first | exact .inl hp | exact hp | (simp [hp]; done))))) ?_ ?_ ?_ ?_
      ·
        rintro k av v l D rc n1 W1 hD hll hput hrc hav ⟨hk, hv⟩
        change wpM _ _ _ _ _ _ _ ((l, Obj.loop rc) :: ([(D, Obj.deferred (some []))] ++ (uBx c1 (bhdG G (wn : Nat)) :: iB b7 v :: slI b3 ad n cap :: gB b G :: []))) _ _ _
        obtain ⟨i, hi, rfl⟩ := allA_inv hav; have hlt := (List.getElem?_eq_some_iff.1 hi).1; have hal := allL_len (bhdG G (wn : Nat)); have hs1 := sumL_rng own ((allL (bhdG G (wn : Nat))).take k); rw [List.length_take] at hs1; have hw1 := wt_rng own wn; have hw2 := wt_rng own i; have hsn : sumL own ((allL (bhdG G (wn : Nat))).take (k + 1)) = sumL own ((allL (bhdG G (wn : Nat))).take k) + wt own i := (by rw [take_snoc 0 hlt, sumL_snoc, List.getD_eq_getElem?_getD, hi]; rfl)
        refine wpM.region ?_
        refine LM.val (ov_assign rfl) ?_
        refine LM.nil ?_
        refine QM.sub (e' := [(3, _), (7, _), (8, _)]) ⟨rfl, rfl, rfl, trivial⟩ ?_
        refine QM.toBodyF (hput k v) hll ?_
        refine wpM.block ?_
        refine wpM.draw [(0, 1), (1, 1), (2, 0), (3, 2), (4, 0), (5, 3)] (by kernel_rfl) (by kernel_rfl) ?_
        first | refine LD.rd rfl rfl (om_ld Tryd.isAgg3 rfl rfl) ?_
        first | refine LD.rd rfl rfl (om_ld Tryd.isAgg22 rfl rfl) ?_
        refine LD.val rfl rfl (ov_move rfl) ?_
        refine LD.callE rfl rfl (oc_call (enters_fn Tryd.func64 (by kernel_rfl) rfl) rfl) (fun w hm hc hg => weight_spec _ w hn (hl.ext hc)) ?_
        refine LD.val rfl rfl (ov_add64 rfl rfl (by omega)) ?_
        refine LD.tail rfl rfl ?_
        refine LM.st Tryd.sizeOf3 rfl rfl rfl (by first | decide | exact Nat.le_of_ble_eq_true rfl | (simp; done) | (simp; omega)) rfl (fun hlt => absurd hlt (by omega)) ?_
        refine LM.nil ?_
        refine QM.qn ?_
        refine QM.sub (e' := []) trivial ?_
        refine QM.block_normal ?_
        -- next1: h1- h2-
        refine QM.next (_) (SubM.mem (by (repeat' (first | exact SubM.nil _ | refine SubM.cons rfl ?_ | refine SubM.app ?_)))) (fun _ h => h) ?_
        · exact ⟨by omega, by rw [hsn]; omega⟩
      ·
        rintro v D0 hD0 ⟨hk, hv⟩
        refine QM.sub (e' := [(7, _)]) ⟨rfl, trivial⟩ ?_
        refine QM.block_normal ?_
        refine QM.then ?_
        refine wpM.seq ?_
        refine wpM.region ?_
        first | refine LM.rd (om_ld Tryd.isAgg3 rfl rfl) ?_
        refine LM.val (ov_assign rfl) ?_
        refine LM.nil ?_
        refine QM.sub (e' := [(6, _)]) ⟨rfl, trivial⟩ ?_
        refine QM.then ?_
        refine wpM.ret ?_
        refine QM.leaveDF (ds := [D0]) (.inl rfl) [.tmp 6] Tryd.results41 rfl (fun D h => by simp only [List.mem_cons, List.not_mem_nil, or_false] at h; omega) ?_
        intro w' hm' hc'
        -- leaf 3: h1- h2-
        refine ⟨?_, hc'⟩; show Value.int .i64 v = _; rw [hv, allA_len, List.take_of_length_le (Nat.le_refl _), sumL_all]; unfold ofI; rw [if_pos (by simp only [Int.toNat_natCast]; omega), Int.toNat_natCast]; rfl
      ·
        rintro ⟨⟩ D0 hD0 hx
        first | exact hx.elim | cases hx.1
      ·
        rintro id ⟨⟩ D0 hD0 hx
        first | exact hx.elim | cases hx.1 | cases hx

set_option maxRecDepth 100000 in
theorem eff_spec {own : List Int} {ad : Option Addr} {n cap : Nat} (b : Nat) (G : Gr) (w : World) (hG : G.length = 64) (hT : Tab w) (hn : n = own.length) (hl : Sr fI 1 own (.slice ad n cap) w) (hx : own.length ≤ 1000000000000) (hM : Mem w [gB b G]) : Ret Tryd.prog 35 #[.slice ad n cap, .pointer (some ⟨b, 0, none⟩)] w (New fI 3 1 (effW own G) w) := by
  refine Ret.enterM (l := [.slice ad n cap, .pointer (some ⟨b, 0, none⟩)]) Tryd.func35 rfl Tryd.ntmps35 rfl ([gB b G]) (no) hM ?_
  refine wpM.seq ?_
  refine wpM.region ?_
  refine LM.val (ov_assign rfl) ?_
  refine LM.nil ?_
  refine QM.sub (e' := [(0, _), (1, _)]) ⟨rfl, rfl, trivial⟩ ?_
  refine QM.then ?_
  refine wpM.seq ?_
  refine wpM.region ?_
  refine LM.val (ov_move rfl) ?_
  refine LM.val (ov_len Tryd.underlying22 rfl) ?_
  refine LM.val (ov_min rfl rfl) ?_
  refine LM.makeS (f := fI) (a0 := 0) Tryd.underlying22 Tryd.typeInfo3 rfl rfl rfl rfl (by intro _; rfl) rfl rfl rfl (by omega) (by simp only [Tryd.t3]; omega) (by omega) (by unfold maxLen; omega) (fun ad10 n10 m10 hn10 hs10 => ?_)
  refine LM.val (ov_assign rfl) ?_
  refine LM.nil ?_
  refine QM.sub (e' := [(0, _), (1, _), (5, _)]) ⟨rfl, rfl, rfl, trivial⟩ ?_
  refine QM.then ?_
  refine wpM.seq ?_
  refine wpM.seq ?_
  refine wpM.region ?_
  refine LM.val (ov_move rfl) ?_
  refine LM.val (ov_len Tryd.underlying22 rfl) ?_
  refine LM.val (ov_move rfl) ?_
  refine LM.nil ?_
  refine QM.sub (e' := [(0, _), (1, _), (5, _), (12, _), (13, _)]) ⟨rfl, rfl, rfl, rfl, rfl, trivial⟩ ?_
  refine QM.then ?_
  refine wpM.block ?_
  refine wpM.loopK0 (α := Nat × Mem0) (fun ⟨i, m⟩ => [(13, .int .i64 (i : Nat))]) [(0, _), (1, _), (5, _), (12, _)] (fun ⟨i, m⟩ => m ++ (gB b G :: [])) (fun ⟨i, m⟩ => i ≤ n10 ∧ Sl fI 3 1 w.heap.size (fillN own G n10 i) (.slice ad10 n10 n10) m) (fun ⟨i, m⟩ => n10 - i) ((0, m10)) ⟨(by first | rfl | exact lk rfl (by congr 1; omega) | exact lk rfl (by simp)), rfl, rfl, rfl, rfl, trivial⟩ (by (repeat' (first | exact SubM.nil _ | refine SubM.cons rfl ?_ | refine SubM.app ?_))) ⟨Nat.zero_le _, by have h := hs10; unfold fillN effN; exact h⟩ ?_
  rintro ⟨i, m⟩ ⟨hi, hs⟩
  change wpM _ _ _ _ _ _ _ (m ++ (gB b G :: [])) _ _ _
  have hfl := fillN_len own G (m := n10) hi; have hr := ofW_rng own G i
  refine wpM.seq ?_
  refine wpM.region ?_
  refine LM.val (ov_lss rfl rfl) ?_
  refine LM.nil ?_
  refine QM.sub (e' := [(0, _), (1, _), (5, _), (12, _), (13, _), (14, _)]) ⟨rfl, rfl, rfl, rfl, rfl, rfl, trivial⟩ ?_
  refine QM.then ?_
  refine wpM.seq ?_
  first | refine wpM.condD rfl (fun h1 => ?_) (fun h1 => ?_) | refine wpM.condB rfl (fun h1 => ?_) (fun h1 => ?_)
  ·
    refine wpM.skip ?_
    refine QM.then ?_
    refine wpM.seq ?_
    refine wpM.block ?_
    refine wpM.seq ?_
    refine wpM.region ?_
    refine LM.val (ov_move rfl) ?_
    refine LM.val (ov_assign rfl) ?_
    refine LM.nil ?_
    refine QM.sub (e' := [(0, _), (1, _), (5, _), (6, _), (12, _), (13, _)]) ⟨rfl, rfl, rfl, rfl, rfl, rfl, trivial⟩ ?_
    refine QM.then ?_
    refine wpM.region ?_
    refine LM.val (ov_move rfl) ?_
    refine LM.val (ov_move rfl) ?_
    refine LM.val (ov_move rfl) ?_
    refine LM.val (ov_move rfl) ?_
    refine LM.val (ov_move rfl) ?_
    refine LM.callE (oc_call (enters_fn Tryd.func41 (by kernel_rfl) rfl) rfl) (fun w hm hc hg => ofw_spec b G _ w hG (hT.ext hc) hn (hl.ext hc) (hm.pick _)) ?_
    first | refine LM.val (ov_idxSN (by first | exact Sr.spt (by assumption) | exact Sl.spt (by assumption)) Tryd.underlying22 Tryd.sizeOf3 rfl rfl (by omega)) ?_ | refine LM.val (ov_idxS (by first | exact Sr.spt (by assumption) | exact Sl.spt (by assumption)) Tryd.underlying22 Tryd.sizeOf3 rfl rfl (by omega)) ?_ | refine LM.val (ov_idx1 Tryd.underlying22 Tryd.sizeOf3 rfl rfl (by omega)) ?_
    refine LM.stS _ (j := 0) (by assumption) (by intro _; rfl) Tryd.sizeOf3 rfl rfl rfl (by exact getq 0 (by first | omega | (simp only [List.length_set, List.length_append, List.length_cons, List.length_nil]; omega))) rfl (by decide) (by rfl) rfl (fun p hp hlt => absurd hlt (Nat.not_lt_of_le (Sl.ge (by assumption) p hp))) (fun ms hss hmm => ?_)
    refine LM.nil ?_
    refine QM.sub (e' := [(0, _), (1, _), (5, _), (12, _), (13, _)]) ⟨rfl, rfl, rfl, rfl, rfl, trivial⟩ ?_
    refine QM.block_normal ?_
    refine QM.then ?_
    refine wpM.region ?_
    refine LM.val (ov_add64 rfl rfl (by omega)) ?_
    refine LM.val (ov_move rfl) ?_
    refine LM.nil ?_
    refine QM.sub (e' := [(0, _), (1, _), (5, _), (12, _), (13, _)]) ⟨rfl, rfl, rfl, rfl, rfl, trivial⟩ ?_
    -- again1: h1+
    refine QM.againK (i + 1, ms) ⟨(by first | rfl | exact lk rfl (by congr 1; omega) | exact lk rfl (by simp)), rfl, rfl, rfl, rfl, trivial⟩ (by (repeat' (first | exact SubM.nil _ | refine SubM.cons rfl ?_ | refine SubM.app ?_))) (fun _ h => h) ?_ ?_
    · exact ⟨by omega, by rw [← fillN_set own G (by omega)]; rw [ofI_nat (by omega)] at hss; exact hss⟩
    · first | omega | (dsimp only; omega)
  ·
    refine wpM.exit ?_
    refine QM.then_exit ?_
    refine QM.then_exit ?_
    refine QM.block_hit ?_
    refine QM.then ?_
    refine wpM.seq ?_
    refine wpM.region ?_
    refine LM.val (ov_move rfl) ?_
    refine LM.val (ov_assign rfl) ?_
    refine LM.nil ?_
    refine QM.sub (e' := [(4, _)]) ⟨rfl, trivial⟩ ?_
    refine QM.then ?_
    refine wpM.ret ?_
    refine QM.leave (.inl rfl) [.tmp 4] Tryd.results35 rfl ?_
    intro w' hm' hc' hg'
    -- leaf 1: h1-
    have him : i = n10 := (by omega); subst him; rw [fillN_end] at hs; exact ⟨hc', m, by unfold effW; rw [show min own.length 64 = i by omega]; exact hs, hm'.pick m⟩

set_option maxRecDepth 100000 in
theorem copied_spec (b : Nat) (G : Gr) (w : World) (hG : G.length = 64) (hA : Acy G) (hT : Tab w) (hM : Mem w [gB b G]) : Ret Tryd.prog 65 #[.pointer (some ⟨b, 0, none⟩)] w (fun v w' => Ext w w' ∧ ∃ m, NewG G w.heap.size v m ∧ Mem w' m ∧ ∀ p ∈ m, w.heap.size ≤ p.1) := by
  have hpos := hT.pos
  refine Ret.enterM (l := [.pointer (some ⟨b, 0, none⟩)]) Tryd.func65 rfl Tryd.ntmps65 rfl ([gB b G]) (no) hM ?_
  refine wpM.seq ?_
  refine wpM.region ?_
  refine LM.val (ov_assign rfl) ?_
  refine LM.nil ?_
  refine QM.sub (e' := [(0, _)]) ⟨rfl, trivial⟩ ?_
  refine QM.then ?_
  refine wpM.seq ?_
  refine wpM.region ?_
  refine LM.callT (oc_call (enters_fn Tryd.func27 (by kernel_rfl) rfl) rfl) NewGT.mono (fun w hm hc hg => gnew_spec w) ?_
  rintro u5 m5 ⟨bo, rfl, rfl, hbo⟩ -
  refine LM.val (ov_assign rfl) ?_
  refine LM.nil ?_
  refine QM.sub (e' := [(0, _), (3, _)]) ⟨rfl, rfl, trivial⟩ ?_
  refine QM.then ?_
  refine wpM.seq ?_
  refine wpM.seq ?_
  refine wpM.region ?_
  refine LM.val (ov_move rfl) ?_
  refine LM.nil ?_
  refine QM.sub (e' := [(0, _), (3, _), (6, _)]) ⟨rfl, rfl, rfl, trivial⟩ ?_
  refine QM.then ?_
  refine wpM.block ?_
  refine wpM.loopK0 (α := Nat) (fun i => [(6, .int .i64 (i : Nat))]) [(0, _), (3, _)] (fun i => gB bo (cpN G i) :: gB b G :: []) (fun i => i ≤ 64) (fun i => 64 - i) (0) ⟨(by first | rfl | exact lk rfl (by congr 1; omega) | exact lk rfl (by simp)), rfl, rfl, trivial⟩ (by (repeat' (first | exact SubM.nil _ | refine SubM.cons rfl ?_ | refine SubM.app ?_))) (Nat.zero_le _) ?_
  rintro i hi
  change wpM _ _ _ _ _ _ _ (gB bo (cpN G i) :: gB b G :: []) _ _ _
  refine wpM.seq ?_
  refine wpM.region ?_
  refine LM.val (ov_lss rfl rfl) ?_
  refine LM.nil ?_
  refine QM.sub (e' := [(0, _), (3, _), (6, _), (7, _)]) ⟨rfl, rfl, rfl, rfl, trivial⟩ ?_
  refine QM.then ?_
  refine wpM.seq ?_
  first | refine wpM.condD rfl (fun h1 => ?_) (fun h1 => ?_) | refine wpM.condB rfl (fun h1 => ?_) (fun h1 => ?_)
  ·
    refine wpM.skip ?_
    refine QM.then ?_
    refine wpM.seq ?_
    refine wpM.block ?_
    refine wpM.seq ?_
    refine wpM.region ?_
    refine LM.val (ov_move rfl) ?_
    refine LM.val (ov_assign rfl) ?_
    refine LM.nil ?_
    refine QM.sub (e' := [(0, _), (3, _), (4, _), (6, _)]) ⟨rfl, rfl, rfl, rfl, trivial⟩ ?_
    refine QM.then ?_
    refine wpM.region ?_
    refine LM.val (ov_move rfl) ?_
    refine LM.val (ov_move rfl) ?_
    refine LM.val (ov_move rfl) ?_
    refine LM.val (ov_move rfl) ?_
    refine LM.callE (oc_call (enters_fn Tryd.func31 (by kernel_rfl) rfl) rfl) (fun w hm hc hg => gof_in (by omega) w hG (hm.pick _)) ?_
    refine LM.cW (oc_call (enters_fn Tryd.func28 (by kernel_rfl) rfl) rfl) (fun w hm hc hg => copy_at bo hG hA (by omega) w (hT.ext hc) (by omega) (hm.pick _)) rfl (fun hlt => absurd hlt (by omega)) ?_
    refine LM.nil ?_
    refine QM.sub (e' := [(0, _), (3, _), (6, _)]) ⟨rfl, rfl, rfl, trivial⟩ ?_
    refine QM.block_normal ?_
    refine QM.then ?_
    refine wpM.region ?_
    refine LM.val (ov_add64 rfl rfl (by omega)) ?_
    refine LM.val (ov_move rfl) ?_
    refine LM.nil ?_
    refine QM.sub (e' := [(0, _), (3, _), (6, _)]) ⟨rfl, rfl, rfl, trivial⟩ ?_
    -- again1: h1+
    refine QM.againK (i + 1) ⟨(by first | rfl | exact lk rfl (by congr 1; omega) | exact lk rfl (by simp)), rfl, rfl, trivial⟩ (by (repeat' (first | exact SubM.nil _ | refine SubM.cons rfl ?_ | refine SubM.app ?_))) (fun _ h => h) ?_ ?_
    · omega
    · first | omega | (dsimp only; omega)
  ·
    refine wpM.exit ?_
    refine QM.then_exit ?_
    refine QM.then_exit ?_
    refine QM.block_hit ?_
    refine QM.then ?_
    refine wpM.seq ?_
    refine wpM.region ?_
    refine LM.val (ov_move rfl) ?_
    refine LM.val (ov_assign rfl) ?_
    refine LM.nil ?_
    refine QM.sub (e' := [(2, _)]) ⟨rfl, trivial⟩ ?_
    refine QM.then ?_
    refine wpM.ret ?_
    refine QM.leave (.inl rfl) [.tmp 2] Tryd.results65 rfl ?_
    intro w' hm' hc' hg'
    -- leaf 1: h1-
    have hi64 : i = 64 := (by omega); subst hi64; rw [cpN_end hG] at hm'; exact ⟨hc', [gB bo G], ⟨bo, rfl, rfl, hbo⟩, hm'.pick [gB bo G], fun p hp => by rw [List.mem_singleton] at hp; subst hp; exact hbo⟩

set_option maxRecDepth 100000 in
theorem gain_spec {own : List Int} {ad : Option Addr} {n cap : Nat} (b : Nat) (G : Gr) (who : Int) (s : BitVec 64) (w : World) (hG : G.length = 64) (hA : Acy G) (hT : Tab w) (hn : n = own.length) (hl : Sr fI 1 own (.slice ad n cap) w) (hx : own.length ≤ 1000000000000) (hM : Mem w [gB b G]) : Ret Tryd.prog 42 #[.slice ad n cap, .pointer (some ⟨b, 0, none⟩), .int .i64 who, U s] w (New fI 3 1 (if wtE G who s = 0 then effW own (wtG G who s) else []) w) := by
  have hpos := hT.pos
  refine Ret.enterM (l := [.slice ad n cap, .pointer (some ⟨b, 0, none⟩), .int .i64 who, U s]) Tryd.func42 rfl Tryd.ntmps42 rfl ([gB b G]) (no) hM ?_
  refine wpM.seq ?_
  refine wpM.region ?_
  refine LM.val (ov_assign rfl) ?_
  refine LM.nil ?_
  refine QM.sub (e' := [(0, _), (1, _), (2, _), (3, _)]) ⟨rfl, rfl, rfl, rfl, trivial⟩ ?_
  refine QM.then ?_
  refine wpM.seq ?_
  refine wpM.region ?_
  refine LM.val (ov_move rfl) ?_
  refine LM.callT (oc_call (enters_fn Tryd.func65 (by kernel_rfl) rfl) rfl) NewG.mono (fun w hm hc hg => copied_spec b G w hG hA (hT.ext hc) (hm.pick _)) ?_
  rintro u11 m11 ⟨bo, rfl, rfl, hbo⟩ -
  refine LM.val (ov_assign rfl) ?_
  refine LM.nil ?_
  refine QM.sub (e' := [(0, _), (2, _), (3, _), (9, _)]) ⟨rfl, rfl, rfl, rfl, trivial⟩ ?_
  refine QM.then ?_
  refine wpM.seq ?_
  refine wpM.seq ?_
  refine wpM.region ?_
  refine LM.val (ov_move rfl) ?_
  refine LM.val (ov_move rfl) ?_
  refine LM.val (ov_move rfl) ?_
  refine LM.cW (oc_call (enters_fn Tryd.func28 (by kernel_rfl) rfl) rfl) (fun w hm hc hg => wait_spec bo G _ _ w hG (hT.ext hc) (by omega) (hm.pick _)) rfl (fun hlt => absurd hlt (by omega)) ?_
  refine LM.val (ov_neq rfl rfl) ?_
  refine LM.nil ?_
  refine QM.sub (e' := [(0, _), (9, _), (16, _)]) ⟨rfl, rfl, rfl, trivial⟩ ?_
  refine QM.then ?_
  first | refine wpM.condD rfl (fun h1 => ?_) (fun h1 => ?_) | refine wpM.condB rfl (fun h1 => ?_) (fun h1 => ?_)
  ·
    refine wpM.seq ?_
    refine wpM.region ?_
    refine LM.val (ov_assign rfl) ?_
    refine LM.nil ?_
    refine QM.sub (e' := [(8, _)]) ⟨rfl, trivial⟩ ?_
    refine QM.then ?_
    refine wpM.ret ?_
    refine QM.then_ret ?_
    refine QM.leave (.inl rfl) [.tmp 8] Tryd.results42 rfl ?_
    intro w' hm' hc' hg'
    -- leaf 1: h1+
    exact ⟨hc', [], by rw [if_neg h1]; exact .nil _ _ _ _, Mem.nil _⟩
  ·
    refine wpM.skip ?_
    refine QM.then ?_
    refine wpM.seq ?_
    refine wpM.region ?_
    refine LM.val (ov_move rfl) ?_
    refine LM.val (ov_move rfl) ?_
    refine LM.cS (oc_call (enters_fn Tryd.func35 (by kernel_rfl) rfl) rfl) (fun w hm hc hg => eff_spec bo (wtG G who s) w (wtG_len hG _ _) (hT.ext hc) hn (hl.ext hc) hx (hm.pick _)) (fun ad19 n19 cap19 m19 hn19 hs19 => ?_)
    refine LM.val (ov_assign rfl) ?_
    refine LM.nil ?_
    refine QM.sub (e' := [(8, _)]) ⟨rfl, trivial⟩ ?_
    refine QM.then ?_
    refine wpM.ret ?_
    refine QM.leave (.inl rfl) [.tmp 8] Tryd.results42 rfl ?_
    intro w' hm' hc' hg'
    -- leaf 2: h1-
    exact ⟨hc', m19, by rw [if_pos (Classical.not_not.1 h1)]; exact hn19 ▸ hs19, hm'.pick m19⟩

end Go.Eng

