/- The walks of lotteries: lending. No condition. -/
import Derived.Test.YtpemcncnehhgfaaLotIt
set_option linter.unusedVariables false
set_option linter.unusedSimpArgs false
namespace Go.Eng
open Go Go.Proofs Go.RowKit

def LendT (l : List Int) (i j n : Int) (n0 : Nat) (u : Value) (m : Mem0) : Prop := ∃ v, u = .tuple #[v, .int .i64 (lendErr l i j n)] ∧ Sl fI 3 1 n0 (lendL l i j n) v m
theorem LendT.mono {l : List Int} {i j n : Int} : ∀ (k k' : Nat) u m, k' ≤ k → LendT l i j n k u m → LendT l i j n k' u m := fun k k' u m h ⟨v, h1, h2⟩ => ⟨v, h1, h2.mono h⟩
theorem LendT.err {l : List Int} {i j n e : Int} (he : lendErr l i j n = e) (h0 : e ≠ 0) (n0 : Nat) : LendT l i j n n0 (.tuple #[.slice none 0 0, .int .i64 e]) [] :=
  ⟨_, by rw [he], by rw [lendL_nil (by rw [he]; exact h0)]; exact .nil _ _ _ _⟩

set_option maxRecDepth 100000 in
theorem there_spec (i : Int) (b : Nat) (ad : Option Addr) (len cap : Nat) (w : World) (hM : Mem w [slB b ad len cap]) : Ret Try.prog 60 #[.int .i64 i, .pointer (some ⟨b, 0, none⟩)] w (fun v w' => v = .bool (decide (0 ≤ i ∧ i < len)) ∧ Ext w w') := by
  refine Ret.enterM (l := [.int .i64 i, .pointer (some ⟨b, 0, none⟩)]) Try.func60 rfl Try.ntmps60 rfl ([slB b ad len cap]) (no) hM ?_
  refine wpM.seq ?_
  refine wpM.region ?_
  refine LM.val (ov_assign rfl) ?_
  refine LM.nil ?_
  refine QM.sub (e' := [(0, _), (1, _)]) ⟨rfl, rfl, trivial⟩ ?_
  refine QM.then ?_
  refine wpM.seq ?_
  refine wpM.region ?_
  refine LM.val (ov_move rfl) ?_
  refine LM.val (ov_geq rfl rfl) ?_
  refine LM.val (ov_move rfl) ?_
  first | refine LM.splitD (t := 6) rfl (fun h1 => ?_) (fun h1 => ?_) | refine LM.splitB (t := 6) rfl (fun h1 => ?_) (fun h1 => ?_)
  ·
    refine LM.strip (t := 6) rfl rfl rfl ?_
    refine LM.val (ov_move rfl) ?_
    refine LM.strip (t := 6) rfl rfl rfl ?_
    first | refine LM.rd (om_load 0 Try.isAgg26 rfl rfl rfl) ?_ | refine LM.rd (om_load 1 Try.isAgg26 rfl rfl rfl) ?_ | refine LM.rd (om_load 2 Try.isAgg26 rfl rfl rfl) ?_ | refine LM.rd (om_load 3 Try.isAgg26 rfl rfl rfl) ?_ | refine LM.rd (om_load 4 Try.isAgg26 rfl rfl rfl) ?_ | refine LM.rd (om_load 5 Try.isAgg26 rfl rfl rfl) ?_ | refine LM.rd (om_load 6 Try.isAgg26 rfl rfl rfl) ?_ | refine LM.rd (om_load 7 Try.isAgg26 rfl rfl rfl) ?_ | refine LM.rd (om_load 8 Try.isAgg26 rfl rfl rfl) ?_
    refine LM.strip (t := 6) rfl rfl rfl ?_
    refine LM.val (ov_len Try.underlying26 rfl) ?_
    refine LM.strip (t := 6) rfl rfl rfl ?_
    refine LM.val (ov_lss rfl rfl) ?_
    refine LM.val (ov_pickT rfl rfl) ?_
    refine LM.val (ov_assign rfl) ?_
    refine LM.nil ?_
    refine QM.sub (e' := [(3, _)]) ⟨rfl, trivial⟩ ?_
    refine QM.then ?_
    refine wpM.ret ?_
    refine QM.leave (.inl rfl) [.tmp 3] Try.results60 rfl ?_
    intro w' hm' hc' hg'
    -- leaf 1: h1+
    exact ⟨by simp only [resV]; congr 1; rw [decide_eq_decide]; omega, hc'⟩
  ·
    refine LM.drop (t := 6) rfl rfl rfl ?_
    refine LM.drop (t := 6) rfl rfl rfl ?_
    refine LM.drop (t := 6) rfl rfl rfl ?_
    refine LM.drop (t := 6) rfl rfl rfl ?_
    refine LM.val (ov_pickF rfl rfl) ?_
    refine LM.val (ov_assign rfl) ?_
    refine LM.nil ?_
    refine QM.sub (e' := [(3, _)]) ⟨rfl, trivial⟩ ?_
    refine QM.then ?_
    refine wpM.ret ?_
    refine QM.leave (.inl rfl) [.tmp 3] Try.results60 rfl ?_
    intro w' hm' hc' hg'
    -- leaf 2: h1-
    exact ⟨by simp only [resV]; rw [decide_eq_false (by omega)], hc'⟩

set_option maxRecDepth 100000 in
theorem lend_spec {xs : List Int} {ad : Option Addr} {cap : Nat} (i j n : Int) (w : World) (hl : Sr fI 1 xs (.slice ad xs.length cap) w) (hx : xs.length ≤ 1000) (hn : -9223372036854775808 ≤ n ∧ n ≤ 9223372036854775807) : Ret Try.prog 31 #[.slice ad xs.length cap, .int .i64 i, .int .i64 j, .int .i64 n] w (fun v w' => Ext w w' ∧ ∃ m, LendT (bringL xs) i j n w.heap.size v m ∧ Mem w' m ∧ ∀ p ∈ m, w.heap.size ≤ p.1) := by
  have hbl := bringL_len xs; have hri := fun q => bringL_rng (xs := xs) (i := q)
  refine Ret.enterM (l := [.slice ad xs.length cap, .int .i64 i, .int .i64 j, .int .i64 n]) Try.func31 rfl Try.ntmps31 rfl ([]) (no) (Mem.nil w) ?_
  refine wpM.seq ?_
  refine wpM.region ?_
  refine LM.val (ov_assign rfl) ?_
  refine LM.val (ov_assign rfl) ?_
  refine LM.nil ?_
  refine QM.sub (e' := [(0, _), (1, _), (2, _), (3, _)]) ⟨rfl, rfl, rfl, rfl, trivial⟩ ?_
  refine QM.then ?_
  refine wpM.seq ?_
  refine wpM.region ?_
  refine LM.val (ov_move rfl) ?_
  refine LM.callT (oc_call (enters_fn Try.func58 (by kernel_rfl) rfl) rfl) BrT.mono (fun w hm hc hg => bring_spec w (hl.ext hc)) ?_
  rintro u13 m13 ⟨v13, rfl, hsl⟩ -; obtain ⟨ad2, cap2, rfl⟩ := hsl.form
  refine LM.val (ov_move rfl) ?_
  refine LM.val (ov_extract rfl rfl) ?_
  refine LM.val (ov_extract rfl rfl) ?_
  refine LM.alloc Try.zeroValue26 rfl (fun b10 hb10 => ?_)
  first | refine LM.store 0 Try.sizeOf26 rfl rfl rfl rfl (by first | decide | (simp; done) | (simp; omega)) rfl (fun hlt => absurd hlt (by omega)) ?_ | refine LM.store 1 Try.sizeOf26 rfl rfl rfl rfl (by first | decide | (simp; done) | (simp; omega)) rfl (fun hlt => absurd hlt (by omega)) ?_ | refine LM.store 2 Try.sizeOf26 rfl rfl rfl rfl (by first | decide | (simp; done) | (simp; omega)) rfl (fun hlt => absurd hlt (by omega)) ?_ | refine LM.store 3 Try.sizeOf26 rfl rfl rfl rfl (by first | decide | (simp; done) | (simp; omega)) rfl (fun hlt => absurd hlt (by omega)) ?_ | refine LM.store 4 Try.sizeOf26 rfl rfl rfl rfl (by first | decide | (simp; done) | (simp; omega)) rfl (fun hlt => absurd hlt (by omega)) ?_ | refine LM.store 5 Try.sizeOf26 rfl rfl rfl rfl (by first | decide | (simp; done) | (simp; omega)) rfl (fun hlt => absurd hlt (by omega)) ?_ | refine LM.store 6 Try.sizeOf26 rfl rfl rfl rfl (by first | decide | (simp; done) | (simp; omega)) rfl (fun hlt => absurd hlt (by omega)) ?_ | refine LM.store 7 Try.sizeOf26 rfl rfl rfl rfl (by first | decide | (simp; done) | (simp; omega)) rfl (fun hlt => absurd hlt (by omega)) ?_ | refine LM.store 8 Try.sizeOf26 rfl rfl rfl rfl (by first | decide | (simp; done) | (simp; omega)) rfl (fun hlt => absurd hlt (by omega)) ?_
  refine LM.val (ov_assign rfl) ?_
  refine LM.nil ?_
  refine QM.sub (e' := [(1, _), (2, _), (3, _), (10, _)]) ⟨rfl, rfl, rfl, rfl, trivial⟩ ?_
  refine QM.then ?_
  refine wpM.seq ?_
  refine wpM.region ?_
  refine LM.val (ov_makeFunc rfl) ?_
  refine LM.val (ov_assign rfl) ?_
  refine LM.nil ?_
  refine QM.sub (e' := [(1, _), (2, _), (3, _), (10, _), (12, _)]) ⟨rfl, rfl, rfl, rfl, rfl, trivial⟩ ?_
  refine QM.then ?_
  refine wpM.seq ?_
  refine wpM.block ?_
  refine wpM.seq ?_
  refine wpM.region ?_
  refine LM.val (ov_move rfl) ?_
  refine LM.val (ov_move rfl) ?_
  refine LM.callE (oc_callV rfl (enters_fn Try.func60 (by kernel_rfl) rfl) rfl) (fun w hm hc hg => there_spec _ b10 ad2 (bringL xs).length cap2 w (hm.sub (.cons_cons _ (List.nil_sublist _)))) ?_
  first | refine LM.val (ov_notD rfl) ?_ | refine LM.val (ov_not rfl) ?_
  refine LM.val (ov_move rfl) ?_
  first | refine LM.splitD (t := 24) rfl (fun h1 => ?_) (fun h1 => ?_) | refine LM.splitB (t := 24) rfl (fun h1 => ?_) (fun h1 => ?_)
  ·
    refine LM.drop (t := 24) rfl rfl rfl ?_
    refine LM.drop (t := 24) rfl rfl rfl ?_
    refine LM.drop (t := 24) rfl rfl rfl ?_
    refine LM.drop (t := 24) rfl rfl rfl ?_
    refine LM.val (ov_pickT rfl rfl) ?_
    refine LM.val (ov_move rfl) ?_
    refine LM.drop (t := 30) rfl rfl rfl ?_
    refine LM.drop (t := 30) rfl rfl rfl ?_
    refine LM.drop (t := 30) rfl rfl rfl ?_
    refine LM.val (ov_pickT rfl rfl) ?_
    refine LM.val (ov_move rfl) ?_
    refine LM.drop (t := 35) rfl rfl rfl ?_
    refine LM.drop (t := 35) rfl rfl rfl ?_
    refine LM.val (ov_pickT rfl rfl) ?_
    refine LM.val (ov_assign rfl) ?_
    refine LM.nil ?_
    refine QM.sub (e' := [(1, _), (2, _), (3, _), (10, _), (19, _)]) ⟨rfl, rfl, rfl, rfl, rfl, trivial⟩ ?_
    refine QM.then ?_
    refine wpM.condT rfl ?_
    refine wpM.seq ?_
    refine wpM.region ?_
    refine LM.val (ov_assign rfl) ?_
    refine LM.val (ov_assign rfl) ?_
    refine LM.nil ?_
    refine QM.sub (e' := [(8, _), (9, _)]) ⟨rfl, rfl, trivial⟩ ?_
    refine QM.then ?_
    refine wpM.ret ?_
    refine QM.block_ret ?_
    refine QM.then_ret ?_
    refine QM.leave (.inl rfl) [.tmp 8, .tmp 9] Try.results31 rfl ?_
    intro w' hm' hc' hg'
    -- leaf 1: h1+
    first | exact ⟨hc', [], LendT.err (lendErr1 (by omega)) (by decide) _, Mem.nil _, fun p hp => by cases hp⟩ | exact ⟨hc', [], LendT.err (lendErr4 (by omega) (by omega)) (by decide) _, Mem.nil _, fun p hp => by cases hp⟩ | exact ⟨hc', [], LendT.err (lendErr2 (by omega) (by omega) (by omega)) (by decide) _, Mem.nil _, fun p hp => by cases hp⟩ | skip
    all_goals (have he0 := lendErr0 (l := bringL xs) (i := i) (j := j) (n := n) (by omega) (by omega) (by omega))
    all_goals (rw [getD_set_ne hij] at hm'; have hL : lendL (bringL xs) i j n = ((bringL xs).set i.toNat ((bringL xs).getD i.toNat 0 - n)).set j.toNat ((bringL xs).getD j.toNat 0 + n) := (by unfold lendL; rw [if_pos he0]); rw [← hL] at hm'; have hLl : (lendL (bringL xs) i j n).length = (bringL xs).length := (by rw [hL]; simp); refine ⟨hc', _, ⟨_, by simp only [resV]; rw [he0], .inr ⟨b, cap2, junk, hb, ?_, rfl, ?_, hmx, ?_⟩⟩, hm'.sub (.cons _ (List.Sublist.refl _)), fun p hp => by rw [List.mem_singleton] at hp; subst hp; exact hb⟩)
    all_goals first | (rw [hLl]; done) | (rw [hLl]; rfl) | (rw [hLl]; assumption)
  ·
    refine LM.strip (t := 24) rfl rfl rfl ?_
    refine LM.val (ov_move rfl) ?_
    refine LM.strip (t := 24) rfl rfl rfl ?_
    refine LM.val (ov_move rfl) ?_
    refine LM.strip (t := 24) rfl rfl rfl ?_
    refine LM.callE (oc_callV rfl (enters_fn Try.func60 (by kernel_rfl) rfl) rfl) (fun w hm hc hg => there_spec _ b10 ad2 (bringL xs).length cap2 w (hm.sub (.cons_cons _ (List.nil_sublist _)))) ?_
    refine LM.strip (t := 24) rfl rfl rfl ?_
    first | refine LM.val (ov_notD rfl) ?_ | refine LM.val (ov_not rfl) ?_
    refine LM.val (ov_pickF rfl rfl) ?_
    refine LM.val (ov_move rfl) ?_
    first | refine LM.splitD (t := 30) rfl (fun h2 => ?_) (fun h2 => ?_) | refine LM.splitB (t := 30) rfl (fun h2 => ?_) (fun h2 => ?_)
    ·
      refine LM.drop (t := 30) rfl rfl rfl ?_
      refine LM.drop (t := 30) rfl rfl rfl ?_
      refine LM.drop (t := 30) rfl rfl rfl ?_
      refine LM.val (ov_pickT rfl rfl) ?_
      refine LM.val (ov_move rfl) ?_
      refine LM.drop (t := 35) rfl rfl rfl ?_
      refine LM.drop (t := 35) rfl rfl rfl ?_
      refine LM.val (ov_pickT rfl rfl) ?_
      refine LM.val (ov_assign rfl) ?_
      refine LM.nil ?_
      refine QM.sub (e' := [(1, _), (2, _), (3, _), (10, _), (19, _)]) ⟨rfl, rfl, rfl, rfl, rfl, trivial⟩ ?_
      refine QM.then ?_
      refine wpM.condT rfl ?_
      refine wpM.seq ?_
      refine wpM.region ?_
      refine LM.val (ov_assign rfl) ?_
      refine LM.val (ov_assign rfl) ?_
      refine LM.nil ?_
      refine QM.sub (e' := [(8, _), (9, _)]) ⟨rfl, rfl, trivial⟩ ?_
      refine QM.then ?_
      refine wpM.ret ?_
      refine QM.block_ret ?_
      refine QM.then_ret ?_
      refine QM.leave (.inl rfl) [.tmp 8, .tmp 9] Try.results31 rfl ?_
      intro w' hm' hc' hg'
      -- leaf 2: h1- h2+
      first | exact ⟨hc', [], LendT.err (lendErr1 (by omega)) (by decide) _, Mem.nil _, fun p hp => by cases hp⟩ | exact ⟨hc', [], LendT.err (lendErr4 (by omega) (by omega)) (by decide) _, Mem.nil _, fun p hp => by cases hp⟩ | exact ⟨hc', [], LendT.err (lendErr2 (by omega) (by omega) (by omega)) (by decide) _, Mem.nil _, fun p hp => by cases hp⟩ | skip
      all_goals (have he0 := lendErr0 (l := bringL xs) (i := i) (j := j) (n := n) (by omega) (by omega) (by omega))
      all_goals (rw [getD_set_ne hij] at hm'; have hL : lendL (bringL xs) i j n = ((bringL xs).set i.toNat ((bringL xs).getD i.toNat 0 - n)).set j.toNat ((bringL xs).getD j.toNat 0 + n) := (by unfold lendL; rw [if_pos he0]); rw [← hL] at hm'; have hLl : (lendL (bringL xs) i j n).length = (bringL xs).length := (by rw [hL]; simp); refine ⟨hc', _, ⟨_, by simp only [resV]; rw [he0], .inr ⟨b, cap2, junk, hb, ?_, rfl, ?_, hmx, ?_⟩⟩, hm'.sub (.cons _ (List.Sublist.refl _)), fun p hp => by rw [List.mem_singleton] at hp; subst hp; exact hb⟩)
      all_goals first | (rw [hLl]; done) | (rw [hLl]; rfl) | (rw [hLl]; assumption)
    ·
      refine LM.strip (t := 30) rfl rfl rfl ?_
      refine LM.val (ov_move rfl) ?_
      refine LM.strip (t := 30) rfl rfl rfl ?_
      refine LM.val (ov_move rfl) ?_
      refine LM.strip (t := 30) rfl rfl rfl ?_
      refine LM.val (ov_eql rfl rfl) ?_
      refine LM.val (ov_pickF rfl rfl) ?_
      refine LM.val (ov_move rfl) ?_
      first | refine LM.splitD (t := 35) rfl (fun h3 => ?_) (fun h3 => ?_) | refine LM.splitB (t := 35) rfl (fun h3 => ?_) (fun h3 => ?_)
      ·
        refine LM.drop (t := 35) rfl rfl rfl ?_
        refine LM.drop (t := 35) rfl rfl rfl ?_
        refine LM.val (ov_pickT rfl rfl) ?_
        refine LM.val (ov_assign rfl) ?_
        refine LM.nil ?_
        refine QM.sub (e' := [(1, _), (2, _), (3, _), (10, _), (19, _)]) ⟨rfl, rfl, rfl, rfl, rfl, trivial⟩ ?_
        refine QM.then ?_
        refine wpM.condT rfl ?_
        refine wpM.seq ?_
        refine wpM.region ?_
        refine LM.val (ov_assign rfl) ?_
        refine LM.val (ov_assign rfl) ?_
        refine LM.nil ?_
        refine QM.sub (e' := [(8, _), (9, _)]) ⟨rfl, rfl, trivial⟩ ?_
        refine QM.then ?_
        refine wpM.ret ?_
        refine QM.block_ret ?_
        refine QM.then_ret ?_
        refine QM.leave (.inl rfl) [.tmp 8, .tmp 9] Try.results31 rfl ?_
        intro w' hm' hc' hg'
        -- leaf 3: h1- h2- h3+
        first | exact ⟨hc', [], LendT.err (lendErr1 (by omega)) (by decide) _, Mem.nil _, fun p hp => by cases hp⟩ | exact ⟨hc', [], LendT.err (lendErr4 (by omega) (by omega)) (by decide) _, Mem.nil _, fun p hp => by cases hp⟩ | exact ⟨hc', [], LendT.err (lendErr2 (by omega) (by omega) (by omega)) (by decide) _, Mem.nil _, fun p hp => by cases hp⟩ | skip
        all_goals (have he0 := lendErr0 (l := bringL xs) (i := i) (j := j) (n := n) (by omega) (by omega) (by omega))
        all_goals (rw [getD_set_ne hij] at hm'; have hL : lendL (bringL xs) i j n = ((bringL xs).set i.toNat ((bringL xs).getD i.toNat 0 - n)).set j.toNat ((bringL xs).getD j.toNat 0 + n) := (by unfold lendL; rw [if_pos he0]); rw [← hL] at hm'; have hLl : (lendL (bringL xs) i j n).length = (bringL xs).length := (by rw [hL]; simp); refine ⟨hc', _, ⟨_, by simp only [resV]; rw [he0], .inr ⟨b, cap2, junk, hb, ?_, rfl, ?_, hmx, ?_⟩⟩, hm'.sub (.cons _ (List.Sublist.refl _)), fun p hp => by rw [List.mem_singleton] at hp; subst hp; exact hb⟩)
        all_goals first | (rw [hLl]; done) | (rw [hLl]; rfl) | (rw [hLl]; assumption)
      ·
        refine LM.strip (t := 35) rfl rfl rfl ?_
        refine LM.val (ov_move rfl) ?_
        refine LM.strip (t := 35) rfl rfl rfl ?_
        refine LM.val (ov_lss rfl rfl) ?_
        refine LM.val (ov_pickF rfl rfl) ?_
        refine LM.val (ov_assign rfl) ?_
        refine LM.nil ?_
        refine QM.sub (e' := [(1, _), (2, _), (3, _), (10, _), (19, _)]) ⟨rfl, rfl, rfl, rfl, rfl, trivial⟩ ?_
        refine QM.then ?_
        first | refine wpM.condD rfl (fun h4 => ?_) (fun h4 => ?_) | refine wpM.condB rfl (fun h4 => ?_) (fun h4 => ?_)
        ·
          refine wpM.seq ?_
          refine wpM.region ?_
          refine LM.val (ov_assign rfl) ?_
          refine LM.val (ov_assign rfl) ?_
          refine LM.nil ?_
          refine QM.sub (e' := [(8, _), (9, _)]) ⟨rfl, rfl, trivial⟩ ?_
          refine QM.then ?_
          refine wpM.ret ?_
          refine QM.block_ret ?_
          refine QM.then_ret ?_
          refine QM.leave (.inl rfl) [.tmp 8, .tmp 9] Try.results31 rfl ?_
          intro w' hm' hc' hg'
          -- leaf 4: h1- h2- h3- h4+
          first | exact ⟨hc', [], LendT.err (lendErr1 (by omega)) (by decide) _, Mem.nil _, fun p hp => by cases hp⟩ | exact ⟨hc', [], LendT.err (lendErr4 (by omega) (by omega)) (by decide) _, Mem.nil _, fun p hp => by cases hp⟩ | exact ⟨hc', [], LendT.err (lendErr2 (by omega) (by omega) (by omega)) (by decide) _, Mem.nil _, fun p hp => by cases hp⟩ | skip
          all_goals (have he0 := lendErr0 (l := bringL xs) (i := i) (j := j) (n := n) (by omega) (by omega) (by omega))
          all_goals (rw [getD_set_ne hij] at hm'; have hL : lendL (bringL xs) i j n = ((bringL xs).set i.toNat ((bringL xs).getD i.toNat 0 - n)).set j.toNat ((bringL xs).getD j.toNat 0 + n) := (by unfold lendL; rw [if_pos he0]); rw [← hL] at hm'; have hLl : (lendL (bringL xs) i j n).length = (bringL xs).length := (by rw [hL]; simp); refine ⟨hc', _, ⟨_, by simp only [resV]; rw [he0], .inr ⟨b, cap2, junk, hb, ?_, rfl, ?_, hmx, ?_⟩⟩, hm'.sub (.cons _ (List.Sublist.refl _)), fun p hp => by rw [List.mem_singleton] at hp; subst hp; exact hb⟩)
          all_goals first | (rw [hLl]; done) | (rw [hLl]; rfl) | (rw [hLl]; assumption)
        ·
          refine wpM.seq ?_
          refine wpM.region ?_
          refine LM.val (ov_move rfl) ?_
          first | refine LM.rd (om_load 0 Try.isAgg26 rfl rfl rfl) ?_ | refine LM.rd (om_load 1 Try.isAgg26 rfl rfl rfl) ?_ | refine LM.rd (om_load 2 Try.isAgg26 rfl rfl rfl) ?_ | refine LM.rd (om_load 3 Try.isAgg26 rfl rfl rfl) ?_ | refine LM.rd (om_load 4 Try.isAgg26 rfl rfl rfl) ?_ | refine LM.rd (om_load 5 Try.isAgg26 rfl rfl rfl) ?_ | refine LM.rd (om_load 6 Try.isAgg26 rfl rfl rfl) ?_ | refine LM.rd (om_load 7 Try.isAgg26 rfl rfl rfl) ?_ | refine LM.rd (om_load 8 Try.isAgg26 rfl rfl rfl) ?_
          refine LM.val (ov_move rfl) ?_
          obtain ⟨b, cap3, junk, hb, he, rfl, hcap, hmx, hsz⟩ := hsl.ne (by omega); simp only [Value.slice.injEq] at he; obtain ⟨rfl, -, rfl⟩ := he; have hi := hri i.toNat; have hj := hri j.toNat; have hij : i.toNat ≠ j.toNat := (by omega); have hgs : ((bringL xs).set i.toNat ((bringL xs).getD i.toNat 0 - n)).getD j.toNat 0 = (bringL xs).getD j.toNat 0 := getD_set_ne hij
          first | refine LM.val (ov_idx10 Try.underlying26 Try.sizeOf3 rfl rfl (by omega)) ?_ | refine LM.val (ov_idx1 Try.underlying26 Try.sizeOf3 rfl rfl (by omega)) ?_
          refine LM.rd (om_load 1 Try.isAgg3 rfl rfl (arr_getI (by first | omega | (rw [List.length_set]; omega)))) ?_
          refine LM.val (ov_gtr rfl rfl) ?_
          refine LM.val (ov_assign rfl) ?_
          refine LM.nil ?_
          refine QM.sub (e' := [(1, _), (2, _), (3, _), (10, _), (39, _)]) ⟨rfl, rfl, rfl, rfl, rfl, trivial⟩ ?_
          refine QM.then ?_
          first | refine wpM.condD rfl (fun h5 => ?_) (fun h5 => ?_) | refine wpM.condB rfl (fun h5 => ?_) (fun h5 => ?_)
          ·
            refine wpM.seq ?_
            refine wpM.region ?_
            refine LM.val (ov_assign rfl) ?_
            refine LM.val (ov_assign rfl) ?_
            refine LM.nil ?_
            refine QM.sub (e' := [(8, _), (9, _)]) ⟨rfl, rfl, trivial⟩ ?_
            refine QM.then ?_
            refine wpM.ret ?_
            refine QM.block_ret ?_
            refine QM.then_ret ?_
            refine QM.leave (.inl rfl) [.tmp 8, .tmp 9] Try.results31 rfl ?_
            intro w' hm' hc' hg'
            -- leaf 5: h1- h2- h3- h4- h5+
            first | exact ⟨hc', [], LendT.err (lendErr1 (by omega)) (by decide) _, Mem.nil _, fun p hp => by cases hp⟩ | exact ⟨hc', [], LendT.err (lendErr4 (by omega) (by omega)) (by decide) _, Mem.nil _, fun p hp => by cases hp⟩ | exact ⟨hc', [], LendT.err (lendErr2 (by omega) (by omega) (by omega)) (by decide) _, Mem.nil _, fun p hp => by cases hp⟩ | skip
            all_goals (have he0 := lendErr0 (l := bringL xs) (i := i) (j := j) (n := n) (by omega) (by omega) (by omega))
            all_goals (rw [getD_set_ne hij] at hm'; have hL : lendL (bringL xs) i j n = ((bringL xs).set i.toNat ((bringL xs).getD i.toNat 0 - n)).set j.toNat ((bringL xs).getD j.toNat 0 + n) := (by unfold lendL; rw [if_pos he0]); rw [← hL] at hm'; have hLl : (lendL (bringL xs) i j n).length = (bringL xs).length := (by rw [hL]; simp); refine ⟨hc', _, ⟨_, by simp only [resV]; rw [he0], .inr ⟨b, cap2, junk, hb, ?_, rfl, ?_, hmx, ?_⟩⟩, hm'.sub (.cons _ (List.Sublist.refl _)), fun p hp => by rw [List.mem_singleton] at hp; subst hp; exact hb⟩)
            all_goals first | (rw [hLl]; done) | (rw [hLl]; rfl) | (rw [hLl]; assumption)
          ·
            refine wpM.seq ?_
            refine wpM.region ?_
            first | refine LM.rd (om_load 0 Try.isAgg26 rfl rfl rfl) ?_ | refine LM.rd (om_load 1 Try.isAgg26 rfl rfl rfl) ?_ | refine LM.rd (om_load 2 Try.isAgg26 rfl rfl rfl) ?_ | refine LM.rd (om_load 3 Try.isAgg26 rfl rfl rfl) ?_ | refine LM.rd (om_load 4 Try.isAgg26 rfl rfl rfl) ?_ | refine LM.rd (om_load 5 Try.isAgg26 rfl rfl rfl) ?_ | refine LM.rd (om_load 6 Try.isAgg26 rfl rfl rfl) ?_ | refine LM.rd (om_load 7 Try.isAgg26 rfl rfl rfl) ?_ | refine LM.rd (om_load 8 Try.isAgg26 rfl rfl rfl) ?_
            refine LM.val (ov_move rfl) ?_
            first | refine LM.val (ov_idx10 Try.underlying26 Try.sizeOf3 rfl rfl (by omega)) ?_ | refine LM.val (ov_idx1 Try.underlying26 Try.sizeOf3 rfl rfl (by omega)) ?_
            refine LM.rd (om_load 1 Try.isAgg3 rfl rfl (arr_getI (by first | omega | (rw [List.length_set]; omega)))) ?_
            refine LM.val (ov_move rfl) ?_
            refine LM.val (ov_add64 rfl rfl (by omega)) ?_
            refine LM.val (ov_gtr rfl rfl) ?_
            refine LM.val (ov_assign rfl) ?_
            refine LM.nil ?_
            refine QM.sub (e' := [(1, _), (2, _), (3, _), (10, _), (46, _)]) ⟨rfl, rfl, rfl, rfl, rfl, trivial⟩ ?_
            refine QM.then ?_
            first | refine wpM.condD rfl (fun h6 => ?_) (fun h6 => ?_) | refine wpM.condB rfl (fun h6 => ?_) (fun h6 => ?_)
            ·
              refine wpM.seq ?_
              refine wpM.region ?_
              refine LM.val (ov_assign rfl) ?_
              refine LM.val (ov_assign rfl) ?_
              refine LM.nil ?_
              refine QM.sub (e' := [(8, _), (9, _)]) ⟨rfl, rfl, trivial⟩ ?_
              refine QM.then ?_
              refine wpM.ret ?_
              refine QM.block_ret ?_
              refine QM.then_ret ?_
              refine QM.leave (.inl rfl) [.tmp 8, .tmp 9] Try.results31 rfl ?_
              intro w' hm' hc' hg'
              -- leaf 6: h1- h2- h3- h4- h5- h6+
              first | exact ⟨hc', [], LendT.err (lendErr1 (by omega)) (by decide) _, Mem.nil _, fun p hp => by cases hp⟩ | exact ⟨hc', [], LendT.err (lendErr4 (by omega) (by omega)) (by decide) _, Mem.nil _, fun p hp => by cases hp⟩ | exact ⟨hc', [], LendT.err (lendErr2 (by omega) (by omega) (by omega)) (by decide) _, Mem.nil _, fun p hp => by cases hp⟩ | skip
              all_goals (have he0 := lendErr0 (l := bringL xs) (i := i) (j := j) (n := n) (by omega) (by omega) (by omega))
              all_goals (rw [getD_set_ne hij] at hm'; have hL : lendL (bringL xs) i j n = ((bringL xs).set i.toNat ((bringL xs).getD i.toNat 0 - n)).set j.toNat ((bringL xs).getD j.toNat 0 + n) := (by unfold lendL; rw [if_pos he0]); rw [← hL] at hm'; have hLl : (lendL (bringL xs) i j n).length = (bringL xs).length := (by rw [hL]; simp); refine ⟨hc', _, ⟨_, by simp only [resV]; rw [he0], .inr ⟨b, cap2, junk, hb, ?_, rfl, ?_, hmx, ?_⟩⟩, hm'.sub (.cons _ (List.Sublist.refl _)), fun p hp => by rw [List.mem_singleton] at hp; subst hp; exact hb⟩)
              all_goals first | (rw [hLl]; done) | (rw [hLl]; rfl) | (rw [hLl]; assumption)
            ·
              refine wpM.skip ?_
              refine QM.block_normal ?_
              refine QM.then ?_
              refine wpM.seq ?_
              refine wpM.region ?_
              first | refine LM.rd (om_load 0 Try.isAgg26 rfl rfl rfl) ?_ | refine LM.rd (om_load 1 Try.isAgg26 rfl rfl rfl) ?_ | refine LM.rd (om_load 2 Try.isAgg26 rfl rfl rfl) ?_ | refine LM.rd (om_load 3 Try.isAgg26 rfl rfl rfl) ?_ | refine LM.rd (om_load 4 Try.isAgg26 rfl rfl rfl) ?_ | refine LM.rd (om_load 5 Try.isAgg26 rfl rfl rfl) ?_ | refine LM.rd (om_load 6 Try.isAgg26 rfl rfl rfl) ?_ | refine LM.rd (om_load 7 Try.isAgg26 rfl rfl rfl) ?_ | refine LM.rd (om_load 8 Try.isAgg26 rfl rfl rfl) ?_
              refine LM.val (ov_move rfl) ?_
              first | refine LM.val (ov_idx10 Try.underlying26 Try.sizeOf3 rfl rfl (by omega)) ?_ | refine LM.val (ov_idx1 Try.underlying26 Try.sizeOf3 rfl rfl (by omega)) ?_
              refine LM.rd (om_load 1 Try.isAgg3 rfl rfl (arr_getI (by first | omega | (rw [List.length_set]; omega)))) ?_
              refine LM.val (ov_move rfl) ?_
              refine LM.val (ov_sub64 rfl rfl (by omega)) ?_
              first | refine LM.val (ov_idx10 Try.underlying26 Try.sizeOf3 rfl rfl (by omega)) ?_ | refine LM.val (ov_idx1 Try.underlying26 Try.sizeOf3 rfl rfl (by omega)) ?_
              refine LM.storeI 1 Try.sizeOf3 rfl rfl rfl (by first | omega | (rw [List.length_set]; omega)) (fun hlt => absurd hlt (by omega)) ?_
              refine LM.nil ?_
              refine QM.sub (e' := [(2, _), (3, _), (10, _)]) ⟨rfl, rfl, rfl, trivial⟩ ?_
              refine QM.then ?_
              refine wpM.seq ?_
              refine wpM.region ?_
              first | refine LM.rd (om_load 0 Try.isAgg26 rfl rfl rfl) ?_ | refine LM.rd (om_load 1 Try.isAgg26 rfl rfl rfl) ?_ | refine LM.rd (om_load 2 Try.isAgg26 rfl rfl rfl) ?_ | refine LM.rd (om_load 3 Try.isAgg26 rfl rfl rfl) ?_ | refine LM.rd (om_load 4 Try.isAgg26 rfl rfl rfl) ?_ | refine LM.rd (om_load 5 Try.isAgg26 rfl rfl rfl) ?_ | refine LM.rd (om_load 6 Try.isAgg26 rfl rfl rfl) ?_ | refine LM.rd (om_load 7 Try.isAgg26 rfl rfl rfl) ?_ | refine LM.rd (om_load 8 Try.isAgg26 rfl rfl rfl) ?_
              refine LM.val (ov_move rfl) ?_
              first | refine LM.val (ov_idx10 Try.underlying26 Try.sizeOf3 rfl rfl (by omega)) ?_ | refine LM.val (ov_idx1 Try.underlying26 Try.sizeOf3 rfl rfl (by omega)) ?_
              refine LM.rd (om_load 1 Try.isAgg3 rfl rfl (arr_getI (by first | omega | (rw [List.length_set]; omega)))) ?_
              refine LM.val (ov_move rfl) ?_
              refine LM.val (ov_add64 rfl rfl (by omega)) ?_
              first | refine LM.val (ov_idx10 Try.underlying26 Try.sizeOf3 rfl rfl (by omega)) ?_ | refine LM.val (ov_idx1 Try.underlying26 Try.sizeOf3 rfl rfl (by omega)) ?_
              refine LM.storeI 1 Try.sizeOf3 rfl rfl rfl (by first | omega | (rw [List.length_set]; omega)) (fun hlt => absurd hlt (by omega)) ?_
              refine LM.nil ?_
              refine QM.sub (e' := [(10, _)]) ⟨rfl, trivial⟩ ?_
              refine QM.then ?_
              refine wpM.seq ?_
              refine wpM.region ?_
              first | refine LM.rd (om_load 0 Try.isAgg26 rfl rfl rfl) ?_ | refine LM.rd (om_load 1 Try.isAgg26 rfl rfl rfl) ?_ | refine LM.rd (om_load 2 Try.isAgg26 rfl rfl rfl) ?_ | refine LM.rd (om_load 3 Try.isAgg26 rfl rfl rfl) ?_ | refine LM.rd (om_load 4 Try.isAgg26 rfl rfl rfl) ?_ | refine LM.rd (om_load 5 Try.isAgg26 rfl rfl rfl) ?_ | refine LM.rd (om_load 6 Try.isAgg26 rfl rfl rfl) ?_ | refine LM.rd (om_load 7 Try.isAgg26 rfl rfl rfl) ?_ | refine LM.rd (om_load 8 Try.isAgg26 rfl rfl rfl) ?_
              refine LM.val (ov_assign rfl) ?_
              refine LM.val (ov_assign rfl) ?_
              refine LM.nil ?_
              refine QM.sub (e' := [(8, _), (9, _)]) ⟨rfl, rfl, trivial⟩ ?_
              refine QM.then ?_
              refine wpM.ret ?_
              refine QM.leave (.inl rfl) [.tmp 8, .tmp 9] Try.results31 rfl ?_
              intro w' hm' hc' hg'
              -- leaf 7: h1- h2- h3- h4- h5- h6-
              first | exact ⟨hc', [], LendT.err (lendErr1 (by omega)) (by decide) _, Mem.nil _, fun p hp => by cases hp⟩ | exact ⟨hc', [], LendT.err (lendErr4 (by omega) (by omega)) (by decide) _, Mem.nil _, fun p hp => by cases hp⟩ | exact ⟨hc', [], LendT.err (lendErr2 (by omega) (by omega) (by omega)) (by decide) _, Mem.nil _, fun p hp => by cases hp⟩ | skip
              all_goals (have he0 := lendErr0 (l := bringL xs) (i := i) (j := j) (n := n) (by omega) (by omega) (by omega))
              all_goals (rw [getD_set_ne hij] at hm'; have hL : lendL (bringL xs) i j n = ((bringL xs).set i.toNat ((bringL xs).getD i.toNat 0 - n)).set j.toNat ((bringL xs).getD j.toNat 0 + n) := (by unfold lendL; rw [if_pos he0]); rw [← hL] at hm'; have hLl : (lendL (bringL xs) i j n).length = (bringL xs).length := (by rw [hL]; simp); refine ⟨hc', _, ⟨_, by simp only [resV]; rw [he0], .inr ⟨b, cap2, junk, hb, ?_, rfl, ?_, hmx, ?_⟩⟩, hm'.sub (.cons _ (List.Sublist.refl _)), fun p hp => by rw [List.mem_singleton] at hp; subst hp; exact hb⟩)
              all_goals first | (rw [hLl]; done) | (rw [hLl]; rfl) | (rw [hLl]; assumption)

set_option maxRecDepth 100000 in
theorem rlend_spec {xs : List Int} {ad : Option Addr} {cap : Nat} (i j n : Int) (w : World) (hl : Sr fI 1 xs (.slice ad xs.length cap) w) (hx : xs.length ≤ 1000) (hn : -9223372036854775808 ≤ n ∧ n ≤ 9223372036854775807) : Ret Try.prog 32 #[.slice ad xs.length cap, .int .i64 i, .int .i64 j, .int .i64 n] w (fun v w' => Ext w w' ∧ ∃ m, LendT (bringL xs) i j n w.heap.size v m ∧ Mem w' m ∧ ∀ p ∈ m, w.heap.size ≤ p.1) := by
  have hbl := bringL_len xs; have hri := fun q => bringL_rng (xs := xs) (i := q)
  refine Ret.enterM (l := [.slice ad xs.length cap, .int .i64 i, .int .i64 j, .int .i64 n]) Try.func32 rfl Try.ntmps32 rfl ([]) (no) (Mem.nil w) ?_
  refine wpM.seq ?_
  refine wpM.region ?_
  refine LM.val (ov_assign rfl) ?_
  refine LM.val (ov_assign rfl) ?_
  refine LM.nil ?_
  refine QM.sub (e' := [(0, _), (1, _), (2, _), (3, _)]) ⟨rfl, rfl, rfl, rfl, trivial⟩ ?_
  refine QM.then ?_
  refine wpM.seq ?_
  refine wpM.region ?_
  refine LM.val (ov_move rfl) ?_
  refine LM.callS (oc_call (enters_fn Try.func59 (by kernel_rfl) rfl) rfl) (fun w hm hc hg => rbring45_spec w (hl.ext hc) hx) (fun u12 m12 hs12 => ?_)
  obtain ⟨ad2, cap2, rfl⟩ := hs12.form
  refine LM.val (ov_assign rfl) ?_
  refine LM.nil ?_
  refine QM.sub (e' := [(1, _), (2, _), (3, _), (10, _)]) ⟨rfl, rfl, rfl, rfl, trivial⟩ ?_
  refine QM.then ?_
  refine wpM.seq ?_
  refine wpM.seq ?_
  refine wpM.region ?_
  refine LM.val (ov_move rfl) ?_
  refine LM.val (ov_lss rfl rfl) ?_
  refine LM.val (ov_move rfl) ?_
  first | refine LM.splitD (t := 15) rfl (fun h1 => ?_) (fun h1 => ?_) | refine LM.splitB (t := 15) rfl (fun h1 => ?_) (fun h1 => ?_)
  ·
    refine LM.drop (t := 15) rfl rfl rfl ?_
    refine LM.drop (t := 15) rfl rfl rfl ?_
    refine LM.drop (t := 15) rfl rfl rfl ?_
    refine LM.drop (t := 15) rfl rfl rfl ?_
    refine LM.val (ov_pickT rfl rfl) ?_
    refine LM.val (ov_move rfl) ?_
    refine LM.drop (t := 21) rfl rfl rfl ?_
    refine LM.drop (t := 21) rfl rfl rfl ?_
    refine LM.val (ov_pickT rfl rfl) ?_
    refine LM.val (ov_move rfl) ?_
    refine LM.drop (t := 25) rfl rfl rfl ?_
    refine LM.drop (t := 25) rfl rfl rfl ?_
    refine LM.drop (t := 25) rfl rfl rfl ?_
    refine LM.drop (t := 25) rfl rfl rfl ?_
    refine LM.val (ov_pickT rfl rfl) ?_
    refine LM.val (ov_move rfl) ?_
    refine LM.drop (t := 31) rfl rfl rfl ?_
    refine LM.drop (t := 31) rfl rfl rfl ?_
    refine LM.drop (t := 31) rfl rfl rfl ?_
    refine LM.val (ov_pickT rfl rfl) ?_
    refine LM.val (ov_move rfl) ?_
    refine LM.drop (t := 36) rfl rfl rfl ?_
    refine LM.drop (t := 36) rfl rfl rfl ?_
    refine LM.val (ov_pickT rfl rfl) ?_
    refine LM.nil ?_
    refine QM.sub (e' := [(1, _), (2, _), (3, _), (10, _), (39, _)]) ⟨rfl, rfl, rfl, rfl, rfl, trivial⟩ ?_
    refine QM.then ?_
    refine wpM.condT rfl ?_
    refine wpM.seq ?_
    refine wpM.region ?_
    refine LM.val (ov_assign rfl) ?_
    refine LM.val (ov_assign rfl) ?_
    refine LM.nil ?_
    refine QM.sub (e' := [(8, _), (9, _)]) ⟨rfl, rfl, trivial⟩ ?_
    refine QM.then ?_
    refine wpM.ret ?_
    refine QM.then_ret ?_
    refine QM.leave (.inl rfl) [.tmp 8, .tmp 9] Try.results32 rfl ?_
    intro w' hm' hc' hg'
    -- leaf 1: h1+
    first | exact ⟨hc', [], LendT.err (lendErr1 (by omega)) (by decide) _, Mem.nil _, fun p hp => by cases hp⟩ | exact ⟨hc', [], LendT.err (lendErr4 (by omega) (by omega)) (by decide) _, Mem.nil _, fun p hp => by cases hp⟩ | exact ⟨hc', [], LendT.err (lendErr2 (by omega) (by omega) (by omega)) (by decide) _, Mem.nil _, fun p hp => by cases hp⟩ | skip
    all_goals (have he0 := lendErr0 (l := bringL xs) (i := i) (j := j) (n := n) (by omega) (by omega) (by omega))
    all_goals (rw [getD_set_ne hij] at hm'; have hL : lendL (bringL xs) i j n = ((bringL xs).set i.toNat ((bringL xs).getD i.toNat 0 - n)).set j.toNat ((bringL xs).getD j.toNat 0 + n) := (by unfold lendL; rw [if_pos he0]); rw [← hL] at hm'; have hLl : (lendL (bringL xs) i j n).length = (bringL xs).length := (by rw [hL]; simp); refine ⟨hc', _, ⟨_, by simp only [resV]; rw [he0], .inr ⟨b, cap2, junk, hb, ?_, rfl, ?_, hmx, ?_⟩⟩, hm'.sub (List.Sublist.refl _), fun p hp => by rw [List.mem_singleton] at hp; subst hp; exact hb⟩)
    all_goals first | (rw [hLl]; done) | (rw [hLl]; rfl) | (rw [hLl]; assumption)
  ·
    refine LM.strip (t := 15) rfl rfl rfl ?_
    refine LM.val (ov_move rfl) ?_
    refine LM.strip (t := 15) rfl rfl rfl ?_
    refine LM.val (ov_move rfl) ?_
    refine LM.strip (t := 15) rfl rfl rfl ?_
    refine LM.val (ov_len Try.underlying26 rfl) ?_
    refine LM.strip (t := 15) rfl rfl rfl ?_
    refine LM.val (ov_geq rfl rfl) ?_
    refine LM.val (ov_pickF rfl rfl) ?_
    refine LM.val (ov_move rfl) ?_
    first | refine LM.splitD (t := 21) rfl (fun h2 => ?_) (fun h2 => ?_) | refine LM.splitB (t := 21) rfl (fun h2 => ?_) (fun h2 => ?_)
    ·
      refine LM.drop (t := 21) rfl rfl rfl ?_
      refine LM.drop (t := 21) rfl rfl rfl ?_
      refine LM.val (ov_pickT rfl rfl) ?_
      refine LM.val (ov_move rfl) ?_
      refine LM.drop (t := 25) rfl rfl rfl ?_
      refine LM.drop (t := 25) rfl rfl rfl ?_
      refine LM.drop (t := 25) rfl rfl rfl ?_
      refine LM.drop (t := 25) rfl rfl rfl ?_
      refine LM.val (ov_pickT rfl rfl) ?_
      refine LM.val (ov_move rfl) ?_
      refine LM.drop (t := 31) rfl rfl rfl ?_
      refine LM.drop (t := 31) rfl rfl rfl ?_
      refine LM.drop (t := 31) rfl rfl rfl ?_
      refine LM.val (ov_pickT rfl rfl) ?_
      refine LM.val (ov_move rfl) ?_
      refine LM.drop (t := 36) rfl rfl rfl ?_
      refine LM.drop (t := 36) rfl rfl rfl ?_
      refine LM.val (ov_pickT rfl rfl) ?_
      refine LM.nil ?_
      refine QM.sub (e' := [(1, _), (2, _), (3, _), (10, _), (39, _)]) ⟨rfl, rfl, rfl, rfl, rfl, trivial⟩ ?_
      refine QM.then ?_
      refine wpM.condT rfl ?_
      refine wpM.seq ?_
      refine wpM.region ?_
      refine LM.val (ov_assign rfl) ?_
      refine LM.val (ov_assign rfl) ?_
      refine LM.nil ?_
      refine QM.sub (e' := [(8, _), (9, _)]) ⟨rfl, rfl, trivial⟩ ?_
      refine QM.then ?_
      refine wpM.ret ?_
      refine QM.then_ret ?_
      refine QM.leave (.inl rfl) [.tmp 8, .tmp 9] Try.results32 rfl ?_
      intro w' hm' hc' hg'
      -- leaf 2: h1- h2+
      first | exact ⟨hc', [], LendT.err (lendErr1 (by omega)) (by decide) _, Mem.nil _, fun p hp => by cases hp⟩ | exact ⟨hc', [], LendT.err (lendErr4 (by omega) (by omega)) (by decide) _, Mem.nil _, fun p hp => by cases hp⟩ | exact ⟨hc', [], LendT.err (lendErr2 (by omega) (by omega) (by omega)) (by decide) _, Mem.nil _, fun p hp => by cases hp⟩ | skip
      all_goals (have he0 := lendErr0 (l := bringL xs) (i := i) (j := j) (n := n) (by omega) (by omega) (by omega))
      all_goals (rw [getD_set_ne hij] at hm'; have hL : lendL (bringL xs) i j n = ((bringL xs).set i.toNat ((bringL xs).getD i.toNat 0 - n)).set j.toNat ((bringL xs).getD j.toNat 0 + n) := (by unfold lendL; rw [if_pos he0]); rw [← hL] at hm'; have hLl : (lendL (bringL xs) i j n).length = (bringL xs).length := (by rw [hL]; simp); refine ⟨hc', _, ⟨_, by simp only [resV]; rw [he0], .inr ⟨b, cap2, junk, hb, ?_, rfl, ?_, hmx, ?_⟩⟩, hm'.sub (List.Sublist.refl _), fun p hp => by rw [List.mem_singleton] at hp; subst hp; exact hb⟩)
      all_goals first | (rw [hLl]; done) | (rw [hLl]; rfl) | (rw [hLl]; assumption)
    ·
      refine LM.strip (t := 21) rfl rfl rfl ?_
      refine LM.val (ov_move rfl) ?_
      refine LM.strip (t := 21) rfl rfl rfl ?_
      refine LM.val (ov_lss rfl rfl) ?_
      refine LM.val (ov_pickF rfl rfl) ?_
      refine LM.val (ov_move rfl) ?_
      first | refine LM.splitD (t := 25) rfl (fun h3 => ?_) (fun h3 => ?_) | refine LM.splitB (t := 25) rfl (fun h3 => ?_) (fun h3 => ?_)
      ·
        refine LM.drop (t := 25) rfl rfl rfl ?_
        refine LM.drop (t := 25) rfl rfl rfl ?_
        refine LM.drop (t := 25) rfl rfl rfl ?_
        refine LM.drop (t := 25) rfl rfl rfl ?_
        refine LM.val (ov_pickT rfl rfl) ?_
        refine LM.val (ov_move rfl) ?_
        refine LM.drop (t := 31) rfl rfl rfl ?_
        refine LM.drop (t := 31) rfl rfl rfl ?_
        refine LM.drop (t := 31) rfl rfl rfl ?_
        refine LM.val (ov_pickT rfl rfl) ?_
        refine LM.val (ov_move rfl) ?_
        refine LM.drop (t := 36) rfl rfl rfl ?_
        refine LM.drop (t := 36) rfl rfl rfl ?_
        refine LM.val (ov_pickT rfl rfl) ?_
        refine LM.nil ?_
        refine QM.sub (e' := [(1, _), (2, _), (3, _), (10, _), (39, _)]) ⟨rfl, rfl, rfl, rfl, rfl, trivial⟩ ?_
        refine QM.then ?_
        refine wpM.condT rfl ?_
        refine wpM.seq ?_
        refine wpM.region ?_
        refine LM.val (ov_assign rfl) ?_
        refine LM.val (ov_assign rfl) ?_
        refine LM.nil ?_
        refine QM.sub (e' := [(8, _), (9, _)]) ⟨rfl, rfl, trivial⟩ ?_
        refine QM.then ?_
        refine wpM.ret ?_
        refine QM.then_ret ?_
        refine QM.leave (.inl rfl) [.tmp 8, .tmp 9] Try.results32 rfl ?_
        intro w' hm' hc' hg'
        -- leaf 3: h1- h2- h3+
        first | exact ⟨hc', [], LendT.err (lendErr1 (by omega)) (by decide) _, Mem.nil _, fun p hp => by cases hp⟩ | exact ⟨hc', [], LendT.err (lendErr4 (by omega) (by omega)) (by decide) _, Mem.nil _, fun p hp => by cases hp⟩ | exact ⟨hc', [], LendT.err (lendErr2 (by omega) (by omega) (by omega)) (by decide) _, Mem.nil _, fun p hp => by cases hp⟩ | skip
        all_goals (have he0 := lendErr0 (l := bringL xs) (i := i) (j := j) (n := n) (by omega) (by omega) (by omega))
        all_goals (rw [getD_set_ne hij] at hm'; have hL : lendL (bringL xs) i j n = ((bringL xs).set i.toNat ((bringL xs).getD i.toNat 0 - n)).set j.toNat ((bringL xs).getD j.toNat 0 + n) := (by unfold lendL; rw [if_pos he0]); rw [← hL] at hm'; have hLl : (lendL (bringL xs) i j n).length = (bringL xs).length := (by rw [hL]; simp); refine ⟨hc', _, ⟨_, by simp only [resV]; rw [he0], .inr ⟨b, cap2, junk, hb, ?_, rfl, ?_, hmx, ?_⟩⟩, hm'.sub (List.Sublist.refl _), fun p hp => by rw [List.mem_singleton] at hp; subst hp; exact hb⟩)
        all_goals first | (rw [hLl]; done) | (rw [hLl]; rfl) | (rw [hLl]; assumption)
      ·
        refine LM.strip (t := 25) rfl rfl rfl ?_
        refine LM.val (ov_move rfl) ?_
        refine LM.strip (t := 25) rfl rfl rfl ?_
        refine LM.val (ov_move rfl) ?_
        refine LM.strip (t := 25) rfl rfl rfl ?_
        refine LM.val (ov_len Try.underlying26 rfl) ?_
        refine LM.strip (t := 25) rfl rfl rfl ?_
        refine LM.val (ov_geq rfl rfl) ?_
        refine LM.val (ov_pickF rfl rfl) ?_
        refine LM.val (ov_move rfl) ?_
        first | refine LM.splitD (t := 31) rfl (fun h4 => ?_) (fun h4 => ?_) | refine LM.splitB (t := 31) rfl (fun h4 => ?_) (fun h4 => ?_)
        ·
          refine LM.drop (t := 31) rfl rfl rfl ?_
          refine LM.drop (t := 31) rfl rfl rfl ?_
          refine LM.drop (t := 31) rfl rfl rfl ?_
          refine LM.val (ov_pickT rfl rfl) ?_
          refine LM.val (ov_move rfl) ?_
          refine LM.drop (t := 36) rfl rfl rfl ?_
          refine LM.drop (t := 36) rfl rfl rfl ?_
          refine LM.val (ov_pickT rfl rfl) ?_
          refine LM.nil ?_
          refine QM.sub (e' := [(1, _), (2, _), (3, _), (10, _), (39, _)]) ⟨rfl, rfl, rfl, rfl, rfl, trivial⟩ ?_
          refine QM.then ?_
          refine wpM.condT rfl ?_
          refine wpM.seq ?_
          refine wpM.region ?_
          refine LM.val (ov_assign rfl) ?_
          refine LM.val (ov_assign rfl) ?_
          refine LM.nil ?_
          refine QM.sub (e' := [(8, _), (9, _)]) ⟨rfl, rfl, trivial⟩ ?_
          refine QM.then ?_
          refine wpM.ret ?_
          refine QM.then_ret ?_
          refine QM.leave (.inl rfl) [.tmp 8, .tmp 9] Try.results32 rfl ?_
          intro w' hm' hc' hg'
          -- leaf 4: h1- h2- h3- h4+
          first | exact ⟨hc', [], LendT.err (lendErr1 (by omega)) (by decide) _, Mem.nil _, fun p hp => by cases hp⟩ | exact ⟨hc', [], LendT.err (lendErr4 (by omega) (by omega)) (by decide) _, Mem.nil _, fun p hp => by cases hp⟩ | exact ⟨hc', [], LendT.err (lendErr2 (by omega) (by omega) (by omega)) (by decide) _, Mem.nil _, fun p hp => by cases hp⟩ | skip
          all_goals (have he0 := lendErr0 (l := bringL xs) (i := i) (j := j) (n := n) (by omega) (by omega) (by omega))
          all_goals (rw [getD_set_ne hij] at hm'; have hL : lendL (bringL xs) i j n = ((bringL xs).set i.toNat ((bringL xs).getD i.toNat 0 - n)).set j.toNat ((bringL xs).getD j.toNat 0 + n) := (by unfold lendL; rw [if_pos he0]); rw [← hL] at hm'; have hLl : (lendL (bringL xs) i j n).length = (bringL xs).length := (by rw [hL]; simp); refine ⟨hc', _, ⟨_, by simp only [resV]; rw [he0], .inr ⟨b, cap2, junk, hb, ?_, rfl, ?_, hmx, ?_⟩⟩, hm'.sub (List.Sublist.refl _), fun p hp => by rw [List.mem_singleton] at hp; subst hp; exact hb⟩)
          all_goals first | (rw [hLl]; done) | (rw [hLl]; rfl) | (rw [hLl]; assumption)
        ·
          refine LM.strip (t := 31) rfl rfl rfl ?_
          refine LM.val (ov_move rfl) ?_
          refine LM.strip (t := 31) rfl rfl rfl ?_
          refine LM.val (ov_move rfl) ?_
          refine LM.strip (t := 31) rfl rfl rfl ?_
          refine LM.val (ov_eql rfl rfl) ?_
          refine LM.val (ov_pickF rfl rfl) ?_
          refine LM.val (ov_move rfl) ?_
          first | refine LM.splitD (t := 36) rfl (fun h5 => ?_) (fun h5 => ?_) | refine LM.splitB (t := 36) rfl (fun h5 => ?_) (fun h5 => ?_)
          ·
            refine LM.drop (t := 36) rfl rfl rfl ?_
            refine LM.drop (t := 36) rfl rfl rfl ?_
            refine LM.val (ov_pickT rfl rfl) ?_
            refine LM.nil ?_
            refine QM.sub (e' := [(1, _), (2, _), (3, _), (10, _), (39, _)]) ⟨rfl, rfl, rfl, rfl, rfl, trivial⟩ ?_
            refine QM.then ?_
            refine wpM.condT rfl ?_
            refine wpM.seq ?_
            refine wpM.region ?_
            refine LM.val (ov_assign rfl) ?_
            refine LM.val (ov_assign rfl) ?_
            refine LM.nil ?_
            refine QM.sub (e' := [(8, _), (9, _)]) ⟨rfl, rfl, trivial⟩ ?_
            refine QM.then ?_
            refine wpM.ret ?_
            refine QM.then_ret ?_
            refine QM.leave (.inl rfl) [.tmp 8, .tmp 9] Try.results32 rfl ?_
            intro w' hm' hc' hg'
            -- leaf 5: h1- h2- h3- h4- h5+
            first | exact ⟨hc', [], LendT.err (lendErr1 (by omega)) (by decide) _, Mem.nil _, fun p hp => by cases hp⟩ | exact ⟨hc', [], LendT.err (lendErr4 (by omega) (by omega)) (by decide) _, Mem.nil _, fun p hp => by cases hp⟩ | exact ⟨hc', [], LendT.err (lendErr2 (by omega) (by omega) (by omega)) (by decide) _, Mem.nil _, fun p hp => by cases hp⟩ | skip
            all_goals (have he0 := lendErr0 (l := bringL xs) (i := i) (j := j) (n := n) (by omega) (by omega) (by omega))
            all_goals (rw [getD_set_ne hij] at hm'; have hL : lendL (bringL xs) i j n = ((bringL xs).set i.toNat ((bringL xs).getD i.toNat 0 - n)).set j.toNat ((bringL xs).getD j.toNat 0 + n) := (by unfold lendL; rw [if_pos he0]); rw [← hL] at hm'; have hLl : (lendL (bringL xs) i j n).length = (bringL xs).length := (by rw [hL]; simp); refine ⟨hc', _, ⟨_, by simp only [resV]; rw [he0], .inr ⟨b, cap2, junk, hb, ?_, rfl, ?_, hmx, ?_⟩⟩, hm'.sub (List.Sublist.refl _), fun p hp => by rw [List.mem_singleton] at hp; subst hp; exact hb⟩)
            all_goals first | (rw [hLl]; done) | (rw [hLl]; rfl) | (rw [hLl]; assumption)
          ·
            refine LM.strip (t := 36) rfl rfl rfl ?_
            refine LM.val (ov_move rfl) ?_
            refine LM.strip (t := 36) rfl rfl rfl ?_
            refine LM.val (ov_lss rfl rfl) ?_
            refine LM.val (ov_pickF rfl rfl) ?_
            refine LM.nil ?_
            refine QM.sub (e' := [(1, _), (2, _), (3, _), (10, _), (39, _)]) ⟨rfl, rfl, rfl, rfl, rfl, trivial⟩ ?_
            refine QM.then ?_
            first | refine wpM.condD rfl (fun h6 => ?_) (fun h6 => ?_) | refine wpM.condB rfl (fun h6 => ?_) (fun h6 => ?_)
            ·
              refine wpM.seq ?_
              refine wpM.region ?_
              refine LM.val (ov_assign rfl) ?_
              refine LM.val (ov_assign rfl) ?_
              refine LM.nil ?_
              refine QM.sub (e' := [(8, _), (9, _)]) ⟨rfl, rfl, trivial⟩ ?_
              refine QM.then ?_
              refine wpM.ret ?_
              refine QM.then_ret ?_
              refine QM.leave (.inl rfl) [.tmp 8, .tmp 9] Try.results32 rfl ?_
              intro w' hm' hc' hg'
              -- leaf 6: h1- h2- h3- h4- h5- h6+
              first | exact ⟨hc', [], LendT.err (lendErr1 (by omega)) (by decide) _, Mem.nil _, fun p hp => by cases hp⟩ | exact ⟨hc', [], LendT.err (lendErr4 (by omega) (by omega)) (by decide) _, Mem.nil _, fun p hp => by cases hp⟩ | exact ⟨hc', [], LendT.err (lendErr2 (by omega) (by omega) (by omega)) (by decide) _, Mem.nil _, fun p hp => by cases hp⟩ | skip
              all_goals (have he0 := lendErr0 (l := bringL xs) (i := i) (j := j) (n := n) (by omega) (by omega) (by omega))
              all_goals (rw [getD_set_ne hij] at hm'; have hL : lendL (bringL xs) i j n = ((bringL xs).set i.toNat ((bringL xs).getD i.toNat 0 - n)).set j.toNat ((bringL xs).getD j.toNat 0 + n) := (by unfold lendL; rw [if_pos he0]); rw [← hL] at hm'; have hLl : (lendL (bringL xs) i j n).length = (bringL xs).length := (by rw [hL]; simp); refine ⟨hc', _, ⟨_, by simp only [resV]; rw [he0], .inr ⟨b, cap2, junk, hb, ?_, rfl, ?_, hmx, ?_⟩⟩, hm'.sub (List.Sublist.refl _), fun p hp => by rw [List.mem_singleton] at hp; subst hp; exact hb⟩)
              all_goals first | (rw [hLl]; done) | (rw [hLl]; rfl) | (rw [hLl]; assumption)
            ·
              refine wpM.skip ?_
              refine QM.then ?_
              refine wpM.seq ?_
              refine wpM.seq ?_
              refine wpM.region ?_
              refine LM.val (ov_move rfl) ?_
              refine LM.val (ov_move rfl) ?_
              refine LM.val (ov_move rfl) ?_
              obtain ⟨b, cap3, junk, hb, he, rfl, hcap, hmx, hsz⟩ := hs12.ne (by omega); simp only [Value.slice.injEq] at he; obtain ⟨rfl, -, rfl⟩ := he; have hi := hri i.toNat; have hj := hri j.toNat; have hij : i.toNat ≠ j.toNat := (by omega); have hgs : ((bringL xs).set i.toNat ((bringL xs).getD i.toNat 0 - n)).getD j.toNat 0 = (bringL xs).getD j.toNat 0 := getD_set_ne hij
              first | refine LM.val (ov_idx10 Try.underlying26 Try.sizeOf3 rfl rfl (by omega)) ?_ | refine LM.val (ov_idx1 Try.underlying26 Try.sizeOf3 rfl rfl (by omega)) ?_
              refine LM.rd (om_load 0 Try.isAgg3 rfl rfl (arr_getI (by first | omega | (rw [List.length_set]; omega)))) ?_
              refine LM.val (ov_gtr rfl rfl) ?_
              refine LM.nil ?_
              refine QM.sub (e' := [(1, _), (2, _), (3, _), (10, _), (45, _)]) ⟨rfl, rfl, rfl, rfl, rfl, trivial⟩ ?_
              refine QM.then ?_
              first | refine wpM.condD rfl (fun h7 => ?_) (fun h7 => ?_) | refine wpM.condB rfl (fun h7 => ?_) (fun h7 => ?_)
              ·
                refine wpM.seq ?_
                refine wpM.region ?_
                refine LM.val (ov_assign rfl) ?_
                refine LM.val (ov_assign rfl) ?_
                refine LM.nil ?_
                refine QM.sub (e' := [(8, _), (9, _)]) ⟨rfl, rfl, trivial⟩ ?_
                refine QM.then ?_
                refine wpM.ret ?_
                refine QM.then_ret ?_
                refine QM.leave (.inl rfl) [.tmp 8, .tmp 9] Try.results32 rfl ?_
                intro w' hm' hc' hg'
                -- leaf 7: h1- h2- h3- h4- h5- h6- h7+
                first | exact ⟨hc', [], LendT.err (lendErr1 (by omega)) (by decide) _, Mem.nil _, fun p hp => by cases hp⟩ | exact ⟨hc', [], LendT.err (lendErr4 (by omega) (by omega)) (by decide) _, Mem.nil _, fun p hp => by cases hp⟩ | exact ⟨hc', [], LendT.err (lendErr2 (by omega) (by omega) (by omega)) (by decide) _, Mem.nil _, fun p hp => by cases hp⟩ | skip
                all_goals (have he0 := lendErr0 (l := bringL xs) (i := i) (j := j) (n := n) (by omega) (by omega) (by omega))
                all_goals (rw [getD_set_ne hij] at hm'; have hL : lendL (bringL xs) i j n = ((bringL xs).set i.toNat ((bringL xs).getD i.toNat 0 - n)).set j.toNat ((bringL xs).getD j.toNat 0 + n) := (by unfold lendL; rw [if_pos he0]); rw [← hL] at hm'; have hLl : (lendL (bringL xs) i j n).length = (bringL xs).length := (by rw [hL]; simp); refine ⟨hc', _, ⟨_, by simp only [resV]; rw [he0], .inr ⟨b, cap2, junk, hb, ?_, rfl, ?_, hmx, ?_⟩⟩, hm'.sub (List.Sublist.refl _), fun p hp => by rw [List.mem_singleton] at hp; subst hp; exact hb⟩)
                all_goals first | (rw [hLl]; done) | (rw [hLl]; rfl) | (rw [hLl]; assumption)
              ·
                refine wpM.skip ?_
                refine QM.then ?_
                refine wpM.seq ?_
                refine wpM.seq ?_
                refine wpM.region ?_
                refine LM.val (ov_move rfl) ?_
                refine LM.val (ov_move rfl) ?_
                first | refine LM.val (ov_idx10 Try.underlying26 Try.sizeOf3 rfl rfl (by omega)) ?_ | refine LM.val (ov_idx1 Try.underlying26 Try.sizeOf3 rfl rfl (by omega)) ?_
                refine LM.rd (om_load 0 Try.isAgg3 rfl rfl (arr_getI (by first | omega | (rw [List.length_set]; omega)))) ?_
                refine LM.val (ov_move rfl) ?_
                refine LM.val (ov_add64 rfl rfl (by omega)) ?_
                refine LM.val (ov_gtr rfl rfl) ?_
                refine LM.nil ?_
                refine QM.sub (e' := [(1, _), (2, _), (3, _), (10, _), (52, _)]) ⟨rfl, rfl, rfl, rfl, rfl, trivial⟩ ?_
                refine QM.then ?_
                first | refine wpM.condD rfl (fun h8 => ?_) (fun h8 => ?_) | refine wpM.condB rfl (fun h8 => ?_) (fun h8 => ?_)
                ·
                  refine wpM.seq ?_
                  refine wpM.region ?_
                  refine LM.val (ov_assign rfl) ?_
                  refine LM.val (ov_assign rfl) ?_
                  refine LM.nil ?_
                  refine QM.sub (e' := [(8, _), (9, _)]) ⟨rfl, rfl, trivial⟩ ?_
                  refine QM.then ?_
                  refine wpM.ret ?_
                  refine QM.then_ret ?_
                  refine QM.leave (.inl rfl) [.tmp 8, .tmp 9] Try.results32 rfl ?_
                  intro w' hm' hc' hg'
                  -- leaf 8: h1- h2- h3- h4- h5- h6- h7- h8+
                  first | exact ⟨hc', [], LendT.err (lendErr1 (by omega)) (by decide) _, Mem.nil _, fun p hp => by cases hp⟩ | exact ⟨hc', [], LendT.err (lendErr4 (by omega) (by omega)) (by decide) _, Mem.nil _, fun p hp => by cases hp⟩ | exact ⟨hc', [], LendT.err (lendErr2 (by omega) (by omega) (by omega)) (by decide) _, Mem.nil _, fun p hp => by cases hp⟩ | skip
                  all_goals (have he0 := lendErr0 (l := bringL xs) (i := i) (j := j) (n := n) (by omega) (by omega) (by omega))
                  all_goals (rw [getD_set_ne hij] at hm'; have hL : lendL (bringL xs) i j n = ((bringL xs).set i.toNat ((bringL xs).getD i.toNat 0 - n)).set j.toNat ((bringL xs).getD j.toNat 0 + n) := (by unfold lendL; rw [if_pos he0]); rw [← hL] at hm'; have hLl : (lendL (bringL xs) i j n).length = (bringL xs).length := (by rw [hL]; simp); refine ⟨hc', _, ⟨_, by simp only [resV]; rw [he0], .inr ⟨b, cap2, junk, hb, ?_, rfl, ?_, hmx, ?_⟩⟩, hm'.sub (List.Sublist.refl _), fun p hp => by rw [List.mem_singleton] at hp; subst hp; exact hb⟩)
                  all_goals first | (rw [hLl]; done) | (rw [hLl]; rfl) | (rw [hLl]; assumption)
                ·
                  refine wpM.skip ?_
                  refine QM.then ?_
                  refine wpM.seq ?_
                  refine wpM.region ?_
                  refine LM.val (ov_move rfl) ?_
                  refine LM.val (ov_move rfl) ?_
                  refine LM.val (ov_move rfl) ?_
                  refine LM.val (ov_move rfl) ?_
                  first | refine LM.val (ov_idx10 Try.underlying26 Try.sizeOf3 rfl rfl (by omega)) ?_ | refine LM.val (ov_idx1 Try.underlying26 Try.sizeOf3 rfl rfl (by omega)) ?_
                  refine LM.rd (om_load 0 Try.isAgg3 rfl rfl (arr_getI (by first | omega | (rw [List.length_set]; omega)))) ?_
                  refine LM.val (ov_move rfl) ?_
                  refine LM.val (ov_sub64 rfl rfl (by omega)) ?_
                  first | refine LM.val (ov_idx10 Try.underlying26 Try.sizeOf3 rfl rfl (by omega)) ?_ | refine LM.val (ov_idx1 Try.underlying26 Try.sizeOf3 rfl rfl (by omega)) ?_
                  refine LM.storeI 0 Try.sizeOf3 rfl rfl rfl (by first | omega | (rw [List.length_set]; omega)) (fun hlt => absurd hlt (by omega)) ?_
                  refine LM.nil ?_
                  refine QM.sub (e' := [(2, _), (3, _), (10, _)]) ⟨rfl, rfl, rfl, trivial⟩ ?_
                  refine QM.then ?_
                  refine wpM.seq ?_
                  refine wpM.region ?_
                  refine LM.val (ov_move rfl) ?_
                  refine LM.val (ov_move rfl) ?_
                  refine LM.val (ov_move rfl) ?_
                  refine LM.val (ov_move rfl) ?_
                  first | refine LM.val (ov_idx10 Try.underlying26 Try.sizeOf3 rfl rfl (by omega)) ?_ | refine LM.val (ov_idx1 Try.underlying26 Try.sizeOf3 rfl rfl (by omega)) ?_
                  refine LM.rd (om_load 0 Try.isAgg3 rfl rfl (arr_getI (by first | omega | (rw [List.length_set]; omega)))) ?_
                  refine LM.val (ov_move rfl) ?_
                  refine LM.val (ov_add64 rfl rfl (by omega)) ?_
                  first | refine LM.val (ov_idx10 Try.underlying26 Try.sizeOf3 rfl rfl (by omega)) ?_ | refine LM.val (ov_idx1 Try.underlying26 Try.sizeOf3 rfl rfl (by omega)) ?_
                  refine LM.storeI 0 Try.sizeOf3 rfl rfl rfl (by first | omega | (rw [List.length_set]; omega)) (fun hlt => absurd hlt (by omega)) ?_
                  refine LM.nil ?_
                  refine QM.sub (e' := [(10, _)]) ⟨rfl, trivial⟩ ?_
                  refine QM.then ?_
                  refine wpM.seq ?_
                  refine wpM.region ?_
                  refine LM.val (ov_move rfl) ?_
                  refine LM.val (ov_assign rfl) ?_
                  refine LM.val (ov_assign rfl) ?_
                  refine LM.nil ?_
                  refine QM.sub (e' := [(8, _), (9, _)]) ⟨rfl, rfl, trivial⟩ ?_
                  refine QM.then ?_
                  refine wpM.ret ?_
                  refine QM.leave (.inl rfl) [.tmp 8, .tmp 9] Try.results32 rfl ?_
                  intro w' hm' hc' hg'
                  -- leaf 9: h1- h2- h3- h4- h5- h6- h7- h8-
                  first | exact ⟨hc', [], LendT.err (lendErr1 (by omega)) (by decide) _, Mem.nil _, fun p hp => by cases hp⟩ | exact ⟨hc', [], LendT.err (lendErr4 (by omega) (by omega)) (by decide) _, Mem.nil _, fun p hp => by cases hp⟩ | exact ⟨hc', [], LendT.err (lendErr2 (by omega) (by omega) (by omega)) (by decide) _, Mem.nil _, fun p hp => by cases hp⟩ | skip
                  all_goals (have he0 := lendErr0 (l := bringL xs) (i := i) (j := j) (n := n) (by omega) (by omega) (by omega))
                  all_goals (rw [getD_set_ne hij] at hm'; have hL : lendL (bringL xs) i j n = ((bringL xs).set i.toNat ((bringL xs).getD i.toNat 0 - n)).set j.toNat ((bringL xs).getD j.toNat 0 + n) := (by unfold lendL; rw [if_pos he0]); rw [← hL] at hm'; have hLl : (lendL (bringL xs) i j n).length = (bringL xs).length := (by rw [hL]; simp); refine ⟨hc', _, ⟨_, by simp only [resV]; rw [he0], .inr ⟨b, cap2, junk, hb, ?_, rfl, ?_, hmx, ?_⟩⟩, hm'.sub (List.Sublist.refl _), fun p hp => by rw [List.mem_singleton] at hp; subst hp; exact hb⟩)
                  all_goals first | (rw [hLl]; done) | (rw [hLl]; rfl) | (rw [hLl]; assumption)

set_option maxRecDepth 100000 in
theorem ints_spec {xs ys : List Int} {ad ad' : Option Addr} {cap cap' : Nat} (w : World) (ha : Sr fI 1 xs (.slice ad xs.length cap) w) (hb : Sr fI 1 ys (.slice ad' ys.length cap') w) (hx : xs.length ≤ 1000) : Ret Try.prog 33 #[.slice ad xs.length cap, .slice ad' ys.length cap'] w (fun v w' => v = .bool (decide (xs = ys)) ∧ Ext w w') := by
  obtain ⟨-, hca, hna⟩ := ha.open; obtain ⟨-, hcb, hnb⟩ := hb.open
  refine Ret.enterM (l := [.slice ad xs.length cap, .slice ad' ys.length cap']) Try.func33 rfl Try.ntmps33 rfl ([]) (no) (Mem.nil w) ?_
  refine wpM.seq ?_
  refine wpM.region ?_
  refine LM.val (ov_assign rfl) ?_
  refine LM.nil ?_
  refine QM.sub (e' := [(0, _), (1, _)]) ⟨rfl, rfl, trivial⟩ ?_
  refine QM.then ?_
  refine wpM.seq ?_
  refine wpM.seq ?_
  refine wpM.region ?_
  refine LM.val (ov_move rfl) ?_
  refine LM.val (ov_len Try.underlying26 rfl) ?_
  refine LM.val (ov_move rfl) ?_
  refine LM.val (ov_len Try.underlying26 rfl) ?_
  refine LM.val (ov_neq rfl rfl) ?_
  refine LM.nil ?_
  refine QM.sub (e' := [(0, _), (1, _), (10, _)]) ⟨rfl, rfl, rfl, trivial⟩ ?_
  refine QM.then ?_
  first | refine wpM.condD rfl (fun h1 => ?_) (fun h1 => ?_) | refine wpM.condB rfl (fun h1 => ?_) (fun h1 => ?_)
  ·
    refine wpM.seq ?_
    refine wpM.region ?_
    refine LM.val (ov_assign rfl) ?_
    refine LM.nil ?_
    refine QM.sub (e' := [(4, _)]) ⟨rfl, trivial⟩ ?_
    refine QM.then ?_
    refine wpM.ret ?_
    refine QM.then_ret ?_
    refine QM.leave (.inl rfl) [.tmp 4] Try.results33 rfl ?_
    intro w' hm' hc' hg'
    -- leaf 1: h1+
    refine ⟨?_, hc'⟩; simp only [resV]; rw [decide_eq_false]; intro h; rw [h] at h1; exact h1 rfl
  ·
    refine wpM.skip ?_
    refine QM.then ?_
    refine wpM.seq ?_
    refine wpM.seq ?_
    refine wpM.region ?_
    have hlen : xs.length = ys.length := (by omega)
    refine LM.val (ov_move rfl) ?_
    refine LM.val (ov_len Try.underlying26 rfl) ?_
    refine LM.val (ov_move rfl) ?_
    refine LM.nil ?_
    refine QM.sub (e' := [(0, _), (1, _), (12, _), (13, _)]) ⟨rfl, rfl, rfl, rfl, trivial⟩ ?_
    refine QM.then ?_
    refine wpM.block ?_
    refine wpM.loop (α := Nat) (fun k => [(0, .slice ad xs.length cap), (1, .slice ad' ys.length cap'), (12, .int .i64 (xs.length : Nat)), (13, .int .i64 k)]) (fun k => []) (fun k => k ≤ xs.length ∧ xs.take k = ys.take k) (fun k => xs.length - k) 0 ⟨rfl, rfl, rfl, rfl, trivial⟩ (fun _ hm => hm) ⟨Nat.zero_le _, rfl⟩ ?_
    rintro k ⟨hk, ht⟩
    refine wpM.seq ?_
    refine wpM.region ?_
    refine LM.val (ov_lss rfl rfl) ?_
    refine LM.nil ?_
    refine QM.sub (e' := [(0, _), (1, _), (12, _), (13, _), (14, _)]) ⟨rfl, rfl, rfl, rfl, rfl, trivial⟩ ?_
    refine QM.then ?_
    refine wpM.seq ?_
    first | refine wpM.condD rfl (fun h2 => ?_) (fun h2 => ?_) | refine wpM.condB rfl (fun h2 => ?_) (fun h2 => ?_)
    ·
      refine wpM.skip ?_
      refine QM.then ?_
      refine wpM.seq ?_
      refine wpM.block ?_
      refine wpM.seq ?_
      refine wpM.region ?_
      obtain ⟨b, off, cs, E, fz, had, hb1, hr⟩ := hna (by omega); obtain ⟨b', off', cs', E', fz', had', hb1', hr'⟩ := hnb (by omega)
      refine LM.val (ov_move rfl) ?_
      refine LM.val (ov_assign rfl) ?_
      refine LM.nil ?_
      refine QM.sub (e' := [(0, _), (1, _), (5, _), (12, _), (13, _)]) ⟨rfl, rfl, rfl, rfl, rfl, trivial⟩ ?_
      refine QM.then ?_
      refine wpM.seq ?_
      refine wpM.draw [(0, 0), (1, 0), (2, 0), (3, 1), (4, 0), (5, 0), (6, 0), (7, 1), (8, 0)] (by kernel_rfl) (by kernel_rfl) ?_
      refine LD.val rfl rfl (ov_move rfl) ?_
      refine LD.val rfl rfl (ov_move rfl) ?_
      refine LD.val rfl rfl (ov_idx1E had Try.underlying26 Try.sizeOf3 rfl rfl (by omega)) ?_
      refine LD.rdC rfl rfl (om_srI Try.isAgg3 rfl hb1 hr (by omega) id) ?_
      refine LD.val rfl rfl (ov_move rfl) ?_
      refine LD.val rfl rfl (ov_move rfl) ?_
      refine LD.val rfl rfl (ov_idx1E had' Try.underlying26 Try.sizeOf3 rfl rfl (by omega)) ?_
      refine LD.rdC rfl rfl (om_srI Try.isAgg3 rfl hb1' hr' (by omega) id) ?_
      refine LD.val rfl rfl (ov_neq rfl rfl) ?_
      refine LD.nil ?_
      refine QM.sub (e' := [(0, _), (1, _), (12, _), (13, _), (24, _)]) ⟨rfl, rfl, rfl, rfl, rfl, trivial⟩ ?_
      refine QM.then ?_
      first | refine wpM.condD rfl (fun h3 => ?_) (fun h3 => ?_) | refine wpM.condB rfl (fun h3 => ?_) (fun h3 => ?_)
      ·
        refine wpM.seq ?_
        refine wpM.region ?_
        refine LM.val (ov_assign rfl) ?_
        refine LM.nil ?_
        refine QM.sub (e' := [(4, _)]) ⟨rfl, trivial⟩ ?_
        refine QM.then ?_
        refine wpM.ret ?_
        refine QM.block_ret ?_
        refine QM.then_ret ?_
        refine QM.then_ret ?_
        refine QM.block_ret ?_
        refine QM.then_ret ?_
        refine QM.leave (.inl rfl) [.tmp 4] Try.results33 rfl ?_
        intro w' hm' hc' hg'
        -- leaf 2: h1- h2+ h3+
        refine ⟨?_, hc'⟩; simp only [resV]; rw [decide_eq_false]; intro h; rw [h] at h3; exact h3 rfl
      ·
        refine wpM.skip ?_
        refine QM.block_normal ?_
        refine QM.then ?_
        refine wpM.region ?_
        refine LM.val (ov_add64 rfl rfl (by omega)) ?_
        refine LM.val (ov_move rfl) ?_
        refine LM.nil ?_
        refine QM.sub (e' := [(0, _), (1, _), (12, _), (13, _)]) ⟨rfl, rfl, rfl, rfl, trivial⟩ ?_
        exact QM.again (k + 1) ⟨rfl, rfl, rfl, rfl, trivial⟩ (fun _ hm => hm) ⟨by omega, by rw [take_succ_getD (by omega), take_succ_getD (by omega), ht]; congr 2; rw [Int.toNat_natCast] at h3; exact Classical.not_not.1 h3⟩ (by omega)
    ·
      refine wpM.exit ?_
      refine QM.then_exit ?_
      refine QM.then_exit ?_
      refine QM.block_hit ?_
      refine QM.then ?_
      refine wpM.seq ?_
      refine wpM.region ?_
      refine LM.val (ov_assign rfl) ?_
      refine LM.nil ?_
      refine QM.sub (e' := [(4, _)]) ⟨rfl, trivial⟩ ?_
      refine QM.then ?_
      refine wpM.ret ?_
      refine QM.leave (.inl rfl) [.tmp 4] Try.results33 rfl ?_
      intro w' hm' hc' hg'
      -- leaf 3: h1- h2-
      refine ⟨?_, hc'⟩; simp only [resV]; rw [decide_eq_true]; rw [List.take_of_length_le (by omega), List.take_of_length_le (by omega)] at ht; exact ht

end Go.Eng

