/- The walks of who waits for whom: what comes to one, chains, cycles. No condition. -/
import Derived.Test.YtpemcncnehhgfaaDoorGraph
import Derived.Test.YtpemcncnehhgfaaDoorGraphLaw2
set_option linter.unusedVariables false
set_option linter.unusedSimpArgs false
namespace Go.Eng
open Go Go.Proofs Go.RowKit

theorem ot_zero_and {G : Gr} {X : BitVec 64} {w i : Nat} (h : hasB X (i : Nat) = false) (hb : (!hasB X (i : Nat) && decide (ot G i &&& withS X w ≠ 0#64)) = false) : ot G i &&& withS X w = 0#64 := by
  rw [h] at hb; simpa using hb
structure BhI (G : Gr) (w : Nat) (X : BitVec 64) : Prop where
  sound : ∀ i : Nat, hasB X i = true → Rch G (ot G i) w
theorem BhI.zero (G : Gr) (w : Nat) : BhI G w 0#64 := ⟨fun i h => by rw [hasB_zero] at h; cases h⟩
theorem BhI.put {G : Gr} {w : Nat} {X : BitVec 64} {i : Nat} (h : BhI G w X) (hw : w < 64) (hb : (!hasB X (i : Nat) && decide (ot G i &&& withS X w ≠ 0#64)) = true) : BhI G w (withS X (i : Nat)) ∧ (i < 64 → card X < card (withS X (i : Nat))) := by
  rw [Bool.and_eq_true, Bool.not_eq_true', decide_eq_true_eq] at hb
  refine ⟨⟨fun j hj => ?_⟩, fun hi => card_with (by omega) (by omega) hb.1⟩
  rw [hasB_withS, Bool.or_eq_true] at hj
  rcases hj with hj | hj
  · exact h.sound j hj
  · simp only [Bool.and_eq_true, decide_eq_true_eq] at hj
    have : j = i := by omega
    subst this
    obtain ⟨k, hk⟩ : ∃ k : Nat, hasB (ot G j &&& withS X w) k = true := by
      apply Classical.byContradiction; intro hn; apply hb.2
      apply set_ext; intro k _; rw [hasB_zero]
      cases h2 : hasB (ot G j &&& withS X w) k
      · rfl
      · exact absurd ⟨k, h2⟩ hn
    rw [hasB_and, Bool.and_eq_true, hasB_withS, Bool.or_eq_true] at hk
    rcases hk.2 with h3 | h3
    · exact .trans (.base hk.1) (h.sound k h3)
    · simp only [Bool.and_eq_true, decide_eq_true_eq] at h3
      have : k = w := by omega
      subst this; exact .base hk.1
def BhD (G : Gr) (w n : Nat) (X : BitVec 64) : Prop := ∀ i : Nat, i < n → hasB X i = false → ot G i &&& withS X w = 0#64
set_option maxRecDepth 100000 in
theorem gbehind_spec (b : Nat) (G : Gr) (who : Int) (w : World) (hG : G.length = 64) (hM : Mem w [gB b G]) : Ret Tryd.prog 30 #[.pointer (some ⟨b, 0, none⟩), .int .i64 who] w (fun v w' => v = U (bhdG G who) ∧ Ext w w') := by
  refine Ret.enterM (l := [.pointer (some ⟨b, 0, none⟩), .int .i64 who]) Tryd.func30 rfl Tryd.ntmps30 rfl ([gB b G]) (no) hM ?_
  refine wpM.seq ?_
  refine wpM.region ?_
  refine LM.val (ov_assign rfl) ?_
  refine LM.nil ?_
  refine QM.sub (e' := [(0, _), (1, _)]) ⟨rfl, rfl, trivial⟩ ?_
  refine QM.then ?_
  refine wpM.seq ?_
  refine wpM.seq ?_
  refine wpM.region ?_
  refine LM.val (ov_move rfl) ?_
  refine LM.val (ov_move rfl) ?_
  refine LM.callE (oc_call (enters_fn Tryd.func59 (by kernel_rfl) rfl) rfl) (fun w hm hc hg => is_spec _ _ w) ?_
  first | refine LM.val (ov_notD rfl) ?_ | refine LM.val (ov_not rfl) ?_
  refine LM.nil ?_
  refine QM.sub (e' := [(0, _), (1, _), (11, _)]) ⟨rfl, rfl, rfl, trivial⟩ ?_
  refine QM.then ?_
  first | refine wpM.condD rfl (fun h1 => ?_) (fun h1 => ?_) | refine wpM.condB rfl (fun h1 => ?_) (fun h1 => ?_)
  ·
    refine wpM.seq ?_
    refine wpM.region ?_
    refine LM.val (ov_assign rfl) ?_
    refine LM.nil ?_
    refine QM.sub (e' := [(4, _)]) ⟨rfl, trivial⟩ ?_
    refine QM.then ?_
    refine wpM.ret ?_
    refine QM.then_ret ?_
    refine QM.leave (.inl rfl) [.tmp 4] Tryd.results30 rfl ?_
    intro w' hm' hc' hg'
    -- leaf 1: h1+
    refine ⟨?_, hc'⟩; simp only [resV, bhdG]; rw [if_neg (by simpa using h1)]; rfl
  ·
    have hin := inG_iff.1 (show inG who = true by simpa using h1); have hwn : ((who.toNat : Nat) : Int) = who := (by omega)
    refine wpM.skip ?_
    refine QM.then ?_
    refine wpM.seq ?_
    refine wpM.region ?_
    refine LM.val (ov_assign rfl) ?_
    refine LM.nil ?_
    refine QM.sub (e' := [(0, _), (1, _), (5, _)]) ⟨rfl, rfl, rfl, trivial⟩ ?_
    refine QM.then ?_
    refine wpM.seq ?_
    refine wpM.seq ?_
    refine wpM.region ?_
    refine LM.val (ov_assign rfl) ?_
    refine LM.nil ?_
    refine QM.sub (e' := [(0, _), (1, _), (5, _), (6, _)]) ⟨rfl, rfl, rfl, rfl, trivial⟩ ?_
    refine QM.then ?_
    refine wpM.block ?_
    refine wpM.loopK0 (α := BitVec 64 × Bool) (fun ⟨X, gr⟩ => [(5, U X), (6, .bool gr)]) [(0, _), (1, _)] (fun ⟨X, gr⟩ => [gB b G]) (fun ⟨X, gr⟩ => BhI G who.toNat X ∧ (gr = false → BhD G who.toNat 64 X)) (fun ⟨X, gr⟩ => 2 * (64 - card X) + gr.toNat) ((0#64, true)) ⟨(by first | rfl | exact lk rfl (by congr 1; omega) | exact lk rfl (by simp)), (by first | rfl | exact lk rfl (by congr 1; omega) | exact lk rfl (by simp)), rfl, rfl, trivial⟩ (by (repeat' (first | exact SubM.nil _ | refine SubM.cons rfl ?_ | refine SubM.app ?_))) ⟨BhI.zero _ _, fun h => by cases h⟩ ?_
    rintro ⟨X, gr⟩ ⟨hX, hd⟩
    change wpM _ _ _ _ _ _ _ ([gB b G]) _ _ _
    refine wpM.seq ?_
    refine wpM.seq ?_
    refine wpM.region ?_
    refine LM.val (ov_move rfl) ?_
    refine LM.nil ?_
    refine QM.sub (e' := [(0, _), (1, _), (5, _), (12, _)]) ⟨rfl, rfl, rfl, rfl, trivial⟩ ?_
    refine QM.then ?_
    first | refine wpM.condD rfl (fun h2 => ?_) (fun h2 => ?_) | refine wpM.condB rfl (fun h2 => ?_) (fun h2 => ?_)
    ·
      refine wpM.skip ?_
      refine QM.then ?_
      refine wpM.block ?_
      refine wpM.seq ?_
      refine wpM.region ?_
      refine LM.val (ov_assign rfl) ?_
      refine LM.nil ?_
      refine QM.sub (e' := [(0, _), (1, _), (5, _), (6, _)]) ⟨rfl, rfl, rfl, rfl, trivial⟩ ?_
      refine QM.then ?_
      refine wpM.seq ?_
      refine wpM.region ?_
      refine LM.val (ov_move rfl) ?_
      refine LM.nil ?_
      refine QM.sub (e' := [(0, _), (1, _), (5, _), (6, _), (13, _)]) ⟨rfl, rfl, rfl, rfl, rfl, trivial⟩ ?_
      refine QM.then ?_
      refine wpM.block ?_
      refine wpM.loopK0 (α := Nat × BitVec 64 × Bool) (fun ⟨i, Y, gr2⟩ => [(5, U Y), (6, .bool gr2), (13, .int .i64 (i : Nat))]) [(0, _), (1, _)] (fun ⟨i, Y, gr2⟩ => [gB b G]) (fun ⟨i, Y, gr2⟩ => i ≤ 64 ∧ BhI G who.toNat Y ∧ (gr2 = true → card X < card Y) ∧ (gr2 = false → Y = X ∧ BhD G who.toNat i X)) (fun ⟨i, Y, gr2⟩ => 64 - i) ((0, X, false)) ⟨(by first | rfl | exact lk rfl (by congr 1; omega) | exact lk rfl (by simp)), (by first | rfl | exact lk rfl (by congr 1; omega) | exact lk rfl (by simp)), (by first | rfl | exact lk rfl (by congr 1; omega) | exact lk rfl (by simp)), rfl, rfl, trivial⟩ (by (repeat' (first | exact SubM.nil _ | refine SubM.cons rfl ?_ | refine SubM.app ?_))) ⟨Nat.zero_le _, hX, (fun h => by cases h), (fun _ => ⟨rfl, fun j hj => by omega⟩)⟩ ?_
      rintro ⟨i, Y, gr2⟩ ⟨hi, hY, ht, hf⟩
      change wpM _ _ _ _ _ _ _ ([gB b G]) _ _ _
      refine wpM.seq ?_
      refine wpM.region ?_
      refine LM.val (ov_lss rfl rfl) ?_
      refine LM.nil ?_
      refine QM.sub (e' := [(0, _), (1, _), (5, _), (6, _), (13, _), (14, _)]) ⟨rfl, rfl, rfl, rfl, rfl, rfl, trivial⟩ ?_
      refine QM.then ?_
      refine wpM.seq ?_
      first | refine wpM.condD rfl (fun h3 => ?_) (fun h3 => ?_) | refine wpM.condB rfl (fun h3 => ?_) (fun h3 => ?_)
      ·
        refine wpM.skip ?_
        refine QM.then ?_
        refine wpM.seq ?_
        refine wpM.block ?_
        refine wpM.seq ?_
        refine wpM.region ?_
        refine LM.val (ov_move rfl) ?_
        refine LM.val (ov_assign rfl) ?_
        refine LM.nil ?_
        refine QM.sub (e' := [(0, _), (1, _), (5, _), (6, _), (7, _), (13, _)]) ⟨rfl, rfl, rfl, rfl, rfl, rfl, trivial⟩ ?_
        refine QM.then ?_
        refine wpM.seq ?_
        refine wpM.joinK (α := Bool) (fun bb => [(32, .bool bb)]) [(0, _), (1, _), (5, _), (6, _), (7, _), (13, _)] (fun bb => [gB b G]) (fun bb => bb = (!hasB Y (i : Nat) && decide (ot G i &&& withS Y who.toNat ≠ 0#64))) ⟨rfl, rfl, rfl, rfl, rfl, rfl, trivial⟩ ?_ ?_
        ·
          refine wpM.draw [(0, 0), (1, 0), (2, 2), (3, 0), (4, 0), (5, 0), (6, 0), (7, 0), (8, 0), (9, 0), (10, 1), (11, 0), (12, 0), (13, 2), (14, 0), (15, 0), (16, 0)] (by kernel_rfl) (by kernel_rfl) ?_
          refine LD.val rfl rfl (ov_move rfl) ?_
          refine LD.val rfl rfl (ov_move rfl) ?_
          refine LD.callE rfl rfl (oc_call (enters_fn Tryd.func19 (by kernel_rfl) rfl) rfl) (fun w hm hc hg => has_spec _ _ w) ?_
          first | refine LD.val rfl rfl (ov_notD rfl) ?_ | refine LD.val rfl rfl (ov_not rfl) ?_
          refine LD.val rfl rfl (ov_move rfl) ?_
          first | refine LD.splitD (t := 20) rfl (fun h4 => ?_) (fun h4 => ?_) | refine LD.splitB (t := 20) rfl (fun h4 => ?_) (fun h4 => ?_)
          ·
            refine LD.val rfl ⟨20, _, rfl, rfl, rfl⟩ (ov_move rfl) ?_
            refine LD.val rfl ⟨20, _, rfl, rfl, rfl⟩ (ov_move rfl) ?_
            refine LD.val rfl ⟨20, _, rfl, rfl, rfl⟩ (ov_nilCheck rfl) ?_
            refine LD.val rfl ⟨20, _, rfl, rfl, rfl⟩ (ov_field Tryd.underlying85 rfl Tryd.sizeOf83 rfl (k := 0) rfl rfl) ?_
            first | refine LD.val rfl ⟨20, _, rfl, rfl, rfl⟩ (ov_idxAN Tryd.underlying83 Tryd.sizeOf23 rfl rfl (by omega)) ?_ | refine LD.val rfl ⟨20, _, rfl, rfl, rfl⟩ (ov_idxA Tryd.underlying83 Tryd.sizeOf23 rfl rfl (by omega)) ?_
            first | refine LD.rd rfl ⟨20, _, rfl, rfl, rfl⟩ (om_ldE1 (by intro _; rfl) Tryd.isAgg23 rfl rfl rfl (getq 0#64 (by omega)) (by rfl)) ?_ | refine LD.rd rfl ⟨20, _, rfl, rfl, rfl⟩ (om_ld Tryd.isAgg23 rfl rfl) ?_
            refine LD.val rfl ⟨20, _, rfl, rfl, rfl⟩ (ov_move rfl) ?_
            refine LD.val rfl ⟨20, _, rfl, rfl, rfl⟩ (ov_move rfl) ?_
            refine LD.callE rfl ⟨20, _, rfl, rfl, rfl⟩ (oc_call (enters_fn Tryd.func21 (by kernel_rfl) rfl) rfl) (fun w hm hc hg => with_spec _ _ w) ?_
            refine LD.val rfl ⟨20, _, rfl, rfl, rfl⟩ (ov_uand rfl rfl) ?_
            refine LD.val rfl ⟨20, _, rfl, rfl, rfl⟩ (ov_uneq (b := 0#64) rfl rfl) ?_
            refine LD.val rfl rfl (ov_pickT rfl rfl) ?_
            refine LD.nil ?_
            refine QM.sub (e' := [(0, _), (1, _), (5, _), (6, _), (7, _), (13, _), (32, _)]) ⟨rfl, rfl, rfl, rfl, rfl, rfl, rfl, trivial⟩ ?_
            -- meet1: h1- h2+ h3+ h4+
            refine QM.meetK (_) ⟨(by first | rfl | exact lk rfl (by congr 1; omega) | exact lk rfl (by simp)), rfl, rfl, rfl, rfl, rfl, rfl, trivial⟩ (by (repeat' (first | exact SubM.nil _ | refine SubM.cons rfl ?_ | refine SubM.app ?_))) ?_
            · first | (rw [hwn]; simp only [h1, h2, h3, h4, decide_true, decide_false, Bool.true_and, Bool.false_and, Bool.and_true, Bool.and_false, Bool.not_true, Bool.not_false, Bool.true_or, Bool.false_or, Bool.or_true, Bool.or_false, ne_eq, not_true_eq_false, not_false_eq_true, Bool.and_self]; done) | (rw [hwn]; simp only [h1, h2, h3, h4, decide_true, decide_false, Bool.true_and, Bool.false_and, Bool.and_true, Bool.and_false, Bool.not_true, Bool.not_false, Bool.true_or, Bool.false_or, Bool.or_true, Bool.or_false, ne_eq, not_true_eq_false, not_false_eq_true, Bool.and_self]; rfl)
          ·
            refine LD.drop rfl rfl ⟨20, _, rfl, rfl, rfl⟩ ?_
            refine LD.drop rfl rfl ⟨20, _, rfl, rfl, rfl⟩ ?_
            refine LD.drop rfl rfl ⟨20, _, rfl, rfl, rfl⟩ ?_
            refine LD.drop rfl rfl ⟨20, _, rfl, rfl, rfl⟩ ?_
            refine LD.drop rfl rfl ⟨20, _, rfl, rfl, rfl⟩ ?_
            refine LD.drop rfl rfl ⟨20, _, rfl, rfl, rfl⟩ ?_
            refine LD.drop rfl rfl ⟨20, _, rfl, rfl, rfl⟩ ?_
            refine LD.drop rfl rfl ⟨20, _, rfl, rfl, rfl⟩ ?_
            refine LD.drop rfl rfl ⟨20, _, rfl, rfl, rfl⟩ ?_
            refine LD.drop rfl rfl ⟨20, _, rfl, rfl, rfl⟩ ?_
            refine LD.drop rfl rfl ⟨20, _, rfl, rfl, rfl⟩ ?_
            refine LD.val rfl rfl (ov_pickF rfl rfl) ?_
            refine LD.nil ?_
            refine QM.sub (e' := [(0, _), (1, _), (5, _), (6, _), (7, _), (13, _), (32, _)]) ⟨rfl, rfl, rfl, rfl, rfl, rfl, rfl, trivial⟩ ?_
            -- meet2: h1- h2+ h3+ h4-
            refine QM.meetK (_) ⟨(by first | rfl | exact lk rfl (by congr 1; omega) | exact lk rfl (by simp)), rfl, rfl, rfl, rfl, rfl, rfl, trivial⟩ (by (repeat' (first | exact SubM.nil _ | refine SubM.cons rfl ?_ | refine SubM.app ?_))) ?_
            · first | (rw [hwn]; simp only [h1, h2, h3, h4, decide_true, decide_false, Bool.true_and, Bool.false_and, Bool.and_true, Bool.and_false, Bool.not_true, Bool.not_false, Bool.true_or, Bool.false_or, Bool.or_true, Bool.or_false, ne_eq, not_true_eq_false, not_false_eq_true, Bool.and_self]; done) | (rw [hwn]; simp only [h1, h2, h3, h4, decide_true, decide_false, Bool.true_and, Bool.false_and, Bool.and_true, Bool.and_false, Bool.not_true, Bool.not_false, Bool.true_or, Bool.false_or, Bool.or_true, Bool.or_false, ne_eq, not_true_eq_false, not_false_eq_true, Bool.and_self]; rfl)
        ·
          rintro bb hb32
          change QM _ _ _ _ _ ([gB b G]) _ _ _
          subst hb32
          refine QM.then ?_
          first | refine wpM.condD rfl (fun h5 => ?_) (fun h5 => ?_) | refine wpM.condB rfl (fun h5 => ?_) (fun h5 => ?_)
          ·
            refine wpM.seq ?_
            refine wpM.region ?_
            refine LM.val (ov_move rfl) ?_
            refine LM.val (ov_move rfl) ?_
            refine LM.callE (oc_call (enters_fn Tryd.func21 (by kernel_rfl) rfl) rfl) (fun w hm hc hg => with_spec _ _ w) ?_
            refine LM.val (ov_assign rfl) ?_
            refine LM.nil ?_
            refine QM.sub (e' := [(0, _), (1, _), (5, _), (13, _)]) ⟨rfl, rfl, rfl, rfl, trivial⟩ ?_
            refine QM.then ?_
            refine wpM.region ?_
            refine LM.val (ov_assign rfl) ?_
            refine LM.nil ?_
            refine QM.sub (e' := [(0, _), (1, _), (5, _), (6, _), (13, _)]) ⟨rfl, rfl, rfl, rfl, rfl, trivial⟩ ?_
            refine QM.block_normal ?_
            refine QM.then ?_
            refine wpM.region ?_
            refine LM.val (ov_add64 rfl rfl (by omega)) ?_
            refine LM.val (ov_move rfl) ?_
            refine LM.nil ?_
            refine QM.sub (e' := [(0, _), (1, _), (5, _), (6, _), (13, _)]) ⟨rfl, rfl, rfl, rfl, rfl, trivial⟩ ?_
            -- again1: h1- h2+ h3+ h5+
            refine QM.againK (i + 1, withS Y (i : Nat), true) ⟨(by first | rfl | exact lk rfl (by congr 1; omega) | exact lk rfl (by simp)), (by first | rfl | exact lk rfl (by congr 1; omega) | exact lk rfl (by simp)), (by first | rfl | exact lk rfl (by congr 1; omega) | exact lk rfl (by simp)), rfl, rfl, trivial⟩ (by (repeat' (first | exact SubM.nil _ | refine SubM.cons rfl ?_ | refine SubM.app ?_))) (fun _ h => h) ?_ ?_
            · obtain ⟨hp1, hp2⟩ := hY.put (by omega) h5; exact ⟨by omega, hp1, fun _ => by have := hp2 (by omega); cases gr2 with | false => (have e := (hf rfl).1; rw [e] at this ⊢; exact this) | true => (have := ht rfl; omega), fun h => by cases h⟩
            · first | omega | (dsimp only; omega)
          ·
            refine wpM.skip ?_
            refine QM.block_normal ?_
            refine QM.then ?_
            refine wpM.region ?_
            refine LM.val (ov_add64 rfl rfl (by omega)) ?_
            refine LM.val (ov_move rfl) ?_
            refine LM.nil ?_
            refine QM.sub (e' := [(0, _), (1, _), (5, _), (6, _), (13, _)]) ⟨rfl, rfl, rfl, rfl, rfl, trivial⟩ ?_
            -- again2: h1- h2+ h3+ h5-
            refine QM.againK (i + 1, Y, gr2) ⟨(by first | rfl | exact lk rfl (by congr 1; omega) | exact lk rfl (by simp)), (by first | rfl | exact lk rfl (by congr 1; omega) | exact lk rfl (by simp)), (by first | rfl | exact lk rfl (by congr 1; omega) | exact lk rfl (by simp)), rfl, rfl, trivial⟩ (by (repeat' (first | exact SubM.nil _ | refine SubM.cons rfl ?_ | refine SubM.app ?_))) (fun _ h => h) ?_ ?_
            · exact ⟨by omega, hY, ht, fun hg => by obtain ⟨e, hd2⟩ := hf hg; subst e; exact ⟨rfl, fun j hj hn => by by_cases hji : j = i; (subst hji; exact ot_zero_and hn h5); exact hd2 j (by omega) hn⟩⟩
            · first | omega | (dsimp only; omega)
      ·
        refine wpM.exit ?_
        refine QM.then_exit ?_
        refine QM.then_exit ?_
        refine QM.block_hit ?_
        refine QM.block_normal ?_
        -- again1: h1- h2+ h3-
        refine QM.againK (Y, gr2) ⟨(by first | rfl | exact lk rfl (by congr 1; omega) | exact lk rfl (by simp)), (by first | rfl | exact lk rfl (by congr 1; omega) | exact lk rfl (by simp)), rfl, rfl, trivial⟩ (by (repeat' (first | exact SubM.nil _ | refine SubM.cons rfl ?_ | refine SubM.app ?_))) (fun _ h => h) ?_ ?_
        · exact ⟨hY, fun hg => by obtain ⟨e, hd2⟩ := hf hg; have hi64 : i = 64 := (by omega); subst hi64; rw [e]; exact hd2⟩
        · dsimp only; have := card_le X; have := card_le Y; cases gr2 with | false => (obtain ⟨e, _⟩ := hf rfl; subst e; rw [h2]; simp) | true => (have := ht rfl; rw [h2]; simp; omega)
    ·
      refine wpM.exit ?_
      refine QM.then_exit ?_
      refine QM.then_exit ?_
      refine QM.block_hit ?_
      refine QM.then ?_
      refine wpM.seq ?_
      refine wpM.region ?_
      refine LM.val (ov_move rfl) ?_
      refine LM.val (ov_assign rfl) ?_
      refine LM.nil ?_
      refine QM.sub (e' := [(4, _)]) ⟨rfl, trivial⟩ ?_
      refine QM.then ?_
      refine wpM.ret ?_
      refine QM.leave (.inl rfl) [.tmp 4] Tryd.results30 rfl ?_
      intro w' hm' hc' hg'
      -- leaf 2: h1- h2-
      refine ⟨?_, hc'⟩; simp only [resV, bhdG]; rw [if_pos (by simpa using h1)]; exact congrArg U (bhd_of (by omega) hX.sound (hd (by simpa using h2)))

set_option maxRecDepth 100000 in
theorem clear_spec (b : Nat) (G : Gr) (who : Int) (w : World) (hG : G.length = 64) (hM : Mem w [gB b G]) : Ret Tryd.prog 36 #[.pointer (some ⟨b, 0, none⟩), .int .i64 who] w (WrP b (.bool (decide (ofG G who ≠ 0#64))) (gO (clrG G who)) w) := by
  refine Ret.enterM (l := [.pointer (some ⟨b, 0, none⟩), .int .i64 who]) Tryd.func36 rfl Tryd.ntmps36 rfl ([gB b G]) ((fun x => x = b)) hM ?_
  refine wpM.seq ?_
  refine wpM.region ?_
  refine LM.val (ov_assign rfl) ?_
  refine LM.nil ?_
  refine QM.sub (e' := [(0, _), (1, _)]) ⟨rfl, rfl, trivial⟩ ?_
  refine QM.then ?_
  refine wpM.seq ?_
  refine wpM.seq ?_
  refine wpM.region ?_
  refine LM.val (ov_move rfl) ?_
  refine LM.val (ov_move rfl) ?_
  refine LM.callE (oc_call (enters_fn Tryd.func31 (by kernel_rfl) rfl) rfl) (fun w hm hc hg => gof_spec b G _ w hG (hm.pick _)) ?_
  refine LM.val (ov_ueql (b := 0#64) rfl rfl) ?_
  refine LM.nil ?_
  refine QM.sub (e' := [(0, _), (1, _), (8, _)]) ⟨rfl, rfl, rfl, trivial⟩ ?_
  refine QM.then ?_
  first | refine wpM.condD rfl (fun h1 => ?_) (fun h1 => ?_) | refine wpM.condB rfl (fun h1 => ?_) (fun h1 => ?_)
  ·
    refine wpM.seq ?_
    refine wpM.region ?_
    refine LM.val (ov_assign rfl) ?_
    refine LM.nil ?_
    refine QM.sub (e' := [(4, _)]) ⟨rfl, trivial⟩ ?_
    refine QM.then ?_
    refine wpM.ret ?_
    refine QM.then_ret ?_
    refine QM.leave (.inl rfl) [.tmp 4] Tryd.results36 rfl ?_
    intro w' hm' hc' hg'
    -- leaf 1: h1+
    refine ⟨by simp only [resV]; rw [decide_eq_false (by simpa using h1)], hc', ?_⟩; unfold clrG; rw [if_pos h1]; exact hm'.at b
  ·
    have hin := inG_iff.1 (show inG who = true by apply Classical.byContradiction; intro hn; apply h1; unfold ofG; rw [if_neg hn])
    refine wpM.skip ?_
    refine QM.then ?_
    refine wpM.seq ?_
    refine wpM.region ?_
    refine LM.val (ov_move rfl) ?_
    refine LM.val (ov_move rfl) ?_
    refine LM.val (ov_nilCheck rfl) ?_
    refine LM.val (ov_field Tryd.underlying85 rfl Tryd.sizeOf83 rfl (k := 0) rfl rfl) ?_
    first | refine LM.val (ov_idxAN Tryd.underlying83 Tryd.sizeOf23 rfl rfl (by omega)) ?_ | refine LM.val (ov_idxA Tryd.underlying83 Tryd.sizeOf23 rfl rfl (by omega)) ?_
    refine LM.stE1 0#64 (by intro _; rfl) Tryd.sizeOf23 rfl rfl rfl rfl (getq 0#64 (by omega)) rfl rfl rfl (fun _ => rfl) ?_
    refine LM.nil ?_
    refine QM.sub (e' := []) trivial ?_
    refine QM.then ?_
    refine wpM.seq ?_
    refine wpM.region ?_
    refine LM.val (ov_assign rfl) ?_
    refine LM.nil ?_
    refine QM.sub (e' := [(4, _)]) ⟨rfl, trivial⟩ ?_
    refine QM.then ?_
    refine wpM.ret ?_
    refine QM.leave (.inl rfl) [.tmp 4] Tryd.results36 rfl ?_
    intro w' hm' hc' hg'
    -- leaf 2: h1-
    refine ⟨by simp only [resV]; rw [decide_eq_true h1], hc', ?_⟩; unfold clrG; rw [if_neg h1]; exact hm'.at b

set_option maxRecDepth 100000 in
theorem chain_spec (b : Nat) (G : Gr) (who : Int) (w : World) (hG : G.length = 64) (hA : Acy G) (hT : Tab w) (hM : Mem w [gB b G]) : Ret Tryd.prog 32 #[.pointer (some ⟨b, 0, none⟩), .int .i64 who] w (New fI 3 1 (chn G 64 who) w) := by
  refine Ret.enterM (l := [.pointer (some ⟨b, 0, none⟩), .int .i64 who]) Tryd.func32 rfl Tryd.ntmps32 rfl ([gB b G]) (no) hM ?_
  refine wpM.seq ?_
  refine wpM.region ?_
  refine LM.val (ov_assign rfl) ?_
  refine LM.nil ?_
  refine QM.sub (e' := [(0, _), (1, _)]) ⟨rfl, rfl, trivial⟩ ?_
  refine QM.then ?_
  refine wpM.seq ?_
  refine wpM.region ?_
  refine LM.val (ov_assign rfl) ?_
  refine LM.nil ?_
  refine QM.sub (e' := [(0, _), (1, _), (5, _)]) ⟨rfl, rfl, rfl, trivial⟩ ?_
  refine QM.then ?_
  refine wpM.seq ?_
  refine wpM.block ?_
  refine wpM.loopK0 (α := Int × List Int × BitVec 64 × Option Addr × Nat × Nat × Mem0) (fun ⟨x, out, V, ad, n, cap, m⟩ => [(1, .int .i64 x), (5, .slice ad n cap)]) [(0, _)] (fun ⟨x, out, V, ad, n, cap, m⟩ => m ++ [gB b G]) (fun ⟨x, out, V, ad, n, cap, m⟩ => n = out.length ∧ Sl fI 3 1 w.heap.size out (.slice ad n cap) m ∧ Met G V x ∧ out.length ≤ card V ∧ out ++ chn G (64 - out.length) x = chn G 64 who) (fun ⟨x, out, V, ad, n, cap, m⟩ => 64 - card V) ((who, [], 0#64, none, 0, 0, [])) ⟨(by first | rfl | exact lk rfl (by congr 1; omega) | exact lk rfl (by simp)), (by first | rfl | exact lk rfl (by congr 1; omega) | exact lk rfl (by simp)), rfl, trivial⟩ (by (repeat' (first | exact SubM.nil _ | refine SubM.cons rfl ?_ | refine SubM.app ?_))) ⟨rfl, .nil _ _ _ _, Met.nil _ _, Nat.zero_le _, rfl⟩ ?_
  rintro ⟨x, out, V, ad, n, cap, m⟩ ⟨hn, hs, hV, hk, ho⟩
  change wpM _ _ _ _ _ _ _ (m ++ [gB b G]) _ _ _
  have hcv := card_le V
  refine wpM.seq ?_
  refine wpM.seq ?_
  refine wpM.region ?_
  refine LM.val (ov_move rfl) ?_
  refine LM.val (ov_move rfl) ?_
  refine LM.callE (oc_call (enters_fn Tryd.func59 (by kernel_rfl) rfl) rfl) (fun w hm hc hg => is_spec _ _ w) ?_
  refine LM.nil ?_
  refine QM.sub (e' := [(0, _), (1, _), (5, _), (8, _)]) ⟨rfl, rfl, rfl, rfl, trivial⟩ ?_
  refine QM.then ?_
  first | refine wpM.condD rfl (fun h1 => ?_) (fun h1 => ?_) | refine wpM.condB rfl (fun h1 => ?_) (fun h1 => ?_)
  ·
    have hin := inG_iff.1 h1; have hfr := hV.fresh hA hin.1 hin.2; have hcw := card_with hin.1 hin.2 hfr; have hcw2 := card_le (withS V x)
    refine wpM.skip ?_
    refine QM.then ?_
    refine wpM.block ?_
    refine wpM.seq ?_
    refine wpM.region ?_
    refine LM.val (ov_move rfl) ?_
    refine LM.val (ov_move rfl) ?_
    refine LM.single Tryd.underlying22 Tryd.sizeOf3 Tryd.zeroValue3 rfl rfl rfl rfl rfl (fun b11 hb11 => ?_)
    refine LM.app Tryd.underlying22 Tryd.typeInfo3 rfl rfl rfl rfl rfl rfl rfl (by assumption) (by rfl) (by intro _; rfl) (by intro _ u hu; simp [fI] at hu; (repeat (first | (rcases hu with rfl | hu) | subst hu | rfl))) (by first | exact Nat.le_refl _ | omega) (fun p hp hlt => absurd hlt (Nat.not_lt_of_le (Sl.ge (by assumption) p hp))) (by first | omega | (unfold maxLen; omega)) (by simp only [Tryd.t3]; omega) (fun ad12 n12 cap12 m12 hn12 hs12 hin12 => ?_)
    refine LM.val (ov_assign rfl) ?_
    refine LM.nil ?_
    refine QM.sub (e' := [(0, _), (1, _), (5, _)]) ⟨rfl, rfl, rfl, trivial⟩ ?_
    refine QM.then ?_
    refine wpM.region ?_
    refine LM.val (ov_move rfl) ?_
    refine LM.val (ov_move rfl) ?_
    refine LM.val (ov_nilCheck rfl) ?_
    refine LM.val (ov_field Tryd.underlying85 rfl Tryd.sizeOf83 rfl (k := 0) rfl rfl) ?_
    first | refine LM.val (ov_idxAN Tryd.underlying83 Tryd.sizeOf23 rfl rfl (by omega)) ?_ | refine LM.val (ov_idxA Tryd.underlying83 Tryd.sizeOf23 rfl rfl (by omega)) ?_
    first | refine LM.rd (om_ldE1 (by intro _; rfl) Tryd.isAgg23 rfl rfl rfl (getq 0#64 (by omega)) (by rfl)) ?_ | refine LM.rd (om_ld Tryd.isAgg23 rfl rfl) ?_
    refine LM.callE (oc_call (enters_fn Tryd.func25 (by kernel_rfl) rfl) rfl) (fun w hm hc hg => first_spec _ w (hT.ext hc)) ?_
    refine LM.val (ov_assign rfl) ?_
    refine LM.nil ?_
    refine QM.sub (e' := [(0, _), (1, _), (5, _)]) ⟨rfl, rfl, rfl, trivial⟩ ?_
    refine QM.block_normal ?_
    -- again1: h1+
    refine QM.againK (firstI (ot G x.toNat), out ++ [x], withS V x, ad12, n12, cap12, m12) ⟨(by first | rfl | exact lk rfl (by congr 1; omega) | exact lk rfl (by simp)), (by first | rfl | exact lk rfl (by congr 1; omega) | exact lk rfl (by simp)), rfl, trivial⟩ (by (repeat' (first | exact SubM.nil _ | refine SubM.cons rfl ?_ | refine SubM.app ?_))) (fun _ h => h) ?_ ?_
    · exact ⟨by simp; omega, hs12, hV.next hin.1 hin.2, by simp; omega, by rw [List.append_assoc, ← ho]; congr 1; rw [show 64 - out.length = (64 - (out ++ [x]).length) + 1 by simp; omega, chn, if_pos hin]; rfl⟩
    · first | omega | (dsimp only; omega)
  ·
    refine wpM.exit ?_
    refine QM.then_exit ?_
    refine QM.then_exit ?_
    refine QM.block_hit ?_
    refine QM.then ?_
    refine wpM.seq ?_
    refine wpM.region ?_
    refine LM.val (ov_move rfl) ?_
    refine LM.val (ov_assign rfl) ?_
    refine LM.nil ?_
    refine QM.sub (e' := [(4, _)]) ⟨rfl, trivial⟩ ?_
    refine QM.then ?_
    refine wpM.ret ?_
    refine QM.leave (.inl rfl) [.tmp 4] Tryd.results32 rfl ?_
    intro w' hm' hc' hg'
    -- leaf 1: h1-
    rw [chn_off _ _ (fun h => by rw [inG_iff.2 h] at h1; cases h1), List.append_nil] at ho; subst ho; exact ⟨hc', m, hs, hm'.pick m⟩

end Go.Eng

