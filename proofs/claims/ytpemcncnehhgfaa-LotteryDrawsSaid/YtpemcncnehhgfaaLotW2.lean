/- The walk of a lottery's second law. No condition. -/
import Derived.Test.YtpemcncnehhgfaaLotW
set_option linter.unusedVariables false
set_option linter.unusedSimpArgs false
namespace Go.Eng
open Go Go.Proofs Go.RowKit

theorem ofNat_ofInt {k : Nat} {n : Int} (hk : k ≤ 1000) (hn : 0 ≤ n ∧ n ≤ 255) : BitVec.ofNat 64 k = BitVec.ofInt 64 n ↔ (k : Int) = n := by
  constructor
  · intro h
    have := congrArg BitVec.toNat h
    rw [toNat_ofInt' (by omega), BitVec.toNat_ofNat] at this
    omega
  · intro h; rw [← h, BitVec.ofInt_natCast]
set_option maxRecDepth 100000 in
theorem lotteryDraws {xs : List Int} {ad : Option Addr} {cap : Nat} (seed : BitVec 64) (n : Int) (w : World) (hl : Sr fI 1 xs (.slice ad xs.length cap) w) (hn : 0 ≤ n ∧ n ≤ 255) : Ret Try.prog 7 #[.slice ad xs.length cap, U seed, .int .u8 n] w (fun v w' => v = .bool true ∧ Ext w w') := by
  refine Ret.enterM (l := [.slice ad xs.length cap, U seed, .int .u8 n]) Try.func7 rfl Try.ntmps7 rfl ([]) (no) (Mem.nil w) ?_
  refine wpM.seq ?_
  refine wpM.region ?_
  refine LM.box rfl rfl (fun b3 hb3 => ?_)
  refine LM.box rfl rfl (fun b4 hb4 => ?_)
  refine LM.box rfl rfl (fun b5 hb5 => ?_)
  refine LM.alloc Try.zeroValue4 rfl (fun b6 hb6 => ?_)
  refine LM.nil ?_
  refine QM.sub (e' := [(3, _), (4, _), (5, _), (6, _)]) ⟨rfl, rfl, rfl, rfl, trivial⟩ ?_
  refine QM.then ?_
  refine wpM.seq ?_
  refine wpM.seq ?_
  refine wpM.region ?_
  refine LM.callE (oc_call (enters_fn Try.func28 (by kernel_rfl) rfl) rfl) (fun w hm hc hg => awake45 w) ?_
  first | refine LM.val (ov_notD rfl) ?_ | refine LM.val (ov_not rfl) ?_
  refine LM.nil ?_
  refine QM.sub (e' := [(3, _), (4, _), (5, _), (6, _), (11, _)]) ⟨rfl, rfl, rfl, rfl, rfl, trivial⟩ ?_
  refine QM.then ?_
  first | refine wpM.condD rfl (fun h1 => ?_) (fun h1 => ?_) | refine wpM.condB rfl (fun h1 => ?_) (fun h1 => ?_)
  ·
    refine wpM.seq ?_
    refine wpM.region ?_
    first | refine LM.store 0 Try.sizeOf4 rfl rfl rfl rfl (by first | decide | (simp; done) | (simp; omega)) rfl (fun hlt => absurd hlt (by omega)) ?_ | refine LM.store 1 Try.sizeOf4 rfl rfl rfl rfl (by first | decide | (simp; done) | (simp; omega)) rfl (fun hlt => absurd hlt (by omega)) ?_ | refine LM.store 2 Try.sizeOf4 rfl rfl rfl rfl (by first | decide | (simp; done) | (simp; omega)) rfl (fun hlt => absurd hlt (by omega)) ?_ | refine LM.store 3 Try.sizeOf4 rfl rfl rfl rfl (by first | decide | (simp; done) | (simp; omega)) rfl (fun hlt => absurd hlt (by omega)) ?_ | refine LM.store 4 Try.sizeOf4 rfl rfl rfl rfl (by first | decide | (simp; done) | (simp; omega)) rfl (fun hlt => absurd hlt (by omega)) ?_ | refine LM.store 5 Try.sizeOf4 rfl rfl rfl rfl (by first | decide | (simp; done) | (simp; omega)) rfl (fun hlt => absurd hlt (by omega)) ?_ | refine LM.store 6 Try.sizeOf4 rfl rfl rfl rfl (by first | decide | (simp; done) | (simp; omega)) rfl (fun hlt => absurd hlt (by omega)) ?_ | refine LM.store 7 Try.sizeOf4 rfl rfl rfl rfl (by first | decide | (simp; done) | (simp; omega)) rfl (fun hlt => absurd hlt (by omega)) ?_ | refine LM.store 8 Try.sizeOf4 rfl rfl rfl rfl (by first | decide | (simp; done) | (simp; omega)) rfl (fun hlt => absurd hlt (by omega)) ?_ | refine LM.store 9 Try.sizeOf4 rfl rfl rfl rfl (by first | decide | (simp; done) | (simp; omega)) rfl (fun hlt => absurd hlt (by omega)) ?_ | refine LM.store 10 Try.sizeOf4 rfl rfl rfl rfl (by first | decide | (simp; done) | (simp; omega)) rfl (fun hlt => absurd hlt (by omega)) ?_ | refine LM.store 11 Try.sizeOf4 rfl rfl rfl rfl (by first | decide | (simp; done) | (simp; omega)) rfl (fun hlt => absurd hlt (by omega)) ?_
    refine LM.nil ?_
    refine QM.sub (e' := [(6, _)]) ⟨rfl, trivial⟩ ?_
    refine QM.then ?_
    refine wpM.ret ?_
    refine QM.then_ret ?_
    first | refine QM.leaveC Try.results7 rfl (lv_cell 0 Try.isAgg4 rfl rfl) ?_ | refine QM.leaveC Try.results7 rfl (lv_cell 1 Try.isAgg4 rfl rfl) ?_ | refine QM.leaveC Try.results7 rfl (lv_cell 2 Try.isAgg4 rfl rfl) ?_ | refine QM.leaveC Try.results7 rfl (lv_cell 3 Try.isAgg4 rfl rfl) ?_ | refine QM.leaveC Try.results7 rfl (lv_cell 4 Try.isAgg4 rfl rfl) ?_ | refine QM.leaveC Try.results7 rfl (lv_cell 5 Try.isAgg4 rfl rfl) ?_ | refine QM.leaveC Try.results7 rfl (lv_cell 6 Try.isAgg4 rfl rfl) ?_ | refine QM.leaveC Try.results7 rfl (lv_cell 7 Try.isAgg4 rfl rfl) ?_ | refine QM.leaveC Try.results7 rfl (lv_cell 8 Try.isAgg4 rfl rfl) ?_ | refine QM.leaveC Try.results7 rfl (lv_cell 9 Try.isAgg4 rfl rfl) ?_ | refine QM.leaveC Try.results7 rfl (lv_cell 10 Try.isAgg4 rfl rfl) ?_ | refine QM.leaveC Try.results7 rfl (lv_cell 11 Try.isAgg4 rfl rfl) ?_
    intro w' hm' hc' hg'
    -- leaf 1: h1+
    first | exact ⟨rfl, hc'⟩ | (refine ⟨?_, hc'⟩; show Value.bool (decide (winI xs seed < 0)) = Value.bool true; rw [hwm]; rfl) | (exfalso; first | omega | contradiction | (simp at *; done))
  ·
    refine wpM.skip ?_
    refine QM.then ?_
    refine wpM.seq ?_
    refine wpM.seq ?_
    refine wpM.region ?_
    first | refine LM.rd (om_load 0 Try.isAgg26 rfl rfl rfl) ?_ | refine LM.rd (om_load 1 Try.isAgg26 rfl rfl rfl) ?_ | refine LM.rd (om_load 2 Try.isAgg26 rfl rfl rfl) ?_ | refine LM.rd (om_load 3 Try.isAgg26 rfl rfl rfl) ?_ | refine LM.rd (om_load 4 Try.isAgg26 rfl rfl rfl) ?_ | refine LM.rd (om_load 5 Try.isAgg26 rfl rfl rfl) ?_ | refine LM.rd (om_load 6 Try.isAgg26 rfl rfl rfl) ?_ | refine LM.rd (om_load 7 Try.isAgg26 rfl rfl rfl) ?_ | refine LM.rd (om_load 8 Try.isAgg26 rfl rfl rfl) ?_ | refine LM.rd (om_load 9 Try.isAgg26 rfl rfl rfl) ?_ | refine LM.rd (om_load 10 Try.isAgg26 rfl rfl rfl) ?_ | refine LM.rd (om_load 11 Try.isAgg26 rfl rfl rfl) ?_
    refine LM.val (ov_len Try.underlying26 rfl) ?_
    refine LM.val (ov_gtr rfl rfl) ?_
    refine LM.nil ?_
    refine QM.sub (e' := [(3, _), (4, _), (5, _), (6, _), (14, _)]) ⟨rfl, rfl, rfl, rfl, rfl, trivial⟩ ?_
    refine QM.then ?_
    first | refine wpM.condD rfl (fun h2 => ?_) (fun h2 => ?_) | refine wpM.condB rfl (fun h2 => ?_) (fun h2 => ?_)
    ·
      refine wpM.seq ?_
      refine wpM.region ?_
      first | refine LM.store 0 Try.sizeOf4 rfl rfl rfl rfl (by first | decide | (simp; done) | (simp; omega)) rfl (fun hlt => absurd hlt (by omega)) ?_ | refine LM.store 1 Try.sizeOf4 rfl rfl rfl rfl (by first | decide | (simp; done) | (simp; omega)) rfl (fun hlt => absurd hlt (by omega)) ?_ | refine LM.store 2 Try.sizeOf4 rfl rfl rfl rfl (by first | decide | (simp; done) | (simp; omega)) rfl (fun hlt => absurd hlt (by omega)) ?_ | refine LM.store 3 Try.sizeOf4 rfl rfl rfl rfl (by first | decide | (simp; done) | (simp; omega)) rfl (fun hlt => absurd hlt (by omega)) ?_ | refine LM.store 4 Try.sizeOf4 rfl rfl rfl rfl (by first | decide | (simp; done) | (simp; omega)) rfl (fun hlt => absurd hlt (by omega)) ?_ | refine LM.store 5 Try.sizeOf4 rfl rfl rfl rfl (by first | decide | (simp; done) | (simp; omega)) rfl (fun hlt => absurd hlt (by omega)) ?_ | refine LM.store 6 Try.sizeOf4 rfl rfl rfl rfl (by first | decide | (simp; done) | (simp; omega)) rfl (fun hlt => absurd hlt (by omega)) ?_ | refine LM.store 7 Try.sizeOf4 rfl rfl rfl rfl (by first | decide | (simp; done) | (simp; omega)) rfl (fun hlt => absurd hlt (by omega)) ?_ | refine LM.store 8 Try.sizeOf4 rfl rfl rfl rfl (by first | decide | (simp; done) | (simp; omega)) rfl (fun hlt => absurd hlt (by omega)) ?_ | refine LM.store 9 Try.sizeOf4 rfl rfl rfl rfl (by first | decide | (simp; done) | (simp; omega)) rfl (fun hlt => absurd hlt (by omega)) ?_ | refine LM.store 10 Try.sizeOf4 rfl rfl rfl rfl (by first | decide | (simp; done) | (simp; omega)) rfl (fun hlt => absurd hlt (by omega)) ?_ | refine LM.store 11 Try.sizeOf4 rfl rfl rfl rfl (by first | decide | (simp; done) | (simp; omega)) rfl (fun hlt => absurd hlt (by omega)) ?_
      refine LM.nil ?_
      refine QM.sub (e' := [(6, _)]) ⟨rfl, trivial⟩ ?_
      refine QM.then ?_
      refine wpM.ret ?_
      refine QM.then_ret ?_
      first | refine QM.leaveC Try.results7 rfl (lv_cell 0 Try.isAgg4 rfl rfl) ?_ | refine QM.leaveC Try.results7 rfl (lv_cell 1 Try.isAgg4 rfl rfl) ?_ | refine QM.leaveC Try.results7 rfl (lv_cell 2 Try.isAgg4 rfl rfl) ?_ | refine QM.leaveC Try.results7 rfl (lv_cell 3 Try.isAgg4 rfl rfl) ?_ | refine QM.leaveC Try.results7 rfl (lv_cell 4 Try.isAgg4 rfl rfl) ?_ | refine QM.leaveC Try.results7 rfl (lv_cell 5 Try.isAgg4 rfl rfl) ?_ | refine QM.leaveC Try.results7 rfl (lv_cell 6 Try.isAgg4 rfl rfl) ?_ | refine QM.leaveC Try.results7 rfl (lv_cell 7 Try.isAgg4 rfl rfl) ?_ | refine QM.leaveC Try.results7 rfl (lv_cell 8 Try.isAgg4 rfl rfl) ?_ | refine QM.leaveC Try.results7 rfl (lv_cell 9 Try.isAgg4 rfl rfl) ?_ | refine QM.leaveC Try.results7 rfl (lv_cell 10 Try.isAgg4 rfl rfl) ?_ | refine QM.leaveC Try.results7 rfl (lv_cell 11 Try.isAgg4 rfl rfl) ?_
      intro w' hm' hc' hg'
      -- leaf 2: h1- h2+
      first | exact ⟨rfl, hc'⟩ | (refine ⟨?_, hc'⟩; show Value.bool (decide (winI xs seed < 0)) = Value.bool true; rw [hwm]; rfl) | (exfalso; first | omega | contradiction | (simp at *; done))
    ·
      refine wpM.skip ?_
      refine QM.then ?_
      refine wpM.seq ?_
      refine wpM.region ?_
      refine LM.alloc Try.zeroValue22 rfl (fun b7 hb7 => ?_)
      first | refine LM.store 0 Try.sizeOf22 rfl rfl rfl rfl (by first | decide | (simp; done) | (simp; omega)) rfl (fun hlt => absurd hlt (by omega)) ?_ | refine LM.store 1 Try.sizeOf22 rfl rfl rfl rfl (by first | decide | (simp; done) | (simp; omega)) rfl (fun hlt => absurd hlt (by omega)) ?_ | refine LM.store 2 Try.sizeOf22 rfl rfl rfl rfl (by first | decide | (simp; done) | (simp; omega)) rfl (fun hlt => absurd hlt (by omega)) ?_ | refine LM.store 3 Try.sizeOf22 rfl rfl rfl rfl (by first | decide | (simp; done) | (simp; omega)) rfl (fun hlt => absurd hlt (by omega)) ?_ | refine LM.store 4 Try.sizeOf22 rfl rfl rfl rfl (by first | decide | (simp; done) | (simp; omega)) rfl (fun hlt => absurd hlt (by omega)) ?_ | refine LM.store 5 Try.sizeOf22 rfl rfl rfl rfl (by first | decide | (simp; done) | (simp; omega)) rfl (fun hlt => absurd hlt (by omega)) ?_ | refine LM.store 6 Try.sizeOf22 rfl rfl rfl rfl (by first | decide | (simp; done) | (simp; omega)) rfl (fun hlt => absurd hlt (by omega)) ?_ | refine LM.store 7 Try.sizeOf22 rfl rfl rfl rfl (by first | decide | (simp; done) | (simp; omega)) rfl (fun hlt => absurd hlt (by omega)) ?_ | refine LM.store 8 Try.sizeOf22 rfl rfl rfl rfl (by first | decide | (simp; done) | (simp; omega)) rfl (fun hlt => absurd hlt (by omega)) ?_ | refine LM.store 9 Try.sizeOf22 rfl rfl rfl rfl (by first | decide | (simp; done) | (simp; omega)) rfl (fun hlt => absurd hlt (by omega)) ?_ | refine LM.store 10 Try.sizeOf22 rfl rfl rfl rfl (by first | decide | (simp; done) | (simp; omega)) rfl (fun hlt => absurd hlt (by omega)) ?_ | refine LM.store 11 Try.sizeOf22 rfl rfl rfl rfl (by first | decide | (simp; done) | (simp; omega)) rfl (fun hlt => absurd hlt (by omega)) ?_
      refine LM.nil ?_
      refine QM.sub (e' := [(3, _), (4, _), (5, _), (6, _), (7, _)]) ⟨rfl, rfl, rfl, rfl, rfl, trivial⟩ ?_
      refine QM.then ?_
      refine wpM.seq ?_
      refine wpM.seq ?_
      refine wpM.region ?_
      first | refine LM.rd (om_load 0 Try.isAgg26 rfl rfl rfl) ?_ | refine LM.rd (om_load 1 Try.isAgg26 rfl rfl rfl) ?_ | refine LM.rd (om_load 2 Try.isAgg26 rfl rfl rfl) ?_ | refine LM.rd (om_load 3 Try.isAgg26 rfl rfl rfl) ?_ | refine LM.rd (om_load 4 Try.isAgg26 rfl rfl rfl) ?_ | refine LM.rd (om_load 5 Try.isAgg26 rfl rfl rfl) ?_ | refine LM.rd (om_load 6 Try.isAgg26 rfl rfl rfl) ?_ | refine LM.rd (om_load 7 Try.isAgg26 rfl rfl rfl) ?_ | refine LM.rd (om_load 8 Try.isAgg26 rfl rfl rfl) ?_ | refine LM.rd (om_load 9 Try.isAgg26 rfl rfl rfl) ?_ | refine LM.rd (om_load 10 Try.isAgg26 rfl rfl rfl) ?_ | refine LM.rd (om_load 11 Try.isAgg26 rfl rfl rfl) ?_
      first | refine LM.rd (om_load 0 Try.isAgg22 rfl rfl rfl) ?_ | refine LM.rd (om_load 1 Try.isAgg22 rfl rfl rfl) ?_ | refine LM.rd (om_load 2 Try.isAgg22 rfl rfl rfl) ?_ | refine LM.rd (om_load 3 Try.isAgg22 rfl rfl rfl) ?_ | refine LM.rd (om_load 4 Try.isAgg22 rfl rfl rfl) ?_ | refine LM.rd (om_load 5 Try.isAgg22 rfl rfl rfl) ?_ | refine LM.rd (om_load 6 Try.isAgg22 rfl rfl rfl) ?_ | refine LM.rd (om_load 7 Try.isAgg22 rfl rfl rfl) ?_ | refine LM.rd (om_load 8 Try.isAgg22 rfl rfl rfl) ?_ | refine LM.rd (om_load 9 Try.isAgg22 rfl rfl rfl) ?_ | refine LM.rd (om_load 10 Try.isAgg22 rfl rfl rfl) ?_ | refine LM.rd (om_load 11 Try.isAgg22 rfl rfl rfl) ?_
      refine LM.callT (oc_call (enters_fn Try.func36 (by kernel_rfl) rfl) rfl) DrawT.mono (fun w hm hc hg => draws_spec ad xs.length cap seed w) ?_
      rintro u17 m17 ⟨c3, c2, rfl, rfl, hc3, hc2⟩ -
      refine LM.nil ?_
      refine QM.sub (e' := [(3, _), (4, _), (5, _), (6, _), (7, _), (17, _)]) ⟨rfl, rfl, rfl, rfl, rfl, rfl, trivial⟩ ?_
      refine QM.then ?_
      refine wpM.block ?_
      refine wpM.range (α := Unit) (β := Unit) (enters_fn Try.func61 (by kernel_rfl) rfl) rfl (draws_seq (ad := ad) (cap := cap) (xs := xs) (n.toNat + 1)) (fun k ⟨⟩ => [uB c3 seed, slB c2 ad xs.length cap] ++ [uB b7 (BitVec.ofNat 64 k), (b6, .cells #[.bool false] 4 (0, 0)), (b5, .cells #[.int .u8 n] 5 (0, 0)), uB b4 seed, slB b3 ad xs.length cap]) (fun _ _ => top) (fun k ⟨⟩ => k ≤ n.toNat) (fun ⟨⟩ => [uB c3 seed, slB c2 ad xs.length cap] ++ [uB b7 (BitVec.ofInt 64 n), (b6, .cells #[.bool false] 4 (0, 0)), (b5, .cells #[.int .u8 n] 5 (0, 0)), uB b4 seed, slB b3 ad xs.length cap]) (fun _ => top) (fun c ⟨⟩ => c = .exit 0) ⟨⟩ rfl (fun _ h => h) (Nat.zero_le _) (by kernel_rfl) (by intro k av hav; obtain ⟨hs0, hk1, rfl⟩ := drawA_inv hav; rfl) (by by_cases h : sumL (bringL xs) = 0; exact .inl h; exact .inr (fun x hI => by rw [drawA_len, if_neg h] at hI; omega)) (fun k x w hm hc _ _ => ⟨hm.sub (.cons_cons _ (.cons_cons _ (List.nil_sublist _))), hl.ext hc⟩) (fun _ _ _ _ => gl_top _) (fun _ _ _ => gl_top _) (fun k x _ => by ((repeat (refine mm_cons rfl ?_)); exact fun p hp => .inl (by first | exact hp | (simp at hp; done) | (simp [hp]; done)))) (fun c z _ => by ((repeat (refine mm_cons rfl ?_)); exact fun p hp => .inl (by first | exact hp | (simp at hp; done) | (simp [hp]; done)))) ?_ ?_ ?_ ?_
      ·
        rintro k av ⟨⟩ l D rc n1 W1 hD hll hput hrc hav hk
        obtain ⟨hs0, hk1, rfl⟩ := drawA_inv hav
        have hki := ofNat_ofInt (k := k) (n := n) (by omega) hn; have hw := (winI_rng xs (seed + BitVec.ofNat 64 k)).2.2.2 hs0
        refine wpM.seq ?_
        refine wpM.region ?_
        refine LM.val (ov_assign rfl) ?_
        refine LM.nil ?_
        refine QM.sub (e' := [(3, _), (4, _), (5, _), (6, _), (7, _), (8, _), (19, _)]) ⟨rfl, rfl, rfl, rfl, rfl, rfl, rfl, trivial⟩ ?_
        refine QM.then ?_
        refine wpM.region ?_
        refine LM.val (ov_assign rfl) ?_
        refine LM.nil ?_
        refine QM.sub (e' := [(3, _), (4, _), (5, _), (6, _), (7, _), (8, _), (9, _)]) ⟨rfl, rfl, rfl, rfl, rfl, rfl, rfl, trivial⟩ ?_
        refine QM.toBody (hput k ⟨⟩) hll ?_
        refine wpM.block ?_
        refine wpM.seq ?_
        refine wpM.seq ?_
        refine wpM.region ?_
        first | refine LM.rd (om_load 0 Try.isAgg22 rfl rfl rfl) ?_ | refine LM.rd (om_load 1 Try.isAgg22 rfl rfl rfl) ?_ | refine LM.rd (om_load 2 Try.isAgg22 rfl rfl rfl) ?_ | refine LM.rd (om_load 3 Try.isAgg22 rfl rfl rfl) ?_ | refine LM.rd (om_load 4 Try.isAgg22 rfl rfl rfl) ?_ | refine LM.rd (om_load 5 Try.isAgg22 rfl rfl rfl) ?_ | refine LM.rd (om_load 6 Try.isAgg22 rfl rfl rfl) ?_ | refine LM.rd (om_load 7 Try.isAgg22 rfl rfl rfl) ?_ | refine LM.rd (om_load 8 Try.isAgg22 rfl rfl rfl) ?_ | refine LM.rd (om_load 9 Try.isAgg22 rfl rfl rfl) ?_ | refine LM.rd (om_load 10 Try.isAgg22 rfl rfl rfl) ?_ | refine LM.rd (om_load 11 Try.isAgg22 rfl rfl rfl) ?_
        first | refine LM.rd (om_load 0 Try.isAgg5 rfl rfl rfl) ?_ | refine LM.rd (om_load 1 Try.isAgg5 rfl rfl rfl) ?_ | refine LM.rd (om_load 2 Try.isAgg5 rfl rfl rfl) ?_ | refine LM.rd (om_load 3 Try.isAgg5 rfl rfl rfl) ?_ | refine LM.rd (om_load 4 Try.isAgg5 rfl rfl rfl) ?_ | refine LM.rd (om_load 5 Try.isAgg5 rfl rfl rfl) ?_ | refine LM.rd (om_load 6 Try.isAgg5 rfl rfl rfl) ?_ | refine LM.rd (om_load 7 Try.isAgg5 rfl rfl rfl) ?_ | refine LM.rd (om_load 8 Try.isAgg5 rfl rfl rfl) ?_ | refine LM.rd (om_load 9 Try.isAgg5 rfl rfl rfl) ?_ | refine LM.rd (om_load 10 Try.isAgg5 rfl rfl rfl) ?_ | refine LM.rd (om_load 11 Try.isAgg5 rfl rfl rfl) ?_
        refine LM.val (ov_toU Try.underlying5 Try.underlying22 rfl) ?_
        refine LM.val (ov_ueql rfl rfl) ?_
        refine LM.nil ?_
        refine QM.sub (e' := [(3, _), (4, _), (5, _), (6, _), (7, _), (8, _), (9, _), (23, _)]) ⟨rfl, rfl, rfl, rfl, rfl, rfl, rfl, rfl, trivial⟩ ?_
        refine QM.then ?_
        first | refine wpM.condD rfl (fun h3 => ?_) (fun h3 => ?_) | refine wpM.condB rfl (fun h3 => ?_) (fun h3 => ?_)
        ·
          refine wpM.exit ?_
          refine QM.then_exit ?_
          refine QM.block_miss rfl ?_
          -- exit1: h1- h2- h3+
          exact QM.rexit ⟨⟩ (fun w hm => by rw [← h3]; exact hm) (fun _ h => h) rfl
        ·
          refine wpM.skip ?_
          refine QM.then ?_
          refine wpM.seq ?_
          refine wpM.seq ?_
          refine wpM.region ?_
          refine LM.val (ov_move rfl) ?_
          first | refine LM.rd (om_load 0 Try.isAgg22 rfl rfl rfl) ?_ | refine LM.rd (om_load 1 Try.isAgg22 rfl rfl rfl) ?_ | refine LM.rd (om_load 2 Try.isAgg22 rfl rfl rfl) ?_ | refine LM.rd (om_load 3 Try.isAgg22 rfl rfl rfl) ?_ | refine LM.rd (om_load 4 Try.isAgg22 rfl rfl rfl) ?_ | refine LM.rd (om_load 5 Try.isAgg22 rfl rfl rfl) ?_ | refine LM.rd (om_load 6 Try.isAgg22 rfl rfl rfl) ?_ | refine LM.rd (om_load 7 Try.isAgg22 rfl rfl rfl) ?_ | refine LM.rd (om_load 8 Try.isAgg22 rfl rfl rfl) ?_ | refine LM.rd (om_load 9 Try.isAgg22 rfl rfl rfl) ?_ | refine LM.rd (om_load 10 Try.isAgg22 rfl rfl rfl) ?_ | refine LM.rd (om_load 11 Try.isAgg22 rfl rfl rfl) ?_
          first | refine LM.rd (om_load 0 Try.isAgg22 rfl rfl rfl) ?_ | refine LM.rd (om_load 1 Try.isAgg22 rfl rfl rfl) ?_ | refine LM.rd (om_load 2 Try.isAgg22 rfl rfl rfl) ?_ | refine LM.rd (om_load 3 Try.isAgg22 rfl rfl rfl) ?_ | refine LM.rd (om_load 4 Try.isAgg22 rfl rfl rfl) ?_ | refine LM.rd (om_load 5 Try.isAgg22 rfl rfl rfl) ?_ | refine LM.rd (om_load 6 Try.isAgg22 rfl rfl rfl) ?_ | refine LM.rd (om_load 7 Try.isAgg22 rfl rfl rfl) ?_ | refine LM.rd (om_load 8 Try.isAgg22 rfl rfl rfl) ?_ | refine LM.rd (om_load 9 Try.isAgg22 rfl rfl rfl) ?_ | refine LM.rd (om_load 10 Try.isAgg22 rfl rfl rfl) ?_ | refine LM.rd (om_load 11 Try.isAgg22 rfl rfl rfl) ?_
          refine LM.val (ov_uadd rfl rfl) ?_
          refine LM.val (ov_uneq rfl rfl) ?_
          refine LM.val (ov_move rfl) ?_
          first | refine LM.splitD (t := 29) rfl (fun h4 => ?_) (fun h4 => ?_) | refine LM.splitB (t := 29) rfl (fun h4 => ?_) (fun h4 => ?_)
          ·
            refine LM.drop (t := 29) rfl rfl rfl ?_
            refine LM.drop (t := 29) rfl rfl rfl ?_
            refine LM.drop (t := 29) rfl rfl rfl ?_
            refine LM.drop (t := 29) rfl rfl rfl ?_
            refine LM.drop (t := 29) rfl rfl rfl ?_
            refine LM.val (ov_pickT rfl rfl) ?_
            refine LM.val (ov_move rfl) ?_
            refine LM.drop (t := 36) rfl rfl rfl ?_
            refine LM.drop (t := 36) rfl rfl rfl ?_
            refine LM.val (ov_pickT rfl rfl) ?_
            refine LM.nil ?_
            refine QM.sub (e' := [(6, _), (7, _), (39, _)]) ⟨rfl, rfl, rfl, trivial⟩ ?_
            refine QM.then ?_
            refine wpM.condT rfl ?_
            refine wpM.seq ?_
            refine wpM.region ?_
            first | refine LM.store 0 Try.sizeOf4 rfl rfl rfl rfl (by first | decide | (simp; done) | (simp; omega)) rfl (fun hlt => absurd hlt (by omega)) ?_ | refine LM.store 1 Try.sizeOf4 rfl rfl rfl rfl (by first | decide | (simp; done) | (simp; omega)) rfl (fun hlt => absurd hlt (by omega)) ?_ | refine LM.store 2 Try.sizeOf4 rfl rfl rfl rfl (by first | decide | (simp; done) | (simp; omega)) rfl (fun hlt => absurd hlt (by omega)) ?_ | refine LM.store 3 Try.sizeOf4 rfl rfl rfl rfl (by first | decide | (simp; done) | (simp; omega)) rfl (fun hlt => absurd hlt (by omega)) ?_ | refine LM.store 4 Try.sizeOf4 rfl rfl rfl rfl (by first | decide | (simp; done) | (simp; omega)) rfl (fun hlt => absurd hlt (by omega)) ?_ | refine LM.store 5 Try.sizeOf4 rfl rfl rfl rfl (by first | decide | (simp; done) | (simp; omega)) rfl (fun hlt => absurd hlt (by omega)) ?_ | refine LM.store 6 Try.sizeOf4 rfl rfl rfl rfl (by first | decide | (simp; done) | (simp; omega)) rfl (fun hlt => absurd hlt (by omega)) ?_ | refine LM.store 7 Try.sizeOf4 rfl rfl rfl rfl (by first | decide | (simp; done) | (simp; omega)) rfl (fun hlt => absurd hlt (by omega)) ?_ | refine LM.store 8 Try.sizeOf4 rfl rfl rfl rfl (by first | decide | (simp; done) | (simp; omega)) rfl (fun hlt => absurd hlt (by omega)) ?_ | refine LM.store 9 Try.sizeOf4 rfl rfl rfl rfl (by first | decide | (simp; done) | (simp; omega)) rfl (fun hlt => absurd hlt (by omega)) ?_ | refine LM.store 10 Try.sizeOf4 rfl rfl rfl rfl (by first | decide | (simp; done) | (simp; omega)) rfl (fun hlt => absurd hlt (by omega)) ?_ | refine LM.store 11 Try.sizeOf4 rfl rfl rfl rfl (by first | decide | (simp; done) | (simp; omega)) rfl (fun hlt => absurd hlt (by omega)) ?_
            refine LM.nil ?_
            refine QM.sub (e' := [(6, _)]) ⟨rfl, trivial⟩ ?_
            refine QM.then ?_
            refine wpM.ret ?_
            refine QM.then_ret ?_
            refine QM.block_ret ?_
            -- ret1: h1- h2- h3- h4+
            exfalso; first | omega | contradiction | (simp at *; done)
          ·
            refine LM.strip (t := 29) rfl rfl rfl ?_
            refine LM.val (ov_move rfl) ?_
            refine LM.strip (t := 29) rfl rfl rfl ?_
            first | refine LM.rd (om_load 0 Try.isAgg26 rfl rfl rfl) ?_ | refine LM.rd (om_load 1 Try.isAgg26 rfl rfl rfl) ?_ | refine LM.rd (om_load 2 Try.isAgg26 rfl rfl rfl) ?_ | refine LM.rd (om_load 3 Try.isAgg26 rfl rfl rfl) ?_ | refine LM.rd (om_load 4 Try.isAgg26 rfl rfl rfl) ?_ | refine LM.rd (om_load 5 Try.isAgg26 rfl rfl rfl) ?_ | refine LM.rd (om_load 6 Try.isAgg26 rfl rfl rfl) ?_ | refine LM.rd (om_load 7 Try.isAgg26 rfl rfl rfl) ?_ | refine LM.rd (om_load 8 Try.isAgg26 rfl rfl rfl) ?_ | refine LM.rd (om_load 9 Try.isAgg26 rfl rfl rfl) ?_ | refine LM.rd (om_load 10 Try.isAgg26 rfl rfl rfl) ?_ | refine LM.rd (om_load 11 Try.isAgg26 rfl rfl rfl) ?_
            refine LM.strip (t := 29) rfl rfl rfl ?_
            refine LM.val (ov_move rfl) ?_
            refine LM.strip (t := 29) rfl rfl rfl ?_
            refine LM.callE (oc_call (enters_fn Try.func30 (by kernel_rfl) rfl) rfl) (fun w hm hc hg => rwinner_spec _ w (hl.ext hc) (by omega)) ?_
            refine LM.strip (t := 29) rfl rfl rfl ?_
            refine LM.val (ov_neq rfl rfl) ?_
            refine LM.val (ov_pickF rfl rfl) ?_
            refine LM.val (ov_move rfl) ?_
            first | refine LM.splitD (t := 36) rfl (fun h5 => ?_) (fun h5 => ?_) | refine LM.splitB (t := 36) rfl (fun h5 => ?_) (fun h5 => ?_)
            ·
              refine LM.drop (t := 36) rfl rfl rfl ?_
              refine LM.drop (t := 36) rfl rfl rfl ?_
              refine LM.val (ov_pickT rfl rfl) ?_
              refine LM.nil ?_
              refine QM.sub (e' := [(6, _), (7, _), (39, _)]) ⟨rfl, rfl, rfl, trivial⟩ ?_
              refine QM.then ?_
              refine wpM.condT rfl ?_
              refine wpM.seq ?_
              refine wpM.region ?_
              first | refine LM.store 0 Try.sizeOf4 rfl rfl rfl rfl (by first | decide | (simp; done) | (simp; omega)) rfl (fun hlt => absurd hlt (by omega)) ?_ | refine LM.store 1 Try.sizeOf4 rfl rfl rfl rfl (by first | decide | (simp; done) | (simp; omega)) rfl (fun hlt => absurd hlt (by omega)) ?_ | refine LM.store 2 Try.sizeOf4 rfl rfl rfl rfl (by first | decide | (simp; done) | (simp; omega)) rfl (fun hlt => absurd hlt (by omega)) ?_ | refine LM.store 3 Try.sizeOf4 rfl rfl rfl rfl (by first | decide | (simp; done) | (simp; omega)) rfl (fun hlt => absurd hlt (by omega)) ?_ | refine LM.store 4 Try.sizeOf4 rfl rfl rfl rfl (by first | decide | (simp; done) | (simp; omega)) rfl (fun hlt => absurd hlt (by omega)) ?_ | refine LM.store 5 Try.sizeOf4 rfl rfl rfl rfl (by first | decide | (simp; done) | (simp; omega)) rfl (fun hlt => absurd hlt (by omega)) ?_ | refine LM.store 6 Try.sizeOf4 rfl rfl rfl rfl (by first | decide | (simp; done) | (simp; omega)) rfl (fun hlt => absurd hlt (by omega)) ?_ | refine LM.store 7 Try.sizeOf4 rfl rfl rfl rfl (by first | decide | (simp; done) | (simp; omega)) rfl (fun hlt => absurd hlt (by omega)) ?_ | refine LM.store 8 Try.sizeOf4 rfl rfl rfl rfl (by first | decide | (simp; done) | (simp; omega)) rfl (fun hlt => absurd hlt (by omega)) ?_ | refine LM.store 9 Try.sizeOf4 rfl rfl rfl rfl (by first | decide | (simp; done) | (simp; omega)) rfl (fun hlt => absurd hlt (by omega)) ?_ | refine LM.store 10 Try.sizeOf4 rfl rfl rfl rfl (by first | decide | (simp; done) | (simp; omega)) rfl (fun hlt => absurd hlt (by omega)) ?_ | refine LM.store 11 Try.sizeOf4 rfl rfl rfl rfl (by first | decide | (simp; done) | (simp; omega)) rfl (fun hlt => absurd hlt (by omega)) ?_
              refine LM.nil ?_
              refine QM.sub (e' := [(6, _)]) ⟨rfl, trivial⟩ ?_
              refine QM.then ?_
              refine wpM.ret ?_
              refine QM.then_ret ?_
              refine QM.block_ret ?_
              -- ret2: h1- h2- h3- h4- h5+
              exfalso; first | omega | contradiction | (simp at *; done)
            ·
              refine LM.strip (t := 36) rfl rfl rfl ?_
              refine LM.val (ov_move rfl) ?_
              refine LM.strip (t := 36) rfl rfl rfl ?_
              refine LM.val (ov_lss rfl rfl) ?_
              refine LM.val (ov_pickF rfl rfl) ?_
              refine LM.nil ?_
              refine QM.sub (e' := [(6, _), (7, _), (39, _)]) ⟨rfl, rfl, rfl, trivial⟩ ?_
              refine QM.then ?_
              first | refine wpM.condD rfl (fun h6 => ?_) (fun h6 => ?_) | refine wpM.condB rfl (fun h6 => ?_) (fun h6 => ?_)
              ·
                refine wpM.seq ?_
                refine wpM.region ?_
                first | refine LM.store 0 Try.sizeOf4 rfl rfl rfl rfl (by first | decide | (simp; done) | (simp; omega)) rfl (fun hlt => absurd hlt (by omega)) ?_ | refine LM.store 1 Try.sizeOf4 rfl rfl rfl rfl (by first | decide | (simp; done) | (simp; omega)) rfl (fun hlt => absurd hlt (by omega)) ?_ | refine LM.store 2 Try.sizeOf4 rfl rfl rfl rfl (by first | decide | (simp; done) | (simp; omega)) rfl (fun hlt => absurd hlt (by omega)) ?_ | refine LM.store 3 Try.sizeOf4 rfl rfl rfl rfl (by first | decide | (simp; done) | (simp; omega)) rfl (fun hlt => absurd hlt (by omega)) ?_ | refine LM.store 4 Try.sizeOf4 rfl rfl rfl rfl (by first | decide | (simp; done) | (simp; omega)) rfl (fun hlt => absurd hlt (by omega)) ?_ | refine LM.store 5 Try.sizeOf4 rfl rfl rfl rfl (by first | decide | (simp; done) | (simp; omega)) rfl (fun hlt => absurd hlt (by omega)) ?_ | refine LM.store 6 Try.sizeOf4 rfl rfl rfl rfl (by first | decide | (simp; done) | (simp; omega)) rfl (fun hlt => absurd hlt (by omega)) ?_ | refine LM.store 7 Try.sizeOf4 rfl rfl rfl rfl (by first | decide | (simp; done) | (simp; omega)) rfl (fun hlt => absurd hlt (by omega)) ?_ | refine LM.store 8 Try.sizeOf4 rfl rfl rfl rfl (by first | decide | (simp; done) | (simp; omega)) rfl (fun hlt => absurd hlt (by omega)) ?_ | refine LM.store 9 Try.sizeOf4 rfl rfl rfl rfl (by first | decide | (simp; done) | (simp; omega)) rfl (fun hlt => absurd hlt (by omega)) ?_ | refine LM.store 10 Try.sizeOf4 rfl rfl rfl rfl (by first | decide | (simp; done) | (simp; omega)) rfl (fun hlt => absurd hlt (by omega)) ?_ | refine LM.store 11 Try.sizeOf4 rfl rfl rfl rfl (by first | decide | (simp; done) | (simp; omega)) rfl (fun hlt => absurd hlt (by omega)) ?_
                refine LM.nil ?_
                refine QM.sub (e' := [(6, _)]) ⟨rfl, trivial⟩ ?_
                refine QM.then ?_
                refine wpM.ret ?_
                refine QM.then_ret ?_
                refine QM.block_ret ?_
                -- ret3: h1- h2- h3- h4- h5- h6+
                exfalso; first | omega | contradiction | (simp at *; done)
              ·
                refine wpM.skip ?_
                refine QM.then ?_
                refine wpM.region ?_
                first | refine LM.rd (om_load 0 Try.isAgg22 rfl rfl rfl) ?_ | refine LM.rd (om_load 1 Try.isAgg22 rfl rfl rfl) ?_ | refine LM.rd (om_load 2 Try.isAgg22 rfl rfl rfl) ?_ | refine LM.rd (om_load 3 Try.isAgg22 rfl rfl rfl) ?_ | refine LM.rd (om_load 4 Try.isAgg22 rfl rfl rfl) ?_ | refine LM.rd (om_load 5 Try.isAgg22 rfl rfl rfl) ?_ | refine LM.rd (om_load 6 Try.isAgg22 rfl rfl rfl) ?_ | refine LM.rd (om_load 7 Try.isAgg22 rfl rfl rfl) ?_ | refine LM.rd (om_load 8 Try.isAgg22 rfl rfl rfl) ?_ | refine LM.rd (om_load 9 Try.isAgg22 rfl rfl rfl) ?_ | refine LM.rd (om_load 10 Try.isAgg22 rfl rfl rfl) ?_ | refine LM.rd (om_load 11 Try.isAgg22 rfl rfl rfl) ?_
                refine LM.val (ov_uadd (b := 1#64) rfl rfl) ?_
                first | refine LM.store 0 Try.sizeOf22 rfl rfl rfl rfl (by first | decide | (simp; done) | (simp; omega)) rfl (fun hlt => absurd hlt (by omega)) ?_ | refine LM.store 1 Try.sizeOf22 rfl rfl rfl rfl (by first | decide | (simp; done) | (simp; omega)) rfl (fun hlt => absurd hlt (by omega)) ?_ | refine LM.store 2 Try.sizeOf22 rfl rfl rfl rfl (by first | decide | (simp; done) | (simp; omega)) rfl (fun hlt => absurd hlt (by omega)) ?_ | refine LM.store 3 Try.sizeOf22 rfl rfl rfl rfl (by first | decide | (simp; done) | (simp; omega)) rfl (fun hlt => absurd hlt (by omega)) ?_ | refine LM.store 4 Try.sizeOf22 rfl rfl rfl rfl (by first | decide | (simp; done) | (simp; omega)) rfl (fun hlt => absurd hlt (by omega)) ?_ | refine LM.store 5 Try.sizeOf22 rfl rfl rfl rfl (by first | decide | (simp; done) | (simp; omega)) rfl (fun hlt => absurd hlt (by omega)) ?_ | refine LM.store 6 Try.sizeOf22 rfl rfl rfl rfl (by first | decide | (simp; done) | (simp; omega)) rfl (fun hlt => absurd hlt (by omega)) ?_ | refine LM.store 7 Try.sizeOf22 rfl rfl rfl rfl (by first | decide | (simp; done) | (simp; omega)) rfl (fun hlt => absurd hlt (by omega)) ?_ | refine LM.store 8 Try.sizeOf22 rfl rfl rfl rfl (by first | decide | (simp; done) | (simp; omega)) rfl (fun hlt => absurd hlt (by omega)) ?_ | refine LM.store 9 Try.sizeOf22 rfl rfl rfl rfl (by first | decide | (simp; done) | (simp; omega)) rfl (fun hlt => absurd hlt (by omega)) ?_ | refine LM.store 10 Try.sizeOf22 rfl rfl rfl rfl (by first | decide | (simp; done) | (simp; omega)) rfl (fun hlt => absurd hlt (by omega)) ?_ | refine LM.store 11 Try.sizeOf22 rfl rfl rfl rfl (by first | decide | (simp; done) | (simp; omega)) rfl (fun hlt => absurd hlt (by omega)) ?_
                refine LM.nil ?_
                refine QM.sub (e' := []) trivial ?_
                refine QM.block_normal ?_
                -- next1: h1- h2- h3- h4- h5- h6-
                exact QM.next ⟨⟩ (fun w hm => by rw [BitVec.ofNat_add]; exact hm) (fun _ h => h) (by have : ¬ (k : Int) = n := (fun h => absurd (hki.2 h) h3); omega)
      ·
        rintro ⟨⟩ D0 hD0 hk
        have h0 : sumL (bringL xs) = 0 := (by apply Classical.byContradiction; intro h; rw [drawA_len, if_neg h] at hk; omega); have hA : (drawA xs seed (n.toNat + 1)).length = 0 := (by rw [drawA_len, if_pos h0]); rw [hA]; have hwm := (winI_rng xs seed).2.2.1 h0
        refine QM.sub (e' := [(3, _), (4, _), (5, _), (6, _), (7, _)]) ⟨rfl, rfl, rfl, rfl, rfl, trivial⟩ ?_
        refine QM.block_normal ?_
        refine QM.then ?_
        refine wpM.seq ?_
        refine wpM.region ?_
        first | refine LM.rd (om_load 0 Try.isAgg22 rfl rfl rfl) ?_ | refine LM.rd (om_load 1 Try.isAgg22 rfl rfl rfl) ?_ | refine LM.rd (om_load 2 Try.isAgg22 rfl rfl rfl) ?_ | refine LM.rd (om_load 3 Try.isAgg22 rfl rfl rfl) ?_ | refine LM.rd (om_load 4 Try.isAgg22 rfl rfl rfl) ?_ | refine LM.rd (om_load 5 Try.isAgg22 rfl rfl rfl) ?_ | refine LM.rd (om_load 6 Try.isAgg22 rfl rfl rfl) ?_ | refine LM.rd (om_load 7 Try.isAgg22 rfl rfl rfl) ?_ | refine LM.rd (om_load 8 Try.isAgg22 rfl rfl rfl) ?_ | refine LM.rd (om_load 9 Try.isAgg22 rfl rfl rfl) ?_ | refine LM.rd (om_load 10 Try.isAgg22 rfl rfl rfl) ?_ | refine LM.rd (om_load 11 Try.isAgg22 rfl rfl rfl) ?_
        first | refine LM.rd (om_load 0 Try.isAgg5 rfl rfl rfl) ?_ | refine LM.rd (om_load 1 Try.isAgg5 rfl rfl rfl) ?_ | refine LM.rd (om_load 2 Try.isAgg5 rfl rfl rfl) ?_ | refine LM.rd (om_load 3 Try.isAgg5 rfl rfl rfl) ?_ | refine LM.rd (om_load 4 Try.isAgg5 rfl rfl rfl) ?_ | refine LM.rd (om_load 5 Try.isAgg5 rfl rfl rfl) ?_ | refine LM.rd (om_load 6 Try.isAgg5 rfl rfl rfl) ?_ | refine LM.rd (om_load 7 Try.isAgg5 rfl rfl rfl) ?_ | refine LM.rd (om_load 8 Try.isAgg5 rfl rfl rfl) ?_ | refine LM.rd (om_load 9 Try.isAgg5 rfl rfl rfl) ?_ | refine LM.rd (om_load 10 Try.isAgg5 rfl rfl rfl) ?_ | refine LM.rd (om_load 11 Try.isAgg5 rfl rfl rfl) ?_
        refine LM.val (ov_toU Try.underlying5 Try.underlying22 rfl) ?_
        refine LM.val (ov_ueql rfl rfl) ?_
        refine LM.val (ov_move rfl) ?_
        first | refine LM.splitD (t := 46) rfl (fun h7 => ?_) (fun h7 => ?_) | refine LM.splitB (t := 46) rfl (fun h7 => ?_) (fun h7 => ?_)
        ·
          refine LM.drop (t := 46) rfl rfl rfl ?_
          refine LM.drop (t := 46) rfl rfl rfl ?_
          refine LM.dropU (t := 46) rfl rfl rfl ?_
          refine LM.dropX (t := 49) rfl rfl ?_
          refine LM.dropX (t := 49) rfl rfl ?_
          refine LM.dropX (t := 49) rfl rfl ?_
          refine LM.dropX (t := 49) rfl rfl ?_
          refine LM.drop (t := 46) rfl rfl rfl ?_
          refine LM.val (ov_pickT rfl rfl) ?_
          first | refine LM.store 0 Try.sizeOf4 rfl rfl rfl rfl (by first | decide | (simp; done) | (simp; omega)) rfl (fun hlt => absurd hlt (by omega)) ?_ | refine LM.store 1 Try.sizeOf4 rfl rfl rfl rfl (by first | decide | (simp; done) | (simp; omega)) rfl (fun hlt => absurd hlt (by omega)) ?_ | refine LM.store 2 Try.sizeOf4 rfl rfl rfl rfl (by first | decide | (simp; done) | (simp; omega)) rfl (fun hlt => absurd hlt (by omega)) ?_ | refine LM.store 3 Try.sizeOf4 rfl rfl rfl rfl (by first | decide | (simp; done) | (simp; omega)) rfl (fun hlt => absurd hlt (by omega)) ?_ | refine LM.store 4 Try.sizeOf4 rfl rfl rfl rfl (by first | decide | (simp; done) | (simp; omega)) rfl (fun hlt => absurd hlt (by omega)) ?_ | refine LM.store 5 Try.sizeOf4 rfl rfl rfl rfl (by first | decide | (simp; done) | (simp; omega)) rfl (fun hlt => absurd hlt (by omega)) ?_ | refine LM.store 6 Try.sizeOf4 rfl rfl rfl rfl (by first | decide | (simp; done) | (simp; omega)) rfl (fun hlt => absurd hlt (by omega)) ?_ | refine LM.store 7 Try.sizeOf4 rfl rfl rfl rfl (by first | decide | (simp; done) | (simp; omega)) rfl (fun hlt => absurd hlt (by omega)) ?_ | refine LM.store 8 Try.sizeOf4 rfl rfl rfl rfl (by first | decide | (simp; done) | (simp; omega)) rfl (fun hlt => absurd hlt (by omega)) ?_ | refine LM.store 9 Try.sizeOf4 rfl rfl rfl rfl (by first | decide | (simp; done) | (simp; omega)) rfl (fun hlt => absurd hlt (by omega)) ?_ | refine LM.store 10 Try.sizeOf4 rfl rfl rfl rfl (by first | decide | (simp; done) | (simp; omega)) rfl (fun hlt => absurd hlt (by omega)) ?_ | refine LM.store 11 Try.sizeOf4 rfl rfl rfl rfl (by first | decide | (simp; done) | (simp; omega)) rfl (fun hlt => absurd hlt (by omega)) ?_
          refine LM.nil ?_
          refine QM.sub (e' := [(6, _)]) ⟨rfl, trivial⟩ ?_
          refine QM.then ?_
          refine wpM.ret ?_
          first | refine QM.leaveCD (ds := [D0]) Try.results7 rfl (fun D h => by simp only [List.mem_cons, List.not_mem_nil, or_false] at h; omega) (lv_cell 0 Try.isAgg4 rfl rfl) ?_ | refine QM.leaveCD (ds := [D0]) Try.results7 rfl (fun D h => by simp only [List.mem_cons, List.not_mem_nil, or_false] at h; omega) (lv_cell 1 Try.isAgg4 rfl rfl) ?_ | refine QM.leaveCD (ds := [D0]) Try.results7 rfl (fun D h => by simp only [List.mem_cons, List.not_mem_nil, or_false] at h; omega) (lv_cell 2 Try.isAgg4 rfl rfl) ?_ | refine QM.leaveCD (ds := [D0]) Try.results7 rfl (fun D h => by simp only [List.mem_cons, List.not_mem_nil, or_false] at h; omega) (lv_cell 3 Try.isAgg4 rfl rfl) ?_ | refine QM.leaveCD (ds := [D0]) Try.results7 rfl (fun D h => by simp only [List.mem_cons, List.not_mem_nil, or_false] at h; omega) (lv_cell 4 Try.isAgg4 rfl rfl) ?_ | refine QM.leaveCD (ds := [D0]) Try.results7 rfl (fun D h => by simp only [List.mem_cons, List.not_mem_nil, or_false] at h; omega) (lv_cell 5 Try.isAgg4 rfl rfl) ?_ | refine QM.leaveCD (ds := [D0]) Try.results7 rfl (fun D h => by simp only [List.mem_cons, List.not_mem_nil, or_false] at h; omega) (lv_cell 6 Try.isAgg4 rfl rfl) ?_ | refine QM.leaveCD (ds := [D0]) Try.results7 rfl (fun D h => by simp only [List.mem_cons, List.not_mem_nil, or_false] at h; omega) (lv_cell 7 Try.isAgg4 rfl rfl) ?_ | refine QM.leaveCD (ds := [D0]) Try.results7 rfl (fun D h => by simp only [List.mem_cons, List.not_mem_nil, or_false] at h; omega) (lv_cell 8 Try.isAgg4 rfl rfl) ?_ | refine QM.leaveCD (ds := [D0]) Try.results7 rfl (fun D h => by simp only [List.mem_cons, List.not_mem_nil, or_false] at h; omega) (lv_cell 9 Try.isAgg4 rfl rfl) ?_ | refine QM.leaveCD (ds := [D0]) Try.results7 rfl (fun D h => by simp only [List.mem_cons, List.not_mem_nil, or_false] at h; omega) (lv_cell 10 Try.isAgg4 rfl rfl) ?_ | refine QM.leaveCD (ds := [D0]) Try.results7 rfl (fun D h => by simp only [List.mem_cons, List.not_mem_nil, or_false] at h; omega) (lv_cell 11 Try.isAgg4 rfl rfl) ?_
          intro w' hm' hc'
          -- leaf 3: h1- h2- h3- h4- h5- h6- h7+
          first | exact ⟨rfl, hc'⟩ | (refine ⟨?_, hc'⟩; show Value.bool (decide (winI xs seed < 0)) = Value.bool true; rw [hwm]; rfl) | (exfalso; first | omega | contradiction | (simp at *; done))
        ·
          refine LM.strip (t := 46) rfl rfl rfl ?_
          first | refine LM.rd (om_load 0 Try.isAgg22 rfl rfl rfl) ?_ | refine LM.rd (om_load 1 Try.isAgg22 rfl rfl rfl) ?_ | refine LM.rd (om_load 2 Try.isAgg22 rfl rfl rfl) ?_ | refine LM.rd (om_load 3 Try.isAgg22 rfl rfl rfl) ?_ | refine LM.rd (om_load 4 Try.isAgg22 rfl rfl rfl) ?_ | refine LM.rd (om_load 5 Try.isAgg22 rfl rfl rfl) ?_ | refine LM.rd (om_load 6 Try.isAgg22 rfl rfl rfl) ?_ | refine LM.rd (om_load 7 Try.isAgg22 rfl rfl rfl) ?_ | refine LM.rd (om_load 8 Try.isAgg22 rfl rfl rfl) ?_ | refine LM.rd (om_load 9 Try.isAgg22 rfl rfl rfl) ?_ | refine LM.rd (om_load 10 Try.isAgg22 rfl rfl rfl) ?_ | refine LM.rd (om_load 11 Try.isAgg22 rfl rfl rfl) ?_
          refine LM.strip (t := 46) rfl rfl rfl ?_
          refine LM.val (ov_ueql (b := 0#64) rfl rfl) ?_
          refine LM.strip (t := 46) rfl rfl rfl ?_
          refine LM.val (ov_move rfl) ?_
          first | refine LM.splitD (t := 49) rfl (fun h8 => ?_) (fun h8 => ?_) | refine LM.splitB (t := 49) rfl (fun h8 => ?_) (fun h8 => ?_)
          ·
            refine LM.strip (t := 49) rfl rfl rfl ?_
            first | refine LM.rd (om_load 0 Try.isAgg26 rfl rfl rfl) ?_ | refine LM.rd (om_load 1 Try.isAgg26 rfl rfl rfl) ?_ | refine LM.rd (om_load 2 Try.isAgg26 rfl rfl rfl) ?_ | refine LM.rd (om_load 3 Try.isAgg26 rfl rfl rfl) ?_ | refine LM.rd (om_load 4 Try.isAgg26 rfl rfl rfl) ?_ | refine LM.rd (om_load 5 Try.isAgg26 rfl rfl rfl) ?_ | refine LM.rd (om_load 6 Try.isAgg26 rfl rfl rfl) ?_ | refine LM.rd (om_load 7 Try.isAgg26 rfl rfl rfl) ?_ | refine LM.rd (om_load 8 Try.isAgg26 rfl rfl rfl) ?_ | refine LM.rd (om_load 9 Try.isAgg26 rfl rfl rfl) ?_ | refine LM.rd (om_load 10 Try.isAgg26 rfl rfl rfl) ?_ | refine LM.rd (om_load 11 Try.isAgg26 rfl rfl rfl) ?_
            refine LM.strip (t := 49) rfl rfl rfl ?_
            first | refine LM.rd (om_load 0 Try.isAgg22 rfl rfl rfl) ?_ | refine LM.rd (om_load 1 Try.isAgg22 rfl rfl rfl) ?_ | refine LM.rd (om_load 2 Try.isAgg22 rfl rfl rfl) ?_ | refine LM.rd (om_load 3 Try.isAgg22 rfl rfl rfl) ?_ | refine LM.rd (om_load 4 Try.isAgg22 rfl rfl rfl) ?_ | refine LM.rd (om_load 5 Try.isAgg22 rfl rfl rfl) ?_ | refine LM.rd (om_load 6 Try.isAgg22 rfl rfl rfl) ?_ | refine LM.rd (om_load 7 Try.isAgg22 rfl rfl rfl) ?_ | refine LM.rd (om_load 8 Try.isAgg22 rfl rfl rfl) ?_ | refine LM.rd (om_load 9 Try.isAgg22 rfl rfl rfl) ?_ | refine LM.rd (om_load 10 Try.isAgg22 rfl rfl rfl) ?_ | refine LM.rd (om_load 11 Try.isAgg22 rfl rfl rfl) ?_
            refine LM.strip (t := 49) rfl rfl rfl ?_
            refine LM.callE (oc_call (enters_fn Try.func30 (by kernel_rfl) rfl) rfl) (fun w hm hc hg => rwinner_spec _ w (hl.ext hc) (by omega)) ?_
            refine LM.strip (t := 49) rfl rfl rfl ?_
            refine LM.val (ov_lss rfl rfl) ?_
            refine LM.strip (t := 46) rfl rfl rfl ?_
            refine LM.val (ov_pickT rfl rfl) ?_
            refine LM.val (ov_pickF rfl rfl) ?_
            first | refine LM.store 0 Try.sizeOf4 rfl rfl rfl rfl (by first | decide | (simp; done) | (simp; omega)) rfl (fun hlt => absurd hlt (by omega)) ?_ | refine LM.store 1 Try.sizeOf4 rfl rfl rfl rfl (by first | decide | (simp; done) | (simp; omega)) rfl (fun hlt => absurd hlt (by omega)) ?_ | refine LM.store 2 Try.sizeOf4 rfl rfl rfl rfl (by first | decide | (simp; done) | (simp; omega)) rfl (fun hlt => absurd hlt (by omega)) ?_ | refine LM.store 3 Try.sizeOf4 rfl rfl rfl rfl (by first | decide | (simp; done) | (simp; omega)) rfl (fun hlt => absurd hlt (by omega)) ?_ | refine LM.store 4 Try.sizeOf4 rfl rfl rfl rfl (by first | decide | (simp; done) | (simp; omega)) rfl (fun hlt => absurd hlt (by omega)) ?_ | refine LM.store 5 Try.sizeOf4 rfl rfl rfl rfl (by first | decide | (simp; done) | (simp; omega)) rfl (fun hlt => absurd hlt (by omega)) ?_ | refine LM.store 6 Try.sizeOf4 rfl rfl rfl rfl (by first | decide | (simp; done) | (simp; omega)) rfl (fun hlt => absurd hlt (by omega)) ?_ | refine LM.store 7 Try.sizeOf4 rfl rfl rfl rfl (by first | decide | (simp; done) | (simp; omega)) rfl (fun hlt => absurd hlt (by omega)) ?_ | refine LM.store 8 Try.sizeOf4 rfl rfl rfl rfl (by first | decide | (simp; done) | (simp; omega)) rfl (fun hlt => absurd hlt (by omega)) ?_ | refine LM.store 9 Try.sizeOf4 rfl rfl rfl rfl (by first | decide | (simp; done) | (simp; omega)) rfl (fun hlt => absurd hlt (by omega)) ?_ | refine LM.store 10 Try.sizeOf4 rfl rfl rfl rfl (by first | decide | (simp; done) | (simp; omega)) rfl (fun hlt => absurd hlt (by omega)) ?_ | refine LM.store 11 Try.sizeOf4 rfl rfl rfl rfl (by first | decide | (simp; done) | (simp; omega)) rfl (fun hlt => absurd hlt (by omega)) ?_
            refine LM.nil ?_
            refine QM.sub (e' := [(6, _)]) ⟨rfl, trivial⟩ ?_
            refine QM.then ?_
            refine wpM.ret ?_
            first | refine QM.leaveCD (ds := [D0]) Try.results7 rfl (fun D h => by simp only [List.mem_cons, List.not_mem_nil, or_false] at h; omega) (lv_cell 0 Try.isAgg4 rfl rfl) ?_ | refine QM.leaveCD (ds := [D0]) Try.results7 rfl (fun D h => by simp only [List.mem_cons, List.not_mem_nil, or_false] at h; omega) (lv_cell 1 Try.isAgg4 rfl rfl) ?_ | refine QM.leaveCD (ds := [D0]) Try.results7 rfl (fun D h => by simp only [List.mem_cons, List.not_mem_nil, or_false] at h; omega) (lv_cell 2 Try.isAgg4 rfl rfl) ?_ | refine QM.leaveCD (ds := [D0]) Try.results7 rfl (fun D h => by simp only [List.mem_cons, List.not_mem_nil, or_false] at h; omega) (lv_cell 3 Try.isAgg4 rfl rfl) ?_ | refine QM.leaveCD (ds := [D0]) Try.results7 rfl (fun D h => by simp only [List.mem_cons, List.not_mem_nil, or_false] at h; omega) (lv_cell 4 Try.isAgg4 rfl rfl) ?_ | refine QM.leaveCD (ds := [D0]) Try.results7 rfl (fun D h => by simp only [List.mem_cons, List.not_mem_nil, or_false] at h; omega) (lv_cell 5 Try.isAgg4 rfl rfl) ?_ | refine QM.leaveCD (ds := [D0]) Try.results7 rfl (fun D h => by simp only [List.mem_cons, List.not_mem_nil, or_false] at h; omega) (lv_cell 6 Try.isAgg4 rfl rfl) ?_ | refine QM.leaveCD (ds := [D0]) Try.results7 rfl (fun D h => by simp only [List.mem_cons, List.not_mem_nil, or_false] at h; omega) (lv_cell 7 Try.isAgg4 rfl rfl) ?_ | refine QM.leaveCD (ds := [D0]) Try.results7 rfl (fun D h => by simp only [List.mem_cons, List.not_mem_nil, or_false] at h; omega) (lv_cell 8 Try.isAgg4 rfl rfl) ?_ | refine QM.leaveCD (ds := [D0]) Try.results7 rfl (fun D h => by simp only [List.mem_cons, List.not_mem_nil, or_false] at h; omega) (lv_cell 9 Try.isAgg4 rfl rfl) ?_ | refine QM.leaveCD (ds := [D0]) Try.results7 rfl (fun D h => by simp only [List.mem_cons, List.not_mem_nil, or_false] at h; omega) (lv_cell 10 Try.isAgg4 rfl rfl) ?_ | refine QM.leaveCD (ds := [D0]) Try.results7 rfl (fun D h => by simp only [List.mem_cons, List.not_mem_nil, or_false] at h; omega) (lv_cell 11 Try.isAgg4 rfl rfl) ?_
            intro w' hm' hc'
            -- leaf 4: h1- h2- h3- h4- h5- h6- h7- h8+
            first | exact ⟨rfl, hc'⟩ | (refine ⟨?_, hc'⟩; show Value.bool (decide (winI xs seed < 0)) = Value.bool true; rw [hwm]; rfl) | (exfalso; first | omega | contradiction | (simp at *; done))
          ·
            refine LM.drop (t := 49) rfl rfl rfl ?_
            refine LM.drop (t := 49) rfl rfl rfl ?_
            refine LM.drop (t := 49) rfl rfl rfl ?_
            refine LM.drop (t := 49) rfl rfl rfl ?_
            refine LM.strip (t := 46) rfl rfl rfl ?_
            refine LM.val (ov_pickF rfl rfl) ?_
            refine LM.val (ov_pickF rfl rfl) ?_
            first | refine LM.store 0 Try.sizeOf4 rfl rfl rfl rfl (by first | decide | (simp; done) | (simp; omega)) rfl (fun hlt => absurd hlt (by omega)) ?_ | refine LM.store 1 Try.sizeOf4 rfl rfl rfl rfl (by first | decide | (simp; done) | (simp; omega)) rfl (fun hlt => absurd hlt (by omega)) ?_ | refine LM.store 2 Try.sizeOf4 rfl rfl rfl rfl (by first | decide | (simp; done) | (simp; omega)) rfl (fun hlt => absurd hlt (by omega)) ?_ | refine LM.store 3 Try.sizeOf4 rfl rfl rfl rfl (by first | decide | (simp; done) | (simp; omega)) rfl (fun hlt => absurd hlt (by omega)) ?_ | refine LM.store 4 Try.sizeOf4 rfl rfl rfl rfl (by first | decide | (simp; done) | (simp; omega)) rfl (fun hlt => absurd hlt (by omega)) ?_ | refine LM.store 5 Try.sizeOf4 rfl rfl rfl rfl (by first | decide | (simp; done) | (simp; omega)) rfl (fun hlt => absurd hlt (by omega)) ?_ | refine LM.store 6 Try.sizeOf4 rfl rfl rfl rfl (by first | decide | (simp; done) | (simp; omega)) rfl (fun hlt => absurd hlt (by omega)) ?_ | refine LM.store 7 Try.sizeOf4 rfl rfl rfl rfl (by first | decide | (simp; done) | (simp; omega)) rfl (fun hlt => absurd hlt (by omega)) ?_ | refine LM.store 8 Try.sizeOf4 rfl rfl rfl rfl (by first | decide | (simp; done) | (simp; omega)) rfl (fun hlt => absurd hlt (by omega)) ?_ | refine LM.store 9 Try.sizeOf4 rfl rfl rfl rfl (by first | decide | (simp; done) | (simp; omega)) rfl (fun hlt => absurd hlt (by omega)) ?_ | refine LM.store 10 Try.sizeOf4 rfl rfl rfl rfl (by first | decide | (simp; done) | (simp; omega)) rfl (fun hlt => absurd hlt (by omega)) ?_ | refine LM.store 11 Try.sizeOf4 rfl rfl rfl rfl (by first | decide | (simp; done) | (simp; omega)) rfl (fun hlt => absurd hlt (by omega)) ?_
            refine LM.nil ?_
            refine QM.sub (e' := [(6, _)]) ⟨rfl, trivial⟩ ?_
            refine QM.then ?_
            refine wpM.ret ?_
            first | refine QM.leaveCD (ds := [D0]) Try.results7 rfl (fun D h => by simp only [List.mem_cons, List.not_mem_nil, or_false] at h; omega) (lv_cell 0 Try.isAgg4 rfl rfl) ?_ | refine QM.leaveCD (ds := [D0]) Try.results7 rfl (fun D h => by simp only [List.mem_cons, List.not_mem_nil, or_false] at h; omega) (lv_cell 1 Try.isAgg4 rfl rfl) ?_ | refine QM.leaveCD (ds := [D0]) Try.results7 rfl (fun D h => by simp only [List.mem_cons, List.not_mem_nil, or_false] at h; omega) (lv_cell 2 Try.isAgg4 rfl rfl) ?_ | refine QM.leaveCD (ds := [D0]) Try.results7 rfl (fun D h => by simp only [List.mem_cons, List.not_mem_nil, or_false] at h; omega) (lv_cell 3 Try.isAgg4 rfl rfl) ?_ | refine QM.leaveCD (ds := [D0]) Try.results7 rfl (fun D h => by simp only [List.mem_cons, List.not_mem_nil, or_false] at h; omega) (lv_cell 4 Try.isAgg4 rfl rfl) ?_ | refine QM.leaveCD (ds := [D0]) Try.results7 rfl (fun D h => by simp only [List.mem_cons, List.not_mem_nil, or_false] at h; omega) (lv_cell 5 Try.isAgg4 rfl rfl) ?_ | refine QM.leaveCD (ds := [D0]) Try.results7 rfl (fun D h => by simp only [List.mem_cons, List.not_mem_nil, or_false] at h; omega) (lv_cell 6 Try.isAgg4 rfl rfl) ?_ | refine QM.leaveCD (ds := [D0]) Try.results7 rfl (fun D h => by simp only [List.mem_cons, List.not_mem_nil, or_false] at h; omega) (lv_cell 7 Try.isAgg4 rfl rfl) ?_ | refine QM.leaveCD (ds := [D0]) Try.results7 rfl (fun D h => by simp only [List.mem_cons, List.not_mem_nil, or_false] at h; omega) (lv_cell 8 Try.isAgg4 rfl rfl) ?_ | refine QM.leaveCD (ds := [D0]) Try.results7 rfl (fun D h => by simp only [List.mem_cons, List.not_mem_nil, or_false] at h; omega) (lv_cell 9 Try.isAgg4 rfl rfl) ?_ | refine QM.leaveCD (ds := [D0]) Try.results7 rfl (fun D h => by simp only [List.mem_cons, List.not_mem_nil, or_false] at h; omega) (lv_cell 10 Try.isAgg4 rfl rfl) ?_ | refine QM.leaveCD (ds := [D0]) Try.results7 rfl (fun D h => by simp only [List.mem_cons, List.not_mem_nil, or_false] at h; omega) (lv_cell 11 Try.isAgg4 rfl rfl) ?_
            intro w' hm' hc'
            -- leaf 5: h1- h2- h3- h4- h5- h6- h7- h8-
            first | exact ⟨rfl, hc'⟩ | (refine ⟨?_, hc'⟩; show Value.bool (decide (winI xs seed < 0)) = Value.bool true; rw [hwm]; rfl) | (exfalso; first | omega | contradiction | (simp at *; done))
      ·
        rintro ⟨⟩ D0 hD0 hx
        cases hx
      ·
        rintro id ⟨⟩ D0 hD0 hx
        cases hx
        refine QM.block_hit ?_
        refine QM.then ?_
        refine wpM.seq ?_
        refine wpM.region ?_
        first | refine LM.rd (om_load 0 Try.isAgg22 rfl rfl rfl) ?_ | refine LM.rd (om_load 1 Try.isAgg22 rfl rfl rfl) ?_ | refine LM.rd (om_load 2 Try.isAgg22 rfl rfl rfl) ?_ | refine LM.rd (om_load 3 Try.isAgg22 rfl rfl rfl) ?_ | refine LM.rd (om_load 4 Try.isAgg22 rfl rfl rfl) ?_ | refine LM.rd (om_load 5 Try.isAgg22 rfl rfl rfl) ?_ | refine LM.rd (om_load 6 Try.isAgg22 rfl rfl rfl) ?_ | refine LM.rd (om_load 7 Try.isAgg22 rfl rfl rfl) ?_ | refine LM.rd (om_load 8 Try.isAgg22 rfl rfl rfl) ?_ | refine LM.rd (om_load 9 Try.isAgg22 rfl rfl rfl) ?_ | refine LM.rd (om_load 10 Try.isAgg22 rfl rfl rfl) ?_ | refine LM.rd (om_load 11 Try.isAgg22 rfl rfl rfl) ?_
        first | refine LM.rd (om_load 0 Try.isAgg5 rfl rfl rfl) ?_ | refine LM.rd (om_load 1 Try.isAgg5 rfl rfl rfl) ?_ | refine LM.rd (om_load 2 Try.isAgg5 rfl rfl rfl) ?_ | refine LM.rd (om_load 3 Try.isAgg5 rfl rfl rfl) ?_ | refine LM.rd (om_load 4 Try.isAgg5 rfl rfl rfl) ?_ | refine LM.rd (om_load 5 Try.isAgg5 rfl rfl rfl) ?_ | refine LM.rd (om_load 6 Try.isAgg5 rfl rfl rfl) ?_ | refine LM.rd (om_load 7 Try.isAgg5 rfl rfl rfl) ?_ | refine LM.rd (om_load 8 Try.isAgg5 rfl rfl rfl) ?_ | refine LM.rd (om_load 9 Try.isAgg5 rfl rfl rfl) ?_ | refine LM.rd (om_load 10 Try.isAgg5 rfl rfl rfl) ?_ | refine LM.rd (om_load 11 Try.isAgg5 rfl rfl rfl) ?_
        refine LM.val (ov_toU Try.underlying5 Try.underlying22 rfl) ?_
        refine LM.val (ov_ueql rfl rfl) ?_
        refine LM.val (ov_move rfl) ?_
        first | refine LM.splitD (t := 46) rfl (fun h9 => ?_) (fun h9 => ?_) | refine LM.splitB (t := 46) rfl (fun h9 => ?_) (fun h9 => ?_)
        ·
          refine LM.drop (t := 46) rfl rfl rfl ?_
          refine LM.drop (t := 46) rfl rfl rfl ?_
          refine LM.dropU (t := 46) rfl rfl rfl ?_
          refine LM.dropX (t := 49) rfl rfl ?_
          refine LM.dropX (t := 49) rfl rfl ?_
          refine LM.dropX (t := 49) rfl rfl ?_
          refine LM.dropX (t := 49) rfl rfl ?_
          refine LM.drop (t := 46) rfl rfl rfl ?_
          refine LM.val (ov_pickT rfl rfl) ?_
          first | refine LM.store 0 Try.sizeOf4 rfl rfl rfl rfl (by first | decide | (simp; done) | (simp; omega)) rfl (fun hlt => absurd hlt (by omega)) ?_ | refine LM.store 1 Try.sizeOf4 rfl rfl rfl rfl (by first | decide | (simp; done) | (simp; omega)) rfl (fun hlt => absurd hlt (by omega)) ?_ | refine LM.store 2 Try.sizeOf4 rfl rfl rfl rfl (by first | decide | (simp; done) | (simp; omega)) rfl (fun hlt => absurd hlt (by omega)) ?_ | refine LM.store 3 Try.sizeOf4 rfl rfl rfl rfl (by first | decide | (simp; done) | (simp; omega)) rfl (fun hlt => absurd hlt (by omega)) ?_ | refine LM.store 4 Try.sizeOf4 rfl rfl rfl rfl (by first | decide | (simp; done) | (simp; omega)) rfl (fun hlt => absurd hlt (by omega)) ?_ | refine LM.store 5 Try.sizeOf4 rfl rfl rfl rfl (by first | decide | (simp; done) | (simp; omega)) rfl (fun hlt => absurd hlt (by omega)) ?_ | refine LM.store 6 Try.sizeOf4 rfl rfl rfl rfl (by first | decide | (simp; done) | (simp; omega)) rfl (fun hlt => absurd hlt (by omega)) ?_ | refine LM.store 7 Try.sizeOf4 rfl rfl rfl rfl (by first | decide | (simp; done) | (simp; omega)) rfl (fun hlt => absurd hlt (by omega)) ?_ | refine LM.store 8 Try.sizeOf4 rfl rfl rfl rfl (by first | decide | (simp; done) | (simp; omega)) rfl (fun hlt => absurd hlt (by omega)) ?_ | refine LM.store 9 Try.sizeOf4 rfl rfl rfl rfl (by first | decide | (simp; done) | (simp; omega)) rfl (fun hlt => absurd hlt (by omega)) ?_ | refine LM.store 10 Try.sizeOf4 rfl rfl rfl rfl (by first | decide | (simp; done) | (simp; omega)) rfl (fun hlt => absurd hlt (by omega)) ?_ | refine LM.store 11 Try.sizeOf4 rfl rfl rfl rfl (by first | decide | (simp; done) | (simp; omega)) rfl (fun hlt => absurd hlt (by omega)) ?_
          refine LM.nil ?_
          refine QM.sub (e' := [(6, _)]) ⟨rfl, trivial⟩ ?_
          refine QM.then ?_
          refine wpM.ret ?_
          first | refine QM.leaveCD (ds := [D0]) Try.results7 rfl (fun D h => by simp only [List.mem_cons, List.not_mem_nil, or_false] at h; omega) (lv_cell 0 Try.isAgg4 rfl rfl) ?_ | refine QM.leaveCD (ds := [D0]) Try.results7 rfl (fun D h => by simp only [List.mem_cons, List.not_mem_nil, or_false] at h; omega) (lv_cell 1 Try.isAgg4 rfl rfl) ?_ | refine QM.leaveCD (ds := [D0]) Try.results7 rfl (fun D h => by simp only [List.mem_cons, List.not_mem_nil, or_false] at h; omega) (lv_cell 2 Try.isAgg4 rfl rfl) ?_ | refine QM.leaveCD (ds := [D0]) Try.results7 rfl (fun D h => by simp only [List.mem_cons, List.not_mem_nil, or_false] at h; omega) (lv_cell 3 Try.isAgg4 rfl rfl) ?_ | refine QM.leaveCD (ds := [D0]) Try.results7 rfl (fun D h => by simp only [List.mem_cons, List.not_mem_nil, or_false] at h; omega) (lv_cell 4 Try.isAgg4 rfl rfl) ?_ | refine QM.leaveCD (ds := [D0]) Try.results7 rfl (fun D h => by simp only [List.mem_cons, List.not_mem_nil, or_false] at h; omega) (lv_cell 5 Try.isAgg4 rfl rfl) ?_ | refine QM.leaveCD (ds := [D0]) Try.results7 rfl (fun D h => by simp only [List.mem_cons, List.not_mem_nil, or_false] at h; omega) (lv_cell 6 Try.isAgg4 rfl rfl) ?_ | refine QM.leaveCD (ds := [D0]) Try.results7 rfl (fun D h => by simp only [List.mem_cons, List.not_mem_nil, or_false] at h; omega) (lv_cell 7 Try.isAgg4 rfl rfl) ?_ | refine QM.leaveCD (ds := [D0]) Try.results7 rfl (fun D h => by simp only [List.mem_cons, List.not_mem_nil, or_false] at h; omega) (lv_cell 8 Try.isAgg4 rfl rfl) ?_ | refine QM.leaveCD (ds := [D0]) Try.results7 rfl (fun D h => by simp only [List.mem_cons, List.not_mem_nil, or_false] at h; omega) (lv_cell 9 Try.isAgg4 rfl rfl) ?_ | refine QM.leaveCD (ds := [D0]) Try.results7 rfl (fun D h => by simp only [List.mem_cons, List.not_mem_nil, or_false] at h; omega) (lv_cell 10 Try.isAgg4 rfl rfl) ?_ | refine QM.leaveCD (ds := [D0]) Try.results7 rfl (fun D h => by simp only [List.mem_cons, List.not_mem_nil, or_false] at h; omega) (lv_cell 11 Try.isAgg4 rfl rfl) ?_
          intro w' hm' hc'
          -- leaf 6: h1- h2- h3- h4- h5- h6- h7- h8- h9+
          first | exact ⟨rfl, hc'⟩ | (refine ⟨?_, hc'⟩; show Value.bool (decide (winI xs seed < 0)) = Value.bool true; rw [hwm]; rfl) | (exfalso; first | omega | contradiction | (simp at *; done))
        ·
          refine LM.strip (t := 46) rfl rfl rfl ?_
          first | refine LM.rd (om_load 0 Try.isAgg22 rfl rfl rfl) ?_ | refine LM.rd (om_load 1 Try.isAgg22 rfl rfl rfl) ?_ | refine LM.rd (om_load 2 Try.isAgg22 rfl rfl rfl) ?_ | refine LM.rd (om_load 3 Try.isAgg22 rfl rfl rfl) ?_ | refine LM.rd (om_load 4 Try.isAgg22 rfl rfl rfl) ?_ | refine LM.rd (om_load 5 Try.isAgg22 rfl rfl rfl) ?_ | refine LM.rd (om_load 6 Try.isAgg22 rfl rfl rfl) ?_ | refine LM.rd (om_load 7 Try.isAgg22 rfl rfl rfl) ?_ | refine LM.rd (om_load 8 Try.isAgg22 rfl rfl rfl) ?_ | refine LM.rd (om_load 9 Try.isAgg22 rfl rfl rfl) ?_ | refine LM.rd (om_load 10 Try.isAgg22 rfl rfl rfl) ?_ | refine LM.rd (om_load 11 Try.isAgg22 rfl rfl rfl) ?_
          refine LM.strip (t := 46) rfl rfl rfl ?_
          refine LM.val (ov_ueql (b := 0#64) rfl rfl) ?_
          refine LM.strip (t := 46) rfl rfl rfl ?_
          refine LM.val (ov_move rfl) ?_
          first | refine LM.splitD (t := 49) rfl (fun h10 => ?_) (fun h10 => ?_) | refine LM.splitB (t := 49) rfl (fun h10 => ?_) (fun h10 => ?_)
          ·
            refine LM.strip (t := 49) rfl rfl rfl ?_
            first | refine LM.rd (om_load 0 Try.isAgg26 rfl rfl rfl) ?_ | refine LM.rd (om_load 1 Try.isAgg26 rfl rfl rfl) ?_ | refine LM.rd (om_load 2 Try.isAgg26 rfl rfl rfl) ?_ | refine LM.rd (om_load 3 Try.isAgg26 rfl rfl rfl) ?_ | refine LM.rd (om_load 4 Try.isAgg26 rfl rfl rfl) ?_ | refine LM.rd (om_load 5 Try.isAgg26 rfl rfl rfl) ?_ | refine LM.rd (om_load 6 Try.isAgg26 rfl rfl rfl) ?_ | refine LM.rd (om_load 7 Try.isAgg26 rfl rfl rfl) ?_ | refine LM.rd (om_load 8 Try.isAgg26 rfl rfl rfl) ?_ | refine LM.rd (om_load 9 Try.isAgg26 rfl rfl rfl) ?_ | refine LM.rd (om_load 10 Try.isAgg26 rfl rfl rfl) ?_ | refine LM.rd (om_load 11 Try.isAgg26 rfl rfl rfl) ?_
            refine LM.strip (t := 49) rfl rfl rfl ?_
            first | refine LM.rd (om_load 0 Try.isAgg22 rfl rfl rfl) ?_ | refine LM.rd (om_load 1 Try.isAgg22 rfl rfl rfl) ?_ | refine LM.rd (om_load 2 Try.isAgg22 rfl rfl rfl) ?_ | refine LM.rd (om_load 3 Try.isAgg22 rfl rfl rfl) ?_ | refine LM.rd (om_load 4 Try.isAgg22 rfl rfl rfl) ?_ | refine LM.rd (om_load 5 Try.isAgg22 rfl rfl rfl) ?_ | refine LM.rd (om_load 6 Try.isAgg22 rfl rfl rfl) ?_ | refine LM.rd (om_load 7 Try.isAgg22 rfl rfl rfl) ?_ | refine LM.rd (om_load 8 Try.isAgg22 rfl rfl rfl) ?_ | refine LM.rd (om_load 9 Try.isAgg22 rfl rfl rfl) ?_ | refine LM.rd (om_load 10 Try.isAgg22 rfl rfl rfl) ?_ | refine LM.rd (om_load 11 Try.isAgg22 rfl rfl rfl) ?_
            refine LM.strip (t := 49) rfl rfl rfl ?_
            refine LM.callE (oc_call (enters_fn Try.func30 (by kernel_rfl) rfl) rfl) (fun w hm hc hg => rwinner_spec _ w (hl.ext hc) (by omega)) ?_
            refine LM.strip (t := 49) rfl rfl rfl ?_
            refine LM.val (ov_lss rfl rfl) ?_
            refine LM.strip (t := 46) rfl rfl rfl ?_
            refine LM.val (ov_pickT rfl rfl) ?_
            refine LM.val (ov_pickF rfl rfl) ?_
            first | refine LM.store 0 Try.sizeOf4 rfl rfl rfl rfl (by first | decide | (simp; done) | (simp; omega)) rfl (fun hlt => absurd hlt (by omega)) ?_ | refine LM.store 1 Try.sizeOf4 rfl rfl rfl rfl (by first | decide | (simp; done) | (simp; omega)) rfl (fun hlt => absurd hlt (by omega)) ?_ | refine LM.store 2 Try.sizeOf4 rfl rfl rfl rfl (by first | decide | (simp; done) | (simp; omega)) rfl (fun hlt => absurd hlt (by omega)) ?_ | refine LM.store 3 Try.sizeOf4 rfl rfl rfl rfl (by first | decide | (simp; done) | (simp; omega)) rfl (fun hlt => absurd hlt (by omega)) ?_ | refine LM.store 4 Try.sizeOf4 rfl rfl rfl rfl (by first | decide | (simp; done) | (simp; omega)) rfl (fun hlt => absurd hlt (by omega)) ?_ | refine LM.store 5 Try.sizeOf4 rfl rfl rfl rfl (by first | decide | (simp; done) | (simp; omega)) rfl (fun hlt => absurd hlt (by omega)) ?_ | refine LM.store 6 Try.sizeOf4 rfl rfl rfl rfl (by first | decide | (simp; done) | (simp; omega)) rfl (fun hlt => absurd hlt (by omega)) ?_ | refine LM.store 7 Try.sizeOf4 rfl rfl rfl rfl (by first | decide | (simp; done) | (simp; omega)) rfl (fun hlt => absurd hlt (by omega)) ?_ | refine LM.store 8 Try.sizeOf4 rfl rfl rfl rfl (by first | decide | (simp; done) | (simp; omega)) rfl (fun hlt => absurd hlt (by omega)) ?_ | refine LM.store 9 Try.sizeOf4 rfl rfl rfl rfl (by first | decide | (simp; done) | (simp; omega)) rfl (fun hlt => absurd hlt (by omega)) ?_ | refine LM.store 10 Try.sizeOf4 rfl rfl rfl rfl (by first | decide | (simp; done) | (simp; omega)) rfl (fun hlt => absurd hlt (by omega)) ?_ | refine LM.store 11 Try.sizeOf4 rfl rfl rfl rfl (by first | decide | (simp; done) | (simp; omega)) rfl (fun hlt => absurd hlt (by omega)) ?_
            refine LM.nil ?_
            refine QM.sub (e' := [(6, _)]) ⟨rfl, trivial⟩ ?_
            refine QM.then ?_
            refine wpM.ret ?_
            first | refine QM.leaveCD (ds := [D0]) Try.results7 rfl (fun D h => by simp only [List.mem_cons, List.not_mem_nil, or_false] at h; omega) (lv_cell 0 Try.isAgg4 rfl rfl) ?_ | refine QM.leaveCD (ds := [D0]) Try.results7 rfl (fun D h => by simp only [List.mem_cons, List.not_mem_nil, or_false] at h; omega) (lv_cell 1 Try.isAgg4 rfl rfl) ?_ | refine QM.leaveCD (ds := [D0]) Try.results7 rfl (fun D h => by simp only [List.mem_cons, List.not_mem_nil, or_false] at h; omega) (lv_cell 2 Try.isAgg4 rfl rfl) ?_ | refine QM.leaveCD (ds := [D0]) Try.results7 rfl (fun D h => by simp only [List.mem_cons, List.not_mem_nil, or_false] at h; omega) (lv_cell 3 Try.isAgg4 rfl rfl) ?_ | refine QM.leaveCD (ds := [D0]) Try.results7 rfl (fun D h => by simp only [List.mem_cons, List.not_mem_nil, or_false] at h; omega) (lv_cell 4 Try.isAgg4 rfl rfl) ?_ | refine QM.leaveCD (ds := [D0]) Try.results7 rfl (fun D h => by simp only [List.mem_cons, List.not_mem_nil, or_false] at h; omega) (lv_cell 5 Try.isAgg4 rfl rfl) ?_ | refine QM.leaveCD (ds := [D0]) Try.results7 rfl (fun D h => by simp only [List.mem_cons, List.not_mem_nil, or_false] at h; omega) (lv_cell 6 Try.isAgg4 rfl rfl) ?_ | refine QM.leaveCD (ds := [D0]) Try.results7 rfl (fun D h => by simp only [List.mem_cons, List.not_mem_nil, or_false] at h; omega) (lv_cell 7 Try.isAgg4 rfl rfl) ?_ | refine QM.leaveCD (ds := [D0]) Try.results7 rfl (fun D h => by simp only [List.mem_cons, List.not_mem_nil, or_false] at h; omega) (lv_cell 8 Try.isAgg4 rfl rfl) ?_ | refine QM.leaveCD (ds := [D0]) Try.results7 rfl (fun D h => by simp only [List.mem_cons, List.not_mem_nil, or_false] at h; omega) (lv_cell 9 Try.isAgg4 rfl rfl) ?_ | refine QM.leaveCD (ds := [D0]) Try.results7 rfl (fun D h => by simp only [List.mem_cons, List.not_mem_nil, or_false] at h; omega) (lv_cell 10 Try.isAgg4 rfl rfl) ?_ | refine QM.leaveCD (ds := [D0]) Try.results7 rfl (fun D h => by simp only [List.mem_cons, List.not_mem_nil, or_false] at h; omega) (lv_cell 11 Try.isAgg4 rfl rfl) ?_
            intro w' hm' hc'
            -- leaf 7: h1- h2- h3- h4- h5- h6- h7- h8- h9- h10+
            first | exact ⟨rfl, hc'⟩ | (refine ⟨?_, hc'⟩; show Value.bool (decide (winI xs seed < 0)) = Value.bool true; rw [hwm]; rfl) | (exfalso; first | omega | contradiction | (simp at *; done))
          ·
            refine LM.drop (t := 49) rfl rfl rfl ?_
            refine LM.drop (t := 49) rfl rfl rfl ?_
            refine LM.drop (t := 49) rfl rfl rfl ?_
            refine LM.drop (t := 49) rfl rfl rfl ?_
            refine LM.strip (t := 46) rfl rfl rfl ?_
            refine LM.val (ov_pickF rfl rfl) ?_
            refine LM.val (ov_pickF rfl rfl) ?_
            first | refine LM.store 0 Try.sizeOf4 rfl rfl rfl rfl (by first | decide | (simp; done) | (simp; omega)) rfl (fun hlt => absurd hlt (by omega)) ?_ | refine LM.store 1 Try.sizeOf4 rfl rfl rfl rfl (by first | decide | (simp; done) | (simp; omega)) rfl (fun hlt => absurd hlt (by omega)) ?_ | refine LM.store 2 Try.sizeOf4 rfl rfl rfl rfl (by first | decide | (simp; done) | (simp; omega)) rfl (fun hlt => absurd hlt (by omega)) ?_ | refine LM.store 3 Try.sizeOf4 rfl rfl rfl rfl (by first | decide | (simp; done) | (simp; omega)) rfl (fun hlt => absurd hlt (by omega)) ?_ | refine LM.store 4 Try.sizeOf4 rfl rfl rfl rfl (by first | decide | (simp; done) | (simp; omega)) rfl (fun hlt => absurd hlt (by omega)) ?_ | refine LM.store 5 Try.sizeOf4 rfl rfl rfl rfl (by first | decide | (simp; done) | (simp; omega)) rfl (fun hlt => absurd hlt (by omega)) ?_ | refine LM.store 6 Try.sizeOf4 rfl rfl rfl rfl (by first | decide | (simp; done) | (simp; omega)) rfl (fun hlt => absurd hlt (by omega)) ?_ | refine LM.store 7 Try.sizeOf4 rfl rfl rfl rfl (by first | decide | (simp; done) | (simp; omega)) rfl (fun hlt => absurd hlt (by omega)) ?_ | refine LM.store 8 Try.sizeOf4 rfl rfl rfl rfl (by first | decide | (simp; done) | (simp; omega)) rfl (fun hlt => absurd hlt (by omega)) ?_ | refine LM.store 9 Try.sizeOf4 rfl rfl rfl rfl (by first | decide | (simp; done) | (simp; omega)) rfl (fun hlt => absurd hlt (by omega)) ?_ | refine LM.store 10 Try.sizeOf4 rfl rfl rfl rfl (by first | decide | (simp; done) | (simp; omega)) rfl (fun hlt => absurd hlt (by omega)) ?_ | refine LM.store 11 Try.sizeOf4 rfl rfl rfl rfl (by first | decide | (simp; done) | (simp; omega)) rfl (fun hlt => absurd hlt (by omega)) ?_
            refine LM.nil ?_
            refine QM.sub (e' := [(6, _)]) ⟨rfl, trivial⟩ ?_
            refine QM.then ?_
            refine wpM.ret ?_
            first | refine QM.leaveCD (ds := [D0]) Try.results7 rfl (fun D h => by simp only [List.mem_cons, List.not_mem_nil, or_false] at h; omega) (lv_cell 0 Try.isAgg4 rfl rfl) ?_ | refine QM.leaveCD (ds := [D0]) Try.results7 rfl (fun D h => by simp only [List.mem_cons, List.not_mem_nil, or_false] at h; omega) (lv_cell 1 Try.isAgg4 rfl rfl) ?_ | refine QM.leaveCD (ds := [D0]) Try.results7 rfl (fun D h => by simp only [List.mem_cons, List.not_mem_nil, or_false] at h; omega) (lv_cell 2 Try.isAgg4 rfl rfl) ?_ | refine QM.leaveCD (ds := [D0]) Try.results7 rfl (fun D h => by simp only [List.mem_cons, List.not_mem_nil, or_false] at h; omega) (lv_cell 3 Try.isAgg4 rfl rfl) ?_ | refine QM.leaveCD (ds := [D0]) Try.results7 rfl (fun D h => by simp only [List.mem_cons, List.not_mem_nil, or_false] at h; omega) (lv_cell 4 Try.isAgg4 rfl rfl) ?_ | refine QM.leaveCD (ds := [D0]) Try.results7 rfl (fun D h => by simp only [List.mem_cons, List.not_mem_nil, or_false] at h; omega) (lv_cell 5 Try.isAgg4 rfl rfl) ?_ | refine QM.leaveCD (ds := [D0]) Try.results7 rfl (fun D h => by simp only [List.mem_cons, List.not_mem_nil, or_false] at h; omega) (lv_cell 6 Try.isAgg4 rfl rfl) ?_ | refine QM.leaveCD (ds := [D0]) Try.results7 rfl (fun D h => by simp only [List.mem_cons, List.not_mem_nil, or_false] at h; omega) (lv_cell 7 Try.isAgg4 rfl rfl) ?_ | refine QM.leaveCD (ds := [D0]) Try.results7 rfl (fun D h => by simp only [List.mem_cons, List.not_mem_nil, or_false] at h; omega) (lv_cell 8 Try.isAgg4 rfl rfl) ?_ | refine QM.leaveCD (ds := [D0]) Try.results7 rfl (fun D h => by simp only [List.mem_cons, List.not_mem_nil, or_false] at h; omega) (lv_cell 9 Try.isAgg4 rfl rfl) ?_ | refine QM.leaveCD (ds := [D0]) Try.results7 rfl (fun D h => by simp only [List.mem_cons, List.not_mem_nil, or_false] at h; omega) (lv_cell 10 Try.isAgg4 rfl rfl) ?_ | refine QM.leaveCD (ds := [D0]) Try.results7 rfl (fun D h => by simp only [List.mem_cons, List.not_mem_nil, or_false] at h; omega) (lv_cell 11 Try.isAgg4 rfl rfl) ?_
            intro w' hm' hc'
            -- leaf 8: h1- h2- h3- h4- h5- h6- h7- h8- h9- h10-
            first | exact ⟨rfl, hc'⟩ | (refine ⟨?_, hc'⟩; show Value.bool (decide (winI xs seed < 0)) = Value.bool true; rw [hwm]; rfl) | (exfalso; first | omega | contradiction | (simp at *; done))

end Go.Eng

