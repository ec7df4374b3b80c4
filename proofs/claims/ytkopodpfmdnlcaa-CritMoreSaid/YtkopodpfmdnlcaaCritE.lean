/- The walks of what is met first, and of the longest section. No condition. -/
import Derived.Test.YtkopodpfmdnlcaaCritD
set_option linter.unusedVariables false
set_option linter.unusedSimpArgs false
namespace Go.Eng
open Go Go.Proofs Go.RowKit

def ckV (fv : Bool) (xs : List COp) (ls : List CLk) (progs : Int) : Value := .tuple #[.int .i64 (ckO fv xs ls progs).1, .int .i64 (ckO fv xs ls progs).2]
theorem fits_lt2 {T K r : Bool} {q : Bool} {a : Int} {n : Nat} (hq : q = ((T || K) && decide (a ≥ n) || r)) (h : q = false) (ht : T = true) : a < n := by
  rw [h, ht, Bool.true_or, Bool.true_and] at hq
  have := (Bool.or_eq_false_iff.1 hq.symm).1
  have := of_decide_eq_false this
  omega
theorem ckV_at {fv : Bool} {xs : List COp} {ls : List CLk} {progs e : Int} {i : Nat} (h : mayB xs = true) (h0 : ∀ j, j < i → fitsO fv xs ls progs j = 0) (hi : i < xs.length) (hf : fitsO fv xs ls progs i = e) (he : e ≠ 0) : ckV fv xs ls progs = .tuple #[.int .i64 (i : Nat), .int .i64 e] := by
  unfold ckV; rw [ck_at h h0 hi (by rw [hf]; exact he), hf]
theorem ckV_end {fv : Bool} {xs : List COp} {ls : List CLk} {progs : Int} {b : Bool} (h : mayB xs = true) (h0 : ∀ j, j < xs.length → fitsO fv xs ls progs j = 0) (hb : (fv && !xs.any (fun o => passB o.k)) = b) : ckV fv xs ls progs = .tuple #[.int .i64 0, .int .i64 (if b then 1 else 0)] := by
  unfold ckV; rw [ck_end h h0, hb]; cases b <;> rfl
theorem ckV_none {fv : Bool} {xs : List COp} {ls : List CLk} {progs : Int} (h : mayB xs = false) : ckV fv xs ls progs = .tuple #[.int .i64 0, .int .i64 1] := by
  unfold ckV; rw [ck_none h]
set_option maxRecDepth 100000 in
theorem longest_spec {xs : List COp} {fv : Bool} {ad : Option Addr} {n cap : Nat} (lock : Int) (w : World) (hn : n = xs.length) (hl : Sr fO 3 xs (.slice ad n cap) w) (hs : smallO xs) : Ret Try.prog 10 #[pV fv ad n cap, .int .i64 lock] w (fun v w' => v = .int .i64 (longL xs lock (filN (tkT xs) xs.length)) ∧ Ext w w') := by
  refine Ret.enterM (l := [pV fv ad n cap, .int .i64 lock]) Try.func10 rfl Try.ntmps10 rfl ([]) (no) (Mem.nil w) ?_
  refine wpM.seq ?_
  refine wpM.region ?_
  refine LM.box rfl rfl (fun b2 hb2 => ?_)
  refine LM.box rfl rfl (fun b3 hb3 => ?_)
  refine LM.val (ov_assign rfl) ?_
  refine LM.nil ?_
  refine QM.sub (e' := [(2, _), (3, _)]) ⟨rfl, rfl, trivial⟩ ?_
  refine QM.then ?_
  refine wpM.seq ?_
  refine wpM.region ?_
  refine LM.alloc Try.zeroValue3 rfl (fun b5 hb5 => ?_)
  refine LM.st Try.sizeOf3 rfl rfl rfl (by first | decide | exact Nat.le_of_ble_eq_true rfl | (simp; done) | (simp; omega)) rfl (fun hlt => absurd hlt (by omega)) ?_
  refine LM.nil ?_
  refine QM.sub (e' := [(2, _), (3, _), (5, _)]) ⟨rfl, rfl, rfl, trivial⟩ ?_
  refine QM.then ?_
  refine wpM.seq ?_
  refine wpM.seq ?_
  refine wpM.region ?_
  first | refine LM.rd (om_ldW Try.isAgg24 Try.sizeOf24 rfl rfl) ?_ | refine LM.rd (om_ldA Try.isAgg24 Try.sizeOf24 rfl (vs := [_, _]) rfl ⟨rfl, rfl, trivial⟩) ?_
  refine LM.callT (oc_call (enters_fn Try.func11 (by kernel_rfl) rfl) rfl) SecsT.mono (fun w hm hc hg => secs_spec fv ad n cap w) ?_
  rintro u8 m8 ⟨c1, rfl, rfl, hc1⟩ -
  refine LM.nil ?_
  refine QM.sub (e' := [(3, _), (5, _), (8, _)]) ⟨rfl, rfl, rfl, trivial⟩ ?_
  refine QM.then ?_
  refine wpM.block ?_
  refine wpM.toRange (α := Int) (fun k v => iB b5 v :: pB c1 fv ad n cap :: iB b3 lock :: pB b2 fv ad n cap :: []) (0) (by (repeat' (first | exact SubM.nil _ | refine SubM.cons rfl ?_ | refine SubM.app ?_))) ?_
  refine wpM.range (α := Int) (β := Unit) (enters_fn Try.func20 (by kernel_rfl) rfl) rfl (secs_seq (xs := xs) hn hs) (fun k v => iB b5 v :: pB c1 fv ad n cap :: iB b3 lock :: pB b2 fv ad n cap :: []) (fun _ _ => top) (fun k v => k ≤ filN (tkT xs) xs.length ∧ v = longL xs lock k) (fun ⟨⟩ => []) (fun _ => top) (fun c ⟨⟩ => False) 0 rfl (fun _ h => h) ⟨Nat.zero_le _, rfl⟩ (by kernel_rfl) (by intro k av hav; obtain ⟨p, hp, rfl⟩ := secA_inv hav; have hkl := (List.getElem?_eq_some_iff.1 hp).1; rw [← filN_len] at hkl; rfl) (.inl trivial) (fun k a w hm hc _ _ => ⟨SubM.mem (by (repeat' (first | exact SubM.nil _ | refine SubM.cons rfl ?_ | refine SubM.app ?_))) w hm, hl.ext hc⟩) (fun _ _ _ _ => gl_top _) (fun _ _ _ => gl_top _) (fun k x _ => mm_cons rfl (mm_cons rfl (mm_cons rfl (mm_cons rfl mm_nil)))) (fun c z _ => by ((repeat (refine mm_cons rfl ?_)); exact fun p hp => .inl (by first | exact hp | (simp at hp; done) | (simp [hp]; done) | (simp at hp ⊢; first | exact .inl hp | exact hp | (simp [hp]; done))))) ?_ ?_ ?_ ?_
  ·
    rintro k av v l D rc n1 W1 hD hll hput hrc hav ⟨hk, hv⟩
    change wpM _ _ _ _ _ _ _ ((l, Obj.loop rc) :: ([(D, Obj.deferred (some []))] ++ (iB b5 v :: pB c1 fv ad n cap :: iB b3 lock :: pB b2 fv ad n cap :: []))) _ _ _
    obtain ⟨p, hp, rfl⟩ := secA_inv hav; have hkl := (List.getElem?_eq_some_iff.1 hp).1; rw [← filN_len] at hkl
    refine wpM.region ?_
    refine LM.alloc Try.zeroValue44 rfl (fun b6 hb6 => ?_)
    first | refine LM.stW Try.sizeOf44 rfl rfl rfl rfl (by first | rfl | decide | (simp; done)) (fun hlt => absurd hlt (by omega)) ?_ | refine LM.st Try.sizeOf44 rfl rfl rfl (by first | decide | exact Nat.le_of_ble_eq_true rfl | (simp; done) | (simp; omega)) rfl (fun hlt => absurd hlt (by omega)) ?_
    refine LM.nil ?_
    refine QM.sub (e' := [(3, _), (5, _), (6, _)]) ⟨rfl, rfl, rfl, trivial⟩ ?_
    refine QM.toBodyF (hput k v) hll ?_
    refine wpM.block ?_
    refine wpM.seq ?_
    refine wpM.region ?_
    refine LM.val (ov_field Try.underlying44 rfl Try.sizeOf3 rfl (k := 2) rfl rfl) ?_
    first | refine LM.rd (om_ld Try.isAgg3 rfl rfl) ?_
    first | refine LM.rd (om_ld Try.isAgg3 rfl rfl) ?_
    refine LM.val (ov_eql rfl rfl) ?_
    refine LM.nil ?_
    refine QM.sub (e' := [(5, _), (6, _), (13, _)]) ⟨rfl, rfl, rfl, trivial⟩ ?_
    refine QM.then ?_
    first | refine wpM.condD rfl (fun h1 => ?_) (fun h1 => ?_) | refine wpM.condB rfl (fun h1 => ?_) (fun h1 => ?_)
    ·
      refine wpM.region ?_
      first | refine LM.rd (om_ld Try.isAgg3 rfl rfl) ?_
      refine LM.val (ov_field Try.underlying44 rfl Try.sizeOf3 rfl (k := 3) rfl rfl) ?_
      first | refine LM.rd (om_ld Try.isAgg3 rfl rfl) ?_
      refine LM.val (ov_max rfl rfl) ?_
      refine LM.st Try.sizeOf3 rfl rfl rfl (by first | decide | exact Nat.le_of_ble_eq_true rfl | (simp; done) | (simp; omega)) rfl (fun hlt => absurd hlt (by omega)) ?_
      refine LM.nil ?_
      refine QM.sub (e' := []) trivial ?_
      refine QM.block_normal ?_
      -- next1: h1+
      refine QM.next (_) (SubM.mem (by (repeat' (first | exact SubM.nil _ | refine SubM.cons rfl ?_ | refine SubM.app ?_)))) (fun _ h => h) ?_
      · exact ⟨by omega, by rw [longL_succ hp, longS, if_pos h1, ← hv]; split <;> omega⟩
    ·
      refine wpM.skip ?_
      refine QM.block_normal ?_
      -- next2: h1-
      refine QM.next (v) (SubM.mem (by (repeat' (first | exact SubM.nil _ | refine SubM.cons rfl ?_ | refine SubM.app ?_)))) (fun _ h => h) ?_
      · exact ⟨by omega, by rw [longL_succ hp, longS, if_neg h1, hv]⟩
  ·
    rintro v D0 hD0 ⟨hk, hv⟩
    refine QM.sub (e' := [(5, _)]) ⟨rfl, trivial⟩ ?_
    refine QM.block_normal ?_
    refine QM.then ?_
    refine wpM.seq ?_
    refine wpM.region ?_
    first | refine LM.rd (om_ld Try.isAgg3 rfl rfl) ?_
    refine LM.val (ov_assign rfl) ?_
    refine LM.nil ?_
    refine QM.sub (e' := [(4, _)]) ⟨rfl, trivial⟩ ?_
    refine QM.then ?_
    refine wpM.ret ?_
    refine QM.leaveDF (ds := [D0]) (.inl rfl) [.tmp 4] Try.results10 rfl (fun D h => by simp only [List.mem_cons, List.not_mem_nil, or_false] at h; omega) ?_
    intro w' hm' hc'
    -- leaf 1: 
    refine ⟨?_, hc'⟩; simp only [resV]; rw [hv, secA_len]; rfl
  ·
    rintro ⟨⟩ D0 hD0 hx
    first | exact hx.elim | cases hx.1
  ·
    rintro id ⟨⟩ D0 hD0 hx
    first | exact hx.elim | cases hx.1 | cases hx

set_option maxRecDepth 100000 in
theorem check_spec {xs : List COp} {ls : List CLk} {fv : Bool} {ad ad2 : Option Addr} {n cap n2 cap2 : Nat} (progs : Int) (w : World) (hn : n = xs.length) (hl : Sr fO 3 xs (.slice ad n cap) w) (hn2 : n2 = ls.length) (hl2 : Sr fL 5 ls (.slice ad2 n2 cap2) w) : Ret Try.prog 7 #[pV fv ad n cap, .slice ad2 n2 cap2, .int .i64 progs] w (fun v w' => v = ckV fv xs ls progs ∧ Ext w w') := by
  refine Ret.enterM (l := [pV fv ad n cap, .slice ad2 n2 cap2, .int .i64 progs]) Try.func7 rfl Try.ntmps7 rfl ([]) (no) (Mem.nil w) ?_
  refine wpM.seq ?_
  refine wpM.region ?_
  refine LM.box rfl rfl (fun b3 hb3 => ?_)
  refine LM.box rfl rfl (fun b4 hb4 => ?_)
  refine LM.box rfl rfl (fun b5 hb5 => ?_)
  refine LM.alloc Try.zeroValue3 rfl (fun b6 hb6 => ?_)
  refine LM.alloc Try.zeroValue28 rfl (fun b7 hb7 => ?_)
  refine LM.nil ?_
  refine QM.sub (e' := [(3, _), (4, _), (5, _), (6, _), (7, _)]) ⟨rfl, rfl, rfl, rfl, rfl, trivial⟩ ?_
  refine QM.then ?_
  refine wpM.seq ?_
  refine wpM.seq ?_
  refine wpM.region ?_
  first | refine LM.rd (om_ldW Try.isAgg24 Try.sizeOf24 rfl rfl) ?_ | refine LM.rd (om_ldA Try.isAgg24 Try.sizeOf24 rfl (vs := [_, _]) rfl ⟨rfl, rfl, trivial⟩) ?_
  refine LM.callE (oc_call (enters_fn Try.func12 (by kernel_rfl) rfl) rfl) (fun w hm hc hg => pmay_spec w hn (hl.ext hc)) ?_
  first | refine LM.val (ov_notD rfl) ?_ | refine LM.val (ov_not rfl) ?_
  refine LM.nil ?_
  refine QM.sub (e' := [(3, _), (4, _), (5, _), (6, _), (7, _), (12, _)]) ⟨rfl, rfl, rfl, rfl, rfl, rfl, trivial⟩ ?_
  refine QM.then ?_
  first | refine wpM.condD rfl (fun h1 => ?_) (fun h1 => ?_) | refine wpM.condB rfl (fun h1 => ?_) (fun h1 => ?_)
  ·
    refine wpM.seq ?_
    refine wpM.region ?_
    refine LM.st Try.sizeOf3 rfl rfl rfl (by first | decide | exact Nat.le_of_ble_eq_true rfl | (simp; done) | (simp; omega)) rfl (fun hlt => absurd hlt (by omega)) ?_
    refine LM.st Try.sizeOf28 rfl rfl rfl (by first | decide | exact Nat.le_of_ble_eq_true rfl | (simp; done) | (simp; omega)) rfl (fun hlt => absurd hlt (by omega)) ?_
    refine LM.nil ?_
    refine QM.sub (e' := [(6, _), (7, _)]) ⟨rfl, rfl, trivial⟩ ?_
    refine QM.then ?_
    refine wpM.ret ?_
    refine QM.then_ret ?_
    refine QM.leaveCs (ds := ([])) (.inl rfl) [.cell 6 3, .cell 7 28] Try.results7 hd_nil (rc_c rfl Try.isAgg3 rfl (rc_c rfl Try.isAgg28 rfl rc_nil)) ?_
    intro w' hm' hc'
    -- leaf 1: h1+
    exact ⟨(ckV_none (by simpa using h1)).symm, hc'⟩
  ·
    have hm0 : mayB xs = true := (by simpa using h1); have hx20 := (may_small hm0).1
    refine wpM.skip ?_
    refine QM.then ?_
    refine wpM.seq ?_
    refine wpM.seq ?_
    refine wpM.region ?_
    first | refine LM.rd (om_ldW Try.isAgg24 Try.sizeOf24 rfl rfl) ?_ | refine LM.rd (om_ldA Try.isAgg24 Try.sizeOf24 rfl (vs := [_, _]) rfl ⟨rfl, rfl, trivial⟩) ?_
    refine LM.callT (oc_call (enters_fn Try.func13 (by kernel_rfl) rfl) rfl) EachT.mono (fun w hm hc hg => each_spec fv ad n cap w) ?_
    rintro u14 m14 ⟨c1, rfl, rfl, hc1⟩ -
    refine LM.nil ?_
    refine QM.sub (e' := [(3, _), (4, _), (5, _), (6, _), (7, _), (14, _)]) ⟨rfl, rfl, rfl, rfl, rfl, rfl, trivial⟩ ?_
    refine QM.then ?_
    refine wpM.block ?_
    refine wpM.toRange (α := Unit) (fun k ⟨⟩ => pB c1 fv ad n cap :: eB b7 0 :: iB b6 0 :: iB b5 progs :: lB b4 ad2 n2 cap2 :: pB b3 fv ad n cap :: []) (⟨⟩) (by (repeat' (first | exact SubM.nil _ | refine SubM.cons rfl ?_ | refine SubM.app ?_))) ?_
    refine wpM.range (α := Unit) (β := Nat) (enters_fn Try.func25 (by kernel_rfl) rfl) rfl (each_seq (xs := xs) hn (by omega)) (fun k ⟨⟩ => pB c1 fv ad n cap :: eB b7 0 :: iB b6 0 :: iB b5 progs :: lB b4 ad2 n2 cap2 :: pB b3 fv ad n cap :: []) (fun _ _ => top) (fun k ⟨⟩ => k ≤ xs.length ∧ ∀ j, j < k → fitsO fv xs ls progs j = 0) (fun i => eB b7 (fitsO fv xs ls progs i) :: iB b6 (i : Nat) :: []) (fun _ => top) (fun c i => c = .ret ∧ i < xs.length ∧ (∀ j, j < i → fitsO fv xs ls progs j = 0) ∧ fitsO fv xs ls progs i ≠ 0) ⟨⟩ rfl (fun _ h => h) ⟨Nat.zero_le _, fun j hj => absurd hj (Nat.not_lt_zero _)⟩ (by kernel_rfl) (by intro k av hav; obtain ⟨hkx, rfl⟩ := eachA_inv hav; rfl) (.inl trivial) (fun k a w hm hc _ _ => ⟨SubM.mem (by (repeat' (first | exact SubM.nil _ | refine SubM.cons rfl ?_ | refine SubM.app ?_))) w hm, hl.ext hc⟩) (fun _ _ _ _ => gl_top _) (fun _ _ _ => gl_top _) (fun k x _ => by ((repeat (refine mm_cons rfl ?_)); exact fun p hp => .inl (by first | exact hp | (simp at hp; done) | (simp [hp]; done) | (simp at hp ⊢; first | exact .inl hp | exact hp | (simp [hp]; done))))) (fun c z _ => by ((repeat (refine mm_cons rfl ?_)); exact fun p hp => .inl (by first | exact hp | (simp at hp; done) | (simp [hp]; done) | (simp at hp ⊢; first | exact .inl hp | exact hp | (simp [hp]; done))))) ?_ ?_ ?_ ?_
    ·
      rintro k av ⟨⟩ l D rc n1 W1 hD hll hput hrc hav ⟨hk, h0⟩
      change wpM _ _ _ _ _ _ _ ((l, Obj.loop rc) :: ([(D, Obj.deferred (some []))] ++ (pB c1 fv ad n cap :: eB b7 0 :: iB b6 0 :: iB b5 progs :: lB b4 ad2 n2 cap2 :: pB b3 fv ad n cap :: []))) _ _ _
      obtain ⟨hkx, rfl⟩ := eachA_inv hav
      refine wpM.region ?_
      refine LM.val (ov_assign rfl) ?_
      refine LM.nil ?_
      refine QM.sub (e' := [(3, _), (4, _), (5, _), (6, _), (7, _), (8, _)]) ⟨rfl, rfl, rfl, rfl, rfl, rfl, trivial⟩ ?_
      refine QM.toBodyF (hput k ⟨⟩) hll ?_
      refine wpM.block ?_
      refine wpM.seq ?_
      refine wpM.region ?_
      first | refine LM.rd (om_ldW Try.isAgg24 Try.sizeOf24 rfl rfl) ?_ | refine LM.rd (om_ldA Try.isAgg24 Try.sizeOf24 rfl (vs := [_, _]) rfl ⟨rfl, rfl, trivial⟩) ?_
      refine LM.val (ov_move rfl) ?_
      first | refine LM.rd (om_ld Try.isAgg25 rfl rfl) ?_
      first | refine LM.rd (om_ld Try.isAgg3 rfl rfl) ?_
      refine LM.callE (oc_call (enters_fn Try.func14 (by kernel_rfl) rfl) rfl) (fun w hm hc hg => fits_spec k progs w hn (hl.ext hc) hn2 (hl2.ext hc) hm0 hkx) ?_
      refine LM.val (ov_assign rfl) ?_
      refine LM.nil ?_
      refine QM.sub (e' := [(6, _), (7, _), (8, _), (9, _)]) ⟨rfl, rfl, rfl, rfl, trivial⟩ ?_
      refine QM.then ?_
      refine wpM.seq ?_
      refine wpM.region ?_
      refine LM.val (ov_move rfl) ?_
      refine LM.val (ov_neq rfl rfl) ?_
      refine LM.nil ?_
      refine QM.sub (e' := [(6, _), (7, _), (8, _), (9, _), (23, _)]) ⟨rfl, rfl, rfl, rfl, rfl, trivial⟩ ?_
      refine QM.then ?_
      first | refine wpM.condD rfl (fun h2 => ?_) (fun h2 => ?_) | refine wpM.condB rfl (fun h2 => ?_) (fun h2 => ?_)
      ·
        refine wpM.seq ?_
        refine wpM.region ?_
        refine LM.val (ov_move rfl) ?_
        refine LM.val (ov_move rfl) ?_
        refine LM.st Try.sizeOf3 rfl rfl rfl (by first | decide | exact Nat.le_of_ble_eq_true rfl | (simp; done) | (simp; omega)) rfl (fun hlt => absurd hlt (by omega)) ?_
        refine LM.st Try.sizeOf28 rfl rfl rfl (by first | decide | exact Nat.le_of_ble_eq_true rfl | (simp; done) | (simp; omega)) rfl (fun hlt => absurd hlt (by omega)) ?_
        refine LM.nil ?_
        refine QM.sub (e' := [(6, _), (7, _)]) ⟨rfl, rfl, trivial⟩ ?_
        refine QM.then ?_
        refine wpM.ret ?_
        refine QM.block_ret ?_
        -- ret1: h1- h2+
        refine QM.rret (k) (SubM.mem (by (repeat' (first | exact SubM.nil _ | refine SubM.cons rfl ?_ | refine SubM.app ?_)))) (fun _ h => h) ?_
        · exact ⟨rfl, hkx, h0, by simpa using h2⟩
      ·
        refine wpM.skip ?_
        refine QM.block_normal ?_
        -- next1: h1- h2-
        refine QM.next (⟨⟩) (SubM.mem (by (repeat' (first | exact SubM.nil _ | refine SubM.cons rfl ?_ | refine SubM.app ?_)))) (fun _ h => h) ?_
        · exact ⟨by omega, before_succ h0 (by simpa using h2)⟩
    ·
      rintro ⟨⟩ D0 hD0 ⟨hk, h0⟩
      refine QM.sub (e' := [(3, _), (6, _), (7, _)]) ⟨rfl, rfl, rfl, trivial⟩ ?_
      refine QM.block_normal ?_
      refine QM.then ?_
      refine wpM.seq ?_
      refine wpM.seq ?_
      refine wpM.region ?_
      refine LM.val (ov_field Try.underlying24 rfl Try.sizeOf4 rfl (k := 0) rfl rfl) ?_
      first | refine LM.rd (om_ld Try.isAgg4 rfl rfl) ?_
      refine LM.val (ov_move rfl) ?_
      first | refine LM.splitD (t := 28) rfl (fun h3 => ?_) (fun h3 => ?_) | refine LM.splitB (t := 28) rfl (fun h3 => ?_) (fun h3 => ?_)
      ·
        refine LM.strip (t := 28) rfl rfl rfl ?_
        refine LM.val (ov_field Try.underlying24 rfl Try.sizeOf22 rfl (k := 1) rfl rfl) ?_
        refine LM.strip (t := 28) rfl rfl rfl ?_
        first | refine LM.rd (om_ld Try.isAgg22 rfl rfl) ?_
        refine LM.strip (t := 28) rfl rfl rfl ?_
        refine LM.callE (oc_call (enters_fn Try.func15 (by kernel_rfl) rfl) rfl) (fun w hm hc hg => cof_pass w hn (hl.ext hc) (by omega)) ?_
        refine LM.strip (t := 28) rfl rfl rfl ?_
        first | refine LM.val (ov_notD rfl) ?_ | refine LM.val (ov_not rfl) ?_
        refine LM.val (ov_pickT rfl rfl) ?_
        refine LM.nil ?_
        refine QM.sub (e' := [(6, _), (7, _), (33, _)]) ⟨rfl, rfl, rfl, trivial⟩ ?_
        refine QM.then ?_
        first | refine wpM.condD rfl (fun h4 => ?_) (fun h4 => ?_) | refine wpM.condB rfl (fun h4 => ?_) (fun h4 => ?_)
        ·
          refine wpM.seq ?_
          refine wpM.region ?_
          refine LM.st Try.sizeOf3 rfl rfl rfl (by first | decide | exact Nat.le_of_ble_eq_true rfl | (simp; done) | (simp; omega)) rfl (fun hlt => absurd hlt (by omega)) ?_
          refine LM.st Try.sizeOf28 rfl rfl rfl (by first | decide | exact Nat.le_of_ble_eq_true rfl | (simp; done) | (simp; omega)) rfl (fun hlt => absurd hlt (by omega)) ?_
          refine LM.nil ?_
          refine QM.sub (e' := [(6, _), (7, _)]) ⟨rfl, rfl, trivial⟩ ?_
          refine QM.then ?_
          refine wpM.ret ?_
          refine QM.then_ret ?_
          refine QM.leaveCs (ds := (D0 :: [])) (.inl rfl) [.cell 6 3, .cell 7 28] Try.results7 (hd_cons hD0 hd_nil) (rc_c rfl Try.isAgg3 rfl (rc_c rfl Try.isAgg28 rfl rc_nil)) ?_
          intro w' hm' hc'
          -- leaf 2: h1- h3+ h4+
          exact ⟨(ckV_end (b := true) hm0 (fun j hj => h0 j (by rw [eachA_len]; exact hj)) (by rw [h3, h4]; rfl)).symm, hc'⟩
        ·
          refine wpM.skip ?_
          refine QM.then ?_
          refine wpM.seq ?_
          refine wpM.region ?_
          refine LM.st Try.sizeOf3 rfl rfl rfl (by first | decide | exact Nat.le_of_ble_eq_true rfl | (simp; done) | (simp; omega)) rfl (fun hlt => absurd hlt (by omega)) ?_
          refine LM.st Try.sizeOf28 rfl rfl rfl (by first | decide | exact Nat.le_of_ble_eq_true rfl | (simp; done) | (simp; omega)) rfl (fun hlt => absurd hlt (by omega)) ?_
          refine LM.nil ?_
          refine QM.sub (e' := [(6, _), (7, _)]) ⟨rfl, rfl, trivial⟩ ?_
          refine QM.then ?_
          refine wpM.ret ?_
          refine QM.leaveCs (ds := (D0 :: [])) (.inl rfl) [.cell 6 3, .cell 7 28] Try.results7 (hd_cons hD0 hd_nil) (rc_c rfl Try.isAgg3 rfl (rc_c rfl Try.isAgg28 rfl rc_nil)) ?_
          intro w' hm' hc'
          -- leaf 3: h1- h3+ h4-
          exact ⟨(ckV_end (b := false) hm0 (fun j hj => h0 j (by rw [eachA_len]; exact hj)) (by rw [h3, h4]; rfl)).symm, hc'⟩
      ·
        refine LM.drop (t := 28) rfl rfl rfl ?_
        refine LM.drop (t := 28) rfl rfl rfl ?_
        refine LM.drop (t := 28) rfl rfl rfl ?_
        refine LM.drop (t := 28) rfl rfl rfl ?_
        refine LM.val (ov_pickF rfl rfl) ?_
        refine LM.nil ?_
        refine QM.sub (e' := [(6, _), (7, _), (33, _)]) ⟨rfl, rfl, rfl, trivial⟩ ?_
        refine QM.then ?_
        refine wpM.condF rfl ?_
        refine wpM.skip ?_
        refine QM.then ?_
        refine wpM.seq ?_
        refine wpM.region ?_
        refine LM.st Try.sizeOf3 rfl rfl rfl (by first | decide | exact Nat.le_of_ble_eq_true rfl | (simp; done) | (simp; omega)) rfl (fun hlt => absurd hlt (by omega)) ?_
        refine LM.st Try.sizeOf28 rfl rfl rfl (by first | decide | exact Nat.le_of_ble_eq_true rfl | (simp; done) | (simp; omega)) rfl (fun hlt => absurd hlt (by omega)) ?_
        refine LM.nil ?_
        refine QM.sub (e' := [(6, _), (7, _)]) ⟨rfl, rfl, trivial⟩ ?_
        refine QM.then ?_
        refine wpM.ret ?_
        refine QM.leaveCs (ds := (D0 :: [])) (.inl rfl) [.cell 6 3, .cell 7 28] Try.results7 (hd_cons hD0 hd_nil) (rc_c rfl Try.isAgg3 rfl (rc_c rfl Try.isAgg28 rfl rc_nil)) ?_
        intro w' hm' hc'
        -- leaf 4: h1- h3-
        exact ⟨(ckV_end (b := false) hm0 (fun j hj => h0 j (by rw [eachA_len]; exact hj)) (by rw [h3]; rfl)).symm, hc'⟩
    ·
      rintro i D0 hD0 hx
      obtain ⟨-, hi, h0, hne⟩ := hx
      refine QM.block_ret ?_
      refine QM.then_ret ?_
      refine QM.leaveCs (ds := (D0 :: [])) (.inl rfl) [.cell 6 3, .cell 7 28] Try.results7 (hd_cons hD0 hd_nil) (rc_c rfl Try.isAgg3 rfl (rc_c rfl Try.isAgg28 rfl rc_nil)) ?_
      intro w' hm' hc'
      -- leaf 5: h1- h3-
      exact ⟨(ckV_at hm0 h0 hi rfl hne).symm, hc'⟩
    ·
      rintro id i D0 hD0 hx
      first | exact hx.elim | cases hx.1 | cases hx

set_option maxRecDepth 100000 in
set_option maxHeartbeats 1000000 in
theorem rcheck_spec {xs : List COp} {ls : List CLk} {fv : Bool} {ad ad2 : Option Addr} {n cap n2 cap2 : Nat} (progs : Int) (w : World) (hn : n = xs.length) (hl : Sr fO 3 xs (.slice ad n cap) w) (hn2 : n2 = ls.length) (hl2 : Sr fL 5 ls (.slice ad2 n2 cap2) w) : Ret Try.prog 8 #[pV fv ad n cap, .slice ad2 n2 cap2, .int .i64 progs] w (fun v w' => v = ckV fv xs ls progs ∧ Ext w w') := by
  refine Ret.enterM (l := [pV fv ad n cap, .slice ad2 n2 cap2, .int .i64 progs]) Try.func8 rfl Try.ntmps8 rfl ([]) (no) (Mem.nil w) ?_
  refine wpM.seq ?_
  refine wpM.region ?_
  refine LM.box rfl rfl (fun b3 hb3 => ?_)
  refine LM.val (ov_assign rfl) ?_
  refine LM.val (ov_assign rfl) ?_
  refine LM.nil ?_
  refine QM.sub (e' := [(1, _), (2, _), (3, _)]) ⟨rfl, rfl, rfl, trivial⟩ ?_
  refine QM.then ?_
  refine wpM.seq ?_
  refine wpM.seq ?_
  refine wpM.region ?_
  first | refine LM.rd (om_ldW Try.isAgg24 Try.sizeOf24 rfl rfl) ?_ | refine LM.rd (om_ldA Try.isAgg24 Try.sizeOf24 rfl (vs := [_, _]) rfl ⟨rfl, rfl, trivial⟩) ?_
  refine LM.callE (oc_call (enters_fn Try.func9 (by kernel_rfl) rfl) rfl) (fun w hm hc hg => rmay_spec w hn (hl.ext hc)) ?_
  first | refine LM.val (ov_notD rfl) ?_ | refine LM.val (ov_not rfl) ?_
  refine LM.nil ?_
  refine QM.sub (e' := [(1, _), (2, _), (3, _), (14, _)]) ⟨rfl, rfl, rfl, rfl, trivial⟩ ?_
  refine QM.then ?_
  first | refine wpM.condD rfl (fun h1 => ?_) (fun h1 => ?_) | refine wpM.condB rfl (fun h1 => ?_) (fun h1 => ?_)
  ·
    refine wpM.seq ?_
    refine wpM.region ?_
    refine LM.val (ov_assign rfl) ?_
    refine LM.val (ov_assign rfl) ?_
    refine LM.nil ?_
    refine QM.sub (e' := [(6, _), (7, _)]) ⟨rfl, rfl, trivial⟩ ?_
    refine QM.then ?_
    refine wpM.ret ?_
    refine QM.then_ret ?_
    refine QM.leave (.inl rfl) [.tmp 6, .tmp 7] Try.results8 rfl ?_
    intro w' hm' hc' hg'
    -- leaf 1: h1+
    exact ⟨(ckV_none (by simpa using h1)).symm, hc'⟩
  ·
    have hm0 : mayB xs = true := (by simpa using h1); have hsm := may_small hm0; have hx20 := hsm.1
    refine wpM.skip ?_
    refine QM.then ?_
    refine wpM.seq ?_
    refine wpM.region ?_
    refine LM.val (ov_assign rfl) ?_
    refine LM.nil ?_
    refine QM.sub (e' := [(1, _), (2, _), (3, _), (8, _)]) ⟨rfl, rfl, rfl, rfl, trivial⟩ ?_
    refine QM.then ?_
    refine wpM.seq ?_
    refine wpM.seq ?_
    refine wpM.region ?_
    refine LM.val (ov_assign rfl) ?_
    refine LM.nil ?_
    refine QM.sub (e' := [(1, _), (2, _), (3, _), (8, _), (9, _)]) ⟨rfl, rfl, rfl, rfl, rfl, trivial⟩ ?_
    refine QM.then ?_
    refine wpM.block ?_
    refine wpM.loopK0 (α := Nat) (fun i => [(8, .bool ((xs.take i).any (fun o => passB o.k))), (9, .int .i64 (i : Nat))]) [(1, _), (2, _), (3, _)] (fun i => pB b3 fv ad n cap :: []) (fun i => i ≤ xs.length ∧ ∀ j, j < i → fitsO fv xs ls progs j = 0) (fun i => xs.length - i) (0) ⟨(by first | rfl | exact lk rfl (by congr 1; omega) | exact lk rfl (by simp)), (by first | rfl | exact lk rfl (by congr 1; omega) | exact lk rfl (by simp)), rfl, rfl, rfl, trivial⟩ (by (repeat' (first | exact SubM.nil _ | refine SubM.cons rfl ?_ | refine SubM.app ?_))) ⟨Nat.zero_le _, fun j hj => absurd hj (Nat.not_lt_zero _)⟩ ?_
    rintro i ⟨hi, h0⟩
    change wpM _ _ _ _ _ _ _ (pB b3 fv ad n cap :: []) _ _ _
    refine wpM.seq ?_
    refine wpM.seq ?_
    refine wpM.region ?_
    refine LM.val (ov_move rfl) ?_
    refine LM.val (ov_field Try.underlying24 rfl Try.sizeOf22 rfl (k := 1) rfl rfl) ?_
    first | refine LM.rd (om_ld Try.isAgg22 rfl rfl) ?_
    refine LM.val (ov_len Try.underlying22 rfl) ?_
    refine LM.val (ov_lss rfl rfl) ?_
    refine LM.nil ?_
    refine QM.sub (e' := [(1, _), (2, _), (3, _), (8, _), (9, _), (19, _)]) ⟨rfl, rfl, rfl, rfl, rfl, rfl, trivial⟩ ?_
    refine QM.then ?_
    first | refine wpM.condD rfl (fun h2 => ?_) (fun h2 => ?_) | refine wpM.condB rfl (fun h2 => ?_) (fun h2 => ?_)
    ·
      refine wpM.skip ?_
      refine QM.then ?_
      refine wpM.seq ?_
      refine wpM.block ?_
      refine wpM.seq ?_
      refine wpM.region ?_
      refine LM.val (ov_field Try.underlying24 rfl Try.sizeOf22 rfl (k := 1) rfl rfl) ?_
      first | refine LM.rd (om_ld Try.isAgg22 rfl rfl) ?_
      refine LM.val (ov_move rfl) ?_
      first | refine LM.val (ov_idxSN (by first | exact Sr.spt (by assumption) | exact Sl.spt (by assumption)) Try.underlying22 Try.sizeOf38 rfl rfl (by omega)) ?_ | refine LM.val (ov_idxS (by first | exact Sr.spt (by assumption) | exact Sl.spt (by assumption)) Try.underlying22 Try.sizeOf38 rfl rfl (by omega)) ?_ | refine LM.val (ov_idx Try.underlying22 Try.sizeOf38 rfl rfl (by omega)) ?_
      first | refine LM.rd (om_slA (by assumption) (by intro _; rfl) Try.isAgg38 Try.sizeOf38 rfl (by exact getq default (by first | omega | (simp only [List.length_set, List.length_append, List.length_cons, List.length_nil]; omega)))) ?_ | refine LM.rdC (om_srEA (by assumption) (by intro _; rfl) Try.isAgg38 Try.sizeOf38 rfl (by exact getq default (by first | omega | (simp only [List.length_set, List.length_append, List.length_cons, List.length_nil]; omega))) id) ?_ | refine LM.rd (om_ldW Try.isAgg38 Try.sizeOf38 rfl rfl) ?_ | refine LM.rd (om_ldA Try.isAgg38 Try.sizeOf38 rfl (vs := [_, _, _]) rfl ⟨rfl, rfl, rfl, trivial⟩) ?_
      refine LM.alloc Try.zeroValue38 rfl (fun b10 hb10 => ?_)
      first | refine LM.stW Try.sizeOf38 rfl rfl rfl rfl (by first | rfl | decide | (simp; done)) (fun hlt => absurd hlt (by omega)) ?_ | refine LM.st Try.sizeOf38 rfl rfl rfl (by first | decide | exact Nat.le_of_ble_eq_true rfl | (simp; done) | (simp; omega)) rfl (fun hlt => absurd hlt (by omega)) ?_
      refine LM.nil ?_
      refine QM.sub (e' := [(1, _), (2, _), (3, _), (8, _), (9, _), (10, _)]) ⟨rfl, rfl, rfl, rfl, rfl, rfl, trivial⟩ ?_
      refine QM.then ?_
      refine wpM.seq ?_
      refine wpM.joinK (α := Bool) (fun t => [(8, .bool t)]) [(1, _), (2, _), (3, _), (9, _), (10, _)] (fun t => oB b10 (xs.getD i default) :: pB b3 fv ad n cap :: []) (fun t => t = (xs.take (i + 1)).any (fun o => passB o.k)) ⟨rfl, rfl, rfl, rfl, rfl, trivial⟩ ?_ ?_
      ·
        refine wpM.region ?_
        refine LM.val (ov_move rfl) ?_
        refine LM.val (ov_move rfl) ?_
        first | refine LM.splitD (t := 28) rfl (fun h3 => ?_) (fun h3 => ?_) | refine LM.splitB (t := 28) rfl (fun h3 => ?_) (fun h3 => ?_)
        ·
          refine LM.drop (t := 28) rfl rfl rfl ?_
          refine LM.drop (t := 28) rfl rfl rfl ?_
          refine LM.drop (t := 28) rfl rfl rfl ?_
          refine LM.val (ov_pickT rfl rfl) ?_
          refine LM.val (ov_move rfl) ?_
          refine LM.drop (t := 33) rfl rfl rfl ?_
          refine LM.drop (t := 33) rfl rfl rfl ?_
          refine LM.drop (t := 33) rfl rfl rfl ?_
          refine LM.val (ov_pickT rfl rfl) ?_
          refine LM.val (ov_move rfl) ?_
          refine LM.drop (t := 38) rfl rfl rfl ?_
          refine LM.drop (t := 38) rfl rfl rfl ?_
          refine LM.drop (t := 38) rfl rfl rfl ?_
          refine LM.val (ov_pickT rfl rfl) ?_
          refine LM.val (ov_move rfl) ?_
          refine LM.drop (t := 43) rfl rfl rfl ?_
          refine LM.drop (t := 43) rfl rfl rfl ?_
          refine LM.drop (t := 43) rfl rfl rfl ?_
          refine LM.val (ov_pickT rfl rfl) ?_
          refine LM.val (ov_assign rfl) ?_
          refine LM.nil ?_
          refine QM.sub (e' := [(1, _), (2, _), (3, _), (8, _), (9, _), (10, _)]) ⟨rfl, rfl, rfl, rfl, rfl, rfl, trivial⟩ ?_
          -- meet1: h1- h2+ h3+
          refine QM.meetK (_) ⟨(by first | rfl | exact lk rfl (by congr 1; omega) | exact lk rfl (by simp)), rfl, rfl, rfl, rfl, rfl, trivial⟩ (by (repeat' (first | exact SubM.nil _ | refine SubM.cons rfl ?_ | refine SubM.app ?_))) ?_
          · rw [any_snoc default (by omega), passB]; simp only [h1, h2, h3, decide_true, decide_false, Bool.true_and, Bool.false_and, Bool.and_true, Bool.and_false, Bool.not_true, Bool.not_false, Bool.true_or, Bool.false_or, Bool.or_true, Bool.or_false, ne_eq, not_true_eq_false, not_false_eq_true, Bool.and_self]
        ·
          refine LM.strip (t := 28) rfl rfl rfl ?_
          refine LM.val (ov_field Try.underlying38 rfl Try.sizeOf3 rfl (k := 0) rfl rfl) ?_
          refine LM.strip (t := 28) rfl rfl rfl ?_
          first | refine LM.rd (om_ld Try.isAgg3 rfl rfl) ?_
          refine LM.strip (t := 28) rfl rfl rfl ?_
          refine LM.val (ov_eql rfl rfl) ?_
          refine LM.val (ov_pickF rfl rfl) ?_
          refine LM.val (ov_move rfl) ?_
          first | refine LM.splitD (t := 33) rfl (fun h4 => ?_) (fun h4 => ?_) | refine LM.splitB (t := 33) rfl (fun h4 => ?_) (fun h4 => ?_)
          ·
            refine LM.drop (t := 33) rfl rfl rfl ?_
            refine LM.drop (t := 33) rfl rfl rfl ?_
            refine LM.drop (t := 33) rfl rfl rfl ?_
            refine LM.val (ov_pickT rfl rfl) ?_
            refine LM.val (ov_move rfl) ?_
            refine LM.drop (t := 38) rfl rfl rfl ?_
            refine LM.drop (t := 38) rfl rfl rfl ?_
            refine LM.drop (t := 38) rfl rfl rfl ?_
            refine LM.val (ov_pickT rfl rfl) ?_
            refine LM.val (ov_move rfl) ?_
            refine LM.drop (t := 43) rfl rfl rfl ?_
            refine LM.drop (t := 43) rfl rfl rfl ?_
            refine LM.drop (t := 43) rfl rfl rfl ?_
            refine LM.val (ov_pickT rfl rfl) ?_
            refine LM.val (ov_assign rfl) ?_
            refine LM.nil ?_
            refine QM.sub (e' := [(1, _), (2, _), (3, _), (8, _), (9, _), (10, _)]) ⟨rfl, rfl, rfl, rfl, rfl, rfl, trivial⟩ ?_
            -- meet2: h1- h2+ h3- h4+
            refine QM.meetK (_) ⟨(by first | rfl | exact lk rfl (by congr 1; omega) | exact lk rfl (by simp)), rfl, rfl, rfl, rfl, rfl, trivial⟩ (by (repeat' (first | exact SubM.nil _ | refine SubM.cons rfl ?_ | refine SubM.app ?_))) ?_
            · rw [any_snoc default (by omega), passB]; simp only [h1, h2, h3, h4, decide_true, decide_false, Bool.true_and, Bool.false_and, Bool.and_true, Bool.and_false, Bool.not_true, Bool.not_false, Bool.true_or, Bool.false_or, Bool.or_true, Bool.or_false, ne_eq, not_true_eq_false, not_false_eq_true, Bool.and_self]
          ·
            refine LM.strip (t := 33) rfl rfl rfl ?_
            refine LM.val (ov_field Try.underlying38 rfl Try.sizeOf3 rfl (k := 0) rfl rfl) ?_
            refine LM.strip (t := 33) rfl rfl rfl ?_
            first | refine LM.rd (om_ld Try.isAgg3 rfl rfl) ?_
            refine LM.strip (t := 33) rfl rfl rfl ?_
            refine LM.val (ov_eql rfl rfl) ?_
            refine LM.val (ov_pickF rfl rfl) ?_
            refine LM.val (ov_move rfl) ?_
            first | refine LM.splitD (t := 38) rfl (fun h5 => ?_) (fun h5 => ?_) | refine LM.splitB (t := 38) rfl (fun h5 => ?_) (fun h5 => ?_)
            ·
              refine LM.drop (t := 38) rfl rfl rfl ?_
              refine LM.drop (t := 38) rfl rfl rfl ?_
              refine LM.drop (t := 38) rfl rfl rfl ?_
              refine LM.val (ov_pickT rfl rfl) ?_
              refine LM.val (ov_move rfl) ?_
              refine LM.drop (t := 43) rfl rfl rfl ?_
              refine LM.drop (t := 43) rfl rfl rfl ?_
              refine LM.drop (t := 43) rfl rfl rfl ?_
              refine LM.val (ov_pickT rfl rfl) ?_
              refine LM.val (ov_assign rfl) ?_
              refine LM.nil ?_
              refine QM.sub (e' := [(1, _), (2, _), (3, _), (8, _), (9, _), (10, _)]) ⟨rfl, rfl, rfl, rfl, rfl, rfl, trivial⟩ ?_
              -- meet3: h1- h2+ h3- h4- h5+
              refine QM.meetK (_) ⟨(by first | rfl | exact lk rfl (by congr 1; omega) | exact lk rfl (by simp)), rfl, rfl, rfl, rfl, rfl, trivial⟩ (by (repeat' (first | exact SubM.nil _ | refine SubM.cons rfl ?_ | refine SubM.app ?_))) ?_
              · rw [any_snoc default (by omega), passB]; simp only [h1, h2, h3, h4, h5, decide_true, decide_false, Bool.true_and, Bool.false_and, Bool.and_true, Bool.and_false, Bool.not_true, Bool.not_false, Bool.true_or, Bool.false_or, Bool.or_true, Bool.or_false, ne_eq, not_true_eq_false, not_false_eq_true, Bool.and_self]
            ·
              refine LM.strip (t := 38) rfl rfl rfl ?_
              refine LM.val (ov_field Try.underlying38 rfl Try.sizeOf3 rfl (k := 0) rfl rfl) ?_
              refine LM.strip (t := 38) rfl rfl rfl ?_
              first | refine LM.rd (om_ld Try.isAgg3 rfl rfl) ?_
              refine LM.strip (t := 38) rfl rfl rfl ?_
              refine LM.val (ov_eql rfl rfl) ?_
              refine LM.val (ov_pickF rfl rfl) ?_
              refine LM.val (ov_move rfl) ?_
              first | refine LM.splitD (t := 43) rfl (fun h6 => ?_) (fun h6 => ?_) | refine LM.splitB (t := 43) rfl (fun h6 => ?_) (fun h6 => ?_)
              ·
                refine LM.drop (t := 43) rfl rfl rfl ?_
                refine LM.drop (t := 43) rfl rfl rfl ?_
                refine LM.drop (t := 43) rfl rfl rfl ?_
                refine LM.val (ov_pickT rfl rfl) ?_
                refine LM.val (ov_assign rfl) ?_
                refine LM.nil ?_
                refine QM.sub (e' := [(1, _), (2, _), (3, _), (8, _), (9, _), (10, _)]) ⟨rfl, rfl, rfl, rfl, rfl, rfl, trivial⟩ ?_
                -- meet4: h1- h2+ h3- h4- h5- h6+
                refine QM.meetK (_) ⟨(by first | rfl | exact lk rfl (by congr 1; omega) | exact lk rfl (by simp)), rfl, rfl, rfl, rfl, rfl, trivial⟩ (by (repeat' (first | exact SubM.nil _ | refine SubM.cons rfl ?_ | refine SubM.app ?_))) ?_
                · rw [any_snoc default (by omega), passB]; simp only [h1, h2, h3, h4, h5, h6, decide_true, decide_false, Bool.true_and, Bool.false_and, Bool.and_true, Bool.and_false, Bool.not_true, Bool.not_false, Bool.true_or, Bool.false_or, Bool.or_true, Bool.or_false, ne_eq, not_true_eq_false, not_false_eq_true, Bool.and_self]
              ·
                refine LM.strip (t := 43) rfl rfl rfl ?_
                refine LM.val (ov_field Try.underlying38 rfl Try.sizeOf3 rfl (k := 0) rfl rfl) ?_
                refine LM.strip (t := 43) rfl rfl rfl ?_
                first | refine LM.rd (om_ld Try.isAgg3 rfl rfl) ?_
                refine LM.strip (t := 43) rfl rfl rfl ?_
                refine LM.val (ov_eql rfl rfl) ?_
                refine LM.val (ov_pickF rfl rfl) ?_
                refine LM.val (ov_assign rfl) ?_
                refine LM.nil ?_
                refine QM.sub (e' := [(1, _), (2, _), (3, _), (8, _), (9, _), (10, _)]) ⟨rfl, rfl, rfl, rfl, rfl, rfl, trivial⟩ ?_
                -- meet5: h1- h2+ h3- h4- h5- h6-
                refine QM.meetK (_) ⟨(by first | rfl | exact lk rfl (by congr 1; omega) | exact lk rfl (by simp)), rfl, rfl, rfl, rfl, rfl, trivial⟩ (by (repeat' (first | exact SubM.nil _ | refine SubM.cons rfl ?_ | refine SubM.app ?_))) ?_
                · rw [any_snoc default (by omega), passB]; simp only [h1, h2, h3, h4, h5, h6, decide_true, decide_false, Bool.true_and, Bool.false_and, Bool.and_true, Bool.and_false, Bool.not_true, Bool.not_false, Bool.true_or, Bool.false_or, Bool.or_true, Bool.or_false, ne_eq, not_true_eq_false, not_false_eq_true, Bool.and_self]
      ·
        rintro t rfl
        change QM _ _ _ _ _ (oB b10 (xs.getD i default) :: pB b3 fv ad n cap :: []) _ _ _
        have hr := right_a (may_at hm0 (show i < xs.length by omega))
        refine QM.then ?_
        refine wpM.seq ?_
        refine wpM.seq ?_
        refine wpM.joinK (α := Bool) (fun q => [(72, .bool q)]) [(1, _), (2, _), (3, _), (8, _), (9, _), (10, _)] (fun q => oB b10 (xs.getD i default) :: pB b3 fv ad n cap :: []) (fun q => q = ((takesB (xs.getD i default).k || decide ((xs.getD i default).k = 6)) && decide ((xs.getD i default).a ≥ n2) || decide ((xs.getD i default).k = 9) && decide ((xs.getD i default).a ≥ progs))) ⟨rfl, rfl, rfl, rfl, rfl, rfl, trivial⟩ ?_ ?_
        ·
          refine wpM.region ?_
          first | refine LM.rd (om_ldW Try.isAgg38 Try.sizeOf38 rfl rfl) ?_ | refine LM.rd (om_ldA Try.isAgg38 Try.sizeOf38 rfl (vs := [_, _, _]) rfl ⟨rfl, rfl, rfl, trivial⟩) ?_
          refine LM.callE (oc_call (enters_fn Try.func17 (by kernel_rfl) rfl) rfl) (fun w hm hc hg => rtakes_spec _ w) ?_
          refine LM.val (ov_move rfl) ?_
          first | refine LM.splitD (t := 50) rfl (fun h7 => ?_) (fun h7 => ?_) | refine LM.splitB (t := 50) rfl (fun h7 => ?_) (fun h7 => ?_)
          ·
            refine LM.drop (t := 50) rfl rfl rfl ?_
            refine LM.drop (t := 50) rfl rfl rfl ?_
            refine LM.drop (t := 50) rfl rfl rfl ?_
            refine LM.val (ov_pickT rfl rfl) ?_
            refine LM.val (ov_move rfl) ?_
            refine LM.strip (t := 55) rfl rfl rfl ?_
            refine LM.val (ov_field Try.underlying38 rfl Try.sizeOf3 rfl (k := 1) rfl rfl) ?_
            refine LM.strip (t := 55) rfl rfl rfl ?_
            first | refine LM.rd (om_ld Try.isAgg3 rfl rfl) ?_
            refine LM.strip (t := 55) rfl rfl rfl ?_
            refine LM.val (ov_move rfl) ?_
            refine LM.strip (t := 55) rfl rfl rfl ?_
            refine LM.val (ov_len Try.underlying25 rfl) ?_
            refine LM.strip (t := 55) rfl rfl rfl ?_
            refine LM.val (ov_geq rfl rfl) ?_
            refine LM.val (ov_pickT rfl rfl) ?_
            refine LM.val (ov_move rfl) ?_
            first | refine LM.splitD (t := 62) rfl (fun h8 => ?_) (fun h8 => ?_) | refine LM.splitB (t := 62) rfl (fun h8 => ?_) (fun h8 => ?_)
            ·
              refine LM.drop (t := 62) rfl rfl rfl ?_
              refine LM.drop (t := 62) rfl rfl rfl ?_
              refine LM.drop (t := 62) rfl rfl rfl ?_
              refine LM.dropU (t := 62) rfl rfl rfl ?_
              refine LM.dropX (t := 66) rfl rfl ?_
              refine LM.dropX (t := 66) rfl rfl ?_
              refine LM.dropX (t := 66) rfl rfl ?_
              refine LM.dropX (t := 66) rfl rfl ?_
              refine LM.drop (t := 62) rfl rfl rfl ?_
              refine LM.val (ov_pickT rfl rfl) ?_
              refine LM.nil ?_
              refine QM.sub (e' := [(1, _), (2, _), (3, _), (8, _), (9, _), (10, _), (72, _)]) ⟨rfl, rfl, rfl, rfl, rfl, rfl, rfl, trivial⟩ ?_
              -- meet1: h1- h2+ h7+ h8+
              refine QM.meetK (_) ⟨(by first | rfl | exact lk rfl (by congr 1; omega) | exact lk rfl (by simp)), rfl, rfl, rfl, rfl, rfl, rfl, trivial⟩ (by (repeat' (first | exact SubM.nil _ | refine SubM.cons rfl ?_ | refine SubM.app ?_))) ?_
              · first | (exfalso; omega) | (simp only [h1, h2, h7, h8, decide_true, decide_false, Bool.true_and, Bool.false_and, Bool.and_true, Bool.and_false, Bool.not_true, Bool.not_false, Bool.true_or, Bool.false_or, Bool.or_true, Bool.or_false, ne_eq, not_true_eq_false, not_false_eq_true, Bool.and_self]; done) | (simp only [h1, h2, h7, h8, decide_true, decide_false, Bool.true_and, Bool.false_and, Bool.and_true, Bool.and_false, Bool.not_true, Bool.not_false, Bool.true_or, Bool.false_or, Bool.or_true, Bool.or_false, ne_eq, not_true_eq_false, not_false_eq_true, Bool.and_self]; rfl)
            ·
              refine LM.strip (t := 62) rfl rfl rfl ?_
              refine LM.val (ov_field Try.underlying38 rfl Try.sizeOf3 rfl (k := 0) rfl rfl) ?_
              refine LM.strip (t := 62) rfl rfl rfl ?_
              first | refine LM.rd (om_ld Try.isAgg3 rfl rfl) ?_
              refine LM.strip (t := 62) rfl rfl rfl ?_
              refine LM.val (ov_eql rfl rfl) ?_
              refine LM.strip (t := 62) rfl rfl rfl ?_
              refine LM.val (ov_move rfl) ?_
              first | refine LM.splitD (t := 66) rfl (fun h9 => ?_) (fun h9 => ?_) | refine LM.splitB (t := 66) rfl (fun h9 => ?_) (fun h9 => ?_)
              ·
                refine LM.strip (t := 66) rfl rfl rfl ?_
                refine LM.val (ov_field Try.underlying38 rfl Try.sizeOf3 rfl (k := 1) rfl rfl) ?_
                refine LM.strip (t := 66) rfl rfl rfl ?_
                first | refine LM.rd (om_ld Try.isAgg3 rfl rfl) ?_
                refine LM.strip (t := 66) rfl rfl rfl ?_
                refine LM.val (ov_move rfl) ?_
                refine LM.strip (t := 66) rfl rfl rfl ?_
                refine LM.val (ov_geq rfl rfl) ?_
                refine LM.strip (t := 62) rfl rfl rfl ?_
                refine LM.val (ov_pickT rfl rfl) ?_
                refine LM.val (ov_pickF rfl rfl) ?_
                refine LM.nil ?_
                refine QM.sub (e' := [(1, _), (2, _), (3, _), (8, _), (9, _), (10, _), (72, _)]) ⟨rfl, rfl, rfl, rfl, rfl, rfl, rfl, trivial⟩ ?_
                -- meet2: h1- h2+ h7+ h8- h9+
                refine QM.meetK (_) ⟨(by first | rfl | exact lk rfl (by congr 1; omega) | exact lk rfl (by simp)), rfl, rfl, rfl, rfl, rfl, rfl, trivial⟩ (by (repeat' (first | exact SubM.nil _ | refine SubM.cons rfl ?_ | refine SubM.app ?_))) ?_
                · first | (exfalso; omega) | (simp only [h1, h2, h7, h8, h9, decide_true, decide_false, Bool.true_and, Bool.false_and, Bool.and_true, Bool.and_false, Bool.not_true, Bool.not_false, Bool.true_or, Bool.false_or, Bool.or_true, Bool.or_false, ne_eq, not_true_eq_false, not_false_eq_true, Bool.and_self]; done) | (simp only [h1, h2, h7, h8, h9, decide_true, decide_false, Bool.true_and, Bool.false_and, Bool.and_true, Bool.and_false, Bool.not_true, Bool.not_false, Bool.true_or, Bool.false_or, Bool.or_true, Bool.or_false, ne_eq, not_true_eq_false, not_false_eq_true, Bool.and_self]; rfl)
              ·
                refine LM.drop (t := 66) rfl rfl rfl ?_
                refine LM.drop (t := 66) rfl rfl rfl ?_
                refine LM.drop (t := 66) rfl rfl rfl ?_
                refine LM.drop (t := 66) rfl rfl rfl ?_
                refine LM.strip (t := 62) rfl rfl rfl ?_
                refine LM.val (ov_pickF rfl rfl) ?_
                refine LM.val (ov_pickF rfl rfl) ?_
                refine LM.nil ?_
                refine QM.sub (e' := [(1, _), (2, _), (3, _), (8, _), (9, _), (10, _), (72, _)]) ⟨rfl, rfl, rfl, rfl, rfl, rfl, rfl, trivial⟩ ?_
                -- meet3: h1- h2+ h7+ h8- h9-
                refine QM.meetK (_) ⟨(by first | rfl | exact lk rfl (by congr 1; omega) | exact lk rfl (by simp)), rfl, rfl, rfl, rfl, rfl, rfl, trivial⟩ (by (repeat' (first | exact SubM.nil _ | refine SubM.cons rfl ?_ | refine SubM.app ?_))) ?_
                · first | (exfalso; omega) | (simp only [h1, h2, h7, h8, h9, decide_true, decide_false, Bool.true_and, Bool.false_and, Bool.and_true, Bool.and_false, Bool.not_true, Bool.not_false, Bool.true_or, Bool.false_or, Bool.or_true, Bool.or_false, ne_eq, not_true_eq_false, not_false_eq_true, Bool.and_self]; done) | (simp only [h1, h2, h7, h8, h9, decide_true, decide_false, Bool.true_and, Bool.false_and, Bool.and_true, Bool.and_false, Bool.not_true, Bool.not_false, Bool.true_or, Bool.false_or, Bool.or_true, Bool.or_false, ne_eq, not_true_eq_false, not_false_eq_true, Bool.and_self]; rfl)
          ·
            refine LM.strip (t := 50) rfl rfl rfl ?_
            refine LM.val (ov_field Try.underlying38 rfl Try.sizeOf3 rfl (k := 0) rfl rfl) ?_
            refine LM.strip (t := 50) rfl rfl rfl ?_
            first | refine LM.rd (om_ld Try.isAgg3 rfl rfl) ?_
            refine LM.strip (t := 50) rfl rfl rfl ?_
            refine LM.val (ov_eql rfl rfl) ?_
            refine LM.val (ov_pickF rfl rfl) ?_
            refine LM.val (ov_move rfl) ?_
            first | refine LM.splitD (t := 55) rfl (fun h10 => ?_) (fun h10 => ?_) | refine LM.splitB (t := 55) rfl (fun h10 => ?_) (fun h10 => ?_)
            ·
              refine LM.strip (t := 55) rfl rfl rfl ?_
              refine LM.val (ov_field Try.underlying38 rfl Try.sizeOf3 rfl (k := 1) rfl rfl) ?_
              refine LM.strip (t := 55) rfl rfl rfl ?_
              first | refine LM.rd (om_ld Try.isAgg3 rfl rfl) ?_
              refine LM.strip (t := 55) rfl rfl rfl ?_
              refine LM.val (ov_move rfl) ?_
              refine LM.strip (t := 55) rfl rfl rfl ?_
              refine LM.val (ov_len Try.underlying25 rfl) ?_
              refine LM.strip (t := 55) rfl rfl rfl ?_
              refine LM.val (ov_geq rfl rfl) ?_
              refine LM.val (ov_pickT rfl rfl) ?_
              refine LM.val (ov_move rfl) ?_
              first | refine LM.splitD (t := 62) rfl (fun h11 => ?_) (fun h11 => ?_) | refine LM.splitB (t := 62) rfl (fun h11 => ?_) (fun h11 => ?_)
              ·
                refine LM.drop (t := 62) rfl rfl rfl ?_
                refine LM.drop (t := 62) rfl rfl rfl ?_
                refine LM.drop (t := 62) rfl rfl rfl ?_
                refine LM.dropU (t := 62) rfl rfl rfl ?_
                refine LM.dropX (t := 66) rfl rfl ?_
                refine LM.dropX (t := 66) rfl rfl ?_
                refine LM.dropX (t := 66) rfl rfl ?_
                refine LM.dropX (t := 66) rfl rfl ?_
                refine LM.drop (t := 62) rfl rfl rfl ?_
                refine LM.val (ov_pickT rfl rfl) ?_
                refine LM.nil ?_
                refine QM.sub (e' := [(1, _), (2, _), (3, _), (8, _), (9, _), (10, _), (72, _)]) ⟨rfl, rfl, rfl, rfl, rfl, rfl, rfl, trivial⟩ ?_
                -- meet4: h1- h2+ h7- h10+ h11+
                refine QM.meetK (_) ⟨(by first | rfl | exact lk rfl (by congr 1; omega) | exact lk rfl (by simp)), rfl, rfl, rfl, rfl, rfl, rfl, trivial⟩ (by (repeat' (first | exact SubM.nil _ | refine SubM.cons rfl ?_ | refine SubM.app ?_))) ?_
                · first | (exfalso; omega) | (simp only [h1, h2, h7, h10, h11, decide_true, decide_false, Bool.true_and, Bool.false_and, Bool.and_true, Bool.and_false, Bool.not_true, Bool.not_false, Bool.true_or, Bool.false_or, Bool.or_true, Bool.or_false, ne_eq, not_true_eq_false, not_false_eq_true, Bool.and_self]; done) | (simp only [h1, h2, h7, h10, h11, decide_true, decide_false, Bool.true_and, Bool.false_and, Bool.and_true, Bool.and_false, Bool.not_true, Bool.not_false, Bool.true_or, Bool.false_or, Bool.or_true, Bool.or_false, ne_eq, not_true_eq_false, not_false_eq_true, Bool.and_self]; rfl)
              ·
                refine LM.strip (t := 62) rfl rfl rfl ?_
                refine LM.val (ov_field Try.underlying38 rfl Try.sizeOf3 rfl (k := 0) rfl rfl) ?_
                refine LM.strip (t := 62) rfl rfl rfl ?_
                first | refine LM.rd (om_ld Try.isAgg3 rfl rfl) ?_
                refine LM.strip (t := 62) rfl rfl rfl ?_
                refine LM.val (ov_eql rfl rfl) ?_
                refine LM.strip (t := 62) rfl rfl rfl ?_
                refine LM.val (ov_move rfl) ?_
                first | refine LM.splitD (t := 66) rfl (fun h12 => ?_) (fun h12 => ?_) | refine LM.splitB (t := 66) rfl (fun h12 => ?_) (fun h12 => ?_)
                ·
                  refine LM.strip (t := 66) rfl rfl rfl ?_
                  refine LM.val (ov_field Try.underlying38 rfl Try.sizeOf3 rfl (k := 1) rfl rfl) ?_
                  refine LM.strip (t := 66) rfl rfl rfl ?_
                  first | refine LM.rd (om_ld Try.isAgg3 rfl rfl) ?_
                  refine LM.strip (t := 66) rfl rfl rfl ?_
                  refine LM.val (ov_move rfl) ?_
                  refine LM.strip (t := 66) rfl rfl rfl ?_
                  refine LM.val (ov_geq rfl rfl) ?_
                  refine LM.strip (t := 62) rfl rfl rfl ?_
                  refine LM.val (ov_pickT rfl rfl) ?_
                  refine LM.val (ov_pickF rfl rfl) ?_
                  refine LM.nil ?_
                  refine QM.sub (e' := [(1, _), (2, _), (3, _), (8, _), (9, _), (10, _), (72, _)]) ⟨rfl, rfl, rfl, rfl, rfl, rfl, rfl, trivial⟩ ?_
                  -- meet5: h1- h2+ h7- h10+ h11- h12+
                  refine QM.meetK (_) ⟨(by first | rfl | exact lk rfl (by congr 1; omega) | exact lk rfl (by simp)), rfl, rfl, rfl, rfl, rfl, rfl, trivial⟩ (by (repeat' (first | exact SubM.nil _ | refine SubM.cons rfl ?_ | refine SubM.app ?_))) ?_
                  · first | (exfalso; omega) | (simp only [h1, h2, h7, h10, h11, h12, decide_true, decide_false, Bool.true_and, Bool.false_and, Bool.and_true, Bool.and_false, Bool.not_true, Bool.not_false, Bool.true_or, Bool.false_or, Bool.or_true, Bool.or_false, ne_eq, not_true_eq_false, not_false_eq_true, Bool.and_self]; done) | (simp only [h1, h2, h7, h10, h11, h12, decide_true, decide_false, Bool.true_and, Bool.false_and, Bool.and_true, Bool.and_false, Bool.not_true, Bool.not_false, Bool.true_or, Bool.false_or, Bool.or_true, Bool.or_false, ne_eq, not_true_eq_false, not_false_eq_true, Bool.and_self]; rfl)
                ·
                  refine LM.drop (t := 66) rfl rfl rfl ?_
                  refine LM.drop (t := 66) rfl rfl rfl ?_
                  refine LM.drop (t := 66) rfl rfl rfl ?_
                  refine LM.drop (t := 66) rfl rfl rfl ?_
                  refine LM.strip (t := 62) rfl rfl rfl ?_
                  refine LM.val (ov_pickF rfl rfl) ?_
                  refine LM.val (ov_pickF rfl rfl) ?_
                  refine LM.nil ?_
                  refine QM.sub (e' := [(1, _), (2, _), (3, _), (8, _), (9, _), (10, _), (72, _)]) ⟨rfl, rfl, rfl, rfl, rfl, rfl, rfl, trivial⟩ ?_
                  -- meet6: h1- h2+ h7- h10+ h11- h12-
                  refine QM.meetK (_) ⟨(by first | rfl | exact lk rfl (by congr 1; omega) | exact lk rfl (by simp)), rfl, rfl, rfl, rfl, rfl, rfl, trivial⟩ (by (repeat' (first | exact SubM.nil _ | refine SubM.cons rfl ?_ | refine SubM.app ?_))) ?_
                  · first | (exfalso; omega) | (simp only [h1, h2, h7, h10, h11, h12, decide_true, decide_false, Bool.true_and, Bool.false_and, Bool.and_true, Bool.and_false, Bool.not_true, Bool.not_false, Bool.true_or, Bool.false_or, Bool.or_true, Bool.or_false, ne_eq, not_true_eq_false, not_false_eq_true, Bool.and_self]; done) | (simp only [h1, h2, h7, h10, h11, h12, decide_true, decide_false, Bool.true_and, Bool.false_and, Bool.and_true, Bool.and_false, Bool.not_true, Bool.not_false, Bool.true_or, Bool.false_or, Bool.or_true, Bool.or_false, ne_eq, not_true_eq_false, not_false_eq_true, Bool.and_self]; rfl)
            ·
              refine LM.drop (t := 55) rfl rfl rfl ?_
              refine LM.drop (t := 55) rfl rfl rfl ?_
              refine LM.drop (t := 55) rfl rfl rfl ?_
              refine LM.drop (t := 55) rfl rfl rfl ?_
              refine LM.drop (t := 55) rfl rfl rfl ?_
              refine LM.val (ov_pickF rfl rfl) ?_
              refine LM.val (ov_move rfl) ?_
              refine LM.strip (t := 62) rfl rfl rfl ?_
              refine LM.val (ov_field Try.underlying38 rfl Try.sizeOf3 rfl (k := 0) rfl rfl) ?_
              refine LM.strip (t := 62) rfl rfl rfl ?_
              first | refine LM.rd (om_ld Try.isAgg3 rfl rfl) ?_
              refine LM.strip (t := 62) rfl rfl rfl ?_
              refine LM.val (ov_eql rfl rfl) ?_
              refine LM.strip (t := 62) rfl rfl rfl ?_
              refine LM.val (ov_move rfl) ?_
              first | refine LM.splitD (t := 66) rfl (fun h13 => ?_) (fun h13 => ?_) | refine LM.splitB (t := 66) rfl (fun h13 => ?_) (fun h13 => ?_)
              ·
                refine LM.strip (t := 66) rfl rfl rfl ?_
                refine LM.val (ov_field Try.underlying38 rfl Try.sizeOf3 rfl (k := 1) rfl rfl) ?_
                refine LM.strip (t := 66) rfl rfl rfl ?_
                first | refine LM.rd (om_ld Try.isAgg3 rfl rfl) ?_
                refine LM.strip (t := 66) rfl rfl rfl ?_
                refine LM.val (ov_move rfl) ?_
                refine LM.strip (t := 66) rfl rfl rfl ?_
                refine LM.val (ov_geq rfl rfl) ?_
                refine LM.strip (t := 62) rfl rfl rfl ?_
                refine LM.val (ov_pickT rfl rfl) ?_
                refine LM.val (ov_pickF rfl rfl) ?_
                refine LM.nil ?_
                refine QM.sub (e' := [(1, _), (2, _), (3, _), (8, _), (9, _), (10, _), (72, _)]) ⟨rfl, rfl, rfl, rfl, rfl, rfl, rfl, trivial⟩ ?_
                -- meet7: h1- h2+ h7- h10- h13+
                refine QM.meetK (_) ⟨(by first | rfl | exact lk rfl (by congr 1; omega) | exact lk rfl (by simp)), rfl, rfl, rfl, rfl, rfl, rfl, trivial⟩ (by (repeat' (first | exact SubM.nil _ | refine SubM.cons rfl ?_ | refine SubM.app ?_))) ?_
                · first | (exfalso; omega) | (simp only [h1, h2, h7, h10, h13, decide_true, decide_false, Bool.true_and, Bool.false_and, Bool.and_true, Bool.and_false, Bool.not_true, Bool.not_false, Bool.true_or, Bool.false_or, Bool.or_true, Bool.or_false, ne_eq, not_true_eq_false, not_false_eq_true, Bool.and_self]; done) | (simp only [h1, h2, h7, h10, h13, decide_true, decide_false, Bool.true_and, Bool.false_and, Bool.and_true, Bool.and_false, Bool.not_true, Bool.not_false, Bool.true_or, Bool.false_or, Bool.or_true, Bool.or_false, ne_eq, not_true_eq_false, not_false_eq_true, Bool.and_self]; rfl)
              ·
                refine LM.drop (t := 66) rfl rfl rfl ?_
                refine LM.drop (t := 66) rfl rfl rfl ?_
                refine LM.drop (t := 66) rfl rfl rfl ?_
                refine LM.drop (t := 66) rfl rfl rfl ?_
                refine LM.strip (t := 62) rfl rfl rfl ?_
                refine LM.val (ov_pickF rfl rfl) ?_
                refine LM.val (ov_pickF rfl rfl) ?_
                refine LM.nil ?_
                refine QM.sub (e' := [(1, _), (2, _), (3, _), (8, _), (9, _), (10, _), (72, _)]) ⟨rfl, rfl, rfl, rfl, rfl, rfl, rfl, trivial⟩ ?_
                -- meet8: h1- h2+ h7- h10- h13-
                refine QM.meetK (_) ⟨(by first | rfl | exact lk rfl (by congr 1; omega) | exact lk rfl (by simp)), rfl, rfl, rfl, rfl, rfl, rfl, trivial⟩ (by (repeat' (first | exact SubM.nil _ | refine SubM.cons rfl ?_ | refine SubM.app ?_))) ?_
                · first | (exfalso; omega) | (simp only [h1, h2, h7, h10, h13, decide_true, decide_false, Bool.true_and, Bool.false_and, Bool.and_true, Bool.and_false, Bool.not_true, Bool.not_false, Bool.true_or, Bool.false_or, Bool.or_true, Bool.or_false, ne_eq, not_true_eq_false, not_false_eq_true, Bool.and_self]; done) | (simp only [h1, h2, h7, h10, h13, decide_true, decide_false, Bool.true_and, Bool.false_and, Bool.and_true, Bool.and_false, Bool.not_true, Bool.not_false, Bool.true_or, Bool.false_or, Bool.or_true, Bool.or_false, ne_eq, not_true_eq_false, not_false_eq_true, Bool.and_self]; rfl)
        ·
          rintro q hq
          change QM _ _ _ _ _ (oB b10 (xs.getD i default) :: pB b3 fv ad n cap :: []) _ _ _
          refine QM.then ?_
          first | refine wpM.condD rfl (fun h14 => ?_) (fun h14 => ?_) | refine wpM.condB rfl (fun h14 => ?_) (fun h14 => ?_)
          ·
            refine wpM.seq ?_
            refine wpM.region ?_
            refine LM.val (ov_move rfl) ?_
            refine LM.val (ov_assign rfl) ?_
            refine LM.val (ov_assign rfl) ?_
            refine LM.nil ?_
            refine QM.sub (e' := [(6, _), (7, _)]) ⟨rfl, rfl, trivial⟩ ?_
            refine QM.then ?_
            refine wpM.ret ?_
            refine QM.then_ret ?_
            refine QM.block_ret ?_
            refine QM.then_ret ?_
            refine QM.then_ret ?_
            refine QM.block_ret ?_
            refine QM.then_ret ?_
            refine QM.leave (.inl rfl) [.tmp 6, .tmp 7] Try.results8 rfl ?_
            intro w' hm' hc' hg'
            -- leaf 2: h1- h2+ h14+
            exact ⟨(ckV_at (e := 4) hm0 h0 (by omega) (by simp only [fitsO, ← hn, ← hn2, ← hq]; simp only [h1, h2, h14, decide_true, decide_false, Bool.true_and, Bool.false_and, Bool.and_true, Bool.and_false, Bool.not_true, Bool.not_false, Bool.true_or, Bool.false_or, Bool.or_true, Bool.or_false, ne_eq, not_true_eq_false, not_false_eq_true, Bool.and_self, if_true]) (by decide)).symm, hc'⟩
          ·
            refine wpM.skip ?_
            refine QM.then ?_
            refine wpM.seq ?_
            refine wpM.seq ?_
            refine wpM.joinK (α := Bool) (fun q3 => [(85, .bool q3)]) [(1, _), (2, _), (3, _), (8, _), (9, _), (10, _)] (fun q3 => oB b10 (xs.getD i default) :: pB b3 fv ad n cap :: []) (fun q3 => q3 = (decide ((xs.getD i default).k = 3) && !(ls.getD (xs.getD i default).a.toNat default).sh)) ⟨rfl, rfl, rfl, rfl, rfl, rfl, trivial⟩ ?_ ?_
            ·
              refine wpM.region ?_
              refine LM.val (ov_field Try.underlying38 rfl Try.sizeOf3 rfl (k := 0) rfl rfl) ?_
              first | refine LM.rd (om_ld Try.isAgg3 rfl rfl) ?_
              refine LM.val (ov_eql rfl rfl) ?_
              refine LM.val (ov_move rfl) ?_
              first | refine LM.splitD (t := 77) rfl (fun h15 => ?_) (fun h15 => ?_) | refine LM.splitB (t := 77) rfl (fun h15 => ?_) (fun h15 => ?_)
              ·
                have hlt := fits_lt2 hq h14 (by rw [h15]; rfl)
                refine LM.strip (t := 77) rfl rfl rfl ?_
                refine LM.val (ov_move rfl) ?_
                refine LM.strip (t := 77) rfl rfl rfl ?_
                refine LM.val (ov_field Try.underlying38 rfl Try.sizeOf3 rfl (k := 1) rfl rfl) ?_
                refine LM.strip (t := 77) rfl rfl rfl ?_
                first | refine LM.rd (om_ld Try.isAgg3 rfl rfl) ?_
                refine LM.strip (t := 77) rfl rfl rfl ?_
                first | refine LM.val (ov_idxSN (by first | exact Sr.spt (by assumption) | exact Sl.spt (by assumption)) Try.underlying25 Try.sizeOf35 rfl rfl (by omega)) ?_ | refine LM.val (ov_idxS (by first | exact Sr.spt (by assumption) | exact Sl.spt (by assumption)) Try.underlying25 Try.sizeOf35 rfl rfl (by omega)) ?_ | refine LM.val (ov_idx Try.underlying25 Try.sizeOf35 rfl rfl (by omega)) ?_
                refine LM.strip (t := 77) rfl rfl rfl ?_
                refine LM.val (ov_field Try.underlying35 rfl Try.sizeOf4 rfl (k := 0) rfl rfl) ?_
                refine LM.strip (t := 77) rfl rfl rfl ?_
                first | refine LM.rd (om_slE (j := 0) (by assumption) (by intro _; rfl) Try.isAgg4 rfl rfl (by exact getq default (by first | omega | (simp only [List.length_set, List.length_append, List.length_cons, List.length_nil]; omega))) rfl (by rfl)) ?_ | refine LM.rdC (om_srE (j := 0) (by assumption) Try.isAgg4 rfl rfl (by exact getq default (by first | omega | (simp only [List.length_set, List.length_append, List.length_cons, List.length_nil]; omega))) (by rfl) (by rfl) id) ?_ | refine LM.rd (om_ld Try.isAgg4 rfl rfl) ?_
                refine LM.strip (t := 77) rfl rfl rfl ?_
                first | refine LM.val (ov_notD rfl) ?_ | refine LM.val (ov_not rfl) ?_
                refine LM.val (ov_pickT rfl rfl) ?_
                refine LM.nil ?_
                refine QM.sub (e' := [(1, _), (2, _), (3, _), (8, _), (9, _), (10, _), (85, _)]) ⟨rfl, rfl, rfl, rfl, rfl, rfl, rfl, trivial⟩ ?_
                -- meet1: h1- h2+ h14- h15+
                refine QM.meetK (_) ⟨(by first | rfl | exact lk rfl (by congr 1; omega) | exact lk rfl (by simp)), rfl, rfl, rfl, rfl, rfl, rfl, trivial⟩ (by (repeat' (first | exact SubM.nil _ | refine SubM.cons rfl ?_ | refine SubM.app ?_))) ?_
                · simp only [h1, h2, h14, h15, decide_true, decide_false, Bool.true_and, Bool.false_and, Bool.and_true, Bool.and_false, Bool.not_true, Bool.not_false, Bool.true_or, Bool.false_or, Bool.or_true, Bool.or_false, ne_eq, not_true_eq_false, not_false_eq_true, Bool.and_self]
              ·
                refine LM.drop (t := 77) rfl rfl rfl ?_
                refine LM.drop (t := 77) rfl rfl rfl ?_
                refine LM.drop (t := 77) rfl rfl rfl ?_
                refine LM.drop (t := 77) rfl rfl rfl ?_
                refine LM.drop (t := 77) rfl rfl rfl ?_
                refine LM.drop (t := 77) rfl rfl rfl ?_
                refine LM.drop (t := 77) rfl rfl rfl ?_
                refine LM.val (ov_pickF rfl rfl) ?_
                refine LM.nil ?_
                refine QM.sub (e' := [(1, _), (2, _), (3, _), (8, _), (9, _), (10, _), (85, _)]) ⟨rfl, rfl, rfl, rfl, rfl, rfl, rfl, trivial⟩ ?_
                -- meet2: h1- h2+ h14- h15-
                refine QM.meetK (_) ⟨(by first | rfl | exact lk rfl (by congr 1; omega) | exact lk rfl (by simp)), rfl, rfl, rfl, rfl, rfl, rfl, trivial⟩ (by (repeat' (first | exact SubM.nil _ | refine SubM.cons rfl ?_ | refine SubM.app ?_))) ?_
                · simp only [h1, h2, h14, h15, decide_true, decide_false, Bool.true_and, Bool.false_and, Bool.and_true, Bool.and_false, Bool.not_true, Bool.not_false, Bool.true_or, Bool.false_or, Bool.or_true, Bool.or_false, ne_eq, not_true_eq_false, not_false_eq_true, Bool.and_self]
            ·
              rintro q3 hq3
              change QM _ _ _ _ _ (oB b10 (xs.getD i default) :: pB b3 fv ad n cap :: []) _ _ _
              refine QM.then ?_
              first | refine wpM.condD rfl (fun h16 => ?_) (fun h16 => ?_) | refine wpM.condB rfl (fun h16 => ?_) (fun h16 => ?_)
              ·
                refine wpM.seq ?_
                refine wpM.region ?_
                refine LM.val (ov_move rfl) ?_
                refine LM.val (ov_assign rfl) ?_
                refine LM.val (ov_assign rfl) ?_
                refine LM.nil ?_
                refine QM.sub (e' := [(6, _), (7, _)]) ⟨rfl, rfl, trivial⟩ ?_
                refine QM.then ?_
                refine wpM.ret ?_
                refine QM.then_ret ?_
                refine QM.block_ret ?_
                refine QM.then_ret ?_
                refine QM.then_ret ?_
                refine QM.block_ret ?_
                refine QM.then_ret ?_
                refine QM.leave (.inl rfl) [.tmp 6, .tmp 7] Try.results8 rfl ?_
                intro w' hm' hc' hg'
                -- leaf 3: h1- h2+ h14- h16+
                exact ⟨(ckV_at (e := 1) hm0 h0 (by omega) (by simp only [fitsO, ← hn, ← hn2, ← hq, ← hq3]; simp only [h1, h2, h14, h16, decide_true, decide_false, Bool.true_and, Bool.false_and, Bool.and_true, Bool.and_false, Bool.not_true, Bool.not_false, Bool.true_or, Bool.false_or, Bool.or_true, Bool.or_false, ne_eq, not_true_eq_false, not_false_eq_true, Bool.and_self, if_true, if_false, Bool.false_eq_true]) (by decide)).symm, hc'⟩
              ·
                refine wpM.skip ?_
                refine QM.then ?_
                refine wpM.seq ?_
                refine wpM.region ?_
                first | refine LM.rd (om_ldW Try.isAgg38 Try.sizeOf38 rfl rfl) ?_ | refine LM.rd (om_ldA Try.isAgg38 Try.sizeOf38 rfl (vs := [_, _, _]) rfl ⟨rfl, rfl, rfl, trivial⟩) ?_
                refine LM.callE (oc_call (enters_fn Try.func17 (by kernel_rfl) rfl) rfl) (fun w hm hc hg => rtakes_spec _ w) ?_
                refine LM.nil ?_
                refine QM.sub (e' := [(1, _), (2, _), (3, _), (8, _), (9, _), (10, _), (88, _)]) ⟨rfl, rfl, rfl, rfl, rfl, rfl, rfl, trivial⟩ ?_
                refine QM.then ?_
                first | refine wpM.condD rfl (fun h17 => ?_) (fun h17 => ?_) | refine wpM.condB rfl (fun h17 => ?_) (fun h17 => ?_)
                ·
                  have hlt := fits_lt2 hq h14 h17
                  refine wpM.seq ?_
                  refine wpM.region ?_
                  first | refine LM.rd (om_ldW Try.isAgg24 Try.sizeOf24 rfl rfl) ?_ | refine LM.rd (om_ldA Try.isAgg24 Try.sizeOf24 rfl (vs := [_, _]) rfl ⟨rfl, rfl, trivial⟩) ?_
                  refine LM.val (ov_move rfl) ?_
                  refine LM.callE (oc_call (enters_fn Try.func18 (by kernel_rfl) rfl) rfl) (fun w hm hc hg => rsection_spec i w hn (hl.ext hc) hsm (by omega)) ?_
                  refine LM.alloc Try.zeroValue44 rfl (fun b11 hb11 => ?_)
                  first | refine LM.stW Try.sizeOf44 rfl rfl rfl rfl (by first | rfl | decide | (simp; done)) (fun hlt => absurd hlt (by omega)) ?_ | refine LM.st Try.sizeOf44 rfl rfl rfl (by first | decide | exact Nat.le_of_ble_eq_true rfl | (simp; done) | (simp; omega)) rfl (fun hlt => absurd hlt (by omega)) ?_
                  refine LM.nil ?_
                  refine QM.sub (e' := [(1, _), (2, _), (3, _), (8, _), (9, _), (10, _), (11, _)]) ⟨rfl, rfl, rfl, rfl, rfl, rfl, rfl, trivial⟩ ?_
                  refine QM.then ?_
                  refine wpM.seq ?_
                  refine wpM.joinK (α := Bool) (fun q4 => [(117, .bool q4)]) [(1, _), (2, _), (3, _), (8, _), (9, _)] (fun q4 => pB b3 fv ad n cap :: []) (fun q4 => q4 = (decide ((secO xs i).2 < 1) || decide ((secO xs i).2 > (ls.getD (xs.getD i default).a.toNat default).cr) || fv && decide (((i + 1 + (secO xs i).1 : Nat) : Int) = n))) ⟨rfl, rfl, rfl, rfl, rfl, trivial⟩ ?_ ?_
                  ·
                    refine wpM.draw [(0, 0), (1, 1), (2, 0), (3, 0), (4, 0), (5, 1), (6, 0), (7, 0), (8, 1), (9, 0), (10, 0), (11, 1), (12, 0), (13, 0), (14, 0), (15, 0), (16, 1), (17, 0), (18, 0), (19, 1), (20, 0), (21, 1), (22, 0), (23, 0), (24, 0), (25, 0)] (by kernel_rfl) (by kernel_rfl) ?_
                    refine LD.val rfl rfl (ov_field Try.underlying44 rfl Try.sizeOf3 rfl (k := 3) rfl rfl) ?_
                    first | refine LD.rd rfl rfl (om_ld Try.isAgg3 rfl rfl) ?_
                    refine LD.val rfl rfl (ov_lss rfl rfl) ?_
                    refine LD.val rfl rfl (ov_move rfl) ?_
                    first | refine LD.splitD (t := 95) rfl (fun h18 => ?_) (fun h18 => ?_) | refine LD.splitB (t := 95) rfl (fun h18 => ?_) (fun h18 => ?_)
                    ·
                      refine LD.drop rfl rfl ⟨95, _, rfl, rfl, rfl⟩ ?_
                      refine LD.drop rfl rfl ⟨95, _, rfl, rfl, rfl⟩ ?_
                      refine LD.drop rfl rfl ⟨95, _, rfl, rfl, rfl⟩ ?_
                      refine LD.drop rfl rfl ⟨95, _, rfl, rfl, rfl⟩ ?_
                      refine LD.drop rfl rfl ⟨95, _, rfl, rfl, rfl⟩ ?_
                      refine LD.drop rfl rfl ⟨95, _, rfl, rfl, rfl⟩ ?_
                      refine LD.drop rfl rfl ⟨95, _, rfl, rfl, rfl⟩ ?_
                      refine LD.drop rfl rfl ⟨95, _, rfl, rfl, rfl⟩ ?_
                      refine LD.drop rfl rfl ⟨95, _, rfl, rfl, rfl⟩ ?_
                      refine LD.val rfl rfl (ov_pickT rfl rfl) ?_
                      refine LD.val rfl rfl (ov_move rfl) ?_
                      refine LD.drop rfl rfl ⟨106, _, rfl, rfl, rfl⟩ ?_
                      refine LD.drop rfl rfl ⟨106, _, rfl, rfl, rfl⟩ ?_
                      refine LD.dropU rfl rfl ⟨106, _, rfl, rfl, rfl⟩ ?_
                      refine LD.dropX rfl rfl rfl rfl ?_
                      refine LD.dropX rfl rfl rfl rfl ?_
                      refine LD.dropX rfl rfl rfl rfl ?_
                      refine LD.dropX rfl rfl rfl rfl ?_
                      refine LD.dropX rfl rfl rfl rfl ?_
                      refine LD.dropX rfl rfl rfl rfl ?_
                      refine LD.drop rfl rfl ⟨106, _, rfl, rfl, rfl⟩ ?_
                      refine LD.val rfl rfl (ov_pickT rfl rfl) ?_
                      refine LD.nil ?_
                      refine QM.sub (e' := [(1, _), (2, _), (3, _), (8, _), (9, _), (117, _)]) ⟨rfl, rfl, rfl, rfl, rfl, rfl, trivial⟩ ?_
                      -- meet1: h1- h2+ h14- h16- h17+ h18+
                      refine QM.meetK (_) ⟨(by first | rfl | exact lk rfl (by congr 1; omega) | exact lk rfl (by simp)), rfl, rfl, rfl, rfl, rfl, trivial⟩ (by (repeat' (first | exact SubM.nil _ | refine SubM.cons rfl ?_ | refine SubM.app ?_))) ?_
                      · simp only [h1, h2, h14, h16, h17, h18, decide_true, decide_false, Bool.true_and, Bool.false_and, Bool.and_true, Bool.and_false, Bool.not_true, Bool.not_false, Bool.true_or, Bool.false_or, Bool.or_true, Bool.or_false, ne_eq, not_true_eq_false, not_false_eq_true, Bool.and_self]
                    ·
                      refine LD.val rfl ⟨95, _, rfl, rfl, rfl⟩ (ov_field Try.underlying44 rfl Try.sizeOf3 rfl (k := 3) rfl rfl) ?_
                      first | refine LD.rd rfl ⟨95, _, rfl, rfl, rfl⟩ (om_ld Try.isAgg3 rfl rfl) ?_
                      refine LD.val rfl ⟨95, _, rfl, rfl, rfl⟩ (ov_move rfl) ?_
                      refine LD.val rfl ⟨95, _, rfl, rfl, rfl⟩ (ov_field Try.underlying38 rfl Try.sizeOf3 rfl (k := 1) rfl rfl) ?_
                      first | refine LD.rd rfl ⟨95, _, rfl, rfl, rfl⟩ (om_ld Try.isAgg3 rfl rfl) ?_
                      first | refine LD.val rfl ⟨95, _, rfl, rfl, rfl⟩ (ov_idxSN (by first | exact Sr.spt (by assumption) | exact Sl.spt (by assumption)) Try.underlying25 Try.sizeOf35 rfl rfl (by omega)) ?_ | refine LD.val rfl ⟨95, _, rfl, rfl, rfl⟩ (ov_idxS (by first | exact Sr.spt (by assumption) | exact Sl.spt (by assumption)) Try.underlying25 Try.sizeOf35 rfl rfl (by omega)) ?_ | refine LD.val rfl ⟨95, _, rfl, rfl, rfl⟩ (ov_idx Try.underlying25 Try.sizeOf35 rfl rfl (by omega)) ?_
                      refine LD.val rfl ⟨95, _, rfl, rfl, rfl⟩ (ov_field Try.underlying35 rfl Try.sizeOf3 rfl (k := 2) rfl rfl) ?_
                      first | refine LD.rd rfl ⟨95, _, rfl, rfl, rfl⟩ (om_slE (j := 2) (by assumption) (by intro _; rfl) Try.isAgg3 rfl rfl (by exact getq default (by first | omega | (simp only [List.length_set, List.length_append, List.length_cons, List.length_nil]; omega))) rfl (by rfl)) ?_ | refine LD.rdC rfl ⟨95, _, rfl, rfl, rfl⟩ (om_srE (j := 2) (by assumption) Try.isAgg3 rfl rfl (by exact getq default (by first | omega | (simp only [List.length_set, List.length_append, List.length_cons, List.length_nil]; omega))) (by rfl) (by rfl) id) ?_ | refine LD.rd rfl ⟨95, _, rfl, rfl, rfl⟩ (om_ld Try.isAgg3 rfl rfl) ?_
                      refine LD.val rfl ⟨95, _, rfl, rfl, rfl⟩ (ov_gtr rfl rfl) ?_
                      refine LD.val rfl rfl (ov_pickF rfl rfl) ?_
                      refine LD.val rfl rfl (ov_move rfl) ?_
                      first | refine LD.splitD (t := 106) rfl (fun h19 => ?_) (fun h19 => ?_) | refine LD.splitB (t := 106) rfl (fun h19 => ?_) (fun h19 => ?_)
                      ·
                        refine LD.drop rfl rfl ⟨106, _, rfl, rfl, rfl⟩ ?_
                        refine LD.drop rfl rfl ⟨106, _, rfl, rfl, rfl⟩ ?_
                        refine LD.dropU rfl rfl ⟨106, _, rfl, rfl, rfl⟩ ?_
                        refine LD.dropX rfl rfl rfl rfl ?_
                        refine LD.dropX rfl rfl rfl rfl ?_
                        refine LD.dropX rfl rfl rfl rfl ?_
                        refine LD.dropX rfl rfl rfl rfl ?_
                        refine LD.dropX rfl rfl rfl rfl ?_
                        refine LD.dropX rfl rfl rfl rfl ?_
                        refine LD.drop rfl rfl ⟨106, _, rfl, rfl, rfl⟩ ?_
                        refine LD.val rfl rfl (ov_pickT rfl rfl) ?_
                        refine LD.nil ?_
                        refine QM.sub (e' := [(1, _), (2, _), (3, _), (8, _), (9, _), (117, _)]) ⟨rfl, rfl, rfl, rfl, rfl, rfl, trivial⟩ ?_
                        -- meet2: h1- h2+ h14- h16- h17+ h18- h19+
                        refine QM.meetK (_) ⟨(by first | rfl | exact lk rfl (by congr 1; omega) | exact lk rfl (by simp)), rfl, rfl, rfl, rfl, rfl, trivial⟩ (by (repeat' (first | exact SubM.nil _ | refine SubM.cons rfl ?_ | refine SubM.app ?_))) ?_
                        · simp only [h1, h2, h14, h16, h17, h18, h19, decide_true, decide_false, Bool.true_and, Bool.false_and, Bool.and_true, Bool.and_false, Bool.not_true, Bool.not_false, Bool.true_or, Bool.false_or, Bool.or_true, Bool.or_false, ne_eq, not_true_eq_false, not_false_eq_true, Bool.and_self]
                      ·
                        refine LD.val rfl ⟨106, _, rfl, rfl, rfl⟩ (ov_field Try.underlying24 rfl Try.sizeOf4 rfl (k := 0) rfl rfl) ?_
                        first | refine LD.rd rfl ⟨106, _, rfl, rfl, rfl⟩ (om_ld Try.isAgg4 rfl rfl) ?_
                        refine LD.val rfl ⟨106, _, rfl, rfl, rfl⟩ (ov_move rfl) ?_
                        first | refine LD.splitD (t := 109) rfl (fun h20 => ?_) (fun h20 => ?_) | refine LD.splitB (t := 109) rfl (fun h20 => ?_) (fun h20 => ?_)
                        ·
                          refine LD.val rfl ⟨109, _, rfl, rfl, rfl⟩ (ov_field Try.underlying44 rfl Try.sizeOf3 rfl (k := 1) rfl rfl) ?_
                          first | refine LD.rd rfl ⟨109, _, rfl, rfl, rfl⟩ (om_ld Try.isAgg3 rfl rfl) ?_
                          refine LD.val rfl ⟨109, _, rfl, rfl, rfl⟩ (ov_field Try.underlying24 rfl Try.sizeOf22 rfl (k := 1) rfl rfl) ?_
                          first | refine LD.rd rfl ⟨109, _, rfl, rfl, rfl⟩ (om_ld Try.isAgg22 rfl rfl) ?_
                          refine LD.val rfl ⟨109, _, rfl, rfl, rfl⟩ (ov_len Try.underlying22 rfl) ?_
                          refine LD.val rfl ⟨109, _, rfl, rfl, rfl⟩ (ov_eql rfl rfl) ?_
                          refine LD.val rfl ⟨106, _, rfl, rfl, rfl⟩ (ov_pickT rfl rfl) ?_
                          refine LD.val rfl rfl (ov_pickF rfl rfl) ?_
                          refine LD.nil ?_
                          refine QM.sub (e' := [(1, _), (2, _), (3, _), (8, _), (9, _), (117, _)]) ⟨rfl, rfl, rfl, rfl, rfl, rfl, trivial⟩ ?_
                          -- meet3: h1- h2+ h14- h16- h17+ h18- h19- h20+
                          refine QM.meetK (_) ⟨(by first | rfl | exact lk rfl (by congr 1; omega) | exact lk rfl (by simp)), rfl, rfl, rfl, rfl, rfl, trivial⟩ (by (repeat' (first | exact SubM.nil _ | refine SubM.cons rfl ?_ | refine SubM.app ?_))) ?_
                          · simp only [h1, h2, h14, h16, h17, h18, h19, h20, decide_true, decide_false, Bool.true_and, Bool.false_and, Bool.and_true, Bool.and_false, Bool.not_true, Bool.not_false, Bool.true_or, Bool.false_or, Bool.or_true, Bool.or_false, ne_eq, not_true_eq_false, not_false_eq_true, Bool.and_self]
                        ·
                          refine LD.drop rfl rfl ⟨109, _, rfl, rfl, rfl⟩ ?_
                          refine LD.drop rfl rfl ⟨109, _, rfl, rfl, rfl⟩ ?_
                          refine LD.drop rfl rfl ⟨109, _, rfl, rfl, rfl⟩ ?_
                          refine LD.drop rfl rfl ⟨109, _, rfl, rfl, rfl⟩ ?_
                          refine LD.drop rfl rfl ⟨109, _, rfl, rfl, rfl⟩ ?_
                          refine LD.drop rfl rfl ⟨109, _, rfl, rfl, rfl⟩ ?_
                          refine LD.val rfl ⟨106, _, rfl, rfl, rfl⟩ (ov_pickF rfl rfl) ?_
                          refine LD.val rfl rfl (ov_pickF rfl rfl) ?_
                          refine LD.nil ?_
                          refine QM.sub (e' := [(1, _), (2, _), (3, _), (8, _), (9, _), (117, _)]) ⟨rfl, rfl, rfl, rfl, rfl, rfl, trivial⟩ ?_
                          -- meet4: h1- h2+ h14- h16- h17+ h18- h19- h20-
                          refine QM.meetK (_) ⟨(by first | rfl | exact lk rfl (by congr 1; omega) | exact lk rfl (by simp)), rfl, rfl, rfl, rfl, rfl, trivial⟩ (by (repeat' (first | exact SubM.nil _ | refine SubM.cons rfl ?_ | refine SubM.app ?_))) ?_
                          · simp only [h1, h2, h14, h16, h17, h18, h19, h20, decide_true, decide_false, Bool.true_and, Bool.false_and, Bool.and_true, Bool.and_false, Bool.not_true, Bool.not_false, Bool.true_or, Bool.false_or, Bool.or_true, Bool.or_false, ne_eq, not_true_eq_false, not_false_eq_true, Bool.and_self]
                  ·
                    rintro q4 hq4
                    change QM _ _ _ _ _ (pB b3 fv ad n cap :: []) _ _ _
                    refine QM.then ?_
                    first | refine wpM.condD rfl (fun h21 => ?_) (fun h21 => ?_) | refine wpM.condB rfl (fun h21 => ?_) (fun h21 => ?_)
                    ·
                      refine wpM.seq ?_
                      refine wpM.region ?_
                      refine LM.val (ov_move rfl) ?_
                      refine LM.val (ov_assign rfl) ?_
                      refine LM.val (ov_assign rfl) ?_
                      refine LM.nil ?_
                      refine QM.sub (e' := [(6, _), (7, _)]) ⟨rfl, rfl, trivial⟩ ?_
                      refine QM.then ?_
                      refine wpM.ret ?_
                      refine QM.block_ret ?_
                      refine QM.then_ret ?_
                      refine QM.then_ret ?_
                      refine QM.block_ret ?_
                      refine QM.then_ret ?_
                      refine QM.leave (.inl rfl) [.tmp 6, .tmp 7] Try.results8 rfl ?_
                      intro w' hm' hc' hg'
                      -- leaf 4: h1- h2+ h14- h16- h17+ h21+
                      exact ⟨(ckV_at (e := 13) hm0 h0 (by omega) (by simp only [fitsO, ← hn, ← hn2, ← hq, ← hq3, ← hq4]; simp only [h1, h2, h14, h16, h17, h21, decide_true, decide_false, Bool.true_and, Bool.false_and, Bool.and_true, Bool.and_false, Bool.not_true, Bool.not_false, Bool.true_or, Bool.false_or, Bool.or_true, Bool.or_false, ne_eq, not_true_eq_false, not_false_eq_true, Bool.and_self, if_true, if_false, Bool.false_eq_true]) (by decide)).symm, hc'⟩
                    ·
                      refine wpM.skip ?_
                      refine QM.block_normal ?_
                      refine QM.then ?_
                      refine wpM.region ?_
                      refine LM.val (ov_move rfl) ?_
                      refine LM.val (ov_add64 rfl rfl (by omega)) ?_
                      refine LM.val (ov_assign rfl) ?_
                      refine LM.nil ?_
                      refine QM.sub (e' := [(1, _), (2, _), (3, _), (8, _), (9, _)]) ⟨rfl, rfl, rfl, rfl, rfl, trivial⟩ ?_
                      -- again1: h1- h2+ h14- h16- h17+ h21-
                      refine QM.againK (i + 1) ⟨(by first | rfl | exact lk rfl (by congr 1; omega) | exact lk rfl (by simp)), (by first | rfl | exact lk rfl (by congr 1; omega) | exact lk rfl (by simp)), rfl, rfl, rfl, trivial⟩ (by (repeat' (first | exact SubM.nil _ | refine SubM.cons rfl ?_ | refine SubM.app ?_))) (fun _ h => h) ?_ ?_
                      · exact ⟨by omega, before_succ h0 (by simp only [fitsO, ← hn, ← hn2, ← hq, ← hq3, ← hq4]; simp only [h1, h2, h14, h16, h17, h21, decide_true, decide_false, Bool.true_and, Bool.false_and, Bool.and_true, Bool.and_false, Bool.not_true, Bool.not_false, Bool.true_or, Bool.false_or, Bool.or_true, Bool.or_false, ne_eq, not_true_eq_false, not_false_eq_true, Bool.and_self, if_true, if_false, ite_true, Bool.false_eq_true])⟩
                      · first | omega | (dsimp only; omega)
                ·
                  refine wpM.skip ?_
                  refine QM.block_normal ?_
                  refine QM.then ?_
                  refine wpM.region ?_
                  refine LM.val (ov_move rfl) ?_
                  refine LM.val (ov_add64 rfl rfl (by omega)) ?_
                  refine LM.val (ov_assign rfl) ?_
                  refine LM.nil ?_
                  refine QM.sub (e' := [(1, _), (2, _), (3, _), (8, _), (9, _)]) ⟨rfl, rfl, rfl, rfl, rfl, trivial⟩ ?_
                  -- again2: h1- h2+ h14- h16- h17-
                  refine QM.againK (i + 1) ⟨(by first | rfl | exact lk rfl (by congr 1; omega) | exact lk rfl (by simp)), (by first | rfl | exact lk rfl (by congr 1; omega) | exact lk rfl (by simp)), rfl, rfl, rfl, trivial⟩ (by (repeat' (first | exact SubM.nil _ | refine SubM.cons rfl ?_ | refine SubM.app ?_))) (fun _ h => h) ?_ ?_
                  · exact ⟨by omega, before_succ h0 (by simp only [fitsO, ← hn, ← hn2, ← hq, ← hq3]; simp only [h1, h2, h14, h16, h17, decide_true, decide_false, Bool.true_and, Bool.false_and, Bool.and_true, Bool.and_false, Bool.not_true, Bool.not_false, Bool.true_or, Bool.false_or, Bool.or_true, Bool.or_false, ne_eq, not_true_eq_false, not_false_eq_true, Bool.and_self, if_true, if_false, ite_true, Bool.false_eq_true])⟩
                  · first | omega | (dsimp only; omega)
    ·
      refine wpM.exit ?_
      refine QM.then_exit ?_
      refine QM.then_exit ?_
      refine QM.block_hit ?_
      refine QM.then ?_
      refine wpM.seq ?_
      refine wpM.seq ?_
      refine wpM.region ?_
      refine LM.val (ov_field Try.underlying24 rfl Try.sizeOf4 rfl (k := 0) rfl rfl) ?_
      first | refine LM.rd (om_ld Try.isAgg4 rfl rfl) ?_
      refine LM.val (ov_move rfl) ?_
      first | refine LM.splitD (t := 121) rfl (fun h22 => ?_) (fun h22 => ?_) | refine LM.splitB (t := 121) rfl (fun h22 => ?_) (fun h22 => ?_)
      ·
        refine LM.strip (t := 121) rfl rfl rfl ?_
        refine LM.val (ov_move rfl) ?_
        refine LM.strip (t := 121) rfl rfl rfl ?_
        first | refine LM.val (ov_notD rfl) ?_ | refine LM.val (ov_not rfl) ?_
        refine LM.val (ov_pickT rfl rfl) ?_
        refine LM.nil ?_
        refine QM.sub (e' := [(124, _)]) ⟨rfl, trivial⟩ ?_
        refine QM.then ?_
        first | refine wpM.condD rfl (fun h23 => ?_) (fun h23 => ?_) | refine wpM.condB rfl (fun h23 => ?_) (fun h23 => ?_)
        ·
          refine wpM.seq ?_
          refine wpM.region ?_
          refine LM.val (ov_assign rfl) ?_
          refine LM.val (ov_assign rfl) ?_
          refine LM.nil ?_
          refine QM.sub (e' := [(6, _), (7, _)]) ⟨rfl, rfl, trivial⟩ ?_
          refine QM.then ?_
          refine wpM.ret ?_
          refine QM.then_ret ?_
          refine QM.leave (.inl rfl) [.tmp 6, .tmp 7] Try.results8 rfl ?_
          intro w' hm' hc' hg'
          -- leaf 5: h1- h2- h22+ h23+
          have hil : i = xs.length := (by omega); subst hil; rw [List.take_length] at h23; exact ⟨(ckV_end (b := true) hm0 h0 (by rw [h22, h23]; rfl)).symm, hc'⟩
        ·
          refine wpM.skip ?_
          refine QM.then ?_
          refine wpM.seq ?_
          refine wpM.region ?_
          refine LM.val (ov_assign rfl) ?_
          refine LM.val (ov_assign rfl) ?_
          refine LM.nil ?_
          refine QM.sub (e' := [(6, _), (7, _)]) ⟨rfl, rfl, trivial⟩ ?_
          refine QM.then ?_
          refine wpM.ret ?_
          refine QM.leave (.inl rfl) [.tmp 6, .tmp 7] Try.results8 rfl ?_
          intro w' hm' hc' hg'
          -- leaf 6: h1- h2- h22+ h23-
          have hil : i = xs.length := (by omega); subst hil; rw [List.take_length] at h23; exact ⟨(ckV_end (b := false) hm0 h0 (by rw [h22, h23]; rfl)).symm, hc'⟩
      ·
        refine LM.drop (t := 121) rfl rfl rfl ?_
        refine LM.drop (t := 121) rfl rfl rfl ?_
        refine LM.val (ov_pickF rfl rfl) ?_
        refine LM.nil ?_
        refine QM.sub (e' := [(124, _)]) ⟨rfl, trivial⟩ ?_
        refine QM.then ?_
        refine wpM.condF rfl ?_
        refine wpM.skip ?_
        refine QM.then ?_
        refine wpM.seq ?_
        refine wpM.region ?_
        refine LM.val (ov_assign rfl) ?_
        refine LM.val (ov_assign rfl) ?_
        refine LM.nil ?_
        refine QM.sub (e' := [(6, _), (7, _)]) ⟨rfl, rfl, trivial⟩ ?_
        refine QM.then ?_
        refine wpM.ret ?_
        refine QM.leave (.inl rfl) [.tmp 6, .tmp 7] Try.results8 rfl ?_
        intro w' hm' hc' hg'
        -- leaf 7: h1- h2- h22-
        have hil : i = xs.length := (by omega); subst hil; exact ⟨(ckV_end (b := false) hm0 h0 (by rw [h22]; rfl)).symm, hc'⟩

end Go.Eng

