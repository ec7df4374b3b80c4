/- The walks of what is met first, and of the longest section. No condition. -/
import Derived.Test.YtbndlommbpkijaaGreatDoorM4
import Derived.Test.YtbndlommbpkijaaGreatDoorM2
set_option linter.unusedVariables false
set_option linter.unusedSimpArgs false
namespace Go.Eng
open Go Go.Proofs Go.RowKit

def ckV (fv : Bool) (xs : List COp) (ls : List CLk) (progs : Int) : Value := .tuple #[.int .i64 (ckO fv xs ls progs).1, .int .i64 (ckO fv xs ls progs).2]
theorem fits_lt2 {T K r : Bool} {q : Bool} {a : Int} {n : Nat} (hq : q = ((T || K) && decide (a ≥ n) || r)) (h : q = false) (ht : T = true) : a < n := by
  rw [h, ht, Bool.true_or, Bool.true_and] at hq
  have := (Bool.or_eq_false_iff.1 hq.symm).1
  have := of_decide_eq_false this
  omega
theorem ckV_at {fv : Bool} {xs : List COp} {ls : List CLk} {progs e : Int} {i : Nat} (h : mayB xs = true) (h0 : ∀ j, j < i → fitsO fv xs ls progs j = 0) (hi : i < xs.length) (hf : fitsO fv xs ls progs i = e) (he : e ≠ 0) : ckV fv xs ls progs = .tuple #[.int .i64 (i : Nat), .int .i64 e] := by
  unfold ckV; rw [ck_at h h0 hi (by rw [hf]; exact he), hf]
theorem ckV_end {fv : Bool} {xs : List COp} {ls : List CLk} {progs : Int} {b : Bool} (h : mayB xs = true) (h0 : ∀ j, j < xs.length → fitsO fv xs ls progs j = 0) (hb : (fv && !xs.any (fun o => passB o.k)) = b) : ckV fv xs ls progs = .tuple #[.int .i64 0, .int .i64 (if b then 1 else 0)] := by
  unfold ckV; rw [ck_end h h0, hb]; cases b <;> rfl
theorem ckV_none {fv : Bool} {xs : List COp} {ls : List CLk} {progs : Int} (h : mayB xs = false) : ckV fv xs ls progs = .tuple #[.int .i64 0, .int .i64 1] := by
  unfold ckV; rw [ck_none h]
set_option maxRecDepth 100000 in
theorem check_spec {xs : List COp} {ls : List CLk} {fv : Bool} {ad ad2 : Option Addr} {n cap n2 cap2 : Nat} (progs : Int) (w : World) (hn : n = xs.length) (hl : Sr fO 3 xs (.slice ad n cap) w) (hn2 : n2 = ls.length) (hl2 : Sr fL 5 ls (.slice ad2 n2 cap2) w) : Ret Tryz.prog 86 #[pV fv ad n cap, .slice ad2 n2 cap2, .int .i64 progs] w (fun v w' => v = ckV fv xs ls progs ∧ Ext w w') := by
 refine Ret.enterM (l := [pV fv ad n cap, .slice ad2 n2 cap2, .int .i64 progs]) Tryz.func86 rfl Tryz.ntmps86 rfl ([]) (no) (Mem.nil w) ?_
 refine wpM.seq ?_
 refine wpM.region ?_
 refine LM.box rfl rfl (fun b3 hb3 => ?_)
 refine LM.box rfl rfl (fun b4 hb4 => ?_)
 refine LM.box rfl rfl (fun b5 hb5 => ?_)
 refine LM.alloc Tryz.zeroValue3 rfl (fun b6 hb6 => ?_)
 refine LM.alloc Tryz.zeroValue31 rfl (fun b7 hb7 => ?_)
 refine LM.nil ?_
 refine QM.sub (e' := [(3, _), (4, _), (5, _), (6, _), (7, _)]) ⟨rfl, rfl, rfl, rfl, rfl, trivial⟩ ?_
 refine QM.then ?_
 refine wpM.seq ?_
 refine wpM.seq ?_
 refine wpM.region ?_
 refine LM.rd (om_ldW Tryz.isAgg87 Tryz.sizeOf87 rfl rfl) ?_
 refine LM.callE (oc_call (enters_fn Tryz.func103 (by kernel_rfl) rfl) rfl) (fun w hm hc hg => pmay_spec w hn (hl.ext hc)) ?_
 first | refine LM.val (ov_notD rfl) ?_ | refine LM.val (ov_not rfl) ?_
 refine LM.nil ?_
 refine QM.sub (e' := [(3, _), (4, _), (5, _), (6, _), (7, _), (12, _)]) ⟨rfl, rfl, rfl, rfl, rfl, rfl, trivial⟩ ?_
 refine QM.then ?_
 first | refine wpM.condD rfl (fun h1 => ?_) (fun h1 => ?_) | refine wpM.condB rfl (fun h1 => ?_) (fun h1 => ?_)
 ·
  refine wpM.seq ?_
  refine wpM.region ?_
  refine LM.st Tryz.sizeOf3 rfl rfl rfl (by first | decide | exact Nat.le_of_ble_eq_true rfl | (simp; done) | (simp; omega)) rfl (fun hlt => absurd hlt (by omega)) ?_
  refine LM.st Tryz.sizeOf31 rfl rfl rfl (by first | decide | exact Nat.le_of_ble_eq_true rfl | (simp; done) | (simp; omega)) rfl (fun hlt => absurd hlt (by omega)) ?_
  refine LM.nil ?_
  refine QM.sub (e' := [(6, _), (7, _)]) ⟨rfl, rfl, trivial⟩ ?_
  refine QM.then ?_
  refine wpM.ret ?_
  refine QM.then_ret ?_
  refine QM.leaveCs (ds := ([])) (.inl rfl) [.cell 6 3, .cell 7 31] Tryz.results86 hd_nil (rc_c rfl Tryz.isAgg3 rfl (rc_c rfl Tryz.isAgg31 rfl rc_nil)) ?_
  intro w' hm' hc'
  exact ⟨(ckV_none (by simpa using h1)).symm, hc'⟩
 ·
  have hm0 : mayB xs = true := (by simpa using h1); have hx20 := (may_small hm0).1
  refine wpM.skip ?_
  refine QM.then ?_
  refine wpM.seq ?_
  refine wpM.seq ?_
  refine wpM.region ?_
  refine LM.rd (om_ldW Tryz.isAgg87 Tryz.sizeOf87 rfl rfl) ?_
  refine LM.callT (oc_call (enters_fn Tryz.func129 (by kernel_rfl) rfl) rfl) EachTc.mono (fun w hm hc hg => each_specC fv ad n cap w) ?_
  rintro u14 m14 ⟨c1, rfl, rfl, hc1⟩ -
  refine LM.nil ?_
  refine QM.sub (e' := [(3, _), (4, _), (5, _), (6, _), (7, _), (14, _)]) ⟨rfl, rfl, rfl, rfl, rfl, rfl, trivial⟩ ?_
  refine QM.then ?_
  refine wpM.block ?_
  refine wpM.toRange (α := Unit) (fun k ⟨⟩ => pB c1 fv ad n cap :: eBc b7 0 :: iBc b6 0 :: iBc b5 progs :: lBc b4 ad2 n2 cap2 :: pB b3 fv ad n cap :: []) (⟨⟩) (by (repeat' (first | exact SubM.nil _ | refine SubM.cons rfl ?_ | refine SubM.app ?_))) ?_
  refine wpM.range (α := Unit) (β := Nat) (enters_fn Tryz.func150 (by kernel_rfl) rfl) rfl (each_seqC (xs := xs) hn (by omega)) (fun k ⟨⟩ => pB c1 fv ad n cap :: eBc b7 0 :: iBc b6 0 :: iBc b5 progs :: lBc b4 ad2 n2 cap2 :: pB b3 fv ad n cap :: []) (fun _ _ => top) (fun k ⟨⟩ => k ≤ xs.length ∧ ∀ j, j < k → fitsO fv xs ls progs j = 0) (fun i => eBc b7 (fitsO fv xs ls progs i) :: iBc b6 (i : Nat) :: []) (fun _ => top) (fun c i => c = .ret ∧ i < xs.length ∧ (∀ j, j < i → fitsO fv xs ls progs j = 0) ∧ fitsO fv xs ls progs i ≠ 0) ⟨⟩ rfl (fun _ h => h) ⟨Nat.zero_le _, fun j hj => absurd hj (Nat.not_lt_zero _)⟩ (by kernel_rfl) (by intro k av hav; obtain ⟨hkx, rfl⟩ := eachA_inv hav; rfl) (.inl trivial) (fun k a w hm hc _ _ => ⟨SubM.mem (by (repeat' (first | exact SubM.nil _ | refine SubM.cons rfl ?_ | refine SubM.app ?_))) w hm, hl.ext hc⟩) (fun _ _ _ _ => gl_top _) (fun _ _ _ => gl_top _) (fun k x _ => by ((repeat (refine mm_cons rfl ?_)); exact fun p hp => .inl (by first | exact hp | (simp at hp; done) | (simp [hp]; done) | (simp at hp ⊢; first | exact .inl hp | exact hp | (simp [hp]; done))))) (fun c z _ => by ((repeat (refine mm_cons rfl ?_)); exact fun p hp => .inl (by first | exact hp | (simp at hp; done) | (simp [hp]; done) | (simp at hp ⊢; first | exact .inl hp | exact hp | (simp [hp]; done))))) ?_ ?_ ?_ ?_
  ·
   rintro k av ⟨⟩ l D rc n1 W1 hD hll hput hrc hav ⟨hk, h0⟩
   change wpM _ _ _ _ _ _ _ ((l, Obj.loop rc) :: ([(D, Obj.deferred (some []))] ++ (pB c1 fv ad n cap :: eBc b7 0 :: iBc b6 0 :: iBc b5 progs :: lBc b4 ad2 n2 cap2 :: pB b3 fv ad n cap :: []))) _ _ _
   obtain ⟨hkx, rfl⟩ := eachA_inv hav
   refine wpM.region ?_
   refine LM.val (ov_assign rfl) ?_
   refine LM.nil ?_
   refine QM.sub (e' := [(3, _), (4, _), (5, _), (6, _), (7, _), (8, _)]) ⟨rfl, rfl, rfl, rfl, rfl, rfl, trivial⟩ ?_
   refine QM.toBodyF (hput k ⟨⟩) hll ?_
   refine wpM.block ?_
   refine wpM.seq ?_
   refine wpM.region ?_
   refine LM.rd (om_ldW Tryz.isAgg87 Tryz.sizeOf87 rfl rfl) ?_
   refine LM.val (ov_move rfl) ?_
   first | refine LM.rd (om_ld Tryz.isAgg27 rfl rfl) ?_
   first | refine LM.rd (om_ld Tryz.isAgg3 rfl rfl) ?_
   refine LM.callE (oc_call (enters_fn Tryz.func130 (by kernel_rfl) rfl) rfl) (fun w hm hc hg => fits_spec k progs w hn (hl.ext hc) hn2 (hl2.ext hc) hm0 hkx) ?_
   refine LM.val (ov_assign rfl) ?_
   refine LM.nil ?_
   refine QM.sub (e' := [(6, _), (7, _), (8, _), (9, _)]) ⟨rfl, rfl, rfl, rfl, trivial⟩ ?_
   refine QM.then ?_
   refine wpM.seq ?_
   refine wpM.region ?_
   refine LM.val (ov_move rfl) ?_
   refine LM.val (ov_neq rfl rfl) ?_
   refine LM.nil ?_
   refine QM.sub (e' := [(6, _), (7, _), (8, _), (9, _), (23, _)]) ⟨rfl, rfl, rfl, rfl, rfl, trivial⟩ ?_
   refine QM.then ?_
   refine wpM.condD rfl (fun h2 => ?_) (fun h2 => ?_)
   ·
    refine wpM.seq ?_
    refine wpM.region ?_
    refine LM.val (ov_move rfl) ?_
    refine LM.val (ov_move rfl) ?_
    refine LM.st Tryz.sizeOf3 rfl rfl rfl (by first | decide | exact Nat.le_of_ble_eq_true rfl | (simp; done) | (simp; omega)) rfl (fun hlt => absurd hlt (by omega)) ?_
    refine LM.st Tryz.sizeOf31 rfl rfl rfl (by first | decide | exact Nat.le_of_ble_eq_true rfl | (simp; done) | (simp; omega)) rfl (fun hlt => absurd hlt (by omega)) ?_
    refine LM.nil ?_
    refine QM.sub (e' := [(6, _), (7, _)]) ⟨rfl, rfl, trivial⟩ ?_
    refine QM.then ?_
    refine wpM.ret ?_
    refine QM.block_ret ?_
    refine QM.rret (k) (SubM.mem (by (repeat' (first | exact SubM.nil _ | refine SubM.cons rfl ?_ | refine SubM.app ?_)))) (fun _ h => h) ?_
    · exact ⟨rfl, hkx, h0, by simpa using h2⟩
   ·
    refine wpM.skip ?_
    refine QM.block_normal ?_
    refine QM.next (⟨⟩) (SubM.mem (by (repeat' (first | exact SubM.nil _ | refine SubM.cons rfl ?_ | refine SubM.app ?_)))) (fun _ h => h) ?_
    · exact ⟨by omega, before_succ h0 (by simpa using h2)⟩
  ·
   rintro ⟨⟩ D0 hD0 ⟨hk, h0⟩
   refine QM.sub (e' := [(3, _), (6, _), (7, _)]) ⟨rfl, rfl, rfl, trivial⟩ ?_
   refine QM.block_normal ?_
   refine QM.then ?_
   refine wpM.seq ?_
   refine wpM.seq ?_
   refine wpM.region ?_
   refine LM.val (ov_field Tryz.underlying87 rfl Tryz.sizeOf4 rfl (k := 0) rfl rfl) ?_
   first | refine LM.rd (om_ld Tryz.isAgg4 rfl rfl) ?_
   refine LM.val (ov_move rfl) ?_
   first | refine LM.splitD (t := 28) rfl (fun h3 => ?_) (fun h3 => ?_) | refine LM.splitB (t := 28) rfl (fun h3 => ?_) (fun h3 => ?_)
   ·
    refine LM.strip (t := 28) rfl rfl rfl ?_
    refine LM.val (ov_field Tryz.underlying87 rfl Tryz.sizeOf85 rfl (k := 1) rfl rfl) ?_
    refine LM.strip (t := 28) rfl rfl rfl ?_
    first | refine LM.rd (om_ld Tryz.isAgg85 rfl rfl) ?_
    refine LM.strip (t := 28) rfl rfl rfl ?_
    refine LM.callE (oc_call (enters_fn Tryz.func131 (by kernel_rfl) rfl) rfl) (fun w hm hc hg => cof_pass w hn (hl.ext hc) (by omega)) ?_
    refine LM.strip (t := 28) rfl rfl rfl ?_
    first | refine LM.val (ov_notD rfl) ?_ | refine LM.val (ov_not rfl) ?_
    refine LM.val (ov_pickT rfl rfl) ?_
    refine LM.nil ?_
    refine QM.sub (e' := [(6, _), (7, _), (33, _)]) ⟨rfl, rfl, rfl, trivial⟩ ?_
    refine QM.then ?_
    first | refine wpM.condD rfl (fun h4 => ?_) (fun h4 => ?_) | refine wpM.condB rfl (fun h4 => ?_) (fun h4 => ?_)
    ·
     refine wpM.seq ?_
     refine wpM.region ?_
     refine LM.st Tryz.sizeOf3 rfl rfl rfl (by first | decide | exact Nat.le_of_ble_eq_true rfl | (simp; done) | (simp; omega)) rfl (fun hlt => absurd hlt (by omega)) ?_
     refine LM.st Tryz.sizeOf31 rfl rfl rfl (by first | decide | exact Nat.le_of_ble_eq_true rfl | (simp; done) | (simp; omega)) rfl (fun hlt => absurd hlt (by omega)) ?_
     refine LM.nil ?_
     refine QM.sub (e' := [(6, _), (7, _)]) ⟨rfl, rfl, trivial⟩ ?_
     refine QM.then ?_
     refine wpM.ret ?_
     refine QM.then_ret ?_
     refine QM.leaveCs (ds := (D0 :: [])) (.inl rfl) [.cell 6 3, .cell 7 31] Tryz.results86 (hd_cons hD0 hd_nil) (rc_c rfl Tryz.isAgg3 rfl (rc_c rfl Tryz.isAgg31 rfl rc_nil)) ?_
     intro w' hm' hc'
     exact ⟨(ckV_end (b := true) hm0 (fun j hj => h0 j (by rw [eachA_len]; exact hj)) (by rw [h3, h4]; rfl)).symm, hc'⟩
    ·
     refine wpM.skip ?_
     refine QM.then ?_
     refine wpM.seq ?_
     refine wpM.region ?_
     refine LM.st Tryz.sizeOf3 rfl rfl rfl (by first | decide | exact Nat.le_of_ble_eq_true rfl | (simp; done) | (simp; omega)) rfl (fun hlt => absurd hlt (by omega)) ?_
     refine LM.st Tryz.sizeOf31 rfl rfl rfl (by first | decide | exact Nat.le_of_ble_eq_true rfl | (simp; done) | (simp; omega)) rfl (fun hlt => absurd hlt (by omega)) ?_
     refine LM.nil ?_
     refine QM.sub (e' := [(6, _), (7, _)]) ⟨rfl, rfl, trivial⟩ ?_
     refine QM.then ?_
     refine wpM.ret ?_
     refine QM.leaveCs (ds := (D0 :: [])) (.inl rfl) [.cell 6 3, .cell 7 31] Tryz.results86 (hd_cons hD0 hd_nil) (rc_c rfl Tryz.isAgg3 rfl (rc_c rfl Tryz.isAgg31 rfl rc_nil)) ?_
     intro w' hm' hc'
     exact ⟨(ckV_end (b := false) hm0 (fun j hj => h0 j (by rw [eachA_len]; exact hj)) (by rw [h3, h4]; rfl)).symm, hc'⟩
   ·
    refine LM.drop (t := 28) rfl rfl rfl ?_
    refine LM.drop (t := 28) rfl rfl rfl ?_
    refine LM.drop (t := 28) rfl rfl rfl ?_
    refine LM.drop (t := 28) rfl rfl rfl ?_
    refine LM.val (ov_pickF rfl rfl) ?_
    refine LM.nil ?_
    refine QM.sub (e' := [(6, _), (7, _), (33, _)]) ⟨rfl, rfl, rfl, trivial⟩ ?_
    refine QM.then ?_
    refine wpM.condF rfl ?_
    refine wpM.skip ?_
    refine QM.then ?_
    refine wpM.seq ?_
    refine wpM.region ?_
    refine LM.st Tryz.sizeOf3 rfl rfl rfl (by first | decide | exact Nat.le_of_ble_eq_true rfl | (simp; done) | (simp; omega)) rfl (fun hlt => absurd hlt (by omega)) ?_
    refine LM.st Tryz.sizeOf31 rfl rfl rfl (by first | decide | exact Nat.le_of_ble_eq_true rfl | (simp; done) | (simp; omega)) rfl (fun hlt => absurd hlt (by omega)) ?_
    refine LM.nil ?_
    refine QM.sub (e' := [(6, _), (7, _)]) ⟨rfl, rfl, trivial⟩ ?_
    refine QM.then ?_
    refine wpM.ret ?_
    refine QM.leaveCs (ds := (D0 :: [])) (.inl rfl) [.cell 6 3, .cell 7 31] Tryz.results86 (hd_cons hD0 hd_nil) (rc_c rfl Tryz.isAgg3 rfl (rc_c rfl Tryz.isAgg31 rfl rc_nil)) ?_
    intro w' hm' hc'
    exact ⟨(ckV_end (b := false) hm0 (fun j hj => h0 j (by rw [eachA_len]; exact hj)) (by rw [h3]; rfl)).symm, hc'⟩
  ·
   rintro i D0 hD0 hx
   obtain ⟨-, hi, h0, hne⟩ := hx
   refine QM.block_ret ?_
   refine QM.then_ret ?_
   refine QM.leaveCs (ds := (D0 :: [])) (.inl rfl) [.cell 6 3, .cell 7 31] Tryz.results86 (hd_cons hD0 hd_nil) (rc_c rfl Tryz.isAgg3 rfl (rc_c rfl Tryz.isAgg31 rfl rc_nil)) ?_
   intro w' hm' hc'
   exact ⟨(ckV_at hm0 h0 hi rfl hne).symm, hc'⟩
  ·
   rintro id i D0 hD0 hx
   first | exact hx.elim | cases hx.1 | cases hx

set_option maxRecDepth 100000 in
set_option maxHeartbeats 1000000 in
theorem rcheck_spec {xs : List COp} {ls : List CLk} {fv : Bool} {ad ad2 : Option Addr} {n cap n2 cap2 : Nat} (progs : Int) (w : World) (hn : n = xs.length) (hl : Sr fO 3 xs (.slice ad n cap) w) (hn2 : n2 = ls.length) (hl2 : Sr fL 5 ls (.slice ad2 n2 cap2) w) : Ret Tryz.prog 46 #[pV fv ad n cap, .slice ad2 n2 cap2, .int .i64 progs] w (fun v w' => v = ckV fv xs ls progs ∧ Ext w w') := by
 refine Ret.enterM (l := [pV fv ad n cap, .slice ad2 n2 cap2, .int .i64 progs]) Tryz.func46 rfl Tryz.ntmps46 rfl ([]) (no) (Mem.nil w) ?_
 refine wpM.seq ?_
 refine wpM.region ?_
 refine LM.box rfl rfl (fun b3 hb3 => ?_)
 refine LM.val (ov_assign rfl) ?_
 refine LM.val (ov_assign rfl) ?_
 refine LM.nil ?_
 refine QM.sub (e' := [(1, _), (2, _), (3, _)]) ⟨rfl, rfl, rfl, trivial⟩ ?_
 refine QM.then ?_
 refine wpM.seq ?_
 refine wpM.seq ?_
 refine wpM.region ?_
 refine LM.rd (om_ldW Tryz.isAgg87 Tryz.sizeOf87 rfl rfl) ?_
 refine LM.callE (oc_call (enters_fn Tryz.func90 (by kernel_rfl) rfl) rfl) (fun w hm hc hg => rmay_spec w hn (hl.ext hc)) ?_
 first | refine LM.val (ov_notD rfl) ?_ | refine LM.val (ov_not rfl) ?_
 refine LM.nil ?_
 refine QM.sub (e' := [(1, _), (2, _), (3, _), (14, _)]) ⟨rfl, rfl, rfl, rfl, trivial⟩ ?_
 refine QM.then ?_
 first | refine wpM.condD rfl (fun h1 => ?_) (fun h1 => ?_) | refine wpM.condB rfl (fun h1 => ?_) (fun h1 => ?_)
 ·
  refine wpM.seq ?_
  refine wpM.region ?_
  refine LM.val (ov_assign rfl) ?_
  refine LM.val (ov_assign rfl) ?_
  refine LM.nil ?_
  refine QM.sub (e' := [(6, _), (7, _)]) ⟨rfl, rfl, trivial⟩ ?_
  refine QM.then ?_
  refine wpM.ret ?_
  refine QM.then_ret ?_
  refine QM.leave (.inl rfl) [.tmp 6, .tmp 7] Tryz.results46 rfl ?_
  intro w' hm' hc' hg'
  exact ⟨(ckV_none (by simpa using h1)).symm, hc'⟩
 ·
  have hm0 : mayB xs = true := (by simpa using h1); have hsm := may_small hm0; have hx20 := hsm.1
  refine wpM.skip ?_
  refine QM.then ?_
  refine wpM.seq ?_
  refine wpM.region ?_
  refine LM.val (ov_assign rfl) ?_
  refine LM.nil ?_
  refine QM.sub (e' := [(1, _), (2, _), (3, _), (8, _)]) ⟨rfl, rfl, rfl, rfl, trivial⟩ ?_
  refine QM.then ?_
  refine wpM.seq ?_
  refine wpM.seq ?_
  refine wpM.region ?_
  refine LM.val (ov_assign rfl) ?_
  refine LM.nil ?_
  refine QM.sub (e' := [(1, _), (2, _), (3, _), (8, _), (9, _)]) ⟨rfl, rfl, rfl, rfl, rfl, trivial⟩ ?_
  refine QM.then ?_
  refine wpM.block ?_
  refine wpM.loopK0 (α := Nat) (fun i => [(8, .bool ((xs.take i).any (fun o => passB o.k))), (9, .int .i64 (i : Nat))]) [(1, _), (2, _), (3, _)] (fun i => pB b3 fv ad n cap :: []) (fun i => i ≤ xs.length ∧ ∀ j, j < i → fitsO fv xs ls progs j = 0) (fun i => xs.length - i) (0) ⟨(by first | rfl | exact lk rfl (by congr 1; omega) | exact lk rfl (by simp)), (by first | rfl | exact lk rfl (by congr 1; omega) | exact lk rfl (by simp)), rfl, rfl, rfl, trivial⟩ (by (repeat' (first | exact SubM.nil _ | refine SubM.cons rfl ?_ | refine SubM.app ?_))) ⟨Nat.zero_le _, fun j hj => absurd hj (Nat.not_lt_zero _)⟩ ?_
  rintro i ⟨hi, h0⟩
  change wpM _ _ _ _ _ _ _ (pB b3 fv ad n cap :: []) _ _ _
  refine wpM.seq ?_
  refine wpM.seq ?_
  refine wpM.region ?_
  refine LM.val (ov_move rfl) ?_
  refine LM.val (ov_field Tryz.underlying87 rfl Tryz.sizeOf85 rfl (k := 1) rfl rfl) ?_
  first | refine LM.rd (om_ld Tryz.isAgg85 rfl rfl) ?_
  refine LM.val (ov_len Tryz.underlying85 rfl) ?_
  refine LM.val (ov_lss rfl rfl) ?_
  refine LM.nil ?_
  refine QM.sub (e' := [(1, _), (2, _), (3, _), (8, _), (9, _), (19, _)]) ⟨rfl, rfl, rfl, rfl, rfl, rfl, trivial⟩ ?_
  refine QM.then ?_
  refine wpM.condD rfl (fun h2 => ?_) (fun h2 => ?_)
  ·
   refine wpM.skip ?_
   refine QM.then ?_
   refine wpM.seq ?_
   refine wpM.block ?_
   refine wpM.seq ?_
   refine wpM.region ?_
   refine LM.val (ov_field Tryz.underlying87 rfl Tryz.sizeOf85 rfl (k := 1) rfl rfl) ?_
   first | refine LM.rd (om_ld Tryz.isAgg85 rfl rfl) ?_
   refine LM.val (ov_move rfl) ?_
   refine LM.val (ov_idxSN (by first | exact Sr.spt (by assumption) | exact Sl.spt (by assumption)) Tryz.underlying85 Tryz.sizeOf135 rfl rfl (by omega)) ?_
   first | refine LM.rd (om_slA (by assumption) (by intro _; rfl) Tryz.isAgg135 Tryz.sizeOf135 rfl (by exact getq default (by first | omega | (simp only [List.length_set, List.length_append, List.length_cons, List.length_nil]; omega)))) ?_ | refine LM.rdC (om_srEA (by assumption) (by intro _; rfl) Tryz.isAgg135 Tryz.sizeOf135 rfl (by exact getq default (by first | omega | (simp only [List.length_set, List.length_append, List.length_cons, List.length_nil]; omega))) id) ?_ | refine LM.rd (om_ldW Tryz.isAgg135 Tryz.sizeOf135 rfl rfl) ?_ | refine LM.rd (om_ldA Tryz.isAgg135 Tryz.sizeOf135 rfl (vs := [_, _, _]) rfl ⟨rfl, rfl, rfl, trivial⟩) ?_
   refine LM.alloc Tryz.zeroValue135 rfl (fun b10 hb10 => ?_)
   refine LM.stW Tryz.sizeOf135 rfl rfl rfl rfl (by first | rfl | decide | (simp; done)) (fun hlt => absurd hlt (by omega)) ?_
   refine LM.nil ?_
   refine QM.sub (e' := [(1, _), (2, _), (3, _), (8, _), (9, _), (10, _)]) ⟨rfl, rfl, rfl, rfl, rfl, rfl, trivial⟩ ?_
   refine QM.then ?_
   refine wpM.seq ?_
   refine wpM.joinK (α := Bool) (fun t => [(8, .bool t)]) [(1, _), (2, _), (3, _), (9, _), (10, _)] (fun t => oB b10 (xs.getD i default) :: pB b3 fv ad n cap :: []) (fun t => t = (xs.take (i + 1)).any (fun o => passB o.k)) ⟨rfl, rfl, rfl, rfl, rfl, trivial⟩ ?_ ?_
   ·
    refine wpM.region ?_
    refine LM.val (ov_move rfl) ?_
    refine LM.val (ov_move rfl) ?_
    first | refine LM.splitD (t := 28) rfl (fun h3 => ?_) (fun h3 => ?_) | refine LM.splitB (t := 28) rfl (fun h3 => ?_) (fun h3 => ?_)
    ·
     refine LM.drop (t := 28) rfl rfl rfl ?_
     refine LM.drop (t := 28) rfl rfl rfl ?_
     refine LM.drop (t := 28) rfl rfl rfl ?_
     refine LM.val (ov_pickT rfl rfl) ?_
     refine LM.val (ov_move rfl) ?_
     refine LM.drop (t := 33) rfl rfl rfl ?_
     refine LM.drop (t := 33) rfl rfl rfl ?_
     refine LM.drop (t := 33) rfl rfl rfl ?_
     refine LM.val (ov_pickT rfl rfl) ?_
     refine LM.val (ov_move rfl) ?_
     refine LM.drop (t := 38) rfl rfl rfl ?_
     refine LM.drop (t := 38) rfl rfl rfl ?_
     refine LM.drop (t := 38) rfl rfl rfl ?_
     refine LM.val (ov_pickT rfl rfl) ?_
     refine LM.val (ov_move rfl) ?_
     refine LM.drop (t := 43) rfl rfl rfl ?_
     refine LM.drop (t := 43) rfl rfl rfl ?_
     refine LM.drop (t := 43) rfl rfl rfl ?_
     refine LM.val (ov_pickT rfl rfl) ?_
     refine LM.val (ov_assign rfl) ?_
     refine LM.nil ?_
     refine QM.sub (e' := [(1, _), (2, _), (3, _), (8, _), (9, _), (10, _)]) ⟨rfl, rfl, rfl, rfl, rfl, rfl, trivial⟩ ?_
     refine QM.meetK (_) ⟨(by first | rfl | exact lk rfl (by congr 1; omega) | exact lk rfl (by simp)), rfl, rfl, rfl, rfl, rfl, trivial⟩ (by (repeat' (first | exact SubM.nil _ | refine SubM.cons rfl ?_ | refine SubM.app ?_))) ?_
     · rw [any_snoc default (by omega), passB]; simp only [h1, h2, h3, decide_true, decide_false, Bool.true_and, Bool.false_and, Bool.and_true, Bool.and_false, Bool.not_true, Bool.not_false, Bool.true_or, Bool.false_or, Bool.or_true, Bool.or_false, ne_eq, not_true_eq_false, not_false_eq_true, Bool.and_self]
    ·
     refine LM.strip (t := 28) rfl rfl rfl ?_
     refine LM.val (ov_field Tryz.underlying135 rfl Tryz.sizeOf3 rfl (k := 0) rfl rfl) ?_
     refine LM.strip (t := 28) rfl rfl rfl ?_
     first | refine LM.rd (om_ld Tryz.isAgg3 rfl rfl) ?_
     refine LM.strip (t := 28) rfl rfl rfl ?_
     refine LM.val (ov_eql rfl rfl) ?_
     refine LM.val (ov_pickF rfl rfl) ?_
     refine LM.val (ov_move rfl) ?_
     refine LM.splitD (t := 33) rfl (fun h4 => ?_) (fun h4 => ?_)
     ·
      refine LM.drop (t := 33) rfl rfl rfl ?_
      refine LM.drop (t := 33) rfl rfl rfl ?_
      refine LM.drop (t := 33) rfl rfl rfl ?_
      refine LM.val (ov_pickT rfl rfl) ?_
      refine LM.val (ov_move rfl) ?_
      refine LM.drop (t := 38) rfl rfl rfl ?_
      refine LM.drop (t := 38) rfl rfl rfl ?_
      refine LM.drop (t := 38) rfl rfl rfl ?_
      refine LM.val (ov_pickT rfl rfl) ?_
      refine LM.val (ov_move rfl) ?_
      refine LM.drop (t := 43) rfl rfl rfl ?_
      refine LM.drop (t := 43) rfl rfl rfl ?_
      refine LM.drop (t := 43) rfl rfl rfl ?_
      refine LM.val (ov_pickT rfl rfl) ?_
      refine LM.val (ov_assign rfl) ?_
      refine LM.nil ?_
      refine QM.sub (e' := [(1, _), (2, _), (3, _), (8, _), (9, _), (10, _)]) ⟨rfl, rfl, rfl, rfl, rfl, rfl, trivial⟩ ?_
      refine QM.meetK (_) ⟨(by first | rfl | exact lk rfl (by congr 1; omega) | exact lk rfl (by simp)), rfl, rfl, rfl, rfl, rfl, trivial⟩ (by (repeat' (first | exact SubM.nil _ | refine SubM.cons rfl ?_ | refine SubM.app ?_))) ?_
      · rw [any_snoc default (by omega), passB]; simp only [h1, h2, h3, h4, decide_true, decide_false, Bool.true_and, Bool.false_and, Bool.and_true, Bool.and_false, Bool.not_true, Bool.not_false, Bool.true_or, Bool.false_or, Bool.or_true, Bool.or_false, ne_eq, not_true_eq_false, not_false_eq_true, Bool.and_self]
     ·
      refine LM.strip (t := 33) rfl rfl rfl ?_
      refine LM.val (ov_field Tryz.underlying135 rfl Tryz.sizeOf3 rfl (k := 0) rfl rfl) ?_
      refine LM.strip (t := 33) rfl rfl rfl ?_
      first | refine LM.rd (om_ld Tryz.isAgg3 rfl rfl) ?_
      refine LM.strip (t := 33) rfl rfl rfl ?_
      refine LM.val (ov_eql rfl rfl) ?_
      refine LM.val (ov_pickF rfl rfl) ?_
      refine LM.val (ov_move rfl) ?_
      refine LM.splitD (t := 38) rfl (fun h5 => ?_) (fun h5 => ?_)
      ·
       refine LM.drop (t := 38) rfl rfl rfl ?_
       refine LM.drop (t := 38) rfl rfl rfl ?_
       refine LM.drop (t := 38) rfl rfl rfl ?_
       refine LM.val (ov_pickT rfl rfl) ?_
       refine LM.val (ov_move rfl) ?_
       refine LM.drop (t := 43) rfl rfl rfl ?_
       refine LM.drop (t := 43) rfl rfl rfl ?_
       refine LM.drop (t := 43) rfl rfl rfl ?_
       refine LM.val (ov_pickT rfl rfl) ?_
       refine LM.val (ov_assign rfl) ?_
       refine LM.nil ?_
       refine QM.sub (e' := [(1, _), (2, _), (3, _), (8, _), (9, _), (10, _)]) ⟨rfl, rfl, rfl, rfl, rfl, rfl, trivial⟩ ?_
       refine QM.meetK (_) ⟨(by first | rfl | exact lk rfl (by congr 1; omega) | exact lk rfl (by simp)), rfl, rfl, rfl, rfl, rfl, trivial⟩ (by (repeat' (first | exact SubM.nil _ | refine SubM.cons rfl ?_ | refine SubM.app ?_))) ?_
       · rw [any_snoc default (by omega), passB]; simp only [h1, h2, h3, h4, h5, decide_true, decide_false, Bool.true_and, Bool.false_and, Bool.and_true, Bool.and_false, Bool.not_true, Bool.not_false, Bool.true_or, Bool.false_or, Bool.or_true, Bool.or_false, ne_eq, not_true_eq_false, not_false_eq_true, Bool.and_self]
      ·
       refine LM.strip (t := 38) rfl rfl rfl ?_
       refine LM.val (ov_field Tryz.underlying135 rfl Tryz.sizeOf3 rfl (k := 0) rfl rfl) ?_
       refine LM.strip (t := 38) rfl rfl rfl ?_
       first | refine LM.rd (om_ld Tryz.isAgg3 rfl rfl) ?_
       refine LM.strip (t := 38) rfl rfl rfl ?_
       refine LM.val (ov_eql rfl rfl) ?_
       refine LM.val (ov_pickF rfl rfl) ?_
       refine LM.val (ov_move rfl) ?_
       refine LM.splitD (t := 43) rfl (fun h6 => ?_) (fun h6 => ?_)
       ·
        refine LM.drop (t := 43) rfl rfl rfl ?_
        refine LM.drop (t := 43) rfl rfl rfl ?_
        refine LM.drop (t := 43) rfl rfl rfl ?_
        refine LM.val (ov_pickT rfl rfl) ?_
        refine LM.val (ov_assign rfl) ?_
        refine LM.nil ?_
        refine QM.sub (e' := [(1, _), (2, _), (3, _), (8, _), (9, _), (10, _)]) ⟨rfl, rfl, rfl, rfl, rfl, rfl, trivial⟩ ?_
        refine QM.meetK (_) ⟨(by first | rfl | exact lk rfl (by congr 1; omega) | exact lk rfl (by simp)), rfl, rfl, rfl, rfl, rfl, trivial⟩ (by (repeat' (first | exact SubM.nil _ | refine SubM.cons rfl ?_ | refine SubM.app ?_))) ?_
        · rw [any_snoc default (by omega), passB]; simp only [h1, h2, h3, h4, h5, h6, decide_true, decide_false, Bool.true_and, Bool.false_and, Bool.and_true, Bool.and_false, Bool.not_true, Bool.not_false, Bool.true_or, Bool.false_or, Bool.or_true, Bool.or_false, ne_eq, not_true_eq_false, not_false_eq_true, Bool.and_self]
       ·
        refine LM.strip (t := 43) rfl rfl rfl ?_
        refine LM.val (ov_field Tryz.underlying135 rfl Tryz.sizeOf3 rfl (k := 0) rfl rfl) ?_
        refine LM.strip (t := 43) rfl rfl rfl ?_
        first | refine LM.rd (om_ld Tryz.isAgg3 rfl rfl) ?_
        refine LM.strip (t := 43) rfl rfl rfl ?_
        refine LM.val (ov_eql rfl rfl) ?_
        refine LM.val (ov_pickF rfl rfl) ?_
        refine LM.val (ov_assign rfl) ?_
        refine LM.nil ?_
        refine QM.sub (e' := [(1, _), (2, _), (3, _), (8, _), (9, _), (10, _)]) ⟨rfl, rfl, rfl, rfl, rfl, rfl, trivial⟩ ?_
        refine QM.meetK (_) ⟨(by first | rfl | exact lk rfl (by congr 1; omega) | exact lk rfl (by simp)), rfl, rfl, rfl, rfl, rfl, trivial⟩ (by (repeat' (first | exact SubM.nil _ | refine SubM.cons rfl ?_ | refine SubM.app ?_))) ?_
        · rw [any_snoc default (by omega), passB]; simp only [h1, h2, h3, h4, h5, h6, decide_true, decide_false, Bool.true_and, Bool.false_and, Bool.and_true, Bool.and_false, Bool.not_true, Bool.not_false, Bool.true_or, Bool.false_or, Bool.or_true, Bool.or_false, ne_eq, not_true_eq_false, not_false_eq_true, Bool.and_self]
   ·
    rintro t rfl
    change QM _ _ _ _ _ (oB b10 (xs.getD i default) :: pB b3 fv ad n cap :: []) _ _ _
    have hr := right_a (may_at hm0 (show i < xs.length by omega))
    refine QM.then ?_
    refine wpM.seq ?_
    refine wpM.seq ?_
    refine wpM.joinK (α := Bool) (fun q => [(72, .bool q)]) [(1, _), (2, _), (3, _), (8, _), (9, _), (10, _)] (fun q => oB b10 (xs.getD i default) :: pB b3 fv ad n cap :: []) (fun q => q = ((takesB (xs.getD i default).k || decide ((xs.getD i default).k = 6)) && decide ((xs.getD i default).a ≥ n2) || decide ((xs.getD i default).k = 9) && decide ((xs.getD i default).a ≥ progs))) ⟨rfl, rfl, rfl, rfl, rfl, rfl, trivial⟩ ?_ ?_
    ·
     refine wpM.region ?_
     refine LM.rd (om_ldW Tryz.isAgg135 Tryz.sizeOf135 rfl rfl) ?_
     refine LM.callE (oc_call (enters_fn Tryz.func91 (by kernel_rfl) rfl) rfl) (fun w hm hc hg => rtakes_spec _ w) ?_
     refine LM.val (ov_move rfl) ?_
     first | refine LM.splitD (t := 50) rfl (fun h7 => ?_) (fun h7 => ?_) | refine LM.splitB (t := 50) rfl (fun h7 => ?_) (fun h7 => ?_)
     ·
      refine LM.drop (t := 50) rfl rfl rfl ?_
      refine LM.drop (t := 50) rfl rfl rfl ?_
      refine LM.drop (t := 50) rfl rfl rfl ?_
      refine LM.val (ov_pickT rfl rfl) ?_
      refine LM.val (ov_move rfl) ?_
      refine LM.strip (t := 55) rfl rfl rfl ?_
      refine LM.val (ov_field Tryz.underlying135 rfl Tryz.sizeOf3 rfl (k := 1) rfl rfl) ?_
      refine LM.strip (t := 55) rfl rfl rfl ?_
      first | refine LM.rd (om_ld Tryz.isAgg3 rfl rfl) ?_
      refine LM.strip (t := 55) rfl rfl rfl ?_
      refine LM.val (ov_move rfl) ?_
      refine LM.strip (t := 55) rfl rfl rfl ?_
      refine LM.val (ov_len Tryz.underlying27 rfl) ?_
      refine LM.strip (t := 55) rfl rfl rfl ?_
      refine LM.val (ov_geq rfl rfl) ?_
      refine LM.val (ov_pickT rfl rfl) ?_
      refine LM.val (ov_move rfl) ?_
      refine LM.splitD (t := 62) rfl (fun h8 => ?_) (fun h8 => ?_)
      ·
       refine LM.drop (t := 62) rfl rfl rfl ?_
       refine LM.drop (t := 62) rfl rfl rfl ?_
       refine LM.drop (t := 62) rfl rfl rfl ?_
       refine LM.dropU (t := 62) rfl rfl rfl ?_
       refine LM.dropX (t := 66) rfl rfl ?_
       refine LM.dropX (t := 66) rfl rfl ?_
       refine LM.dropX (t := 66) rfl rfl ?_
       refine LM.dropX (t := 66) rfl rfl ?_
       refine LM.drop (t := 62) rfl rfl rfl ?_
       refine LM.val (ov_pickT rfl rfl) ?_
       refine LM.nil ?_
       refine QM.sub (e' := [(1, _), (2, _), (3, _), (8, _), (9, _), (10, _), (72, _)]) ⟨rfl, rfl, rfl, rfl, rfl, rfl, rfl, trivial⟩ ?_
       refine QM.meetK (_) ⟨(by first | rfl | exact lk rfl (by congr 1; omega) | exact lk rfl (by simp)), rfl, rfl, rfl, rfl, rfl, rfl, trivial⟩ (by (repeat' (first | exact SubM.nil _ | refine SubM.cons rfl ?_ | refine SubM.app ?_))) ?_
       · first | (exfalso; omega) | (simp only [h1, h2, h7, h8, decide_true, decide_false, Bool.true_and, Bool.false_and, Bool.and_true, Bool.and_false, Bool.not_true, Bool.not_false, Bool.true_or, Bool.false_or, Bool.or_true, Bool.or_false, ne_eq, not_true_eq_false, not_false_eq_true, Bool.and_self]; done) | (simp only [h1, h2, h7, h8, decide_true, decide_false, Bool.true_and, Bool.false_and, Bool.and_true, Bool.and_false, Bool.not_true, Bool.not_false, Bool.true_or, Bool.false_or, Bool.or_true, Bool.or_false, ne_eq, not_true_eq_false, not_false_eq_true, Bool.and_self]; rfl)
      ·
       refine LM.strip (t := 62) rfl rfl rfl ?_
       refine LM.val (ov_field Tryz.underlying135 rfl Tryz.sizeOf3 rfl (k := 0) rfl rfl) ?_
       refine LM.strip (t := 62) rfl rfl rfl ?_
       first | refine LM.rd (om_ld Tryz.isAgg3 rfl rfl) ?_
       refine LM.strip (t := 62) rfl rfl rfl ?_
       refine LM.val (ov_eql rfl rfl) ?_
       refine LM.strip (t := 62) rfl rfl rfl ?_
       refine LM.val (ov_move rfl) ?_
       refine LM.splitD (t := 66) rfl (fun h9 => ?_) (fun h9 => ?_)
       ·
        refine LM.strip (t := 66) rfl rfl rfl ?_
        refine LM.val (ov_field Tryz.underlying135 rfl Tryz.sizeOf3 rfl (k := 1) rfl rfl) ?_
        refine LM.strip (t := 66) rfl rfl rfl ?_
        first | refine LM.rd (om_ld Tryz.isAgg3 rfl rfl) ?_
        refine LM.strip (t := 66) rfl rfl rfl ?_
        refine LM.val (ov_move rfl) ?_
        refine LM.strip (t := 66) rfl rfl rfl ?_
        refine LM.val (ov_geq rfl rfl) ?_
        refine LM.strip (t := 62) rfl rfl rfl ?_
        refine LM.val (ov_pickT rfl rfl) ?_
        refine LM.val (ov_pickF rfl rfl) ?_
        refine LM.nil ?_
        refine QM.sub (e' := [(1, _), (2, _), (3, _), (8, _), (9, _), (10, _), (72, _)]) ⟨rfl, rfl, rfl, rfl, rfl, rfl, rfl, trivial⟩ ?_
        refine QM.meetK (_) ⟨(by first | rfl | exact lk rfl (by congr 1; omega) | exact lk rfl (by simp)), rfl, rfl, rfl, rfl, rfl, rfl, trivial⟩ (by (repeat' (first | exact SubM.nil _ | refine SubM.cons rfl ?_ | refine SubM.app ?_))) ?_
        · first | (exfalso; omega) | (simp only [h1, h2, h7, h8, h9, decide_true, decide_false, Bool.true_and, Bool.false_and, Bool.and_true, Bool.and_false, Bool.not_true, Bool.not_false, Bool.true_or, Bool.false_or, Bool.or_true, Bool.or_false, ne_eq, not_true_eq_false, not_false_eq_true, Bool.and_self]; done) | (simp only [h1, h2, h7, h8, h9, decide_true, decide_false, Bool.true_and, Bool.false_and, Bool.and_true, Bool.and_false, Bool.not_true, Bool.not_false, Bool.true_or, Bool.false_or, Bool.or_true, Bool.or_false, ne_eq, not_true_eq_false, not_false_eq_true, Bool.and_self]; rfl)
       ·
        refine LM.drop (t := 66) rfl rfl rfl ?_
        refine LM.drop (t := 66) rfl rfl rfl ?_
        refine LM.drop (t := 66) rfl rfl rfl ?_
        refine LM.drop (t := 66) rfl rfl rfl ?_
        refine LM.strip (t := 62) rfl rfl rfl ?_
        refine LM.val (ov_pickF rfl rfl) ?_
        refine LM.val (ov_pickF rfl rfl) ?_
        refine LM.nil ?_
        refine QM.sub (e' := [(1, _), (2, _), (3, _), (8, _), (9, _), (10, _), (72, _)]) ⟨rfl, rfl, rfl, rfl, rfl, rfl, rfl, trivial⟩ ?_
        refine QM.meetK (_) ⟨(by first | rfl | exact lk rfl (by congr 1; omega) | exact lk rfl (by simp)), rfl, rfl, rfl, rfl, rfl, rfl, trivial⟩ (by (repeat' (first | exact SubM.nil _ | refine SubM.cons rfl ?_ | refine SubM.app ?_))) ?_
        · first | (exfalso; omega) | (simp only [h1, h2, h7, h8, h9, decide_true, decide_false, Bool.true_and, Bool.false_and, Bool.and_true, Bool.and_false, Bool.not_true, Bool.not_false, Bool.true_or, Bool.false_or, Bool.or_true, Bool.or_false, ne_eq, not_true_eq_false, not_false_eq_true, Bool.and_self]; done) | (simp only [h1, h2, h7, h8, h9, decide_true, decide_false, Bool.true_and, Bool.false_and, Bool.and_true, Bool.and_false, Bool.not_true, Bool.not_false, Bool.true_or, Bool.false_or, Bool.or_true, Bool.or_false, ne_eq, not_true_eq_false, not_false_eq_true, Bool.and_self]; rfl)
     ·
      refine LM.strip (t := 50) rfl rfl rfl ?_
      refine LM.val (ov_field Tryz.underlying135 rfl Tryz.sizeOf3 rfl (k := 0) rfl rfl) ?_
      refine LM.strip (t := 50) rfl rfl rfl ?_
      first | refine LM.rd (om_ld Tryz.isAgg3 rfl rfl) ?_
      refine LM.strip (t := 50) rfl rfl rfl ?_
      refine LM.val (ov_eql rfl rfl) ?_
      refine LM.val (ov_pickF rfl rfl) ?_
      refine LM.val (ov_move rfl) ?_
      refine LM.splitD (t := 55) rfl (fun h10 => ?_) (fun h10 => ?_)
      ·
       refine LM.strip (t := 55) rfl rfl rfl ?_
       refine LM.val (ov_field Tryz.underlying135 rfl Tryz.sizeOf3 rfl (k := 1) rfl rfl) ?_
       refine LM.strip (t := 55) rfl rfl rfl ?_
       first | refine LM.rd (om_ld Tryz.isAgg3 rfl rfl) ?_
       refine LM.strip (t := 55) rfl rfl rfl ?_
       refine LM.val (ov_move rfl) ?_
       refine LM.strip (t := 55) rfl rfl rfl ?_
       refine LM.val (ov_len Tryz.underlying27 rfl) ?_
       refine LM.strip (t := 55) rfl rfl rfl ?_
       refine LM.val (ov_geq rfl rfl) ?_
       refine LM.val (ov_pickT rfl rfl) ?_
       refine LM.val (ov_move rfl) ?_
       refine LM.splitD (t := 62) rfl (fun h11 => ?_) (fun h11 => ?_)
       ·
        refine LM.drop (t := 62) rfl rfl rfl ?_
        refine LM.drop (t := 62) rfl rfl rfl ?_
        refine LM.drop (t := 62) rfl rfl rfl ?_
        refine LM.dropU (t := 62) rfl rfl rfl ?_
        refine LM.dropX (t := 66) rfl rfl ?_
        refine LM.dropX (t := 66) rfl rfl ?_
        refine LM.dropX (t := 66) rfl rfl ?_
        refine LM.dropX (t := 66) rfl rfl ?_
        refine LM.drop (t := 62) rfl rfl rfl ?_
        refine LM.val (ov_pickT rfl rfl) ?_
        refine LM.nil ?_
        refine QM.sub (e' := [(1, _), (2, _), (3, _), (8, _), (9, _), (10, _), (72, _)]) ⟨rfl, rfl, rfl, rfl, rfl, rfl, rfl, trivial⟩ ?_
        refine QM.meetK (_) ⟨(by first | rfl | exact lk rfl (by congr 1; omega) | exact lk rfl (by simp)), rfl, rfl, rfl, rfl, rfl, rfl, trivial⟩ (by (repeat' (first | exact SubM.nil _ | refine SubM.cons rfl ?_ | refine SubM.app ?_))) ?_
        · first | (exfalso; omega) | (simp only [h1, h2, h7, h10, h11, decide_true, decide_false, Bool.true_and, Bool.false_and, Bool.and_true, Bool.and_false, Bool.not_true, Bool.not_false, Bool.true_or, Bool.false_or, Bool.or_true, Bool.or_false, ne_eq, not_true_eq_false, not_false_eq_true, Bool.and_self]; done) | (simp only [h1, h2, h7, h10, h11, decide_true, decide_false, Bool.true_and, Bool.false_and, Bool.and_true, Bool.and_false, Bool.not_true, Bool.not_false, Bool.true_or, Bool.false_or, Bool.or_true, Bool.or_false, ne_eq, not_true_eq_false, not_false_eq_true, Bool.and_self]; rfl)
       ·
        refine LM.strip (t := 62) rfl rfl rfl ?_
        refine LM.val (ov_field Tryz.underlying135 rfl Tryz.sizeOf3 rfl (k := 0) rfl rfl) ?_
        refine LM.strip (t := 62) rfl rfl rfl ?_
        first | refine LM.rd (om_ld Tryz.isAgg3 rfl rfl) ?_
        refine LM.strip (t := 62) rfl rfl rfl ?_
        refine LM.val (ov_eql rfl rfl) ?_
        refine LM.strip (t := 62) rfl rfl rfl ?_
        refine LM.val (ov_move rfl) ?_
        refine LM.splitD (t := 66) rfl (fun h12 => ?_) (fun h12 => ?_)
        ·
         refine LM.strip (t := 66) rfl rfl rfl ?_
         refine LM.val (ov_field Tryz.underlying135 rfl Tryz.sizeOf3 rfl (k := 1) rfl rfl) ?_
         refine LM.strip (t := 66) rfl rfl rfl ?_
         first | refine LM.rd (om_ld Tryz.isAgg3 rfl rfl) ?_
         refine LM.strip (t := 66) rfl rfl rfl ?_
         refine LM.val (ov_move rfl) ?_
         refine LM.strip (t := 66) rfl rfl rfl ?_
         refine LM.val (ov_geq rfl rfl) ?_
         refine LM.strip (t := 62) rfl rfl rfl ?_
         refine LM.val (ov_pickT rfl rfl) ?_
         refine LM.val (ov_pickF rfl rfl) ?_
         refine LM.nil ?_
         refine QM.sub (e' := [(1, _), (2, _), (3, _), (8, _), (9, _), (10, _), (72, _)]) ⟨rfl, rfl, rfl, rfl, rfl, rfl, rfl, trivial⟩ ?_
         refine QM.meetK (_) ⟨(by first | rfl | exact lk rfl (by congr 1; omega) | exact lk rfl (by simp)), rfl, rfl, rfl, rfl, rfl, rfl, trivial⟩ (by (repeat' (first | exact SubM.nil _ | refine SubM.cons rfl ?_ | refine SubM.app ?_))) ?_
         · (exfalso; omega)
        ·
         refine LM.drop (t := 66) rfl rfl rfl ?_
         refine LM.drop (t := 66) rfl rfl rfl ?_
         refine LM.drop (t := 66) rfl rfl rfl ?_
         refine LM.drop (t := 66) rfl rfl rfl ?_
         refine LM.strip (t := 62) rfl rfl rfl ?_
         refine LM.val (ov_pickF rfl rfl) ?_
         refine LM.val (ov_pickF rfl rfl) ?_
         refine LM.nil ?_
         refine QM.sub (e' := [(1, _), (2, _), (3, _), (8, _), (9, _), (10, _), (72, _)]) ⟨rfl, rfl, rfl, rfl, rfl, rfl, rfl, trivial⟩ ?_
         refine QM.meetK (_) ⟨(by first | rfl | exact lk rfl (by congr 1; omega) | exact lk rfl (by simp)), rfl, rfl, rfl, rfl, rfl, rfl, trivial⟩ (by (repeat' (first | exact SubM.nil _ | refine SubM.cons rfl ?_ | refine SubM.app ?_))) ?_
         · first | (exfalso; omega) | (simp only [h1, h2, h7, h10, h11, h12, decide_true, decide_false, Bool.true_and, Bool.false_and, Bool.and_true, Bool.and_false, Bool.not_true, Bool.not_false, Bool.true_or, Bool.false_or, Bool.or_true, Bool.or_false, ne_eq, not_true_eq_false, not_false_eq_true, Bool.and_self]; done) | (simp only [h1, h2, h7, h10, h11, h12, decide_true, decide_false, Bool.true_and, Bool.false_and, Bool.and_true, Bool.and_false, Bool.not_true, Bool.not_false, Bool.true_or, Bool.false_or, Bool.or_true, Bool.or_false, ne_eq, not_true_eq_false, not_false_eq_true, Bool.and_self]; rfl)
      ·
       refine LM.drop (t := 55) rfl rfl rfl ?_
       refine LM.drop (t := 55) rfl rfl rfl ?_
       refine LM.drop (t := 55) rfl rfl rfl ?_
       refine LM.drop (t := 55) rfl rfl rfl ?_
       refine LM.drop (t := 55) rfl rfl rfl ?_
       refine LM.val (ov_pickF rfl rfl) ?_
       refine LM.val (ov_move rfl) ?_
       refine LM.strip (t := 62) rfl rfl rfl ?_
       refine LM.val (ov_field Tryz.underlying135 rfl Tryz.sizeOf3 rfl (k := 0) rfl rfl) ?_
       refine LM.strip (t := 62) rfl rfl rfl ?_
       first | refine LM.rd (om_ld Tryz.isAgg3 rfl rfl) ?_
       refine LM.strip (t := 62) rfl rfl rfl ?_
       refine LM.val (ov_eql rfl rfl) ?_
       refine LM.strip (t := 62) rfl rfl rfl ?_
       refine LM.val (ov_move rfl) ?_
       refine LM.splitD (t := 66) rfl (fun h13 => ?_) (fun h13 => ?_)
       ·
        refine LM.strip (t := 66) rfl rfl rfl ?_
        refine LM.val (ov_field Tryz.underlying135 rfl Tryz.sizeOf3 rfl (k := 1) rfl rfl) ?_
        refine LM.strip (t := 66) rfl rfl rfl ?_
        first | refine LM.rd (om_ld Tryz.isAgg3 rfl rfl) ?_
        refine LM.strip (t := 66) rfl rfl rfl ?_
        refine LM.val (ov_move rfl) ?_
        refine LM.strip (t := 66) rfl rfl rfl ?_
        refine LM.val (ov_geq rfl rfl) ?_
        refine LM.strip (t := 62) rfl rfl rfl ?_
        refine LM.val (ov_pickT rfl rfl) ?_
        refine LM.val (ov_pickF rfl rfl) ?_
        refine LM.nil ?_
        refine QM.sub (e' := [(1, _), (2, _), (3, _), (8, _), (9, _), (10, _), (72, _)]) ⟨rfl, rfl, rfl, rfl, rfl, rfl, rfl, trivial⟩ ?_
        refine QM.meetK (_) ⟨(by first | rfl | exact lk rfl (by congr 1; omega) | exact lk rfl (by simp)), rfl, rfl, rfl, rfl, rfl, rfl, trivial⟩ (by (repeat' (first | exact SubM.nil _ | refine SubM.cons rfl ?_ | refine SubM.app ?_))) ?_
        · first | (exfalso; omega) | (simp only [h1, h2, h7, h10, h13, decide_true, decide_false, Bool.true_and, Bool.false_and, Bool.and_true, Bool.and_false, Bool.not_true, Bool.not_false, Bool.true_or, Bool.false_or, Bool.or_true, Bool.or_false, ne_eq, not_true_eq_false, not_false_eq_true, Bool.and_self]; done) | (simp only [h1, h2, h7, h10, h13, decide_true, decide_false, Bool.true_and, Bool.false_and, Bool.and_true, Bool.and_false, Bool.not_true, Bool.not_false, Bool.true_or, Bool.false_or, Bool.or_true, Bool.or_false, ne_eq, not_true_eq_false, not_false_eq_true, Bool.and_self]; rfl)
       ·
        refine LM.drop (t := 66) rfl rfl rfl ?_
        refine LM.drop (t := 66) rfl rfl rfl ?_
        refine LM.drop (t := 66) rfl rfl rfl ?_
        refine LM.drop (t := 66) rfl rfl rfl ?_
        refine LM.strip (t := 62) rfl rfl rfl ?_
        refine LM.val (ov_pickF rfl rfl) ?_
        refine LM.val (ov_pickF rfl rfl) ?_
        refine LM.nil ?_
        refine QM.sub (e' := [(1, _), (2, _), (3, _), (8, _), (9, _), (10, _), (72, _)]) ⟨rfl, rfl, rfl, rfl, rfl, rfl, rfl, trivial⟩ ?_
        refine QM.meetK (_) ⟨(by first | rfl | exact lk rfl (by congr 1; omega) | exact lk rfl (by simp)), rfl, rfl, rfl, rfl, rfl, rfl, trivial⟩ (by (repeat' (first | exact SubM.nil _ | refine SubM.cons rfl ?_ | refine SubM.app ?_))) ?_
        · first | (exfalso; omega) | (simp only [h1, h2, h7, h10, h13, decide_true, decide_false, Bool.true_and, Bool.false_and, Bool.and_true, Bool.and_false, Bool.not_true, Bool.not_false, Bool.true_or, Bool.false_or, Bool.or_true, Bool.or_false, ne_eq, not_true_eq_false, not_false_eq_true, Bool.and_self]; done) | (simp only [h1, h2, h7, h10, h13, decide_true, decide_false, Bool.true_and, Bool.false_and, Bool.and_true, Bool.and_false, Bool.not_true, Bool.not_false, Bool.true_or, Bool.false_or, Bool.or_true, Bool.or_false, ne_eq, not_true_eq_false, not_false_eq_true, Bool.and_self]; rfl)
    ·
     rintro q hq
     change QM _ _ _ _ _ (oB b10 (xs.getD i default) :: pB b3 fv ad n cap :: []) _ _ _
     refine QM.then ?_
     first | refine wpM.condD rfl (fun h14 => ?_) (fun h14 => ?_) | refine wpM.condB rfl (fun h14 => ?_) (fun h14 => ?_)
     ·
      refine wpM.seq ?_
      refine wpM.region ?_
      refine LM.val (ov_move rfl) ?_
      refine LM.val (ov_assign rfl) ?_
      refine LM.val (ov_assign rfl) ?_
      refine LM.nil ?_
      refine QM.sub (e' := [(6, _), (7, _)]) ⟨rfl, rfl, trivial⟩ ?_
      refine QM.then ?_
      refine wpM.ret ?_
      refine QM.then_ret ?_
      refine QM.block_ret ?_
      refine QM.then_ret ?_
      refine QM.then_ret ?_
      refine QM.block_ret ?_
      refine QM.then_ret ?_
      refine QM.leave (.inl rfl) [.tmp 6, .tmp 7] Tryz.results46 rfl ?_
      intro w' hm' hc' hg'
      exact ⟨(ckV_at (e := 4) hm0 h0 (by omega) (by simp only [fitsO, ← hn, ← hn2, ← hq]; simp only [h1, h2, h14, decide_true, decide_false, Bool.true_and, Bool.false_and, Bool.and_true, Bool.and_false, Bool.not_true, Bool.not_false, Bool.true_or, Bool.false_or, Bool.or_true, Bool.or_false, ne_eq, not_true_eq_false, not_false_eq_true, Bool.and_self, if_true]) (by decide)).symm, hc'⟩
     ·
      refine wpM.skip ?_
      refine QM.then ?_
      refine wpM.seq ?_
      refine wpM.seq ?_
      refine wpM.joinK (α := Bool) (fun q3 => [(85, .bool q3)]) [(1, _), (2, _), (3, _), (8, _), (9, _), (10, _)] (fun q3 => oB b10 (xs.getD i default) :: pB b3 fv ad n cap :: []) (fun q3 => q3 = (decide ((xs.getD i default).k = 3) && !(ls.getD (xs.getD i default).a.toNat default).sh)) ⟨rfl, rfl, rfl, rfl, rfl, rfl, trivial⟩ ?_ ?_
      ·
       refine wpM.region ?_
       refine LM.val (ov_field Tryz.underlying135 rfl Tryz.sizeOf3 rfl (k := 0) rfl rfl) ?_
       first | refine LM.rd (om_ld Tryz.isAgg3 rfl rfl) ?_
       refine LM.val (ov_eql rfl rfl) ?_
       refine LM.val (ov_move rfl) ?_
       refine LM.splitD (t := 77) rfl (fun h15 => ?_) (fun h15 => ?_)
       ·
        have hlt := fits_lt2 hq h14 (by rw [h15]; rfl)
        refine LM.strip (t := 77) rfl rfl rfl ?_
        refine LM.val (ov_move rfl) ?_
        refine LM.strip (t := 77) rfl rfl rfl ?_
        refine LM.val (ov_field Tryz.underlying135 rfl Tryz.sizeOf3 rfl (k := 1) rfl rfl) ?_
        refine LM.strip (t := 77) rfl rfl rfl ?_
        first | refine LM.rd (om_ld Tryz.isAgg3 rfl rfl) ?_
        refine LM.strip (t := 77) rfl rfl rfl ?_
        first | refine LM.val (ov_idxSN (by first | exact Sr.spt (by assumption) | exact Sl.spt (by assumption)) Tryz.underlying27 Tryz.sizeOf63 rfl rfl (by omega)) ?_ | refine LM.val (ov_idxS (by first | exact Sr.spt (by assumption) | exact Sl.spt (by assumption)) Tryz.underlying27 Tryz.sizeOf63 rfl rfl (by omega)) ?_ | refine LM.val (ov_idx Tryz.underlying27 Tryz.sizeOf63 rfl rfl (by omega)) ?_
        refine LM.strip (t := 77) rfl rfl rfl ?_
        refine LM.val (ov_field Tryz.underlying63 rfl Tryz.sizeOf4 rfl (k := 0) rfl rfl) ?_
        refine LM.strip (t := 77) rfl rfl rfl ?_
        first | refine LM.rd (om_slE (j := 0) (by assumption) (by intro _; rfl) Tryz.isAgg4 rfl rfl (by exact getq default (by first | omega | (simp only [List.length_set, List.length_append, List.length_cons, List.length_nil]; omega))) rfl (by rfl)) ?_ | refine LM.rdC (om_srE (j := 0) (by assumption) Tryz.isAgg4 rfl rfl (by exact getq default (by first | omega | (simp only [List.length_set, List.length_append, List.length_cons, List.length_nil]; omega))) (by rfl) (by rfl) id) ?_ | refine LM.rd (om_ld Tryz.isAgg4 rfl rfl) ?_
        refine LM.strip (t := 77) rfl rfl rfl ?_
        first | refine LM.val (ov_notD rfl) ?_ | refine LM.val (ov_not rfl) ?_
        refine LM.val (ov_pickT rfl rfl) ?_
        refine LM.nil ?_
        refine QM.sub (e' := [(1, _), (2, _), (3, _), (8, _), (9, _), (10, _), (85, _)]) ⟨rfl, rfl, rfl, rfl, rfl, rfl, rfl, trivial⟩ ?_
        refine QM.meetK (_) ⟨(by first | rfl | exact lk rfl (by congr 1; omega) | exact lk rfl (by simp)), rfl, rfl, rfl, rfl, rfl, rfl, trivial⟩ (by (repeat' (first | exact SubM.nil _ | refine SubM.cons rfl ?_ | refine SubM.app ?_))) ?_
        · simp only [h1, h2, h14, h15, decide_true, decide_false, Bool.true_and, Bool.false_and, Bool.and_true, Bool.and_false, Bool.not_true, Bool.not_false, Bool.true_or, Bool.false_or, Bool.or_true, Bool.or_false, ne_eq, not_true_eq_false, not_false_eq_true, Bool.and_self]
       ·
        refine LM.drop (t := 77) rfl rfl rfl ?_
        refine LM.drop (t := 77) rfl rfl rfl ?_
        refine LM.drop (t := 77) rfl rfl rfl ?_
        refine LM.drop (t := 77) rfl rfl rfl ?_
        refine LM.drop (t := 77) rfl rfl rfl ?_
        refine LM.drop (t := 77) rfl rfl rfl ?_
        refine LM.drop (t := 77) rfl rfl rfl ?_
        refine LM.val (ov_pickF rfl rfl) ?_
        refine LM.nil ?_
        refine QM.sub (e' := [(1, _), (2, _), (3, _), (8, _), (9, _), (10, _), (85, _)]) ⟨rfl, rfl, rfl, rfl, rfl, rfl, rfl, trivial⟩ ?_
        refine QM.meetK (_) ⟨(by first | rfl | exact lk rfl (by congr 1; omega) | exact lk rfl (by simp)), rfl, rfl, rfl, rfl, rfl, rfl, trivial⟩ (by (repeat' (first | exact SubM.nil _ | refine SubM.cons rfl ?_ | refine SubM.app ?_))) ?_
        · simp only [h1, h2, h14, h15, decide_true, decide_false, Bool.true_and, Bool.false_and, Bool.and_true, Bool.and_false, Bool.not_true, Bool.not_false, Bool.true_or, Bool.false_or, Bool.or_true, Bool.or_false, ne_eq, not_true_eq_false, not_false_eq_true, Bool.and_self]
      ·
       rintro q3 hq3
       change QM _ _ _ _ _ (oB b10 (xs.getD i default) :: pB b3 fv ad n cap :: []) _ _ _
       refine QM.then ?_
       first | refine wpM.condD rfl (fun h16 => ?_) (fun h16 => ?_) | refine wpM.condB rfl (fun h16 => ?_) (fun h16 => ?_)
       ·
        refine wpM.seq ?_
        refine wpM.region ?_
        refine LM.val (ov_move rfl) ?_
        refine LM.val (ov_assign rfl) ?_
        refine LM.val (ov_assign rfl) ?_
        refine LM.nil ?_
        refine QM.sub (e' := [(6, _), (7, _)]) ⟨rfl, rfl, trivial⟩ ?_
        refine QM.then ?_
        refine wpM.ret ?_
        refine QM.then_ret ?_
        refine QM.block_ret ?_
        refine QM.then_ret ?_
        refine QM.then_ret ?_
        refine QM.block_ret ?_
        refine QM.then_ret ?_
        refine QM.leave (.inl rfl) [.tmp 6, .tmp 7] Tryz.results46 rfl ?_
        intro w' hm' hc' hg'
        exact ⟨(ckV_at (e := 1) hm0 h0 (by omega) (by simp only [fitsO, ← hn, ← hn2, ← hq, ← hq3]; simp only [h1, h2, h14, h16, decide_true, decide_false, Bool.true_and, Bool.false_and, Bool.and_true, Bool.and_false, Bool.not_true, Bool.not_false, Bool.true_or, Bool.false_or, Bool.or_true, Bool.or_false, ne_eq, not_true_eq_false, not_false_eq_true, Bool.and_self, if_true, if_false, Bool.false_eq_true]) (by decide)).symm, hc'⟩
       ·
        refine wpM.skip ?_
        refine QM.then ?_
        refine wpM.seq ?_
        refine wpM.region ?_
        refine LM.rd (om_ldW Tryz.isAgg135 Tryz.sizeOf135 rfl rfl) ?_
        refine LM.callE (oc_call (enters_fn Tryz.func91 (by kernel_rfl) rfl) rfl) (fun w hm hc hg => rtakes_spec _ w) ?_
        refine LM.nil ?_
        refine QM.sub (e' := [(1, _), (2, _), (3, _), (8, _), (9, _), (10, _), (88, _)]) ⟨rfl, rfl, rfl, rfl, rfl, rfl, rfl, trivial⟩ ?_
        refine QM.then ?_
        first | refine wpM.condD rfl (fun h17 => ?_) (fun h17 => ?_) | refine wpM.condB rfl (fun h17 => ?_) (fun h17 => ?_)
        ·
         have hlt := fits_lt2 hq h14 h17
         refine wpM.seq ?_
         refine wpM.region ?_
         refine LM.rd (om_ldW Tryz.isAgg87 Tryz.sizeOf87 rfl rfl) ?_
         refine LM.val (ov_move rfl) ?_
         refine LM.callE (oc_call (enters_fn Tryz.func92 (by kernel_rfl) rfl) rfl) (fun w hm hc hg => rsection_spec i w hn (hl.ext hc) hsm (by omega)) ?_
         refine LM.alloc Tryz.zeroValue140 rfl (fun b11 hb11 => ?_)
         refine LM.stW Tryz.sizeOf140 rfl rfl rfl rfl (by first | rfl | decide | (simp; done)) (fun hlt => absurd hlt (by omega)) ?_
         refine LM.nil ?_
         refine QM.sub (e' := [(1, _), (2, _), (3, _), (8, _), (9, _), (10, _), (11, _)]) ⟨rfl, rfl, rfl, rfl, rfl, rfl, rfl, trivial⟩ ?_
         refine QM.then ?_
         refine wpM.seq ?_
         refine wpM.joinK (α := Bool) (fun q4 => [(117, .bool q4)]) [(1, _), (2, _), (3, _), (8, _), (9, _)] (fun q4 => pB b3 fv ad n cap :: []) (fun q4 => q4 = (decide ((secO xs i).2 < 1) || decide ((secO xs i).2 > (ls.getD (xs.getD i default).a.toNat default).cr) || fv && decide (((i + 1 + (secO xs i).1 : Nat) : Int) = n))) ⟨rfl, rfl, rfl, rfl, rfl, trivial⟩ ?_ ?_
         ·
          refine wpM.draw [(0, 0), (1, 1), (2, 0), (3, 0), (4, 0), (5, 1), (6, 0), (7, 0), (8, 1), (9, 0), (10, 0), (11, 1), (12, 0), (13, 0), (14, 0), (15, 0), (16, 1), (17, 0), (18, 0), (19, 1), (20, 0), (21, 1), (22, 0), (23, 0), (24, 0), (25, 0)] (by kernel_rfl) (by kernel_rfl) ?_
          refine LD.val rfl rfl (ov_field Tryz.underlying140 rfl Tryz.sizeOf3 rfl (k := 3) rfl rfl) ?_
          first | refine LD.rd rfl rfl (om_ld Tryz.isAgg3 rfl rfl) ?_
          refine LD.val rfl rfl (ov_lss rfl rfl) ?_
          refine LD.val rfl rfl (ov_move rfl) ?_
          refine LD.splitD (t := 95) rfl (fun h18 => ?_) (fun h18 => ?_)
          ·
           refine LD.drop rfl rfl ⟨95, _, rfl, rfl, rfl⟩ ?_
           refine LD.drop rfl rfl ⟨95, _, rfl, rfl, rfl⟩ ?_
           refine LD.drop rfl rfl ⟨95, _, rfl, rfl, rfl⟩ ?_
           refine LD.drop rfl rfl ⟨95, _, rfl, rfl, rfl⟩ ?_
           refine LD.drop rfl rfl ⟨95, _, rfl, rfl, rfl⟩ ?_
           refine LD.drop rfl rfl ⟨95, _, rfl, rfl, rfl⟩ ?_
           refine LD.drop rfl rfl ⟨95, _, rfl, rfl, rfl⟩ ?_
           refine LD.drop rfl rfl ⟨95, _, rfl, rfl, rfl⟩ ?_
           refine LD.drop rfl rfl ⟨95, _, rfl, rfl, rfl⟩ ?_
           refine LD.val rfl rfl (ov_pickT rfl rfl) ?_
           refine LD.val rfl rfl (ov_move rfl) ?_
           refine LD.drop rfl rfl ⟨106, _, rfl, rfl, rfl⟩ ?_
           refine LD.drop rfl rfl ⟨106, _, rfl, rfl, rfl⟩ ?_
           refine LD.dropU rfl rfl ⟨106, _, rfl, rfl, rfl⟩ ?_
           refine LD.dropX rfl rfl rfl rfl ?_
           refine LD.dropX rfl rfl rfl rfl ?_
           refine LD.dropX rfl rfl rfl rfl ?_
           refine LD.dropX rfl rfl rfl rfl ?_
           refine LD.dropX rfl rfl rfl rfl ?_
           refine LD.dropX rfl rfl rfl rfl ?_
           refine LD.drop rfl rfl ⟨106, _, rfl, rfl, rfl⟩ ?_
           refine LD.val rfl rfl (ov_pickT rfl rfl) ?_
           refine LD.nil ?_
           refine QM.sub (e' := [(1, _), (2, _), (3, _), (8, _), (9, _), (117, _)]) ⟨rfl, rfl, rfl, rfl, rfl, rfl, trivial⟩ ?_
           refine QM.meetK (_) ⟨(by first | rfl | exact lk rfl (by congr 1; omega) | exact lk rfl (by simp)), rfl, rfl, rfl, rfl, rfl, trivial⟩ (by (repeat' (first | exact SubM.nil _ | refine SubM.cons rfl ?_ | refine SubM.app ?_))) ?_
           · simp only [h1, h2, h14, h16, h17, h18, decide_true, decide_false, Bool.true_and, Bool.false_and, Bool.and_true, Bool.and_false, Bool.not_true, Bool.not_false, Bool.true_or, Bool.false_or, Bool.or_true, Bool.or_false, ne_eq, not_true_eq_false, not_false_eq_true, Bool.and_self]
          ·
           refine LD.val rfl ⟨95, _, rfl, rfl, rfl⟩ (ov_field Tryz.underlying140 rfl Tryz.sizeOf3 rfl (k := 3) rfl rfl) ?_
           first | refine LD.rd rfl ⟨95, _, rfl, rfl, rfl⟩ (om_ld Tryz.isAgg3 rfl rfl) ?_
           refine LD.val rfl ⟨95, _, rfl, rfl, rfl⟩ (ov_move rfl) ?_
           refine LD.val rfl ⟨95, _, rfl, rfl, rfl⟩ (ov_field Tryz.underlying135 rfl Tryz.sizeOf3 rfl (k := 1) rfl rfl) ?_
           first | refine LD.rd rfl ⟨95, _, rfl, rfl, rfl⟩ (om_ld Tryz.isAgg3 rfl rfl) ?_
           first | refine LD.val rfl ⟨95, _, rfl, rfl, rfl⟩ (ov_idxSN (by first | exact Sr.spt (by assumption) | exact Sl.spt (by assumption)) Tryz.underlying27 Tryz.sizeOf63 rfl rfl (by omega)) ?_ | refine LD.val rfl ⟨95, _, rfl, rfl, rfl⟩ (ov_idxS (by first | exact Sr.spt (by assumption) | exact Sl.spt (by assumption)) Tryz.underlying27 Tryz.sizeOf63 rfl rfl (by omega)) ?_ | refine LD.val rfl ⟨95, _, rfl, rfl, rfl⟩ (ov_idx Tryz.underlying27 Tryz.sizeOf63 rfl rfl (by omega)) ?_
           refine LD.val rfl ⟨95, _, rfl, rfl, rfl⟩ (ov_field Tryz.underlying63 rfl Tryz.sizeOf3 rfl (k := 2) rfl rfl) ?_
           first | refine LD.rd rfl ⟨95, _, rfl, rfl, rfl⟩ (om_slE (j := 2) (by assumption) (by intro _; rfl) Tryz.isAgg3 rfl rfl (by exact getq default (by first | omega | (simp only [List.length_set, List.length_append, List.length_cons, List.length_nil]; omega))) rfl (by rfl)) ?_ | refine LD.rdC rfl ⟨95, _, rfl, rfl, rfl⟩ (om_srE (j := 2) (by assumption) Tryz.isAgg3 rfl rfl (by exact getq default (by first | omega | (simp only [List.length_set, List.length_append, List.length_cons, List.length_nil]; omega))) (by rfl) (by rfl) id) ?_ | refine LD.rd rfl ⟨95, _, rfl, rfl, rfl⟩ (om_ld Tryz.isAgg3 rfl rfl) ?_
           refine LD.val rfl ⟨95, _, rfl, rfl, rfl⟩ (ov_gtr rfl rfl) ?_
           refine LD.val rfl rfl (ov_pickF rfl rfl) ?_
           refine LD.val rfl rfl (ov_move rfl) ?_
           refine LD.splitD (t := 106) rfl (fun h19 => ?_) (fun h19 => ?_)
           ·
            refine LD.drop rfl rfl ⟨106, _, rfl, rfl, rfl⟩ ?_
            refine LD.drop rfl rfl ⟨106, _, rfl, rfl, rfl⟩ ?_
            refine LD.dropU rfl rfl ⟨106, _, rfl, rfl, rfl⟩ ?_
            refine LD.dropX rfl rfl rfl rfl ?_
            refine LD.dropX rfl rfl rfl rfl ?_
            refine LD.dropX rfl rfl rfl rfl ?_
            refine LD.dropX rfl rfl rfl rfl ?_
            refine LD.dropX rfl rfl rfl rfl ?_
            refine LD.dropX rfl rfl rfl rfl ?_
            refine LD.drop rfl rfl ⟨106, _, rfl, rfl, rfl⟩ ?_
            refine LD.val rfl rfl (ov_pickT rfl rfl) ?_
            refine LD.nil ?_
            refine QM.sub (e' := [(1, _), (2, _), (3, _), (8, _), (9, _), (117, _)]) ⟨rfl, rfl, rfl, rfl, rfl, rfl, trivial⟩ ?_
            refine QM.meetK (_) ⟨(by first | rfl | exact lk rfl (by congr 1; omega) | exact lk rfl (by simp)), rfl, rfl, rfl, rfl, rfl, trivial⟩ (by (repeat' (first | exact SubM.nil _ | refine SubM.cons rfl ?_ | refine SubM.app ?_))) ?_
            · simp only [h1, h2, h14, h16, h17, h18, h19, decide_true, decide_false, Bool.true_and, Bool.false_and, Bool.and_true, Bool.and_false, Bool.not_true, Bool.not_false, Bool.true_or, Bool.false_or, Bool.or_true, Bool.or_false, ne_eq, not_true_eq_false, not_false_eq_true, Bool.and_self]
           ·
            refine LD.val rfl ⟨106, _, rfl, rfl, rfl⟩ (ov_field Tryz.underlying87 rfl Tryz.sizeOf4 rfl (k := 0) rfl rfl) ?_
            first | refine LD.rd rfl ⟨106, _, rfl, rfl, rfl⟩ (om_ld Tryz.isAgg4 rfl rfl) ?_
            refine LD.val rfl ⟨106, _, rfl, rfl, rfl⟩ (ov_move rfl) ?_
            first | refine LD.splitD (t := 109) rfl (fun h20 => ?_) (fun h20 => ?_) | refine LD.splitB (t := 109) rfl (fun h20 => ?_) (fun h20 => ?_)
            ·
             refine LD.val rfl ⟨109, _, rfl, rfl, rfl⟩ (ov_field Tryz.underlying140 rfl Tryz.sizeOf3 rfl (k := 1) rfl rfl) ?_
             first | refine LD.rd rfl ⟨109, _, rfl, rfl, rfl⟩ (om_ld Tryz.isAgg3 rfl rfl) ?_
             refine LD.val rfl ⟨109, _, rfl, rfl, rfl⟩ (ov_field Tryz.underlying87 rfl Tryz.sizeOf85 rfl (k := 1) rfl rfl) ?_
             first | refine LD.rd rfl ⟨109, _, rfl, rfl, rfl⟩ (om_ld Tryz.isAgg85 rfl rfl) ?_
             refine LD.val rfl ⟨109, _, rfl, rfl, rfl⟩ (ov_len Tryz.underlying85 rfl) ?_
             refine LD.val rfl ⟨109, _, rfl, rfl, rfl⟩ (ov_eql rfl rfl) ?_
             refine LD.val rfl ⟨106, _, rfl, rfl, rfl⟩ (ov_pickT rfl rfl) ?_
             refine LD.val rfl rfl (ov_pickF rfl rfl) ?_
             refine LD.nil ?_
             refine QM.sub (e' := [(1, _), (2, _), (3, _), (8, _), (9, _), (117, _)]) ⟨rfl, rfl, rfl, rfl, rfl, rfl, trivial⟩ ?_
             refine QM.meetK (_) ⟨(by first | rfl | exact lk rfl (by congr 1; omega) | exact lk rfl (by simp)), rfl, rfl, rfl, rfl, rfl, trivial⟩ (by (repeat' (first | exact SubM.nil _ | refine SubM.cons rfl ?_ | refine SubM.app ?_))) ?_
             · simp only [h1, h2, h14, h16, h17, h18, h19, h20, decide_true, decide_false, Bool.true_and, Bool.false_and, Bool.and_true, Bool.and_false, Bool.not_true, Bool.not_false, Bool.true_or, Bool.false_or, Bool.or_true, Bool.or_false, ne_eq, not_true_eq_false, not_false_eq_true, Bool.and_self]
            ·
             refine LD.drop rfl rfl ⟨109, _, rfl, rfl, rfl⟩ ?_
             refine LD.drop rfl rfl ⟨109, _, rfl, rfl, rfl⟩ ?_
             refine LD.drop rfl rfl ⟨109, _, rfl, rfl, rfl⟩ ?_
             refine LD.drop rfl rfl ⟨109, _, rfl, rfl, rfl⟩ ?_
             refine LD.drop rfl rfl ⟨109, _, rfl, rfl, rfl⟩ ?_
             refine LD.drop rfl rfl ⟨109, _, rfl, rfl, rfl⟩ ?_
             refine LD.val rfl ⟨106, _, rfl, rfl, rfl⟩ (ov_pickF rfl rfl) ?_
             refine LD.val rfl rfl (ov_pickF rfl rfl) ?_
             refine LD.nil ?_
             refine QM.sub (e' := [(1, _), (2, _), (3, _), (8, _), (9, _), (117, _)]) ⟨rfl, rfl, rfl, rfl, rfl, rfl, trivial⟩ ?_
             refine QM.meetK (_) ⟨(by first | rfl | exact lk rfl (by congr 1; omega) | exact lk rfl (by simp)), rfl, rfl, rfl, rfl, rfl, trivial⟩ (by (repeat' (first | exact SubM.nil _ | refine SubM.cons rfl ?_ | refine SubM.app ?_))) ?_
             · simp only [h1, h2, h14, h16, h17, h18, h19, h20, decide_true, decide_false, Bool.true_and, Bool.false_and, Bool.and_true, Bool.and_false, Bool.not_true, Bool.not_false, Bool.true_or, Bool.false_or, Bool.or_true, Bool.or_false, ne_eq, not_true_eq_false, not_false_eq_true, Bool.and_self]
         ·
          rintro q4 hq4
          change QM _ _ _ _ _ (pB b3 fv ad n cap :: []) _ _ _
          refine QM.then ?_
          first | refine wpM.condD rfl (fun h21 => ?_) (fun h21 => ?_) | refine wpM.condB rfl (fun h21 => ?_) (fun h21 => ?_)
          ·
           refine wpM.seq ?_
           refine wpM.region ?_
           refine LM.val (ov_move rfl) ?_
           refine LM.val (ov_assign rfl) ?_
           refine LM.val (ov_assign rfl) ?_
           refine LM.nil ?_
           refine QM.sub (e' := [(6, _), (7, _)]) ⟨rfl, rfl, trivial⟩ ?_
           refine QM.then ?_
           refine wpM.ret ?_
           refine QM.block_ret ?_
           refine QM.then_ret ?_
           refine QM.then_ret ?_
           refine QM.block_ret ?_
           refine QM.then_ret ?_
           refine QM.leave (.inl rfl) [.tmp 6, .tmp 7] Tryz.results46 rfl ?_
           intro w' hm' hc' hg'
           exact ⟨(ckV_at (e := 13) hm0 h0 (by omega) (by simp only [fitsO, ← hn, ← hn2, ← hq, ← hq3, ← hq4]; simp only [h1, h2, h14, h16, h17, h21, decide_true, decide_false, Bool.true_and, Bool.false_and, Bool.and_true, Bool.and_false, Bool.not_true, Bool.not_false, Bool.true_or, Bool.false_or, Bool.or_true, Bool.or_false, ne_eq, not_true_eq_false, not_false_eq_true, Bool.and_self, if_true, if_false, Bool.false_eq_true]) (by decide)).symm, hc'⟩
          ·
           refine wpM.skip ?_
           refine QM.block_normal ?_
           refine QM.then ?_
           refine wpM.region ?_
           refine LM.val (ov_move rfl) ?_
           refine LM.val (ov_add64 rfl rfl (by omega)) ?_
           refine LM.val (ov_assign rfl) ?_
           refine LM.nil ?_
           refine QM.sub (e' := [(1, _), (2, _), (3, _), (8, _), (9, _)]) ⟨rfl, rfl, rfl, rfl, rfl, trivial⟩ ?_
           refine QM.againK (i + 1) ⟨(by first | rfl | exact lk rfl (by congr 1; omega) | exact lk rfl (by simp)), (by first | rfl | exact lk rfl (by congr 1; omega) | exact lk rfl (by simp)), rfl, rfl, rfl, trivial⟩ (by (repeat' (first | exact SubM.nil _ | refine SubM.cons rfl ?_ | refine SubM.app ?_))) (fun _ h => h) ?_ ?_
           · exact ⟨by omega, before_succ h0 (by simp only [fitsO, ← hn, ← hn2, ← hq, ← hq3, ← hq4]; simp only [h1, h2, h14, h16, h17, h21, decide_true, decide_false, Bool.true_and, Bool.false_and, Bool.and_true, Bool.and_false, Bool.not_true, Bool.not_false, Bool.true_or, Bool.false_or, Bool.or_true, Bool.or_false, ne_eq, not_true_eq_false, not_false_eq_true, Bool.and_self, if_true, if_false, ite_true, Bool.false_eq_true])⟩
           · omega
        ·
         refine wpM.skip ?_
         refine QM.block_normal ?_
         refine QM.then ?_
         refine wpM.region ?_
         refine LM.val (ov_move rfl) ?_
         refine LM.val (ov_add64 rfl rfl (by omega)) ?_
         refine LM.val (ov_assign rfl) ?_
         refine LM.nil ?_
         refine QM.sub (e' := [(1, _), (2, _), (3, _), (8, _), (9, _)]) ⟨rfl, rfl, rfl, rfl, rfl, trivial⟩ ?_
         refine QM.againK (i + 1) ⟨(by first | rfl | exact lk rfl (by congr 1; omega) | exact lk rfl (by simp)), (by first | rfl | exact lk rfl (by congr 1; omega) | exact lk rfl (by simp)), rfl, rfl, rfl, trivial⟩ (by (repeat' (first | exact SubM.nil _ | refine SubM.cons rfl ?_ | refine SubM.app ?_))) (fun _ h => h) ?_ ?_
         · exact ⟨by omega, before_succ h0 (by simp only [fitsO, ← hn, ← hn2, ← hq, ← hq3]; simp only [h1, h2, h14, h16, h17, decide_true, decide_false, Bool.true_and, Bool.false_and, Bool.and_true, Bool.and_false, Bool.not_true, Bool.not_false, Bool.true_or, Bool.false_or, Bool.or_true, Bool.or_false, ne_eq, not_true_eq_false, not_false_eq_true, Bool.and_self, if_true, if_false, ite_true, Bool.false_eq_true])⟩
         · omega
  ·
   refine wpM.exit ?_
   refine QM.then_exit ?_
   refine QM.then_exit ?_
   refine QM.block_hit ?_
   refine QM.then ?_
   refine wpM.seq ?_
   refine wpM.seq ?_
   refine wpM.region ?_
   refine LM.val (ov_field Tryz.underlying87 rfl Tryz.sizeOf4 rfl (k := 0) rfl rfl) ?_
   first | refine LM.rd (om_ld Tryz.isAgg4 rfl rfl) ?_
   refine LM.val (ov_move rfl) ?_
   first | refine LM.splitD (t := 121) rfl (fun h22 => ?_) (fun h22 => ?_) | refine LM.splitB (t := 121) rfl (fun h22 => ?_) (fun h22 => ?_)
   ·
    refine LM.strip (t := 121) rfl rfl rfl ?_
    refine LM.val (ov_move rfl) ?_
    refine LM.strip (t := 121) rfl rfl rfl ?_
    first | refine LM.val (ov_notD rfl) ?_ | refine LM.val (ov_not rfl) ?_
    refine LM.val (ov_pickT rfl rfl) ?_
    refine LM.nil ?_
    refine QM.sub (e' := [(124, _)]) ⟨rfl, trivial⟩ ?_
    refine QM.then ?_
    first | refine wpM.condD rfl (fun h23 => ?_) (fun h23 => ?_) | refine wpM.condB rfl (fun h23 => ?_) (fun h23 => ?_)
    ·
     refine wpM.seq ?_
     refine wpM.region ?_
     refine LM.val (ov_assign rfl) ?_
     refine LM.val (ov_assign rfl) ?_
     refine LM.nil ?_
     refine QM.sub (e' := [(6, _), (7, _)]) ⟨rfl, rfl, trivial⟩ ?_
     refine QM.then ?_
     refine wpM.ret ?_
     refine QM.then_ret ?_
     refine QM.leave (.inl rfl) [.tmp 6, .tmp 7] Tryz.results46 rfl ?_
     intro w' hm' hc' hg'
     have hil : i = xs.length := (by omega); subst hil; rw [List.take_length] at h23; exact ⟨(ckV_end (b := true) hm0 h0 (by rw [h22, h23]; rfl)).symm, hc'⟩
    ·
     refine wpM.skip ?_
     refine QM.then ?_
     refine wpM.seq ?_
     refine wpM.region ?_
     refine LM.val (ov_assign rfl) ?_
     refine LM.val (ov_assign rfl) ?_
     refine LM.nil ?_
     refine QM.sub (e' := [(6, _), (7, _)]) ⟨rfl, rfl, trivial⟩ ?_
     refine QM.then ?_
     refine wpM.ret ?_
     refine QM.leave (.inl rfl) [.tmp 6, .tmp 7] Tryz.results46 rfl ?_
     intro w' hm' hc' hg'
     have hil : i = xs.length := (by omega); subst hil; rw [List.take_length] at h23; exact ⟨(ckV_end (b := false) hm0 h0 (by rw [h22, h23]; rfl)).symm, hc'⟩
   ·
    refine LM.drop (t := 121) rfl rfl rfl ?_
    refine LM.drop (t := 121) rfl rfl rfl ?_
    refine LM.val (ov_pickF rfl rfl) ?_
    refine LM.nil ?_
    refine QM.sub (e' := [(124, _)]) ⟨rfl, trivial⟩ ?_
    refine QM.then ?_
    refine wpM.condF rfl ?_
    refine wpM.skip ?_
    refine QM.then ?_
    refine wpM.seq ?_
    refine wpM.region ?_
    refine LM.val (ov_assign rfl) ?_
    refine LM.val (ov_assign rfl) ?_
    refine LM.nil ?_
    refine QM.sub (e' := [(6, _), (7, _)]) ⟨rfl, rfl, trivial⟩ ?_
    refine QM.then ?_
    refine wpM.ret ?_
    refine QM.leave (.inl rfl) [.tmp 6, .tmp 7] Tryz.results46 rfl ?_
    intro w' hm' hc' hg'
    have hil : i = xs.length := (by omega); subst hil; exact ⟨(ckV_end (b := false) hm0 h0 (by rw [h22]; rfl)).symm, hc'⟩

end Go.Eng
set_option linter.unusedVariables false
set_option linter.unusedSimpArgs false
namespace Go.Eng
open Go Go.Proofs Go.RowKit

/-- a program as it lies -/
structure PgV where
  c : PgC
  ad : Option Addr
  n : Nat
  cap : Nat
instance : Inhabited PgV := ⟨⟨default, none, 0, 0⟩⟩
def fPg (p : PgV) : List Value := [.bool p.c.fv, .slice p.ad p.n p.cap]
/-- its ops are there -/
def PgV.In (p : PgV) (w : World) : Prop := p.n = p.c.xs.length ∧ Sr fO 3 p.c.xs (.slice p.ad p.n p.cap) w
theorem PgV.In.ext {p : PgV} {w w' : World} (h : p.In w) (k : Ext w w') : p.In w' := ⟨h.1, h.2.ext k⟩
def PgsIn (ps : List PgV) (w : World) : Prop := ∀ p ∈ ps, p.In w
theorem PgsIn.ext {ps : List PgV} {w w' : World} (h : PgsIn ps w) (k : Ext w w') : PgsIn ps w' := fun p hp => (h p hp).ext k
/-- a setup as it lies -/
structure StV where
  cr : Int
  gr : Int
  gs : List Int
  ga : Option Addr
  gn : Nat
  gc : Nat
  ls : List CLk
  la : Option Addr
  ln : Nat
  lc : Nat
  ps : List PgV
  pa : Option Addr
  pn : Nat
  pc : Nat
instance : Inhabited StV := ⟨⟨0, 0, [], none, 0, 0, [], none, 0, 0, [], none, 0, 0⟩⟩
abbrev StV.val (s : StV) : Value := .agg #[.int .i64 s.cr, .int .i64 s.gr, .slice s.ga s.gn s.gc, .slice s.la s.ln s.lc, .slice s.pa s.pn s.pc]
def StV.C (s : StV) : StC := ⟨s.cr, s.gr, s.gs, s.ls, s.ps.map PgV.c⟩
structure StV.In (s : StV) (w : World) : Prop where
  hgn : s.gn = s.gs.length
  hg : Sr fI 1 s.gs (.slice s.ga s.gn s.gc) w
  hln : s.ln = s.ls.length
  hl : Sr fL 5 s.ls (.slice s.la s.ln s.lc) w
  hpn : s.pn = s.ps.length
  hp : Sr fPg 2 s.ps (.slice s.pa s.pn s.pc) w
  ops : PgsIn s.ps w
theorem StV.In.ext {s : StV} {w w' : World} (h : s.In w) (k : Ext w w') : s.In w' := ⟨h.hgn, h.hg.ext k, h.hln, h.hl.ext k, h.hpn, h.hp.ext k, h.ops.ext k⟩
theorem map_getD {ps : List PgV} {i : Nat} : (ps.map PgV.c).getD i default = (ps.getD i default).c := by
  rw [List.getD_eq_getElem?_getD, List.getD_eq_getElem?_getD, List.getElem?_map]; cases ps[i]? <;> rfl
abbrev qO (ad : Option Addr) (n cap : Nat) (i : Nat) (e : Int) : Obj := .cells #[.slice ad n cap, .int .i64 (i : Nat), .int .i64 e] 80 (0, 0)
abbrev qB (b : Nat) (ad : Option Addr) (n cap : Nat) (i : Nat) (e : Int) : Nat × Obj := (b, qO ad n cap i e)
set_option maxRecDepth 100000 in
set_option maxHeartbeats 1000000 in
theorem qis_spec {ws : List Wrd} (b : Nat) {ad : Option Addr} {n cap : Nat} (i : Nat) (e k : Int) (t : List UInt8) (w : World) (hn : n = ws.length) (hl : Sr fW 4 ws (.slice ad n cap) w) (hM : Mem w [qB b ad n cap i e]) : Ret Tryz.prog 42 #[.pointer (some ⟨b, 0, none⟩), .int .i64 k, vS t] w (fun v w' => v = .bool (isE ws i e k t) ∧ Ext w w') := by
 refine Ret.enterM (l := [.pointer (some ⟨b, 0, none⟩), .int .i64 k, vS t]) Tryz.func42 rfl Tryz.ntmps42 rfl ([qB b ad n cap i e]) (no) hM ?_
 refine wpM.seq ?_
 refine wpM.region ?_
 refine LM.val (ov_assign rfl) ?_
 refine LM.nil ?_
 refine QM.sub (e' := [(0, _), (1, _), (2, _)]) ⟨rfl, rfl, rfl, trivial⟩ ?_
 refine QM.then ?_
 refine wpM.seq ?_
 refine wpM.draw [(0, 0), (1, 0), (2, 0), (3, 1), (4, 0), (5, 0), (6, 0), (7, 0), (8, 0), (9, 1), (10, 0), (11, 0), (12, 0), (13, 1), (14, 0), (15, 0), (16, 0), (17, 0), (18, 0), (19, 0), (20, 0), (21, 1), (22, 0), (23, 0), (24, 0), (25, 1), (26, 0), (27, 0), (28, 1), (29, 0), (30, 0), (31, 0), (32, 0), (33, 0), (34, 0), (35, 0), (36, 1), (37, 0), (38, 0), (39, 0), (40, 1), (41, 0), (42, 0), (43, 1), (44, 0), (45, 0), (46, 0), (47, 0)] (by kernel_rfl) (by kernel_rfl) ?_
 refine LD.val rfl rfl (ov_move rfl) ?_
 refine LD.val rfl rfl (ov_nilCheck rfl) ?_
 refine LD.val rfl rfl (ov_field Tryz.underlying80 rfl Tryz.sizeOf3 rfl (k := 2) rfl rfl) ?_
 first | refine LD.rd rfl rfl (om_ld Tryz.isAgg3 rfl rfl) ?_
 refine LD.val rfl rfl (ov_eql rfl rfl) ?_
 refine LD.val rfl rfl (ov_move rfl) ?_
 refine LD.splitD (t := 12) rfl (fun h1 => ?_) (fun h1 => ?_)
 ·
  refine LD.val rfl ⟨12, _, rfl, rfl, rfl⟩ (ov_move rfl) ?_
  refine LD.val rfl ⟨12, _, rfl, rfl, rfl⟩ (ov_nilCheck rfl) ?_
  refine LD.val rfl ⟨12, _, rfl, rfl, rfl⟩ (ov_field Tryz.underlying80 rfl Tryz.sizeOf3 rfl (k := 1) rfl rfl) ?_
  first | refine LD.rd rfl ⟨12, _, rfl, rfl, rfl⟩ (om_ld Tryz.isAgg3 rfl rfl) ?_
  refine LD.val rfl ⟨12, _, rfl, rfl, rfl⟩ (ov_move rfl) ?_
  refine LD.val rfl ⟨12, _, rfl, rfl, rfl⟩ (ov_nilCheck rfl) ?_
  refine LD.val rfl ⟨12, _, rfl, rfl, rfl⟩ (ov_field Tryz.underlying80 rfl Tryz.sizeOf23 rfl (k := 0) rfl rfl) ?_
  first | refine LD.rd rfl ⟨12, _, rfl, rfl, rfl⟩ (om_ld Tryz.isAgg23 rfl rfl) ?_
  refine LD.val rfl ⟨12, _, rfl, rfl, rfl⟩ (ov_len Tryz.underlying23 rfl) ?_
  refine LD.val rfl ⟨12, _, rfl, rfl, rfl⟩ (ov_lss rfl rfl) ?_
  refine LD.val rfl rfl (ov_pickT rfl rfl) ?_
  refine LD.val rfl rfl (ov_move rfl) ?_
  refine LD.splitD (t := 24) rfl (fun h2 => ?_) (fun h2 => ?_)
  ·
   refine LD.val rfl ⟨24, _, rfl, rfl, rfl⟩ (ov_move rfl) ?_
   refine LD.val rfl ⟨24, _, rfl, rfl, rfl⟩ (ov_nilCheck rfl) ?_
   refine LD.val rfl ⟨24, _, rfl, rfl, rfl⟩ (ov_field Tryz.underlying80 rfl Tryz.sizeOf23 rfl (k := 0) rfl rfl) ?_
   first | refine LD.rd rfl ⟨24, _, rfl, rfl, rfl⟩ (om_ld Tryz.isAgg23 rfl rfl) ?_
   refine LD.val rfl ⟨24, _, rfl, rfl, rfl⟩ (ov_move rfl) ?_
   refine LD.val rfl ⟨24, _, rfl, rfl, rfl⟩ (ov_nilCheck rfl) ?_
   refine LD.val rfl ⟨24, _, rfl, rfl, rfl⟩ (ov_field Tryz.underlying80 rfl Tryz.sizeOf3 rfl (k := 1) rfl rfl) ?_
   first | refine LD.rd rfl ⟨24, _, rfl, rfl, rfl⟩ (om_ld Tryz.isAgg3 rfl rfl) ?_
   refine LD.val rfl ⟨24, _, rfl, rfl, rfl⟩ (ov_idxSN (by first | exact Sr.spt (by assumption) | exact Sl.spt (by assumption)) Tryz.underlying23 Tryz.sizeOf65 rfl rfl (by omega)) ?_
   refine LD.val rfl ⟨24, _, rfl, rfl, rfl⟩ (ov_field Tryz.underlying65 rfl Tryz.sizeOf3 rfl (k := 0) rfl rfl) ?_
   first | refine LD.rd rfl ⟨24, _, rfl, rfl, rfl⟩ (om_slE (j := 0) (by assumption) (by intro _; rfl) Tryz.isAgg3 rfl rfl (by exact getq default (by first | omega | (simp only [List.length_set, List.length_append, List.length_cons, List.length_nil]; omega))) rfl (by rfl)) ?_ | refine LD.rdC rfl ⟨24, _, rfl, rfl, rfl⟩ (om_srE (j := 0) (by assumption) Tryz.isAgg3 rfl rfl (by exact getq default (by first | omega | (simp only [List.length_set, List.length_append, List.length_cons, List.length_nil]; omega))) (by rfl) (by rfl) id) ?_ | refine LD.rd rfl ⟨24, _, rfl, rfl, rfl⟩ (om_ld Tryz.isAgg3 rfl rfl) ?_
   refine LD.val rfl ⟨24, _, rfl, rfl, rfl⟩ (ov_move rfl) ?_
   refine LD.val rfl ⟨24, _, rfl, rfl, rfl⟩ (ov_eql rfl rfl) ?_
   refine LD.val rfl rfl (ov_pickT rfl rfl) ?_
   refine LD.val rfl rfl (ov_move rfl) ?_
   refine LD.splitD (t := 39) rfl (fun h3 => ?_) (fun h3 => ?_)
   ·
    refine LD.val rfl ⟨39, _, rfl, rfl, rfl⟩ (ov_move rfl) ?_
    refine LD.val rfl ⟨39, _, rfl, rfl, rfl⟩ (ov_nilCheck rfl) ?_
    refine LD.val rfl ⟨39, _, rfl, rfl, rfl⟩ (ov_field Tryz.underlying80 rfl Tryz.sizeOf23 rfl (k := 0) rfl rfl) ?_
    first | refine LD.rd rfl ⟨39, _, rfl, rfl, rfl⟩ (om_ld Tryz.isAgg23 rfl rfl) ?_
    refine LD.val rfl ⟨39, _, rfl, rfl, rfl⟩ (ov_move rfl) ?_
    refine LD.val rfl ⟨39, _, rfl, rfl, rfl⟩ (ov_nilCheck rfl) ?_
    refine LD.val rfl ⟨39, _, rfl, rfl, rfl⟩ (ov_field Tryz.underlying80 rfl Tryz.sizeOf3 rfl (k := 1) rfl rfl) ?_
    first | refine LD.rd rfl ⟨39, _, rfl, rfl, rfl⟩ (om_ld Tryz.isAgg3 rfl rfl) ?_
    refine LD.val rfl ⟨39, _, rfl, rfl, rfl⟩ (ov_idxSN (by first | exact Sr.spt (by assumption) | exact Sl.spt (by assumption)) Tryz.underlying23 Tryz.sizeOf65 rfl rfl (by omega)) ?_
    refine LD.val rfl ⟨39, _, rfl, rfl, rfl⟩ (ov_field Tryz.underlying65 rfl Tryz.sizeOf9 rfl (k := 1) rfl rfl) ?_
    first | refine LD.rd rfl ⟨39, _, rfl, rfl, rfl⟩ (om_slE (j := 1) (by assumption) (by intro _; rfl) Tryz.isAgg9 rfl rfl (by exact getq default (by first | omega | (simp only [List.length_set, List.length_append, List.length_cons, List.length_nil]; omega))) rfl (by rfl)) ?_ | refine LD.rdC rfl ⟨39, _, rfl, rfl, rfl⟩ (om_srE (j := 1) (by assumption) Tryz.isAgg9 rfl rfl (by exact getq default (by first | omega | (simp only [List.length_set, List.length_append, List.length_cons, List.length_nil]; omega))) (by rfl) (by rfl) id) ?_ | refine LD.rd rfl ⟨39, _, rfl, rfl, rfl⟩ (om_ld Tryz.isAgg9 rfl rfl) ?_
    refine LD.val rfl ⟨39, _, rfl, rfl, rfl⟩ (ov_move rfl) ?_
    refine LD.val rfl ⟨39, _, rfl, rfl, rfl⟩ (ov_seqlL rfl rfl) ?_
    refine LD.val rfl rfl (ov_pickT rfl rfl) ?_
    refine LD.val rfl rfl (ov_assign rfl) ?_
    refine LD.nil ?_
    refine QM.sub (e' := [(6, _)]) ⟨rfl, trivial⟩ ?_
    refine QM.then ?_
    refine wpM.ret ?_
    refine QM.leave (.inl rfl) [.tmp 6] Tryz.results42 rfl ?_
    intro w' hm' hc' hg'
    refine ⟨?_, hc'⟩; simp only [resV, isE]; rw [decide_eq_true h1, decide_eq_true (show i < ws.length by omega), decide_eq_true h3]; simp only [Bool.true_and]
   ·
    refine LD.drop rfl rfl ⟨39, _, rfl, rfl, rfl⟩ ?_
    refine LD.drop rfl rfl ⟨39, _, rfl, rfl, rfl⟩ ?_
    refine LD.drop rfl rfl ⟨39, _, rfl, rfl, rfl⟩ ?_
    refine LD.drop rfl rfl ⟨39, _, rfl, rfl, rfl⟩ ?_
    refine LD.drop rfl rfl ⟨39, _, rfl, rfl, rfl⟩ ?_
    refine LD.drop rfl rfl ⟨39, _, rfl, rfl, rfl⟩ ?_
    refine LD.drop rfl rfl ⟨39, _, rfl, rfl, rfl⟩ ?_
    refine LD.drop rfl rfl ⟨39, _, rfl, rfl, rfl⟩ ?_
    refine LD.drop rfl rfl ⟨39, _, rfl, rfl, rfl⟩ ?_
    refine LD.drop rfl rfl ⟨39, _, rfl, rfl, rfl⟩ ?_
    refine LD.drop rfl rfl ⟨39, _, rfl, rfl, rfl⟩ ?_
    refine LD.drop rfl rfl ⟨39, _, rfl, rfl, rfl⟩ ?_
    refine LD.drop rfl rfl ⟨39, _, rfl, rfl, rfl⟩ ?_
    refine LD.val rfl rfl (ov_pickF rfl rfl) ?_
    refine LD.val rfl rfl (ov_assign rfl) ?_
    refine LD.nil ?_
    refine QM.sub (e' := [(6, _)]) ⟨rfl, trivial⟩ ?_
    refine QM.then ?_
    refine wpM.ret ?_
    refine QM.leave (.inl rfl) [.tmp 6] Tryz.results42 rfl ?_
    intro w' hm' hc' hg'
    refine ⟨?_, hc'⟩; simp only [resV, isE]; rw [decide_eq_false h3]; simp only [Bool.and_false, Bool.false_and]
  ·
   refine LD.drop rfl rfl ⟨24, _, rfl, rfl, rfl⟩ ?_
   refine LD.drop rfl rfl ⟨24, _, rfl, rfl, rfl⟩ ?_
   refine LD.drop rfl rfl ⟨24, _, rfl, rfl, rfl⟩ ?_
   refine LD.drop rfl rfl ⟨24, _, rfl, rfl, rfl⟩ ?_
   refine LD.drop rfl rfl ⟨24, _, rfl, rfl, rfl⟩ ?_
   refine LD.drop rfl rfl ⟨24, _, rfl, rfl, rfl⟩ ?_
   refine LD.drop rfl rfl ⟨24, _, rfl, rfl, rfl⟩ ?_
   refine LD.drop rfl rfl ⟨24, _, rfl, rfl, rfl⟩ ?_
   refine LD.drop rfl rfl ⟨24, _, rfl, rfl, rfl⟩ ?_
   refine LD.drop rfl rfl ⟨24, _, rfl, rfl, rfl⟩ ?_
   refine LD.drop rfl rfl ⟨24, _, rfl, rfl, rfl⟩ ?_
   refine LD.drop rfl rfl ⟨24, _, rfl, rfl, rfl⟩ ?_
   refine LD.drop rfl rfl ⟨24, _, rfl, rfl, rfl⟩ ?_
   refine LD.val rfl rfl (ov_pickF rfl rfl) ?_
   refine LD.val rfl rfl (ov_move rfl) ?_
   refine LD.drop rfl rfl ⟨39, _, rfl, rfl, rfl⟩ ?_
   refine LD.drop rfl rfl ⟨39, _, rfl, rfl, rfl⟩ ?_
   refine LD.drop rfl rfl ⟨39, _, rfl, rfl, rfl⟩ ?_
   refine LD.drop rfl rfl ⟨39, _, rfl, rfl, rfl⟩ ?_
   refine LD.drop rfl rfl ⟨39, _, rfl, rfl, rfl⟩ ?_
   refine LD.drop rfl rfl ⟨39, _, rfl, rfl, rfl⟩ ?_
   refine LD.drop rfl rfl ⟨39, _, rfl, rfl, rfl⟩ ?_
   refine LD.drop rfl rfl ⟨39, _, rfl, rfl, rfl⟩ ?_
   refine LD.drop rfl rfl ⟨39, _, rfl, rfl, rfl⟩ ?_
   refine LD.drop rfl rfl ⟨39, _, rfl, rfl, rfl⟩ ?_
   refine LD.drop rfl rfl ⟨39, _, rfl, rfl, rfl⟩ ?_
   refine LD.drop rfl rfl ⟨39, _, rfl, rfl, rfl⟩ ?_
   refine LD.drop rfl rfl ⟨39, _, rfl, rfl, rfl⟩ ?_
   refine LD.val rfl rfl (ov_pickF rfl rfl) ?_
   refine LD.val rfl rfl (ov_assign rfl) ?_
   refine LD.nil ?_
   refine QM.sub (e' := [(6, _)]) ⟨rfl, trivial⟩ ?_
   refine QM.then ?_
   refine wpM.ret ?_
   refine QM.leave (.inl rfl) [.tmp 6] Tryz.results42 rfl ?_
   intro w' hm' hc' hg'
   refine ⟨?_, hc'⟩; simp only [resV, isE]; rw [decide_eq_false (show ¬ i < ws.length by omega)]; simp only [Bool.and_false, Bool.false_and]
 ·
  refine LD.drop rfl rfl ⟨12, _, rfl, rfl, rfl⟩ ?_
  refine LD.drop rfl rfl ⟨12, _, rfl, rfl, rfl⟩ ?_
  refine LD.drop rfl rfl ⟨12, _, rfl, rfl, rfl⟩ ?_
  refine LD.drop rfl rfl ⟨12, _, rfl, rfl, rfl⟩ ?_
  refine LD.drop rfl rfl ⟨12, _, rfl, rfl, rfl⟩ ?_
  refine LD.drop rfl rfl ⟨12, _, rfl, rfl, rfl⟩ ?_
  refine LD.drop rfl rfl ⟨12, _, rfl, rfl, rfl⟩ ?_
  refine LD.drop rfl rfl ⟨12, _, rfl, rfl, rfl⟩ ?_
  refine LD.drop rfl rfl ⟨12, _, rfl, rfl, rfl⟩ ?_
  refine LD.drop rfl rfl ⟨12, _, rfl, rfl, rfl⟩ ?_
  refine LD.val rfl rfl (ov_pickF rfl rfl) ?_
  refine LD.val rfl rfl (ov_move rfl) ?_
  refine LD.drop rfl rfl ⟨24, _, rfl, rfl, rfl⟩ ?_
  refine LD.drop rfl rfl ⟨24, _, rfl, rfl, rfl⟩ ?_
  refine LD.drop rfl rfl ⟨24, _, rfl, rfl, rfl⟩ ?_
  refine LD.drop rfl rfl ⟨24, _, rfl, rfl, rfl⟩ ?_
  refine LD.drop rfl rfl ⟨24, _, rfl, rfl, rfl⟩ ?_
  refine LD.drop rfl rfl ⟨24, _, rfl, rfl, rfl⟩ ?_
  refine LD.drop rfl rfl ⟨24, _, rfl, rfl, rfl⟩ ?_
  refine LD.drop rfl rfl ⟨24, _, rfl, rfl, rfl⟩ ?_
  refine LD.drop rfl rfl ⟨24, _, rfl, rfl, rfl⟩ ?_
  refine LD.drop rfl rfl ⟨24, _, rfl, rfl, rfl⟩ ?_
  refine LD.drop rfl rfl ⟨24, _, rfl, rfl, rfl⟩ ?_
  refine LD.drop rfl rfl ⟨24, _, rfl, rfl, rfl⟩ ?_
  refine LD.drop rfl rfl ⟨24, _, rfl, rfl, rfl⟩ ?_
  refine LD.val rfl rfl (ov_pickF rfl rfl) ?_
  refine LD.val rfl rfl (ov_move rfl) ?_
  refine LD.drop rfl rfl ⟨39, _, rfl, rfl, rfl⟩ ?_
  refine LD.drop rfl rfl ⟨39, _, rfl, rfl, rfl⟩ ?_
  refine LD.drop rfl rfl ⟨39, _, rfl, rfl, rfl⟩ ?_
  refine LD.drop rfl rfl ⟨39, _, rfl, rfl, rfl⟩ ?_
  refine LD.drop rfl rfl ⟨39, _, rfl, rfl, rfl⟩ ?_
  refine LD.drop rfl rfl ⟨39, _, rfl, rfl, rfl⟩ ?_
  refine LD.drop rfl rfl ⟨39, _, rfl, rfl, rfl⟩ ?_
  refine LD.drop rfl rfl ⟨39, _, rfl, rfl, rfl⟩ ?_
  refine LD.drop rfl rfl ⟨39, _, rfl, rfl, rfl⟩ ?_
  refine LD.drop rfl rfl ⟨39, _, rfl, rfl, rfl⟩ ?_
  refine LD.drop rfl rfl ⟨39, _, rfl, rfl, rfl⟩ ?_
  refine LD.drop rfl rfl ⟨39, _, rfl, rfl, rfl⟩ ?_
  refine LD.drop rfl rfl ⟨39, _, rfl, rfl, rfl⟩ ?_
  refine LD.val rfl rfl (ov_pickF rfl rfl) ?_
  refine LD.val rfl rfl (ov_assign rfl) ?_
  refine LD.nil ?_
  refine QM.sub (e' := [(6, _)]) ⟨rfl, trivial⟩ ?_
  refine QM.then ?_
  refine wpM.ret ?_
  refine QM.leave (.inl rfl) [.tmp 6] Tryz.results42 rfl ?_
  intro w' hm' hc' hg'
  refine ⟨?_, hc'⟩; simp only [resV, isE]; rw [decide_eq_false h1]; simp only [Bool.and_false, Bool.false_and]

set_option maxRecDepth 100000 in
theorem qneed_spec {ws : List Wrd} (b : Nat) {ad : Option Addr} {n cap : Nat} (i : Nat) (e k : Int) (t : List UInt8) (w : World) (hn : n = ws.length) (hx : ws.length ≤ 1000000000) (hl : Sr fW 4 ws (.slice ad n cap) w) (hab : 0 < ws.length → adB ad ≠ b) (hM : Mem w [qB b ad n cap i e]) : Ret Tryz.prog 41 #[.pointer (some ⟨b, 0, none⟩), .int .i64 k, vS t] w (WrP b (.tuple #[]) (qO ad n cap (needE ws i e k t).1 (needE ws i e k t).2) w) := by
 refine Ret.enterM (l := [.pointer (some ⟨b, 0, none⟩), .int .i64 k, vS t]) Tryz.func41 rfl Tryz.ntmps41 rfl ([qB b ad n cap i e]) ((fun x => x = b)) hM ?_
 refine wpM.seq ?_
 refine wpM.region ?_
 refine LM.val (ov_move rfl) ?_
 refine LM.val (ov_move rfl) ?_
 refine LM.val (ov_move rfl) ?_
 refine LM.callE (oc_call (enters_fn Tryz.func42 (by kernel_rfl) rfl) rfl) (fun w hm hc hg => qis_spec b i e k t w hn (hl.kp hc hab) (hm.pick _)) ?_
 refine LM.nil ?_
 refine QM.sub (e' := [(0, _), (9, _)]) ⟨rfl, rfl, trivial⟩ ?_
 refine QM.then ?_
 first | refine wpM.condD rfl (fun h1 => ?_) (fun h1 => ?_) | refine wpM.condB rfl (fun h1 => ?_) (fun h1 => ?_)
 ·
  have hlt := (isE_lt h1).1
  refine wpM.region ?_
  refine LM.val (ov_move rfl) ?_
  refine LM.val (ov_nilCheck rfl) ?_
  refine LM.val (ov_field Tryz.underlying80 rfl Tryz.sizeOf3 rfl (k := 1) rfl rfl) ?_
  first | refine LM.rd (om_ld Tryz.isAgg3 rfl rfl) ?_
  refine LM.val (ov_add64 rfl rfl (by omega)) ?_
  refine LM.val (ov_nilCheck rfl) ?_
  refine LM.val (ov_field Tryz.underlying80 rfl Tryz.sizeOf3 rfl (k := 1) rfl rfl) ?_
  refine LM.st Tryz.sizeOf3 rfl rfl rfl (by first | decide | exact Nat.le_of_ble_eq_true rfl | (simp; done) | (simp; omega)) rfl (fun _ => rfl) ?_
  refine LM.nil ?_
  refine QM.sub (e' := []) trivial ?_
  refine QM.leave (.inr rfl) [] Tryz.results41 rfl ?_
  intro w' hm' hc' hg'
  refine ⟨rfl, hc', ?_⟩; have h3 := hm'.at b; unfold needE; rw [if_pos h1]; exact h3
 ·
  refine wpM.seq ?_
  refine wpM.region ?_
  refine LM.val (ov_move rfl) ?_
  refine LM.val (ov_nilCheck rfl) ?_
  refine LM.val (ov_field Tryz.underlying80 rfl Tryz.sizeOf3 rfl (k := 2) rfl rfl) ?_
  first | refine LM.rd (om_ld Tryz.isAgg3 rfl rfl) ?_
  refine LM.val (ov_eql rfl rfl) ?_
  refine LM.nil ?_
  refine QM.sub (e' := [(0, _), (21, _)]) ⟨rfl, rfl, trivial⟩ ?_
  refine QM.then ?_
  refine wpM.condD rfl (fun h2 => ?_) (fun h2 => ?_)
  ·
   refine wpM.region ?_
   refine LM.val (ov_move rfl) ?_
   refine LM.val (ov_nilCheck rfl) ?_
   refine LM.val (ov_field Tryz.underlying80 rfl Tryz.sizeOf3 rfl (k := 2) rfl rfl) ?_
   refine LM.st Tryz.sizeOf3 rfl rfl rfl (by first | decide | exact Nat.le_of_ble_eq_true rfl | (simp; done) | (simp; omega)) rfl (fun _ => rfl) ?_
   refine LM.nil ?_
   refine QM.sub (e' := []) trivial ?_
   refine QM.leave (.inr rfl) [] Tryz.results41 rfl ?_
   intro w' hm' hc' hg'
   refine ⟨rfl, hc', ?_⟩; have h3 := hm'.at b; unfold needE; rw [if_neg (by rw [h1]; simp), if_pos h2]; exact h3
  ·
   refine wpM.skip ?_
   refine QM.leave (.inr rfl) [] Tryz.results41 rfl ?_
   intro w' hm' hc' hg'
   refine ⟨rfl, hc', ?_⟩; have h3 := hm'.at b; unfold needE; rw [if_neg (by rw [h1]; simp), if_neg h2]; exact h3

set_option maxRecDepth 100000 in
set_option maxHeartbeats 1000000 in
theorem qfield_spec {ws : List Wrd} (b : Nat) {ad : Option Addr} {n cap : Nat} (i : Nat) (e most : Int) (nm : List UInt8) (w : World) (hn : n = ws.length) (hx : ws.length ≤ 1000000000) (hl : Sr fW 4 ws (.slice ad n cap) w) (hab : 0 < ws.length → adB ad ≠ b) (hM : Mem w [qB b ad n cap i e]) : Ret Tryz.prog 40 #[.pointer (some ⟨b, 0, none⟩), vS nm, .int .i64 most] w (WrP b (.int .i64 (fldE ws i e nm most).2.2) (qO ad n cap (fldE ws i e nm most).1 (fldE ws i e nm most).2.1) w) := by
 refine Ret.enterM (l := [.pointer (some ⟨b, 0, none⟩), vS nm, .int .i64 most]) Tryz.func40 rfl Tryz.ntmps40 rfl ([qB b ad n cap i e]) ((fun x => x = b)) hM ?_
 refine wpM.seq ?_
 refine wpM.region ?_
 refine LM.val (ov_assign rfl) ?_
 refine LM.nil ?_
 refine QM.sub (e' := [(0, _), (1, _), (2, _)]) ⟨rfl, rfl, rfl, trivial⟩ ?_
 refine QM.then ?_
 refine wpM.seq ?_
 refine wpM.region ?_
 refine LM.val (ov_move rfl) ?_
 refine LM.val (ov_move rfl) ?_
 refine LM.cW (oc_call (enters_fn Tryz.func41 (by kernel_rfl) rfl) rfl) (fun w hm hc hg => qneed_spec b i e 1 nm w hn hx (hl.kp hc hab) hab (hm.pick _)) rfl (fun _ => rfl) ?_
 refine LM.nil ?_
 refine QM.sub (e' := [(0, _), (2, _)]) ⟨rfl, rfl, trivial⟩ ?_
 refine QM.then ?_
 refine wpM.seq ?_
 refine wpM.seq ?_
 refine wpM.region ?_
 refine LM.val (ov_move rfl) ?_
 refine LM.val (ov_nilCheck rfl) ?_
 refine LM.val (ov_field Tryz.underlying80 rfl Tryz.sizeOf3 rfl (k := 2) rfl rfl) ?_
 first | refine LM.rd (om_ld Tryz.isAgg3 rfl rfl) ?_
 refine LM.val (ov_neq rfl rfl) ?_
 refine LM.nil ?_
 refine QM.sub (e' := [(0, _), (2, _), (15, _)]) ⟨rfl, rfl, rfl, trivial⟩ ?_
 refine QM.then ?_
 refine wpM.condD rfl (fun h1 => ?_) (fun h1 => ?_)
 ·
  refine wpM.seq ?_
  refine wpM.region ?_
  refine LM.val (ov_assign rfl) ?_
  refine LM.nil ?_
  refine QM.sub (e' := [(6, _)]) ⟨rfl, trivial⟩ ?_
  refine QM.then ?_
  refine wpM.ret ?_
  refine QM.then_ret ?_
  refine QM.leave (.inl rfl) [.tmp 6] Tryz.results40 rfl ?_
  intro w' hm' hc' hg'
  unfold fldE; rw [num_b h1]; exact ⟨rfl, hc', hm'.at b⟩
 ·
  have he0 : (needE ws i e 1 nm).2 = 0 := Classical.not_not.1 h1
  refine wpM.skip ?_
  refine QM.then ?_
  refine wpM.seq ?_
  refine wpM.seq ?_
  refine wpM.draw [(0, 0), (1, 0), (2, 0), (3, 1), (4, 0), (5, 0), (6, 0), (7, 1), (8, 0), (9, 0), (10, 0), (11, 0), (12, 0), (13, 0), (14, 1), (15, 0), (16, 0), (17, 0), (18, 1), (19, 0), (20, 0), (21, 1), (22, 0), (23, 0)] (by kernel_rfl) (by kernel_rfl) ?_
  refine LD.val rfl rfl (ov_move rfl) ?_
  refine LD.val rfl rfl (ov_nilCheck rfl) ?_
  refine LD.val rfl rfl (ov_field Tryz.underlying80 rfl Tryz.sizeOf3 rfl (k := 1) rfl rfl) ?_
  first | refine LD.rd rfl rfl (om_ld Tryz.isAgg3 rfl rfl) ?_
  refine LD.val rfl rfl (ov_move rfl) ?_
  refine LD.val rfl rfl (ov_nilCheck rfl) ?_
  refine LD.val rfl rfl (ov_field Tryz.underlying80 rfl Tryz.sizeOf23 rfl (k := 0) rfl rfl) ?_
  first | refine LD.rd rfl rfl (om_ld Tryz.isAgg23 rfl rfl) ?_
  refine LD.val rfl rfl (ov_len Tryz.underlying23 rfl) ?_
  refine LD.val rfl rfl (ov_geq rfl rfl) ?_
  refine LD.val rfl rfl (ov_move rfl) ?_
  refine LD.splitD (t := 26) rfl (fun h2 => ?_) (fun h2 => ?_)
  ·
   refine LD.drop rfl rfl ⟨26, _, rfl, rfl, rfl⟩ ?_
   refine LD.drop rfl rfl ⟨26, _, rfl, rfl, rfl⟩ ?_
   refine LD.drop rfl rfl ⟨26, _, rfl, rfl, rfl⟩ ?_
   refine LD.drop rfl rfl ⟨26, _, rfl, rfl, rfl⟩ ?_
   refine LD.drop rfl rfl ⟨26, _, rfl, rfl, rfl⟩ ?_
   refine LD.drop rfl rfl ⟨26, _, rfl, rfl, rfl⟩ ?_
   refine LD.drop rfl rfl ⟨26, _, rfl, rfl, rfl⟩ ?_
   refine LD.drop rfl rfl ⟨26, _, rfl, rfl, rfl⟩ ?_
   refine LD.drop rfl rfl ⟨26, _, rfl, rfl, rfl⟩ ?_
   refine LD.drop rfl rfl ⟨26, _, rfl, rfl, rfl⟩ ?_
   refine LD.drop rfl rfl ⟨26, _, rfl, rfl, rfl⟩ ?_
   refine LD.drop rfl rfl ⟨26, _, rfl, rfl, rfl⟩ ?_
   refine LD.val rfl rfl (ov_pickT rfl rfl) ?_
   refine LD.nil ?_
   refine QM.sub (e' := [(0, _), (2, _), (39, _)]) ⟨rfl, rfl, rfl, trivial⟩ ?_
   refine QM.then ?_
   refine wpM.condT rfl ?_
   refine wpM.seq ?_
   refine wpM.region ?_
   refine LM.val (ov_move rfl) ?_
   refine LM.val (ov_nilCheck rfl) ?_
   refine LM.val (ov_field Tryz.underlying80 rfl Tryz.sizeOf3 rfl (k := 2) rfl rfl) ?_
   refine LM.st Tryz.sizeOf3 rfl rfl rfl (by first | decide | exact Nat.le_of_ble_eq_true rfl | (simp; done) | (simp; omega)) rfl (fun _ => rfl) ?_
   refine LM.nil ?_
   refine QM.sub (e' := []) trivial ?_
   refine QM.then ?_
   refine wpM.seq ?_
   refine wpM.region ?_
   refine LM.val (ov_assign rfl) ?_
   refine LM.nil ?_
   refine QM.sub (e' := [(6, _)]) ⟨rfl, trivial⟩ ?_
   refine QM.then ?_
   refine wpM.ret ?_
   refine QM.then_ret ?_
   refine QM.leave (.inl rfl) [.tmp 6] Tryz.results40 rfl ?_
   intro w' hm' hc' hg'
   unfold fldE; rw [he0, num_c (by decide) (.inl (by omega))]; exact ⟨rfl, hc', hm'.at b⟩
  ·
   refine LD.val rfl ⟨26, _, rfl, rfl, rfl⟩ (ov_move rfl) ?_
   refine LD.val rfl ⟨26, _, rfl, rfl, rfl⟩ (ov_nilCheck rfl) ?_
   refine LD.val rfl ⟨26, _, rfl, rfl, rfl⟩ (ov_field Tryz.underlying80 rfl Tryz.sizeOf23 rfl (k := 0) rfl rfl) ?_
   first | refine LD.rd rfl ⟨26, _, rfl, rfl, rfl⟩ (om_ld Tryz.isAgg23 rfl rfl) ?_
   refine LD.val rfl ⟨26, _, rfl, rfl, rfl⟩ (ov_move rfl) ?_
   refine LD.val rfl ⟨26, _, rfl, rfl, rfl⟩ (ov_nilCheck rfl) ?_
   refine LD.val rfl ⟨26, _, rfl, rfl, rfl⟩ (ov_field Tryz.underlying80 rfl Tryz.sizeOf3 rfl (k := 1) rfl rfl) ?_
   first | refine LD.rd rfl ⟨26, _, rfl, rfl, rfl⟩ (om_ld Tryz.isAgg3 rfl rfl) ?_
   refine LD.val rfl ⟨26, _, rfl, rfl, rfl⟩ (ov_idxSN (by first | exact Sr.spt (by assumption) | exact Sl.spt (by assumption)) Tryz.underlying23 Tryz.sizeOf65 rfl rfl (by omega)) ?_
   refine LD.val rfl ⟨26, _, rfl, rfl, rfl⟩ (ov_field Tryz.underlying65 rfl Tryz.sizeOf3 rfl (k := 0) rfl rfl) ?_
   first | refine LD.rd rfl ⟨26, _, rfl, rfl, rfl⟩ (om_slE (j := 0) (by assumption) (by intro _; rfl) Tryz.isAgg3 rfl rfl (by exact getq default (by first | omega | (simp only [List.length_set, List.length_append, List.length_cons, List.length_nil]; omega))) rfl (by rfl)) ?_ | refine LD.rdC rfl ⟨26, _, rfl, rfl, rfl⟩ (om_srE (j := 0) (by assumption) Tryz.isAgg3 rfl rfl (by exact getq default (by first | omega | (simp only [List.length_set, List.length_append, List.length_cons, List.length_nil]; omega))) (by rfl) (by rfl) (by exact hab (by omega))) ?_ | refine LD.rd rfl ⟨26, _, rfl, rfl, rfl⟩ (om_ld Tryz.isAgg3 rfl rfl) ?_
   refine LD.val rfl ⟨26, _, rfl, rfl, rfl⟩ (ov_neq rfl rfl) ?_
   refine LD.val rfl rfl (ov_pickF rfl rfl) ?_
   refine LD.nil ?_
   refine QM.sub (e' := [(0, _), (2, _), (39, _)]) ⟨rfl, rfl, rfl, trivial⟩ ?_
   refine QM.then ?_
   refine wpM.condD rfl (fun h3 => ?_) (fun h3 => ?_)
   ·
    refine wpM.seq ?_
    refine wpM.region ?_
    refine LM.val (ov_move rfl) ?_
    refine LM.val (ov_nilCheck rfl) ?_
    refine LM.val (ov_field Tryz.underlying80 rfl Tryz.sizeOf3 rfl (k := 2) rfl rfl) ?_
    refine LM.st Tryz.sizeOf3 rfl rfl rfl (by first | decide | exact Nat.le_of_ble_eq_true rfl | (simp; done) | (simp; omega)) rfl (fun _ => rfl) ?_
    refine LM.nil ?_
    refine QM.sub (e' := []) trivial ?_
    refine QM.then ?_
    refine wpM.seq ?_
    refine wpM.region ?_
    refine LM.val (ov_assign rfl) ?_
    refine LM.nil ?_
    refine QM.sub (e' := [(6, _)]) ⟨rfl, trivial⟩ ?_
    refine QM.then ?_
    refine wpM.ret ?_
    refine QM.then_ret ?_
    refine QM.leave (.inl rfl) [.tmp 6] Tryz.results40 rfl ?_
    intro w' hm' hc' hg'
    unfold fldE; rw [he0, num_c (by decide) (.inr h3)]; exact ⟨rfl, hc', hm'.at b⟩
   ·
    refine wpM.skip ?_
    refine QM.then ?_
    refine wpM.seq ?_
    refine wpM.draw [(0, 0), (1, 0), (2, 0), (3, 1), (4, 0), (5, 0), (6, 0), (7, 1), (8, 0), (9, 0), (10, 1), (11, 0)] (by kernel_rfl) (by kernel_rfl) ?_
    refine LD.val rfl rfl (ov_move rfl) ?_
    refine LD.val rfl rfl (ov_nilCheck rfl) ?_
    refine LD.val rfl rfl (ov_field Tryz.underlying80 rfl Tryz.sizeOf23 rfl (k := 0) rfl rfl) ?_
    first | refine LD.rd rfl rfl (om_ld Tryz.isAgg23 rfl rfl) ?_
    refine LD.val rfl rfl (ov_move rfl) ?_
    refine LD.val rfl rfl (ov_nilCheck rfl) ?_
    refine LD.val rfl rfl (ov_field Tryz.underlying80 rfl Tryz.sizeOf3 rfl (k := 1) rfl rfl) ?_
    first | refine LD.rd rfl rfl (om_ld Tryz.isAgg3 rfl rfl) ?_
    refine LD.val rfl rfl (ov_idxSN (by first | exact Sr.spt (by assumption) | exact Sl.spt (by assumption)) Tryz.underlying23 Tryz.sizeOf65 rfl rfl (by omega)) ?_
    refine LD.val rfl rfl (ov_field Tryz.underlying65 rfl Tryz.sizeOf3 rfl (k := 2) rfl rfl) ?_
    first | refine LD.rd rfl rfl (om_slE (j := 2) (by assumption) (by intro _; rfl) Tryz.isAgg3 rfl rfl (by exact getq default (by first | omega | (simp only [List.length_set, List.length_append, List.length_cons, List.length_nil]; omega))) rfl (by rfl)) ?_ | refine LD.rdC rfl rfl (om_srE (j := 2) (by assumption) Tryz.isAgg3 rfl rfl (by exact getq default (by first | omega | (simp only [List.length_set, List.length_append, List.length_cons, List.length_nil]; omega))) (by rfl) (by rfl) (by exact hab (by omega))) ?_ | refine LD.rd rfl rfl (om_ld Tryz.isAgg3 rfl rfl) ?_
    refine LD.val rfl rfl (ov_assign rfl) ?_
    refine LD.nil ?_
    refine QM.sub (e' := [(0, _), (2, _), (7, _)]) ⟨rfl, rfl, rfl, trivial⟩ ?_
    refine QM.then ?_
    refine wpM.seq ?_
    refine wpM.seq ?_
    refine wpM.region ?_
    refine LM.val (ov_move rfl) ?_
    refine LM.val (ov_lss rfl rfl) ?_
    refine LM.val (ov_move rfl) ?_
    refine LM.splitD (t := 56) rfl (fun h4 => ?_) (fun h4 => ?_)
    ·
     refine LM.drop (t := 56) rfl rfl rfl ?_
     refine LM.drop (t := 56) rfl rfl rfl ?_
     refine LM.drop (t := 56) rfl rfl rfl ?_
     refine LM.val (ov_pickT rfl rfl) ?_
     refine LM.nil ?_
     refine QM.sub (e' := [(0, _), (7, _), (60, _)]) ⟨rfl, rfl, rfl, trivial⟩ ?_
     refine QM.then ?_
     refine wpM.condT rfl ?_
     refine wpM.seq ?_
     refine wpM.region ?_
     refine LM.val (ov_move rfl) ?_
     refine LM.val (ov_nilCheck rfl) ?_
     refine LM.val (ov_field Tryz.underlying80 rfl Tryz.sizeOf3 rfl (k := 2) rfl rfl) ?_
     refine LM.st Tryz.sizeOf3 rfl rfl rfl (by first | decide | exact Nat.le_of_ble_eq_true rfl | (simp; done) | (simp; omega)) rfl (fun _ => rfl) ?_
     refine LM.nil ?_
     refine QM.sub (e' := []) trivial ?_
     refine QM.then ?_
     refine wpM.seq ?_
     refine wpM.region ?_
     refine LM.val (ov_assign rfl) ?_
     refine LM.nil ?_
     refine QM.sub (e' := [(6, _)]) ⟨rfl, trivial⟩ ?_
     refine QM.then ?_
     refine wpM.ret ?_
     refine QM.then_ret ?_
     refine QM.leave (.inl rfl) [.tmp 6] Tryz.results40 rfl ?_
     intro w' hm' hc' hg'
     unfold fldE; rw [he0, num_d (by decide) (by omega) (Classical.not_not.1 h3) (by unfold hasB; rw [if_neg (by decide), decide_eq_false (by omega)]; rfl)]; exact ⟨rfl, hc', hm'.at b⟩
    ·
     refine LM.strip (t := 56) rfl rfl rfl ?_
     refine LM.val (ov_move rfl) ?_
     refine LM.strip (t := 56) rfl rfl rfl ?_
     refine LM.val (ov_move rfl) ?_
     refine LM.strip (t := 56) rfl rfl rfl ?_
     refine LM.val (ov_gtr rfl rfl) ?_
     refine LM.val (ov_pickF rfl rfl) ?_
     refine LM.nil ?_
     refine QM.sub (e' := [(0, _), (7, _), (60, _)]) ⟨rfl, rfl, rfl, trivial⟩ ?_
     refine QM.then ?_
     refine wpM.condD rfl (fun h5 => ?_) (fun h5 => ?_)
     ·
      refine wpM.seq ?_
      refine wpM.region ?_
      refine LM.val (ov_move rfl) ?_
      refine LM.val (ov_nilCheck rfl) ?_
      refine LM.val (ov_field Tryz.underlying80 rfl Tryz.sizeOf3 rfl (k := 2) rfl rfl) ?_
      refine LM.st Tryz.sizeOf3 rfl rfl rfl (by first | decide | exact Nat.le_of_ble_eq_true rfl | (simp; done) | (simp; omega)) rfl (fun _ => rfl) ?_
      refine LM.nil ?_
      refine QM.sub (e' := []) trivial ?_
      refine QM.then ?_
      refine wpM.seq ?_
      refine wpM.region ?_
      refine LM.val (ov_assign rfl) ?_
      refine LM.nil ?_
      refine QM.sub (e' := [(6, _)]) ⟨rfl, trivial⟩ ?_
      refine QM.then ?_
      refine wpM.ret ?_
      refine QM.then_ret ?_
      refine QM.leave (.inl rfl) [.tmp 6] Tryz.results40 rfl ?_
      intro w' hm' hc' hg'
      unfold fldE; rw [he0, num_d (by decide) (by omega) (Classical.not_not.1 h3) (by unfold hasB; rw [if_neg (by decide), decide_eq_true (by omega), decide_eq_false (by omega)]; rfl)]; exact ⟨rfl, hc', hm'.at b⟩
     ·
      refine wpM.skip ?_
      refine QM.then ?_
      refine wpM.seq ?_
      refine wpM.region ?_
      refine LM.val (ov_move rfl) ?_
      refine LM.val (ov_nilCheck rfl) ?_
      refine LM.val (ov_field Tryz.underlying80 rfl Tryz.sizeOf3 rfl (k := 1) rfl rfl) ?_
      first | refine LM.rd (om_ld Tryz.isAgg3 rfl rfl) ?_
      refine LM.val (ov_add64 rfl rfl (by omega)) ?_
      refine LM.val (ov_nilCheck rfl) ?_
      refine LM.val (ov_field Tryz.underlying80 rfl Tryz.sizeOf3 rfl (k := 1) rfl rfl) ?_
      refine LM.st Tryz.sizeOf3 rfl rfl rfl (by first | decide | exact Nat.le_of_ble_eq_true rfl | (simp; done) | (simp; omega)) rfl (fun _ => rfl) ?_
      refine LM.nil ?_
      refine QM.sub (e' := [(7, _)]) ⟨rfl, trivial⟩ ?_
      refine QM.then ?_
      refine wpM.seq ?_
      refine wpM.region ?_
      refine LM.val (ov_move rfl) ?_
      refine LM.val (ov_assign rfl) ?_
      refine LM.nil ?_
      refine QM.sub (e' := [(6, _)]) ⟨rfl, trivial⟩ ?_
      refine QM.then ?_
      refine wpM.ret ?_
      refine QM.leave (.inl rfl) [.tmp 6] Tryz.results40 rfl ?_
      intro w' hm' hc' hg'
      unfold fldE; rw [he0, num_e (by decide) (by omega) (Classical.not_not.1 h3) (by unfold hasB; rw [if_neg (by decide), decide_eq_true (by omega), decide_eq_true (by omega)]; rfl)]; exact ⟨rfl, hc', by have := hm'.at b; rw [he0] at this; exact this⟩

set_option maxRecDepth 100000 in
theorem qlong_spec {ws : List Wrd} (b : Nat) {ad : Option Addr} {n cap : Nat} (i : Nat) (e k most : Int) (w : World) (hM : Mem w [qB b ad n cap i e]) : Ret Tryz.prog 43 #[.pointer (some ⟨b, 0, none⟩), .int .i64 k, .int .i64 most] w (WrP b (.bool (decide (e ≠ 0) || decide (most ≤ k))) (qO ad n cap i (if e = 0 ∧ most ≤ k then 6 else e)) w) := by
 refine Ret.enterM (l := [.pointer (some ⟨b, 0, none⟩), .int .i64 k, .int .i64 most]) Tryz.func43 rfl Tryz.ntmps43 rfl ([qB b ad n cap i e]) ((fun x => x = b)) hM ?_
 refine wpM.seq ?_
 refine wpM.region ?_
 refine LM.val (ov_assign rfl) ?_
 refine LM.nil ?_
 refine QM.sub (e' := [(0, _), (1, _), (2, _)]) ⟨rfl, rfl, rfl, trivial⟩ ?_
 refine QM.then ?_
 refine wpM.seq ?_
 refine wpM.seq ?_
 refine wpM.region ?_
 refine LM.val (ov_move rfl) ?_
 refine LM.val (ov_nilCheck rfl) ?_
 refine LM.val (ov_field Tryz.underlying80 rfl Tryz.sizeOf3 rfl (k := 2) rfl rfl) ?_
 first | refine LM.rd (om_ld Tryz.isAgg3 rfl rfl) ?_
 refine LM.val (ov_eql rfl rfl) ?_
 refine LM.val (ov_move rfl) ?_
 refine LM.splitD (t := 12) rfl (fun h1 => ?_) (fun h1 => ?_)
 ·
  refine LM.strip (t := 12) rfl rfl rfl ?_
  refine LM.val (ov_move rfl) ?_
  refine LM.strip (t := 12) rfl rfl rfl ?_
  refine LM.val (ov_move rfl) ?_
  refine LM.strip (t := 12) rfl rfl rfl ?_
  refine LM.val (ov_geq rfl rfl) ?_
  refine LM.val (ov_pickT rfl rfl) ?_
  refine LM.nil ?_
  refine QM.sub (e' := [(0, _), (16, _)]) ⟨rfl, rfl, trivial⟩ ?_
  refine QM.then ?_
  refine wpM.condD rfl (fun h2 => ?_) (fun h2 => ?_)
  ·
   refine wpM.region ?_
   refine LM.val (ov_move rfl) ?_
   refine LM.val (ov_nilCheck rfl) ?_
   refine LM.val (ov_field Tryz.underlying80 rfl Tryz.sizeOf3 rfl (k := 2) rfl rfl) ?_
   refine LM.st Tryz.sizeOf3 rfl rfl rfl (by first | decide | exact Nat.le_of_ble_eq_true rfl | (simp; done) | (simp; omega)) rfl (fun _ => rfl) ?_
   refine LM.nil ?_
   refine QM.sub (e' := [(0, _)]) ⟨rfl, trivial⟩ ?_
   refine QM.then ?_
   refine wpM.seq ?_
   refine wpM.region ?_
   refine LM.val (ov_move rfl) ?_
   refine LM.val (ov_nilCheck rfl) ?_
   refine LM.val (ov_field Tryz.underlying80 rfl Tryz.sizeOf3 rfl (k := 2) rfl rfl) ?_
   first | refine LM.rd (om_ld Tryz.isAgg3 rfl rfl) ?_
   refine LM.val (ov_neq rfl rfl) ?_
   refine LM.val (ov_assign rfl) ?_
   refine LM.nil ?_
   refine QM.sub (e' := [(6, _)]) ⟨rfl, trivial⟩ ?_
   refine QM.then ?_
   refine wpM.ret ?_
   refine QM.leave (.inl rfl) [.tmp 6] Tryz.results43 rfl ?_
   intro w' hm' hc' hg'
   refine ⟨?_, hc', ?_⟩; (rw [decide_eq_true (show most ≤ k from h2), Bool.or_true]; rfl); (rw [if_pos ⟨h1, h2⟩]; exact hm'.at b)
  ·
   refine wpM.skip ?_
   refine QM.then ?_
   refine wpM.seq ?_
   refine wpM.region ?_
   refine LM.val (ov_move rfl) ?_
   refine LM.val (ov_nilCheck rfl) ?_
   refine LM.val (ov_field Tryz.underlying80 rfl Tryz.sizeOf3 rfl (k := 2) rfl rfl) ?_
   first | refine LM.rd (om_ld Tryz.isAgg3 rfl rfl) ?_
   refine LM.val (ov_neq rfl rfl) ?_
   refine LM.val (ov_assign rfl) ?_
   refine LM.nil ?_
   refine QM.sub (e' := [(6, _)]) ⟨rfl, trivial⟩ ?_
   refine QM.then ?_
   refine wpM.ret ?_
   refine QM.leave (.inl rfl) [.tmp 6] Tryz.results43 rfl ?_
   intro w' hm' hc' hg'
   refine ⟨?_, hc', ?_⟩; (rw [decide_eq_false (show ¬ most ≤ k from h2), Bool.or_false]; rfl); (rw [if_neg (fun q => h2 q.2)]; exact hm'.at b)
 ·
  refine LM.drop (t := 12) rfl rfl rfl ?_
  refine LM.drop (t := 12) rfl rfl rfl ?_
  refine LM.drop (t := 12) rfl rfl rfl ?_
  refine LM.val (ov_pickF rfl rfl) ?_
  refine LM.nil ?_
  refine QM.sub (e' := [(0, _), (16, _)]) ⟨rfl, rfl, trivial⟩ ?_
  refine QM.then ?_
  refine wpM.condF rfl ?_
  refine wpM.skip ?_
  refine QM.then ?_
  refine wpM.seq ?_
  refine wpM.region ?_
  refine LM.val (ov_move rfl) ?_
  refine LM.val (ov_nilCheck rfl) ?_
  refine LM.val (ov_field Tryz.underlying80 rfl Tryz.sizeOf3 rfl (k := 2) rfl rfl) ?_
  first | refine LM.rd (om_ld Tryz.isAgg3 rfl rfl) ?_
  refine LM.val (ov_neq rfl rfl) ?_
  refine LM.val (ov_assign rfl) ?_
  refine LM.nil ?_
  refine QM.sub (e' := [(6, _)]) ⟨rfl, trivial⟩ ?_
  refine QM.then ?_
  refine wpM.ret ?_
  refine QM.leave (.inl rfl) [.tmp 6] Tryz.results43 rfl ?_
  intro w' hm' hc' hg'
  refine ⟨?_, hc', ?_⟩; (rw [decide_eq_true (show e ≠ 0 from h1)]; rfl); (rw [if_neg (fun q => h1 q.1)]; exact hm'.at b)

set_option maxRecDepth 100000 in
set_option maxHeartbeats 1000000 in
theorem qlockT_spec {ws : List Wrd} (b : Nat) {ad : Option Addr} {n cap : Nat} (i : Nat) (e : Int) (w : World) (hn : n = ws.length) (hx : ws.length ≤ 1000000000) (hl : Sr fW 4 ws (.slice ad n cap) w) (hab : 0 < ws.length → adB ad ≠ b) (hM : Mem w [qB b ad n cap i e]) : Ret Tryz.prog 44 #[.pointer (some ⟨b, 0, none⟩), .bool true] w (WrP b (.agg (fL (lckE ws true i e).2.2).toArray) (qO ad n cap (lckE ws true i e).1 (lckE ws true i e).2.1) w) := by
 refine Ret.enterM (l := [.pointer (some ⟨b, 0, none⟩), .bool true]) Tryz.func44 rfl Tryz.ntmps44 rfl ([qB b ad n cap i e]) ((fun x => x = b)) hM ?_
 refine wpM.seq ?_
 refine wpM.region ?_
 refine LM.alloc Tryz.zeroValue63 rfl (fun b4 hb4 => ?_)
 refine LM.nil ?_
 refine QM.sub (e' := [(0, _), (1, _), (4, _)]) ⟨rfl, rfl, rfl, trivial⟩ ?_
 refine QM.then ?_
 refine wpM.seq ?_
 refine wpM.region ?_
 refine LM.val (ov_move rfl) ?_
 refine LM.val (ov_build (cs := #[_, _, _, _, _]) rfl (by first | rfl | kernel_rfl)) ?_
 refine LM.alloc Tryz.zeroValue63 rfl (fun b5 hb5 => ?_)
 refine LM.stW Tryz.sizeOf63 rfl rfl rfl rfl (by first | rfl | decide | (simp; done)) (fun hlt => by first | exact rfl | exact absurd hlt (by omega)) ?_
 refine LM.nil ?_
 refine QM.sub (e' := [(0, _), (1, _), (4, _), (5, _)]) ⟨rfl, rfl, rfl, rfl, trivial⟩ ?_
 refine QM.then ?_
 refine wpM.seq ?_
 refine wpM.region ?_
 refine LM.val (ov_move rfl) ?_
 refine LM.cW (oc_call (enters_fn Tryz.func40 (by kernel_rfl) rfl) rfl) (fun w hm hc hg => qfield_spec b i e 16 wSlice w hn hx (hl.kp hc hab) hab (SubM.mem (by (repeat' (first | exact SubM.nil _ | refine SubM.cons rfl ?_ | refine SubM.app ?_))) w hm)) rfl (fun hlt => by first | exact rfl | exact absurd hlt (by omega)) ?_
 refine LM.val (ov_field Tryz.underlying63 rfl Tryz.sizeOf3 rfl (k := 1) rfl rfl) ?_
 refine LM.st Tryz.sizeOf3 rfl rfl rfl (by first | decide | exact Nat.le_of_ble_eq_true rfl | (simp; done) | (simp; omega)) rfl (fun hlt => by first | exact rfl | exact absurd hlt (by omega)) ?_
 refine LM.nil ?_
 refine QM.sub (e' := [(0, _), (1, _), (4, _), (5, _)]) ⟨rfl, rfl, rfl, rfl, trivial⟩ ?_
 refine QM.then ?_
 refine wpM.seq ?_
 refine wpM.region ?_
 refine LM.val (ov_move rfl) ?_
 refine LM.cW (oc_call (enters_fn Tryz.func40 (by kernel_rfl) rfl) rfl) (fun w hm hc hg => qfield_spec b (lkA ws i e).1 (lkA ws i e).2.1 32 wCrit w hn hx (hl.kp hc hab) hab (SubM.mem (by (repeat' (first | exact SubM.nil _ | refine SubM.cons rfl ?_ | refine SubM.app ?_))) w hm)) rfl (fun hlt => by first | exact rfl | exact absurd hlt (by omega)) ?_
 refine LM.val (ov_field Tryz.underlying63 rfl Tryz.sizeOf3 rfl (k := 2) rfl rfl) ?_
 refine LM.st Tryz.sizeOf3 rfl rfl rfl (by first | decide | exact Nat.le_of_ble_eq_true rfl | (simp; done) | (simp; omega)) rfl (fun hlt => by first | exact rfl | exact absurd hlt (by omega)) ?_
 refine LM.nil ?_
 refine QM.sub (e' := [(0, _), (1, _), (4, _), (5, _)]) ⟨rfl, rfl, rfl, rfl, trivial⟩ ?_
 refine QM.then ?_
 refine wpM.seq ?_
 refine wpM.seq ?_
 refine wpM.region ?_
 refine LM.val (ov_move rfl) ?_
 refine LM.nil ?_
 refine QM.sub (e' := [(0, _), (4, _), (5, _), (14, _)]) ⟨rfl, rfl, rfl, rfl, trivial⟩ ?_
 refine QM.then ?_
 first | refine wpM.condD rfl (fun h1 => ?_) (fun h1 => ?_) | refine wpM.condB rfl (fun h1 => ?_) (fun h1 => ?_)
 ·
  refine wpM.seq ?_
  refine wpM.region ?_
  refine LM.val (ov_move rfl) ?_
  refine LM.cW (oc_call (enters_fn Tryz.func40 (by kernel_rfl) rfl) rfl) (fun w hm hc hg => qfield_spec b (lkB ws i e).1 (lkB ws i e).2.1 16 wRead w hn hx (hl.kp hc hab) hab (SubM.mem (by (repeat' (first | exact SubM.nil _ | refine SubM.cons rfl ?_ | refine SubM.app ?_))) w hm)) rfl (fun hlt => by first | exact rfl | exact absurd hlt (by omega)) ?_
  refine LM.val (ov_field Tryz.underlying63 rfl Tryz.sizeOf3 rfl (k := 3) rfl rfl) ?_
  refine LM.st Tryz.sizeOf3 rfl rfl rfl (by first | decide | exact Nat.le_of_ble_eq_true rfl | (simp; done) | (simp; omega)) rfl (fun hlt => by first | exact rfl | exact absurd hlt (by omega)) ?_
  refine LM.nil ?_
  refine QM.sub (e' := [(0, _), (4, _), (5, _)]) ⟨rfl, rfl, rfl, trivial⟩ ?_
  refine QM.then ?_
  refine wpM.region ?_
  refine LM.val (ov_move rfl) ?_
  refine LM.cW (oc_call (enters_fn Tryz.func40 (by kernel_rfl) rfl) rfl) (fun w hm hc hg => qfield_spec b (lkC ws true i e).1 (lkC ws true i e).2.1 16 wWrite w hn hx (hl.kp hc hab) hab (SubM.mem (by (repeat' (first | exact SubM.nil _ | refine SubM.cons rfl ?_ | refine SubM.app ?_))) w hm)) rfl (fun hlt => by first | exact rfl | exact absurd hlt (by omega)) ?_
  refine LM.val (ov_field Tryz.underlying63 rfl Tryz.sizeOf3 rfl (k := 4) rfl rfl) ?_
  refine LM.st Tryz.sizeOf3 rfl rfl rfl (by first | decide | exact Nat.le_of_ble_eq_true rfl | (simp; done) | (simp; omega)) rfl (fun hlt => by first | exact rfl | exact absurd hlt (by omega)) ?_
  refine LM.nil ?_
  refine QM.sub (e' := [(0, _), (4, _), (5, _)]) ⟨rfl, rfl, rfl, trivial⟩ ?_
  refine QM.then ?_
  refine wpM.seq ?_
  refine wpM.region ?_
  refine LM.val (ov_move rfl) ?_
  refine LM.cW (oc_call (enters_fn Tryz.func41 (by kernel_rfl) rfl) rfl) (fun w hm hc hg => qneed_spec b (lkD ws true i e).1 (lkD ws true i e).2.1 3 [59] w hn hx (hl.kp hc hab) hab (SubM.mem (by (repeat' (first | exact SubM.nil _ | refine SubM.cons rfl ?_ | refine SubM.app ?_))) w hm)) rfl (fun hlt => by first | exact rfl | exact absurd hlt (by omega)) ?_
  refine LM.nil ?_
  refine QM.sub (e' := [(4, _), (5, _)]) ⟨rfl, rfl, trivial⟩ ?_
  refine QM.then ?_
  refine wpM.seq ?_
  refine wpM.region ?_
  refine LM.rd (om_ldW Tryz.isAgg63 Tryz.sizeOf63 rfl rfl) ?_
  refine LM.stW Tryz.sizeOf63 rfl rfl rfl rfl (by first | rfl | decide | (simp; done)) (fun hlt => by first | exact rfl | exact absurd hlt (by omega)) ?_
  refine LM.nil ?_
  refine QM.sub (e' := [(4, _)]) ⟨rfl, trivial⟩ ?_
  refine QM.then ?_
  refine wpM.ret ?_
  refine QM.leaveCs (ds := ([])) (.inl rfl) [.cell 4 63] Tryz.results44 hd_nil (rc_w rfl Tryz.isAgg63 Tryz.sizeOf63 rfl rc_nil) ?_
  intro w' hm' hc'
  exact ⟨rfl, hc', hm'.at b⟩
 ·
  cases h1

set_option maxRecDepth 100000 in
set_option maxHeartbeats 1000000 in
theorem qlockF_spec {ws : List Wrd} (b : Nat) {ad : Option Addr} {n cap : Nat} (i : Nat) (e : Int) (w : World) (hn : n = ws.length) (hx : ws.length ≤ 1000000000) (hl : Sr fW 4 ws (.slice ad n cap) w) (hab : 0 < ws.length → adB ad ≠ b) (hM : Mem w [qB b ad n cap i e]) : Ret Tryz.prog 44 #[.pointer (some ⟨b, 0, none⟩), .bool false] w (WrP b (.agg (fL (lckE ws false i e).2.2).toArray) (qO ad n cap (lckE ws false i e).1 (lckE ws false i e).2.1) w) := by
 refine Ret.enterM (l := [.pointer (some ⟨b, 0, none⟩), .bool false]) Tryz.func44 rfl Tryz.ntmps44 rfl ([qB b ad n cap i e]) ((fun x => x = b)) hM ?_
 refine wpM.seq ?_
 refine wpM.region ?_
 refine LM.alloc Tryz.zeroValue63 rfl (fun b4 hb4 => ?_)
 refine LM.nil ?_
 refine QM.sub (e' := [(0, _), (1, _), (4, _)]) ⟨rfl, rfl, rfl, trivial⟩ ?_
 refine QM.then ?_
 refine wpM.seq ?_
 refine wpM.region ?_
 refine LM.val (ov_move rfl) ?_
 refine LM.val (ov_build (cs := #[_, _, _, _, _]) rfl (by first | rfl | kernel_rfl)) ?_
 refine LM.alloc Tryz.zeroValue63 rfl (fun b5 hb5 => ?_)
 refine LM.stW Tryz.sizeOf63 rfl rfl rfl rfl (by first | rfl | decide | (simp; done)) (fun hlt => by first | exact rfl | exact absurd hlt (by omega)) ?_
 refine LM.nil ?_
 refine QM.sub (e' := [(0, _), (1, _), (4, _), (5, _)]) ⟨rfl, rfl, rfl, rfl, trivial⟩ ?_
 refine QM.then ?_
 refine wpM.seq ?_
 refine wpM.region ?_
 refine LM.val (ov_move rfl) ?_
 refine LM.cW (oc_call (enters_fn Tryz.func40 (by kernel_rfl) rfl) rfl) (fun w hm hc hg => qfield_spec b i e 16 wSlice w hn hx (hl.kp hc hab) hab (SubM.mem (by (repeat' (first | exact SubM.nil _ | refine SubM.cons rfl ?_ | refine SubM.app ?_))) w hm)) rfl (fun hlt => by first | exact rfl | exact absurd hlt (by omega)) ?_
 refine LM.val (ov_field Tryz.underlying63 rfl Tryz.sizeOf3 rfl (k := 1) rfl rfl) ?_
 refine LM.st Tryz.sizeOf3 rfl rfl rfl (by first | decide | exact Nat.le_of_ble_eq_true rfl | (simp; done) | (simp; omega)) rfl (fun hlt => by first | exact rfl | exact absurd hlt (by omega)) ?_
 refine LM.nil ?_
 refine QM.sub (e' := [(0, _), (1, _), (4, _), (5, _)]) ⟨rfl, rfl, rfl, rfl, trivial⟩ ?_
 refine QM.then ?_
 refine wpM.seq ?_
 refine wpM.region ?_
 refine LM.val (ov_move rfl) ?_
 refine LM.cW (oc_call (enters_fn Tryz.func40 (by kernel_rfl) rfl) rfl) (fun w hm hc hg => qfield_spec b (lkA ws i e).1 (lkA ws i e).2.1 32 wCrit w hn hx (hl.kp hc hab) hab (SubM.mem (by (repeat' (first | exact SubM.nil _ | refine SubM.cons rfl ?_ | refine SubM.app ?_))) w hm)) rfl (fun hlt => by first | exact rfl | exact absurd hlt (by omega)) ?_
 refine LM.val (ov_field Tryz.underlying63 rfl Tryz.sizeOf3 rfl (k := 2) rfl rfl) ?_
 refine LM.st Tryz.sizeOf3 rfl rfl rfl (by first | decide | exact Nat.le_of_ble_eq_true rfl | (simp; done) | (simp; omega)) rfl (fun hlt => by first | exact rfl | exact absurd hlt (by omega)) ?_
 refine LM.nil ?_
 refine QM.sub (e' := [(0, _), (1, _), (4, _), (5, _)]) ⟨rfl, rfl, rfl, rfl, trivial⟩ ?_
 refine QM.then ?_
 refine wpM.seq ?_
 refine wpM.seq ?_
 refine wpM.region ?_
 refine LM.val (ov_move rfl) ?_
 refine LM.nil ?_
 refine QM.sub (e' := [(0, _), (4, _), (5, _), (14, _)]) ⟨rfl, rfl, rfl, rfl, trivial⟩ ?_
 refine QM.then ?_
 first | refine wpM.condD rfl (fun h1 => ?_) (fun h1 => ?_) | refine wpM.condB rfl (fun h1 => ?_) (fun h1 => ?_)
 ·
  cases h1
 ·
  refine wpM.skip ?_
  refine QM.then ?_
  refine wpM.seq ?_
  refine wpM.region ?_
  refine LM.val (ov_move rfl) ?_
  refine LM.cW (oc_call (enters_fn Tryz.func41 (by kernel_rfl) rfl) rfl) (fun w hm hc hg => qneed_spec b (lkD ws false i e).1 (lkD ws false i e).2.1 3 [59] w hn hx (hl.kp hc hab) hab (SubM.mem (by (repeat' (first | exact SubM.nil _ | refine SubM.cons rfl ?_ | refine SubM.app ?_))) w hm)) rfl (fun hlt => by first | exact rfl | exact absurd hlt (by omega)) ?_
  refine LM.nil ?_
  refine QM.sub (e' := [(4, _), (5, _)]) ⟨rfl, rfl, trivial⟩ ?_
  refine QM.then ?_
  refine wpM.seq ?_
  refine wpM.region ?_
  refine LM.rd (om_ldW Tryz.isAgg63 Tryz.sizeOf63 rfl rfl) ?_
  refine LM.stW Tryz.sizeOf63 rfl rfl rfl rfl (by first | rfl | decide | (simp; done)) (fun hlt => by first | exact rfl | exact absurd hlt (by omega)) ?_
  refine LM.nil ?_
  refine QM.sub (e' := [(4, _)]) ⟨rfl, trivial⟩ ?_
  refine QM.then ?_
  refine wpM.ret ?_
  refine QM.leaveCs (ds := ([])) (.inl rfl) [.cell 4 63] Tryz.results44 hd_nil (rc_w rfl Tryz.isAgg63 Tryz.sizeOf63 rfl rc_nil) ?_
  intro w' hm' hc'
  exact ⟨rfl, hc', hm'.at b⟩

theorem qlock_spec {ws : List Wrd} (sh : Bool) (b : Nat) {ad : Option Addr} {n cap : Nat} (i : Nat) (e : Int) (w : World) (hn : n = ws.length) (hx : ws.length ≤ 1000000000) (hl : Sr fW 4 ws (.slice ad n cap) w) (hab : 0 < ws.length → adB ad ≠ b) (hM : Mem w [qB b ad n cap i e]) :
    Ret Tryz.prog 44 #[.pointer (some ⟨b, 0, none⟩), .bool sh] w (WrP b (.agg (fL (lckE ws sh i e).2.2).toArray) (qO ad n cap (lckE ws sh i e).1 (lckE ws sh i e).2.1) w) := by
  cases sh
  · exact qlockF_spec b i e w hn hx hl hab hM
  · exact qlockT_spec b i e w hn hx hl hab hM
end Go.Eng
set_option linter.unusedVariables false
set_option linter.unusedSimpArgs false
namespace Go.Eng
open Go Go.Proofs Go.RowKit

/-- the groups, as the document goes over them -/
def gpM (ws : List Wrd) (i : Nat) (e : Int) (gs : List Int) : List Int × Nat × Int := if gs.length = 0 then (if e = 0 then gpO ws i e else ([], i, e)) else gpL ws i e gs
theorem gpM_stop {ws : List Wrd} {i : Nat} {e : Int} {gs : List Int} (h : (isE ws i e 1 wGroup || (decide (gs.length = 0) && decide (e = 0))) = false) : gpM ws i e gs = (gs, i, e) := by
  simp only [Bool.or_eq_false_iff, Bool.and_eq_false_iff, decide_eq_false_iff_not] at h
  unfold gpM
  by_cases h0 : gs.length = 0
  · rw [if_pos h0, if_neg (h.2.resolve_left (fun q => q h0)), List.length_eq_zero_iff.1 h0]
  · rw [if_neg h0, gpL_stop h.1]
theorem gpM_full {ws : List Wrd} {i : Nat} {e : Int} {gs : List Int} (h : isE ws i e 1 wGroup = true) (hl : 4 ≤ gs.length) : gpM ws i e gs = (gs, i, 6) := by
  unfold gpM; rw [if_neg (by omega), gpL_full h hl]
theorem gpM_next {ws : List Wrd} {i : Nat} {e : Int} {gs : List Int} (h : (isE ws i e 1 wGroup || (decide (gs.length = 0) && decide (e = 0))) = true) (hl : gs.length < 4) : gpM ws i e gs = gpM ws (linE ws i e wGroup 16).1 (linE ws i e wGroup 16).2.1 (gs ++ [(linE ws i e wGroup 16).2.2]) := by
  simp only [Bool.or_eq_true, Bool.and_eq_true, decide_eq_true_eq] at h
  unfold gpM
  rw [if_neg (show ¬ (gs ++ [(linE ws i e wGroup 16).2.2]).length = 0 by simp)]
  by_cases h0 : gs.length = 0
  · have he : e = 0 := h.elim (fun q => (isE_lt q).2) (fun q => q.2)
    rw [if_pos h0, if_pos he, List.length_eq_zero_iff.1 h0]; rfl
  · rw [if_neg h0, gpL_next (h.resolve_right (fun q => h0 q.1)) hl]
theorem gpM_sG {ws : List Wrd} {i0 : Nat} {gs : List Int} {i : Nat} {e : Int} (h : gpM ws (sB2 ws i0).1 (sB2 ws i0).2.1 [] = (gs, i, e)) : (sG ws i0).2 = (i, e) ∧ (e = 0 → sG ws i0 = (gs, i, e)) := by
  unfold gpM at h
  rw [if_pos (show ([] : List Int).length = 0 from rfl)] at h
  unfold sG
  by_cases h0 : (sB2 ws i0).2.1 = 0
  · rw [if_pos h0] at h; rw [h]; exact ⟨rfl, fun _ => rfl⟩
  · rw [if_neg h0] at h
    simp only [Prod.mk.injEq] at h
    obtain ⟨_, h2, h3⟩ := h
    rw [← h2, ← h3]
    refine ⟨?_, fun q => absurd q h0⟩
    unfold gpO; rw [lin_bad h0]; simp only; rw [gpL_stop (isE_bad h0)]
theorem isP_eq {ws : List Wrd} {i : Nat} {e : Int} {ps : List PgC} : isP ws i e ps = (isE ws i e 1 wProg || (decide (ps.length = 0) && decide (e = 0))) := by
  unfold isP
  by_cases h : e = 0
  · rw [decide_eq_true h, Bool.true_and, Bool.and_true, Bool.or_comm]
  · rw [isE_bad h, decide_eq_false h]; simp
/-- what is known of a setup's parts -/
structure SetI (ws : List Wrd) (i0 : Nat) (gs : List Int) (i1 : Nat) (e1 : Int) (ls : List CLk) (i2 : Nat) (e2 : Int) (ps : List PgC) (pl : List Int) (i3 : Nat) (e3 : Int) : Prop where
  g : (sG ws i0).2 = (i1, e1) ∧ (e1 = 0 → (sG ws i0).1 = gs)
  l : lkL ws i1 e1 [] = (ls, i2, e2)
  p : pgL ws i2 e2 [] [] = (ps, pl, i3, e3)
theorem SetI.two {ws : List Wrd} {i0 : Nat} {gs : List Int} {i1 : Nat} {e1 : Int} {ls : List CLk} {i2 : Nat} {e2 : Int} {ps : List PgC} {pl : List Int} {i3 : Nat} {e3 : Int} (h : SetI ws i0 gs i1 e1 ls i2 e2 ps pl i3 e3) : sL ws i0 = (ls, i2, e2) ∧ sP ws i0 = (ps, pl, i3, e3) := by
  have a : sL ws i0 = (ls, i2, e2) := by unfold Go.Eng.sL; rw [h.g.1]; exact h.l
  exact ⟨a, by unfold sP; rw [a]; exact h.p⟩
theorem SetI.bad {ws : List Wrd} {i0 : Nat} {gs : List Int} {i1 : Nat} {e1 : Int} {ls : List CLk} {i2 : Nat} {e2 : Int} {ps : List PgC} {pl : List Int} {i3 : Nat} {e3 : Int} (h : SetI ws i0 gs i1 e1 ls i2 e2 ps pl i3 e3) (he : e3 ≠ 0) : stpR ws i0 = (default, (i3 : Int), e3) := by
  unfold stpR; rw [h.two.2]; simp only; rw [if_pos he]
theorem SetI.mis {ws : List Wrd} {i0 : Nat} {gs : List Int} {i1 : Nat} {e1 : Int} {ls : List CLk} {i2 : Nat} {e2 : Int} {ps : List PgC} {pl : List Int} {i3 : Nat} {e3 : Int} (h : SetI ws i0 gs i1 e1 ls i2 e2 ps pl i3 e3) (he : e3 = 0) {j : Nat} (hj : j < ps.length) (h0 : (ps.take j).any (misB ls ps.length) = false) (h1 : misB ls ps.length (ps.getD j default) = true) : stpR ws i0 = (default, pl.getD j 0, (ckO (ps.getD j default).fv (ps.getD j default).xs ls (ps.length : Int)).2) := by
  have e := fix_hit default h0 hj h1
  have e' : misI ls ps = (j : Nat) := e
  unfold stpR; rw [h.two.2, h.two.1]; simp only; rw [if_neg (by simp [he]), e', if_pos (by omega), Int.toNat_natCast]
  unfold misE; rw [if_neg (by omega), Int.toNat_natCast]
theorem SetI.ok {ws : List Wrd} {i0 : Nat} {gs : List Int} {i1 : Nat} {e1 : Int} {ls : List CLk} {i2 : Nat} {e2 : Int} {ps : List PgC} {pl : List Int} {i3 : Nat} {e3 : Int} (h : SetI ws i0 gs i1 e1 ls i2 e2 ps pl i3 e3) (he : e3 = 0) (h0 : ps.any (misB ls ps.length) = false) : stpR ws i0 = (⟨(sA ws i0).2.2, (sB2 ws i0).2.2, gs, ls, ps⟩, (i3 : Int), 0) := by
  have z2 : e2 = 0 := by
    have := pgF_zero (ws := ws) _ i2 e2 [] [] (by have := h.p; unfold pgL at this; rw [this]; exact he)
    exact this
  have z1 : e1 = 0 := by
    have := lkF_zero (ws := ws) _ i1 e1 [] (by have := h.l; unfold lkL at this; rw [this]; exact z2)
    exact this
  have e' : misI ls ps = -1 := fix_miss h0
  unfold stpR; rw [h.two.2, h.two.1]; simp only; rw [if_neg (by simp [he]), e', if_neg (by decide), h.g.2 z1]
/-- where the parser of programs stands -/
theorem par_pos {ws : List Wrd} {i : Nat} (h : i ≤ ws.length) : 0 ≤ (parseO ws (i : Int)).2.2.1 ∧ (parseO ws (i : Int)).2.2.1.toNat ≤ ws.length := by
  have key : ∀ (f i : Nat) (ops : List COp), i ≤ ws.length → 0 ≤ (loopP f ws i ops).2.1 ∧ (loopP f ws i ops).2.1.toNat ≤ ws.length := by
    intro f
    induction f with
    | zero => intro i ops hi; exact ⟨by show (0 : Int) ≤ (i : Int); omega, by show ((i : Int)).toNat ≤ _; omega⟩
    | succ f ih =>
      intro i ops hi
      unfold loopP
      split
      · rename_i q
        have := isR_lt q
        split
        · exact ⟨by show (0 : Int) ≤ (i : Int); omega, by show ((i : Int)).toNat ≤ _; omega⟩
        · exact ⟨by show (0 : Int) ≤ ((i + 1 : Nat) : Int); omega, by show (((i + 1 : Nat) : Int)).toNat ≤ _; omega⟩
      · have hp := opR_pos (k := ops.length) hi
        split
        · exact ⟨by show (0 : Int) ≤ ((opR ws i ops.length).1 : Int); omega, by show (((opR ws i ops.length).1 : Int)).toNat ≤ _; omega⟩
        · exact ih _ _ hp
  rw [parse_nat h]
  simp only
  unfold bodyR
  split
  · rename_i q
    have := isR_lt q
    have hh : (headR ws i).2 ≤ ws.length := by
      unfold headR; simp only; split
      · rename_i q; have := isR_lt q; omega
      · omega
    split
    · rename_i q2
      have := isR_lt q2
      exact key _ _ _ (by omega)
    · exact ⟨by show (0 : Int) ≤ ((headR ws i).2 : Int); omega, by show (((headR ws i).2 : Int)).toNat ≤ _; omega⟩
  · exact ⟨by show (0 : Int) ≤ (i : Int); omega, by show ((i : Int)).toNat ≤ _; omega⟩
def StT (r : StC × Int × Int) (n0 : Nat) (v : Value) (m : Mem0) : Prop := ∃ sv : StV, v = .tuple #[sv.val, .int .i64 r.2.1, .int .i64 r.2.2] ∧ sv.C = r.1 ∧ ∀ w, Mem w m → sv.In w
theorem StT.mono {r : StC × Int × Int} : ∀ (k k' : Nat) u m, k' ≤ k → StT r k u m → StT r k' u m := fun k k' u m h q => q
theorem StT.none {p e : Int} {n0 : Nat} : StT (default, p, e) n0 (.tuple #[(default : StV).val, .int .i64 p, .int .i64 e]) [] :=
  ⟨default, rfl, rfl, fun w _ => ⟨rfl, .nil _ _ _, rfl, .nil _ _ _, rfl, .nil _ _ _, fun p hp => by cases hp⟩⟩
abbrev sO (c g : Int) (ga : Option Addr) (gn gc : Nat) (la : Option Addr) (ln lc : Nat) (pa : Option Addr) (pn pc : Nat) : Obj := .cells #[.int .i64 c, .int .i64 g, .slice ga gn gc, .slice la ln lc, .slice pa pn pc] 30 (0, 0)
abbrev z0 : Obj := sO 0 0 none 0 0 none 0 0 none 0 0
theorem snoc_map {ps : List PgV} {p : PgV} : (ps ++ [p]).map PgV.c = ps.map PgV.c ++ [p.c] := by simp
theorem snoc_in {ps : List PgV} {p : PgV} {w : World} (h : PgsIn ps w) (k : p.In w) : PgsIn (ps ++ [p]) w := fun q hq => by
  rcases List.mem_append.1 hq with hq | hq
  · exact h q hq
  · rw [List.mem_singleton] at hq; subst hq; exact k
theorem sr_of_sl {α : Type} {f : α → List Value} {E s n0 : Nat} {xs : List α} {v : Value} {m : Mem0} {w : World} (h : Sl f E s n0 xs v m) (hf : ∀ a, (f a).length = s) (hm : Mem w m) : Sr f s xs v w := h.sr hf (fun p hp => hm.2 p hp)
theorem cond0 (n : Nat) : decide ((n : Int) = 0) = decide (n = 0) := decide_eq_decide.2 (by omega)
set_option maxRecDepth 100000 in
set_option maxHeartbeats 4000000 in
theorem rsetup_spec {ws : List Wrd} {ad : Option Addr} {n cap : Nat} (p : Int) (w : World) (hn : n = ws.length) (hx : ws.length ≤ 1000000000) (hl : Sr fW 4 ws (.slice ad n cap) w) : Ret Tryz.prog 12 #[.slice ad n cap, .int .i64 p] w (fun v w' => Ext w w' ∧ ∃ m, StT (setO ws p) w.heap.size v m ∧ Mem w' m ∧ ∀ p ∈ m, w.heap.size ≤ p.1) := by
 refine Ret.enterM (l := [.slice ad n cap, .int .i64 p]) Tryz.func12 rfl Tryz.ntmps12 rfl ([]) (no) (Mem.nil w) ?_
 refine wpM.seq ?_
 refine wpM.region ?_
 refine LM.alloc Tryz.zeroValue30 rfl (fun b4 hb4 => ?_)
 refine LM.val (ov_assign rfl) ?_
 refine LM.val (ov_assign rfl) ?_
 refine LM.nil ?_
 refine QM.sub (e' := [(0, _), (1, _), (4, _)]) ⟨rfl, rfl, rfl, trivial⟩ ?_
 refine QM.then ?_
 refine wpM.seq ?_
 refine wpM.seq ?_
 refine wpM.region ?_
 refine LM.val (ov_move rfl) ?_
 refine LM.val (ov_lss rfl rfl) ?_
 refine LM.val (ov_move rfl) ?_
 refine LM.splitD (t := 19) rfl (fun h1 => ?_) (fun h1 => ?_)
 ·
  refine LM.drop (t := 19) rfl rfl rfl ?_
  refine LM.drop (t := 19) rfl rfl rfl ?_
  refine LM.drop (t := 19) rfl rfl rfl ?_
  refine LM.drop (t := 19) rfl rfl rfl ?_
  refine LM.val (ov_pickT rfl rfl) ?_
  refine LM.nil ?_
  refine QM.sub (e' := [(0, _), (1, _), (4, _), (24, _)]) ⟨rfl, rfl, rfl, rfl, trivial⟩ ?_
  refine QM.then ?_
  refine wpM.condT rfl ?_
  refine wpM.seq ?_
  refine wpM.region ?_
  refine LM.val (ov_build (cs := #[_, _, _, _, _]) rfl (by first | rfl | kernel_rfl)) ?_
  refine LM.stW Tryz.sizeOf30 rfl rfl rfl rfl (by first | rfl | decide | (simp; done)) (fun hlt => absurd hlt (by omega)) ?_
  refine LM.val (ov_assign rfl) ?_
  refine LM.val (ov_assign rfl) ?_
  refine LM.nil ?_
  refine QM.sub (e' := [(4, _), (5, _), (6, _)]) ⟨rfl, rfl, rfl, trivial⟩ ?_
  refine QM.then ?_
  refine wpM.ret ?_
  refine QM.then_ret ?_
  refine QM.leaveCs (ds := ([])) (.inl rfl) [.cell 4 30, .tmp 5, .tmp 6] Tryz.results12 hd_nil (rc_w rfl Tryz.isAgg30 Tryz.sizeOf30 rfl (rc_tmp rfl (rc_tmp rfl rc_nil))) ?_
  intro w' hm' hc'
  have hpar : setO ws p = (default, 0, 5) := (by unfold setO; rw [if_pos (by omega)]); rw [hpar]; exact ⟨hc', [], StT.none, Mem.nil _, fun p hp => by cases hp⟩
 ·
  refine LM.strip (t := 19) rfl rfl rfl ?_
  refine LM.val (ov_move rfl) ?_
  refine LM.strip (t := 19) rfl rfl rfl ?_
  refine LM.val (ov_move rfl) ?_
  refine LM.strip (t := 19) rfl rfl rfl ?_
  refine LM.val (ov_len Tryz.underlying23 rfl) ?_
  refine LM.strip (t := 19) rfl rfl rfl ?_
  refine LM.val (ov_gtr rfl rfl) ?_
  refine LM.val (ov_pickF rfl rfl) ?_
  refine LM.nil ?_
  refine QM.sub (e' := [(0, _), (1, _), (4, _), (24, _)]) ⟨rfl, rfl, rfl, rfl, trivial⟩ ?_
  refine QM.then ?_
  refine wpM.condD rfl (fun h2 => ?_) (fun h2 => ?_)
  ·
   refine wpM.seq ?_
   refine wpM.region ?_
   refine LM.val (ov_build (cs := #[_, _, _, _, _]) rfl (by first | rfl | kernel_rfl)) ?_
   refine LM.stW Tryz.sizeOf30 rfl rfl rfl rfl (by first | rfl | decide | (simp; done)) (fun hlt => absurd hlt (by omega)) ?_
   refine LM.val (ov_assign rfl) ?_
   refine LM.val (ov_assign rfl) ?_
   refine LM.nil ?_
   refine QM.sub (e' := [(4, _), (5, _), (6, _)]) ⟨rfl, rfl, rfl, trivial⟩ ?_
   refine QM.then ?_
   refine wpM.ret ?_
   refine QM.then_ret ?_
   refine QM.leaveCs (ds := ([])) (.inl rfl) [.cell 4 30, .tmp 5, .tmp 6] Tryz.results12 hd_nil (rc_w rfl Tryz.isAgg30 Tryz.sizeOf30 rfl (rc_tmp rfl (rc_tmp rfl rc_nil))) ?_
   intro w' hm' hc'
   have hpar : setO ws p = (default, 0, 5) := (by unfold setO; rw [if_pos (by omega)]); rw [hpar]; exact ⟨hc', [], StT.none, Mem.nil _, fun p hp => by cases hp⟩
  ·
   obtain ⟨i0, rfl⟩ : ∃ i0 : Nat, p = (i0 : Nat) := ⟨p.toNat, by omega⟩; have hi0 : i0 ≤ ws.length := (by omega)
   refine wpM.skip ?_
   refine QM.then ?_
   refine wpM.seq ?_
   refine wpM.region ?_
   refine LM.val (ov_move rfl) ?_
   refine LM.val (ov_move rfl) ?_
   refine LM.val (ov_build (cs := #[_, _, _]) rfl (by first | rfl | kernel_rfl)) ?_
   refine LM.box rfl rfl (fun b29 hb29 => ?_)
   refine LM.val (ov_assign rfl) ?_
   refine LM.nil ?_
   refine QM.sub (e' := [(0, _), (4, _), (7, _)]) ⟨rfl, rfl, rfl, trivial⟩ ?_
   refine QM.then ?_
   refine wpM.seq ?_
   refine wpM.region ?_
   have hab29 : 0 < ws.length → adB ad ≠ b29 := (fun h0 => by have := hl.adlt h0; omega)
   refine LM.val (ov_build (cs := #[_, _, _, _, _]) rfl (by first | rfl | kernel_rfl)) ?_
   refine LM.alloc Tryz.zeroValue30 rfl (fun b8 hb8 => ?_)
   refine LM.stW Tryz.sizeOf30 rfl rfl rfl rfl (by first | rfl | decide | (simp; done)) (fun hlt => absurd hlt (by omega)) ?_
   refine LM.nil ?_
   refine QM.sub (e' := [(0, _), (4, _), (7, _), (8, _)]) ⟨rfl, rfl, rfl, rfl, trivial⟩ ?_
   refine QM.then ?_
   refine wpM.seq ?_
   refine wpM.region ?_
   refine LM.val (ov_move rfl) ?_
   refine LM.cW (oc_call (enters_fn Tryz.func40 (by kernel_rfl) rfl) rfl) (fun w hm hc hg => qfield_spec b29 i0 0 4 wCores w hn hx (hl.ext hc) hab29 (SubM.mem (by (repeat' (first | exact SubM.nil _ | refine SubM.cons rfl ?_ | refine SubM.app ?_))) w hm)) rfl (fun hlt => absurd hlt (by omega)) ?_
   refine LM.val (ov_field Tryz.underlying30 rfl Tryz.sizeOf3 rfl (k := 0) rfl rfl) ?_
   refine LM.st Tryz.sizeOf3 rfl rfl rfl (by first | decide | exact Nat.le_of_ble_eq_true rfl | (simp; done) | (simp; omega)) rfl (fun hlt => absurd hlt (by omega)) ?_
   refine LM.nil ?_
   refine QM.sub (e' := [(0, _), (4, _), (7, _), (8, _)]) ⟨rfl, rfl, rfl, rfl, trivial⟩ ?_
   refine QM.then ?_
   refine wpM.seq ?_
   refine wpM.region ?_
   refine LM.val (ov_move rfl) ?_
   refine LM.cW (oc_call (enters_fn Tryz.func41 (by kernel_rfl) rfl) rfl) (fun w hm hc hg => qneed_spec b29 (fldE ws i0 0 wCores 4).1 (fldE ws i0 0 wCores 4).2.1 3 [59] w hn hx (hl.ext hc) hab29 (SubM.mem (by (repeat' (first | exact SubM.nil _ | refine SubM.cons rfl ?_ | refine SubM.app ?_))) w hm)) rfl (fun hlt => absurd hlt (by omega)) ?_
   refine LM.nil ?_
   refine QM.sub (e' := [(0, _), (4, _), (7, _), (8, _)]) ⟨rfl, rfl, rfl, rfl, trivial⟩ ?_
   refine QM.then ?_
   refine wpM.seq ?_
   refine wpM.region ?_
   refine LM.val (ov_move rfl) ?_
   refine LM.cW (oc_call (enters_fn Tryz.func40 (by kernel_rfl) rfl) rfl) (fun w hm hc hg => qfield_spec b29 (sA ws i0).1 (sA ws i0).2.1 8 wGrain w hn hx (hl.ext hc) hab29 (SubM.mem (by (repeat' (first | exact SubM.nil _ | refine SubM.cons rfl ?_ | refine SubM.app ?_))) w hm)) rfl (fun hlt => absurd hlt (by omega)) ?_
   refine LM.val (ov_field Tryz.underlying30 rfl Tryz.sizeOf3 rfl (k := 1) rfl rfl) ?_
   refine LM.st Tryz.sizeOf3 rfl rfl rfl (by first | decide | exact Nat.le_of_ble_eq_true rfl | (simp; done) | (simp; omega)) rfl (fun hlt => absurd hlt (by omega)) ?_
   refine LM.nil ?_
   refine QM.sub (e' := [(0, _), (4, _), (7, _), (8, _)]) ⟨rfl, rfl, rfl, rfl, trivial⟩ ?_
   refine QM.then ?_
   refine wpM.seq ?_
   refine wpM.region ?_
   refine LM.val (ov_move rfl) ?_
   refine LM.cW (oc_call (enters_fn Tryz.func41 (by kernel_rfl) rfl) rfl) (fun w hm hc hg => qneed_spec b29 (fldE ws (sA ws i0).1 (sA ws i0).2.1 wGrain 8).1 (fldE ws (sA ws i0).1 (sA ws i0).2.1 wGrain 8).2.1 3 [59] w hn hx (hl.ext hc) hab29 (SubM.mem (by (repeat' (first | exact SubM.nil _ | refine SubM.cons rfl ?_ | refine SubM.app ?_))) w hm)) rfl (fun hlt => absurd hlt (by omega)) ?_
   refine LM.nil ?_
   refine QM.sub (e' := [(0, _), (4, _), (7, _), (8, _)]) ⟨rfl, rfl, rfl, rfl, trivial⟩ ?_
   refine QM.then ?_
   refine wpM.seq ?_
   refine wpM.joinK (α := Nat × Int × List Int × Option Addr × Nat × Nat × Mem0) (fun ⟨i1, e1, gs, adg, ng, cg, mg⟩ => []) [(0, _), (4, _), (7, _), (8, _)] (fun ⟨i1, e1, gs, adg, ng, cg, mg⟩ => mg ++ qB b29 ad n cap i1 e1 :: (b8, sO (sA ws i0).2.2 (sB2 ws i0).2.2 adg ng cg none 0 0 none 0 0) :: (b4, z0) :: []) (fun ⟨i1, e1, gs, adg, ng, cg, mg⟩ => gpM ws (sB2 ws i0).1 (sB2 ws i0).2.1 [] = (gs, i1, e1) ∧ i1 ≤ ws.length ∧ gs.length ≤ 4 ∧ ng = gs.length ∧ Sl fI 3 1 w.heap.size gs (.slice adg ng cg) mg) ⟨rfl, rfl, rfl, rfl, trivial⟩ ?_ ?_
   ·
    refine wpM.block ?_
    refine wpM.loopK0 (α := Nat × Int × List Int × Option Addr × Nat × Nat × Mem0) (fun ⟨i, e, gs, adg, ng, cg, mg⟩ => []) [(0, _), (4, _), (7, _), (8, _)] (fun ⟨i, e, gs, adg, ng, cg, mg⟩ => mg ++ qB b29 ad n cap i e :: (b8, sO (sA ws i0).2.2 (sB2 ws i0).2.2 adg ng cg none 0 0 none 0 0) :: (b4, z0) :: []) (fun ⟨i, e, gs, adg, ng, cg, mg⟩ => gpM ws i e gs = gpM ws (sB2 ws i0).1 (sB2 ws i0).2.1 [] ∧ i ≤ ws.length ∧ gs.length ≤ 4 ∧ ng = gs.length ∧ Sl fI 3 1 w.heap.size gs (.slice adg ng cg) mg) (fun ⟨i, e, gs, adg, ng, cg, mg⟩ => 5 - gs.length) (((sB2 ws i0).1, (sB2 ws i0).2.1, [], none, 0, 0, [])) ⟨rfl, rfl, rfl, rfl, trivial⟩ (by (repeat' (first | exact SubM.nil _ | refine SubM.cons rfl ?_ | refine SubM.app ?_))) ⟨rfl, lin_le (lin_le (by omega)), by decide, rfl, .nil _ _ _ _⟩ ?_
    rintro ⟨i, e, gs, adg, ng, cg, mg⟩ ⟨hG, hi, hg4, hng, hsg⟩
    change wpM _ _ _ _ _ _ _ (mg ++ qB b29 ad n cap i e :: (b8, sO (sA ws i0).2.2 (sB2 ws i0).2.2 adg ng cg none 0 0 none 0 0) :: (b4, z0) :: []) _ _ _
    refine wpM.seq ?_
    refine wpM.seq ?_
    refine wpM.joinK (α := Bool) (fun q => [(55, .bool q)]) [(0, _), (4, _), (7, _), (8, _)] (fun q => mg ++ qB b29 ad n cap i e :: (b8, sO (sA ws i0).2.2 (sB2 ws i0).2.2 adg ng cg none 0 0 none 0 0) :: (b4, z0) :: []) (fun q => q = (isE ws i e 1 wGroup || (decide ((ng : Int) = 0) && decide (e = 0)))) ⟨rfl, rfl, rfl, rfl, trivial⟩ ?_ ?_
    ·
     refine wpM.region ?_
     refine LM.val (ov_move rfl) ?_
     refine LM.callE (oc_call (enters_fn Tryz.func42 (by kernel_rfl) rfl) rfl) (fun w hm hc hg => qis_spec b29 i e 1 wGroup w hn (hl.ext hc) (SubM.mem (by (repeat' (first | exact SubM.nil _ | refine SubM.cons rfl ?_ | refine SubM.app ?_))) w hm)) ?_
     refine LM.val (ov_move rfl) ?_
     first | refine LM.splitD (t := 43) rfl (fun h3 => ?_) (fun h3 => ?_) | refine LM.splitB (t := 43) rfl (fun h3 => ?_) (fun h3 => ?_)
     ·
      refine LM.drop (t := 43) rfl rfl rfl ?_
      refine LM.drop (t := 43) rfl rfl rfl ?_
      refine LM.drop (t := 43) rfl rfl rfl ?_
      refine LM.drop (t := 43) rfl rfl rfl ?_
      refine LM.dropU (t := 43) rfl rfl rfl ?_
      refine LM.dropX (t := 48) rfl rfl ?_
      refine LM.dropX (t := 48) rfl rfl ?_
      refine LM.dropX (t := 48) rfl rfl ?_
      refine LM.dropX (t := 48) rfl rfl ?_
      refine LM.dropX (t := 48) rfl rfl ?_
      refine LM.drop (t := 43) rfl rfl rfl ?_
      refine LM.val (ov_pickT rfl rfl) ?_
      refine LM.nil ?_
      refine QM.sub (e' := [(0, _), (4, _), (7, _), (8, _), (55, _)]) ⟨rfl, rfl, rfl, rfl, rfl, trivial⟩ ?_
      refine QM.meetK (_) ⟨(by first | rfl | exact lk rfl (by congr 1; omega) | exact lk rfl (by simp)), rfl, rfl, rfl, rfl, trivial⟩ (by (repeat' (first | exact SubM.nil _ | refine SubM.cons rfl ?_ | refine SubM.app ?_))) ?_
      · (simp [h1, h2, h3]; done)
     ·
      refine LM.strip (t := 43) rfl rfl rfl ?_
      refine LM.val (ov_field Tryz.underlying30 rfl Tryz.sizeOf26 rfl (k := 2) rfl rfl) ?_
      refine LM.strip (t := 43) rfl rfl rfl ?_
      first | refine LM.rd (om_ld Tryz.isAgg26 rfl rfl) ?_
      refine LM.strip (t := 43) rfl rfl rfl ?_
      refine LM.val (ov_len Tryz.underlying26 rfl) ?_
      refine LM.strip (t := 43) rfl rfl rfl ?_
      refine LM.val (ov_eql rfl rfl) ?_
      refine LM.strip (t := 43) rfl rfl rfl ?_
      refine LM.val (ov_move rfl) ?_
      refine LM.splitD (t := 48) rfl (fun h4 => ?_) (fun h4 => ?_)
      ·
       refine LM.strip (t := 48) rfl rfl rfl ?_
       refine LM.val (ov_move rfl) ?_
       refine LM.strip (t := 48) rfl rfl rfl ?_
       refine LM.val (ov_nilCheck rfl) ?_
       refine LM.strip (t := 48) rfl rfl rfl ?_
       refine LM.val (ov_field Tryz.underlying80 rfl Tryz.sizeOf3 rfl (k := 2) rfl rfl) ?_
       refine LM.strip (t := 48) rfl rfl rfl ?_
       first | refine LM.rd (om_ld Tryz.isAgg3 rfl rfl) ?_
       refine LM.strip (t := 48) rfl rfl rfl ?_
       refine LM.val (ov_eql rfl rfl) ?_
       refine LM.strip (t := 43) rfl rfl rfl ?_
       refine LM.val (ov_pickT rfl rfl) ?_
       refine LM.val (ov_pickF rfl rfl) ?_
       refine LM.nil ?_
       refine QM.sub (e' := [(0, _), (4, _), (7, _), (8, _), (55, _)]) ⟨rfl, rfl, rfl, rfl, rfl, trivial⟩ ?_
       refine QM.meetK (_) ⟨(by first | rfl | exact lk rfl (by congr 1; omega) | exact lk rfl (by simp)), rfl, rfl, rfl, rfl, trivial⟩ (by (repeat' (first | exact SubM.nil _ | refine SubM.cons rfl ?_ | refine SubM.app ?_))) ?_
       · (simp [h1, h2, h3, h4]; done)
      ·
       refine LM.drop (t := 48) rfl rfl rfl ?_
       refine LM.drop (t := 48) rfl rfl rfl ?_
       refine LM.drop (t := 48) rfl rfl rfl ?_
       refine LM.drop (t := 48) rfl rfl rfl ?_
       refine LM.drop (t := 48) rfl rfl rfl ?_
       refine LM.strip (t := 43) rfl rfl rfl ?_
       refine LM.val (ov_pickF rfl rfl) ?_
       refine LM.val (ov_pickF rfl rfl) ?_
       refine LM.nil ?_
       refine QM.sub (e' := [(0, _), (4, _), (7, _), (8, _), (55, _)]) ⟨rfl, rfl, rfl, rfl, rfl, trivial⟩ ?_
       refine QM.meetK (_) ⟨(by first | rfl | exact lk rfl (by congr 1; omega) | exact lk rfl (by simp)), rfl, rfl, rfl, rfl, trivial⟩ (by (repeat' (first | exact SubM.nil _ | refine SubM.cons rfl ?_ | refine SubM.app ?_))) ?_
       · first | (simp [h1, h2, h3, h4]; done) | (have h0 := decide_eq_false (show ¬ ((ng : Nat) : Int) = 0 by omega); simp only [h0, h1, h2, h3, h4, Bool.false_and, Bool.or_false]; done) | (have h0 := decide_eq_false (show ¬ ((ng : Nat) : Int) = 0 by omega); simp only [h0, h1, h2, h3, h4, Bool.false_and, Bool.or_false]; rfl)
    ·
     rintro q hq
     change QM _ _ _ _ _ (mg ++ qB b29 ad n cap i e :: (b8, sO (sA ws i0).2.2 (sB2 ws i0).2.2 adg ng cg none 0 0 none 0 0) :: (b4, z0) :: []) _ _ _
     refine QM.then ?_
     first | refine wpM.condD rfl (fun h5 => ?_) (fun h5 => ?_) | refine wpM.condB rfl (fun h5 => ?_) (fun h5 => ?_)
     ·
      have hQ : (isE ws i e 1 wGroup || (decide (gs.length = 0) && decide (e = 0))) = true := (by rw [← h5, hq, hng, cond0])
      refine wpM.skip ?_
      refine QM.then ?_
      refine wpM.block ?_
      refine wpM.seq ?_
      refine wpM.seq ?_
      refine wpM.region ?_
      refine LM.val (ov_move rfl) ?_
      refine LM.callE (oc_call (enters_fn Tryz.func42 (by kernel_rfl) rfl) rfl) (fun w hm hc hg => qis_spec b29 i e 1 wGroup w hn (hl.ext hc) (SubM.mem (by (repeat' (first | exact SubM.nil _ | refine SubM.cons rfl ?_ | refine SubM.app ?_))) w hm)) ?_
      refine LM.val (ov_move rfl) ?_
      first | refine LM.splitD (t := 58) rfl (fun h6 => ?_) (fun h6 => ?_) | refine LM.splitB (t := 58) rfl (fun h6 => ?_) (fun h6 => ?_)
      ·
       refine LM.strip (t := 58) rfl rfl rfl ?_
       refine LM.val (ov_move rfl) ?_
       refine LM.strip (t := 58) rfl rfl rfl ?_
       refine LM.val (ov_field Tryz.underlying30 rfl Tryz.sizeOf26 rfl (k := 2) rfl rfl) ?_
       refine LM.strip (t := 58) rfl rfl rfl ?_
       first | refine LM.rd (om_ld Tryz.isAgg26 rfl rfl) ?_
       refine LM.strip (t := 58) rfl rfl rfl ?_
       refine LM.val (ov_len Tryz.underlying26 rfl) ?_
       refine LM.strip (t := 58) rfl rfl rfl ?_
       refine LM.cW (oc_call (enters_fn Tryz.func43 (by kernel_rfl) rfl) rfl) (fun w hm hc hg => qlong_spec (ws := ws) b29 i e (ng : Nat) 4 w (SubM.mem (by (repeat' (first | exact SubM.nil _ | refine SubM.cons rfl ?_ | refine SubM.app ?_))) w hm)) rfl (fun hlt => absurd hlt (by omega)) ?_
       refine LM.val (ov_pickT rfl rfl) ?_
       refine LM.nil ?_
       refine QM.sub (e' := [(0, _), (4, _), (7, _), (8, _), (64, _)]) ⟨rfl, rfl, rfl, rfl, rfl, trivial⟩ ?_
       refine QM.then ?_
       first | refine wpM.condD rfl (fun h7 => ?_) (fun h7 => ?_) | refine wpM.condB rfl (fun h7 => ?_) (fun h7 => ?_)
       ·
        have he0 := (isE_lt h6).2; have h4 : (4 : Int) ≤ (ng : Nat) := (by simpa [he0] using h7); rw [if_pos ⟨he0, h4⟩]
        refine wpM.exit ?_
        refine QM.then_exit ?_
        refine QM.block_miss rfl ?_
        refine QM.then_exit ?_
        refine QM.block_hit ?_
        refine QM.meetK ((i, 6, gs, adg, ng, cg, mg)) ⟨rfl, rfl, rfl, rfl, trivial⟩ (by (repeat' (first | exact SubM.nil _ | refine SubM.cons rfl ?_ | refine SubM.app ?_))) ?_
        · exact ⟨by rw [← hG]; exact gpM_full h6 (by omega), hi, hg4, hng, hsg⟩
       ·
        have h4 : ¬ (4 : Int) ≤ (ng : Nat) := (fun q => by rw [decide_eq_true q] at h7; simp at h7); rw [if_neg (fun q => h4 q.2)]
        refine wpM.skip ?_
        refine QM.then ?_
        refine wpM.seq ?_
        refine wpM.keep ((b8, _) :: []) (fun _ => True) (.one 0 0 (.one 1 1 (.one 2 0 (.one 3 2 (.one 4 2 (.one 5 2 (.one 6 0 (.last 7)))))))) (by kernel_rfl) (by kernel_rfl) (by (repeat' (first | exact SubM.nil _ | refine SubM.cons rfl ?_ | refine SubM.app ?_))) (fun _ _ => trivial) ?_
        refine KD.val rfl rfl (ov_field Tryz.underlying30 rfl Tryz.sizeOf26 rfl (k := 2) rfl rfl) ?_
        first | refine KD.rd rfl rfl (om_ld Tryz.isAgg26 rfl rfl) ?_
        refine KD.val rfl rfl (ov_move rfl) ?_
        refine KD.one rfl ?_
        refine LM.cW (oc_call (enters_fn Tryz.func40 (by kernel_rfl) rfl) rfl) (fun w hm hc hg => qfield_spec b29 i e 16 wGroup w hn hx (hl.ext hc) hab29 (SubM.mem (by (repeat' (first | exact SubM.nil _ | refine SubM.cons rfl ?_ | refine SubM.app ?_))) w hm)) rfl (fun hlt => absurd hlt (by omega)) ?_
        refine LM.nil ?_
        refine QM.one (by (repeat' (first | exact SubM.nil _ | refine SubM.cons rfl ?_ | refine SubM.app ?_))) (fun _ _ => trivial) ?_
        refine KD.one rfl ?_
        refine LM.single Tryz.underlying26 Tryz.sizeOf3 Tryz.zeroValue3 rfl rfl rfl rfl rfl (fun b69 hb69 => ?_)
        refine LM.nil ?_
        refine QM.one (by (repeat' (first | exact SubM.nil _ | refine SubM.cons rfl ?_ | refine SubM.app ?_))) (fun _ _ => trivial) ?_
        refine KD.one rfl ?_
        refine LM.app (a := (fldE ws i e wGroup 16).2.2) Tryz.underlying26 Tryz.typeInfo3 rfl rfl rfl rfl rfl rfl rfl (by assumption) (by rfl) (by intro _; rfl) (by intro _ u hu; simp [fI] at hu; (repeat (first | (rcases hu with rfl | hu) | subst hu | rfl))) (by first | exact Nat.le_refl _ | omega) (fun p hp hlt => absurd hlt (Nat.not_lt_of_le (Sl.ge (by assumption) p hp))) (by first | omega | (unfold maxLen; omega)) (by simp only [Tryz.t3]; omega) (fun ad70 n70 cap70 m70 hn70 hs70 hin70 => ?_)
        refine LM.nil ?_
        refine QM.one (by (repeat' (first | exact SubM.nil _ | refine SubM.cons rfl ?_ | refine SubM.app ?_))) (fun _ _ => trivial) ?_
        refine KD.val rfl rfl (ov_field Tryz.underlying30 rfl Tryz.sizeOf26 rfl (k := 2) rfl rfl) ?_
        refine KD.last rfl ?_
        refine LM.st Tryz.sizeOf26 rfl rfl rfl (by first | decide | exact Nat.le_of_ble_eq_true rfl | (simp; done) | (simp; omega)) rfl (fun hlt => absurd hlt (by omega)) ?_
        refine LM.nil ?_
        refine QM.qn ?_
        refine QM.sub (e' := [(0, _), (4, _), (7, _), (8, _)]) ⟨rfl, rfl, rfl, rfl, trivial⟩ ?_
        refine QM.then ?_
        refine wpM.region ?_
        refine LM.val (ov_move rfl) ?_
        refine LM.cW (oc_call (enters_fn Tryz.func41 (by kernel_rfl) rfl) rfl) (fun w hm hc hg => qneed_spec b29 (fldE ws i e wGroup 16).1 (fldE ws i e wGroup 16).2.1 3 [59] w hn hx (hl.ext hc) hab29 (SubM.mem (by (repeat' (first | exact SubM.nil _ | refine SubM.cons rfl ?_ | refine SubM.app ?_))) w hm)) rfl (fun hlt => absurd hlt (by omega)) ?_
        refine LM.nil ?_
        refine QM.sub (e' := [(0, _), (4, _), (7, _), (8, _)]) ⟨rfl, rfl, rfl, rfl, trivial⟩ ?_
        refine QM.block_normal ?_
        refine QM.againK (((linE ws i e wGroup 16).1, (linE ws i e wGroup 16).2.1, gs ++ [(linE ws i e wGroup 16).2.2], ad70, n70, cap70, m70)) ⟨rfl, rfl, rfl, rfl, trivial⟩ (by (repeat' (first | exact SubM.nil _ | refine SubM.cons rfl ?_ | refine SubM.app ?_))) (fun _ h => h) ?_ ?_
        · exact ⟨by rw [← gpM_next hQ (by omega)]; exact hG, lin_le hi, by simp; omega, by rw [hn70]; simp, hs70⟩
        · dsimp only; rw [List.length_append, List.length_singleton]; omega
      ·
       have hg0 : gs.length = 0 := (by have h := hQ; simp only [h6, Bool.false_or, Bool.and_eq_true, decide_eq_true_eq] at h; exact h.1)
       refine LM.drop (t := 58) rfl rfl rfl ?_
       refine LM.drop (t := 58) rfl rfl rfl ?_
       refine LM.drop (t := 58) rfl rfl rfl ?_
       refine LM.drop (t := 58) rfl rfl rfl ?_
       refine LM.drop (t := 58) rfl rfl rfl ?_
       refine LM.val (ov_pickF rfl rfl) ?_
       refine LM.nil ?_
       refine QM.sub (e' := [(0, _), (4, _), (7, _), (8, _), (64, _)]) ⟨rfl, rfl, rfl, rfl, rfl, trivial⟩ ?_
       refine QM.then ?_
       refine wpM.condF rfl ?_
       refine wpM.skip ?_
       refine QM.then ?_
       refine wpM.seq ?_
       refine wpM.keep ((b8, _) :: []) (fun _ => True) (.one 0 0 (.one 1 1 (.one 2 0 (.one 3 2 (.one 4 2 (.one 5 2 (.one 6 0 (.last 7)))))))) (by kernel_rfl) (by kernel_rfl) (by (repeat' (first | exact SubM.nil _ | refine SubM.cons rfl ?_ | refine SubM.app ?_))) (fun _ _ => trivial) ?_
       refine KD.val rfl rfl (ov_field Tryz.underlying30 rfl Tryz.sizeOf26 rfl (k := 2) rfl rfl) ?_
       first | refine KD.rd rfl rfl (om_ld Tryz.isAgg26 rfl rfl) ?_
       refine KD.val rfl rfl (ov_move rfl) ?_
       refine KD.one rfl ?_
       refine LM.cW (oc_call (enters_fn Tryz.func40 (by kernel_rfl) rfl) rfl) (fun w hm hc hg => qfield_spec b29 i e 16 wGroup w hn hx (hl.ext hc) hab29 (SubM.mem (by (repeat' (first | exact SubM.nil _ | refine SubM.cons rfl ?_ | refine SubM.app ?_))) w hm)) rfl (fun hlt => absurd hlt (by omega)) ?_
       refine LM.nil ?_
       refine QM.one (by (repeat' (first | exact SubM.nil _ | refine SubM.cons rfl ?_ | refine SubM.app ?_))) (fun _ _ => trivial) ?_
       refine KD.one rfl ?_
       refine LM.single Tryz.underlying26 Tryz.sizeOf3 Tryz.zeroValue3 rfl rfl rfl rfl rfl (fun b69 hb69 => ?_)
       refine LM.nil ?_
       refine QM.one (by (repeat' (first | exact SubM.nil _ | refine SubM.cons rfl ?_ | refine SubM.app ?_))) (fun _ _ => trivial) ?_
       refine KD.one rfl ?_
       refine LM.app (a := (fldE ws i e wGroup 16).2.2) Tryz.underlying26 Tryz.typeInfo3 rfl rfl rfl rfl rfl rfl rfl (by assumption) (by rfl) (by intro _; rfl) (by intro _ u hu; simp [fI] at hu; (repeat (first | (rcases hu with rfl | hu) | subst hu | rfl))) (by first | exact Nat.le_refl _ | omega) (fun p hp hlt => absurd hlt (Nat.not_lt_of_le (Sl.ge (by assumption) p hp))) (by first | omega | (unfold maxLen; omega)) (by simp only [Tryz.t3]; omega) (fun ad70 n70 cap70 m70 hn70 hs70 hin70 => ?_)
       refine LM.nil ?_
       refine QM.one (by (repeat' (first | exact SubM.nil _ | refine SubM.cons rfl ?_ | refine SubM.app ?_))) (fun _ _ => trivial) ?_
       refine KD.val rfl rfl (ov_field Tryz.underlying30 rfl Tryz.sizeOf26 rfl (k := 2) rfl rfl) ?_
       refine KD.last rfl ?_
       refine LM.st Tryz.sizeOf26 rfl rfl rfl (by first | decide | exact Nat.le_of_ble_eq_true rfl | (simp; done) | (simp; omega)) rfl (fun hlt => absurd hlt (by omega)) ?_
       refine LM.nil ?_
       refine QM.qn ?_
       refine QM.sub (e' := [(0, _), (4, _), (7, _), (8, _)]) ⟨rfl, rfl, rfl, rfl, trivial⟩ ?_
       refine QM.then ?_
       refine wpM.region ?_
       refine LM.val (ov_move rfl) ?_
       refine LM.cW (oc_call (enters_fn Tryz.func41 (by kernel_rfl) rfl) rfl) (fun w hm hc hg => qneed_spec b29 (fldE ws i e wGroup 16).1 (fldE ws i e wGroup 16).2.1 3 [59] w hn hx (hl.ext hc) hab29 (SubM.mem (by (repeat' (first | exact SubM.nil _ | refine SubM.cons rfl ?_ | refine SubM.app ?_))) w hm)) rfl (fun hlt => absurd hlt (by omega)) ?_
       refine LM.nil ?_
       refine QM.sub (e' := [(0, _), (4, _), (7, _), (8, _)]) ⟨rfl, rfl, rfl, rfl, trivial⟩ ?_
       refine QM.block_normal ?_
       refine QM.againK (((linE ws i e wGroup 16).1, (linE ws i e wGroup 16).2.1, gs ++ [(linE ws i e wGroup 16).2.2], ad70, n70, cap70, m70)) ⟨rfl, rfl, rfl, rfl, trivial⟩ (by (repeat' (first | exact SubM.nil _ | refine SubM.cons rfl ?_ | refine SubM.app ?_))) (fun _ h => h) ?_ ?_
       · exact ⟨by rw [← gpM_next hQ (by omega)]; exact hG, lin_le hi, by simp; omega, by rw [hn70]; simp, hs70⟩
       · dsimp only; rw [List.length_append, List.length_singleton]; omega
     ·
      refine wpM.exit ?_
      refine QM.then_exit ?_
      refine QM.then_exit ?_
      refine QM.block_hit ?_
      refine QM.meetK ((i, e, gs, adg, ng, cg, mg)) ⟨rfl, rfl, rfl, rfl, trivial⟩ (by (repeat' (first | exact SubM.nil _ | refine SubM.cons rfl ?_ | refine SubM.app ?_))) ?_
      · exact ⟨by rw [← hG]; exact gpM_stop (by rw [← h5, hq, hng, cond0]), hi, hg4, hng, hsg⟩
   ·
    rintro ⟨i1, e1, gs, adg, ng, cg, mg⟩ ⟨hG, hi1, hg4, hng, hsg⟩
    change QM _ _ _ _ _ (mg ++ qB b29 ad n cap i1 e1 :: (b8, sO (sA ws i0).2.2 (sB2 ws i0).2.2 adg ng cg none 0 0 none 0 0) :: (b4, z0) :: []) _ _ _
    refine QM.then ?_
    refine wpM.seq ?_
    refine wpM.joinK (α := Nat × Int × List CLk × Option Addr × Nat × Nat × Mem0) (fun ⟨i2, e2, ls, adl, nl, cl, ml⟩ => []) [(0, _), (4, _), (7, _), (8, _)] (fun ⟨i2, e2, ls, adl, nl, cl, ml⟩ => ml ++ (mg ++ (qB b29 ad n cap i2 e2 :: (b8, sO (sA ws i0).2.2 (sB2 ws i0).2.2 adg ng cg adl nl cl none 0 0) :: (b4, z0) :: []))) (fun ⟨i2, e2, ls, adl, nl, cl, ml⟩ => lkL ws i1 e1 [] = (ls, i2, e2) ∧ i2 ≤ ws.length ∧ ls.length ≤ 8 ∧ nl = ls.length ∧ Sl fL 63 5 w.heap.size ls (.slice adl nl cl) ml) ⟨rfl, rfl, rfl, rfl, trivial⟩ ?_ ?_
    ·
     refine wpM.block ?_
     refine wpM.loopK0 (α := Nat × Int × List CLk × Option Addr × Nat × Nat × Mem0) (fun ⟨i, e, ls, adl, nl, cl, ml⟩ => []) [(0, _), (4, _), (7, _), (8, _)] (fun ⟨i, e, ls, adl, nl, cl, ml⟩ => ml ++ (mg ++ (qB b29 ad n cap i e :: (b8, sO (sA ws i0).2.2 (sB2 ws i0).2.2 adg ng cg adl nl cl none 0 0) :: (b4, z0) :: []))) (fun ⟨i, e, ls, adl, nl, cl, ml⟩ => lkL ws i e ls = lkL ws i1 e1 [] ∧ i ≤ ws.length ∧ ls.length ≤ 8 ∧ nl = ls.length ∧ Sl fL 63 5 w.heap.size ls (.slice adl nl cl) ml) (fun ⟨i, e, ls, adl, nl, cl, ml⟩ => 9 - ls.length) ((i1, e1, [], none, 0, 0, [])) ⟨rfl, rfl, rfl, rfl, trivial⟩ (by (repeat' (first | exact SubM.nil _ | refine SubM.cons rfl ?_ | refine SubM.app ?_))) ⟨rfl, hi1, by decide, rfl, .nil _ _ _ _⟩ ?_
     rintro ⟨i, e, ls, adl, nl, cl, ml⟩ ⟨hL, hi, hl8, hnl, hsl⟩
     change wpM _ _ _ _ _ _ _ (ml ++ (mg ++ (qB b29 ad n cap i e :: (b8, sO (sA ws i0).2.2 (sB2 ws i0).2.2 adg ng cg adl nl cl none 0 0) :: (b4, z0) :: []))) _ _ _
     refine wpM.seq ?_
     refine wpM.seq ?_
     refine wpM.joinK (α := Bool) (fun q => [(79, .bool q)]) [(0, _), (4, _), (7, _), (8, _)] (fun q => ml ++ (mg ++ (qB b29 ad n cap i e :: (b8, sO (sA ws i0).2.2 (sB2 ws i0).2.2 adg ng cg adl nl cl none 0 0) :: (b4, z0) :: []))) (fun q => q = isL ws i e) ⟨rfl, rfl, rfl, rfl, trivial⟩ ?_ ?_
     ·
      refine wpM.region ?_
      refine LM.val (ov_move rfl) ?_
      refine LM.callE (oc_call (enters_fn Tryz.func42 (by kernel_rfl) rfl) rfl) (fun w hm hc hg => qis_spec b29 i e 1 wLock w hn (hl.ext hc) (SubM.mem (by (repeat' (first | exact SubM.nil _ | refine SubM.cons rfl ?_ | refine SubM.app ?_))) w hm)) ?_
      refine LM.val (ov_move rfl) ?_
      first | refine LM.splitD (t := 76) rfl (fun h8 => ?_) (fun h8 => ?_) | refine LM.splitB (t := 76) rfl (fun h8 => ?_) (fun h8 => ?_)
      ·
       refine LM.drop (t := 76) rfl rfl rfl ?_
       refine LM.drop (t := 76) rfl rfl rfl ?_
       refine LM.val (ov_pickT rfl rfl) ?_
       refine LM.nil ?_
       refine QM.sub (e' := [(0, _), (4, _), (7, _), (8, _), (79, _)]) ⟨rfl, rfl, rfl, rfl, rfl, trivial⟩ ?_
       refine QM.meetK (_) ⟨(by first | rfl | exact lk rfl (by congr 1; omega) | exact lk rfl (by simp)), rfl, rfl, rfl, rfl, trivial⟩ (by (repeat' (first | exact SubM.nil _ | refine SubM.cons rfl ?_ | refine SubM.app ?_))) ?_
       · simp [isL, h1, h2, h8]
      ·
       refine LM.strip (t := 76) rfl rfl rfl ?_
       refine LM.val (ov_move rfl) ?_
       refine LM.strip (t := 76) rfl rfl rfl ?_
       refine LM.callE (oc_call (enters_fn Tryz.func42 (by kernel_rfl) rfl) rfl) (fun w hm hc hg => qis_spec b29 i e 1 wShared w hn (hl.ext hc) (SubM.mem (by (repeat' (first | exact SubM.nil _ | refine SubM.cons rfl ?_ | refine SubM.app ?_))) w hm)) ?_
       refine LM.val (ov_pickF rfl rfl) ?_
       refine LM.nil ?_
       refine QM.sub (e' := [(0, _), (4, _), (7, _), (8, _), (79, _)]) ⟨rfl, rfl, rfl, rfl, rfl, trivial⟩ ?_
       refine QM.meetK (_) ⟨(by first | rfl | exact lk rfl (by congr 1; omega) | exact lk rfl (by simp)), rfl, rfl, rfl, rfl, trivial⟩ (by (repeat' (first | exact SubM.nil _ | refine SubM.cons rfl ?_ | refine SubM.app ?_))) ?_
       · simp [isL, h1, h2, h8]
     ·
      rintro q hq
      change QM _ _ _ _ _ (ml ++ (mg ++ (qB b29 ad n cap i e :: (b8, sO (sA ws i0).2.2 (sB2 ws i0).2.2 adg ng cg adl nl cl none 0 0) :: (b4, z0) :: []))) _ _ _
      refine QM.then ?_
      first | refine wpM.condD rfl (fun h9 => ?_) (fun h9 => ?_) | refine wpM.condB rfl (fun h9 => ?_) (fun h9 => ?_)
      ·
       have hQ : isL ws i e = true := (by rw [← hq, h9]); have he0 := (isL_lt hQ).2; have hlt := (isL_lt hQ).1
       refine wpM.skip ?_
       refine QM.then ?_
       refine wpM.block ?_
       refine wpM.seq ?_
       refine wpM.seq ?_
       refine wpM.region ?_
       refine LM.val (ov_move rfl) ?_
       refine LM.val (ov_field Tryz.underlying30 rfl Tryz.sizeOf27 rfl (k := 3) rfl rfl) ?_
       first | refine LM.rd (om_ld Tryz.isAgg27 rfl rfl) ?_
       refine LM.val (ov_len Tryz.underlying27 rfl) ?_
       refine LM.cW (oc_call (enters_fn Tryz.func43 (by kernel_rfl) rfl) rfl) (fun w hm hc hg => qlong_spec (ws := ws) b29 i e (nl : Nat) 8 w (SubM.mem (by (repeat' (first | exact SubM.nil _ | refine SubM.cons rfl ?_ | refine SubM.app ?_))) w hm)) rfl (fun hlt => absurd hlt (by omega)) ?_
       refine LM.nil ?_
       refine QM.sub (e' := [(0, _), (4, _), (7, _), (8, _), (84, _)]) ⟨rfl, rfl, rfl, rfl, rfl, trivial⟩ ?_
       refine QM.then ?_
       first | refine wpM.condD rfl (fun h10 => ?_) (fun h10 => ?_) | refine wpM.condB rfl (fun h10 => ?_) (fun h10 => ?_)
       ·
        have h4 : (8 : Int) ≤ (nl : Nat) := (by simpa [he0] using h10); rw [if_pos ⟨he0, h4⟩]
        refine wpM.exit ?_
        refine QM.then_exit ?_
        refine QM.block_miss rfl ?_
        refine QM.then_exit ?_
        refine QM.block_hit ?_
        refine QM.meetK ((i, 6, ls, adl, nl, cl, ml)) ⟨rfl, rfl, rfl, rfl, trivial⟩ (by (repeat' (first | exact SubM.nil _ | refine SubM.cons rfl ?_ | refine SubM.app ?_))) ?_
        · exact ⟨by rw [← hL]; exact lkL_full hQ (by omega), hi, hl8, hnl, hsl⟩
       ·
        have h4 : ¬ (8 : Int) ≤ (nl : Nat) := (fun q => by rw [decide_eq_true q] at h10; simp at h10); rw [if_neg (fun q => h4 q.2)]
        refine wpM.skip ?_
        refine QM.then ?_
        refine wpM.seq ?_
        refine wpM.region ?_
        refine LM.val (ov_move rfl) ?_
        refine LM.callE (oc_call (enters_fn Tryz.func42 (by kernel_rfl) rfl) rfl) (fun w hm hc hg => qis_spec b29 i e 1 wShared w hn (hl.ext hc) (SubM.mem (by (repeat' (first | exact SubM.nil _ | refine SubM.cons rfl ?_ | refine SubM.app ?_))) w hm)) ?_
        refine LM.val (ov_assign rfl) ?_
        refine LM.nil ?_
        refine QM.sub (e' := [(0, _), (4, _), (7, _), (8, _), (9, _)]) ⟨rfl, rfl, rfl, rfl, rfl, trivial⟩ ?_
        refine QM.then ?_
        refine wpM.seq ?_
        refine wpM.region ?_
        refine LM.val (ov_move rfl) ?_
        refine LM.val (ov_nilCheck rfl) ?_
        refine LM.val (ov_field Tryz.underlying80 rfl Tryz.sizeOf3 rfl (k := 1) rfl rfl) ?_
        first | refine LM.rd (om_ld Tryz.isAgg3 rfl rfl) ?_
        refine LM.val (ov_add64 rfl rfl (by omega)) ?_
        refine LM.val (ov_nilCheck rfl) ?_
        refine LM.val (ov_field Tryz.underlying80 rfl Tryz.sizeOf3 rfl (k := 1) rfl rfl) ?_
        refine LM.st Tryz.sizeOf3 rfl rfl rfl (by first | decide | exact Nat.le_of_ble_eq_true rfl | (simp; done) | (simp; omega)) rfl (fun hlt => absurd hlt (by omega)) ?_
        refine LM.nil ?_
        refine QM.sub (e' := [(0, _), (4, _), (7, _), (8, _), (9, _)]) ⟨rfl, rfl, rfl, rfl, rfl, trivial⟩ ?_
        refine QM.then ?_
        refine wpM.keep ((b8, _) :: []) (fun _ => True) (.one 0 0 (.one 1 1 (.one 2 0 (.one 3 0 (.one 4 2 (.one 5 2 (.one 6 2 (.one 7 0 (.last 8))))))))) (by kernel_rfl) (by kernel_rfl) (by (repeat' (first | exact SubM.nil _ | refine SubM.cons rfl ?_ | refine SubM.app ?_))) (fun _ _ => trivial) ?_
        refine KD.val rfl rfl (ov_field Tryz.underlying30 rfl Tryz.sizeOf27 rfl (k := 3) rfl rfl) ?_
        first | refine KD.rd rfl rfl (om_ld Tryz.isAgg27 rfl rfl) ?_
        refine KD.val rfl rfl (ov_move rfl) ?_
        refine KD.val rfl rfl (ov_move rfl) ?_
        refine KD.one rfl ?_
        refine LM.cW (oc_call (enters_fn Tryz.func44 (by kernel_rfl) rfl) rfl) (fun w hm hc hg => qlock_spec (isE ws i e 1 wShared) b29 (i + 1) e w hn hx (hl.ext hc) hab29 (SubM.mem (by (repeat' (first | exact SubM.nil _ | refine SubM.cons rfl ?_ | refine SubM.app ?_))) w hm)) rfl (fun hlt => absurd hlt (by omega)) ?_
        refine LM.nil ?_
        refine QM.one (by (repeat' (first | exact SubM.nil _ | refine SubM.cons rfl ?_ | refine SubM.app ?_))) (fun _ _ => trivial) ?_
        refine KD.one rfl ?_
        refine LM.single Tryz.underlying27 Tryz.sizeOf63 Tryz.zeroValue63 rfl rfl rfl rfl rfl (fun b99 hb99 => ?_)
        refine LM.nil ?_
        refine QM.one (by (repeat' (first | exact SubM.nil _ | refine SubM.cons rfl ?_ | refine SubM.app ?_))) (fun _ _ => trivial) ?_
        refine KD.one rfl ?_
        refine LM.app (a := (lckE ws (isE ws i e 1 wShared) (i + 1) e).2.2) Tryz.underlying27 Tryz.typeInfo63 rfl rfl rfl rfl rfl rfl rfl (by assumption) (by rfl) (by intro _; rfl) (by intro _ u hu; simp [fL] at hu; (repeat (first | (rcases hu with rfl | hu) | subst hu | rfl))) (by first | exact Nat.le_refl _ | omega) (fun p hp hlt => absurd hlt (Nat.not_lt_of_le (Sl.ge (by assumption) p hp))) (by first | omega | (unfold maxLen; omega)) (by simp only [Tryz.t63]; omega) (fun ad100 n100 cap100 m100 hn100 hs100 hin100 => ?_)
        refine LM.nil ?_
        refine QM.one (by (repeat' (first | exact SubM.nil _ | refine SubM.cons rfl ?_ | refine SubM.app ?_))) (fun _ _ => trivial) ?_
        refine KD.val rfl rfl (ov_field Tryz.underlying30 rfl Tryz.sizeOf27 rfl (k := 3) rfl rfl) ?_
        refine KD.last rfl ?_
        refine LM.st Tryz.sizeOf27 rfl rfl rfl (by first | decide | exact Nat.le_of_ble_eq_true rfl | (simp; done) | (simp; omega)) rfl (fun hlt => absurd hlt (by omega)) ?_
        refine LM.nil ?_
        refine QM.qn ?_
        refine QM.sub (e' := [(0, _), (4, _), (7, _), (8, _)]) ⟨rfl, rfl, rfl, rfl, trivial⟩ ?_
        refine QM.block_normal ?_
        refine QM.againK (((lckE ws (isE ws i e 1 wShared) (i + 1) e).1, (lckE ws (isE ws i e 1 wShared) (i + 1) e).2.1, ls ++ [(lckE ws (isE ws i e 1 wShared) (i + 1) e).2.2], ad100, n100, cap100, m100)) ⟨rfl, rfl, rfl, rfl, trivial⟩ (by (repeat' (first | exact SubM.nil _ | refine SubM.cons rfl ?_ | refine SubM.app ?_))) (fun _ h => h) ?_ ?_
        · exact ⟨by rw [← lkL_next hQ (by omega)]; exact hL, lck_le (by omega), by simp; omega, by rw [hn100]; simp, hs100⟩
        · dsimp only; rw [List.length_append, List.length_singleton]; omega
      ·
       refine wpM.exit ?_
       refine QM.then_exit ?_
       refine QM.then_exit ?_
       refine QM.block_hit ?_
       refine QM.meetK ((i, e, ls, adl, nl, cl, ml)) ⟨rfl, rfl, rfl, rfl, trivial⟩ (by (repeat' (first | exact SubM.nil _ | refine SubM.cons rfl ?_ | refine SubM.app ?_))) ?_
       · exact ⟨by rw [← hL]; exact lkL_stop (by rw [← hq, h9]), hi, hl8, hnl, hsl⟩
    ·
     rintro ⟨i2, e2, ls, adl, nl, cl, ml⟩ ⟨hL, hi2, hl8, hnl, hsl⟩
     change QM _ _ _ _ _ (ml ++ (mg ++ (qB b29 ad n cap i2 e2 :: (b8, sO (sA ws i0).2.2 (sB2 ws i0).2.2 adg ng cg adl nl cl none 0 0) :: (b4, z0) :: []))) _ _ _
     refine QM.then ?_
     refine wpM.seq ?_
     refine wpM.region ?_
     refine LM.val (ov_assign rfl) ?_
     refine LM.nil ?_
     refine QM.sub (e' := [(0, _), (4, _), (7, _), (8, _), (10, _)]) ⟨rfl, rfl, rfl, rfl, rfl, trivial⟩ ?_
     refine QM.then ?_
     refine wpM.seq ?_
     refine wpM.joinK (α := Nat × Int × List PgV × Option Addr × Nat × Nat × Mem0 × List Int × Option Addr × Nat × Nat × Mem0 × Mem0) (fun ⟨i3, e3, ps, adp, np, cp, mp, pl, adq, nq, cq, mq, mo⟩ => [(10, .slice adq nq cq)]) [(4, _), (7, _), (8, _)] (fun ⟨i3, e3, ps, adp, np, cp, mp, pl, adq, nq, cq, mq, mo⟩ => mo ++ (mp ++ (mq ++ (ml ++ (mg ++ (qB b29 ad n cap i3 e3 :: (b8, sO (sA ws i0).2.2 (sB2 ws i0).2.2 adg ng cg adl nl cl adp np cp) :: (b4, z0) :: [])))))) (fun ⟨i3, e3, ps, adp, np, cp, mp, pl, adq, nq, cq, mq, mo⟩ => pgL ws i2 e2 [] [] = (ps.map PgV.c, pl, i3, e3) ∧ i3 ≤ ws.length ∧ ps.length ≤ 8 ∧ np = ps.length ∧ Sl fPg 87 2 w.heap.size ps (.slice adp np cp) mp ∧ pl.length = ps.length ∧ nq = pl.length ∧ Sl fI 3 1 w.heap.size pl (.slice adq nq cq) mq ∧ (∀ w, Mem w mo → PgsIn ps w) ∧ (∀ p ∈ mo, w.heap.size ≤ p.1)) ⟨rfl, rfl, rfl, trivial⟩ ?_ ?_
     ·
      refine wpM.block ?_
      refine wpM.loopK0 (α := Nat × Int × List PgV × Option Addr × Nat × Nat × Mem0 × List Int × Option Addr × Nat × Nat × Mem0 × Mem0) (fun ⟨i, e, ps, adp, np, cp, mp, pl, adq, nq, cq, mq, mo⟩ => [(10, .slice adq nq cq)]) [(0, _), (4, _), (7, _), (8, _)] (fun ⟨i, e, ps, adp, np, cp, mp, pl, adq, nq, cq, mq, mo⟩ => mo ++ (mp ++ (mq ++ (ml ++ (mg ++ (qB b29 ad n cap i e :: (b8, sO (sA ws i0).2.2 (sB2 ws i0).2.2 adg ng cg adl nl cl adp np cp) :: (b4, z0) :: [])))))) (fun ⟨i, e, ps, adp, np, cp, mp, pl, adq, nq, cq, mq, mo⟩ => pgL ws i e (ps.map PgV.c) pl = pgL ws i2 e2 [] [] ∧ i ≤ ws.length ∧ ps.length ≤ 8 ∧ np = ps.length ∧ Sl fPg 87 2 w.heap.size ps (.slice adp np cp) mp ∧ pl.length = ps.length ∧ nq = pl.length ∧ Sl fI 3 1 w.heap.size pl (.slice adq nq cq) mq ∧ (∀ w, Mem w mo → PgsIn ps w) ∧ (∀ p ∈ mo, w.heap.size ≤ p.1)) (fun ⟨i, e, ps, adp, np, cp, mp, pl, adq, nq, cq, mq, mo⟩ => 9 - ps.length) ((i2, e2, [], none, 0, 0, [], [], none, 0, 0, [], [])) ⟨(by first | rfl | exact lk rfl (by congr 1; omega) | exact lk rfl (by simp)), rfl, rfl, rfl, rfl, trivial⟩ (by (repeat' (first | exact SubM.nil _ | refine SubM.cons rfl ?_ | refine SubM.app ?_))) ⟨rfl, hi2, by decide, rfl, .nil _ _ _ _, rfl, rfl, .nil _ _ _ _, (fun w _ p hp => by cases hp), (fun p hp => by cases hp)⟩ ?_
      rintro ⟨i, e, ps, adp, np, cp, mp, pl, adq, nq, cq, mq, mo⟩ ⟨hP, hi, hp8, hnp, hsp, hplp, hnq, hsq, hop, hog⟩
      change wpM _ _ _ _ _ _ _ (mo ++ (mp ++ (mq ++ (ml ++ (mg ++ (qB b29 ad n cap i e :: (b8, sO (sA ws i0).2.2 (sB2 ws i0).2.2 adg ng cg adl nl cl adp np cp) :: (b4, z0) :: [])))))) _ _ _
      refine wpM.seq ?_
      refine wpM.seq ?_
      refine wpM.joinK (α := Bool) (fun q => [(116, .bool q)]) [(0, _), (4, _), (7, _), (8, _), (10, _)] (fun q => mo ++ (mp ++ (mq ++ (ml ++ (mg ++ (qB b29 ad n cap i e :: (b8, sO (sA ws i0).2.2 (sB2 ws i0).2.2 adg ng cg adl nl cl adp np cp) :: (b4, z0) :: [])))))) (fun q => q = (isE ws i e 1 wProg || (decide ((np : Int) = 0) && decide (e = 0)))) ⟨rfl, rfl, rfl, rfl, rfl, trivial⟩ ?_ ?_
      ·
       refine wpM.region ?_
       refine LM.val (ov_move rfl) ?_
       refine LM.callE (oc_call (enters_fn Tryz.func42 (by kernel_rfl) rfl) rfl) (fun w hm hc hg => qis_spec b29 i e 1 wProg w hn (hl.ext hc) (SubM.mem (by (repeat' (first | exact SubM.nil _ | refine SubM.cons rfl ?_ | refine SubM.app ?_))) w hm)) ?_
       refine LM.val (ov_move rfl) ?_
       first | refine LM.splitD (t := 104) rfl (fun h11 => ?_) (fun h11 => ?_) | refine LM.splitB (t := 104) rfl (fun h11 => ?_) (fun h11 => ?_)
       ·
        refine LM.drop (t := 104) rfl rfl rfl ?_
        refine LM.drop (t := 104) rfl rfl rfl ?_
        refine LM.drop (t := 104) rfl rfl rfl ?_
        refine LM.drop (t := 104) rfl rfl rfl ?_
        refine LM.dropU (t := 104) rfl rfl rfl ?_
        refine LM.dropX (t := 109) rfl rfl ?_
        refine LM.dropX (t := 109) rfl rfl ?_
        refine LM.dropX (t := 109) rfl rfl ?_
        refine LM.dropX (t := 109) rfl rfl ?_
        refine LM.dropX (t := 109) rfl rfl ?_
        refine LM.drop (t := 104) rfl rfl rfl ?_
        refine LM.val (ov_pickT rfl rfl) ?_
        refine LM.nil ?_
        refine QM.sub (e' := [(0, _), (4, _), (7, _), (8, _), (10, _), (116, _)]) ⟨rfl, rfl, rfl, rfl, rfl, rfl, trivial⟩ ?_
        refine QM.meetK (_) ⟨(by first | rfl | exact lk rfl (by congr 1; omega) | exact lk rfl (by simp)), rfl, rfl, rfl, rfl, rfl, trivial⟩ (by (repeat' (first | exact SubM.nil _ | refine SubM.cons rfl ?_ | refine SubM.app ?_))) ?_
        · (simp [h1, h2, h11]; done)
       ·
        refine LM.strip (t := 104) rfl rfl rfl ?_
        refine LM.val (ov_field Tryz.underlying30 rfl Tryz.sizeOf28 rfl (k := 4) rfl rfl) ?_
        refine LM.strip (t := 104) rfl rfl rfl ?_
        first | refine LM.rd (om_ld Tryz.isAgg28 rfl rfl) ?_
        refine LM.strip (t := 104) rfl rfl rfl ?_
        refine LM.val (ov_len Tryz.underlying28 rfl) ?_
        refine LM.strip (t := 104) rfl rfl rfl ?_
        refine LM.val (ov_eql rfl rfl) ?_
        refine LM.strip (t := 104) rfl rfl rfl ?_
        refine LM.val (ov_move rfl) ?_
        refine LM.splitD (t := 109) rfl (fun h12 => ?_) (fun h12 => ?_)
        ·
         refine LM.strip (t := 109) rfl rfl rfl ?_
         refine LM.val (ov_move rfl) ?_
         refine LM.strip (t := 109) rfl rfl rfl ?_
         refine LM.val (ov_nilCheck rfl) ?_
         refine LM.strip (t := 109) rfl rfl rfl ?_
         refine LM.val (ov_field Tryz.underlying80 rfl Tryz.sizeOf3 rfl (k := 2) rfl rfl) ?_
         refine LM.strip (t := 109) rfl rfl rfl ?_
         first | refine LM.rd (om_ld Tryz.isAgg3 rfl rfl) ?_
         refine LM.strip (t := 109) rfl rfl rfl ?_
         refine LM.val (ov_eql rfl rfl) ?_
         refine LM.strip (t := 104) rfl rfl rfl ?_
         refine LM.val (ov_pickT rfl rfl) ?_
         refine LM.val (ov_pickF rfl rfl) ?_
         refine LM.nil ?_
         refine QM.sub (e' := [(0, _), (4, _), (7, _), (8, _), (10, _), (116, _)]) ⟨rfl, rfl, rfl, rfl, rfl, rfl, trivial⟩ ?_
         refine QM.meetK (_) ⟨(by first | rfl | exact lk rfl (by congr 1; omega) | exact lk rfl (by simp)), rfl, rfl, rfl, rfl, rfl, trivial⟩ (by (repeat' (first | exact SubM.nil _ | refine SubM.cons rfl ?_ | refine SubM.app ?_))) ?_
         · (simp [h1, h2, h11, h12]; done)
        ·
         refine LM.drop (t := 109) rfl rfl rfl ?_
         refine LM.drop (t := 109) rfl rfl rfl ?_
         refine LM.drop (t := 109) rfl rfl rfl ?_
         refine LM.drop (t := 109) rfl rfl rfl ?_
         refine LM.drop (t := 109) rfl rfl rfl ?_
         refine LM.strip (t := 104) rfl rfl rfl ?_
         refine LM.val (ov_pickF rfl rfl) ?_
         refine LM.val (ov_pickF rfl rfl) ?_
         refine LM.nil ?_
         refine QM.sub (e' := [(0, _), (4, _), (7, _), (8, _), (10, _), (116, _)]) ⟨rfl, rfl, rfl, rfl, rfl, rfl, trivial⟩ ?_
         refine QM.meetK (_) ⟨(by first | rfl | exact lk rfl (by congr 1; omega) | exact lk rfl (by simp)), rfl, rfl, rfl, rfl, rfl, trivial⟩ (by (repeat' (first | exact SubM.nil _ | refine SubM.cons rfl ?_ | refine SubM.app ?_))) ?_
         · first | (simp [h1, h2, h11, h12]; done) | (have h0 := decide_eq_false (show ¬ ((np : Nat) : Int) = 0 by omega); simp only [h0, h1, h2, h11, h12, Bool.false_and, Bool.or_false]; done) | (have h0 := decide_eq_false (show ¬ ((np : Nat) : Int) = 0 by omega); simp only [h0, h1, h2, h11, h12, Bool.false_and, Bool.or_false]; rfl)
      ·
       rintro q hq
       change QM _ _ _ _ _ (mo ++ (mp ++ (mq ++ (ml ++ (mg ++ (qB b29 ad n cap i e :: (b8, sO (sA ws i0).2.2 (sB2 ws i0).2.2 adg ng cg adl nl cl adp np cp) :: (b4, z0) :: [])))))) _ _ _
       refine QM.then ?_
       first | refine wpM.condD rfl (fun h13 => ?_) (fun h13 => ?_) | refine wpM.condB rfl (fun h13 => ?_) (fun h13 => ?_)
       ·
        have hQ : isP ws i e (ps.map PgV.c) = true := (by rw [isP_eq, List.length_map, ← h13, hq, hnp, cond0]); have he0 := isP_zero hQ
        refine wpM.skip ?_
        refine QM.then ?_
        refine wpM.block ?_
        refine wpM.seq ?_
        refine wpM.seq ?_
        refine wpM.region ?_
        refine LM.val (ov_move rfl) ?_
        refine LM.val (ov_field Tryz.underlying30 rfl Tryz.sizeOf28 rfl (k := 4) rfl rfl) ?_
        first | refine LM.rd (om_ld Tryz.isAgg28 rfl rfl) ?_
        refine LM.val (ov_len Tryz.underlying28 rfl) ?_
        refine LM.cW (oc_call (enters_fn Tryz.func43 (by kernel_rfl) rfl) rfl) (fun w hm hc hg => qlong_spec (ws := ws) b29 i e (np : Nat) 8 w (SubM.mem (by (repeat' (first | exact SubM.nil _ | refine SubM.cons rfl ?_ | refine SubM.app ?_))) w hm)) rfl (fun hlt => absurd hlt (by omega)) ?_
        refine LM.nil ?_
        refine QM.sub (e' := [(0, _), (4, _), (7, _), (8, _), (10, _), (121, _)]) ⟨rfl, rfl, rfl, rfl, rfl, rfl, trivial⟩ ?_
        refine QM.then ?_
        first | refine wpM.condD rfl (fun h14 => ?_) (fun h14 => ?_) | refine wpM.condB rfl (fun h14 => ?_) (fun h14 => ?_)
        ·
         have h4 : (8 : Int) ≤ (np : Nat) := (by simpa [he0] using h14); rw [if_pos ⟨he0, h4⟩]
         refine wpM.exit ?_
         refine QM.then_exit ?_
         refine QM.block_miss rfl ?_
         refine QM.then_exit ?_
         refine QM.block_hit ?_
         refine QM.meetK ((i, 6, ps, adp, np, cp, mp, pl, adq, nq, cq, mq, mo)) ⟨(by first | rfl | exact lk rfl (by congr 1; omega) | exact lk rfl (by simp)), rfl, rfl, rfl, trivial⟩ (by (repeat' (first | exact SubM.nil _ | refine SubM.cons rfl ?_ | refine SubM.app ?_))) ?_
         · exact ⟨by rw [← hP]; exact pgL_full hQ (by simp; omega), hi, hp8, hnp, hsp, hplp, hnq, hsq, hop, hog⟩
        ·
         have h4 : ¬ (8 : Int) ≤ (np : Nat) := (fun q => by rw [decide_eq_true q] at h14; simp at h14); rw [if_neg (fun q => h4 q.2)]
         refine wpM.skip ?_
         refine QM.then ?_
         refine wpM.seq ?_
         refine wpM.region ?_
         refine LM.val (ov_move rfl) ?_
         refine LM.val (ov_move rfl) ?_
         refine LM.val (ov_nilCheck rfl) ?_
         refine LM.val (ov_field Tryz.underlying80 rfl Tryz.sizeOf3 rfl (k := 1) rfl rfl) ?_
         first | refine LM.rd (om_ld Tryz.isAgg3 rfl rfl) ?_
         refine LM.single Tryz.underlying26 Tryz.sizeOf3 Tryz.zeroValue3 rfl rfl rfl rfl rfl (fun b127 hb127 => ?_)
         refine LM.app (a := (i : Int)) Tryz.underlying26 Tryz.typeInfo3 rfl rfl rfl rfl rfl rfl rfl (by assumption) (by rfl) (by intro _; rfl) (by intro _ u hu; simp [fI] at hu; (repeat (first | (rcases hu with rfl | hu) | subst hu | rfl))) (by first | exact Nat.le_refl _ | omega) (fun p hp hlt => absurd hlt (Nat.not_lt_of_le (Sl.ge (by assumption) p hp))) (by first | omega | (unfold maxLen; omega)) (by simp only [Tryz.t3]; omega) (fun ad128 n128 cap128 m128 hn128 hs128 hin128 => ?_)
         refine LM.val (ov_assign rfl) ?_
         refine LM.nil ?_
         refine QM.sub (e' := [(0, _), (4, _), (7, _), (8, _), (10, _)]) ⟨rfl, rfl, rfl, rfl, rfl, trivial⟩ ?_
         refine QM.then ?_
         refine wpM.seq ?_
         refine wpM.region ?_
         refine LM.val (ov_move rfl) ?_
         refine LM.val (ov_move rfl) ?_
         refine LM.val (ov_nilCheck rfl) ?_
         refine LM.val (ov_field Tryz.underlying80 rfl Tryz.sizeOf3 rfl (k := 1) rfl rfl) ?_
         first | refine LM.rd (om_ld Tryz.isAgg3 rfl rfl) ?_
         refine LM.callT (oc_call (enters_fn Tryz.func45 (by kernel_rfl) rfl) rfl) ParT.mono (fun w hm hc hg => rparse_spec (i : Nat) w hn hx (hl.ext hc)) ?_
         rintro u135 m135 ⟨ad135, n135, cap135, rfl, hn135, hs135⟩ hge135; have hpp := par_pos hi; obtain ⟨j9, hj9⟩ : ∃ j : Nat, (parseO ws (i : Int)).2.2.1 = (j : Int) := ⟨_, (Int.toNat_of_nonneg hpp.1).symm⟩; rw [hj9]
         refine LM.val (ov_move rfl) ?_
         refine LM.val (ov_extract rfl rfl) ?_
         refine LM.val (ov_extract rfl rfl) ?_
         refine LM.val (ov_extract rfl rfl) ?_
         refine LM.alloc Tryz.zeroValue87 rfl (fun b11 hb11 => ?_)
         refine LM.stW Tryz.sizeOf87 rfl rfl rfl rfl (by first | rfl | decide | (simp; done)) (fun hlt => absurd hlt (by omega)) ?_
         refine LM.val (ov_assign rfl) ?_
         refine LM.val (ov_assign rfl) ?_
         refine LM.nil ?_
         refine QM.sub (e' := [(0, _), (4, _), (7, _), (8, _), (10, _), (11, _), (12, _), (13, _)]) ⟨rfl, rfl, rfl, rfl, rfl, rfl, rfl, rfl, trivial⟩ ?_
         refine QM.then ?_
         refine wpM.seq ?_
         refine wpM.region ?_
         refine LM.val (ov_field Tryz.underlying30 rfl Tryz.sizeOf28 rfl (k := 4) rfl rfl) ?_
         first | refine LM.rd (om_ld Tryz.isAgg28 rfl rfl) ?_
         refine LM.rd (om_ldW Tryz.isAgg87 Tryz.sizeOf87 rfl rfl) ?_
         refine LM.single Tryz.underlying28 Tryz.sizeOf87 Tryz.zeroValue87 rfl rfl rfl rfl rfl (fun b142 hb142 => ?_)
         refine LM.app (a := (⟨prC (parseO ws (i : Int)), ad135, n135, cap135⟩ : PgV)) Tryz.underlying28 Tryz.typeInfo87 rfl rfl rfl rfl rfl rfl rfl (by assumption) (by rfl) (by intro _; rfl) (by intro _ u hu; simp [fPg] at hu; (repeat (first | (rcases hu with rfl | hu) | subst hu | rfl))) (by first | exact Nat.le_refl _ | omega) (fun p hp hlt => absurd hlt (Nat.not_lt_of_le (Sl.ge (by assumption) p hp))) (by first | omega | (unfold maxLen; omega)) (by simp only [Tryz.t87]; omega) (fun ad143 n143 cap143 m143 hn143 hs143 hin143 => ?_)
         refine LM.val (ov_field Tryz.underlying30 rfl Tryz.sizeOf28 rfl (k := 4) rfl rfl) ?_
         refine LM.st Tryz.sizeOf28 rfl rfl rfl (by first | decide | exact Nat.le_of_ble_eq_true rfl | (simp; done) | (simp; omega)) rfl (fun hlt => absurd hlt (by omega)) ?_
         refine LM.nil ?_
         refine QM.sub (e' := [(0, _), (4, _), (7, _), (8, _), (10, _), (12, _), (13, _)]) ⟨rfl, rfl, rfl, rfl, rfl, rfl, rfl, trivial⟩ ?_
         refine QM.then ?_
         refine wpM.seq ?_
         refine wpM.region ?_
         refine LM.val (ov_move rfl) ?_
         refine LM.val (ov_move rfl) ?_
         refine LM.val (ov_nilCheck rfl) ?_
         refine LM.val (ov_field Tryz.underlying80 rfl Tryz.sizeOf3 rfl (k := 1) rfl rfl) ?_
         refine LM.st Tryz.sizeOf3 rfl rfl rfl (by first | decide | exact Nat.le_of_ble_eq_true rfl | (simp; done) | (simp; omega)) rfl (fun hlt => absurd hlt (by omega)) ?_
         refine LM.nil ?_
         refine QM.sub (e' := [(0, _), (4, _), (7, _), (8, _), (10, _), (13, _)]) ⟨rfl, rfl, rfl, rfl, rfl, rfl, trivial⟩ ?_
         refine QM.then ?_
         refine wpM.region ?_
         refine LM.val (ov_move rfl) ?_
         refine LM.val (ov_move rfl) ?_
         refine LM.val (ov_nilCheck rfl) ?_
         refine LM.val (ov_field Tryz.underlying80 rfl Tryz.sizeOf3 rfl (k := 2) rfl rfl) ?_
         refine LM.st Tryz.sizeOf3 rfl rfl rfl (by first | decide | exact Nat.le_of_ble_eq_true rfl | (simp; done) | (simp; omega)) rfl (fun hlt => absurd hlt (by omega)) ?_
         refine LM.nil ?_
         refine QM.sub (e' := [(0, _), (4, _), (7, _), (8, _), (10, _)]) ⟨rfl, rfl, rfl, rfl, rfl, trivial⟩ ?_
         refine QM.block_normal ?_
         refine QM.againK ((j9, (parseO ws (i : Int)).2.2.2, ps ++ [(⟨prC (parseO ws (i : Int)), ad135, n135, cap135⟩ : PgV)], ad143, n143, cap143, m143, pl ++ [(i : Int)], ad128, n128, cap128, m128, m135 ++ mo)) ⟨(by first | rfl | exact lk rfl (by congr 1; omega) | exact lk rfl (by simp)), rfl, rfl, rfl, rfl, trivial⟩ (by (repeat' (first | exact SubM.nil _ | refine SubM.cons rfl ?_ | refine SubM.app ?_))) (fun _ h => h) ?_ ?_
         · exact ⟨by rw [snoc_map, ← hP, pgL_next hQ (by simp; omega), hj9, Int.toNat_natCast], by have := hpp.2; rw [hj9, Int.toNat_natCast] at this; exact this, by simp; omega, by rw [hn143]; simp, hs143, by simp [hplp], by rw [hn128]; simp, hs128, (fun w hm => snoc_in (hop w (hm.sub (List.sublist_append_right _ _))) ⟨hn135, sr_of_sl hs135 (fun _ => rfl) (hm.sub (List.sublist_append_left _ _))⟩), List.forall_mem_append.2 ⟨hge135, hog⟩⟩
         · dsimp only; rw [List.length_append, List.length_singleton]; omega
       ·
        refine wpM.exit ?_
        refine QM.then_exit ?_
        refine QM.then_exit ?_
        refine QM.block_hit ?_
        refine QM.meetK ((i, e, ps, adp, np, cp, mp, pl, adq, nq, cq, mq, mo)) ⟨(by first | rfl | exact lk rfl (by congr 1; omega) | exact lk rfl (by simp)), rfl, rfl, rfl, trivial⟩ (by (repeat' (first | exact SubM.nil _ | refine SubM.cons rfl ?_ | refine SubM.app ?_))) ?_
        · exact ⟨by rw [← hP]; exact pgL_stop (by rw [isP_eq, List.length_map, ← h13, hq, hnp, cond0]), hi, hp8, hnp, hsp, hplp, hnq, hsq, hop, hog⟩
     ·
      rintro ⟨i3, e3, ps, adp, np, cp, mp, pl, adq, nq, cq, mq, mo⟩ ⟨hP, hi3, hp8, hnp, hsp, hplp, hnq, hsq, hop, hog⟩
      change QM _ _ _ _ _ (mo ++ (mp ++ (mq ++ (ml ++ (mg ++ (qB b29 ad n cap i3 e3 :: (b8, sO (sA ws i0).2.2 (sB2 ws i0).2.2 adg ng cg adl nl cl adp np cp) :: (b4, z0) :: [])))))) _ _ _
      refine QM.then ?_
      refine wpM.seq ?_
      refine wpM.seq ?_
      refine wpM.region ?_
      refine LM.val (ov_move rfl) ?_
      refine LM.val (ov_nilCheck rfl) ?_
      refine LM.val (ov_field Tryz.underlying80 rfl Tryz.sizeOf3 rfl (k := 2) rfl rfl) ?_
      first | refine LM.rd (om_ld Tryz.isAgg3 rfl rfl) ?_
      refine LM.val (ov_neq rfl rfl) ?_
      refine LM.nil ?_
      refine QM.sub (e' := [(4, _), (7, _), (8, _), (10, _), (157, _)]) ⟨rfl, rfl, rfl, rfl, rfl, trivial⟩ ?_
      refine QM.then ?_
      refine wpM.condD rfl (fun h15 => ?_) (fun h15 => ?_)
      ·
       have hI : SetI ws i0 gs i1 e1 ls i2 e2 (ps.map PgV.c) pl i3 e3 := ⟨⟨(gpM_sG hG).1, fun q => by rw [(gpM_sG hG).2 q]⟩, hL, hP⟩
       refine wpM.seq ?_
       refine wpM.keep ((b29, _) :: []) (fun _ => True) (.one 0 0 (.one 1 0 (.one 2 0 (.one 3 0 (.one 4 1 (.one 5 0 (.one 6 0 (.one 7 0 (.one 8 1 (.one 9 2 (.one 10 0 (.one 11 0 .nil)))))))))))) (by kernel_rfl) (by kernel_rfl) (by (repeat' (first | exact SubM.nil _ | refine SubM.cons rfl ?_ | refine SubM.app ?_))) (fun _ _ => trivial) ?_
       refine KD.val rfl rfl (ov_build (cs := #[_, _, _, _, _]) rfl (by first | rfl | kernel_rfl)) ?_
       refine KD.val rfl rfl (ov_move rfl) ?_
       refine KD.val rfl rfl (ov_nilCheck rfl) ?_
       refine KD.val rfl rfl (ov_field Tryz.underlying80 rfl Tryz.sizeOf3 rfl (k := 1) rfl rfl) ?_
       first | refine KD.rd rfl rfl (om_ld Tryz.isAgg3 rfl rfl) ?_
       refine KD.val rfl rfl (ov_move rfl) ?_
       refine KD.val rfl rfl (ov_nilCheck rfl) ?_
       refine KD.val rfl rfl (ov_field Tryz.underlying80 rfl Tryz.sizeOf3 rfl (k := 2) rfl rfl) ?_
       first | refine KD.rd rfl rfl (om_ld Tryz.isAgg3 rfl rfl) ?_
       refine KD.one rfl ?_
       refine LM.stW Tryz.sizeOf30 rfl rfl rfl rfl (by first | rfl | decide | (simp; done)) (fun hlt => absurd hlt (by omega)) ?_
       refine LM.nil ?_
       refine QM.one (by (repeat' (first | exact SubM.nil _ | refine SubM.cons rfl ?_ | refine SubM.app ?_))) (fun _ _ => trivial) ?_
       refine KD.val rfl rfl (ov_assign rfl) ?_
       refine KD.val rfl rfl (ov_assign rfl) ?_
       refine KD.nil ?_
       refine QM.sub (e' := [(4, _), (5, _), (6, _)]) ⟨rfl, rfl, rfl, trivial⟩ ?_
       refine QM.then ?_
       refine wpM.ret ?_
       refine QM.then_ret ?_
       refine QM.leaveCs (ds := ([])) (.inl rfl) [.cell 4 30, .tmp 5, .tmp 6] Tryz.results12 hd_nil (rc_w rfl Tryz.isAgg30 Tryz.sizeOf30 rfl (rc_tmp rfl (rc_tmp rfl rc_nil))) ?_
       intro w' hm' hc'
       rw [set_nat hi0, hI.bad h15]; exact ⟨hc', [], StT.none, Mem.nil _, fun p hp => by cases hp⟩
      ·
       have he3 : e3 = 0 := Classical.not_not.1 h15; have hI : SetI ws i0 gs i1 e1 ls i2 e2 (ps.map PgV.c) pl i3 e3 := ⟨⟨(gpM_sG hG).1, fun q => by rw [(gpM_sG hG).2 q]⟩, hL, hP⟩
       refine wpM.skip ?_
       refine QM.then ?_
       refine wpM.seq ?_
       refine wpM.seq ?_
       refine wpM.region ?_
       refine LM.val (ov_assign rfl) ?_
       refine LM.nil ?_
       refine QM.sub (e' := [(4, _), (7, _), (8, _), (10, _), (14, _)]) ⟨rfl, rfl, rfl, rfl, rfl, trivial⟩ ?_
       refine QM.then ?_
       refine wpM.block ?_
       refine wpM.loopK0 (α := Nat) (fun j => [(14, .int .i64 (j : Nat))]) [(4, _), (7, _), (8, _), (10, _)] (fun j => mo ++ (mp ++ (mq ++ (ml ++ (mg ++ (qB b29 ad n cap i3 e3 :: (b8, sO (sA ws i0).2.2 (sB2 ws i0).2.2 adg ng cg adl nl cl adp np cp) :: (b4, z0) :: [])))))) (fun j => j ≤ ps.length ∧ ((ps.map PgV.c).take j).any (misB ls ps.length) = false) (fun j => ps.length - j) (0) ⟨(by first | rfl | exact lk rfl (by congr 1; omega) | exact lk rfl (by simp)), rfl, rfl, rfl, rfl, trivial⟩ (by (repeat' (first | exact SubM.nil _ | refine SubM.cons rfl ?_ | refine SubM.app ?_))) ⟨Nat.zero_le _, rfl⟩ ?_
       rintro j ⟨hj, hmis⟩
       change wpM _ _ _ _ _ _ _ (mo ++ (mp ++ (mq ++ (ml ++ (mg ++ (qB b29 ad n cap i3 e3 :: (b8, sO (sA ws i0).2.2 (sB2 ws i0).2.2 adg ng cg adl nl cl adp np cp) :: (b4, z0) :: [])))))) _ _ _
       refine wpM.seq ?_
       refine wpM.seq ?_
       refine wpM.region ?_
       refine LM.val (ov_move rfl) ?_
       refine LM.val (ov_field Tryz.underlying30 rfl Tryz.sizeOf28 rfl (k := 4) rfl rfl) ?_
       first | refine LM.rd (om_ld Tryz.isAgg28 rfl rfl) ?_
       refine LM.val (ov_len Tryz.underlying28 rfl) ?_
       refine LM.val (ov_lss rfl rfl) ?_
       refine LM.nil ?_
       refine QM.sub (e' := [(4, _), (7, _), (8, _), (10, _), (14, _), (171, _)]) ⟨rfl, rfl, rfl, rfl, rfl, rfl, trivial⟩ ?_
       refine QM.then ?_
       refine wpM.condD rfl (fun h16 => ?_) (fun h16 => ?_)
       ·
        have hjl : j < ps.length := (by omega); have hpm : ps.getD j default ∈ ps := List.mem_of_getElem? (getq default hjl)
        refine wpM.skip ?_
        refine QM.then ?_
        refine wpM.seq ?_
        refine wpM.block ?_
        refine wpM.seq ?_
        refine wpM.draw [(0, 0), (1, 1), (2, 0), (3, 0), (4, 1), (5, 0), (6, 1), (7, 0), (8, 1), (9, 0), (10, 2), (11, 0), (12, 0), (13, 0), (14, 0), (15, 0)] (by kernel_rfl) (by kernel_rfl) ?_
        refine LD.val rfl rfl (ov_field Tryz.underlying30 rfl Tryz.sizeOf28 rfl (k := 4) rfl rfl) ?_
        first | refine LD.rd rfl rfl (om_ld Tryz.isAgg28 rfl rfl) ?_
        refine LD.val rfl rfl (ov_move rfl) ?_
        refine LD.val rfl rfl (ov_idxSN (by first | exact Sr.spt (by assumption) | exact Sl.spt (by assumption)) Tryz.underlying28 Tryz.sizeOf87 rfl rfl (by omega)) ?_
        refine LD.rd rfl rfl (om_slA (by assumption) (by intro _; rfl) Tryz.isAgg87 Tryz.sizeOf87 rfl (by exact getq default (by first | omega | (simp only [List.length_set, List.length_append, List.length_cons, List.length_nil]; omega)))) ?_
        refine LD.val rfl rfl (ov_field Tryz.underlying30 rfl Tryz.sizeOf27 rfl (k := 3) rfl rfl) ?_
        first | refine LD.rd rfl rfl (om_ld Tryz.isAgg27 rfl rfl) ?_
        refine LD.val rfl rfl (ov_field Tryz.underlying30 rfl Tryz.sizeOf28 rfl (k := 4) rfl rfl) ?_
        first | refine LD.rd rfl rfl (om_ld Tryz.isAgg28 rfl rfl) ?_
        refine LD.val rfl rfl (ov_len Tryz.underlying28 rfl) ?_
        refine LD.callE rfl rfl (oc_call (enters_fn Tryz.func46 (by kernel_rfl) rfl) rfl) (fun w hm hc hg => rcheck_spec (np : Nat) w (hop w (hm.pick mo) _ hpm).1 (hop w (hm.pick mo) _ hpm).2 hnl (hsl.srM (by intro _; rfl) hm)) ?_
        refine LD.val rfl rfl (ov_move rfl) ?_
        refine LD.val rfl rfl (ov_extract rfl rfl) ?_
        refine LD.val rfl rfl (ov_extract rfl rfl) ?_
        refine LD.val rfl rfl (ov_assign rfl) ?_
        refine LD.val rfl rfl (ov_assign rfl) ?_
        refine LD.nil ?_
        refine QM.sub (e' := [(4, _), (7, _), (8, _), (10, _), (14, _), (16, _)]) ⟨rfl, rfl, rfl, rfl, rfl, rfl, trivial⟩ ?_
        refine QM.then ?_
        refine wpM.seq ?_
        refine wpM.region ?_
        refine LM.val (ov_move rfl) ?_
        refine LM.val (ov_neq rfl rfl) ?_
        refine LM.nil ?_
        refine QM.sub (e' := [(4, _), (7, _), (8, _), (10, _), (14, _), (16, _), (189, _)]) ⟨rfl, rfl, rfl, rfl, rfl, rfl, rfl, trivial⟩ ?_
        refine QM.then ?_
        refine wpM.condD rfl (fun h17 => ?_) (fun h17 => ?_)
        ·
         refine wpM.seq ?_
         refine wpM.keep (mq ++ []) (fun _ => True) (.one 0 0 (.one 1 0 (.one 2 0 (.one 3 0 (.one 4 1 (.one 5 0 (.one 6 2 (.one 7 0 (.one 8 0 .nil))))))))) (by kernel_rfl) (by kernel_rfl) (by (repeat' (first | exact SubM.nil _ | refine SubM.cons rfl ?_ | refine SubM.app ?_))) (fun _ _ => trivial) ?_
         refine KD.val rfl rfl (ov_build (cs := #[_, _, _, _, _]) rfl (by first | rfl | kernel_rfl)) ?_
         refine KD.val rfl rfl (ov_move rfl) ?_
         refine KD.val rfl rfl (ov_move rfl) ?_
         refine KD.val rfl rfl (ov_idxSN (by first | exact Sr.spt (by assumption) | exact Sl.spt (by assumption)) Tryz.underlying26 Tryz.sizeOf3 rfl rfl (by omega)) ?_
         refine KD.rd rfl rfl (om_sl1 (by assumption) (by intro _; rfl) Tryz.isAgg3 rfl rfl (by exact getq 0 (by first | omega | (simp only [List.length_set, List.length_append, List.length_cons, List.length_nil]; omega))) (by rfl)) ?_
         refine KD.val rfl rfl (ov_move rfl) ?_
         refine KD.one rfl ?_
         refine LM.stW Tryz.sizeOf30 rfl rfl rfl rfl (by first | rfl | decide | (simp; done)) (fun hlt => absurd hlt (by omega)) ?_
         refine LM.nil ?_
         refine QM.one (by (repeat' (first | exact SubM.nil _ | refine SubM.cons rfl ?_ | refine SubM.app ?_))) (fun _ _ => trivial) ?_
         refine KD.val rfl rfl (ov_assign rfl) ?_
         refine KD.val rfl rfl (ov_assign rfl) ?_
         refine KD.nil ?_
         refine QM.sub (e' := [(4, _), (5, _), (6, _)]) ⟨rfl, rfl, rfl, trivial⟩ ?_
         refine QM.then ?_
         refine wpM.ret ?_
         refine QM.block_ret ?_
         refine QM.then_ret ?_
         refine QM.then_ret ?_
         refine QM.block_ret ?_
         refine QM.then_ret ?_
         refine QM.leaveCs (ds := ([])) (.inl rfl) [.cell 4 30, .tmp 5, .tmp 6] Tryz.results12 hd_nil (rc_w rfl Tryz.isAgg30 Tryz.sizeOf30 rfl (rc_tmp rfl (rc_tmp rfl rc_nil))) ?_
         intro w' hm' hc'
         rw [set_nat hi0, hI.mis he3 (j := j) (by simpa using hjl) (by rw [List.length_map]; exact hmis) (by rw [map_getD, List.length_map]; unfold misB; rw [← hnp]; simpa using h17), map_getD, List.length_map, ← hnp]; exact ⟨hc', [], StT.none, Mem.nil _, fun p hp => by cases hp⟩
        ·
         refine wpM.skip ?_
         refine QM.block_normal ?_
         refine QM.then ?_
         refine wpM.region ?_
         refine LM.val (ov_move rfl) ?_
         refine LM.val (ov_add64 rfl rfl (by omega)) ?_
         refine LM.val (ov_assign rfl) ?_
         refine LM.nil ?_
         refine QM.sub (e' := [(4, _), (7, _), (8, _), (10, _), (14, _)]) ⟨rfl, rfl, rfl, rfl, rfl, trivial⟩ ?_
         refine QM.againK (j + 1) ⟨(by first | rfl | exact lk rfl (by congr 1; omega) | exact lk rfl (by simp)), rfl, rfl, rfl, rfl, trivial⟩ (by (repeat' (first | exact SubM.nil _ | refine SubM.cons rfl ?_ | refine SubM.app ?_))) (fun _ h => h) ?_ ?_
         · exact ⟨by omega, by rw [any_snoc default (by simp; omega), hmis, Bool.false_or, map_getD]; unfold misB; rw [← hnp]; simpa using h17⟩
         · omega
       ·
        refine wpM.exit ?_
        refine QM.then_exit ?_
        refine QM.then_exit ?_
        refine QM.block_hit ?_
        refine QM.then ?_
        refine wpM.seq ?_
        refine wpM.keep ((b29, _) :: (b8, _) :: []) (fun _ => True) (.one 0 1 (.one 1 0 (.one 2 0 (.one 3 0 (.one 4 1 (.one 5 2 (.one 6 0 (.one 7 0 .nil)))))))) (by kernel_rfl) (by kernel_rfl) (by (repeat' (first | exact SubM.nil _ | refine SubM.cons rfl ?_ | refine SubM.app ?_))) (fun _ _ => trivial) ?_
        refine KD.rd rfl rfl (om_ldW Tryz.isAgg30 Tryz.sizeOf30 rfl rfl) ?_
        refine KD.val rfl rfl (ov_move rfl) ?_
        refine KD.val rfl rfl (ov_nilCheck rfl) ?_
        refine KD.val rfl rfl (ov_field Tryz.underlying80 rfl Tryz.sizeOf3 rfl (k := 1) rfl rfl) ?_
        first | refine KD.rd rfl rfl (om_ld Tryz.isAgg3 rfl rfl) ?_
        refine KD.one rfl ?_
        refine LM.stW Tryz.sizeOf30 rfl rfl rfl rfl (by first | rfl | decide | (simp; done)) (fun hlt => absurd hlt (by omega)) ?_
        refine LM.nil ?_
        refine QM.one (by (repeat' (first | exact SubM.nil _ | refine SubM.cons rfl ?_ | refine SubM.app ?_))) (fun _ _ => trivial) ?_
        refine KD.val rfl rfl (ov_assign rfl) ?_
        refine KD.val rfl rfl (ov_assign rfl) ?_
        refine KD.nil ?_
        refine QM.sub (e' := [(4, _), (5, _), (6, _)]) ⟨rfl, rfl, rfl, trivial⟩ ?_
        refine QM.then ?_
        refine wpM.ret ?_
        refine QM.leaveCs (ds := ([])) (.inl rfl) [.cell 4 30, .tmp 5, .tmp 6] Tryz.results12 hd_nil (rc_w rfl Tryz.isAgg30 Tryz.sizeOf30 rfl (rc_tmp rfl (rc_tmp rfl rc_nil))) ?_
        intro w' hm' hc'
        rw [set_nat hi0, hI.ok he3 (by have hjl : j = ps.length := (by omega); have h9 := hmis; rw [hjl, List.take_of_length_le (by simp)] at h9; rw [List.length_map]; exact h9)]; refine ⟨hc', mo ++ (mp ++ (ml ++ (mg ++ []))), ⟨⟨(sA ws i0).2.2, (sB2 ws i0).2.2, gs, adg, ng, cg, ls, adl, nl, cl, ps, adp, np, cp⟩, rfl, rfl, fun w hm => ⟨hng, sr_of_sl hsg (fun _ => rfl) (hm.pick mg), hnl, sr_of_sl hsl (fun _ => rfl) (hm.pick ml), hnp, sr_of_sl hsp (fun _ => rfl) (hm.pick mp), hop w (hm.pick mo)⟩⟩, SubM.mem (by (repeat' (first | exact SubM.nil _ | refine SubM.app ?_))) w' hm', ?_⟩; intro p hp; simp only [List.mem_append, List.not_mem_nil, or_false] at hp; rcases hp with hp | hp | hp | hp; exact hog p hp; exact Sl.ge hsp p hp; exact Sl.ge hsl p hp; exact Sl.ge hsg p hp

end Go.Eng
set_option linter.unusedVariables false
set_option linter.unusedSimpArgs false
namespace Go.Eng
open Go Go.Proofs Go.RowKit

abbrev stB (b : Nat) (s : StV) : Nat × Obj := (b, sO s.cr s.gr s.ga s.gn s.gc s.la s.ln s.lc s.pa s.pn s.pc)
def headB (s : StC) : Bool := winB s.cr 4 && (winB s.gr 8 && (winB (s.gs.length : Int) 4 && (decide (s.ls.length ≤ 8) && winB (s.ps.length : Int) 8)))
theorem mayS_split (s : StC) : mayS s = (headB s && (s.gs.all (fun n => winB n 16) && (s.ls.all lokB && !s.ps.any (misB s.ls s.ps.length)))) := by
  unfold mayS headB
  ac_rfl
theorem head_eq {s : StV} (h1 : s.gn = s.gs.length) (h2 : s.ln = s.ls.length) (h3 : s.pn = s.ps.length) : headB s.C = !(!winB s.cr 4 || (!winB s.gr 8 || (!winB (s.gn : Int) 4 || (decide ((s.ln : Int) > 8) || !winB (s.pn : Int) 8)))) := by
  unfold headB StV.C
  simp only [List.length_map, ← h1, ← h2, ← h3]
  rw [show decide (s.ln ≤ 8) = !decide ((s.ln : Int) > 8) by rw [← decide_not]; exact decide_eq_decide.2 (by omega)]
  cases winB s.cr 4 <;> cases winB s.gr 8 <;> cases winB (s.gn : Int) 4 <;> cases decide ((s.ln : Int) > 8) <;> cases winB (s.pn : Int) 8 <;> rfl
theorem mayS_head {s : StC} (h : headB s = false) : mayS s = false := by rw [mayS_split, h]; rfl
theorem mayS_gs {s : StC} (h : s.gs.all (fun n => winB n 16) = false) : mayS s = false := by rw [mayS_split, h]; simp
theorem mayS_ls {s : StC} (h : s.ls.all lokB = false) : mayS s = false := by rw [mayS_split, h]; simp
set_option maxRecDepth 100000 in
theorem swithin_spec (n most : Int) (w : World) : Ret Tryz.prog 48 #[.int .i64 n, .int .i64 most] w (fun v w' => v = .bool (winB n most) ∧ Ext w w') := by
 refine Ret.enterM (l := [.int .i64 n, .int .i64 most]) Tryz.func48 rfl Tryz.ntmps48 rfl ([]) (no) (Mem.nil w) ?_
 refine wpM.seq ?_
 refine wpM.region ?_
 refine LM.val (ov_assign rfl) ?_
 refine LM.nil ?_
 refine QM.sub (e' := [(0, _), (1, _)]) ⟨rfl, rfl, trivial⟩ ?_
 refine QM.then ?_
 refine wpM.seq ?_
 refine wpM.region ?_
 refine LM.val (ov_move rfl) ?_
 refine LM.val (ov_geq rfl rfl) ?_
 refine LM.val (ov_move rfl) ?_
 refine LM.splitD (t := 7) rfl (fun h1 => ?_) (fun h1 => ?_)
 ·
  refine LM.strip (t := 7) rfl rfl rfl ?_
  refine LM.val (ov_move rfl) ?_
  refine LM.strip (t := 7) rfl rfl rfl ?_
  refine LM.val (ov_move rfl) ?_
  refine LM.strip (t := 7) rfl rfl rfl ?_
  refine LM.val (ov_leq rfl rfl) ?_
  refine LM.val (ov_pickT rfl rfl) ?_
  refine LM.val (ov_assign rfl) ?_
  refine LM.nil ?_
  refine QM.sub (e' := [(4, _)]) ⟨rfl, trivial⟩ ?_
  refine QM.then ?_
  refine wpM.ret ?_
  refine QM.leave (.inl rfl) [.tmp 4] Tryz.results48 rfl ?_
  intro w' hm' hc' hg'
  refine ⟨?_, hc'⟩; simp only [resV, winB]; first | (rw [decide_eq_true (show 1 ≤ n by omega), Bool.true_and]; done) | (rw [decide_eq_false (show ¬ 1 ≤ n by omega), Bool.false_and]; done)
 ·
  refine LM.drop (t := 7) rfl rfl rfl ?_
  refine LM.drop (t := 7) rfl rfl rfl ?_
  refine LM.drop (t := 7) rfl rfl rfl ?_
  refine LM.val (ov_pickF rfl rfl) ?_
  refine LM.val (ov_assign rfl) ?_
  refine LM.nil ?_
  refine QM.sub (e' := [(4, _)]) ⟨rfl, trivial⟩ ?_
  refine QM.then ?_
  refine wpM.ret ?_
  refine QM.leave (.inl rfl) [.tmp 4] Tryz.results48 rfl ?_
  intro w' hm' hc' hg'
  refine ⟨?_, hc'⟩; simp only [resV, winB]; first | (rw [decide_eq_true (show 1 ≤ n by omega), Bool.true_and]; done) | (rw [decide_eq_false (show ¬ 1 ≤ n by omega), Bool.false_and]; done)

set_option maxRecDepth 100000 in
theorem smay1_spec (n : Int) (w : World) : Ret Tryz.prog 50 #[.int .i64 n] w (fun v w' => v = .bool (!winB n 16) ∧ Ext w w') := by
 refine Ret.enterM (l := [.int .i64 n]) Tryz.func50 rfl Tryz.ntmps50 rfl ([]) (no) (Mem.nil w) ?_
 refine wpM.seq ?_
 refine wpM.region ?_
 refine LM.val (ov_assign rfl) ?_
 refine LM.nil ?_
 refine QM.sub (e' := [(0, _)]) ⟨rfl, trivial⟩ ?_
 refine QM.then ?_
 refine wpM.seq ?_
 refine wpM.region ?_
 refine LM.val (ov_move rfl) ?_
 refine LM.callE (oc_call (enters_fn Tryz.func48 (by kernel_rfl) rfl) rfl) (fun w hm hc hg => swithin_spec n 16 w) ?_
 first | refine LM.val (ov_notD rfl) ?_ | refine LM.val (ov_not rfl) ?_
 refine LM.val (ov_assign rfl) ?_
 refine LM.nil ?_
 refine QM.sub (e' := [(2, _)]) ⟨rfl, trivial⟩ ?_
 refine QM.then ?_
 refine wpM.ret ?_
 refine QM.leave (.inl rfl) [.tmp 2] Tryz.results50 rfl ?_
 intro w' hm' hc' hg'
 exact ⟨rfl, hc'⟩

set_option maxRecDepth 100000 in
theorem lockMay_spec (x : CLk) (w : World) : Ret Tryz.prog 53 #[.agg (fL x).toArray] w (fun v w' => v = .bool (lokB x) ∧ Ext w w') := by
 refine Ret.enterM (l := [.agg (fL x).toArray]) Tryz.func53 rfl Tryz.ntmps53 rfl ([]) (no) (Mem.nil w) ?_
 refine wpM.seq ?_
 refine wpM.region ?_
 refine LM.box rfl rfl (fun b1 hb1 => ?_)
 refine LM.val (ov_assign rfl) ?_
 refine LM.nil ?_
 refine QM.sub (e' := [(1, _)]) ⟨rfl, trivial⟩ ?_
 refine QM.then ?_
 refine wpM.seq ?_
 refine wpM.joinK (α := Bool) (fun q => [(3, .bool q)]) [(1, _)] (fun q => (b1, .cells (fL x).toArray 63 (0, 0)) :: []) (fun q => q = (decide (x.rd = 0) && decide (x.wr = 0))) ⟨rfl, trivial⟩ ?_ ?_
 ·
  refine wpM.region ?_
  refine LM.val (ov_field Tryz.underlying63 rfl Tryz.sizeOf3 rfl (k := 3) rfl rfl) ?_
  first | refine LM.rd (om_ld Tryz.isAgg3 rfl rfl) ?_
  refine LM.val (ov_eql rfl rfl) ?_
  refine LM.val (ov_move rfl) ?_
  refine LM.splitD (t := 7) rfl (fun h1 => ?_) (fun h1 => ?_)
  ·
   refine LM.strip (t := 7) rfl rfl rfl ?_
   refine LM.val (ov_field Tryz.underlying63 rfl Tryz.sizeOf3 rfl (k := 4) rfl rfl) ?_
   refine LM.strip (t := 7) rfl rfl rfl ?_
   first | refine LM.rd (om_ld Tryz.isAgg3 rfl rfl) ?_
   refine LM.strip (t := 7) rfl rfl rfl ?_
   refine LM.val (ov_eql rfl rfl) ?_
   refine LM.val (ov_pickT rfl rfl) ?_
   refine LM.val (ov_assign rfl) ?_
   refine LM.nil ?_
   refine QM.sub (e' := [(1, _), (3, _)]) ⟨rfl, rfl, trivial⟩ ?_
   refine QM.meetK (_) ⟨(by first | rfl | exact lk rfl (by congr 1; omega) | exact lk rfl (by simp)), rfl, trivial⟩ (by (repeat' (first | exact SubM.nil _ | refine SubM.cons rfl ?_ | refine SubM.app ?_))) ?_
   · (simp [h1, -List.getD_eq_getElem?_getD]; done)
  ·
   refine LM.drop (t := 7) rfl rfl rfl ?_
   refine LM.drop (t := 7) rfl rfl rfl ?_
   refine LM.drop (t := 7) rfl rfl rfl ?_
   refine LM.val (ov_pickF rfl rfl) ?_
   refine LM.val (ov_assign rfl) ?_
   refine LM.nil ?_
   refine QM.sub (e' := [(1, _), (3, _)]) ⟨rfl, rfl, trivial⟩ ?_
   refine QM.meetK (_) ⟨(by first | rfl | exact lk rfl (by congr 1; omega) | exact lk rfl (by simp)), rfl, trivial⟩ (by (repeat' (first | exact SubM.nil _ | refine SubM.cons rfl ?_ | refine SubM.app ?_))) ?_
   · (simp [h1, -List.getD_eq_getElem?_getD]; done)
 ·
  rintro q hq
  change QM _ _ _ _ _ ((b1, .cells (fL x).toArray 63 (0, 0)) :: []) _ _ _
  refine QM.then ?_
  refine wpM.seq ?_
  refine wpM.seq ?_
  refine wpM.region ?_
  refine LM.val (ov_field Tryz.underlying63 rfl Tryz.sizeOf4 rfl (k := 0) rfl rfl) ?_
  first | refine LM.rd (om_ld Tryz.isAgg4 rfl rfl) ?_
  refine LM.nil ?_
  refine QM.sub (e' := [(1, _), (3, _), (13, _)]) ⟨rfl, rfl, rfl, trivial⟩ ?_
  refine QM.then ?_
  refine wpM.joinK (α := Bool) (fun q2 => [(3, .bool q2)]) [(1, _)] (fun q2 => (b1, .cells (fL x).toArray 63 (0, 0)) :: []) (fun q2 => q2 = (if x.sh then winB x.rd 16 && winB x.wr 16 else decide (x.rd = 0) && decide (x.wr = 0))) ⟨rfl, trivial⟩ ?_ ?_
  ·
   first | refine wpM.condD rfl (fun h2 => ?_) (fun h2 => ?_) | refine wpM.condB rfl (fun h2 => ?_) (fun h2 => ?_)
   ·
    refine wpM.region ?_
    refine LM.val (ov_field Tryz.underlying63 rfl Tryz.sizeOf3 rfl (k := 3) rfl rfl) ?_
    first | refine LM.rd (om_ld Tryz.isAgg3 rfl rfl) ?_
    refine LM.callE (oc_call (enters_fn Tryz.func48 (by kernel_rfl) rfl) rfl) (fun w hm hc hg => swithin_spec _ _ w) ?_
    refine LM.val (ov_move rfl) ?_
    first | refine LM.splitD (t := 17) rfl (fun h3 => ?_) (fun h3 => ?_) | refine LM.splitB (t := 17) rfl (fun h3 => ?_) (fun h3 => ?_)
    ·
     refine LM.strip (t := 17) rfl rfl rfl ?_
     refine LM.val (ov_field Tryz.underlying63 rfl Tryz.sizeOf3 rfl (k := 4) rfl rfl) ?_
     refine LM.strip (t := 17) rfl rfl rfl ?_
     first | refine LM.rd (om_ld Tryz.isAgg3 rfl rfl) ?_
     refine LM.strip (t := 17) rfl rfl rfl ?_
     refine LM.callE (oc_call (enters_fn Tryz.func48 (by kernel_rfl) rfl) rfl) (fun w hm hc hg => swithin_spec _ _ w) ?_
     refine LM.val (ov_pickT rfl rfl) ?_
     refine LM.val (ov_assign rfl) ?_
     refine LM.nil ?_
     refine QM.sub (e' := [(1, _), (3, _)]) ⟨rfl, rfl, trivial⟩ ?_
     refine QM.meetK (_) ⟨(by first | rfl | exact lk rfl (by congr 1; omega) | exact lk rfl (by simp)), rfl, trivial⟩ (by (repeat' (first | exact SubM.nil _ | refine SubM.cons rfl ?_ | refine SubM.app ?_))) ?_
     · (simp [h2, h3, -List.getD_eq_getElem?_getD]; done)
    ·
     refine LM.drop (t := 17) rfl rfl rfl ?_
     refine LM.drop (t := 17) rfl rfl rfl ?_
     refine LM.drop (t := 17) rfl rfl rfl ?_
     refine LM.val (ov_pickF rfl rfl) ?_
     refine LM.val (ov_assign rfl) ?_
     refine LM.nil ?_
     refine QM.sub (e' := [(1, _), (3, _)]) ⟨rfl, rfl, trivial⟩ ?_
     refine QM.meetK (_) ⟨(by first | rfl | exact lk rfl (by congr 1; omega) | exact lk rfl (by simp)), rfl, trivial⟩ (by (repeat' (first | exact SubM.nil _ | refine SubM.cons rfl ?_ | refine SubM.app ?_))) ?_
     · (simp [h2, h3, -List.getD_eq_getElem?_getD]; done)
   ·
    refine wpM.skip ?_
    refine QM.meetK (_) ⟨(by first | rfl | exact lk rfl (by congr 1; omega) | exact lk rfl (by simp)), rfl, trivial⟩ (by (repeat' (first | exact SubM.nil _ | refine SubM.cons rfl ?_ | refine SubM.app ?_))) ?_
    · first | (simp [h2, -List.getD_eq_getElem?_getD]; done) | (simp_all [-List.getD_eq_getElem?_getD]; done)
  ·
   rintro q2 hq2
   change QM _ _ _ _ _ ((b1, .cells (fL x).toArray 63 (0, 0)) :: []) _ _ _
   refine QM.then ?_
   refine wpM.seq ?_
   refine wpM.region ?_
   refine LM.val (ov_move rfl) ?_
   refine LM.val (ov_move rfl) ?_
   first | refine LM.splitD (t := 23) rfl (fun h4 => ?_) (fun h4 => ?_) | refine LM.splitB (t := 23) rfl (fun h4 => ?_) (fun h4 => ?_)
   ·
    refine LM.strip (t := 23) rfl rfl rfl ?_
    refine LM.val (ov_field Tryz.underlying63 rfl Tryz.sizeOf3 rfl (k := 1) rfl rfl) ?_
    refine LM.strip (t := 23) rfl rfl rfl ?_
    first | refine LM.rd (om_ld Tryz.isAgg3 rfl rfl) ?_
    refine LM.strip (t := 23) rfl rfl rfl ?_
    refine LM.callE (oc_call (enters_fn Tryz.func48 (by kernel_rfl) rfl) rfl) (fun w hm hc hg => swithin_spec _ _ w) ?_
    refine LM.val (ov_pickT rfl rfl) ?_
    refine LM.val (ov_move rfl) ?_
    first | refine LM.splitD (t := 28) rfl (fun h5 => ?_) (fun h5 => ?_) | refine LM.splitB (t := 28) rfl (fun h5 => ?_) (fun h5 => ?_)
    ·
     refine LM.strip (t := 28) rfl rfl rfl ?_
     refine LM.val (ov_field Tryz.underlying63 rfl Tryz.sizeOf3 rfl (k := 2) rfl rfl) ?_
     refine LM.strip (t := 28) rfl rfl rfl ?_
     first | refine LM.rd (om_ld Tryz.isAgg3 rfl rfl) ?_
     refine LM.strip (t := 28) rfl rfl rfl ?_
     refine LM.callE (oc_call (enters_fn Tryz.func48 (by kernel_rfl) rfl) rfl) (fun w hm hc hg => swithin_spec _ _ w) ?_
     refine LM.val (ov_pickT rfl rfl) ?_
     refine LM.val (ov_assign rfl) ?_
     refine LM.nil ?_
     refine QM.sub (e' := [(2, _)]) ⟨rfl, trivial⟩ ?_
     refine QM.then ?_
     refine wpM.ret ?_
     refine QM.leave (.inl rfl) [.tmp 2] Tryz.results53 rfl ?_
     intro w' hm' hc' hg'
     refine ⟨?_, hc'⟩; simp only [resV, lokB, ← hq2]; simp [h4, h5]
    ·
     refine LM.drop (t := 28) rfl rfl rfl ?_
     refine LM.drop (t := 28) rfl rfl rfl ?_
     refine LM.drop (t := 28) rfl rfl rfl ?_
     refine LM.val (ov_pickF rfl rfl) ?_
     refine LM.val (ov_assign rfl) ?_
     refine LM.nil ?_
     refine QM.sub (e' := [(2, _)]) ⟨rfl, trivial⟩ ?_
     refine QM.then ?_
     refine wpM.ret ?_
     refine QM.leave (.inl rfl) [.tmp 2] Tryz.results53 rfl ?_
     intro w' hm' hc' hg'
     refine ⟨?_, hc'⟩; simp only [resV, lokB, ← hq2]; simp [h4, h5]
   ·
    refine LM.drop (t := 23) rfl rfl rfl ?_
    refine LM.drop (t := 23) rfl rfl rfl ?_
    refine LM.drop (t := 23) rfl rfl rfl ?_
    refine LM.val (ov_pickF rfl rfl) ?_
    refine LM.val (ov_move rfl) ?_
    refine LM.drop (t := 28) rfl rfl rfl ?_
    refine LM.drop (t := 28) rfl rfl rfl ?_
    refine LM.drop (t := 28) rfl rfl rfl ?_
    refine LM.val (ov_pickF rfl rfl) ?_
    refine LM.val (ov_assign rfl) ?_
    refine LM.nil ?_
    refine QM.sub (e' := [(2, _)]) ⟨rfl, trivial⟩ ?_
    refine QM.then ?_
    refine wpM.ret ?_
    refine QM.leave (.inl rfl) [.tmp 2] Tryz.results53 rfl ?_
    intro w' hm' hc' hg'
    refine ⟨?_, hc'⟩; simp only [resV, lokB, ← hq2]; simp [h4]

set_option maxRecDepth 100000 in
theorem smay2_spec (x : CLk) (w : World) : Ret Tryz.prog 52 #[.agg (fL x).toArray] w (fun v w' => v = .bool (!lokB x) ∧ Ext w w') := by
 refine Ret.enterM (l := [.agg (fL x).toArray]) Tryz.func52 rfl Tryz.ntmps52 rfl ([]) (no) (Mem.nil w) ?_
 refine wpM.seq ?_
 refine wpM.region ?_
 refine LM.box rfl rfl (fun b1 hb1 => ?_)
 refine LM.val (ov_assign rfl) ?_
 refine LM.nil ?_
 refine QM.sub (e' := [(1, _)]) ⟨rfl, trivial⟩ ?_
 refine QM.then ?_
 refine wpM.seq ?_
 refine wpM.region ?_
 refine LM.rd (om_ldW Tryz.isAgg63 Tryz.sizeOf63 rfl rfl) ?_
 refine LM.callE (oc_call (enters_fn Tryz.func53 (by kernel_rfl) rfl) rfl) (fun w hm hc hg => lockMay_spec x w) ?_
 first | refine LM.val (ov_notD rfl) ?_ | refine LM.val (ov_not rfl) ?_
 refine LM.val (ov_assign rfl) ?_
 refine LM.nil ?_
 refine QM.sub (e' := [(2, _)]) ⟨rfl, trivial⟩ ?_
 refine QM.then ?_
 refine wpM.ret ?_
 refine QM.leave (.inl rfl) [.tmp 2] Tryz.results52 rfl ?_
 intro w' hm' hc' hg'
 exact ⟨rfl, hc'⟩

set_option maxRecDepth 100000 in
theorem ixf_g {xs : List Int} {ad : Option Addr} {n cap : Nat} (w : World) (hn : n = xs.length) (hl : Sr fI 1 xs (.slice ad n cap) w) (hx : xs.length ≤ 1000000) : Ret Tryz.prog 93 #[.slice ad n cap, .func (.func 50) #[] #[]] w (fun v w' => v = .int .i64 (fixI (fun o => (!winB o 16)) xs) ∧ Ext w w') := by
 refine Ret.enterM (l := [.slice ad n cap, .func (.func 50) #[] #[]]) Tryz.func93 rfl Tryz.ntmps93 rfl ([]) (no) (Mem.nil w) ?_
 refine wpM.seq ?_
 refine wpM.region ?_
 refine LM.val (ov_assign rfl) ?_
 refine LM.nil ?_
 refine QM.sub (e' := [(0, _), (1, _)]) ⟨rfl, rfl, trivial⟩ ?_
 refine QM.then ?_
 refine wpM.seq ?_
 refine wpM.seq ?_
 refine wpM.region ?_
 refine LM.val (ov_move rfl) ?_
 refine LM.val (ov_len Tryz.underlying26 rfl) ?_
 refine LM.val (ov_move rfl) ?_
 refine LM.nil ?_
 refine QM.sub (e' := [(0, _), (1, _), (7, _), (8, _)]) ⟨rfl, rfl, rfl, rfl, trivial⟩ ?_
 refine QM.then ?_
 refine wpM.block ?_
 refine wpM.loopK0 (α := Nat) (fun i => [(8, .int .i64 (i : Nat))]) [(0, _), (1, _), (7, _)] (fun i => []) (fun i => i ≤ xs.length ∧ (xs.take i).any (fun o => (!winB o 16)) = false) (fun i => xs.length - i) (0) ⟨(by first | rfl | exact lk rfl (by congr 1; omega) | exact lk rfl (by simp)), rfl, rfl, rfl, trivial⟩ (by (repeat' (first | exact SubM.nil _ | refine SubM.cons rfl ?_ | refine SubM.app ?_))) ⟨Nat.zero_le _, rfl⟩ ?_
 rintro i ⟨hi, ha⟩
 change wpM _ _ _ _ _ _ _ ([]) _ _ _
 refine wpM.seq ?_
 refine wpM.region ?_
 refine LM.val (ov_lss rfl rfl) ?_
 refine LM.nil ?_
 refine QM.sub (e' := [(0, _), (1, _), (7, _), (8, _), (9, _)]) ⟨rfl, rfl, rfl, rfl, rfl, trivial⟩ ?_
 refine QM.then ?_
 refine wpM.seq ?_
 refine wpM.condD rfl (fun h1 => ?_) (fun h1 => ?_)
 ·
  refine wpM.skip ?_
  refine QM.then ?_
  refine wpM.seq ?_
  refine wpM.block ?_
  refine wpM.seq ?_
  refine wpM.region ?_
  refine LM.val (ov_move rfl) ?_
  refine LM.val (ov_assign rfl) ?_
  refine LM.nil ?_
  refine QM.sub (e' := [(0, _), (1, _), (5, _), (7, _), (8, _)]) ⟨rfl, rfl, rfl, rfl, rfl, trivial⟩ ?_
  refine QM.then ?_
  refine wpM.seq ?_
  refine wpM.region ?_
  refine LM.val (ov_move rfl) ?_
  refine LM.val (ov_move rfl) ?_
  refine LM.val (ov_move rfl) ?_
  refine LM.val (ov_idxSN (by first | exact Sr.spt (by assumption) | exact Sl.spt (by assumption)) Tryz.underlying26 Tryz.sizeOf3 rfl rfl (by omega)) ?_
  first | refine LM.rd (om_sl1 (by assumption) (by intro _; rfl) Tryz.isAgg3 rfl rfl (by exact getq 0 (by first | omega | (simp only [List.length_set, List.length_append, List.length_cons, List.length_nil]; omega))) (by rfl)) ?_ | refine LM.rdC (om_sr1 (by assumption) Tryz.isAgg3 rfl rfl (by exact getq 0 (by first | omega | (simp only [List.length_set, List.length_append, List.length_cons, List.length_nil]; omega))) (by rfl) id) ?_ | refine LM.rd (om_ld Tryz.isAgg3 rfl rfl) ?_
  refine LM.callE (oc_callV rfl (enters_fn Tryz.func50 (by kernel_rfl) rfl) rfl) (fun w hm hc hg => smay1_spec _ w) ?_
  refine LM.nil ?_
  refine QM.sub (e' := [(0, _), (1, _), (5, _), (7, _), (8, _), (16, _)]) ⟨rfl, rfl, rfl, rfl, rfl, rfl, trivial⟩ ?_
  refine QM.then ?_
  first | refine wpM.condD rfl (fun h2 => ?_) (fun h2 => ?_) | refine wpM.condB rfl (fun h2 => ?_) (fun h2 => ?_)
  ·
   refine wpM.seq ?_
   refine wpM.region ?_
   refine LM.val (ov_move rfl) ?_
   refine LM.val (ov_assign rfl) ?_
   refine LM.nil ?_
   refine QM.sub (e' := [(4, _)]) ⟨rfl, trivial⟩ ?_
   refine QM.then ?_
   refine wpM.ret ?_
   refine QM.block_ret ?_
   refine QM.then_ret ?_
   refine QM.then_ret ?_
   refine QM.block_ret ?_
   refine QM.then_ret ?_
   refine QM.leave (.inl rfl) [.tmp 4] Tryz.results93 rfl ?_
   intro w' hm' hc' hg'
   exact ⟨by show Value.int .i64 _ = _; rw [fix_hit 0 ha (by omega) (by simpa using h2)], hc'⟩
  ·
   refine wpM.skip ?_
   refine QM.block_normal ?_
   refine QM.then ?_
   refine wpM.region ?_
   refine LM.val (ov_add64 rfl rfl (by omega)) ?_
   refine LM.val (ov_move rfl) ?_
   refine LM.nil ?_
   refine QM.sub (e' := [(0, _), (1, _), (7, _), (8, _)]) ⟨rfl, rfl, rfl, rfl, trivial⟩ ?_
   refine QM.againK (i + 1) ⟨(by first | rfl | exact lk rfl (by congr 1; omega) | exact lk rfl (by simp)), rfl, rfl, rfl, trivial⟩ (by (repeat' (first | exact SubM.nil _ | refine SubM.cons rfl ?_ | refine SubM.app ?_))) (fun _ h => h) ?_ ?_
   · exact ⟨by omega, by rw [any_snoc 0 (by omega), ha, Bool.false_or]; simpa using h2⟩
   · omega
 ·
  refine wpM.exit ?_
  refine QM.then_exit ?_
  refine QM.then_exit ?_
  refine QM.block_hit ?_
  refine QM.then ?_
  refine wpM.seq ?_
  refine wpM.region ?_
  refine LM.val (ov_assign rfl) ?_
  refine LM.nil ?_
  refine QM.sub (e' := [(4, _)]) ⟨rfl, trivial⟩ ?_
  refine QM.then ?_
  refine wpM.ret ?_
  refine QM.leave (.inl rfl) [.tmp 4] Tryz.results93 rfl ?_
  intro w' hm' hc' hg'
  have hil : i = xs.length := (by omega); subst hil; rw [List.take_length] at ha; exact ⟨by show Value.int .i64 _ = _; rw [fix_miss ha], hc'⟩

set_option maxRecDepth 100000 in
theorem cof_g {xs : List Int} {ad : Option Addr} {n cap : Nat} (w : World) (hn : n = xs.length) (hl : Sr fI 1 xs (.slice ad n cap) w) (hx : xs.length ≤ 1000000) : Ret Tryz.prog 49 #[.slice ad n cap, .func (.func 50) #[] #[]] w (fun v w' => v = .bool (xs.any (fun o => (!winB o 16))) ∧ Ext w w') := by
 refine Ret.enterM (l := [.slice ad n cap, .func (.func 50) #[] #[]]) Tryz.func49 rfl Tryz.ntmps49 rfl ([]) (no) (Mem.nil w) ?_
 refine wpM.seq ?_
 refine wpM.region ?_
 refine LM.val (ov_assign rfl) ?_
 refine LM.nil ?_
 refine QM.sub (e' := [(0, _), (1, _)]) ⟨rfl, rfl, trivial⟩ ?_
 refine QM.then ?_
 refine wpM.seq ?_
 refine wpM.region ?_
 refine LM.val (ov_move rfl) ?_
 refine LM.val (ov_move rfl) ?_
 refine LM.callE (oc_call (enters_fn Tryz.func93 (by kernel_rfl) rfl) rfl) (fun w hm hc hg => ixf_g w hn (hl.ext hc) hx) ?_
 refine LM.val (ov_geq rfl rfl) ?_
 refine LM.val (ov_assign rfl) ?_
 refine LM.nil ?_
 refine QM.sub (e' := [(4, _)]) ⟨rfl, trivial⟩ ?_
 refine QM.then ?_
 refine wpM.ret ?_
 refine QM.leave (.inl rfl) [.tmp 4] Tryz.results49 rfl ?_
 intro w' hm' hc' hg'
 exact ⟨by show Value.bool _ = _; rw [← fix_pos], hc'⟩

set_option maxRecDepth 100000 in
theorem ixf_l {xs : List CLk} {ad : Option Addr} {n cap : Nat} (w : World) (hn : n = xs.length) (hl : Sr fL 5 xs (.slice ad n cap) w) (hx : xs.length ≤ 1000000) : Ret Tryz.prog 94 #[.slice ad n cap, .func (.func 52) #[] #[]] w (fun v w' => v = .int .i64 (fixI (fun o => (!lokB o)) xs) ∧ Ext w w') := by
 refine Ret.enterM (l := [.slice ad n cap, .func (.func 52) #[] #[]]) Tryz.func94 rfl Tryz.ntmps94 rfl ([]) (no) (Mem.nil w) ?_
 refine wpM.seq ?_
 refine wpM.region ?_
 refine LM.val (ov_assign rfl) ?_
 refine LM.nil ?_
 refine QM.sub (e' := [(0, _), (1, _)]) ⟨rfl, rfl, trivial⟩ ?_
 refine QM.then ?_
 refine wpM.seq ?_
 refine wpM.seq ?_
 refine wpM.region ?_
 refine LM.val (ov_move rfl) ?_
 refine LM.val (ov_len Tryz.underlying27 rfl) ?_
 refine LM.val (ov_move rfl) ?_
 refine LM.nil ?_
 refine QM.sub (e' := [(0, _), (1, _), (7, _), (8, _)]) ⟨rfl, rfl, rfl, rfl, trivial⟩ ?_
 refine QM.then ?_
 refine wpM.block ?_
 refine wpM.loopK0 (α := Nat) (fun i => [(8, .int .i64 (i : Nat))]) [(0, _), (1, _), (7, _)] (fun i => []) (fun i => i ≤ xs.length ∧ (xs.take i).any (fun o => (!lokB o)) = false) (fun i => xs.length - i) (0) ⟨(by first | rfl | exact lk rfl (by congr 1; omega) | exact lk rfl (by simp)), rfl, rfl, rfl, trivial⟩ (by (repeat' (first | exact SubM.nil _ | refine SubM.cons rfl ?_ | refine SubM.app ?_))) ⟨Nat.zero_le _, rfl⟩ ?_
 rintro i ⟨hi, ha⟩
 change wpM _ _ _ _ _ _ _ ([]) _ _ _
 refine wpM.seq ?_
 refine wpM.region ?_
 refine LM.val (ov_lss rfl rfl) ?_
 refine LM.nil ?_
 refine QM.sub (e' := [(0, _), (1, _), (7, _), (8, _), (9, _)]) ⟨rfl, rfl, rfl, rfl, rfl, trivial⟩ ?_
 refine QM.then ?_
 refine wpM.seq ?_
 refine wpM.condD rfl (fun h1 => ?_) (fun h1 => ?_)
 ·
  refine wpM.skip ?_
  refine QM.then ?_
  refine wpM.seq ?_
  refine wpM.block ?_
  refine wpM.seq ?_
  refine wpM.region ?_
  refine LM.val (ov_move rfl) ?_
  refine LM.val (ov_assign rfl) ?_
  refine LM.nil ?_
  refine QM.sub (e' := [(0, _), (1, _), (5, _), (7, _), (8, _)]) ⟨rfl, rfl, rfl, rfl, rfl, trivial⟩ ?_
  refine QM.then ?_
  refine wpM.seq ?_
  refine wpM.region ?_
  refine LM.val (ov_move rfl) ?_
  refine LM.val (ov_move rfl) ?_
  refine LM.val (ov_move rfl) ?_
  refine LM.val (ov_idxSN (by first | exact Sr.spt (by assumption) | exact Sl.spt (by assumption)) Tryz.underlying27 Tryz.sizeOf63 rfl rfl (by omega)) ?_
  first | refine LM.rd (om_slA (by assumption) (by intro _; rfl) Tryz.isAgg63 Tryz.sizeOf63 rfl (by exact getq default (by first | omega | (simp only [List.length_set, List.length_append, List.length_cons, List.length_nil]; omega)))) ?_ | refine LM.rdC (om_srEA (by assumption) (by intro _; rfl) Tryz.isAgg63 Tryz.sizeOf63 rfl (by exact getq default (by first | omega | (simp only [List.length_set, List.length_append, List.length_cons, List.length_nil]; omega))) id) ?_ | refine LM.rd (om_ldW Tryz.isAgg63 Tryz.sizeOf63 rfl rfl) ?_ | refine LM.rd (om_ldA Tryz.isAgg63 Tryz.sizeOf63 rfl (vs := [_, _, _, _, _]) rfl ⟨rfl, rfl, rfl, rfl, rfl, trivial⟩) ?_
  refine LM.callE (oc_callV rfl (enters_fn Tryz.func52 (by kernel_rfl) rfl) rfl) (fun w hm hc hg => smay2_spec _ w) ?_
  refine LM.nil ?_
  refine QM.sub (e' := [(0, _), (1, _), (5, _), (7, _), (8, _), (16, _)]) ⟨rfl, rfl, rfl, rfl, rfl, rfl, trivial⟩ ?_
  refine QM.then ?_
  first | refine wpM.condD rfl (fun h2 => ?_) (fun h2 => ?_) | refine wpM.condB rfl (fun h2 => ?_) (fun h2 => ?_)
  ·
   refine wpM.seq ?_
   refine wpM.region ?_
   refine LM.val (ov_move rfl) ?_
   refine LM.val (ov_assign rfl) ?_
   refine LM.nil ?_
   refine QM.sub (e' := [(4, _)]) ⟨rfl, trivial⟩ ?_
   refine QM.then ?_
   refine wpM.ret ?_
   refine QM.block_ret ?_
   refine QM.then_ret ?_
   refine QM.then_ret ?_
   refine QM.block_ret ?_
   refine QM.then_ret ?_
   refine QM.leave (.inl rfl) [.tmp 4] Tryz.results94 rfl ?_
   intro w' hm' hc' hg'
   exact ⟨by show Value.int .i64 _ = _; rw [fix_hit default ha (by omega) (by simpa using h2)], hc'⟩
  ·
   refine wpM.skip ?_
   refine QM.block_normal ?_
   refine QM.then ?_
   refine wpM.region ?_
   refine LM.val (ov_add64 rfl rfl (by omega)) ?_
   refine LM.val (ov_move rfl) ?_
   refine LM.nil ?_
   refine QM.sub (e' := [(0, _), (1, _), (7, _), (8, _)]) ⟨rfl, rfl, rfl, rfl, trivial⟩ ?_
   refine QM.againK (i + 1) ⟨(by first | rfl | exact lk rfl (by congr 1; omega) | exact lk rfl (by simp)), rfl, rfl, rfl, trivial⟩ (by (repeat' (first | exact SubM.nil _ | refine SubM.cons rfl ?_ | refine SubM.app ?_))) (fun _ h => h) ?_ ?_
   · exact ⟨by omega, by rw [any_snoc default (by omega), ha, Bool.false_or]; simpa using h2⟩
   · omega
 ·
  refine wpM.exit ?_
  refine QM.then_exit ?_
  refine QM.then_exit ?_
  refine QM.block_hit ?_
  refine QM.then ?_
  refine wpM.seq ?_
  refine wpM.region ?_
  refine LM.val (ov_assign rfl) ?_
  refine LM.nil ?_
  refine QM.sub (e' := [(4, _)]) ⟨rfl, trivial⟩ ?_
  refine QM.then ?_
  refine wpM.ret ?_
  refine QM.leave (.inl rfl) [.tmp 4] Tryz.results94 rfl ?_
  intro w' hm' hc' hg'
  have hil : i = xs.length := (by omega); subst hil; rw [List.take_length] at ha; exact ⟨by show Value.int .i64 _ = _; rw [fix_miss ha], hc'⟩

set_option maxRecDepth 100000 in
theorem cof_l {xs : List CLk} {ad : Option Addr} {n cap : Nat} (w : World) (hn : n = xs.length) (hl : Sr fL 5 xs (.slice ad n cap) w) (hx : xs.length ≤ 1000000) : Ret Tryz.prog 51 #[.slice ad n cap, .func (.func 52) #[] #[]] w (fun v w' => v = .bool (xs.any (fun o => (!lokB o))) ∧ Ext w w') := by
 refine Ret.enterM (l := [.slice ad n cap, .func (.func 52) #[] #[]]) Tryz.func51 rfl Tryz.ntmps51 rfl ([]) (no) (Mem.nil w) ?_
 refine wpM.seq ?_
 refine wpM.region ?_
 refine LM.val (ov_assign rfl) ?_
 refine LM.nil ?_
 refine QM.sub (e' := [(0, _), (1, _)]) ⟨rfl, rfl, trivial⟩ ?_
 refine QM.then ?_
 refine wpM.seq ?_
 refine wpM.region ?_
 refine LM.val (ov_move rfl) ?_
 refine LM.val (ov_move rfl) ?_
 refine LM.callE (oc_call (enters_fn Tryz.func94 (by kernel_rfl) rfl) rfl) (fun w hm hc hg => ixf_l w hn (hl.ext hc) hx) ?_
 refine LM.val (ov_geq rfl rfl) ?_
 refine LM.val (ov_assign rfl) ?_
 refine LM.nil ?_
 refine QM.sub (e' := [(4, _)]) ⟨rfl, trivial⟩ ?_
 refine QM.then ?_
 refine wpM.ret ?_
 refine QM.leave (.inl rfl) [.tmp 4] Tryz.results51 rfl ?_
 intro w' hm' hc' hg'
 exact ⟨by show Value.bool _ = _; rw [← fix_pos], hc'⟩

set_option maxRecDepth 100000 in
theorem misfit_spec {s : StV} (w : World) (hI : s.In w) (hx : s.ps.length ≤ 1000000) : Ret Tryz.prog 39 #[s.val] w (fun v w' => v = .tuple #[.int .i64 (misI s.ls (s.ps.map PgV.c)), .int .i64 (misE s.ls (s.ps.map PgV.c) (misI s.ls (s.ps.map PgV.c)))] ∧ Ext w w') := by
 have hgn := hI.hgn; have hln := hI.hln; have hpn := hI.hpn; have hp := hI.hp; have hg := hI.hg; have hl := hI.hl; have hcl : (s.ps.map PgV.c).length = s.ps.length := List.length_map ..
 refine Ret.enterM (l := [s.val]) Tryz.func39 rfl Tryz.ntmps39 rfl ([]) (no) (Mem.nil w) ?_
 refine wpM.seq ?_
 refine wpM.region ?_
 refine LM.box rfl rfl (fun b1 hb1 => ?_)
 refine LM.val (ov_assign rfl) ?_
 refine LM.val (ov_assign rfl) ?_
 refine LM.nil ?_
 refine QM.sub (e' := [(1, _)]) ⟨rfl, trivial⟩ ?_
 refine QM.then ?_
 refine wpM.seq ?_
 refine wpM.seq ?_
 refine wpM.region ?_
 refine LM.val (ov_field Tryz.underlying30 rfl Tryz.sizeOf28 rfl (k := 4) rfl rfl) ?_
 first | refine LM.rd (om_ld Tryz.isAgg28 rfl rfl) ?_
 refine LM.val (ov_len Tryz.underlying28 rfl) ?_
 refine LM.val (ov_move rfl) ?_
 refine LM.nil ?_
 refine QM.sub (e' := [(1, _), (9, _), (10, _), (11, _)]) ⟨rfl, rfl, rfl, rfl, trivial⟩ ?_
 refine QM.then ?_
 refine wpM.block ?_
 refine wpM.loopK0 (α := Nat) (fun k => [(11, .int .i64 (k : Nat))]) [(1, _), (9, _), (10, _)] (fun k => stB b1 s :: []) (fun k => k ≤ s.ps.length ∧ ((s.ps.map PgV.c).take k).any (misB s.ls (s.pn : Nat)) = false) (fun k => s.ps.length - k) (0) ⟨(by first | rfl | exact lk rfl (by congr 1; omega) | exact lk rfl (by simp)), rfl, rfl, rfl, trivial⟩ (by (repeat' (first | exact SubM.nil _ | refine SubM.cons rfl ?_ | refine SubM.app ?_))) ⟨Nat.zero_le _, rfl⟩ ?_
 rintro k ⟨hk, hap⟩
 change wpM _ _ _ _ _ _ _ (stB b1 s :: []) _ _ _
 refine wpM.seq ?_
 refine wpM.region ?_
 refine LM.val (ov_lss rfl rfl) ?_
 refine LM.nil ?_
 refine QM.sub (e' := [(1, _), (9, _), (10, _), (11, _), (12, _)]) ⟨rfl, rfl, rfl, rfl, rfl, trivial⟩ ?_
 refine QM.then ?_
 refine wpM.seq ?_
 refine wpM.condD rfl (fun h1 => ?_) (fun h1 => ?_)
 ·
  have hpm : s.ps.getD k default ∈ s.ps := List.mem_of_getElem? (getq default (by omega))
  refine wpM.skip ?_
  refine QM.then ?_
  refine wpM.seq ?_
  refine wpM.block ?_
  refine wpM.seq ?_
  refine wpM.region ?_
  refine LM.val (ov_move rfl) ?_
  refine LM.val (ov_idxSN (by first | exact Sr.spt (by assumption) | exact Sl.spt (by assumption)) Tryz.underlying28 Tryz.sizeOf87 rfl rfl (by omega)) ?_
  first | refine LM.rd (om_slA (by assumption) (by intro _; rfl) Tryz.isAgg87 Tryz.sizeOf87 rfl (by exact getq default (by first | omega | (simp only [List.length_set, List.length_append, List.length_cons, List.length_nil]; omega)))) ?_ | refine LM.rdC (om_srEA (by assumption) (by intro _; rfl) Tryz.isAgg87 Tryz.sizeOf87 rfl (by exact getq default (by first | omega | (simp only [List.length_set, List.length_append, List.length_cons, List.length_nil]; omega))) id) ?_ | refine LM.rd (om_ldW Tryz.isAgg87 Tryz.sizeOf87 rfl rfl) ?_ | refine LM.rd (om_ldA Tryz.isAgg87 Tryz.sizeOf87 rfl (vs := [_, _]) rfl ⟨rfl, rfl, trivial⟩) ?_
  refine LM.alloc Tryz.zeroValue87 rfl (fun b5 hb5 => ?_)
  refine LM.val (ov_assign rfl) ?_
  refine LM.stW Tryz.sizeOf87 rfl rfl rfl rfl (by first | rfl | decide | (simp; done)) (fun hlt => absurd hlt (by omega)) ?_
  refine LM.nil ?_
  refine QM.sub (e' := [(1, _), (4, _), (5, _), (9, _), (10, _), (11, _)]) ⟨rfl, rfl, rfl, rfl, rfl, rfl, trivial⟩ ?_
  refine QM.then ?_
  refine wpM.seq ?_
  refine wpM.region ?_
  refine LM.rd (om_ldW Tryz.isAgg87 Tryz.sizeOf87 rfl rfl) ?_
  refine LM.val (ov_field Tryz.underlying30 rfl Tryz.sizeOf27 rfl (k := 3) rfl rfl) ?_
  first | refine LM.rd (om_ld Tryz.isAgg27 rfl rfl) ?_
  refine LM.val (ov_field Tryz.underlying30 rfl Tryz.sizeOf28 rfl (k := 4) rfl rfl) ?_
  first | refine LM.rd (om_ld Tryz.isAgg28 rfl rfl) ?_
  refine LM.val (ov_len Tryz.underlying28 rfl) ?_
  refine LM.callE (oc_call (enters_fn Tryz.func86 (by kernel_rfl) rfl) rfl) (fun w hm hc hg => check_spec (s.pn : Nat) w (hI.ops _ hpm).1 ((hI.ops _ hpm).2.ext hc) hln (hl.ext hc)) ?_
  refine LM.val (ov_move rfl) ?_
  refine LM.val (ov_extract rfl rfl) ?_
  refine LM.val (ov_extract rfl rfl) ?_
  refine LM.val (ov_assign rfl) ?_
  refine LM.val (ov_assign rfl) ?_
  refine LM.nil ?_
  refine QM.sub (e' := [(1, _), (4, _), (7, _), (9, _), (10, _), (11, _)]) ⟨rfl, rfl, rfl, rfl, rfl, rfl, trivial⟩ ?_
  refine QM.then ?_
  refine wpM.seq ?_
  refine wpM.region ?_
  refine LM.val (ov_move rfl) ?_
  refine LM.val (ov_neq rfl rfl) ?_
  refine LM.nil ?_
  refine QM.sub (e' := [(1, _), (4, _), (7, _), (9, _), (10, _), (11, _), (27, _)]) ⟨rfl, rfl, rfl, rfl, rfl, rfl, rfl, trivial⟩ ?_
  refine QM.then ?_
  refine wpM.condD rfl (fun h2 => ?_) (fun h2 => ?_)
  ·
   refine wpM.seq ?_
   refine wpM.region ?_
   refine LM.val (ov_move rfl) ?_
   refine LM.val (ov_move rfl) ?_
   refine LM.val (ov_assign rfl) ?_
   refine LM.val (ov_assign rfl) ?_
   refine LM.nil ?_
   refine QM.sub (e' := [(2, _), (3, _)]) ⟨rfl, rfl, trivial⟩ ?_
   refine QM.then ?_
   refine wpM.ret ?_
   refine QM.block_ret ?_
   refine QM.then_ret ?_
   refine QM.then_ret ?_
   refine QM.block_ret ?_
   refine QM.then_ret ?_
   refine QM.leave (.inl rfl) [.tmp 2, .tmp 3] Tryz.results39 rfl ?_
   intro w' hm' hc' hg'
   have e : misI s.ls (s.ps.map PgV.c) = (k : Nat) := fix_hit default (by rw [hcl, ← hpn]; exact hap) (by rw [hcl]; omega) (by rw [map_getD, hcl, ← hpn]; unfold misB; exact decide_eq_true h2); refine ⟨?_, hc'⟩; rw [e]; unfold misE; rw [if_neg (by omega), Int.toNat_natCast, map_getD, hcl, ← hpn]; rfl
  ·
   refine wpM.skip ?_
   refine QM.block_normal ?_
   refine QM.then ?_
   refine wpM.region ?_
   refine LM.val (ov_add64 rfl rfl (by omega)) ?_
   refine LM.val (ov_move rfl) ?_
   refine LM.nil ?_
   refine QM.sub (e' := [(1, _), (9, _), (10, _), (11, _)]) ⟨rfl, rfl, rfl, rfl, trivial⟩ ?_
   refine QM.againK (k + 1) ⟨(by first | rfl | exact lk rfl (by congr 1; omega) | exact lk rfl (by simp)), rfl, rfl, rfl, trivial⟩ (by (repeat' (first | exact SubM.nil _ | refine SubM.cons rfl ?_ | refine SubM.app ?_))) (fun _ h => h) ?_ ?_
   · exact ⟨by omega, by rw [any_snoc default (by rw [hcl]; omega), hap, Bool.false_or, map_getD]; unfold misB; simpa using h2⟩
   · omega
 ·
  refine wpM.exit ?_
  refine QM.then_exit ?_
  refine QM.then_exit ?_
  refine QM.block_hit ?_
  refine QM.then ?_
  refine wpM.seq ?_
  refine wpM.region ?_
  refine LM.val (ov_assign rfl) ?_
  refine LM.val (ov_assign rfl) ?_
  refine LM.nil ?_
  refine QM.sub (e' := [(2, _), (3, _)]) ⟨rfl, rfl, trivial⟩ ?_
  refine QM.then ?_
  refine wpM.ret ?_
  refine QM.leave (.inl rfl) [.tmp 2, .tmp 3] Tryz.results39 rfl ?_
  intro w' hm' hc' hg'
  have hkp : k = s.ps.length := (by omega); rw [hkp, List.take_of_length_le (by omega)] at hap; have e : misI s.ls (s.ps.map PgV.c) = -1 := fix_miss (by rw [hcl, ← hpn]; exact hap); refine ⟨?_, hc'⟩; rw [e]; rfl

set_option maxRecDepth 100000 in
theorem mayS_spec {s : StV} (w : World) (hI : s.In w) : Ret Tryz.prog 14 #[s.val] w (fun v w' => v = .bool (mayS s.C) ∧ Ext w w') := by
 have hgn := hI.hgn; have hln := hI.hln; have hpn := hI.hpn; have hp := hI.hp; have hg := hI.hg; have hl := hI.hl; have hcl : (s.ps.map PgV.c).length = s.ps.length := List.length_map ..
 refine Ret.enterM (l := [s.val]) Tryz.func14 rfl Tryz.ntmps14 rfl ([]) (no) (Mem.nil w) ?_
 refine wpM.seq ?_
 refine wpM.region ?_
 refine LM.box rfl rfl (fun b1 hb1 => ?_)
 refine LM.val (ov_assign rfl) ?_
 refine LM.nil ?_
 refine QM.sub (e' := [(1, _)]) ⟨rfl, trivial⟩ ?_
 refine QM.then ?_
 refine wpM.seq ?_
 refine wpM.block ?_
 refine wpM.seq ?_
 refine wpM.region ?_
 refine LM.val (ov_field Tryz.underlying30 rfl Tryz.sizeOf3 rfl (k := 0) rfl rfl) ?_
 first | refine LM.rd (om_ld Tryz.isAgg3 rfl rfl) ?_
 refine LM.callE (oc_call (enters_fn Tryz.func48 (by kernel_rfl) rfl) rfl) (fun w hm hc hg => swithin_spec _ _ w) ?_
 first | refine LM.val (ov_notD rfl) ?_ | refine LM.val (ov_not rfl) ?_
 refine LM.val (ov_move rfl) ?_
 first | refine LM.splitD (t := 10) rfl (fun h1 => ?_) (fun h1 => ?_) | refine LM.splitB (t := 10) rfl (fun h1 => ?_) (fun h1 => ?_)
 ·
  refine LM.drop (t := 10) rfl rfl rfl ?_
  refine LM.drop (t := 10) rfl rfl rfl ?_
  refine LM.drop (t := 10) rfl rfl rfl ?_
  refine LM.drop (t := 10) rfl rfl rfl ?_
  refine LM.val (ov_pickT rfl rfl) ?_
  refine LM.val (ov_assign rfl) ?_
  refine LM.nil ?_
  refine QM.sub (e' := [(1, _), (5, _)]) ⟨rfl, rfl, trivial⟩ ?_
  refine QM.then ?_
  refine wpM.condT rfl ?_
  refine wpM.seq ?_
  refine wpM.region ?_
  refine LM.val (ov_assign rfl) ?_
  refine LM.nil ?_
  refine QM.sub (e' := [(2, _)]) ⟨rfl, trivial⟩ ?_
  refine QM.then ?_
  refine wpM.ret ?_
  refine QM.block_ret ?_
  refine QM.then_ret ?_
  refine QM.leave (.inl rfl) [.tmp 2] Tryz.results14 rfl ?_
  intro w' hm' hc' hg'
  refine ⟨?_, hc'⟩; rw [mayS_head (by rw [head_eq hgn hln hpn]; simp [h1])]; rfl
 ·
  refine LM.strip (t := 10) rfl rfl rfl ?_
  refine LM.val (ov_field Tryz.underlying30 rfl Tryz.sizeOf3 rfl (k := 1) rfl rfl) ?_
  refine LM.strip (t := 10) rfl rfl rfl ?_
  first | refine LM.rd (om_ld Tryz.isAgg3 rfl rfl) ?_
  refine LM.strip (t := 10) rfl rfl rfl ?_
  refine LM.callE (oc_call (enters_fn Tryz.func48 (by kernel_rfl) rfl) rfl) (fun w hm hc hg => swithin_spec _ _ w) ?_
  refine LM.strip (t := 10) rfl rfl rfl ?_
  first | refine LM.val (ov_notD rfl) ?_ | refine LM.val (ov_not rfl) ?_
  refine LM.val (ov_pickF rfl rfl) ?_
  refine LM.val (ov_assign rfl) ?_
  refine LM.nil ?_
  refine QM.sub (e' := [(1, _), (5, _)]) ⟨rfl, rfl, trivial⟩ ?_
  refine QM.then ?_
  first | refine wpM.condD rfl (fun h2 => ?_) (fun h2 => ?_) | refine wpM.condB rfl (fun h2 => ?_) (fun h2 => ?_)
  ·
   refine wpM.seq ?_
   refine wpM.region ?_
   refine LM.val (ov_assign rfl) ?_
   refine LM.nil ?_
   refine QM.sub (e' := [(2, _)]) ⟨rfl, trivial⟩ ?_
   refine QM.then ?_
   refine wpM.ret ?_
   refine QM.block_ret ?_
   refine QM.then_ret ?_
   refine QM.leave (.inl rfl) [.tmp 2] Tryz.results14 rfl ?_
   intro w' hm' hc' hg'
   refine ⟨?_, hc'⟩; rw [mayS_head (by rw [head_eq hgn hln hpn]; simp [h1, h2])]; rfl
  ·
   refine wpM.seq ?_
   refine wpM.region ?_
   refine LM.val (ov_field Tryz.underlying30 rfl Tryz.sizeOf26 rfl (k := 2) rfl rfl) ?_
   first | refine LM.rd (om_ld Tryz.isAgg26 rfl rfl) ?_
   refine LM.val (ov_len Tryz.underlying26 rfl) ?_
   refine LM.callE (oc_call (enters_fn Tryz.func48 (by kernel_rfl) rfl) rfl) (fun w hm hc hg => swithin_spec _ _ w) ?_
   first | refine LM.val (ov_notD rfl) ?_ | refine LM.val (ov_not rfl) ?_
   refine LM.val (ov_move rfl) ?_
   first | refine LM.splitD (t := 22) rfl (fun h3 => ?_) (fun h3 => ?_) | refine LM.splitB (t := 22) rfl (fun h3 => ?_) (fun h3 => ?_)
   ·
    refine LM.drop (t := 22) rfl rfl rfl ?_
    refine LM.drop (t := 22) rfl rfl rfl ?_
    refine LM.drop (t := 22) rfl rfl rfl ?_
    refine LM.val (ov_pickT rfl rfl) ?_
    refine LM.val (ov_assign rfl) ?_
    refine LM.nil ?_
    refine QM.sub (e' := [(1, _), (16, _)]) ⟨rfl, rfl, trivial⟩ ?_
    refine QM.then ?_
    refine wpM.condT rfl ?_
    refine wpM.seq ?_
    refine wpM.region ?_
    refine LM.val (ov_assign rfl) ?_
    refine LM.nil ?_
    refine QM.sub (e' := [(2, _)]) ⟨rfl, trivial⟩ ?_
    refine QM.then ?_
    refine wpM.ret ?_
    refine QM.block_ret ?_
    refine QM.then_ret ?_
    refine QM.leave (.inl rfl) [.tmp 2] Tryz.results14 rfl ?_
    intro w' hm' hc' hg'
    refine ⟨?_, hc'⟩; rw [mayS_head (by rw [head_eq hgn hln hpn]; simp [h1, h2, h3])]; rfl
   ·
    refine LM.strip (t := 22) rfl rfl rfl ?_
    refine LM.val (ov_field Tryz.underlying30 rfl Tryz.sizeOf26 rfl (k := 2) rfl rfl) ?_
    refine LM.strip (t := 22) rfl rfl rfl ?_
    first | refine LM.rd (om_ld Tryz.isAgg26 rfl rfl) ?_
    refine LM.strip (t := 22) rfl rfl rfl ?_
    refine LM.callE (oc_call (enters_fn Tryz.func49 (by kernel_rfl) rfl) rfl) (fun w hm hc hg => cof_g w hgn (hI.hg.ext hc) (by have h9 : winB (s.gn : Int) 4 = true := (by simpa using h3); have := (winL _ _).1 h9; omega)) ?_
    refine LM.val (ov_pickF rfl rfl) ?_
    refine LM.val (ov_assign rfl) ?_
    refine LM.nil ?_
    refine QM.sub (e' := [(1, _), (16, _)]) ⟨rfl, rfl, trivial⟩ ?_
    refine QM.then ?_
    first | refine wpM.condD rfl (fun h4 => ?_) (fun h4 => ?_) | refine wpM.condB rfl (fun h4 => ?_) (fun h4 => ?_)
    ·
     refine wpM.seq ?_
     refine wpM.region ?_
     refine LM.val (ov_assign rfl) ?_
     refine LM.nil ?_
     refine QM.sub (e' := [(2, _)]) ⟨rfl, trivial⟩ ?_
     refine QM.then ?_
     refine wpM.ret ?_
     refine QM.block_ret ?_
     refine QM.then_ret ?_
     refine QM.leave (.inl rfl) [.tmp 2] Tryz.results14 rfl ?_
     intro w' hm' hc' hg'
     refine ⟨?_, hc'⟩; rw [mayS_gs (s := s.C) (by show s.gs.all _ = false; rw [all_any, h4]; rfl)]; rfl
    ·
     refine wpM.seq ?_
     refine wpM.region ?_
     refine LM.val (ov_field Tryz.underlying30 rfl Tryz.sizeOf27 rfl (k := 3) rfl rfl) ?_
     first | refine LM.rd (om_ld Tryz.isAgg27 rfl rfl) ?_
     refine LM.val (ov_len Tryz.underlying27 rfl) ?_
     refine LM.val (ov_gtr rfl rfl) ?_
     refine LM.val (ov_move rfl) ?_
     refine LM.splitD (t := 32) rfl (fun h5 => ?_) (fun h5 => ?_)
     ·
      refine LM.drop (t := 32) rfl rfl rfl ?_
      refine LM.drop (t := 32) rfl rfl rfl ?_
      refine LM.drop (t := 32) rfl rfl rfl ?_
      refine LM.val (ov_pickT rfl rfl) ?_
      refine LM.val (ov_assign rfl) ?_
      refine LM.nil ?_
      refine QM.sub (e' := [(1, _), (27, _)]) ⟨rfl, rfl, trivial⟩ ?_
      refine QM.then ?_
      refine wpM.condT rfl ?_
      refine wpM.seq ?_
      refine wpM.region ?_
      refine LM.val (ov_assign rfl) ?_
      refine LM.nil ?_
      refine QM.sub (e' := [(2, _)]) ⟨rfl, trivial⟩ ?_
      refine QM.then ?_
      refine wpM.ret ?_
      refine QM.block_ret ?_
      refine QM.then_ret ?_
      refine QM.leave (.inl rfl) [.tmp 2] Tryz.results14 rfl ?_
      intro w' hm' hc' hg'
      refine ⟨?_, hc'⟩; rw [mayS_head (by rw [head_eq hgn hln hpn]; simp [h1, h2, h3, h4, h5])]; rfl
     ·
      refine LM.strip (t := 32) rfl rfl rfl ?_
      refine LM.val (ov_field Tryz.underlying30 rfl Tryz.sizeOf27 rfl (k := 3) rfl rfl) ?_
      refine LM.strip (t := 32) rfl rfl rfl ?_
      first | refine LM.rd (om_ld Tryz.isAgg27 rfl rfl) ?_
      refine LM.strip (t := 32) rfl rfl rfl ?_
      refine LM.callE (oc_call (enters_fn Tryz.func51 (by kernel_rfl) rfl) rfl) (fun w hm hc hg => cof_l w hln (hl.ext hc) (by omega)) ?_
      refine LM.val (ov_pickF rfl rfl) ?_
      refine LM.val (ov_assign rfl) ?_
      refine LM.nil ?_
      refine QM.sub (e' := [(1, _), (27, _)]) ⟨rfl, rfl, trivial⟩ ?_
      refine QM.then ?_
      first | refine wpM.condD rfl (fun h6 => ?_) (fun h6 => ?_) | refine wpM.condB rfl (fun h6 => ?_) (fun h6 => ?_)
      ·
       refine wpM.seq ?_
       refine wpM.region ?_
       refine LM.val (ov_assign rfl) ?_
       refine LM.nil ?_
       refine QM.sub (e' := [(2, _)]) ⟨rfl, trivial⟩ ?_
       refine QM.then ?_
       refine wpM.ret ?_
       refine QM.block_ret ?_
       refine QM.then_ret ?_
       refine QM.leave (.inl rfl) [.tmp 2] Tryz.results14 rfl ?_
       intro w' hm' hc' hg'
       refine ⟨?_, hc'⟩; rw [mayS_ls (s := s.C) (by show s.ls.all _ = false; rw [all_any, h6]; rfl)]; rfl
      ·
       refine wpM.seq ?_
       refine wpM.region ?_
       refine LM.val (ov_field Tryz.underlying30 rfl Tryz.sizeOf28 rfl (k := 4) rfl rfl) ?_
       first | refine LM.rd (om_ld Tryz.isAgg28 rfl rfl) ?_
       refine LM.val (ov_len Tryz.underlying28 rfl) ?_
       refine LM.callE (oc_call (enters_fn Tryz.func48 (by kernel_rfl) rfl) rfl) (fun w hm hc hg => swithin_spec _ _ w) ?_
       first | refine LM.val (ov_notD rfl) ?_ | refine LM.val (ov_not rfl) ?_
       refine LM.val (ov_assign rfl) ?_
       refine LM.nil ?_
       refine QM.sub (e' := [(1, _), (37, _)]) ⟨rfl, rfl, trivial⟩ ?_
       refine QM.then ?_
       first | refine wpM.condD rfl (fun h7 => ?_) (fun h7 => ?_) | refine wpM.condB rfl (fun h7 => ?_) (fun h7 => ?_)
       ·
        refine wpM.seq ?_
        refine wpM.region ?_
        refine LM.val (ov_assign rfl) ?_
        refine LM.nil ?_
        refine QM.sub (e' := [(2, _)]) ⟨rfl, trivial⟩ ?_
        refine QM.then ?_
        refine wpM.ret ?_
        refine QM.block_ret ?_
        refine QM.then_ret ?_
        refine QM.leave (.inl rfl) [.tmp 2] Tryz.results14 rfl ?_
        intro w' hm' hc' hg'
        refine ⟨?_, hc'⟩; rw [mayS_head (by rw [head_eq hgn hln hpn]; simp [h1, h2, h3, h4, h5, h6, h7])]; rfl
       ·
        refine wpM.skip ?_
        refine QM.block_normal ?_
        refine QM.then ?_
        refine wpM.seq ?_
        refine wpM.region ?_
        refine LM.rd (om_ldW Tryz.isAgg30 Tryz.sizeOf30 rfl rfl) ?_
        refine LM.callE (oc_call (enters_fn Tryz.func39 (by kernel_rfl) rfl) rfl) (fun w hm hc hg => misfit_spec w (hI.ext hc) (by have h9 : winB (s.pn : Int) 8 = true := (by simpa using h7); have := (winL _ _).1 h9; omega)) ?_
        refine LM.val (ov_move rfl) ?_
        refine LM.val (ov_extract rfl rfl) ?_
        refine LM.val (ov_extract rfl rfl) ?_
        refine LM.val (ov_assign rfl) ?_
        refine LM.val (ov_assign rfl) ?_
        refine LM.nil ?_
        refine QM.sub (e' := [(3, _)]) ⟨rfl, trivial⟩ ?_
        refine QM.then ?_
        refine wpM.seq ?_
        refine wpM.region ?_
        refine LM.val (ov_move rfl) ?_
        refine LM.val (ov_lss rfl rfl) ?_
        refine LM.val (ov_assign rfl) ?_
        refine LM.nil ?_
        refine QM.sub (e' := [(2, _)]) ⟨rfl, trivial⟩ ?_
        refine QM.then ?_
        refine wpM.ret ?_
        refine QM.leave (.inl rfl) [.tmp 2] Tryz.results14 rfl ?_
        intro w' hm' hc' hg'
        have hhd : headB s.C = true := (by rw [head_eq hgn hln hpn]; simp [h1, h2, h3, h4, h5, h6, h7]); have hgs : s.gs.all (fun n => winB n 16) = true := (by rw [all_any, h4]; rfl); have hls : s.ls.all lokB = true := (by rw [all_any, h6]; rfl); have hmi : decide (misI s.ls (s.ps.map PgV.c) < 0) = !(s.ps.map PgV.c).any (misB s.ls (s.ps.map PgV.c).length) := (by unfold misI; rw [← fix_pos, ← decide_not]; exact decide_eq_decide.2 (by omega)); refine ⟨?_, hc'⟩; rw [mayS_split, hhd]; show Value.bool (decide (misI s.ls (s.ps.map PgV.c) < 0)) = Value.bool (true && (s.gs.all (fun n => winB n 16) && (s.ls.all lokB && !(s.ps.map PgV.c).any (misB s.ls (s.ps.map PgV.c).length)))); rw [hmi, hgs, hls]; rfl

end Go.Eng
set_option linter.unusedVariables false
set_option linter.unusedSimpArgs false
namespace Go.Eng
open Go Go.RowKit

structure Act where
  k : Int
  a : Int
  b : Int
  c : Int
  d : Int
deriving DecidableEq
instance : Inhabited Act := ⟨⟨0, 0, 0, 0, 0⟩⟩
def fA (o : Act) : List Value := [.int .i64 o.k, .int .i64 o.a, .int .i64 o.b, .int .i64 o.c, .int .i64 o.d]
/-! what is parsed may be -/
end Go.Eng
set_option linter.unusedVariables false
set_option linter.unusedSimpArgs false
namespace Go.Eng
open Go Go.Proofs Go.RowKit

theorem scanF_len (s : List UInt8) : ∀ (f i : Nat) (last : Int) (out : List Wrd), (scanF f s i last out).1.length ≤ out.length + f
  | 0, i, last, out => Nat.le_refl _
  | f + 1, i, last, out => by
    rw [scanF]
    split
    · show out.length ≤ _; omega
    split
    · have := scanF_len s f (i + 1) last out; omega
    split
    · have := scanF_len s f (i + runL notNl s i) last out; omega
    split
    · exact Nat.zero_le _
    · have := scanF_len s f (oneO s i).2.1 ((oneO s i).2.1 : Nat) (out ++ [(oneO s i).1]); rw [List.length_append, List.length_singleton] at this; omega
theorem scan_len (s : List UInt8) : (scanO s).1.length ≤ s.length := by
  unfold scanO; split
  · exact Nat.zero_le _
  · have := scanF_len s (s.length - 0) 0 (-1) []; unfold scanR; simp only [List.length_nil] at this; omega
end Go.Eng
set_option linter.unusedVariables false
set_option linter.unusedSimpArgs false
namespace Go.Eng
open Go Go.Proofs Go.RowKit

end Go.Eng
set_option linter.unusedVariables false
set_option linter.unusedSimpArgs false
namespace Go.Eng
open Go Go.Proofs Go.RowKit

end Go.Eng
set_option linter.unusedVariables false
set_option linter.unusedSimpArgs false
namespace Go.Eng
open Go Go.Proofs Go.RowKit

end Go.Eng
set_option linter.unusedVariables false
set_option linter.unusedSimpArgs false
namespace Go.Eng
open Go Go.Proofs Go.RowKit

def EachT (fv : Bool) (ad : Option Addr) (n cap : Nat) (n0 : Nat) (v : Value) (m : Mem0) : Prop := ∃ b1, v = .func (.func 150) #[] #[.pointer (some ⟨b1, 0, none⟩)] ∧ m = [pB b1 fv ad n cap] ∧ n0 ≤ b1
theorem EachT.mono {fv : Bool} {ad : Option Addr} {n cap : Nat} : ∀ (k k' : Nat) u m, k' ≤ k → EachT fv ad n cap k u m → EachT fv ad n cap k' u m := fun k k' u m h ⟨b1, h1, h2, h3⟩ => ⟨b1, h1, h2, by omega⟩
end Go.Eng
set_option linter.unusedVariables false
set_option linter.unusedSimpArgs false
namespace Go.Eng
open Go Go.Proofs Go.RowKit

end Go.Eng
set_option linter.unusedVariables false
set_option linter.unusedSimpArgs false
namespace Go.Eng
open Go Go.Proofs Go.RowKit

def AcT (r : List Act × Int × Int) (n0 : Nat) (v : Value) (m : Mem0) : Prop := ∃ ad n cap, v = .tuple #[.slice ad n cap, .int .i64 r.2.1, .int .i64 r.2.2] ∧ n = r.1.length ∧ Sl fA 123 5 n0 r.1 (.slice ad n cap) m
theorem AcT.mono {r : List Act × Int × Int} : ∀ (k k' : Nat) u m, k' ≤ k → AcT r k u m → AcT r k' u m := fun k k' u m h ⟨ad, n, cap, h1, h2, h3⟩ => ⟨ad, n, cap, h1, h2, h3.mono h⟩
end Go.Eng
set_option linter.unusedVariables false
set_option linter.unusedSimpArgs false
namespace Go.Eng
open Go Go.Proofs Go.RowKit

end Go.Eng
