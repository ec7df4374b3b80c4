/- The walks of setups that are the same. No condition. -/
import Derived.Test.YtbndlommbpkijaaGreatDoorM4
import Derived.Test.YtbndlommbpkijaaGreatDoorM1
import Derived.Test.YtbndlommbpkijaaGreatDoorM2
import Derived.Lib.AtoiErrMem
set_option linter.unusedVariables false
set_option linter.unusedSimpArgs false
namespace Go.Eng
open Go Go.Proofs Go.RowKit
theorem eq_atD {α : Type} (d : α) {xs ys : List α} {i : Nat} (hl : xs.length = ys.length) (h : i < xs.length) (hp : xs.take i = ys.take i) (e : xs.getD i d = ys.getD i d) : xs.take (i + 1) = ys.take (i + 1) := by
  rw [take_snoc d h, take_snoc d (hl ▸ h), hp, e]
theorem eq_all {α : Type} {xs ys : List α} {i : Nat} (hl : xs.length = ys.length) (h : xs.length ≤ i) (hp : xs.take i = ys.take i) : xs = ys := by
  rw [List.take_of_length_le h, List.take_of_length_le (hl ▸ h)] at hp; exact hp
theorem fL_veqs (a b : CLk) : veqs (fL a) (fL b) = decide (a = b) := by
  cases a; cases b; simp only [veqs, veq, fL, Bool.and_true, CLk.mk.injEq, Bool.decide_and]; rfl
structure StV.Bd (s : StV) : Prop where
  g : s.gs.length ≤ 1000000
  l : s.ls.length ≤ 1000000
  p : s.ps.length ≤ 1000000
  o : ∀ p ∈ s.ps, p.c.xs.length ≤ 1000000
theorem eqS (a b : StV) : decide (a.C = b.C) = (decide (a.cr = b.cr) && (decide (a.gr = b.gr) && (decide (a.gs = b.gs) && (decide (a.ls = b.ls) && decide (a.ps.map PgV.c = b.ps.map PgV.c))))) := by
  simp only [StV.C, StC.mk.injEq, Bool.decide_and]
theorem pgc_eq (p q : PgC) : (decide (p.fv = q.fv) && decide (p.xs = q.xs)) = decide (p = q) := by
  cases p; cases q; simp only [PgC.mk.injEq, Bool.decide_and]
set_option maxRecDepth 100000 in
theorem eqs_i {xs ys : List Int} {ad1 ad2 : Option Addr} {n1 n2 cap1 cap2 : Nat} (w : World) (hn1 : n1 = xs.length) (hl1 : Sr fI 1 xs (.slice ad1 n1 cap1) w) (hn2 : n2 = ys.length) (hl2 : Sr fI 1 ys (.slice ad2 n2 cap2) w) (hx : xs.length ≤ 1000000000) : Ret Tryz.prog 62 #[.slice ad1 n1 cap1, .slice ad2 n2 cap2] w (fun v w' => v = .bool (decide (xs = ys)) ∧ Ext w w') := by
 refine Ret.enterM (l := [.slice ad1 n1 cap1, .slice ad2 n2 cap2]) Tryz.func62 rfl Tryz.ntmps62 rfl ([]) (no) (Mem.nil w) ?_
 refine wpM.seq (wpM.region ?_)
 refine LM.as rfl ?_
 refine LM.nil (QM.sub (e' := [(0, _), (1, _)]) ⟨rfl, rfl, trivial⟩ (QM.then ?_))
 refine wpM.seq ?_
 refine wpM.seq (wpM.region ?_)
 refine LM.mv rfl ?_
 refine LM.val (ov_len Tryz.underlying26 rfl) ?_
 refine LM.mv rfl ?_
 refine LM.val (ov_len Tryz.underlying26 rfl) ?_
 refine LM.val (ov_neq rfl rfl) ?_
 refine LM.nil (QM.sub (e' := [(0, _), (1, _), (10, _)]) ⟨rfl, rfl, rfl, trivial⟩ (QM.then ?_))
 refine wpM.condD rfl (fun h1 => ?_) (fun h1 => ?_)
 ·
  refine wpM.seq (wpM.region ?_)
  refine LM.as rfl ?_
  refine LM.nil (QM.sub (e' := [(4, _)]) ⟨rfl, trivial⟩ (QM.then ?_))
  refine wpM.ret ?_
  refine QM.then_ret ?_
  refine QM.leave (.inl rfl) [.tmp 4] Tryz.results62 rfl ?_
  intro w' hm' hc' hg'
  refine ⟨?_, hc'⟩; show Value.bool false = _; rw [decide_eq_false (show ¬ xs = ys by intro q; have := congrArg List.length q; omega)]
 refine wpM.skip ?_
 refine QM.then ?_
 refine wpM.seq ?_
 refine wpM.seq (wpM.region ?_)
 refine LM.mv rfl ?_
 refine LM.val (ov_len Tryz.underlying26 rfl) ?_
 refine LM.mv rfl ?_
 refine LM.nil (QM.sub (e' := [(0, _), (1, _), (12, _), (13, _)]) ⟨rfl, rfl, rfl, rfl, trivial⟩ (QM.then ?_))
 refine wpM.block ?_
 refine wpM.loopK0 (α := Nat) (fun i => [(13, .int .i64 (i : Nat))]) [(0, _), (1, _), (12, _)] (fun i => []) (fun i => i ≤ xs.length ∧ xs.take i = ys.take i) (fun i => xs.length - i) (0) ⟨au2, rfl, rfl, rfl, trivial⟩ au1 ⟨Nat.zero_le _, rfl⟩ ?_
 rintro i ⟨hi, ha⟩
 change wpM _ _ _ _ _ _ _ ([]) _ _ _
 refine wpM.seq (wpM.region ?_)
 refine LM.val (ov_lss rfl rfl) ?_
 refine LM.nil (QM.sub (e' := [(0, _), (1, _), (12, _), (13, _), (14, _)]) ⟨rfl, rfl, rfl, rfl, rfl, trivial⟩ (QM.then ?_))
 refine wpM.seq ?_
 refine wpM.condD rfl (fun h2 => ?_) (fun h2 => ?_)
 ·
  refine wpM.skip ?_
  refine QM.then ?_
  refine wpM.seq ?_
  refine wpM.block ?_
  refine wpM.seq (wpM.region ?_)
  refine LM.mv rfl ?_
  refine LM.as rfl ?_
  refine LM.nil (QM.sub (e' := [(0, _), (1, _), (5, _), (12, _), (13, _)]) ⟨rfl, rfl, rfl, rfl, rfl, trivial⟩ (QM.then ?_))
  refine wpM.seq ?_
  refine wpM.draw [(0, 0), (1, 0), (2, 0), (3, 1), (4, 0), (5, 0), (6, 0), (7, 1), (8, 0)] (by kernel_rfl) (by kernel_rfl) ?_
  refine LD.val rfl rfl (ov_move rfl) ?_
  refine LD.val rfl rfl (ov_move rfl) ?_
  refine LD.val rfl rfl (ov_idxSN au6 Tryz.underlying26 Tryz.sizeOf3 rfl rfl (by omega)) ?_
  first | refine LD.rd rfl rfl (om_sl1 (by assumption) (by intro _; rfl) Tryz.isAgg3 rfl rfl (by exact getq 0 au4) (by rfl)) ?_ | refine LD.rdC rfl rfl (om_sr1 (by assumption) Tryz.isAgg3 rfl rfl (by exact getq 0 au4) (by rfl) id) ?_ | refine LD.rd rfl rfl (om_ld Tryz.isAgg3 rfl rfl) ?_
  refine LD.val rfl rfl (ov_move rfl) ?_
  refine LD.val rfl rfl (ov_move rfl) ?_
  refine LD.val rfl rfl (ov_idxSN au6 Tryz.underlying26 Tryz.sizeOf3 rfl rfl (by omega)) ?_
  first | refine LD.rd rfl rfl (om_sl1 (by assumption) (by intro _; rfl) Tryz.isAgg3 rfl rfl (by exact getq 0 au4) (by rfl)) ?_ | refine LD.rdC rfl rfl (om_sr1 (by assumption) Tryz.isAgg3 rfl rfl (by exact getq 0 au4) (by rfl) id) ?_ | refine LD.rd rfl rfl (om_ld Tryz.isAgg3 rfl rfl) ?_
  refine LD.val rfl rfl (ov_neq rfl rfl) ?_
  refine LD.nil ?_
  refine QM.sub (e' := [(0, _), (1, _), (12, _), (13, _), (24, _)]) ⟨rfl, rfl, rfl, rfl, rfl, trivial⟩ (QM.then ?_)
  refine wpM.condD rfl (fun h3 => ?_) (fun h3 => ?_)
  ·
   refine wpM.seq (wpM.region ?_)
   refine LM.as rfl ?_
   refine LM.nil (QM.sub (e' := [(4, _)]) ⟨rfl, trivial⟩ (QM.then ?_))
   refine wpM.ret ?_
   refine QM.block_ret ?_
   refine QM.then_ret ?_
   refine QM.then_ret ?_
   refine QM.block_ret ?_
   refine QM.then_ret ?_
   refine QM.leave (.inl rfl) [.tmp 4] Tryz.results62 rfl ?_
   intro w' hm' hc' hg'
   refine ⟨?_, hc'⟩; show Value.bool false = _; rw [decide_eq_false (show ¬ xs = ys by intro q; first | (rw [fL_veqs, q] at h3; simp at h3; done) | exact h3 (by rw [q]))]
  refine wpM.skip ?_
  refine QM.block_normal ?_
  refine QM.then (wpM.region ?_)
  refine LM.val (ov_add64 rfl rfl (by omega)) ?_
  refine LM.mv rfl ?_
  refine LM.nil (QM.sub (e' := [(0, _), (1, _), (12, _), (13, _)]) ⟨rfl, rfl, rfl, rfl, trivial⟩ ?_)
  refine QM.againK (i + 1) ⟨au2, rfl, rfl, rfl, trivial⟩ au1 (fun _ h => h) ?_ ?_
  · exact ⟨by omega, eq_atD 0 (by omega) (by omega) ha (by first | exact Classical.not_not.1 h3 | (rw [fL_veqs] at h3; simpa using h3))⟩
  · omega
 refine wpM.exit ?_
 refine QM.then_exit ?_
 refine QM.then_exit ?_
 refine QM.block_hit ?_
 refine QM.then (wpM.seq (wpM.region ?_))
 refine LM.as rfl ?_
 refine LM.nil (QM.sub (e' := [(4, _)]) ⟨rfl, trivial⟩ (QM.then ?_))
 refine wpM.ret ?_
 refine QM.leave (.inl rfl) [.tmp 4] Tryz.results62 rfl ?_
 intro w' hm' hc' hg'
 refine ⟨?_, hc'⟩; show Value.bool true = _; rw [decide_eq_true (eq_all (by omega) (by omega) ha)]
set_option maxRecDepth 100000 in
theorem eqs_l {xs ys : List CLk} {ad1 ad2 : Option Addr} {n1 n2 cap1 cap2 : Nat} (w : World) (hn1 : n1 = xs.length) (hl1 : Sr fL 5 xs (.slice ad1 n1 cap1) w) (hn2 : n2 = ys.length) (hl2 : Sr fL 5 ys (.slice ad2 n2 cap2) w) (hx : xs.length ≤ 1000000000) : Ret Tryz.prog 63 #[.slice ad1 n1 cap1, .slice ad2 n2 cap2] w (fun v w' => v = .bool (decide (xs = ys)) ∧ Ext w w') := by
 refine Ret.enterM (l := [.slice ad1 n1 cap1, .slice ad2 n2 cap2]) Tryz.func63 rfl Tryz.ntmps63 rfl ([]) (no) (Mem.nil w) ?_
 refine wpM.seq (wpM.region ?_)
 refine LM.as rfl ?_
 refine LM.nil (QM.sub (e' := [(0, _), (1, _)]) ⟨rfl, rfl, trivial⟩ (QM.then ?_))
 refine wpM.seq ?_
 refine wpM.seq (wpM.region ?_)
 refine LM.mv rfl ?_
 refine LM.val (ov_len Tryz.underlying27 rfl) ?_
 refine LM.mv rfl ?_
 refine LM.val (ov_len Tryz.underlying27 rfl) ?_
 refine LM.val (ov_neq rfl rfl) ?_
 refine LM.nil (QM.sub (e' := [(0, _), (1, _), (10, _)]) ⟨rfl, rfl, rfl, trivial⟩ (QM.then ?_))
 refine wpM.condD rfl (fun h1 => ?_) (fun h1 => ?_)
 ·
  refine wpM.seq (wpM.region ?_)
  refine LM.as rfl ?_
  refine LM.nil (QM.sub (e' := [(4, _)]) ⟨rfl, trivial⟩ (QM.then ?_))
  refine wpM.ret ?_
  refine QM.then_ret ?_
  refine QM.leave (.inl rfl) [.tmp 4] Tryz.results63 rfl ?_
  intro w' hm' hc' hg'
  refine ⟨?_, hc'⟩; show Value.bool false = _; rw [decide_eq_false (show ¬ xs = ys by intro q; have := congrArg List.length q; omega)]
 refine wpM.skip ?_
 refine QM.then ?_
 refine wpM.seq ?_
 refine wpM.seq (wpM.region ?_)
 refine LM.mv rfl ?_
 refine LM.val (ov_len Tryz.underlying27 rfl) ?_
 refine LM.mv rfl ?_
 refine LM.nil (QM.sub (e' := [(0, _), (1, _), (12, _), (13, _)]) ⟨rfl, rfl, rfl, rfl, trivial⟩ (QM.then ?_))
 refine wpM.block ?_
 refine wpM.loopK0 (α := Nat) (fun i => [(13, .int .i64 (i : Nat))]) [(0, _), (1, _), (12, _)] (fun i => []) (fun i => i ≤ xs.length ∧ xs.take i = ys.take i) (fun i => xs.length - i) (0) ⟨au2, rfl, rfl, rfl, trivial⟩ au1 ⟨Nat.zero_le _, rfl⟩ ?_
 rintro i ⟨hi, ha⟩
 change wpM _ _ _ _ _ _ _ ([]) _ _ _
 refine wpM.seq (wpM.region ?_)
 refine LM.val (ov_lss rfl rfl) ?_
 refine LM.nil (QM.sub (e' := [(0, _), (1, _), (12, _), (13, _), (14, _)]) ⟨rfl, rfl, rfl, rfl, rfl, trivial⟩ (QM.then ?_))
 refine wpM.seq ?_
 refine wpM.condD rfl (fun h2 => ?_) (fun h2 => ?_)
 ·
  refine wpM.skip ?_
  refine QM.then ?_
  refine wpM.seq ?_
  refine wpM.block ?_
  refine wpM.seq (wpM.region ?_)
  refine LM.mv rfl ?_
  refine LM.as rfl ?_
  refine LM.nil (QM.sub (e' := [(0, _), (1, _), (5, _), (12, _), (13, _)]) ⟨rfl, rfl, rfl, rfl, rfl, trivial⟩ (QM.then ?_))
  refine wpM.seq ?_
  refine wpM.draw [(0, 0), (1, 0), (2, 0), (3, 1), (4, 0), (5, 0), (6, 0), (7, 1), (8, 0)] (by kernel_rfl) (by kernel_rfl) ?_
  refine LD.val rfl rfl (ov_move rfl) ?_
  refine LD.val rfl rfl (ov_move rfl) ?_
  refine LD.val rfl rfl (ov_idxSN au6 Tryz.underlying27 Tryz.sizeOf63 rfl rfl (by omega)) ?_
  first | refine LD.rd rfl rfl (om_slA (by assumption) (by intro _; rfl) Tryz.isAgg63 Tryz.sizeOf63 rfl au3) ?_ | refine LD.rdC rfl rfl (om_srEA (by assumption) (by intro _; rfl) Tryz.isAgg63 Tryz.sizeOf63 rfl au3 id) ?_ | refine LD.rd rfl rfl (om_ldW Tryz.isAgg63 Tryz.sizeOf63 rfl rfl) ?_ | refine LD.rd rfl rfl (om_ldA Tryz.isAgg63 Tryz.sizeOf63 rfl (vs := [_, _, _, _, _]) rfl ⟨rfl, rfl, rfl, rfl, rfl, trivial⟩) ?_
  refine LD.val rfl rfl (ov_move rfl) ?_
  refine LD.val rfl rfl (ov_move rfl) ?_
  refine LD.val rfl rfl (ov_idxSN au6 Tryz.underlying27 Tryz.sizeOf63 rfl rfl (by omega)) ?_
  first | refine LD.rd rfl rfl (om_slA (by assumption) (by intro _; rfl) Tryz.isAgg63 Tryz.sizeOf63 rfl au3) ?_ | refine LD.rdC rfl rfl (om_srEA (by assumption) (by intro _; rfl) Tryz.isAgg63 Tryz.sizeOf63 rfl au3 id) ?_ | refine LD.rd rfl rfl (om_ldW Tryz.isAgg63 Tryz.sizeOf63 rfl rfl) ?_ | refine LD.rd rfl rfl (om_ldA Tryz.isAgg63 Tryz.sizeOf63 rfl (vs := [_, _, _, _, _]) rfl ⟨rfl, rfl, rfl, rfl, rfl, trivial⟩) ?_
  refine LD.val rfl rfl (ov_aneq Tryz.underlying63 (by kernel_rfl) (by kernel_rfl) (by decide) rfl rfl (by rfl) ⟨(by first | rfl | trivial), (by first | rfl | trivial), (by first | rfl | trivial), (by first | rfl | trivial), (by first | rfl | trivial), trivial⟩) ?_
  refine LD.nil ?_
  refine QM.sub (e' := [(0, _), (1, _), (12, _), (13, _), (24, _)]) ⟨rfl, rfl, rfl, rfl, rfl, trivial⟩ (QM.then ?_)
  first | refine wpM.condD rfl (fun h3 => ?_) (fun h3 => ?_) | refine wpM.condB rfl (fun h3 => ?_) (fun h3 => ?_)
  ·
   refine wpM.seq (wpM.region ?_)
   refine LM.as rfl ?_
   refine LM.nil (QM.sub (e' := [(4, _)]) ⟨rfl, trivial⟩ (QM.then ?_))
   refine wpM.ret ?_
   refine QM.block_ret ?_
   refine QM.then_ret ?_
   refine QM.then_ret ?_
   refine QM.block_ret ?_
   refine QM.then_ret ?_
   refine QM.leave (.inl rfl) [.tmp 4] Tryz.results63 rfl ?_
   intro w' hm' hc' hg'
   refine ⟨?_, hc'⟩; show Value.bool false = _; rw [decide_eq_false (show ¬ xs = ys by intro q; first | (rw [fL_veqs, q] at h3; simp at h3; done) | exact h3 (by rw [q]))]
  refine wpM.skip ?_
  refine QM.block_normal ?_
  refine QM.then (wpM.region ?_)
  refine LM.val (ov_add64 rfl rfl (by omega)) ?_
  refine LM.mv rfl ?_
  refine LM.nil (QM.sub (e' := [(0, _), (1, _), (12, _), (13, _)]) ⟨rfl, rfl, rfl, rfl, trivial⟩ ?_)
  refine QM.againK (i + 1) ⟨au2, rfl, rfl, rfl, trivial⟩ au1 (fun _ h => h) ?_ ?_
  · exact ⟨by omega, eq_atD default (by omega) (by omega) ha (by first | exact Classical.not_not.1 h3 | (rw [fL_veqs] at h3; simpa using h3))⟩
  · omega
 refine wpM.exit ?_
 refine QM.then_exit ?_
 refine QM.then_exit ?_
 refine QM.block_hit ?_
 refine QM.then (wpM.seq (wpM.region ?_))
 refine LM.as rfl ?_
 refine LM.nil (QM.sub (e' := [(4, _)]) ⟨rfl, trivial⟩ (QM.then ?_))
 refine wpM.ret ?_
 refine QM.leave (.inl rfl) [.tmp 4] Tryz.results63 rfl ?_
 intro w' hm' hc' hg'
 refine ⟨?_, hc'⟩; show Value.bool true = _; rw [decide_eq_true (eq_all (by omega) (by omega) ha)]
set_option maxRecDepth 100000 in
theorem eqf_p {xs ys : List PgV} {ad1 ad2 : Option Addr} {n1 n2 cap1 cap2 : Nat} (w : World) (hn1 : n1 = xs.length) (hl1 : Sr fPg 2 xs (.slice ad1 n1 cap1) w) (hn2 : n2 = ys.length) (hl2 : Sr fPg 2 ys (.slice ad2 n2 cap2) w) (hx : xs.length ≤ 1000000) (ho1 : PgsIn xs w) (ho2 : PgsIn ys w) (hb : ∀ p ∈ xs, p.c.xs.length ≤ 1000000) : Ret Tryz.prog 64 #[.slice ad1 n1 cap1, .slice ad2 n2 cap2, .func (.func 65) #[] #[]] w (fun v w' => v = .bool (decide (xs.map PgV.c = ys.map PgV.c)) ∧ Ext w w') := by
 refine Ret.enterM (l := [.slice ad1 n1 cap1, .slice ad2 n2 cap2, .func (.func 65) #[] #[]]) Tryz.func64 rfl Tryz.ntmps64 rfl ([]) (no) (Mem.nil w) ?_
 refine wpM.seq (wpM.region ?_)
 refine LM.as rfl ?_
 refine LM.nil (QM.sub (e' := [(0, _), (1, _), (2, _)]) ⟨rfl, rfl, rfl, trivial⟩ (QM.then ?_))
 refine wpM.seq ?_
 refine wpM.seq (wpM.region ?_)
 refine LM.mv rfl ?_
 refine LM.val (ov_len Tryz.underlying28 rfl) ?_
 refine LM.mv rfl ?_
 refine LM.val (ov_len Tryz.underlying28 rfl) ?_
 refine LM.val (ov_neq rfl rfl) ?_
 refine LM.nil (QM.sub (e' := [(0, _), (1, _), (2, _), (14, _)]) ⟨rfl, rfl, rfl, rfl, trivial⟩ (QM.then ?_))
 refine wpM.condD rfl (fun h1 => ?_) (fun h1 => ?_)
 ·
  refine wpM.seq (wpM.region ?_)
  refine LM.as rfl ?_
  refine LM.nil (QM.sub (e' := [(6, _)]) ⟨rfl, trivial⟩ (QM.then ?_))
  refine wpM.ret ?_
  refine QM.then_ret ?_
  refine QM.leave (.inl rfl) [.tmp 6] Tryz.results64 rfl ?_
  intro w' hm' hc' hg'
  refine ⟨?_, hc'⟩; show Value.bool false = _; rw [decide_eq_false (show ¬ xs.map PgV.c = ys.map PgV.c by intro q; have := congrArg List.length q; simp at this; omega)]
 refine wpM.skip ?_
 refine QM.then ?_
 refine wpM.seq ?_
 refine wpM.seq (wpM.region ?_)
 refine LM.mv rfl ?_
 refine LM.val (ov_len Tryz.underlying28 rfl) ?_
 refine LM.mv rfl ?_
 refine LM.nil (QM.sub (e' := [(1, _), (2, _), (15, _), (16, _), (17, _)]) ⟨rfl, rfl, rfl, rfl, rfl, trivial⟩ (QM.then ?_))
 refine wpM.block ?_
 refine wpM.loopK0 (α := Nat) (fun i => [(17, .int .i64 (i : Nat))]) [(1, _), (2, _), (15, _), (16, _)] (fun i => []) (fun i => i ≤ xs.length ∧ (xs.map PgV.c).take i = (ys.map PgV.c).take i) (fun i => xs.length - i) (0) ⟨au2, rfl, rfl, rfl, rfl, trivial⟩ au1 ⟨Nat.zero_le _, rfl⟩ ?_
 rintro i ⟨hi, ha⟩
 change wpM _ _ _ _ _ _ _ ([]) _ _ _
 refine wpM.seq (wpM.region ?_)
 refine LM.val (ov_lss rfl rfl) ?_
 refine LM.nil (QM.sub (e' := [(1, _), (2, _), (15, _), (16, _), (17, _), (18, _)]) ⟨rfl, rfl, rfl, rfl, rfl, rfl, trivial⟩ (QM.then ?_))
 refine wpM.seq ?_
 refine wpM.condD rfl (fun h2 => ?_) (fun h2 => ?_)
 ·
  have hx1 : xs.getD i default ∈ xs := List.mem_of_getElem? (getq default (by omega)); have hx2 : ys.getD i default ∈ ys := List.mem_of_getElem? (getq default (by omega))
  refine wpM.skip ?_
  refine QM.then ?_
  refine wpM.seq ?_
  refine wpM.block ?_
  refine wpM.seq (wpM.region ?_)
  refine LM.mv rfl ?_
  refine LM.val (ov_idxSN au6 Tryz.underlying28 Tryz.sizeOf87 rfl rfl (by omega)) ?_
  first | refine LM.rd (om_slA (by assumption) (by intro _; rfl) Tryz.isAgg87 Tryz.sizeOf87 rfl au3) ?_ | refine LM.rdC (om_srEA (by assumption) (by intro _; rfl) Tryz.isAgg87 Tryz.sizeOf87 rfl au3 id) ?_ | refine LM.rd (om_ldW Tryz.isAgg87 Tryz.sizeOf87 rfl rfl) ?_ | refine LM.rd (om_ldA Tryz.isAgg87 Tryz.sizeOf87 rfl (vs := [_, _]) rfl ⟨rfl, rfl, trivial⟩) ?_
  refine LM.alloc Tryz.zeroValue87 rfl (fun b8 hb8 => ?_)
  refine LM.as rfl ?_
  refine LM.stW Tryz.sizeOf87 rfl rfl rfl rfl au7 au8 ?_
  refine LM.nil (QM.sub (e' := [(1, _), (2, _), (7, _), (8, _), (15, _), (16, _), (17, _)]) ⟨rfl, rfl, rfl, rfl, rfl, rfl, rfl, trivial⟩ (QM.then (wpM.seq (wpM.region ?_))))
  refine LM.mv rfl ?_
  refine LM.mv rfl ?_
  refine LM.val (ov_idxSN au6 Tryz.underlying28 Tryz.sizeOf87 rfl rfl (by omega)) ?_
  first | refine LM.rd (om_slA (by assumption) (by intro _; rfl) Tryz.isAgg87 Tryz.sizeOf87 rfl au3) ?_ | refine LM.rdC (om_srEA (by assumption) (by intro _; rfl) Tryz.isAgg87 Tryz.sizeOf87 rfl au3 id) ?_ | refine LM.rd (om_ldW Tryz.isAgg87 Tryz.sizeOf87 rfl rfl) ?_ | refine LM.rd (om_ldA Tryz.isAgg87 Tryz.sizeOf87 rfl (vs := [_, _]) rfl ⟨rfl, rfl, trivial⟩) ?_
  refine LM.alloc Tryz.zeroValue87 rfl (fun b9 hb9 => ?_)
  refine LM.stW Tryz.sizeOf87 rfl rfl rfl rfl au7 au8 ?_
  refine LM.nil (QM.sub (e' := [(1, _), (2, _), (8, _), (9, _), (15, _), (16, _), (17, _)]) ⟨rfl, rfl, rfl, rfl, rfl, rfl, rfl, trivial⟩ (QM.then (wpM.seq (wpM.region ?_))))
  refine LM.mv rfl ?_
  refine LM.rd (om_ldW Tryz.isAgg87 Tryz.sizeOf87 rfl rfl) ?_
  refine LM.rd (om_ldW Tryz.isAgg87 Tryz.sizeOf87 rfl rfl) ?_
  refine LM.callE (oc_callV rfl (enters_fn Tryz.func65 (by kernel_rfl) rfl) rfl) (fun w hm hc hg => psame_spec w (ho1 _ hx1).1 ((ho1 _ hx1).2.ext hc) (ho2 _ hx2).1 ((ho2 _ hx2).2.ext hc) (by have := hb _ hx1; omega)) ?_
  first | refine LM.val (ov_notD rfl) ?_ | refine LM.val (ov_not rfl) ?_
  refine LM.nil (QM.sub (e' := [(1, _), (2, _), (15, _), (16, _), (17, _), (30, _)]) ⟨rfl, rfl, rfl, rfl, rfl, rfl, trivial⟩ (QM.then ?_))
  first | refine wpM.condD rfl (fun h3 => ?_) (fun h3 => ?_) | refine wpM.condB rfl (fun h3 => ?_) (fun h3 => ?_)
  ·
   refine wpM.seq (wpM.region ?_)
   refine LM.as rfl ?_
   refine LM.nil (QM.sub (e' := [(6, _)]) ⟨rfl, trivial⟩ (QM.then ?_))
   refine wpM.ret ?_
   refine QM.block_ret ?_
   refine QM.then_ret ?_
   refine QM.then_ret ?_
   refine QM.block_ret ?_
   refine QM.then_ret ?_
   refine QM.leave (.inl rfl) [.tmp 6] Tryz.results64 rfl ?_
   intro w' hm' hc' hg'
   refine ⟨?_, hc'⟩; show Value.bool false = _; rw [decide_eq_false (show ¬ xs.map PgV.c = ys.map PgV.c by intro q; rw [pgc_eq, ← map_getD, ← map_getD, q] at h3; simp at h3)]
  refine wpM.skip ?_
  refine QM.block_normal ?_
  refine QM.then (wpM.region ?_)
  refine LM.val (ov_add64 rfl rfl (by omega)) ?_
  refine LM.mv rfl ?_
  refine LM.nil (QM.sub (e' := [(1, _), (2, _), (15, _), (16, _), (17, _)]) ⟨rfl, rfl, rfl, rfl, rfl, trivial⟩ ?_)
  refine QM.againK (i + 1) ⟨au2, rfl, rfl, rfl, rfl, trivial⟩ au1 (fun _ h => h) ?_ ?_
  · exact ⟨by omega, eq_atD default (by simp; omega) (by simp; omega) ha (by rw [map_getD, map_getD]; rw [pgc_eq] at h3; simpa using h3)⟩
  · omega
 refine wpM.exit ?_
 refine QM.then_exit ?_
 refine QM.then_exit ?_
 refine QM.block_hit ?_
 refine QM.then (wpM.seq (wpM.region ?_))
 refine LM.as rfl ?_
 refine LM.nil (QM.sub (e' := [(6, _)]) ⟨rfl, trivial⟩ (QM.then ?_))
 refine wpM.ret ?_
 refine QM.leave (.inl rfl) [.tmp 6] Tryz.results64 rfl ?_
 intro w' hm' hc' hg'
 refine ⟨?_, hc'⟩; show Value.bool true = _; rw [decide_eq_true (eq_all (by simp; omega) (by simp; omega) ha)]
set_option maxRecDepth 100000 in
set_option maxHeartbeats 1000000 in
theorem ssame_spec {a b : StV} (w : World) (hA : a.In w) (hB : b.In w) (hb : a.Bd) : Ret Tryz.prog 22 #[a.val, b.val] w (fun v w' => v = .bool (decide (a.C = b.C)) ∧ Ext w w') := by
 refine Ret.enterM (l := [a.val, b.val]) Tryz.func22 rfl Tryz.ntmps22 rfl ([]) (no) (Mem.nil w) ?_
 refine wpM.seq (wpM.region ?_)
 refine LM.box rfl rfl (fun b2 hb2 => ?_)
 refine LM.box rfl rfl (fun b3 hb3 => ?_)
 refine LM.as rfl ?_
 refine LM.nil (QM.sub (e' := [(2, _), (3, _)]) ⟨rfl, rfl, trivial⟩ (QM.then (wpM.seq (wpM.region ?_))))
 refine LM.val (ov_field Tryz.underlying30 rfl Tryz.sizeOf3 rfl (k := 0) rfl rfl) ?_
 refine LM.rd (om_ld Tryz.isAgg3 rfl rfl) ?_
 refine LM.val (ov_field Tryz.underlying30 rfl Tryz.sizeOf3 rfl (k := 0) rfl rfl) ?_
 refine LM.rd (om_ld Tryz.isAgg3 rfl rfl) ?_
 refine LM.val (ov_eql rfl rfl) ?_
 refine LM.mv rfl ?_
 refine LM.splitD (t := 10) rfl (fun h1 => ?_) (fun h1 => ?_)
 ·
  refine LM.sp 10 rfl rfl rfl ?_
  refine LM.val (ov_field Tryz.underlying30 rfl Tryz.sizeOf3 rfl (k := 1) rfl rfl) ?_
  refine LM.sp 10 rfl rfl rfl ?_
  refine LM.rd (om_ld Tryz.isAgg3 rfl rfl) ?_
  refine LM.sp 10 rfl rfl rfl ?_
  refine LM.val (ov_field Tryz.underlying30 rfl Tryz.sizeOf3 rfl (k := 1) rfl rfl) ?_
  refine LM.sp 10 rfl rfl rfl ?_
  refine LM.rd (om_ld Tryz.isAgg3 rfl rfl) ?_
  refine LM.sp 10 rfl rfl rfl ?_
  refine LM.val (ov_eql rfl rfl) ?_
  refine LM.val (ov_pickT rfl rfl) ?_
  refine LM.mv rfl ?_
  refine LM.splitD (t := 17) rfl (fun h2 => ?_) (fun h2 => ?_)
  ·
   refine LM.sp 17 rfl rfl rfl ?_
   refine LM.val (ov_field Tryz.underlying30 rfl Tryz.sizeOf26 rfl (k := 2) rfl rfl) ?_
   refine LM.sp 17 rfl rfl rfl ?_
   refine LM.rd (om_ld Tryz.isAgg26 rfl rfl) ?_
   refine LM.sp 17 rfl rfl rfl ?_
   refine LM.val (ov_field Tryz.underlying30 rfl Tryz.sizeOf26 rfl (k := 2) rfl rfl) ?_
   refine LM.sp 17 rfl rfl rfl ?_
   refine LM.rd (om_ld Tryz.isAgg26 rfl rfl) ?_
   refine LM.sp 17 rfl rfl rfl ?_
   refine LM.callE (oc_call (enters_fn Tryz.func62 (by kernel_rfl) rfl) rfl) (fun w hm hc hg => eqs_i w hA.hgn (hA.hg.ext hc) hB.hgn (hB.hg.ext hc) (by have := hb.g; omega)) ?_
   refine LM.val (ov_pickT rfl rfl) ?_
   refine LM.mv rfl ?_
   refine LM.splitD (t := 24) rfl (fun h3 => ?_) (fun h3 => ?_)
   ·
    refine LM.sp 24 rfl rfl rfl ?_
    refine LM.val (ov_field Tryz.underlying30 rfl Tryz.sizeOf27 rfl (k := 3) rfl rfl) ?_
    refine LM.sp 24 rfl rfl rfl ?_
    refine LM.rd (om_ld Tryz.isAgg27 rfl rfl) ?_
    refine LM.sp 24 rfl rfl rfl ?_
    refine LM.val (ov_field Tryz.underlying30 rfl Tryz.sizeOf27 rfl (k := 3) rfl rfl) ?_
    refine LM.sp 24 rfl rfl rfl ?_
    refine LM.rd (om_ld Tryz.isAgg27 rfl rfl) ?_
    refine LM.sp 24 rfl rfl rfl ?_
    refine LM.callE (oc_call (enters_fn Tryz.func63 (by kernel_rfl) rfl) rfl) (fun w hm hc hg => eqs_l w hA.hln (hA.hl.ext hc) hB.hln (hB.hl.ext hc) (by have := hb.l; omega)) ?_
    refine LM.val (ov_pickT rfl rfl) ?_
    refine LM.mv rfl ?_
    refine LM.splitD (t := 31) rfl (fun h4 => ?_) (fun h4 => ?_)
    ·
     refine LM.sp 31 rfl rfl rfl ?_
     refine LM.val (ov_field Tryz.underlying30 rfl Tryz.sizeOf28 rfl (k := 4) rfl rfl) ?_
     refine LM.sp 31 rfl rfl rfl ?_
     refine LM.rd (om_ld Tryz.isAgg28 rfl rfl) ?_
     refine LM.sp 31 rfl rfl rfl ?_
     refine LM.val (ov_field Tryz.underlying30 rfl Tryz.sizeOf28 rfl (k := 4) rfl rfl) ?_
     refine LM.sp 31 rfl rfl rfl ?_
     refine LM.rd (om_ld Tryz.isAgg28 rfl rfl) ?_
     refine LM.sp 31 rfl rfl rfl ?_
     refine LM.callE (oc_call (enters_fn Tryz.func64 (by kernel_rfl) rfl) rfl) (fun w hm hc hg => eqf_p w hA.hpn (hA.hp.ext hc) hB.hpn (hB.hp.ext hc) hb.p (hA.ops.ext hc) (hB.ops.ext hc) hb.o) ?_
     refine LM.val (ov_pickT rfl rfl) ?_
     refine LM.as rfl ?_
     refine LM.nil (QM.sub (e' := [(4, _)]) ⟨rfl, trivial⟩ (QM.then ?_))
     refine wpM.ret ?_
     refine QM.leave (.inl rfl) [.tmp 4] Tryz.results22 rfl ?_
     intro w' hm' hc' hg'
     refine ⟨?_, hc'⟩; rw [eqS]; simp [resV, h1, h2, h3, h4]
    refine LM.dr 31 rfl rfl rfl ?_
    refine LM.dr 31 rfl rfl rfl ?_
    refine LM.dr 31 rfl rfl rfl ?_
    refine LM.dr 31 rfl rfl rfl ?_
    refine LM.dr 31 rfl rfl rfl ?_
    refine LM.val (ov_pickF rfl rfl) ?_
    refine LM.as rfl ?_
    refine LM.nil (QM.sub (e' := [(4, _)]) ⟨rfl, trivial⟩ (QM.then ?_))
    refine wpM.ret ?_
    refine QM.leave (.inl rfl) [.tmp 4] Tryz.results22 rfl ?_
    intro w' hm' hc' hg'
    refine ⟨?_, hc'⟩; rw [eqS]; simp [resV, h1, h2, h3, h4]
   refine LM.dr 24 rfl rfl rfl ?_
   refine LM.dr 24 rfl rfl rfl ?_
   refine LM.dr 24 rfl rfl rfl ?_
   refine LM.dr 24 rfl rfl rfl ?_
   refine LM.dr 24 rfl rfl rfl ?_
   refine LM.val (ov_pickF rfl rfl) ?_
   refine LM.mv rfl ?_
   refine LM.dr 31 rfl rfl rfl ?_
   refine LM.dr 31 rfl rfl rfl ?_
   refine LM.dr 31 rfl rfl rfl ?_
   refine LM.dr 31 rfl rfl rfl ?_
   refine LM.dr 31 rfl rfl rfl ?_
   refine LM.val (ov_pickF rfl rfl) ?_
   refine LM.as rfl ?_
   refine LM.nil (QM.sub (e' := [(4, _)]) ⟨rfl, trivial⟩ (QM.then ?_))
   refine wpM.ret ?_
   refine QM.leave (.inl rfl) [.tmp 4] Tryz.results22 rfl ?_
   intro w' hm' hc' hg'
   refine ⟨?_, hc'⟩; rw [eqS]; simp [resV, h1, h2, h3]
  refine LM.dr 17 rfl rfl rfl ?_
  refine LM.dr 17 rfl rfl rfl ?_
  refine LM.dr 17 rfl rfl rfl ?_
  refine LM.dr 17 rfl rfl rfl ?_
  refine LM.dr 17 rfl rfl rfl ?_
  refine LM.val (ov_pickF rfl rfl) ?_
  refine LM.mv rfl ?_
  refine LM.dr 24 rfl rfl rfl ?_
  refine LM.dr 24 rfl rfl rfl ?_
  refine LM.dr 24 rfl rfl rfl ?_
  refine LM.dr 24 rfl rfl rfl ?_
  refine LM.dr 24 rfl rfl rfl ?_
  refine LM.val (ov_pickF rfl rfl) ?_
  refine LM.mv rfl ?_
  refine LM.dr 31 rfl rfl rfl ?_
  refine LM.dr 31 rfl rfl rfl ?_
  refine LM.dr 31 rfl rfl rfl ?_
  refine LM.dr 31 rfl rfl rfl ?_
  refine LM.dr 31 rfl rfl rfl ?_
  refine LM.val (ov_pickF rfl rfl) ?_
  refine LM.as rfl ?_
  refine LM.nil (QM.sub (e' := [(4, _)]) ⟨rfl, trivial⟩ (QM.then ?_))
  refine wpM.ret ?_
  refine QM.leave (.inl rfl) [.tmp 4] Tryz.results22 rfl ?_
  intro w' hm' hc' hg'
  refine ⟨?_, hc'⟩; rw [eqS]; simp [resV, h1, h2]
 refine LM.dr 10 rfl rfl rfl ?_
 refine LM.dr 10 rfl rfl rfl ?_
 refine LM.dr 10 rfl rfl rfl ?_
 refine LM.dr 10 rfl rfl rfl ?_
 refine LM.dr 10 rfl rfl rfl ?_
 refine LM.val (ov_pickF rfl rfl) ?_
 refine LM.mv rfl ?_
 refine LM.dr 17 rfl rfl rfl ?_
 refine LM.dr 17 rfl rfl rfl ?_
 refine LM.dr 17 rfl rfl rfl ?_
 refine LM.dr 17 rfl rfl rfl ?_
 refine LM.dr 17 rfl rfl rfl ?_
 refine LM.val (ov_pickF rfl rfl) ?_
 refine LM.mv rfl ?_
 refine LM.dr 24 rfl rfl rfl ?_
 refine LM.dr 24 rfl rfl rfl ?_
 refine LM.dr 24 rfl rfl rfl ?_
 refine LM.dr 24 rfl rfl rfl ?_
 refine LM.dr 24 rfl rfl rfl ?_
 refine LM.val (ov_pickF rfl rfl) ?_
 refine LM.mv rfl ?_
 refine LM.dr 31 rfl rfl rfl ?_
 refine LM.dr 31 rfl rfl rfl ?_
 refine LM.dr 31 rfl rfl rfl ?_
 refine LM.dr 31 rfl rfl rfl ?_
 refine LM.dr 31 rfl rfl rfl ?_
 refine LM.val (ov_pickF rfl rfl) ?_
 refine LM.as rfl ?_
 refine LM.nil (QM.sub (e' := [(4, _)]) ⟨rfl, trivial⟩ (QM.then ?_))
 refine wpM.ret ?_
 refine QM.leave (.inl rfl) [.tmp 4] Tryz.results22 rfl ?_
 intro w' hm' hc' hg'
 refine ⟨?_, hc'⟩; rw [eqS]; simp [resV, h1]
set_option maxRecDepth 100000 in
set_option maxHeartbeats 2000000 in
theorem rssame_spec {a b : StV} (w : World) (hA : a.In w) (hB : b.In w) (hb : a.Bd) : Ret Tryz.prog 13 #[a.val, b.val] w (fun v w' => v = .bool (decide (a.C = b.C)) ∧ Ext w w') := by
 have a1 := hA.hgn; have a2 := hA.hg; have a3 := hA.hln; have a4 := hA.hl; have a5 := hA.hpn; have a6 := hA.hp; have b1' := hB.hgn; have b2' := hB.hg; have b3' := hB.hln; have b4' := hB.hl; have b5' := hB.hpn; have b6' := hB.hp; have c1 := hb.g; have c2 := hb.l; have c3 := hb.p
 refine Ret.enterM (l := [a.val, b.val]) Tryz.func13 rfl Tryz.ntmps13 rfl ([]) (no) (Mem.nil w) ?_
 refine wpM.seq (wpM.region ?_)
 refine LM.box rfl rfl (fun b2 hb2 => ?_)
 refine LM.box rfl rfl (fun b3 hb3 => ?_)
 refine LM.as rfl ?_
 refine LM.nil (QM.sub (e' := [(2, _), (3, _)]) ⟨rfl, rfl, trivial⟩ (QM.then ?_))
 refine wpM.seq ?_
 refine wpM.seq ?_
 refine wpM.joinK (α := Bool) (fun q => [(46, .bool q)]) [(2, _), (3, _)] (fun q => stB b2 a :: stB b3 b :: []) (fun q => q = (decide (a.cr ≠ b.cr) || (decide (a.gr ≠ b.gr) || (decide ((a.gn : Int) ≠ (b.gn : Int)) || (decide ((a.ln : Int) ≠ (b.ln : Int)) || decide ((a.pn : Int) ≠ (b.pn : Int))))))) ⟨rfl, rfl, trivial⟩ ?_ ?_
 ·
  refine wpM.region ?_
  refine LM.val (ov_field Tryz.underlying30 rfl Tryz.sizeOf3 rfl (k := 0) rfl rfl) ?_
  refine LM.rd (om_ld Tryz.isAgg3 rfl rfl) ?_
  refine LM.val (ov_field Tryz.underlying30 rfl Tryz.sizeOf3 rfl (k := 0) rfl rfl) ?_
  refine LM.rd (om_ld Tryz.isAgg3 rfl rfl) ?_
  refine LM.val (ov_neq rfl rfl) ?_
  refine LM.mv rfl ?_
  refine LM.splitD (t := 13) rfl (fun h1 => ?_) (fun h1 => ?_)
  ·
   refine LM.dr 13 rfl rfl rfl ?_
   refine LM.dr 13 rfl rfl rfl ?_
   refine LM.dr 13 rfl rfl rfl ?_
   refine LM.dr 13 rfl rfl rfl ?_
   refine LM.dr 13 rfl rfl rfl ?_
   refine LM.val (ov_pickT rfl rfl) ?_
   refine LM.mv rfl ?_
   refine LM.dr 20 rfl rfl rfl ?_
   refine LM.dr 20 rfl rfl rfl ?_
   refine LM.dr 20 rfl rfl rfl ?_
   refine LM.dr 20 rfl rfl rfl ?_
   refine LM.dr 20 rfl rfl rfl ?_
   refine LM.dr 20 rfl rfl rfl ?_
   refine LM.dr 20 rfl rfl rfl ?_
   refine LM.val (ov_pickT rfl rfl) ?_
   refine LM.mv rfl ?_
   refine LM.dr 29 rfl rfl rfl ?_
   refine LM.dr 29 rfl rfl rfl ?_
   refine LM.dr 29 rfl rfl rfl ?_
   refine LM.dr 29 rfl rfl rfl ?_
   refine LM.dr 29 rfl rfl rfl ?_
   refine LM.dr 29 rfl rfl rfl ?_
   refine LM.dr 29 rfl rfl rfl ?_
   refine LM.val (ov_pickT rfl rfl) ?_
   refine LM.mv rfl ?_
   refine LM.dr 38 rfl rfl rfl ?_
   refine LM.dr 38 rfl rfl rfl ?_
   refine LM.dr 38 rfl rfl rfl ?_
   refine LM.dr 38 rfl rfl rfl ?_
   refine LM.dr 38 rfl rfl rfl ?_
   refine LM.dr 38 rfl rfl rfl ?_
   refine LM.dr 38 rfl rfl rfl ?_
   refine LM.val (ov_pickT rfl rfl) ?_
   refine LM.nil (QM.sub (e' := [(2, _), (3, _), (46, _)]) ⟨rfl, rfl, rfl, trivial⟩ ?_)
   refine QM.meetK (_) ⟨au2, rfl, rfl, trivial⟩ au1 ?_
   · (simp [h1]; done)
  refine LM.sp 13 rfl rfl rfl ?_
  refine LM.val (ov_field Tryz.underlying30 rfl Tryz.sizeOf3 rfl (k := 1) rfl rfl) ?_
  refine LM.sp 13 rfl rfl rfl ?_
  refine LM.rd (om_ld Tryz.isAgg3 rfl rfl) ?_
  refine LM.sp 13 rfl rfl rfl ?_
  refine LM.val (ov_field Tryz.underlying30 rfl Tryz.sizeOf3 rfl (k := 1) rfl rfl) ?_
  refine LM.sp 13 rfl rfl rfl ?_
  refine LM.rd (om_ld Tryz.isAgg3 rfl rfl) ?_
  refine LM.sp 13 rfl rfl rfl ?_
  refine LM.val (ov_neq rfl rfl) ?_
  refine LM.val (ov_pickF rfl rfl) ?_
  refine LM.mv rfl ?_
  refine LM.splitD (t := 20) rfl (fun h2 => ?_) (fun h2 => ?_)
  ·
   refine LM.dr 20 rfl rfl rfl ?_
   refine LM.dr 20 rfl rfl rfl ?_
   refine LM.dr 20 rfl rfl rfl ?_
   refine LM.dr 20 rfl rfl rfl ?_
   refine LM.dr 20 rfl rfl rfl ?_
   refine LM.dr 20 rfl rfl rfl ?_
   refine LM.dr 20 rfl rfl rfl ?_
   refine LM.val (ov_pickT rfl rfl) ?_
   refine LM.mv rfl ?_
   refine LM.dr 29 rfl rfl rfl ?_
   refine LM.dr 29 rfl rfl rfl ?_
   refine LM.dr 29 rfl rfl rfl ?_
   refine LM.dr 29 rfl rfl rfl ?_
   refine LM.dr 29 rfl rfl rfl ?_
   refine LM.dr 29 rfl rfl rfl ?_
   refine LM.dr 29 rfl rfl rfl ?_
   refine LM.val (ov_pickT rfl rfl) ?_
   refine LM.mv rfl ?_
   refine LM.dr 38 rfl rfl rfl ?_
   refine LM.dr 38 rfl rfl rfl ?_
   refine LM.dr 38 rfl rfl rfl ?_
   refine LM.dr 38 rfl rfl rfl ?_
   refine LM.dr 38 rfl rfl rfl ?_
   refine LM.dr 38 rfl rfl rfl ?_
   refine LM.dr 38 rfl rfl rfl ?_
   refine LM.val (ov_pickT rfl rfl) ?_
   refine LM.nil (QM.sub (e' := [(2, _), (3, _), (46, _)]) ⟨rfl, rfl, rfl, trivial⟩ ?_)
   refine QM.meetK (_) ⟨au2, rfl, rfl, trivial⟩ au1 ?_
   · (simp [h1, h2]; done)
  refine LM.sp 20 rfl rfl rfl ?_
  refine LM.val (ov_field Tryz.underlying30 rfl Tryz.sizeOf26 rfl (k := 2) rfl rfl) ?_
  refine LM.sp 20 rfl rfl rfl ?_
  refine LM.rd (om_ld Tryz.isAgg26 rfl rfl) ?_
  refine LM.sp 20 rfl rfl rfl ?_
  refine LM.val (ov_len Tryz.underlying26 rfl) ?_
  refine LM.sp 20 rfl rfl rfl ?_
  refine LM.val (ov_field Tryz.underlying30 rfl Tryz.sizeOf26 rfl (k := 2) rfl rfl) ?_
  refine LM.sp 20 rfl rfl rfl ?_
  refine LM.rd (om_ld Tryz.isAgg26 rfl rfl) ?_
  refine LM.sp 20 rfl rfl rfl ?_
  refine LM.val (ov_len Tryz.underlying26 rfl) ?_
  refine LM.sp 20 rfl rfl rfl ?_
  refine LM.val (ov_neq rfl rfl) ?_
  refine LM.val (ov_pickF rfl rfl) ?_
  refine LM.mv rfl ?_
  refine LM.splitD (t := 29) rfl (fun h3 => ?_) (fun h3 => ?_)
  ·
   refine LM.dr 29 rfl rfl rfl ?_
   refine LM.dr 29 rfl rfl rfl ?_
   refine LM.dr 29 rfl rfl rfl ?_
   refine LM.dr 29 rfl rfl rfl ?_
   refine LM.dr 29 rfl rfl rfl ?_
   refine LM.dr 29 rfl rfl rfl ?_
   refine LM.dr 29 rfl rfl rfl ?_
   refine LM.val (ov_pickT rfl rfl) ?_
   refine LM.mv rfl ?_
   refine LM.dr 38 rfl rfl rfl ?_
   refine LM.dr 38 rfl rfl rfl ?_
   refine LM.dr 38 rfl rfl rfl ?_
   refine LM.dr 38 rfl rfl rfl ?_
   refine LM.dr 38 rfl rfl rfl ?_
   refine LM.dr 38 rfl rfl rfl ?_
   refine LM.dr 38 rfl rfl rfl ?_
   refine LM.val (ov_pickT rfl rfl) ?_
   refine LM.nil (QM.sub (e' := [(2, _), (3, _), (46, _)]) ⟨rfl, rfl, rfl, trivial⟩ ?_)
   refine QM.meetK (_) ⟨au2, rfl, rfl, trivial⟩ au1 ?_
   · (simp [h1, h2, h3]; done)
  refine LM.sp 29 rfl rfl rfl ?_
  refine LM.val (ov_field Tryz.underlying30 rfl Tryz.sizeOf27 rfl (k := 3) rfl rfl) ?_
  refine LM.sp 29 rfl rfl rfl ?_
  refine LM.rd (om_ld Tryz.isAgg27 rfl rfl) ?_
  refine LM.sp 29 rfl rfl rfl ?_
  refine LM.val (ov_len Tryz.underlying27 rfl) ?_
  refine LM.sp 29 rfl rfl rfl ?_
  refine LM.val (ov_field Tryz.underlying30 rfl Tryz.sizeOf27 rfl (k := 3) rfl rfl) ?_
  refine LM.sp 29 rfl rfl rfl ?_
  refine LM.rd (om_ld Tryz.isAgg27 rfl rfl) ?_
  refine LM.sp 29 rfl rfl rfl ?_
  refine LM.val (ov_len Tryz.underlying27 rfl) ?_
  refine LM.sp 29 rfl rfl rfl ?_
  refine LM.val (ov_neq rfl rfl) ?_
  refine LM.val (ov_pickF rfl rfl) ?_
  refine LM.mv rfl ?_
  refine LM.splitD (t := 38) rfl (fun h4 => ?_) (fun h4 => ?_)
  ·
   refine LM.dr 38 rfl rfl rfl ?_
   refine LM.dr 38 rfl rfl rfl ?_
   refine LM.dr 38 rfl rfl rfl ?_
   refine LM.dr 38 rfl rfl rfl ?_
   refine LM.dr 38 rfl rfl rfl ?_
   refine LM.dr 38 rfl rfl rfl ?_
   refine LM.dr 38 rfl rfl rfl ?_
   refine LM.val (ov_pickT rfl rfl) ?_
   refine LM.nil (QM.sub (e' := [(2, _), (3, _), (46, _)]) ⟨rfl, rfl, rfl, trivial⟩ ?_)
   refine QM.meetK (_) ⟨au2, rfl, rfl, trivial⟩ au1 ?_
   · (simp [h1, h2, h3, h4]; done)
  refine LM.sp 38 rfl rfl rfl ?_
  refine LM.val (ov_field Tryz.underlying30 rfl Tryz.sizeOf28 rfl (k := 4) rfl rfl) ?_
  refine LM.sp 38 rfl rfl rfl ?_
  refine LM.rd (om_ld Tryz.isAgg28 rfl rfl) ?_
  refine LM.sp 38 rfl rfl rfl ?_
  refine LM.val (ov_len Tryz.underlying28 rfl) ?_
  refine LM.sp 38 rfl rfl rfl ?_
  refine LM.val (ov_field Tryz.underlying30 rfl Tryz.sizeOf28 rfl (k := 4) rfl rfl) ?_
  refine LM.sp 38 rfl rfl rfl ?_
  refine LM.rd (om_ld Tryz.isAgg28 rfl rfl) ?_
  refine LM.sp 38 rfl rfl rfl ?_
  refine LM.val (ov_len Tryz.underlying28 rfl) ?_
  refine LM.sp 38 rfl rfl rfl ?_
  refine LM.val (ov_neq rfl rfl) ?_
  refine LM.val (ov_pickF rfl rfl) ?_
  refine LM.nil (QM.sub (e' := [(2, _), (3, _), (46, _)]) ⟨rfl, rfl, rfl, trivial⟩ ?_)
  refine QM.meetK (_) ⟨au2, rfl, rfl, trivial⟩ au1 ?_
  · (simp [h1, h2, h3, h4]; done)
 rintro q hq
 change QM _ _ _ _ _ (stB b2 a :: stB b3 b :: []) _ _ _
 refine QM.then ?_
 first | refine wpM.condD rfl (fun h5 => ?_) (fun h5 => ?_) | refine wpM.condB rfl (fun h5 => ?_) (fun h5 => ?_)
 ·
  refine wpM.seq (wpM.region ?_)
  refine LM.as rfl ?_
  refine LM.nil (QM.sub (e' := [(4, _)]) ⟨rfl, trivial⟩ (QM.then ?_))
  refine wpM.ret ?_
  refine QM.then_ret ?_
  refine QM.leave (.inl rfl) [.tmp 4] Tryz.results13 rfl ?_
  intro w' hm' hc' hg'
  refine ⟨?_, hc'⟩; rw [decide_eq_false (fun (q : a.C = b.C) => by have f1 : a.cr = b.cr := congrArg StC.cr q; have f2 : a.gr = b.gr := congrArg StC.gr q; have f3 : a.gn = b.gn := (by rw [a1, b1', show a.gs = b.gs from congrArg StC.gs q]); have f4 : a.ln = b.ln := (by rw [a3, b3', show a.ls = b.ls from congrArg StC.ls q]); have f5 : a.pn = b.pn := (by have f6 : a.ps.map PgV.c = b.ps.map PgV.c := congrArg StC.ps q; have := congrArg List.length f6; simp at this; omega); rw [h5] at hq; simp [f1, f2, f3, f4, f5] at hq)]; rfl
 have hh := hq.symm; rw [h5] at hh; simp only [Bool.or_eq_false_iff, decide_eq_false_iff_not, Decidable.not_not, ne_eq] at hh; obtain ⟨e1, e2, e3, e4, e5⟩ := hh
 refine wpM.skip ?_
 refine QM.then ?_
 refine wpM.seq ?_
 refine wpM.seq (wpM.region ?_)
 refine LM.as rfl ?_
 refine LM.nil (QM.sub (e' := [(2, _), (3, _), (5, _)]) ⟨rfl, rfl, rfl, trivial⟩ (QM.then ?_))
 refine wpM.block ?_
 refine wpM.loopK0 (α := Nat) (fun i => [(5, .int .i64 (i : Nat))]) [(2, _), (3, _)] (fun i => stB b2 a :: stB b3 b :: []) (fun i => i ≤ a.gs.length ∧ a.gs.take i = b.gs.take i) (fun i => a.gs.length - i) (0) ⟨au2, rfl, rfl, trivial⟩ au1 ⟨Nat.zero_le _, rfl⟩ ?_
 rintro i ⟨hi, hg⟩
 change wpM _ _ _ _ _ _ _ (stB b2 a :: stB b3 b :: []) _ _ _
 refine wpM.seq ?_
 refine wpM.seq (wpM.region ?_)
 refine LM.mv rfl ?_
 refine LM.val (ov_field Tryz.underlying30 rfl Tryz.sizeOf26 rfl (k := 2) rfl rfl) ?_
 refine LM.rd (om_ld Tryz.isAgg26 rfl rfl) ?_
 refine LM.val (ov_len Tryz.underlying26 rfl) ?_
 refine LM.val (ov_lss rfl rfl) ?_
 refine LM.nil (QM.sub (e' := [(2, _), (3, _), (5, _), (51, _)]) ⟨rfl, rfl, rfl, rfl, trivial⟩ (QM.then ?_))
 refine wpM.condD rfl (fun h6 => ?_) (fun h6 => ?_)
 ·
  refine wpM.skip ?_
  refine QM.then ?_
  refine wpM.seq ?_
  refine wpM.block ?_
  refine wpM.seq ?_
  refine wpM.draw [(0, 0), (1, 1), (2, 0), (3, 0), (4, 1), (5, 0), (6, 1), (7, 0), (8, 0), (9, 1), (10, 0)] (by kernel_rfl) (by kernel_rfl) ?_
  refine LD.val rfl rfl (ov_field Tryz.underlying30 rfl Tryz.sizeOf26 rfl (k := 2) rfl rfl) ?_
  refine LD.rd rfl rfl (om_ld Tryz.isAgg26 rfl rfl) ?_
  refine LD.val rfl rfl (ov_move rfl) ?_
  refine LD.val rfl rfl (ov_idxSN au6 Tryz.underlying26 Tryz.sizeOf3 rfl rfl (by omega)) ?_
  first | refine LD.rd rfl rfl (om_sl1 (by assumption) (by intro _; rfl) Tryz.isAgg3 rfl rfl (by exact getq 0 au4) (by rfl)) ?_ | refine LD.rdC rfl rfl (om_sr1 (by assumption) Tryz.isAgg3 rfl rfl (by exact getq 0 au4) (by rfl) id) ?_ | refine LD.rd rfl rfl (om_ld Tryz.isAgg3 rfl rfl) ?_
  refine LD.val rfl rfl (ov_field Tryz.underlying30 rfl Tryz.sizeOf26 rfl (k := 2) rfl rfl) ?_
  refine LD.rd rfl rfl (om_ld Tryz.isAgg26 rfl rfl) ?_
  refine LD.val rfl rfl (ov_move rfl) ?_
  refine LD.val rfl rfl (ov_idxSN au6 Tryz.underlying26 Tryz.sizeOf3 rfl rfl (by omega)) ?_
  first | refine LD.rd rfl rfl (om_sl1 (by assumption) (by intro _; rfl) Tryz.isAgg3 rfl rfl (by exact getq 0 au4) (by rfl)) ?_ | refine LD.rdC rfl rfl (om_sr1 (by assumption) Tryz.isAgg3 rfl rfl (by exact getq 0 au4) (by rfl) id) ?_ | refine LD.rd rfl rfl (om_ld Tryz.isAgg3 rfl rfl) ?_
  refine LD.val rfl rfl (ov_neq rfl rfl) ?_
  refine LD.nil ?_
  refine QM.sub (e' := [(2, _), (3, _), (5, _), (64, _)]) ⟨rfl, rfl, rfl, rfl, trivial⟩ (QM.then ?_)
  refine wpM.condD rfl (fun h7 => ?_) (fun h7 => ?_)
  ·
   refine wpM.seq (wpM.region ?_)
   refine LM.as rfl ?_
   refine LM.nil (QM.sub (e' := [(4, _)]) ⟨rfl, trivial⟩ (QM.then ?_))
   refine wpM.ret ?_
   refine QM.block_ret ?_
   refine QM.then_ret ?_
   refine QM.then_ret ?_
   refine QM.block_ret ?_
   refine QM.then_ret ?_
   refine QM.leave (.inl rfl) [.tmp 4] Tryz.results13 rfl ?_
   intro w' hm' hc' hg'
   refine ⟨?_, hc'⟩; rw [decide_eq_false (fun (q : a.C = b.C) => h7 (by rw [show a.gs = b.gs from congrArg StC.gs q]))]; rfl
  refine wpM.skip ?_
  refine QM.block_normal ?_
  refine QM.then (wpM.region ?_)
  refine LM.mv rfl ?_
  refine LM.val (ov_add64 rfl rfl (by omega)) ?_
  refine LM.as rfl ?_
  refine LM.nil (QM.sub (e' := [(2, _), (3, _), (5, _)]) ⟨rfl, rfl, rfl, trivial⟩ ?_)
  refine QM.againK (i + 1) ⟨au2, rfl, rfl, trivial⟩ au1 (fun _ h => h) ?_ ?_
  · exact ⟨by omega, eq_atD 0 (by omega) (by omega) hg (Classical.not_not.1 h7)⟩
  · omega
 refine wpM.exit ?_
 refine QM.then_exit ?_
 refine QM.then_exit ?_
 refine QM.block_hit ?_
 refine QM.then ?_
 refine wpM.seq ?_
 refine wpM.seq (wpM.region ?_)
 refine LM.as rfl ?_
 refine LM.nil (QM.sub (e' := [(2, _), (3, _), (6, _)]) ⟨rfl, rfl, rfl, trivial⟩ (QM.then ?_))
 refine wpM.block ?_
 refine wpM.loopK0 (α := Nat) (fun j => [(6, .int .i64 (j : Nat))]) [(2, _), (3, _)] (fun j => stB b2 a :: stB b3 b :: []) (fun j => j ≤ a.ls.length ∧ a.ls.take j = b.ls.take j) (fun j => a.ls.length - j) (0) ⟨au2, rfl, rfl, trivial⟩ au1 ⟨Nat.zero_le _, rfl⟩ ?_
 rintro j ⟨hj, hl⟩
 change wpM _ _ _ _ _ _ _ (stB b2 a :: stB b3 b :: []) _ _ _
 refine wpM.seq ?_
 refine wpM.seq (wpM.region ?_)
 refine LM.mv rfl ?_
 refine LM.val (ov_field Tryz.underlying30 rfl Tryz.sizeOf27 rfl (k := 3) rfl rfl) ?_
 refine LM.rd (om_ld Tryz.isAgg27 rfl rfl) ?_
 refine LM.val (ov_len Tryz.underlying27 rfl) ?_
 refine LM.val (ov_lss rfl rfl) ?_
 refine LM.nil (QM.sub (e' := [(2, _), (3, _), (6, _), (69, _)]) ⟨rfl, rfl, rfl, rfl, trivial⟩ (QM.then ?_))
 refine wpM.condD rfl (fun h8 => ?_) (fun h8 => ?_)
 ·
  refine wpM.skip ?_
  refine QM.then ?_
  refine wpM.seq ?_
  refine wpM.block ?_
  refine wpM.seq ?_
  refine wpM.draw [(0, 0), (1, 1), (2, 0), (3, 0), (4, 1), (5, 0), (6, 1), (7, 0), (8, 0), (9, 1), (10, 0)] (by kernel_rfl) (by kernel_rfl) ?_
  refine LD.val rfl rfl (ov_field Tryz.underlying30 rfl Tryz.sizeOf27 rfl (k := 3) rfl rfl) ?_
  refine LD.rd rfl rfl (om_ld Tryz.isAgg27 rfl rfl) ?_
  refine LD.val rfl rfl (ov_move rfl) ?_
  refine LD.val rfl rfl (ov_idxSN au6 Tryz.underlying27 Tryz.sizeOf63 rfl rfl (by omega)) ?_
  first | refine LD.rd rfl rfl (om_slA (by assumption) (by intro _; rfl) Tryz.isAgg63 Tryz.sizeOf63 rfl au3) ?_ | refine LD.rdC rfl rfl (om_srEA (by assumption) (by intro _; rfl) Tryz.isAgg63 Tryz.sizeOf63 rfl au3 id) ?_ | refine LD.rd rfl rfl (om_ldW Tryz.isAgg63 Tryz.sizeOf63 rfl rfl) ?_ | refine LD.rd rfl rfl (om_ldA Tryz.isAgg63 Tryz.sizeOf63 rfl (vs := [_, _, _, _, _]) rfl ⟨rfl, rfl, rfl, rfl, rfl, trivial⟩) ?_
  refine LD.val rfl rfl (ov_field Tryz.underlying30 rfl Tryz.sizeOf27 rfl (k := 3) rfl rfl) ?_
  refine LD.rd rfl rfl (om_ld Tryz.isAgg27 rfl rfl) ?_
  refine LD.val rfl rfl (ov_move rfl) ?_
  refine LD.val rfl rfl (ov_idxSN au6 Tryz.underlying27 Tryz.sizeOf63 rfl rfl (by omega)) ?_
  first | refine LD.rd rfl rfl (om_slA (by assumption) (by intro _; rfl) Tryz.isAgg63 Tryz.sizeOf63 rfl au3) ?_ | refine LD.rdC rfl rfl (om_srEA (by assumption) (by intro _; rfl) Tryz.isAgg63 Tryz.sizeOf63 rfl au3 id) ?_ | refine LD.rd rfl rfl (om_ldW Tryz.isAgg63 Tryz.sizeOf63 rfl rfl) ?_ | refine LD.rd rfl rfl (om_ldA Tryz.isAgg63 Tryz.sizeOf63 rfl (vs := [_, _, _, _, _]) rfl ⟨rfl, rfl, rfl, rfl, rfl, trivial⟩) ?_
  refine LD.val rfl rfl (ov_aneq Tryz.underlying63 (by kernel_rfl) (by kernel_rfl) (by decide) rfl rfl (by rfl) ⟨(by first | rfl | trivial), (by first | rfl | trivial), (by first | rfl | trivial), (by first | rfl | trivial), (by first | rfl | trivial), trivial⟩) ?_
  refine LD.nil ?_
  refine QM.sub (e' := [(2, _), (3, _), (6, _), (82, _)]) ⟨rfl, rfl, rfl, rfl, trivial⟩ (QM.then ?_)
  first | refine wpM.condD rfl (fun h9 => ?_) (fun h9 => ?_) | refine wpM.condB rfl (fun h9 => ?_) (fun h9 => ?_)
  ·
   refine wpM.seq (wpM.region ?_)
   refine LM.as rfl ?_
   refine LM.nil (QM.sub (e' := [(4, _)]) ⟨rfl, trivial⟩ (QM.then ?_))
   refine wpM.ret ?_
   refine QM.block_ret ?_
   refine QM.then_ret ?_
   refine QM.then_ret ?_
   refine QM.block_ret ?_
   refine QM.then_ret ?_
   refine QM.leave (.inl rfl) [.tmp 4] Tryz.results13 rfl ?_
   intro w' hm' hc' hg'
   refine ⟨?_, hc'⟩; rw [decide_eq_false (fun (q : a.C = b.C) => by rw [fL_veqs, show a.ls = b.ls from congrArg StC.ls q] at h9; simp at h9)]; rfl
  refine wpM.skip ?_
  refine QM.block_normal ?_
  refine QM.then (wpM.region ?_)
  refine LM.mv rfl ?_
  refine LM.val (ov_add64 rfl rfl (by omega)) ?_
  refine LM.as rfl ?_
  refine LM.nil (QM.sub (e' := [(2, _), (3, _), (6, _)]) ⟨rfl, rfl, rfl, trivial⟩ ?_)
  refine QM.againK (j + 1) ⟨au2, rfl, rfl, trivial⟩ au1 (fun _ h => h) ?_ ?_
  · exact ⟨by omega, eq_atD default (by omega) (by omega) hl (by rw [fL_veqs] at h9; simpa using h9)⟩
  · omega
 refine wpM.exit ?_
 refine QM.then_exit ?_
 refine QM.then_exit ?_
 refine QM.block_hit ?_
 refine QM.then ?_
 refine wpM.seq ?_
 refine wpM.seq (wpM.region ?_)
 refine LM.as rfl ?_
 refine LM.nil (QM.sub (e' := [(2, _), (3, _), (7, _)]) ⟨rfl, rfl, rfl, trivial⟩ (QM.then ?_))
 refine wpM.block ?_
 refine wpM.loopK0 (α := Nat) (fun k => [(7, .int .i64 (k : Nat))]) [(2, _), (3, _)] (fun k => stB b2 a :: stB b3 b :: []) (fun k => k ≤ a.ps.length ∧ (a.ps.map PgV.c).take k = (b.ps.map PgV.c).take k) (fun k => a.ps.length - k) (0) ⟨au2, rfl, rfl, trivial⟩ au1 ⟨Nat.zero_le _, rfl⟩ ?_
 rintro k ⟨hk, hp⟩
 change wpM _ _ _ _ _ _ _ (stB b2 a :: stB b3 b :: []) _ _ _
 refine wpM.seq ?_
 refine wpM.seq (wpM.region ?_)
 refine LM.mv rfl ?_
 refine LM.val (ov_field Tryz.underlying30 rfl Tryz.sizeOf28 rfl (k := 4) rfl rfl) ?_
 refine LM.rd (om_ld Tryz.isAgg28 rfl rfl) ?_
 refine LM.val (ov_len Tryz.underlying28 rfl) ?_
 refine LM.val (ov_lss rfl rfl) ?_
 refine LM.nil (QM.sub (e' := [(2, _), (3, _), (7, _), (87, _)]) ⟨rfl, rfl, rfl, rfl, trivial⟩ (QM.then ?_))
 refine wpM.condD rfl (fun h10 => ?_) (fun h10 => ?_)
 ·
  have hx1 : a.ps.getD k default ∈ a.ps := List.mem_of_getElem? (getq default (by omega)); have hx2 : b.ps.getD k default ∈ b.ps := List.mem_of_getElem? (getq default (by omega))
  refine wpM.skip ?_
  refine QM.then ?_
  refine wpM.seq ?_
  refine wpM.block ?_
  refine wpM.seq ?_
  refine wpM.draw [(0, 0), (1, 1), (2, 0), (3, 0), (4, 1), (5, 0), (6, 1), (7, 0), (8, 0), (9, 1), (10, 2), (11, 0)] (by kernel_rfl) (by kernel_rfl) ?_
  refine LD.val rfl rfl (ov_field Tryz.underlying30 rfl Tryz.sizeOf28 rfl (k := 4) rfl rfl) ?_
  refine LD.rd rfl rfl (om_ld Tryz.isAgg28 rfl rfl) ?_
  refine LD.val rfl rfl (ov_move rfl) ?_
  refine LD.val rfl rfl (ov_idxSN au6 Tryz.underlying28 Tryz.sizeOf87 rfl rfl (by omega)) ?_
  first | refine LD.rd rfl rfl (om_slA (by assumption) (by intro _; rfl) Tryz.isAgg87 Tryz.sizeOf87 rfl au3) ?_ | refine LD.rdC rfl rfl (om_srEA (by assumption) (by intro _; rfl) Tryz.isAgg87 Tryz.sizeOf87 rfl au3 id) ?_ | refine LD.rd rfl rfl (om_ldW Tryz.isAgg87 Tryz.sizeOf87 rfl rfl) ?_ | refine LD.rd rfl rfl (om_ldA Tryz.isAgg87 Tryz.sizeOf87 rfl (vs := [_, _]) rfl ⟨rfl, rfl, trivial⟩) ?_
  refine LD.val rfl rfl (ov_field Tryz.underlying30 rfl Tryz.sizeOf28 rfl (k := 4) rfl rfl) ?_
  refine LD.rd rfl rfl (om_ld Tryz.isAgg28 rfl rfl) ?_
  refine LD.val rfl rfl (ov_move rfl) ?_
  refine LD.val rfl rfl (ov_idxSN au6 Tryz.underlying28 Tryz.sizeOf87 rfl rfl (by omega)) ?_
  first | refine LD.rd rfl rfl (om_slA (by assumption) (by intro _; rfl) Tryz.isAgg87 Tryz.sizeOf87 rfl au3) ?_ | refine LD.rdC rfl rfl (om_srEA (by assumption) (by intro _; rfl) Tryz.isAgg87 Tryz.sizeOf87 rfl au3 id) ?_ | refine LD.rd rfl rfl (om_ldW Tryz.isAgg87 Tryz.sizeOf87 rfl rfl) ?_ | refine LD.rd rfl rfl (om_ldA Tryz.isAgg87 Tryz.sizeOf87 rfl (vs := [_, _]) rfl ⟨rfl, rfl, trivial⟩) ?_
  refine LD.callE rfl rfl (oc_call (enters_fn Tryz.func47 (by kernel_rfl) rfl) rfl) (fun w hm hc hg => rsame_spec w (hA.ops _ hx1).1 ((hA.ops _ hx1).2.ext hc) (hB.ops _ hx2).1 ((hB.ops _ hx2).2.ext hc) (by have := hb.o _ hx1; omega)) ?_
  first | refine LD.val rfl rfl (ov_notD rfl) ?_ | refine LD.val rfl rfl (ov_not rfl) ?_
  refine LD.nil ?_
  refine QM.sub (e' := [(2, _), (3, _), (7, _), (101, _)]) ⟨rfl, rfl, rfl, rfl, trivial⟩ (QM.then ?_)
  first | refine wpM.condD rfl (fun h11 => ?_) (fun h11 => ?_) | refine wpM.condB rfl (fun h11 => ?_) (fun h11 => ?_)
  ·
   refine wpM.seq (wpM.region ?_)
   refine LM.as rfl ?_
   refine LM.nil (QM.sub (e' := [(4, _)]) ⟨rfl, trivial⟩ (QM.then ?_))
   refine wpM.ret ?_
   refine QM.block_ret ?_
   refine QM.then_ret ?_
   refine QM.then_ret ?_
   refine QM.block_ret ?_
   refine QM.then_ret ?_
   refine QM.leave (.inl rfl) [.tmp 4] Tryz.results13 rfl ?_
   intro w' hm' hc' hg'
   refine ⟨?_, hc'⟩; rw [decide_eq_false (fun (q : a.C = b.C) => by rw [pgc_eq, ← map_getD, ← map_getD, show a.ps.map PgV.c = b.ps.map PgV.c from congrArg StC.ps q] at h11; simp at h11)]; rfl
  refine wpM.skip ?_
  refine QM.block_normal ?_
  refine QM.then (wpM.region ?_)
  refine LM.mv rfl ?_
  refine LM.val (ov_add64 rfl rfl (by omega)) ?_
  refine LM.as rfl ?_
  refine LM.nil (QM.sub (e' := [(2, _), (3, _), (7, _)]) ⟨rfl, rfl, rfl, trivial⟩ ?_)
  refine QM.againK (k + 1) ⟨au2, rfl, rfl, trivial⟩ au1 (fun _ h => h) ?_ ?_
  · exact ⟨by omega, eq_atD default (by simp; omega) (by simp; omega) hp (by rw [map_getD, map_getD]; rw [pgc_eq] at h11; simpa using h11)⟩
  · omega
 refine wpM.exit ?_
 refine QM.then_exit ?_
 refine QM.then_exit ?_
 refine QM.block_hit ?_
 refine QM.then (wpM.seq (wpM.region ?_))
 refine LM.as rfl ?_
 refine LM.nil (QM.sub (e' := [(4, _)]) ⟨rfl, trivial⟩ (QM.then ?_))
 refine wpM.ret ?_
 refine QM.leave (.inl rfl) [.tmp 4] Tryz.results13 rfl ?_
 intro w' hm' hc' hg'
 refine ⟨?_, hc'⟩; rw [decide_eq_true (show a.C = b.C by unfold StV.C; rw [e1, e2, eq_all (by omega) (by omega) hg, eq_all (by omega) (by omega) hl, eq_all (by simp; omega) (by simp; omega) hp])]; rfl
end Go.Eng
namespace Go.Eng
open Go Go.Proofs Go.RowKit
abbrev wrB (b : Nat) (ad : Option Addr) (n cap : Nat) : Nat × Obj := (b, .cells #[.slice ad n cap] 101 (0, 0))
def WrM (n0 b : Nat) (ws : List Wrd) (m : Mem0) : Prop := ∃ ad n cap ml, n = ws.length ∧ Sl fW 65 4 n0 ws (.slice ad n cap) ml ∧ n0 ≤ b ∧ m = wrB b ad n cap :: (ml ++ [])
def WrT (n0 b : Nat) (ws : List Wrd) (u : Value) (m : Mem0) : Prop := u = .tuple #[] ∧ WrM n0 b ws m
theorem fldW_len (t : List UInt8) (k : Int) : (fldW t k).length = 2 := rfl
theorem linW_len (t : List UInt8) (k : Int) : (linW t k).length = 3 := rfl
theorem lin_snoc {gs : List Int} {i : Nat} {t : List UInt8} (h : i < gs.length) : (gs.take (i + 1)).flatMap (linW t) = (gs.take i).flatMap (linW t) ++ linW t (gs.getD i 0) := by
  rw [take_snoc 0 h, List.flatMap_append]; simp
theorem lck_snoc {ls : List CLk} {i : Nat} (h : i < ls.length) : (ls.take (i + 1)).flatMap lckW = (ls.take i).flatMap lckW ++ lckW (ls.getD i default) := by
  rw [take_snoc default h, List.flatMap_append]; simp
def pgW (ps : List PgC) : List Wrd := ps.flatMap (fun p => wordsF p.fv p.xs)
theorem pgW_snoc {ps : List PgC} {i : Nat} (h : i < ps.length) : pgW (ps.take (i + 1)) = pgW (ps.take i) ++ wordsF (ps.getD i default).fv (ps.getD i default).xs := by
  unfold pgW; rw [take_snoc default h, List.flatMap_append]; simp
theorem lin_flen {gs : List Int} {t : List UInt8} : (gs.flatMap (linW t)).length = 3 * gs.length := by
  induction gs with
  | nil => rfl
  | cons a l ih => rw [List.flatMap_cons, List.length_append, ih, linW_len, List.length_cons]; omega
theorem lck_flen {ls : List CLk} : (ls.flatMap lckW).length ≤ 10 * ls.length := by
  induction ls with
  | nil => exact Nat.zero_le _
  | cons a l ih => rw [List.flatMap_cons, List.length_append, lckW_len, List.length_cons]; split <;> omega
theorem pg_flen {ps : List PgC} (h : ∀ p ∈ ps, p.xs.length ≤ 12) : (pgW ps).length ≤ 60 * ps.length := by
  unfold pgW
  induction ps with
  | nil => exact Nat.zero_le _
  | cons a l ih =>
    have h1 := words_len a.fv a.xs
    have h2 := h a (List.mem_cons_self ..)
    have h3 := ih (fun p hp => h p (List.mem_cons_of_mem _ hp))
    rw [List.flatMap_cons, List.length_append, List.length_cons]; omega
theorem setW_eq (s : StC) : setW s = linW wCores s.cr ++ linW wGrain s.gr ++ s.gs.flatMap (linW wGroup) ++ s.ls.flatMap lckW ++ pgW s.ps := rfl
theorem progs12 {s : StC} (h : mayS s = true) : ∀ p ∈ s.ps, p.xs.length ≤ 12 := fun p hp => (mayB_inv (List.all_eq_true.1 (mayS_progs h) p hp)).2.1
theorem setW_len {s : StC} (h : mayS s = true) : (setW s).length ≤ 600 := by
  obtain ⟨_, _, h1, _, h2, _, h3, _⟩ := mayS_inv h
  have a := lin_flen (gs := s.gs) (t := wGroup)
  have b := lck_flen (ls := s.ls)
  have c := pg_flen (progs12 h)
  rw [setW_eq]; simp only [List.length_append, linW_len]; omega
set_option maxRecDepth 100000 in
theorem wfield_spec {n0 : Nat} {ws : List Wrd} {m : Mem0} (b : Nat) (t : List UInt8) (k : Int) (w : World) (hW : WrM n0 b ws m) (hM : Mem w m) (hn0 : n0 ≤ w.heap.size) (hlx : ws.length ≤ 300000) : Ret Tryz.prog 101 #[.pointer (some ⟨b, 0, none⟩), vS t, .int .i64 k] w (Upd m (WrT n0 b (ws ++ fldW t k)) w) := by
 obtain ⟨ad, n, cap, ml, hn, hsl, hbw, rfl⟩ := hW
 refine Ret.enterM (l := [.pointer (some ⟨b, 0, none⟩), vS t, .int .i64 k]) Tryz.func101 rfl Tryz.ntmps101 rfl (wrB b ad n cap :: (ml ++ [])) ((fun x => ∃ q ∈ wrB b ad n cap :: (ml ++ []), q.1 = x)) hM ?_
 refine wpM.region ?_
 refine LM.mv rfl ?_
 refine LM.mv rfl ?_
 refine LM.val (ov_nilCheck rfl) ?_
 refine LM.val (ov_field Tryz.underlying101 rfl Tryz.sizeOf23 rfl (k := 0) rfl rfl) ?_
 refine LM.rd (om_ld Tryz.isAgg23 rfl rfl) ?_
 refine LM.mv rfl ?_
 refine LM.val (ov_build (cs := #[_, _, _, _]) rfl (by first | rfl | kernel_rfl)) ?_
 refine LM.mv rfl ?_
 refine LM.val (ov_build (cs := #[_, _, _, _]) rfl (by first | rfl | kernel_rfl)) ?_
 refine LM.row (vs := [_, _]) Tryz.underlying23 Tryz.sizeOf65 Tryz.zeroValue65 rfl rfl rfl rfl rfl rfl (fun b15 hb15 => ?_)
 refine LM.appN (ys := fldW t k) Tryz.underlying23 Tryz.typeInfo65 rfl rfl rfl rfl rfl rfl rfl hsl (fun w hm hc hg => row_sr 2 (hm.at b15) rfl rfl (fun _ => rfl)) (by intro _; rfl) (by intro _ u hu; simp [fW] at hu; (repeat (first | (rcases hu with rfl | hu) | subst hu | rfl))) (by first | exact Nat.le_refl _ | omega) (fun p hp _ => ⟨p, List.mem_cons_of_mem _ (List.mem_append_left _ hp), rfl⟩) (by first | omega | (unfold maxLen; simp only [fldW_len, List.length_cons, List.length_nil]; omega) | (unfold maxLen; omega)) (by simp only [Tryz.t65, fldW_len, List.length_cons, List.length_nil]; omega) (fun ad16 n16 cap16 m16 hn16 hs16 hin16 => ?_)
 refine LM.val (ov_nilCheck rfl) ?_
 refine LM.val (ov_field Tryz.underlying101 rfl Tryz.sizeOf23 rfl (k := 0) rfl rfl) ?_
 refine LM.st Tryz.sizeOf23 rfl rfl rfl au5 rfl (fun hlt => by first | exact ⟨_, List.mem_cons_self .., rfl⟩ | exact absurd hlt (by omega)) ?_
 refine LM.nil (QM.sub (e' := []) trivial ?_)
 refine QM.leave (.inr rfl) [] Tryz.results101 rfl ?_
 intro w' hm' hc' hg'
 refine ⟨hc', wrB b ad16 n16 cap16 :: (m16 ++ []), ⟨rfl, ad16, n16, cap16, m16, by rw [hn16]; simp, hs16, hbw, rfl⟩, SubM.mem au1 w' hm', fun p hp => ?_⟩; rcases List.mem_cons.1 hp with rfl | hp; exact .inr ⟨_, List.mem_cons_self .., rfl⟩; rw [List.append_nil] at hp; rcases hin16 p hp with h | ⟨q, hq, hqp⟩; exact .inl h; exact .inr ⟨q, List.mem_cons_of_mem _ (List.mem_append_left _ hq), hqp⟩
set_option maxRecDepth 100000 in
theorem wend_spec {n0 : Nat} {ws : List Wrd} {m : Mem0} (b : Nat) (w : World) (hW : WrM n0 b ws m) (hM : Mem w m) (hn0 : n0 ≤ w.heap.size) (hlx : ws.length ≤ 300000) : Ret Tryz.prog 102 #[.pointer (some ⟨b, 0, none⟩)] w (Upd m (WrT n0 b (ws ++ [mk3 [59]])) w) := by
 obtain ⟨ad, n, cap, ml, hn, hsl, hbw, rfl⟩ := hW
 refine Ret.enterM (l := [.pointer (some ⟨b, 0, none⟩)]) Tryz.func102 rfl Tryz.ntmps102 rfl (wrB b ad n cap :: (ml ++ [])) ((fun x => ∃ q ∈ wrB b ad n cap :: (ml ++ []), q.1 = x)) hM ?_
 refine wpM.region ?_
 refine LM.mv rfl ?_
 refine LM.mv rfl ?_
 refine LM.val (ov_nilCheck rfl) ?_
 refine LM.val (ov_field Tryz.underlying101 rfl Tryz.sizeOf23 rfl (k := 0) rfl rfl) ?_
 refine LM.rd (om_ld Tryz.isAgg23 rfl rfl) ?_
 refine LM.val (ov_build (cs := #[_, _, _, _]) rfl (by first | rfl | kernel_rfl)) ?_
 refine LM.single Tryz.underlying23 Tryz.sizeOf65 Tryz.zeroValue65 rfl rfl rfl rfl rfl (fun b8 hb8 => ?_)
 refine LM.appN (ys := [mk3 [59]]) Tryz.underlying23 Tryz.typeInfo65 rfl rfl rfl rfl rfl rfl rfl hsl (fun w hm hc hg => row_sr 1 (hm.at b8) rfl rfl (fun _ => rfl)) (by intro _; rfl) (by intro _ u hu; simp [fW] at hu; (repeat (first | (rcases hu with rfl | hu) | subst hu | rfl))) (by first | exact Nat.le_refl _ | omega) (fun p hp _ => ⟨p, List.mem_cons_of_mem _ (List.mem_append_left _ hp), rfl⟩) (by first | omega | (unfold maxLen; simp only [fldW_len, List.length_cons, List.length_nil]; omega) | (unfold maxLen; omega)) (by simp only [Tryz.t65, fldW_len, List.length_cons, List.length_nil]; omega) (fun ad9 n9 cap9 m9 hn9 hs9 hin9 => ?_)
 refine LM.val (ov_nilCheck rfl) ?_
 refine LM.val (ov_field Tryz.underlying101 rfl Tryz.sizeOf23 rfl (k := 0) rfl rfl) ?_
 refine LM.st Tryz.sizeOf23 rfl rfl rfl au5 rfl (fun hlt => by first | exact ⟨_, List.mem_cons_self .., rfl⟩ | exact absurd hlt (by omega)) ?_
 refine LM.nil (QM.sub (e' := []) trivial ?_)
 refine QM.leave (.inr rfl) [] Tryz.results102 rfl ?_
 intro w' hm' hc' hg'
 refine ⟨hc', wrB b ad9 n9 cap9 :: (m9 ++ []), ⟨rfl, ad9, n9, cap9, m9, by rw [hn9]; simp, hs9, hbw, rfl⟩, SubM.mem au1 w' hm', fun p hp => ?_⟩; rcases List.mem_cons.1 hp with rfl | hp; exact .inr ⟨_, List.mem_cons_self .., rfl⟩; rw [List.append_nil] at hp; rcases hin9 p hp with h | ⟨q, hq, hqp⟩; exact .inl h; exact .inr ⟨q, List.mem_cons_of_mem _ (List.mem_append_left _ hq), hqp⟩
theorem wr_cells {n0 b : Nat} {ws : List Wrd} {m : Mem0} (h : WrM n0 b ws m) : ∀ p ∈ m, wlk p.2 = false := by
  obtain ⟨ad, n, cap, ml, hn, hsl, hbw, rfl⟩ := h
  intro p hp
  rcases List.mem_cons.1 hp with rfl | hp
  · rfl
  · rw [List.append_nil] at hp; exact hsl.wlk p hp
theorem wr_ge {n0 b : Nat} {ws : List Wrd} {m : Mem0} (h : WrM n0 b ws m) : ∀ p ∈ m, n0 ≤ p.1 := by
  obtain ⟨ad, n, cap, ml, hn, hsl, hbw, rfl⟩ := h
  intro p hp
  rcases List.mem_cons.1 hp with rfl | hp
  · exact hbw
  · rw [List.append_nil] at hp; exact Sl.ge hsl p hp
theorem in_S {A B : Mem0} {k : Nat} (h : ∀ p ∈ B, k ≤ p.1 ∨ ∃ q ∈ A, q.1 = p.1) : ∀ p ∈ B, p.1 < k → ∃ q ∈ A, q.1 = p.1 := fun p hp hlt => (h p hp).resolve_left (by omega)
theorem in_tr {A B C : Mem0} {k : Nat} (h1 : ∀ p ∈ B, k ≤ p.1 ∨ ∃ q ∈ A, q.1 = p.1) (h2 : ∀ p ∈ C, k ≤ p.1 ∨ ∃ q ∈ B, q.1 = p.1) : ∀ p ∈ C, k ≤ p.1 ∨ ∃ q ∈ A, q.1 = p.1 := fun p hp => by
  rcases h2 p hp with h | ⟨q, hq, e⟩
  · exact .inl h
  · rcases h1 q hq with h | ⟨r, hr, e2⟩
    · exact .inl (by omega)
    · exact .inr ⟨r, hr, e2.trans e⟩
theorem in_wr {b : Nat} {ad ad' : Option Addr} {n n' cap cap' k : Nat} {ml m' : Mem0} (h : ∀ p ∈ m', k ≤ p.1 ∨ ∃ q ∈ ml, q.1 = p.1) : ∀ p ∈ wrB b ad' n' cap' :: (m' ++ []), k ≤ p.1 ∨ ∃ q ∈ wrB b ad n cap :: (ml ++ []), q.1 = p.1 := fun p hp => by
  rcases List.mem_cons.1 hp with rfl | hp
  · exact .inr ⟨_, List.mem_cons_self .., rfl⟩
  · rw [List.append_nil] at hp
    rcases h p hp with h | ⟨q, hq, hqp⟩
    · exact .inl h
    · exact .inr ⟨q, List.mem_cons_of_mem _ (List.mem_append_left _ hq), hqp⟩
set_option maxRecDepth 100000 in
theorem wline_spec {n0 : Nat} {ws : List Wrd} {m : Mem0} (b : Nat) (t : List UInt8) (k : Int) (w : World) (hW : WrM n0 b ws m) (hM : Mem w m) (hn0 : n0 ≤ w.heap.size) (hlx : ws.length ≤ 200000) : Ret Tryz.prog 56 #[.pointer (some ⟨b, 0, none⟩), vS t, .int .i64 k] w (Upd m (WrT n0 b (ws ++ linW t k)) w) := by
 refine Ret.enterM (l := [.pointer (some ⟨b, 0, none⟩), vS t, .int .i64 k]) Tryz.func56 rfl Tryz.ntmps56 rfl (m ++ []) ((fun x => ∃ q ∈ m, q.1 = x)) (by rw [List.append_nil]; exact hM) ?_
 refine wpM.seq (wpM.region ?_)
 refine LM.mv rfl ?_
 refine LM.mv rfl ?_
 refine LM.mv rfl ?_
 refine LM.cU (oc_call (enters_fn Tryz.func101 (by kernel_rfl) rfl) rfl) (fun w hm hc hg => wfield_spec b t k w hW (hm.pick _) (Nat.le_trans hn0 hc.size) (by first | omega | (simp only [List.length_append, List.length_cons, List.length_nil, fldW_len, linW_len]; omega))) (wr_cells hW) (fun p hp _ => ⟨p, hp, rfl⟩) ?_
 rintro u9 m9 ⟨rfl, hW9⟩ hin9
 refine LM.nil (QM.sub (e' := [(0, _)]) ⟨rfl, trivial⟩ (QM.then (wpM.region ?_)))
 refine LM.mv rfl ?_
 refine LM.cU (oc_call (enters_fn Tryz.func102 (by kernel_rfl) rfl) rfl) (fun w hm hc hg => wend_spec b w hW9 (hm.pick _) (Nat.le_trans hn0 hc.size) (by first | omega | (simp only [List.length_append, List.length_cons, List.length_nil, fldW_len, linW_len]; omega))) (wr_cells hW9) (in_S hin9) ?_
 rintro u11 m11 ⟨rfl, hW11⟩ hin11
 refine LM.nil (QM.sub (e' := []) trivial ?_)
 refine QM.leave (.inr rfl) [] Tryz.results56 rfl ?_
 intro w' hm' hc' hg'
 refine ⟨hc', m11, ⟨rfl, by have e : ws ++ linW t k = ws ++ fldW t k ++ [mk3 [59]] := (by simp [linW]); rw [e]; exact hW11⟩, hm'.pick _, in_tr hin9 hin11⟩
set_option maxRecDepth 100000 in
set_option maxHeartbeats 1000000 in
theorem wlock_spec {n0 : Nat} {ws : List Wrd} {m : Mem0} (b : Nat) (x : CLk) (w : World) (hW : WrM n0 b ws m) (hM : Mem w m) (hn0 : n0 ≤ w.heap.size) (hlx : ws.length ≤ 200000) : Ret Tryz.prog 57 #[.pointer (some ⟨b, 0, none⟩), .agg (fL x).toArray] w (Upd m (WrT n0 b (ws ++ lckW x)) w) := by
 obtain ⟨ad, n, cap, ml, hn, hsl, hbw, rfl⟩ := hW
 refine Ret.enterM (l := [.pointer (some ⟨b, 0, none⟩), .agg (fL x).toArray]) Tryz.func57 rfl Tryz.ntmps57 rfl (wrB b ad n cap :: (ml ++ [])) ((fun x => ∃ q ∈ wrB b ad n cap :: (ml ++ []), q.1 = x)) hM ?_
 refine wpM.seq (wpM.region ?_)
 refine LM.box rfl rfl (fun b3 hb3 => ?_)
 refine LM.nil (QM.sub (e' := [(0, _), (3, _)]) ⟨rfl, rfl, trivial⟩ (QM.then (wpM.seq (wpM.region ?_))))
 refine LM.as rfl ?_
 refine LM.nil (QM.sub (e' := [(0, _), (3, _), (4, _)]) ⟨rfl, rfl, rfl, trivial⟩ (QM.then ?_))
 refine wpM.seq ?_
 refine wpM.seq (wpM.region ?_)
 refine LM.val (ov_field Tryz.underlying63 rfl Tryz.sizeOf4 rfl (k := 0) rfl rfl) ?_
 refine LM.rd (om_ld Tryz.isAgg4 rfl rfl) ?_
 refine LM.nil (QM.sub (e' := [(0, _), (3, _), (4, _), (6, _)]) ⟨rfl, rfl, rfl, rfl, trivial⟩ (QM.then ?_))
 refine wpM.joinK (α := List UInt8) (fun t => [(4, vS t)]) [(0, _), (3, _)] (fun t => wrB b ad n cap :: (ml ++ ((b3, .cells (fL x).toArray 63 (0, 0)) :: []))) (fun t => t = (if x.sh then wShared else wLock)) ⟨rfl, rfl, trivial⟩ ?_ ?_
 ·
  first | refine wpM.condD rfl (fun h1 => ?_) (fun h1 => ?_) | refine wpM.condB rfl (fun h1 => ?_) (fun h1 => ?_)
  ·
   refine wpM.region ?_
   refine LM.as rfl ?_
   refine LM.nil (QM.sub (e' := [(0, _), (3, _), (4, _)]) ⟨rfl, rfl, rfl, trivial⟩ ?_)
   refine QM.meetK (wShared) ⟨au2, rfl, rfl, trivial⟩ au1 ?_
   · rw [if_pos h1]
  refine wpM.skip ?_
  refine QM.meetK (wLock) ⟨au2, rfl, rfl, trivial⟩ au1 ?_
  · rw [if_neg (by rw [h1]; simp)]
 rintro t ht
 change QM _ _ _ _ _ (wrB b ad n cap :: (ml ++ ((b3, .cells (fL x).toArray 63 (0, 0)) :: []))) _ _ _
 refine QM.then (wpM.seq (wpM.region ?_))
 refine LM.mv rfl ?_
 refine LM.mv rfl ?_
 refine LM.val (ov_nilCheck rfl) ?_
 refine LM.val (ov_field Tryz.underlying101 rfl Tryz.sizeOf23 rfl (k := 0) rfl rfl) ?_
 refine LM.rd (om_ld Tryz.isAgg23 rfl rfl) ?_
 refine LM.mv rfl ?_
 refine LM.val (ov_build (cs := #[_, _, _, _]) rfl (by first | rfl | kernel_rfl)) ?_
 refine LM.single Tryz.underlying23 Tryz.sizeOf65 Tryz.zeroValue65 rfl rfl rfl rfl rfl (fun b14 hb14 => ?_)
 refine LM.appN (ys := [nmE t]) Tryz.underlying23 Tryz.typeInfo65 rfl rfl rfl rfl rfl rfl rfl hsl (fun w hm hc hg => row_sr 1 (hm.at b14) rfl rfl (fun _ => rfl)) (by intro _; rfl) (by intro _ u hu; simp [fW] at hu; (repeat (first | (rcases hu with rfl | hu) | subst hu | rfl))) (by first | exact Nat.le_refl _ | omega) (fun p hp _ => ⟨p, List.mem_cons_of_mem _ (List.mem_append_left _ hp), rfl⟩) (by first | omega | (unfold maxLen; simp only [fldW_len, List.length_cons, List.length_nil]; omega) | (unfold maxLen; omega)) (by simp only [Tryz.t65, fldW_len, List.length_cons, List.length_nil]; omega) (fun ad15 n15 cap15 m15 hn15 hs15 hin15 => ?_); have hWa : WrM n0 b (ws ++ [nmE t]) (wrB b ad15 n15 cap15 :: (m15 ++ [])) := ⟨ad15, n15, cap15, m15, by rw [hn15]; simp, hs15, hbw, rfl⟩; have hina := in_wr (b := b) (ad := ad) (ad' := ad15) (n := n) (n' := n15) (cap := cap) (cap' := cap15) hin15
 refine LM.val (ov_nilCheck rfl) ?_
 refine LM.val (ov_field Tryz.underlying101 rfl Tryz.sizeOf23 rfl (k := 0) rfl rfl) ?_
 refine LM.st Tryz.sizeOf23 rfl rfl rfl au5 rfl (fun hlt => by first | exact ⟨_, List.mem_cons_self .., rfl⟩ | exact absurd hlt (by omega)) ?_
 refine LM.nil (QM.sub (e' := [(0, _), (3, _)]) ⟨rfl, rfl, trivial⟩ (QM.then (wpM.seq (wpM.region ?_))))
 change LM _ _ _ _ _ _ _ _ (wrB b ad15 n15 cap15 :: _) _ _ _
 refine LM.mv rfl ?_
 refine LM.val (ov_field Tryz.underlying63 rfl Tryz.sizeOf3 rfl (k := 1) rfl rfl) ?_
 refine LM.rd (om_ld Tryz.isAgg3 rfl rfl) ?_
 refine LM.cU (oc_call (enters_fn Tryz.func101 (by kernel_rfl) rfl) rfl) (fun w hm hc hg => wfield_spec b wSlice x.sl w hWa (hm.pick _) (Nat.le_trans hn0 hc.size) (by first | omega | (simp only [List.length_append, List.length_cons, List.length_nil, fldW_len, linW_len]; omega))) (wr_cells hWa) (in_S hina) ?_
 rintro u21 m21 ⟨rfl, hW21⟩ hin21
 refine LM.nil (QM.sub (e' := [(0, _), (3, _)]) ⟨rfl, rfl, trivial⟩ (QM.then (wpM.seq (wpM.region ?_))))
 refine LM.mv rfl ?_
 refine LM.val (ov_field Tryz.underlying63 rfl Tryz.sizeOf3 rfl (k := 2) rfl rfl) ?_
 refine LM.rd (om_ld Tryz.isAgg3 rfl rfl) ?_
 refine LM.cU (oc_call (enters_fn Tryz.func101 (by kernel_rfl) rfl) rfl) (fun w hm hc hg => wfield_spec b wCrit x.cr w hW21 (hm.pick _) (Nat.le_trans hn0 hc.size) (by first | omega | (simp only [List.length_append, List.length_cons, List.length_nil, fldW_len, linW_len]; omega))) (wr_cells hW21) (in_S (in_tr hina hin21)) ?_
 rintro u25 m25 ⟨rfl, hW25⟩ hin25
 refine LM.nil (QM.sub (e' := [(0, _), (3, _)]) ⟨rfl, rfl, trivial⟩ (QM.then ?_))
 refine wpM.seq ?_
 refine wpM.seq (wpM.region ?_)
 refine LM.val (ov_field Tryz.underlying63 rfl Tryz.sizeOf4 rfl (k := 0) rfl rfl) ?_
 refine LM.rd (om_ld Tryz.isAgg4 rfl rfl) ?_
 refine LM.nil (QM.sub (e' := [(0, _), (3, _), (27, _)]) ⟨rfl, rfl, rfl, trivial⟩ (QM.then ?_))
 first | refine wpM.condD rfl (fun h2 => ?_) (fun h2 => ?_) | refine wpM.condB rfl (fun h2 => ?_) (fun h2 => ?_)
 ·
  refine wpM.seq (wpM.region ?_)
  refine LM.mv rfl ?_
  refine LM.val (ov_field Tryz.underlying63 rfl Tryz.sizeOf3 rfl (k := 3) rfl rfl) ?_
  refine LM.rd (om_ld Tryz.isAgg3 rfl rfl) ?_
  refine LM.cU (oc_call (enters_fn Tryz.func101 (by kernel_rfl) rfl) rfl) (fun w hm hc hg => wfield_spec b wRead x.rd w hW25 (hm.pick _) (Nat.le_trans hn0 hc.size) (by first | omega | (simp only [List.length_append, List.length_cons, List.length_nil, fldW_len, linW_len]; omega))) (wr_cells hW25) (in_S (in_tr hina (in_tr hin21 hin25))) ?_
  rintro u31 m31 ⟨rfl, hW31⟩ hin31
  refine LM.nil (QM.sub (e' := [(0, _), (3, _)]) ⟨rfl, rfl, trivial⟩ (QM.then (wpM.region ?_)))
  refine LM.mv rfl ?_
  refine LM.val (ov_field Tryz.underlying63 rfl Tryz.sizeOf3 rfl (k := 4) rfl rfl) ?_
  refine LM.rd (om_ld Tryz.isAgg3 rfl rfl) ?_
  refine LM.cU (oc_call (enters_fn Tryz.func101 (by kernel_rfl) rfl) rfl) (fun w hm hc hg => wfield_spec b wWrite x.wr w hW31 (hm.pick _) (Nat.le_trans hn0 hc.size) (by first | omega | (simp only [List.length_append, List.length_cons, List.length_nil, fldW_len, linW_len]; omega))) (wr_cells hW31) (in_S (in_tr hina (in_tr hin21 (in_tr hin25 hin31)))) ?_
  rintro u35 m35 ⟨rfl, hW35⟩ hin35; have hWe := hW35; have hine := in_tr hina (in_tr hin21 (in_tr hin25 (in_tr hin31 hin35)))
  refine LM.nil (QM.sub (e' := [(0, _)]) ⟨rfl, trivial⟩ (QM.then (wpM.region ?_)))
  refine LM.mv rfl ?_
  refine LM.cU (oc_call (enters_fn Tryz.func102 (by kernel_rfl) rfl) rfl) (fun w hm hc hg => wend_spec b w hWe (hm.pick _) (Nat.le_trans hn0 hc.size) (by first | omega | (simp only [List.length_append, List.length_cons, List.length_nil, fldW_len, linW_len]; omega))) (wr_cells hWe) (in_S hine) ?_
  rintro u37 m37 ⟨rfl, hW37⟩ hin37
  refine LM.nil (QM.sub (e' := []) trivial ?_)
  refine QM.leave (.inr rfl) [] Tryz.results57 rfl ?_
  intro w' hm' hc' hg'
  refine ⟨hc', m37, ⟨rfl, by have e : ws ++ lckW x = ws ++ [nmE t] ++ fldW wSlice x.sl ++ fldW wCrit x.cr ++ fldW wRead x.rd ++ fldW wWrite x.wr ++ [mk3 [59]] := (by unfold lckW; rw [ht]; simp [h2]); rw [e]; exact hW37⟩, hm'.pick _, in_tr hine hin37⟩
 have hWe := hW25; have hine := in_tr hina (in_tr hin21 hin25)
 refine wpM.skip ?_
 refine QM.then (wpM.region ?_)
 refine LM.mv rfl ?_
 refine LM.cU (oc_call (enters_fn Tryz.func102 (by kernel_rfl) rfl) rfl) (fun w hm hc hg => wend_spec b w hWe (hm.pick _) (Nat.le_trans hn0 hc.size) (by first | omega | (simp only [List.length_append, List.length_cons, List.length_nil, fldW_len, linW_len]; omega))) (wr_cells hWe) (in_S hine) ?_
 rintro u37 m37 ⟨rfl, hW37⟩ hin37
 refine LM.nil (QM.sub (e' := []) trivial ?_)
 refine QM.leave (.inr rfl) [] Tryz.results57 rfl ?_
 intro w' hm' hc' hg'
 refine ⟨hc', m37, ⟨rfl, by have e : ws ++ lckW x = ws ++ [nmE t] ++ fldW wSlice x.sl ++ fldW wCrit x.cr ++ [mk3 [59]] := (by unfold lckW; rw [ht]; simp [h2]); rw [e]; exact hW37⟩, hm'.pick _, in_tr hine hin37⟩
set_option maxRecDepth 100000 in
set_option maxHeartbeats 2000000 in
theorem swords_spec {s : StV} (w : World) (hI : s.In w) : Ret Tryz.prog 18 #[s.val] w (fun v w' => Ext w w' ∧ ∃ m, WoT (wordsS s.C) w.heap.size v m ∧ Mem w' m ∧ ∀ p ∈ m, w.heap.size ≤ p.1) := by
 have hgn := hI.hgn; have hln := hI.hln; have hpn := hI.hpn; have hpS := hI.hp; have hgS := hI.hg; have hlS := hI.hl
 refine Ret.enterM (l := [s.val]) Tryz.func18 rfl Tryz.ntmps18 rfl ([]) (no) (Mem.nil w) ?_
 refine wpM.seq (wpM.region ?_)
 refine LM.box rfl rfl (fun b1 hb1 => ?_)
 refine LM.as rfl ?_
 refine LM.as rfl ?_
 refine LM.nil (QM.sub (e' := [(1, _)]) ⟨rfl, trivial⟩ (QM.then ?_))
 refine wpM.seq ?_
 refine wpM.seq (wpM.region ?_)
 refine LM.rd (om_ldW Tryz.isAgg30 Tryz.sizeOf30 rfl rfl) ?_
 refine LM.callE (oc_call (enters_fn Tryz.func14 (by kernel_rfl) rfl) rfl) (fun w hm hc hg => mayS_spec w (hI.ext hc)) ?_
 first | refine LM.val (ov_notD rfl) ?_ | refine LM.val (ov_not rfl) ?_
 refine LM.nil (QM.sub (e' := [(1, _), (15, _)]) ⟨rfl, rfl, trivial⟩ (QM.then ?_))
 first | refine wpM.condD rfl (fun h1 => ?_) (fun h1 => ?_) | refine wpM.condB rfl (fun h1 => ?_) (fun h1 => ?_)
 ·
  refine wpM.seq (wpM.region ?_)
  refine LM.as rfl ?_
  refine LM.as rfl ?_
  refine LM.nil (QM.sub (e' := [(2, _), (3, _)]) ⟨rfl, rfl, trivial⟩ (QM.then ?_))
  refine wpM.ret ?_
  refine QM.then_ret ?_
  refine QM.leave (.inl rfl) [.tmp 2, .tmp 3] Tryz.results18 rfl ?_
  intro w' hm' hc' hg'
  have hm0 : mayS s.C = false := (by simpa using h1); have hw : wordsS s.C = ([], 1) := (by unfold wordsS; rw [if_neg (by rw [hm0]; simp)]); rw [hw]; exact ⟨hc', [], ⟨none, 0, 0, rfl, rfl, .nil _ _ _ _⟩, Mem.nil _, fun p hp => by cases hp⟩
 have hmS : mayS s.C = true := (by simpa using h1); obtain ⟨_, _, hg4, _, hl8, _, hp8, _⟩ := mayS_inv hmS; have hg4 : 1 ≤ s.gs.length ∧ s.gs.length ≤ 4 := hg4; have hl8 : s.ls.length ≤ 8 := hl8; have hcl : (s.ps.map PgV.c).length = s.ps.length := List.length_map ..; have hp8 : 1 ≤ s.ps.length ∧ s.ps.length ≤ 8 := (by have h9 : 1 ≤ (s.ps.map PgV.c).length ∧ (s.ps.map PgV.c).length ≤ 8 := hp8; omega); have hp12 : ∀ p ∈ s.ps.map PgV.c, p.xs.length ≤ 12 := progs12 hmS
 refine wpM.skip ?_
 refine QM.then (wpM.seq (wpM.region ?_))
 refine LM.val (ov_build (cs := #[_]) rfl (by first | rfl | kernel_rfl)) ?_
 refine LM.box rfl rfl (fun b17 hb17 => ?_)
 refine LM.as rfl ?_
 refine LM.nil (QM.sub (e' := [(1, _), (4, _)]) ⟨rfl, rfl, trivial⟩ (QM.then (wpM.seq (wpM.region ?_))))
 change LM _ _ _ _ _ _ _ _ (wrB b17 none 0 0 :: _) _ _ _; have hW17 : WrM w.heap.size b17 [] (wrB b17 none 0 0 :: []) := ⟨none, 0, 0, [], rfl, .nil _ _ _ _, hb17, rfl⟩
 refine LM.mv rfl ?_
 refine LM.val (ov_field Tryz.underlying30 rfl Tryz.sizeOf3 rfl (k := 0) rfl rfl) ?_
 refine LM.rd (om_ld Tryz.isAgg3 rfl rfl) ?_
 refine LM.cU (oc_call (enters_fn Tryz.func56 (by kernel_rfl) rfl) rfl) (fun w hm hc hg => wline_spec b17 wCores s.cr w hW17 (hm.pick _) hc.size (by simp)) (wr_cells hW17) (fun p hp hlt => absurd hlt (Nat.not_lt_of_le (wr_ge hW17 p hp))) ?_
 rintro u21 m21 ⟨rfl, hW21⟩ hin21
 refine LM.nil (QM.sub (e' := [(1, _), (4, _)]) ⟨rfl, rfl, trivial⟩ (QM.then (wpM.seq (wpM.region ?_))))
 refine LM.mv rfl ?_
 refine LM.val (ov_field Tryz.underlying30 rfl Tryz.sizeOf3 rfl (k := 1) rfl rfl) ?_
 refine LM.rd (om_ld Tryz.isAgg3 rfl rfl) ?_
 refine LM.cU (oc_call (enters_fn Tryz.func56 (by kernel_rfl) rfl) rfl) (fun w hm hc hg => wline_spec b17 wGrain s.gr w hW21 (hm.pick _) hc.size (by simp [linW_len])) (wr_cells hW21) (fun p hp hlt => absurd hlt (Nat.not_lt_of_le (wr_ge hW21 p hp))) ?_
 rintro u25 m25 ⟨rfl, hW25⟩ hin25
 refine LM.nil (QM.sub (e' := [(1, _), (4, _)]) ⟨rfl, rfl, trivial⟩ (QM.then ?_))
 refine wpM.seq ?_
 refine wpM.seq (wpM.region ?_)
 refine LM.val (ov_field Tryz.underlying30 rfl Tryz.sizeOf26 rfl (k := 2) rfl rfl) ?_
 refine LM.rd (om_ld Tryz.isAgg26 rfl rfl) ?_
 refine LM.val (ov_len Tryz.underlying26 rfl) ?_
 refine LM.mv rfl ?_
 refine LM.nil (QM.sub (e' := [(1, _), (4, _), (27, _), (28, _), (29, _)]) ⟨rfl, rfl, rfl, rfl, rfl, trivial⟩ (QM.then ?_))
 refine wpM.block ?_
 refine wpM.loopK0 (α := Nat × Mem0) (fun ⟨i, mw⟩ => [(29, .int .i64 (i : Nat))]) [(1, _), (4, _), (27, _), (28, _)] (fun ⟨i, mw⟩ => mw ++ (stB b1 s :: [])) (fun ⟨i, mw⟩ => i ≤ s.gs.length ∧ WrM w.heap.size b17 (linW wCores s.cr ++ linW wGrain s.gr ++ (s.gs.take i).flatMap (linW wGroup)) mw) (fun ⟨i, mw⟩ => s.gs.length - i) ((0, m25)) ⟨au2, rfl, rfl, rfl, rfl, trivial⟩ au1 ⟨Nat.zero_le _, by simpa using hW25⟩ ?_
 rintro ⟨i, mw⟩ ⟨hi, hW0⟩
 change wpM _ _ _ _ _ _ _ (mw ++ (stB b1 s :: [])) _ _ _
 refine wpM.seq (wpM.region ?_)
 refine LM.val (ov_lss rfl rfl) ?_
 refine LM.nil (QM.sub (e' := [(1, _), (4, _), (27, _), (28, _), (29, _), (30, _)]) ⟨rfl, rfl, rfl, rfl, rfl, rfl, trivial⟩ (QM.then ?_))
 refine wpM.seq ?_
 refine wpM.condD rfl (fun h2 => ?_) (fun h2 => ?_)
 ·
  refine wpM.skip ?_
  refine QM.then ?_
  refine wpM.seq ?_
  refine wpM.block ?_
  refine wpM.seq (wpM.region ?_)
  refine LM.val (ov_idxSN au6 Tryz.underlying26 Tryz.sizeOf3 rfl rfl (by omega)) ?_
  first | refine LM.rd (om_sl1 (by assumption) (by intro _; rfl) Tryz.isAgg3 rfl rfl (by exact getq 0 au4) (by rfl)) ?_ | refine LM.rdC (om_sr1 (by assumption) Tryz.isAgg3 rfl rfl (by exact getq 0 au4) (by rfl) id) ?_ | refine LM.rd (om_ld Tryz.isAgg3 rfl rfl) ?_
  refine LM.as rfl ?_
  refine LM.nil (QM.sub (e' := [(1, _), (4, _), (6, _), (27, _), (28, _), (29, _)]) ⟨rfl, rfl, rfl, rfl, rfl, rfl, trivial⟩ (QM.then (wpM.region ?_)))
  refine LM.mv rfl ?_
  refine LM.mv rfl ?_
  refine LM.cU (oc_call (enters_fn Tryz.func56 (by kernel_rfl) rfl) rfl) (fun w hm hc hg => wline_spec b17 wGroup (s.gs.getD i 0) w hW0 (hm.pick _) hc.size (by have h9 := lin_flen (gs := s.gs.take i) (t := wGroup); have h8 := List.length_take_le i s.gs; simp only [List.length_append, linW_len]; omega)) (wr_cells hW0) (fun p hp hlt => absurd hlt (Nat.not_lt_of_le (wr_ge hW0 p hp))) ?_
  rintro u35 m35 ⟨rfl, hW35⟩ hin35
  refine LM.nil (QM.sub (e' := [(1, _), (4, _), (27, _), (28, _), (29, _)]) ⟨rfl, rfl, rfl, rfl, rfl, trivial⟩ ?_)
  refine QM.block_normal ?_
  refine QM.then (wpM.region ?_)
  refine LM.val (ov_add64 rfl rfl (by omega)) ?_
  refine LM.mv rfl ?_
  refine LM.nil (QM.sub (e' := [(1, _), (4, _), (27, _), (28, _), (29, _)]) ⟨rfl, rfl, rfl, rfl, rfl, trivial⟩ ?_)
  refine QM.againK ((i + 1, m35)) ⟨au2, rfl, rfl, rfl, rfl, trivial⟩ au1 (fun _ h => h) ?_ ?_
  · exact ⟨by omega, by rw [lin_snoc (by omega), ← List.append_assoc]; exact hW35⟩
  · first | omega | (dsimp only; omega)
 refine wpM.exit ?_
 refine QM.then_exit ?_
 refine QM.then_exit ?_
 refine QM.block_hit ?_
 refine QM.then ?_
 refine wpM.seq ?_
 refine wpM.seq (wpM.region ?_)
 refine LM.val (ov_field Tryz.underlying30 rfl Tryz.sizeOf27 rfl (k := 3) rfl rfl) ?_
 refine LM.rd (om_ld Tryz.isAgg27 rfl rfl) ?_
 refine LM.val (ov_len Tryz.underlying27 rfl) ?_
 refine LM.mv rfl ?_
 refine LM.nil (QM.sub (e' := [(1, _), (4, _), (38, _), (39, _), (40, _)]) ⟨rfl, rfl, rfl, rfl, rfl, trivial⟩ (QM.then ?_))
 refine wpM.block ?_
 refine wpM.loopK0 (α := Nat × Mem0) (fun ⟨j, mw⟩ => [(40, .int .i64 (j : Nat))]) [(1, _), (4, _), (38, _), (39, _)] (fun ⟨j, mw⟩ => mw ++ (stB b1 s :: [])) (fun ⟨j, mw⟩ => j ≤ s.ls.length ∧ WrM w.heap.size b17 (linW wCores s.cr ++ linW wGrain s.gr ++ s.gs.flatMap (linW wGroup) ++ (s.ls.take j).flatMap lckW) mw) (fun ⟨j, mw⟩ => s.ls.length - j) ((0, mw)) ⟨au2, rfl, rfl, rfl, rfl, trivial⟩ au1 ⟨Nat.zero_le _, by have hil : i = s.gs.length := (by omega); rw [hil, List.take_length] at hW0; simpa using hW0⟩ ?_
 rintro ⟨j, mw⟩ ⟨hj, hW1⟩
 change wpM _ _ _ _ _ _ _ (mw ++ (stB b1 s :: [])) _ _ _
 refine wpM.seq (wpM.region ?_)
 refine LM.val (ov_lss rfl rfl) ?_
 refine LM.nil (QM.sub (e' := [(1, _), (4, _), (38, _), (39, _), (40, _), (41, _)]) ⟨rfl, rfl, rfl, rfl, rfl, rfl, trivial⟩ (QM.then ?_))
 refine wpM.seq ?_
 refine wpM.condD rfl (fun h3 => ?_) (fun h3 => ?_)
 ·
  refine wpM.skip ?_
  refine QM.then ?_
  refine wpM.seq ?_
  refine wpM.block ?_
  refine wpM.seq (wpM.region ?_)
  refine LM.val (ov_idxSN au6 Tryz.underlying27 Tryz.sizeOf63 rfl rfl (by omega)) ?_
  first | refine LM.rd (om_slA (by assumption) (by intro _; rfl) Tryz.isAgg63 Tryz.sizeOf63 rfl au3) ?_ | refine LM.rdC (om_srEA (by assumption) (by intro _; rfl) Tryz.isAgg63 Tryz.sizeOf63 rfl au3 id) ?_ | refine LM.rd (om_ldW Tryz.isAgg63 Tryz.sizeOf63 rfl rfl) ?_ | refine LM.rd (om_ldA Tryz.isAgg63 Tryz.sizeOf63 rfl (vs := [_, _, _, _, _]) rfl ⟨rfl, rfl, rfl, rfl, rfl, trivial⟩) ?_
  refine LM.alloc Tryz.zeroValue63 rfl (fun b8 hb8 => ?_)
  refine LM.stW Tryz.sizeOf63 rfl rfl rfl rfl au7 au8 ?_
  refine LM.nil (QM.sub (e' := [(1, _), (4, _), (8, _), (38, _), (39, _), (40, _)]) ⟨rfl, rfl, rfl, rfl, rfl, rfl, trivial⟩ (QM.then (wpM.region ?_)))
  refine LM.mv rfl ?_
  refine LM.rd (om_ldW Tryz.isAgg63 Tryz.sizeOf63 rfl rfl) ?_
  refine LM.cU (oc_call (enters_fn Tryz.func57 (by kernel_rfl) rfl) rfl) (fun w hm hc hg => wlock_spec b17 (s.ls.getD j default) w hW1 (hm.pick _) hc.size (by have h9 := lin_flen (gs := s.gs) (t := wGroup); have h7 := lck_flen (ls := s.ls.take j); have h8 := List.length_take_le j s.ls; simp only [List.length_append, linW_len]; omega)) (wr_cells hW1) (fun p hp hlt => absurd hlt (Nat.not_lt_of_le (wr_ge hW1 p hp))) ?_
  rintro u46 m46 ⟨rfl, hW46⟩ hin46
  refine LM.nil (QM.sub (e' := [(1, _), (4, _), (38, _), (39, _), (40, _)]) ⟨rfl, rfl, rfl, rfl, rfl, trivial⟩ ?_)
  refine QM.block_normal ?_
  refine QM.then (wpM.region ?_)
  refine LM.val (ov_add64 rfl rfl (by omega)) ?_
  refine LM.mv rfl ?_
  refine LM.nil (QM.sub (e' := [(1, _), (4, _), (38, _), (39, _), (40, _)]) ⟨rfl, rfl, rfl, rfl, rfl, trivial⟩ ?_)
  refine QM.againK ((j + 1, m46)) ⟨au2, rfl, rfl, rfl, rfl, trivial⟩ au1 (fun _ h => h) ?_ ?_
  · exact ⟨by omega, by rw [lck_snoc (by omega), ← List.append_assoc]; exact hW46⟩
  · first | omega | (dsimp only; omega)
 refine wpM.exit ?_
 refine QM.then_exit ?_
 refine QM.then_exit ?_
 refine QM.block_hit ?_
 refine QM.then ?_
 refine wpM.seq ?_
 refine wpM.seq (wpM.region ?_)
 refine LM.val (ov_field Tryz.underlying30 rfl Tryz.sizeOf28 rfl (k := 4) rfl rfl) ?_
 refine LM.rd (om_ld Tryz.isAgg28 rfl rfl) ?_
 refine LM.val (ov_len Tryz.underlying28 rfl) ?_
 refine LM.mv rfl ?_
 refine LM.nil (QM.sub (e' := [(4, _), (49, _), (50, _), (51, _)]) ⟨rfl, rfl, rfl, rfl, trivial⟩ (QM.then ?_))
 refine wpM.block ?_
 refine wpM.loopK0 (α := Nat × Mem0) (fun ⟨k, mw⟩ => [(51, .int .i64 (k : Nat))]) [(4, _), (49, _), (50, _)] (fun ⟨k, mw⟩ => mw ++ (stB b1 s :: [])) (fun ⟨k, mw⟩ => k ≤ s.ps.length ∧ WrM w.heap.size b17 (linW wCores s.cr ++ linW wGrain s.gr ++ s.gs.flatMap (linW wGroup) ++ s.ls.flatMap lckW ++ pgW ((s.ps.map PgV.c).take k)) mw) (fun ⟨k, mw⟩ => s.ps.length - k) ((0, mw)) ⟨au2, rfl, rfl, rfl, trivial⟩ au1 ⟨Nat.zero_le _, by have hjl : j = s.ls.length := (by omega); rw [hjl, List.take_length] at hW1; simpa [pgW] using hW1⟩ ?_
 rintro ⟨k, mw⟩ ⟨hk, hW2⟩
 change wpM _ _ _ _ _ _ _ (mw ++ (stB b1 s :: [])) _ _ _
 refine wpM.seq (wpM.region ?_)
 refine LM.val (ov_lss rfl rfl) ?_
 refine LM.nil (QM.sub (e' := [(4, _), (49, _), (50, _), (51, _), (52, _)]) ⟨rfl, rfl, rfl, rfl, rfl, trivial⟩ (QM.then ?_))
 refine wpM.seq ?_
 refine wpM.condD rfl (fun h4 => ?_) (fun h4 => ?_)
 ·
  have hpm : s.ps.getD k default ∈ s.ps := List.mem_of_getElem? (getq default (by omega))
  refine wpM.skip ?_
  refine QM.then ?_
  refine wpM.seq ?_
  refine wpM.block ?_
  refine wpM.seq (wpM.region ?_)
  refine LM.val (ov_idxSN au6 Tryz.underlying28 Tryz.sizeOf87 rfl rfl (by omega)) ?_
  first | refine LM.rd (om_slA (by assumption) (by intro _; rfl) Tryz.isAgg87 Tryz.sizeOf87 rfl au3) ?_ | refine LM.rdC (om_srEA (by assumption) (by intro _; rfl) Tryz.isAgg87 Tryz.sizeOf87 rfl au3 id) ?_ | refine LM.rd (om_ldW Tryz.isAgg87 Tryz.sizeOf87 rfl rfl) ?_ | refine LM.rd (om_ldA Tryz.isAgg87 Tryz.sizeOf87 rfl (vs := [_, _]) rfl ⟨rfl, rfl, trivial⟩) ?_
  refine LM.alloc Tryz.zeroValue87 rfl (fun b10 hb10 => ?_)
  refine LM.stW Tryz.sizeOf87 rfl rfl rfl rfl au7 au8 ?_
  refine LM.nil (QM.sub (e' := [(4, _), (10, _), (49, _), (50, _), (51, _)]) ⟨rfl, rfl, rfl, rfl, rfl, trivial⟩ (QM.then (wpM.seq (wpM.region ?_))))
  refine LM.rd (om_ldW Tryz.isAgg87 Tryz.sizeOf87 rfl rfl) ?_
  refine LM.callT (oc_call (enters_fn Tryz.func58 (by kernel_rfl) rfl) rfl) WoT.mono (fun w hm hc hg => words_spec w (hI.ops _ hpm).1 ((hI.ops _ hpm).2.ext hc)) ?_
  rintro u57 m57 ⟨ad57, n57, cap57, rfl, hn57, hs57⟩ -; obtain ⟨adz, nz, cz, mz, hnz, hsz, hbz, rfl⟩ := hW2
  refine LM.mv rfl ?_
  refine LM.val (ov_extract rfl rfl) ?_
  refine LM.val (ov_extract rfl rfl) ?_
  refine LM.as rfl ?_
  refine LM.as rfl ?_
  refine LM.nil (QM.sub (e' := [(4, _), (11, _), (49, _), (50, _), (51, _)]) ⟨rfl, rfl, rfl, rfl, rfl, trivial⟩ (QM.then (wpM.region ?_)))
  have h9 := lin_flen (gs := s.gs) (t := wGroup); have h7 := lck_flen (ls := s.ls); have h8 := pg_flen (ps := (s.ps.map PgV.c).take k) (fun p hp => hp12 p (List.mem_of_mem_take hp)); have h6 := List.length_take_le k (s.ps.map PgV.c); have h5 := words_len (s.ps.getD k default).c.fv (s.ps.getD k default).c.xs; have h4 := hp12 _ (List.mem_map_of_mem hpm); have hw57 : (wordsO (s.ps.getD k default).c.fv (s.ps.getD k default).c.xs).1 = wordsF (s.ps.getD k default).c.fv (s.ps.getD k default).c.xs := (by unfold wordsO; rw [if_pos (List.all_eq_true.1 (mayS_progs hmS) _ (List.mem_map_of_mem hpm))])
  refine LM.mv rfl ?_
  refine LM.mv rfl ?_
  refine LM.val (ov_nilCheck rfl) ?_
  refine LM.val (ov_field Tryz.underlying101 rfl Tryz.sizeOf23 rfl (k := 0) rfl rfl) ?_
  refine LM.rd (om_ld Tryz.isAgg23 rfl rfl) ?_
  refine LM.mv rfl ?_
  refine LM.appN (ys := wordsF (s.ps.getD k default).c.fv (s.ps.getD k default).c.xs) Tryz.underlying23 Tryz.typeInfo65 rfl rfl rfl rfl rfl rfl rfl hsz (fun w hm hc hg => (hw57 ▸ hs57.srM (by intro _; rfl) hm)) (by intro _; rfl) (by intro _ u hu; simp [fW] at hu; (repeat (first | (rcases hu with rfl | hu) | subst hu | rfl))) (by first | exact Nat.le_refl _ | omega) (fun p hp hlt => absurd hlt (Nat.not_lt_of_le (Sl.ge hsz p hp))) (by first | (simp only [List.length_append, linW_len]; unfold maxLen; omega) | omega | (unfold maxLen; simp only [fldW_len, List.length_cons, List.length_nil]; omega) | (unfold maxLen; omega)) (by simp only [Tryz.t65, List.length_append, linW_len]; omega) (fun ad66 n66 cap66 m66 hn66 hs66 hin66 => ?_)
  refine LM.val (ov_nilCheck rfl) ?_
  refine LM.val (ov_field Tryz.underlying101 rfl Tryz.sizeOf23 rfl (k := 0) rfl rfl) ?_
  refine LM.st Tryz.sizeOf23 rfl rfl rfl au5 rfl au8 ?_
  refine LM.nil (QM.sub (e' := [(4, _), (49, _), (50, _), (51, _)]) ⟨rfl, rfl, rfl, rfl, trivial⟩ ?_)
  refine QM.block_normal ?_
  refine QM.then (wpM.region ?_)
  refine LM.val (ov_add64 rfl rfl (by omega)) ?_
  refine LM.mv rfl ?_
  refine LM.nil (QM.sub (e' := [(4, _), (49, _), (50, _), (51, _)]) ⟨rfl, rfl, rfl, rfl, trivial⟩ ?_)
  refine QM.againK ((k + 1, wrB b17 ad66 n66 cap66 :: (m66 ++ []))) ⟨au2, rfl, rfl, rfl, trivial⟩ au1 (fun _ h => h) ?_ ?_
  · exact ⟨by omega, by rw [pgW_snoc (by simp; omega), map_getD, ← List.append_assoc]; exact ⟨ad66, n66, cap66, m66, by simp only [hn66, List.length_append], hs66, hbz, rfl⟩⟩
  · first | omega | (dsimp only; omega)
 refine wpM.exit ?_
 refine QM.then_exit ?_
 refine QM.then_exit ?_
 refine QM.block_hit ?_
 refine QM.then (wpM.seq (wpM.region ?_))
 obtain ⟨adz, nz, cz, mz, hnz, hsz, hbz, rfl⟩ := hW2
 refine LM.mv rfl ?_
 refine LM.val (ov_nilCheck rfl) ?_
 refine LM.val (ov_field Tryz.underlying101 rfl Tryz.sizeOf23 rfl (k := 0) rfl rfl) ?_
 refine LM.rd (om_ld Tryz.isAgg23 rfl rfl) ?_
 refine LM.as rfl ?_
 refine LM.as rfl ?_
 refine LM.nil (QM.sub (e' := [(2, _), (3, _)]) ⟨rfl, rfl, trivial⟩ (QM.then ?_))
 refine wpM.ret ?_
 refine QM.leave (.inl rfl) [.tmp 2, .tmp 3] Tryz.results18 rfl ?_
 intro w' hm' hc' hg'
 have hkl : k = s.ps.length := (by omega); have hw : wordsS s.C = (linW wCores s.cr ++ linW wGrain s.gr ++ s.gs.flatMap (linW wGroup) ++ s.ls.flatMap lckW ++ pgW ((s.ps.map PgV.c).take k), 0) := (by unfold wordsS; rw [if_pos hmS, setW_eq, hkl, List.take_of_length_le (by omega)]; rfl); rw [hw]; exact ⟨hc', mz ++ [], ⟨adz, nz, cz, rfl, hnz, by rw [List.append_nil]; exact hsz⟩, SubM.mem (by (repeat' (first | exact SubM.nil _ | refine SubM.app ?_))) w' hm', fun p hp => by rw [List.append_nil] at hp; exact Sl.ge hsz p hp⟩
end Go.Eng
namespace Go.Eng
open Go Go.Proofs Go.RowKit
end Go.Eng
namespace Go.Eng
open Go Go.Proofs Go.RowKit
def numW (n : Int) : Wrd := ⟨2, [], n, 0⟩
def actW (o : Act) : List Wrd := ⟨1, acT o.k, 0, 0⟩ :: (((numsA o).take (manyA o.k)).map numW ++ [mk3 [59]])
def wordsA (l : List Act) : List Wrd × Int := if l.all rightA then (if 4000 < l.length then ([], 6) else (l.flatMap actW, 0)) else ([], 1)
theorem acT_len (k : Int) : (acT k).length ≤ 7 := by
  unfold acT; split
  · rename_i h
    have : k = 0 ∨ k = 1 ∨ k = 2 ∨ k = 3 ∨ k = 4 ∨ k = 5 ∨ k = 6 ∨ k = 7 ∨ k = 8 := by omega
    rcases this with rfl | rfl | rfl | rfl | rfl | rfl | rfl | rfl | rfl <;> decide
  · decide
theorem actW_len (o : Act) : (actW o).length ≤ 6 := by
  have := manyA_le o.k
  unfold actW; simp [numsA]; omega
theorem actW_text (o : Act) : ∀ x ∈ actW o, x.t.length ≤ 7 := by
  have := acT_len o.k
  intro x hx
  unfold actW mk3 numW at hx
  simp only [List.mem_cons, List.mem_append, List.not_mem_nil, or_false, List.mem_map] at hx
  rcases hx with rfl | ⟨n, _, rfl⟩ | rfl
  · exact this
  · simp
  · simp
theorem flatA_len (xs : List Act) : (xs.flatMap actW).length ≤ 6 * xs.length := by
  induction xs with
  | nil => simp
  | cons o xs ih => have := actW_len o; rw [List.flatMap_cons, List.length_append, List.length_cons]; omega
theorem flatA_snoc {xs : List Act} {i : Nat} (h : i < xs.length) : (xs.take (i + 1)).flatMap actW = (xs.take i).flatMap actW ++ actW (xs.getD i default) := by
  rw [take_snoc default h, List.flatMap_append]; simp
theorem Sl.cap {α : Type} {f : α → List Value} {E s n0 : Nat} {xs : List α} {ad : Option Addr} {n cap : Nat} {m : Mem0} (h : Sl f E s n0 xs (.slice ad n cap) m) (hx : 0 < xs.length) : xs.length ≤ cap := by
  obtain ⟨b, cap', junk, h1, h2, h3, h4, h5, h6⟩ := h.ne hx
  cases h2; exact h4
theorem allA_snoc {xs : List Act} {i : Nat} (h : i < xs.length) (h0 : (xs.take i).all rightA = true) (h1 : rightA (xs.getD i default) = true) : (xs.take (i + 1)).all rightA = true := by
  rw [take_snoc default h, List.all_append, h0]; simp only [List.all_cons, List.all_nil, Bool.and_true, Bool.true_and]; exact h1
theorem allA_not {xs : List Act} {i : Nat} (h : i < xs.length) (h1 : rightA (xs.getD i default) = false) : xs.all rightA = false := by
  cases hm : xs.all rightA with
  | false => rfl
  | true => rw [List.all_eq_true.1 hm _ (List.mem_of_getElem? (getq default h))] at h1; cases h1
theorem take_get {xs : List Int} {m k : Nat} (h : k < m) : (xs.take m).getD k 0 = xs.getD k 0 := by
  rw [List.getD_eq_getElem?_getD, List.getD_eq_getElem?_getD, List.getElem?_take_of_lt h]
theorem nums_snoc {o : Act} {k : Nat} (h : k < 4) : ((numsA o).take (k + 1)).map numW = ((numsA o).take k).map numW ++ [numW ((numsA o).getD k 0)] := by
  rw [take_snoc 0 (show k < (numsA o).length from h), List.map_append]; rfl
theorem Sl.pre {α : Type} {f : α → List Value} {E s n0 : Nat} {xs : List α} {ad : Option Addr} {n cap : Nat} {m : Mem0} (h : Sl f E s n0 xs (.slice ad n cap) m) (hf : ∀ a, (f a).length = s) {k : Nat} (hk : k ≤ xs.length) (hx : 0 < xs.length) : Sl f E s n0 (xs.take k) (.slice ad k cap) m := by
  obtain ⟨b, cap', junk, h1, h2, h3, h4, h5, h6⟩ := h.ne hx
  cases h2
  refine .inr ⟨b, cap, (xs.drop k).flatMap f ++ junk, h1, by rw [List.length_take, Nat.min_eq_left hk], ?_, by rw [List.length_take]; omega, h5, ?_⟩
  · rw [h3]; unfold arr; rw [← List.append_assoc, ← List.flatMap_append, List.take_append_drop]
  · rw [List.length_append, flatMap_len hf, List.length_take, List.length_drop, Nat.min_eq_left hk, ← h6, ← Nat.add_assoc, ← Nat.add_mul]; congr 2; omega
set_option maxRecDepth 100000 in
set_option maxHeartbeats 1000000 in
theorem awords_spec {xs : List Act} {ad : Option Addr} {n cap : Nat} (w : World) (hn : n = xs.length) (hl : Sr fA 5 xs (.slice ad n cap) w) (hx : xs.length ≤ 100000) : Ret Tryz.prog 72 #[.slice ad n cap] w (fun v w' => Ext w w' ∧ ∃ m, WoT (wordsA xs) w.heap.size v m ∧ Mem w' m ∧ ∀ p ∈ m, w.heap.size ≤ p.1) := by
 refine Ret.enterM (l := [.slice ad n cap]) Tryz.func72 rfl Tryz.ntmps72 rfl ([]) (no) (Mem.nil w) ?_
 refine wpM.seq (wpM.region ?_)
 refine LM.as rfl ?_
 refine LM.as rfl ?_
 refine LM.nil (QM.sub (e' := [(0, _)]) ⟨rfl, trivial⟩ (QM.then (wpM.seq (wpM.region ?_))))
 refine LM.as rfl ?_
 refine LM.nil (QM.sub (e' := [(0, _), (4, _)]) ⟨rfl, rfl, trivial⟩ (QM.then ?_))
 refine wpM.seq ?_
 refine wpM.seq (wpM.region ?_)
 refine LM.mv rfl ?_
 refine LM.val (ov_len Tryz.underlying47 rfl) ?_
 refine LM.mv rfl ?_
 refine LM.nil (QM.sub (e' := [(0, _), (4, _), (9, _), (10, _), (11, _)]) ⟨rfl, rfl, rfl, rfl, rfl, trivial⟩ (QM.then ?_))
 refine wpM.block ?_
 refine wpM.loopK0 (α := Nat × List Wrd × Option Addr × Nat × Nat × Mem0) (fun ⟨i, out, ado, no, capo, mo⟩ => [(4, .slice ado no capo), (11, .int .i64 (i : Nat))]) [(0, _), (9, _), (10, _)] (fun ⟨i, out, ado, no, capo, mo⟩ => mo ++ []) (fun ⟨i, out, ado, no, capo, mo⟩ => i ≤ xs.length ∧ out.length ≤ 6 * i ∧ out = (xs.take i).flatMap actW ∧ (xs.take i).all rightA = true ∧ no = out.length ∧ Sl fW 65 4 w.heap.size out (.slice ado no capo) mo) (fun ⟨i, out, ado, no, capo, mo⟩ => xs.length - i) ((0, [], none, 0, 0, [])) ⟨au2, au2, rfl, rfl, rfl, trivial⟩ au1 ⟨Nat.zero_le _, Nat.zero_le _, rfl, rfl, rfl, .nil _ _ _ _⟩ ?_
 rintro ⟨i, out, ado, no, capo, mo⟩ ⟨hi, hz, hout, hall, hno, hso⟩
 change wpM _ _ _ _ _ _ _ (mo ++ []) _ _ _
 have hm4 := manyA_le (xs.getD i default).k
 refine wpM.seq (wpM.region ?_)
 refine LM.val (ov_lss rfl rfl) ?_
 refine LM.nil (QM.sub (e' := [(0, _), (4, _), (9, _), (10, _), (11, _), (12, _)]) ⟨rfl, rfl, rfl, rfl, rfl, rfl, trivial⟩ (QM.then ?_))
 refine wpM.seq ?_
 refine wpM.condD rfl (fun h1 => ?_) (fun h1 => ?_)
 ·
  refine wpM.skip ?_
  refine QM.then ?_
  refine wpM.seq ?_
  refine wpM.block ?_
  refine wpM.seq (wpM.region ?_)
  refine LM.val (ov_idxSN au6 Tryz.underlying47 Tryz.sizeOf123 rfl rfl (by omega)) ?_
  first | refine LM.rd (om_slA (by assumption) (by intro _; rfl) Tryz.isAgg123 Tryz.sizeOf123 rfl au3) ?_ | refine LM.rdC (om_srEA (by assumption) (by intro _; rfl) Tryz.isAgg123 Tryz.sizeOf123 rfl au3 id) ?_ | refine LM.rd (om_ldW Tryz.isAgg123 Tryz.sizeOf123 rfl rfl) ?_ | refine LM.rd (om_ldA Tryz.isAgg123 Tryz.sizeOf123 rfl (vs := [_, _, _, _, _]) rfl ⟨rfl, rfl, rfl, rfl, rfl, trivial⟩) ?_
  refine LM.alloc Tryz.zeroValue123 rfl (fun b6 hb6 => ?_)
  refine LM.stW Tryz.sizeOf123 rfl rfl rfl rfl au7 au8 ?_
  refine LM.nil (QM.sub (e' := [(0, _), (4, _), (6, _), (9, _), (10, _), (11, _)]) ⟨rfl, rfl, rfl, rfl, rfl, rfl, trivial⟩ (QM.then ?_))
  refine wpM.seq ?_
  refine wpM.seq (wpM.region ?_)
  refine LM.rd (om_ldW Tryz.isAgg123 Tryz.sizeOf123 rfl rfl) ?_
  refine LM.callE (oc_call (enters_fn Tryz.func117 (by kernel_rfl) rfl) rfl) (fun w hm hc hg => aright_spec _ w) ?_
  first | refine LM.val (ov_notD rfl) ?_ | refine LM.val (ov_not rfl) ?_
  refine LM.nil (QM.sub (e' := [(0, _), (4, _), (6, _), (9, _), (10, _), (11, _), (17, _)]) ⟨rfl, rfl, rfl, rfl, rfl, rfl, rfl, trivial⟩ (QM.then ?_))
  first | refine wpM.condD rfl (fun h2 => ?_) (fun h2 => ?_) | refine wpM.condB rfl (fun h2 => ?_) (fun h2 => ?_)
  ·
   refine wpM.seq (wpM.region ?_)
   refine LM.as rfl ?_
   refine LM.as rfl ?_
   refine LM.nil (QM.sub (e' := [(2, _), (3, _)]) ⟨rfl, rfl, trivial⟩ (QM.then ?_))
   refine wpM.ret ?_
   refine QM.then_ret ?_
   refine QM.block_ret ?_
   refine QM.then_ret ?_
   refine QM.then_ret ?_
   refine QM.block_ret ?_
   refine QM.then_ret ?_
   refine QM.leave (.inl rfl) [.tmp 2, .tmp 3] Tryz.results72 rfl ?_
   intro w' hm' hc' hg'
   have hr : wordsA xs = ([], 1) := (by unfold wordsA; rw [allA_not (i := i) (by omega) (by simpa using h2)]; rfl); rw [hr]; exact ⟨hc', [], ⟨none, 0, 0, rfl, rfl, .nil _ _ _ _⟩, Mem.nil _, fun p hp => by cases hp⟩
  refine wpM.skip ?_
  refine QM.then (wpM.seq (wpM.region ?_))
  refine LM.mv rfl ?_
  refine LM.val (ov_field Tryz.underlying123 rfl Tryz.sizeOf3 rfl (k := 0) rfl rfl) ?_
  refine LM.rd (om_ld Tryz.isAgg3 rfl rfl) ?_
  refine LM.callE (oc_call (enters_fn Tryz.func118 (by kernel_rfl) rfl) rfl) (fun w hm hc hg => aname_spec _ w) ?_
  refine LM.val (ov_build (cs := #[_, _, _, _]) rfl (by first | rfl | kernel_rfl)) ?_
  refine LM.single Tryz.underlying23 Tryz.sizeOf65 Tryz.zeroValue65 rfl rfl rfl rfl rfl (fun b23 hb23 => ?_)
  refine LM.app (a := (⟨1, acT (xs.getD i default).k, 0, 0⟩ : Wrd)) Tryz.underlying23 Tryz.typeInfo65 rfl rfl rfl rfl rfl rfl rfl (by assumption) (by rfl) (by intro _; rfl) (by intro _ u hu; simp [fW] at hu; (repeat (first | (rcases hu with rfl | hu) | subst hu | rfl))) (by first | exact Nat.le_refl _ | omega) au9 (by first | omega | (unfold maxLen; omega)) (by simp only [Tryz.t65]; omega) (fun ad24 n24 cap24 m24 hn24 hs24 hin24 => ?_)
  refine LM.as rfl ?_
  refine LM.nil (QM.sub (e' := [(0, _), (4, _), (6, _), (9, _), (10, _), (11, _)]) ⟨rfl, rfl, rfl, rfl, rfl, rfl, trivial⟩ (QM.then ?_))
  refine wpM.seq ?_
  refine wpM.seq ?_
  refine wpM.draw [(0, 1), (2, 0), (3, 1), (7, 0), (1, 2), (4, 2), (5, 0), (6, 0)] (by kernel_rfl) (by kernel_rfl) ?_
  refine LD.rd rfl rfl (om_ldW Tryz.isAgg123 Tryz.sizeOf123 rfl rfl) ?_
  refine LD.val rfl rfl (ov_field Tryz.underlying123 rfl Tryz.sizeOf3 rfl (k := 0) rfl rfl) ?_
  refine LD.rd rfl rfl (om_ld Tryz.isAgg3 rfl rfl) ?_
  refine LD.val rfl rfl (ov_move rfl) ?_
  refine LD.cS rfl rfl (oc_call (enters_fn Tryz.func119 (by kernel_rfl) rfl) rfl) (fun w hm hc hg => numbers_spec (xs.getD i default) w) (fun ad26 n26 cap26 m26 hn26 hs26 => ?_)
  refine LD.callE rfl rfl (oc_call (enters_fn Tryz.func120 (by kernel_rfl) rfl) rfl) (fun w hm hc hg => many_spec _ w) ?_
  have hcap := hs26.cap (Nat.zero_lt_succ _); have hl4 : (numsA (xs.getD i default)).length = 4 := rfl
  refine LD.val rfl rfl (ov_subHi Tryz.underlying26 Tryz.sizeOf3 rfl rfl (by omega) (by omega)) ?_
  refine LD.val rfl rfl (ov_len Tryz.underlying26 rfl) ?_
  refine LD.nil ?_
  refine QM.sub (e' := [(0, _), (4, _), (9, _), (10, _), (11, _), (30, _), (31, _), (32, _)]) ⟨rfl, rfl, rfl, rfl, rfl, rfl, rfl, rfl, trivial⟩ (QM.then ?_)
  refine wpM.block ?_
  refine wpM.loopK0 (α := Nat × List Wrd × Option Addr × Nat × Nat × Mem0) (fun ⟨k, out2, ad2, n2, cap2, m2⟩ => [(4, .slice ad2 n2 cap2), (32, .int .i64 (k : Nat))]) [(0, _), (9, _), (10, _), (11, _), (30, _), (31, _)] (fun ⟨k, out2, ad2, n2, cap2, m2⟩ => m2 ++ (m26 ++ [])) (fun ⟨k, out2, ad2, n2, cap2, m2⟩ => k ≤ manyA (xs.getD i default).k ∧ out2.length ≤ 6 * i + 1 + k ∧ out2 = out ++ [⟨1, acT (xs.getD i default).k, 0, 0⟩] ++ (((numsA (xs.getD i default)).take k).map numW) ∧ n2 = out2.length ∧ Sl fW 65 4 w.heap.size out2 (.slice ad2 n2 cap2) m2) (fun ⟨k, out2, ad2, n2, cap2, m2⟩ => manyA (xs.getD i default).k - k) ((0, out ++ [(⟨1, acT (xs.getD i default).k, 0, 0⟩ : Wrd)], ad24, n24, cap24, m24)) ⟨au2, au2, rfl, rfl, rfl, rfl, rfl, rfl, trivial⟩ au1 ⟨Nat.zero_le _, by simp; omega, by simp, by rw [hn24]; simp, hs24⟩ ?_
  rintro ⟨k, out2, ad2, n2, cap2, m2⟩ ⟨hk, hz2, hout2, hn2, hs2⟩
  change wpM _ _ _ _ _ _ _ (m2 ++ (m26 ++ [])) _ _ _
  have hs30 := hs26.pre (fun _ => rfl) (show manyA (xs.getD i default).k ≤ (numsA (xs.getD i default)).length from hm4) (Nat.zero_lt_succ _); have hl30 : ((numsA (xs.getD i default)).take (manyA (xs.getD i default).k)).length = manyA (xs.getD i default).k := by rw [List.length_take]; omega
  refine wpM.seq (wpM.region ?_)
  refine LM.val (ov_lss rfl rfl) ?_
  refine LM.nil (QM.sub (e' := [(0, _), (4, _), (9, _), (10, _), (11, _), (30, _), (31, _), (32, _), (33, _)]) ⟨rfl, rfl, rfl, rfl, rfl, rfl, rfl, rfl, rfl, trivial⟩ (QM.then ?_))
  refine wpM.seq ?_
  refine wpM.condD rfl (fun h3 => ?_) (fun h3 => ?_)
  ·
   refine wpM.skip ?_
   refine QM.then ?_
   refine wpM.seq ?_
   refine wpM.block ?_
   refine wpM.seq (wpM.region ?_)
   refine LM.val (ov_idxSN au6 Tryz.underlying26 Tryz.sizeOf3 rfl rfl (by omega)) ?_
   refine LM.rd (om_sl1 (by assumption) (by intro _; rfl) Tryz.isAgg3 rfl rfl (by exact getq 0 au4) (by rfl)) ?_
   refine LM.as rfl ?_
   refine LM.nil (QM.sub (e' := [(0, _), (4, _), (8, _), (9, _), (10, _), (11, _), (30, _), (31, _), (32, _)]) ⟨rfl, rfl, rfl, rfl, rfl, rfl, rfl, rfl, rfl, trivial⟩ (QM.then (wpM.region ?_)))
   refine LM.mv rfl ?_
   refine LM.mv rfl ?_
   refine LM.val (ov_build (cs := #[_, _, _, _]) rfl (by first | rfl | kernel_rfl)) ?_
   refine LM.single Tryz.underlying23 Tryz.sizeOf65 Tryz.zeroValue65 rfl rfl rfl rfl rfl (fun b39 hb39 => ?_)
   refine LM.app (a := numW (((numsA (xs.getD i default)).take (manyA (xs.getD i default).k)).getD k 0)) Tryz.underlying23 Tryz.typeInfo65 rfl rfl rfl rfl rfl rfl rfl (by assumption) (by rfl) (by intro _; rfl) (by intro _ u hu; simp [fW] at hu; (repeat (first | (rcases hu with rfl | hu) | subst hu | rfl))) (by first | exact Nat.le_refl _ | omega) au9 (by first | omega | (unfold maxLen; omega)) (by simp only [Tryz.t65]; omega) (fun ad40 n40 cap40 m40 hn40 hs40 hin40 => ?_)
   refine LM.as rfl ?_
   refine LM.nil (QM.sub (e' := [(0, _), (4, _), (9, _), (10, _), (11, _), (30, _), (31, _), (32, _)]) ⟨rfl, rfl, rfl, rfl, rfl, rfl, rfl, rfl, trivial⟩ ?_)
   refine QM.block_normal ?_
   refine QM.then (wpM.region ?_)
   refine LM.val (ov_add64 rfl rfl (by omega)) ?_
   refine LM.mv rfl ?_
   refine LM.nil (QM.sub (e' := [(0, _), (4, _), (9, _), (10, _), (11, _), (30, _), (31, _), (32, _)]) ⟨rfl, rfl, rfl, rfl, rfl, rfl, rfl, rfl, trivial⟩ ?_)
   refine QM.againK ((k + 1, out2 ++ [numW (((numsA (xs.getD i default)).take (manyA (xs.getD i default).k)).getD k 0)], ad40, n40, cap40, m40)) ⟨au2, au2, rfl, rfl, rfl, rfl, rfl, rfl, trivial⟩ au1 (fun _ h => h) ?_ ?_
   · exact ⟨by omega, by rw [List.length_append, List.length_singleton]; omega, by rw [hout2, nums_snoc (by omega), take_get (by omega)]; simp, by rw [hn40]; simp, hs40⟩
   · first | omega | (dsimp only; omega)
  refine wpM.exit ?_
  refine QM.then_exit ?_
  refine QM.then_exit ?_
  refine QM.block_hit ?_
  refine QM.then (wpM.region ?_)
  refine LM.mv rfl ?_
  refine LM.val (ov_build (cs := #[_, _, _, _]) rfl (by first | rfl | kernel_rfl)) ?_
  refine LM.single Tryz.underlying23 Tryz.sizeOf65 Tryz.zeroValue65 rfl rfl rfl rfl rfl (fun b44 hb44 => ?_)
  refine LM.app (a := mk3 [59]) Tryz.underlying23 Tryz.typeInfo65 rfl rfl rfl rfl rfl rfl rfl (by assumption) (by rfl) (by intro _; rfl) (by intro _ u hu; simp [fW] at hu; (repeat (first | (rcases hu with rfl | hu) | subst hu | rfl))) (by first | exact Nat.le_refl _ | omega) au9 (by first | omega | (unfold maxLen; omega)) (by simp only [Tryz.t65]; omega) (fun ad45 n45 cap45 m45 hn45 hs45 hin45 => ?_)
  refine LM.as rfl ?_
  refine LM.nil (QM.sub (e' := [(0, _), (4, _), (9, _), (10, _), (11, _)]) ⟨rfl, rfl, rfl, rfl, rfl, trivial⟩ ?_)
  refine QM.block_normal ?_
  refine QM.then (wpM.region ?_)
  refine LM.val (ov_add64 rfl rfl (by omega)) ?_
  refine LM.mv rfl ?_
  refine LM.nil (QM.sub (e' := [(0, _), (4, _), (9, _), (10, _), (11, _)]) ⟨rfl, rfl, rfl, rfl, rfl, trivial⟩ ?_)
  obtain rfl : k = manyA (xs.getD i default).k := (by omega); have hl2 := congrArg List.length hout2
  refine QM.againK ((i + 1, out2 ++ [mk3 [59]], ad45, n45, cap45, m45)) ⟨au2, au2, rfl, rfl, rfl, trivial⟩ au1 (fun _ h => h) ?_ ?_
  · refine ⟨by omega, ?_, ?_, allA_snoc (by omega) hall (by simpa using h2), by rw [hn45]; simp, hs45⟩; (simp [numsA] at hl2 ⊢; omega); (rw [flatA_snoc (by omega), ← hout, hout2]; simp [actW])
  · first | omega | (dsimp only; omega)
 refine wpM.exit ?_
 refine QM.then_exit ?_
 refine QM.then_exit ?_
 refine QM.block_hit ?_
 refine QM.then ?_
 refine wpM.seq ?_
 refine wpM.seq (wpM.region ?_)
 refine LM.mv rfl ?_
 refine LM.val (ov_len Tryz.underlying47 rfl) ?_
 refine LM.val (ov_gtr rfl rfl) ?_
 refine LM.nil (QM.sub (e' := [(4, _), (49, _)]) ⟨rfl, rfl, trivial⟩ (QM.then ?_))
 refine wpM.condD rfl (fun h4 => ?_) (fun h4 => ?_)
 ·
  refine wpM.seq (wpM.region ?_)
  refine LM.as rfl ?_
  refine LM.as rfl ?_
  refine LM.nil (QM.sub (e' := [(2, _), (3, _)]) ⟨rfl, rfl, trivial⟩ (QM.then ?_))
  refine wpM.ret ?_
  refine QM.then_ret ?_
  refine QM.leave (.inl rfl) [.tmp 2, .tmp 3] Tryz.results72 rfl ?_
  intro w' hm' hc' hg'
  have hil : i = xs.length := (by omega); subst hil; rw [List.take_length] at hall; have hr : wordsA xs = ([], 6) := (by unfold wordsA; rw [hall, if_pos rfl, if_pos (by omega)]); rw [hr]; exact ⟨hc', [], ⟨none, 0, 0, rfl, rfl, .nil _ _ _ _⟩, Mem.nil _, fun p hp => by cases hp⟩
 refine wpM.skip ?_
 refine QM.then (wpM.seq (wpM.region ?_))
 refine LM.mv rfl ?_
 refine LM.as rfl ?_
 refine LM.as rfl ?_
 refine LM.nil (QM.sub (e' := [(2, _), (3, _)]) ⟨rfl, rfl, trivial⟩ (QM.then ?_))
 refine wpM.ret ?_
 refine QM.leave (.inl rfl) [.tmp 2, .tmp 3] Tryz.results72 rfl ?_
 intro w' hm' hc' hg'
 have hil : i = xs.length := (by omega); subst hil; rw [List.take_length] at hall hout; have hr : wordsA xs = (out, 0) := (by unfold wordsA; rw [hall, if_pos rfl, if_neg (by omega), hout]); rw [hr]; exact ⟨hc', mo, ⟨ado, no, capo, rfl, hno, hso⟩, hm'.pick _, fun p hp => Sl.ge hso p hp⟩
end Go.Eng
namespace Go.Eng
open Go Go.Proofs Go.RowKit
theorem eqA_at {xs ys : List Act} {i : Nat} (hl : xs.length = ys.length) (h : i < xs.length) (hp : xs.take i = ys.take i) (e : xs.getD i default = ys.getD i default) : xs.take (i + 1) = ys.take (i + 1) := by
  rw [take_snoc default h, take_snoc default (hl ▸ h), hp, e]
theorem fA_veqs (a b : Act) : veqs (fA a) (fA b) = decide (a = b) := by
  cases a; cases b; simp only [veqs, veq, fA, Bool.and_true, Act.mk.injEq, Bool.decide_and]; rfl
end Go.Eng
namespace Go.Eng
open Go Go.Proofs Go.RowKit
theorem bd_small {s : StV} (h : smallS s.C = true) : s.Bd := by
  unfold smallS at h
  simp only [Bool.and_eq_true, decide_eq_true_eq, List.all_eq_true] at h
  have hcl : (s.ps.map PgV.c).length = s.ps.length := List.length_map ..
  have h1 : s.gs.length ≤ 12 := h.1.1.1
  have h2 : s.ls.length ≤ 12 := h.1.1.2
  have h3 : (s.ps.map PgV.c).length ≤ 12 := h.1.2
  exact ⟨by omega, by omega, by omega, fun p hp => by have := h.2 p.c (List.mem_map_of_mem hp); omega⟩
end Go.Eng
namespace Go.Eng
open Go Go.Proofs Go.RowKit Go.ChangeShapes Go.WideShapes
set_option maxRecDepth 100000 in
theorem rdb_api_Op : Rdb Tryz.prog 135 fO (fun a => (-9223372036854775808 ≤ a.k ∧ a.k ≤ 9223372036854775807) ∧ (-9223372036854775808 ≤ a.a ∧ a.a ≤ 9223372036854775807) ∧ (-9223372036854775808 ≤ a.b ∧ a.b ≤ 9223372036854775807)) := fun {H enc w base sp held fuel cs x} h => by
  obtain ⟨h1, h2⟩ := trod_fields Tryz.underlying135 h
  rw [show Tryz.prog.cellsOf 135 = 3 by kernel_rfl] at h1
  have c3 : Tryz.prog.cellsOf 3 = 1 := by kernel_rfl
  match cs, h1 with
  | [a0, a1, a2], _ =>
    simp only [List.forall_mem_cons, c3, List.drop_succ_cons, List.drop_zero, List.take_succ_cons, List.take_zero] at h2
    obtain ⟨⟨_, _, f0⟩, ⟨_, _, f1⟩, ⟨_, _, f2⟩, _⟩ := h2
    obtain ⟨m0, e0, _, w0⟩ := DataW.trod_int Tryz.underlying3 f0
    obtain ⟨m1, e1, _, w1⟩ := DataW.trod_int Tryz.underlying3 f1
    obtain ⟨m2, e2, _, w2⟩ := DataW.trod_int Tryz.underlying3 f2
    simp only [List.cons.injEq, and_true] at e0 e1 e2
    subst e0
    subst e1
    subst e2
    exact ⟨⟨m0, m1, m2⟩, rfl, ⟨bounds_i64 w0, bounds_i64 w1, bounds_i64 w2⟩⟩
set_option maxRecDepth 100000 in
theorem rdb_api_Lock : Rdb Tryz.prog 63 fL (fun a => (-9223372036854775808 ≤ a.sl ∧ a.sl ≤ 9223372036854775807) ∧ (-9223372036854775808 ≤ a.cr ∧ a.cr ≤ 9223372036854775807) ∧ (-9223372036854775808 ≤ a.rd ∧ a.rd ≤ 9223372036854775807) ∧ (-9223372036854775808 ≤ a.wr ∧ a.wr ≤ 9223372036854775807)) := fun {H enc w base sp held fuel cs x} h => by
  obtain ⟨h1, h2⟩ := trod_fields Tryz.underlying63 h
  rw [show Tryz.prog.cellsOf 63 = 5 by kernel_rfl] at h1
  have c3 : Tryz.prog.cellsOf 3 = 1 := by kernel_rfl
  have c4 : Tryz.prog.cellsOf 4 = 1 := by kernel_rfl
  match cs, h1 with
  | [a0, a1, a2, a3, a4], _ =>
    simp only [List.forall_mem_cons, c3, c4, List.drop_succ_cons, List.drop_zero, List.take_succ_cons, List.take_zero] at h2
    obtain ⟨⟨_, _, f0⟩, ⟨_, _, f1⟩, ⟨_, _, f2⟩, ⟨_, _, f3⟩, ⟨_, _, f4⟩, _⟩ := h2
    obtain ⟨m0, e0, _⟩ := DataW.trod_bool Tryz.underlying4 f0
    obtain ⟨m1, e1, _, w1⟩ := DataW.trod_int Tryz.underlying3 f1
    obtain ⟨m2, e2, _, w2⟩ := DataW.trod_int Tryz.underlying3 f2
    obtain ⟨m3, e3, _, w3⟩ := DataW.trod_int Tryz.underlying3 f3
    obtain ⟨m4, e4, _, w4⟩ := DataW.trod_int Tryz.underlying3 f4
    simp only [List.cons.injEq, and_true] at e0 e1 e2 e3 e4
    subst e0
    subst e1
    subst e2
    subst e3
    subst e4
    exact ⟨⟨m0, m1, m2, m3, m4⟩, rfl, ⟨bounds_i64 w1, bounds_i64 w2, bounds_i64 w3, bounds_i64 w4⟩⟩
set_option maxRecDepth 100000 in
theorem rdW_Prog (w : World) : RdW Tryz.prog w 87 fPg (fun p => p.In w) := fun {H enc base sp held fuel cs x} h => by
  obtain ⟨h1, h2⟩ := trod_fields Tryz.underlying87 h
  rw [show Tryz.prog.cellsOf 87 = 2 by kernel_rfl] at h1
  have c0 : Tryz.prog.cellsOf 4 = 1 := by kernel_rfl
  have c1 : Tryz.prog.cellsOf 85 = 1 := by kernel_rfl
  match cs, h1 with
  | [a0, a1], _ =>
    simp only [List.forall_mem_cons, c0, c1, List.drop_succ_cons, List.drop_zero, List.take_succ_cons, List.take_zero] at h2
    obtain ⟨⟨_, _, f0⟩, ⟨n1, y1, f1⟩, _⟩ := h2
    obtain ⟨m0, e0, _⟩ := DataW.trod_bool Tryz.underlying4 f0
    simp only [List.cons.injEq, and_true] at e0
    subst e0
    obtain ⟨xs, ad, cap, e1, h3, _, h4⟩ := rdW_sl (s := 3) Tryz.underlying85 (rdb_api_Op.at w) (by kernel_rfl) (by decide) (fun _ => rfl) f1
    simp only [List.cons.injEq, and_true] at e1
    subst e1
    exact ⟨⟨⟨m0, xs⟩, ad, xs.length, cap⟩, rfl, rfl, h3⟩
set_option maxRecDepth 100000 in
theorem rdW_Setup (w : World) : RdW Tryz.prog w 30 StV.cs (fun s => s.In w) := fun {H enc base sp held fuel cs x} h => by
  obtain ⟨h1, h2⟩ := trod_fields Tryz.underlying30 h
  rw [show Tryz.prog.cellsOf 30 = 5 by kernel_rfl] at h1
  have c0 : Tryz.prog.cellsOf 3 = 1 := by kernel_rfl
  have c1 : Tryz.prog.cellsOf 26 = 1 := by kernel_rfl
  have c2 : Tryz.prog.cellsOf 27 = 1 := by kernel_rfl
  have c3 : Tryz.prog.cellsOf 28 = 1 := by kernel_rfl
  match cs, h1 with
  | [a0, a1, a2, a3, a4], _ =>
    simp only [List.forall_mem_cons, c0, c1, c2, c3, List.drop_succ_cons, List.drop_zero, List.take_succ_cons, List.take_zero] at h2
    obtain ⟨⟨_, _, f0⟩, ⟨_, _, f1⟩, ⟨_, _, f2⟩, ⟨_, _, f3⟩, ⟨_, _, f4⟩, _⟩ := h2
    obtain ⟨m0, e0, _, _⟩ := DataW.trod_int Tryz.underlying3 f0
    obtain ⟨m1, e1, _, _⟩ := DataW.trod_int Tryz.underlying3 f1
    obtain ⟨gs, ga, gc, e2, h3, _, _⟩ := rdW_sl (s := 1) Tryz.underlying26 (Rdb.at (rdb_I Tryz.underlying3) w) (by kernel_rfl) (by decide) (fun _ => rfl) f2
    obtain ⟨ls, la, lc, e3, h4, _, _⟩ := rdW_sl (s := 5) Tryz.underlying27 (rdb_api_Lock.at w) (by kernel_rfl) (by decide) (fun _ => rfl) f3
    obtain ⟨ps, pa, pc, e4, h5, h6, _⟩ := rdW_sl (s := 2) Tryz.underlying28 (rdW_Prog w) (by kernel_rfl) (by decide) (fun _ => rfl) f4
    simp only [List.cons.injEq, and_true] at e0 e1 e2 e3 e4
    subst e0; subst e1; subst e2; subst e3; subst e4
    exact ⟨⟨m0, m1, gs, ga, gs.length, gc, ls, la, ls.length, lc, ps, pa, ps.length, pc⟩, rfl, ⟨rfl, h3, rfl, h4, rfl, h5, h6⟩⟩
end Go.Eng
namespace Go.Eng
open Go Go.Proofs Go.RowKit
abbrev sB (b : Nat) (ad : Option Addr) (n cap : Nat) : Nat × Obj := (b, .cells #[.slice ad n cap] 47 (0, 0))
def EachAT (ad : Option Addr) (n cap : Nat) (n0 : Nat) (v : Value) (m : Mem0) : Prop := ∃ b1, v = .func (.func 99999) #[] #[.pointer (some ⟨b1, 0, none⟩)] ∧ m = [sB b1 ad n cap] ∧ n0 ≤ b1
theorem EachAT.mono {ad : Option Addr} {n cap : Nat} : ∀ (k k' : Nat) u m, k' ≤ k → EachAT ad n cap k u m → EachAT ad n cap k' u m := fun k k' u m h ⟨b1, h1, h2, h3⟩ => ⟨b1, h1, h2, by omega⟩
set_option maxRecDepth 100000 in
theorem asame_spec {xs ys : List Act} {ad1 ad2 : Option Addr} {n1 n2 cap1 cap2 : Nat} (w : World) (hn1 : n1 = xs.length) (hl1 : Sr fA 5 xs (.slice ad1 n1 cap1) w) (hn2 : n2 = ys.length) (hl2 : Sr fA 5 ys (.slice ad2 n2 cap2) w) (hx : xs.length ≤ 1000000000) : Ret Tryz.prog 32 #[.slice ad1 n1 cap1, .slice ad2 n2 cap2] w (fun v w' => v = .bool (decide (xs = ys)) ∧ Ext w w') := by
 refine Ret.enterM (l := [.slice ad1 n1 cap1, .slice ad2 n2 cap2]) Tryz.func32 rfl Tryz.ntmps32 rfl ([]) (no) (Mem.nil w) ?_
 refine wpM.seq (wpM.region ?_)
 refine LM.as rfl ?_
 refine LM.nil (QM.sub (e' := [(0, _), (1, _)]) ⟨rfl, rfl, trivial⟩ (QM.then ?_))
 refine wpM.seq ?_
 refine wpM.seq (wpM.region ?_)
 refine LM.mv rfl ?_
 refine LM.val (ov_len Tryz.underlying47 rfl) ?_
 refine LM.mv rfl ?_
 refine LM.val (ov_len Tryz.underlying47 rfl) ?_
 refine LM.val (ov_neq rfl rfl) ?_
 refine LM.nil (QM.sub (e' := [(0, _), (1, _), (10, _)]) ⟨rfl, rfl, rfl, trivial⟩ (QM.then ?_))
 refine wpM.condD rfl (fun h1 => ?_) (fun h1 => ?_)
 ·
  refine wpM.seq (wpM.region ?_)
  refine LM.as rfl ?_
  refine LM.nil (QM.sub (e' := [(4, _)]) ⟨rfl, trivial⟩ (QM.then ?_))
  refine wpM.ret ?_
  refine QM.then_ret ?_
  refine QM.leave (.inl rfl) [.tmp 4] Tryz.results32 rfl ?_
  intro w' hm' hc' hg'
  refine ⟨?_, hc'⟩; show Value.bool false = _; rw [decide_eq_false (show ¬ xs = ys by intro q; have := congrArg List.length q; omega)]
 refine wpM.skip ?_
 refine QM.then ?_
 refine wpM.seq ?_
 refine wpM.seq (wpM.region ?_)
 refine LM.as rfl ?_
 refine LM.nil (QM.sub (e' := [(0, _), (1, _), (5, _)]) ⟨rfl, rfl, rfl, trivial⟩ (QM.then ?_))
 refine wpM.block ?_
 refine wpM.loopK0 (α := Nat) (fun i => [(5, .int .i64 (i : Nat))]) [(0, _), (1, _)] (fun i => []) (fun i => i ≤ xs.length ∧ xs.take i = ys.take i) (fun i => xs.length - i) (0) ⟨au2, rfl, rfl, trivial⟩ au1 ⟨Nat.zero_le _, rfl⟩ ?_
 rintro i ⟨hi, ha⟩
 change wpM _ _ _ _ _ _ _ ([]) _ _ _
 refine wpM.seq ?_
 refine wpM.seq (wpM.region ?_)
 refine LM.mv rfl ?_
 refine LM.mv rfl ?_
 refine LM.val (ov_len Tryz.underlying47 rfl) ?_
 refine LM.val (ov_lss rfl rfl) ?_
 refine LM.nil (QM.sub (e' := [(0, _), (1, _), (5, _), (14, _)]) ⟨rfl, rfl, rfl, rfl, trivial⟩ (QM.then ?_))
 refine wpM.condD rfl (fun h2 => ?_) (fun h2 => ?_)
 ·
  refine wpM.skip ?_
  refine QM.then ?_
  refine wpM.seq ?_
  refine wpM.block ?_
  refine wpM.seq ?_
  refine wpM.draw [(0, 0), (1, 0), (2, 0), (3, 1), (4, 0), (5, 0), (6, 0), (7, 1), (8, 0)] (by kernel_rfl) (by kernel_rfl) ?_
  refine LD.val rfl rfl (ov_move rfl) ?_
  refine LD.val rfl rfl (ov_move rfl) ?_
  refine LD.val rfl rfl (ov_idxSN au6 Tryz.underlying47 Tryz.sizeOf123 rfl rfl (by omega)) ?_
  first | refine LD.rd rfl rfl (om_slA (by assumption) (by intro _; rfl) Tryz.isAgg123 Tryz.sizeOf123 rfl au3) ?_ | refine LD.rdC rfl rfl (om_srEA (by assumption) (by intro _; rfl) Tryz.isAgg123 Tryz.sizeOf123 rfl au3 id) ?_ | refine LD.rd rfl rfl (om_ldW Tryz.isAgg123 Tryz.sizeOf123 rfl rfl) ?_ | refine LD.rd rfl rfl (om_ldA Tryz.isAgg123 Tryz.sizeOf123 rfl (vs := [_, _, _, _, _]) rfl ⟨rfl, rfl, rfl, rfl, rfl, trivial⟩) ?_
  refine LD.val rfl rfl (ov_move rfl) ?_
  refine LD.val rfl rfl (ov_move rfl) ?_
  refine LD.val rfl rfl (ov_idxSN au6 Tryz.underlying47 Tryz.sizeOf123 rfl rfl (by omega)) ?_
  first | refine LD.rd rfl rfl (om_slA (by assumption) (by intro _; rfl) Tryz.isAgg123 Tryz.sizeOf123 rfl au3) ?_ | refine LD.rdC rfl rfl (om_srEA (by assumption) (by intro _; rfl) Tryz.isAgg123 Tryz.sizeOf123 rfl au3 id) ?_ | refine LD.rd rfl rfl (om_ldW Tryz.isAgg123 Tryz.sizeOf123 rfl rfl) ?_ | refine LD.rd rfl rfl (om_ldA Tryz.isAgg123 Tryz.sizeOf123 rfl (vs := [_, _, _, _, _]) rfl ⟨rfl, rfl, rfl, rfl, rfl, trivial⟩) ?_
  refine LD.val rfl rfl (ov_aneq Tryz.underlying123 (by kernel_rfl) (by kernel_rfl) (by decide) rfl rfl (by rfl) ⟨(by first | rfl | trivial), (by first | rfl | trivial), (by first | rfl | trivial), (by first | rfl | trivial), (by first | rfl | trivial), trivial⟩) ?_
  refine LD.nil ?_
  refine QM.sub (e' := [(0, _), (1, _), (5, _), (25, _)]) ⟨rfl, rfl, rfl, rfl, trivial⟩ (QM.then ?_)
  first | refine wpM.condD rfl (fun h3 => ?_) (fun h3 => ?_) | refine wpM.condB rfl (fun h3 => ?_) (fun h3 => ?_)
  ·
   refine wpM.seq (wpM.region ?_)
   refine LM.as rfl ?_
   refine LM.nil (QM.sub (e' := [(4, _)]) ⟨rfl, trivial⟩ (QM.then ?_))
   refine wpM.ret ?_
   refine QM.block_ret ?_
   refine QM.then_ret ?_
   refine QM.then_ret ?_
   refine QM.block_ret ?_
   refine QM.then_ret ?_
   refine QM.leave (.inl rfl) [.tmp 4] Tryz.results32 rfl ?_
   intro w' hm' hc' hg'
   refine ⟨?_, hc'⟩; show Value.bool false = _; rw [decide_eq_false (show ¬ xs = ys by intro q; rw [fA_veqs, q] at h3; simp at h3)]
  refine wpM.skip ?_
  refine QM.block_normal ?_
  refine QM.then (wpM.region ?_)
  refine LM.mv rfl ?_
  refine LM.val (ov_add64 rfl rfl (by omega)) ?_
  refine LM.as rfl ?_
  refine LM.nil (QM.sub (e' := [(0, _), (1, _), (5, _)]) ⟨rfl, rfl, rfl, trivial⟩ ?_)
  refine QM.againK (i + 1) ⟨au2, rfl, rfl, trivial⟩ au1 (fun _ h => h) ?_ ?_
  · exact ⟨by omega, eqA_at (by omega) (by omega) ha (by rw [fA_veqs] at h3; simpa using h3)⟩
  · omega
 refine wpM.exit ?_
 refine QM.then_exit ?_
 refine QM.then_exit ?_
 refine QM.block_hit ?_
 refine QM.then (wpM.seq (wpM.region ?_))
 refine LM.as rfl ?_
 refine LM.nil (QM.sub (e' := [(4, _)]) ⟨rfl, trivial⟩ (QM.then ?_))
 refine wpM.ret ?_
 refine QM.leave (.inl rfl) [.tmp 4] Tryz.results32 rfl ?_
 intro w' hm' hc' hg'
 refine ⟨?_, hc'⟩; show Value.bool true = _; rw [decide_eq_true]; have e1 : xs.take i = xs := List.take_of_length_le (by omega); have e2 : ys.take i = ys := List.take_of_length_le (by omega); rw [← e1, ← e2, ha]
end Go.Eng
namespace Go.Eng
open Go Go.Proofs Go.RowKit
end Go.Eng
namespace Go.Eng
open Go Go.Proofs Go.RowKit
section
variable {P : Program} {ty : TypeId} {e : Env} {x lo hi : Operand} {t : TypeId} {l : List UInt8}
theorem ov_sslcLo {k : IntKind} {i : Int} (ht : P.underlying t = some .string) (hx : ev e x = some (vS l)) (hl : ev e lo = some (.int k i)) (h1 : 0 ≤ i) (h2 : i ≤ l.length) :
    OpP P (.slice t x (some lo) none none) ty e (vS (l.drop i.toNat)) := fun w ρ hρ _ _ _ _ => by
  have a1 : 0 ≤ ((bs l).size : Int) ∧ ((bs l).size : Int) ≤ ((bs l).size : Int) := by omega
  have a2 : 0 ≤ i ∧ i ≤ (((bs l).size : Nat) : Int) := by rw [bs_size]; omega
  have h4 : (bs l).extract i.toNat (bs l).size = bs (l.drop i.toNat) := by
    rw [bs_size]
    have := Lib.extract_eq (bs l) i.toNat l.length
    refine this.trans ?_
    show bs ((l.drop i.toNat).take (l.length - i.toNat)) = _
    rw [List.take_of_length_le (by rw [List.length_drop]; omega)]
  simp [execOp, Instr.sliceAt, Instr.slice, Instr.sliceBounds, Instr.sliceBound, asIntOf, hρ x _ hx, hρ lo _ hl, Result.andThen, run_underlying ht, a2, h4]
theorem ov_sslcHi {k : IntKind} {j : Int} (ht : P.underlying t = some .string) (hx : ev e x = some (vS l)) (hh : ev e hi = some (.int k j)) (h1 : 0 ≤ j) (h3 : j ≤ l.length) :
    OpP P (.slice t x none (some hi) none) ty e (vS (l.take j.toNat)) := fun w ρ hρ _ _ _ _ => by
  have a1 : 0 ≤ j ∧ j ≤ ((bs l).size : Int) := by rw [bs_size]; omega
  have h4 : (bs l).extract 0 j.toNat = bs (l.take j.toNat) := by
    have := Lib.extract_eq (bs l) 0 j.toNat
    simpa using this
  simp [execOp, Instr.sliceAt, Instr.slice, Instr.sliceBounds, Instr.sliceBound, asIntOf, hρ x _ hx, hρ hi _ hh, Result.andThen, run_underlying ht, a1, h4]
end
abbrev blankL : List UInt8 := [32, 9, 10]
abbrev digitL : List UInt8 := [48, 49, 50, 51, 52, 53, 54, 55, 56, 57]
theorem blanks_blank (c : UInt8) : blankL.contains c = blankB c := all256 (fun c => blankL.contains c) blankB (by decide +kernel) c
theorem digits_dig (c : UInt8) : digitL.contains c = digB c := all256 (fun c => digitL.contains c) digB (by decide +kernel) c
theorem letters_at (c : UInt8) : decide (0 ≤ Lib.indexByte lettersL c) = letB c := all256 (fun c => decide (0 ≤ Lib.indexByte lettersL c)) letB (by decide +kernel) c
theorem digits_at (c : UInt8) : decide (0 ≤ Lib.indexByte digitL c) = digB c := all256 (fun c => decide (0 ≤ Lib.indexByte digitL c)) digB (by decide +kernel) c
theorem trim_len {of : List UInt8} {p : UInt8 → Bool} (hp : ∀ c, of.contains c = p c) (s : List UInt8) (i : Nat) : (Lib.trimLeftS (s.drop i) of).length = s.length - i - runL p s i ∧ runL p s i ≤ s.length - i := by
  have hf : (fun c => of.contains c) = p := funext hp
  have h1 : (s.drop i).length = ((s.drop i).takeWhile p).length + ((s.drop i).dropWhile p).length := by
    conv => lhs; rw [← List.takeWhile_append_dropWhile (p := p) (l := s.drop i)]
    rw [List.length_append]
  unfold Lib.trimLeftS runL
  rw [hf]
  rw [List.length_drop] at h1
  omega
theorem tw_take (p : UInt8 → Bool) : ∀ (l : List UInt8), l.take (l.takeWhile p).length = l.takeWhile p
  | [] => rfl
  | c :: l => by
    rw [List.takeWhile_cons]
    cases h : p c with
    | true => rw [if_pos rfl, List.length_cons, List.take_succ_cons, tw_take p l]
    | false => rfl
theorem run_pre (p : UInt8 → Bool) (s : List UInt8) (i : Nat) : (s.drop i).take (runL p s i) = (s.drop i).takeWhile p := tw_take p _
/-! blanks and remarks -/
def skipF : Nat → List UInt8 → Nat → Nat
  | 0, s, i => i + runL blankB s i
  | f + 1, s, i => if decide (i + runL blankB s i < s.length) && hashB (s.getD (i + runL blankB s i) 0) then skipF f s (i + runL blankB s i + runL notNl s (i + runL blankB s i)) else i + runL blankB s i
theorem hash_go {s : List UInt8} {j : Nat} (h : j < s.length) (hh : hashB (s.getD j 0) = true) : j < j + runL notNl s j := by
  have := runL_step (p := notNl) h (hash_nl hh); omega
theorem skipF_fuel (s : List UInt8) : ∀ (f g i : Nat), s.length - i ≤ f → s.length - i ≤ g → skipF f s i = skipF g s i
  | 0, 0, i, _, _ => rfl
  | 0, g + 1, i, h1, h2 => by rw [skipF, skipF, if_neg (by simp; omega)]
  | f + 1, 0, i, h1, h2 => by rw [skipF, skipF, if_neg (by simp; omega)]
  | f + 1, g + 1, i, h1, h2 => by
    simp only [skipF]
    split
    · rename_i q
      simp only [Bool.and_eq_true, decide_eq_true_eq] at q
      have := hash_go q.1 q.2
      exact skipF_fuel s f g _ (by omega) (by omega)
    · rfl
def skipO (s : List UInt8) (i : Nat) : Nat := skipF (s.length - i) s i
theorem skip_stop {s : List UInt8} {i : Nat} (h : (decide (i + runL blankB s i < s.length) && hashB (s.getD (i + runL blankB s i) 0)) = false) : skipO s i = i + runL blankB s i := by
  unfold skipO
  cases hf : s.length - i with
  | zero => rfl
  | succ f => rw [skipF, if_neg (by rw [h]; simp)]
theorem skip_go {s : List UInt8} {i : Nat} (h : (decide (i + runL blankB s i < s.length) && hashB (s.getD (i + runL blankB s i) 0)) = true) : skipO s i = skipO s (i + runL blankB s i + runL notNl s (i + runL blankB s i)) := by
  have q := h
  simp only [Bool.and_eq_true, decide_eq_true_eq] at q
  have := hash_go q.1 q.2
  unfold skipO
  obtain ⟨f, hf⟩ : ∃ f, s.length - i = f + 1 := ⟨s.length - i - 1, by omega⟩
  rw [hf, skipF, if_pos h]
  exact skipF_fuel s _ _ _ (by omega) (Nat.le_refl _)
theorem skipF_end (s : List UInt8) : ∀ (f i : Nat), i ≤ s.length → s.length - i ≤ f → i ≤ skipF f s i ∧ skipF f s i ≤ s.length ∧ (skipF f s i < s.length → blankB (s.getD (skipF f s i) 0) = false ∧ hashB (s.getD (skipF f s i) 0) = false)
  | f, i, h, hf => by
    have hb := runL_le blankB s i
    have stop : (decide (i + runL blankB s i < s.length) && hashB (s.getD (i + runL blankB s i) 0)) = false → i ≤ i + runL blankB s i ∧ i + runL blankB s i ≤ s.length ∧ (i + runL blankB s i < s.length → blankB (s.getD (i + runL blankB s i) 0) = false ∧ hashB (s.getD (i + runL blankB s i) 0) = false) := fun q => by
      refine ⟨by omega, by omega, fun hl => ?_⟩
      rw [decide_eq_true hl, Bool.true_and] at q
      refine ⟨?_, q⟩
      cases hc : blankB (s.getD (i + runL blankB s i) 0) with
      | false => rfl
      | true =>
        exfalso
        have e1 : (s.drop i).takeWhile blankB = (s.drop i).take (runL blankB s i) := (run_pre blankB s i).symm
        have h3 : (s.drop i)[runL blankB s i]? = some (s.getD (i + runL blankB s i) 0) := by
          rw [List.getElem?_drop]; exact getq 0 hl
        have := takeWhile_next (p := blankB) (l := s.drop i) h3
        rw [this] at hc; cases hc
    cases f with
    | zero =>
      rw [skipF]; exact stop (by rw [decide_eq_false (by omega)]; rfl)
    | succ f =>
      rw [skipF]
      split
      · rename_i q
        simp only [Bool.and_eq_true, decide_eq_true_eq] at q
        have h1 := hash_go q.1 q.2
        have h2 := runL_le notNl s (i + runL blankB s i)
        have := skipF_end s f (i + runL blankB s i + runL notNl s (i + runL blankB s i)) (by omega) (by omega)
        exact ⟨by omega, this.2⟩
      · rename_i q
        exact stop (by simpa using q)
where
  takeWhile_next {p : UInt8 → Bool} {l : List UInt8} {c : UInt8} (h : l[(l.takeWhile p).length]? = some c) : p c = false := by
    induction l with
    | nil => simp at h
    | cons a l ih =>
      rw [List.takeWhile_cons] at h
      cases ha : p a with
      | true => rw [ha, if_pos rfl, List.length_cons, List.getElem?_cons_succ] at h; exact ih h
      | false => rw [ha] at h; simp at h; rw [← h]; exact ha
theorem skip_end {s : List UInt8} {i : Nat} (h : i ≤ s.length) : i ≤ skipO s i ∧ skipO s i ≤ s.length ∧ (skipO s i < s.length → blankB (s.getD (skipO s i) 0) = false ∧ hashB (s.getD (skipO s i) 0) = false) := skipF_end s _ i h (Nat.le_refl _)
theorem hash_blank {c : UInt8} (h : hashB c = true) : blankB c = false := by
  have := all256 (fun c => !hashB c || !blankB c) (fun _ => true) (by decide +kernel) c
  rw [h] at this; simpa using this
theorem scanR_blanks {s : List UInt8} {last : Int} {out : List Wrd} : ∀ (n i : Nat), n = runL blankB s i → i ≤ s.length → scanR s i last out = scanR s (i + n) last out
  | 0, i, _, _ => rfl
  | n + 1, i, h, hi => by
    have hl := runL_le blankB s i
    have hlt : i < s.length := by omega
    have hb : blankB (s.getD i 0) = true := by
      cases hb : blankB (s.getD i 0) with
      | true => rfl
      | false => rw [runL_stop hlt hb] at h; cases h
    have h1 := runL_step hlt hb
    rw [scanR_blank hlt hb, scanR_blanks n (i + 1) (by omega) (by omega), show i + 1 + n = i + (n + 1) by omega]
theorem scanR_skipF {s : List UInt8} {last : Int} {out : List Wrd} : ∀ (f i : Nat), i ≤ s.length → scanR s i last out = scanR s (skipF f s i) last out
  | 0, i, h => scanR_blanks _ i rfl h
  | f + 1, i, h => by
    rw [scanR_blanks _ i rfl h, skipF]
    split
    · rename_i q
      simp only [Bool.and_eq_true, decide_eq_true_eq] at q
      have hb := hash_blank q.2
      have h2 := runL_le notNl s (i + runL blankB s i)
      rw [scanR_hash q.1 hb q.2 rfl]
      refine scanR_skipF f _ ?_; omega
    · rfl
theorem scanR_skip {s : List UInt8} {i : Nat} {last : Int} {out : List Wrd} (h : i ≤ s.length) : scanR s i last out = scanR s (skipO s i) last out := scanR_skipF _ i h
theorem idx_nl : ∀ (l : List UInt8), Lib.indexByte l 10 = if (l.takeWhile notNl).length = l.length then -1 else ((l.takeWhile notNl).length : Int)
  | [] => rfl
  | c :: l => by
    have ih := idx_nl l
    have hle := (List.takeWhile_sublist (l := l) notNl).length_le
    rw [Lib.indexByte, ih, List.takeWhile_cons]
    have hc : notNl c = !(c == 10) := all256 notNl (fun c => !(c == 10)) (by decide +kernel) c
    cases hq : c == 10 with
    | true => rw [hc, hq]; simp
    | false =>
      rw [hc, hq]
      simp only [Bool.not_false, if_true, Bool.false_eq_true, if_false, List.length_cons]
      by_cases h2 : (l.takeWhile notNl).length = l.length
      · simp [h2]
      · have h3 : ¬ (((l.takeWhile notNl).length : Int) = -1) := by omega
        simp [h2, h3]
theorem pre_hash {s : List UInt8} {j : Nat} : Lib.hasPrefix (s.drop j) [35] = (decide (j < s.length) && hashB (s.getD j 0)) := by
  unfold Lib.hasPrefix
  by_cases h : j < s.length
  · rw [drop_get h, decide_eq_true h, Bool.true_and]
    have := all256 (fun c => List.isPrefixOf [35] (c :: ([] : List UInt8))) hashB (by decide +kernel) (s.getD j 0)
    simpa [List.isPrefixOf] using this
  · rw [List.drop_of_length_le (by omega), decide_eq_false h]; rfl
/-! numbers -/
def okT (t : List UInt8) : Bool := decide (t ≠ []) && decide (t.length ≤ 9) && !(decide (1 < t.length) && decide ((((t.getD 0 0).toNat : Nat) : Int) = 48))
theorem dec_num : ∀ (l : List UInt8) (k acc : Nat), l.length ≤ k → l.all digB = true → ∃ m : Nat, Lib.decFrom acc l = some m ∧ (m : Int) = numF k l acc
  | [], k, acc, _, _ => ⟨acc, rfl, by cases k <;> rfl⟩
  | c :: l, 0, acc, h, _ => absurd h (by simp)
  | c :: l, k + 1, acc, h, ha => by
    rw [List.all_cons, Bool.and_eq_true] at ha
    have hr := dig_rng ha.1
    obtain ⟨m, h1, h2⟩ := dec_num l k (acc * 10 + (c.toNat - 48)) (by simpa using h) ha.2
    refine ⟨m, ?_, ?_⟩
    · rw [Lib.decFrom, Lib.digitVal, if_pos (by omega)]; exact h1
    · rw [numF, if_pos ha.1, h2]; congr 1; omega
theorem atoi_num {t : List UInt8} (h0 : t ≠ []) (h : t.length ≤ 9) (ha : t.all digB = true) : Lib.atoi t = some (numF 9 t 0) := by
  match t, h0 with
  | c :: l, _ =>
    have hc : digB c = true := by rw [List.all_cons, Bool.and_eq_true] at ha; exact ha.1
    have hr := dig_rng hc
    have n1 : (c == 45) = false := by rw [beq_eq_false_iff_ne]; intro q; subst q; simp at hr
    have n2 : (c == 43) = false := by rw [beq_eq_false_iff_ne]; intro q; subst q; simp at hr
    obtain ⟨m, h1, h2⟩ := dec_num (c :: l) 9 0 h ha
    have e : Lib.atoi (c :: l) = if (c == 45) = true then (Lib.decNat l).map fun (m : Nat) => -(m : Int) else if (c == 43) = true then (Lib.decNat l).map fun (m : Nat) => (m : Int) else (Lib.decNat (c :: l)).map fun (m : Nat) => (m : Int) := rfl
    have e2 : Lib.decNat (c :: l) = Lib.decFrom 0 (c :: l) := rfl
    rw [e, n1, n2, if_neg (by simp), if_neg (by simp), e2, h1, Option.map_some, h2]; rfl
theorem numF_tw : ∀ (k : Nat) (l : List UInt8) (n : Int), numF k (l.takeWhile digB) n = numF k l n
  | 0, l, n => by cases l <;> (try (rw [List.takeWhile_cons]; split)) <;> rfl
  | k + 1, [], n => rfl
  | k + 1, c :: l, n => by
    rw [List.takeWhile_cons]
    cases h : digB c with
    | true => rw [if_pos rfl, numF, if_pos h, numF, if_pos h, numF_tw k l]
    | false => rw [if_neg (by simp)]; rw [numF, numF, if_neg (by rw [h]; simp)]
theorem atoi_ret {t : List UInt8} (h0 : t ≠ []) (h : t.length ≤ 9) (ha : t.all digB = true) (w : World) : Ret Tryz.prog 169 #[vS t] w (fun v w' => v = .tuple #[.int .i64 (numF 9 t 0), .nilIface] ∧ Ext w w') :=
  (Any.strconv_Atoi l172 (bs t) (numF 9 t 0) (by rw [bs_size]; omega) (atoi_num h0 h ha) w).mono (fun e w' ⟨he, k, hw⟩ => ⟨_, he, rfl, by rw [hw]; exact Ext.of_below (Lib.bytesWorld_below w _ _)⟩)
theorem tleft_ret (t of : List UInt8) (hx : of.length < 4294967281) (ha : of.all (fun b => decide (b.toNat < 128)) = true) (w : World) : Ret Tryz.prog 166 #[vS t, vS of] w (fun v w' => v = vS (Lib.trimLeftS t of) ∧ Ext w w') :=
  (Any.strings_TrimLeft_laid l161 l160set (bs t) (bs of) w (by rw [bs_size]; exact hx) (ascii_of_all ha)).mono (fun e w' ⟨he, hb⟩ => ⟨_, he, rfl, Ext.of_below hb⟩)
theorem pre_ret (t p : List UInt8) (w : World) : Ret Tryz.prog 143 #[vS t, vS p] w (fun v w' => v = .bool (Lib.hasPrefix t p) ∧ Ext w w') :=
  (Any.strings_HasPrefix l99 (bs t) (bs p) w).mono (fun e w' ⟨he, hw⟩ => ⟨_, he, rfl, by rw [hw]; exact Chg.refl _ _⟩)
theorem idx_ret (t : List UInt8) (c : Int) (w : World) : Ret Tryz.prog 144 #[vS t, .int .u8 c] w (fun v w' => v = .int .i64 (Lib.indexByte t c.toNat.toUInt8) ∧ Ext w w') :=
  (Any.strings_IndexByte l137 (bs t) c w).mono (fun e w' ⟨he, hw⟩ => ⟨_, he, rfl, by rw [hw]; exact Chg.refl _ _⟩)
end Go.Eng
namespace Go.Eng
open Go Go.Proofs Go.RowKit
abbrev xO (s : List UInt8) (i : Nat) (last kind : Int) : Obj := .cells #[vS s, .int .i64 (i : Nat), .int .i64 last, .int .i64 kind] 165 (0, 0)
abbrev xB (b : Nat) (s : List UInt8) (i : Nat) (last kind : Int) : Nat × Obj := (b, xO s i last kind)
set_option maxRecDepth 100000 in
theorem run_spec {of : List UInt8} {p : UInt8 → Bool} (hp : ∀ c, of.contains c = p c) (hof : of.length < 4294967281) (ha : of.all (fun b => decide (b.toNat < 128)) = true) (b : Nat) (s : List UInt8) (i : Nat) (last kind : Int) (w : World) (hi : i ≤ s.length) (hs : s.length ≤ 1000000000) (hM : Mem w [xB b s i last kind]) : Ret Tryz.prog 142 #[.pointer (some ⟨b, 0, none⟩), vS of] w (WrP b (vS ((s.drop i).take (runL p s i))) (xO s (i + runL p s i) last kind) w) := by
 have hti : ((i : Nat) : Int).toNat = i := Int.toNat_natCast i; have htl := trim_len hp s ((i : Nat) : Int).toNat; have hdl : (s.drop ((i : Nat) : Int).toNat).length = s.length - ((i : Nat) : Int).toNat := List.length_drop; have hrr : runL p s ((i : Nat) : Int).toNat = runL p s i := (by rw [hti])
 refine Ret.enterM (l := [.pointer (some ⟨b, 0, none⟩), vS of]) Tryz.func142 rfl Tryz.ntmps142 rfl ([xB b s i last kind]) ((fun x => x = b)) hM ?_
 refine wpM.seq (wpM.region ?_)
 refine LM.as rfl ?_
 refine LM.nil (QM.sub (e' := [(0, _), (1, _)]) ⟨rfl, rfl, trivial⟩ (QM.then ?_))
 refine wpM.seq ?_
 refine wpM.draw [(0, 0), (1, 0), (2, 0), (3, 1), (4, 0), (5, 0), (6, 0), (7, 1), (8, 0), (9, 0)] (by kernel_rfl) (by kernel_rfl) ?_
 refine LD.val rfl rfl (ov_move rfl) ?_
 refine LD.val rfl rfl (ov_nilCheck rfl) ?_
 refine LD.val rfl rfl (ov_field Tryz.underlying165 rfl Tryz.sizeOf9 rfl (k := 0) rfl rfl) ?_
 refine LD.rd rfl rfl (om_ld Tryz.isAgg9 rfl rfl) ?_
 refine LD.val rfl rfl (ov_move rfl) ?_
 refine LD.val rfl rfl (ov_nilCheck rfl) ?_
 refine LD.val rfl rfl (ov_field Tryz.underlying165 rfl Tryz.sizeOf3 rfl (k := 1) rfl rfl) ?_
 refine LD.rd rfl rfl (om_ld Tryz.isAgg3 rfl rfl) ?_
 refine LD.val rfl rfl (ov_sslcLo Tryz.underlying9 rfl rfl (by omega) (by omega)) ?_
 refine LD.val rfl rfl (ov_assign rfl) ?_
 refine LD.nil ?_
 refine QM.sub (e' := [(0, _), (1, _), (5, _)]) ⟨rfl, rfl, rfl, trivial⟩ (QM.then (wpM.seq (wpM.region ?_)))
 refine LM.mv rfl ?_
 refine LM.val (ov_slenL Tryz.underlying9 rfl) ?_
 refine LM.mv rfl ?_
 refine LM.mv rfl ?_
 refine LM.callE (oc_call (enters_fn Tryz.func166 (by kernel_rfl) rfl) rfl) (fun w hm hc hg => tleft_ret _ of hof ha w) ?_
 refine LM.val (ov_slenL Tryz.underlying9 rfl) ?_
 refine LM.val (ov_sub64 rfl rfl (by omega)) ?_
 refine LM.as rfl ?_
 refine LM.nil (QM.sub (e' := [(0, _), (5, _), (6, _)]) ⟨rfl, rfl, rfl, trivial⟩ (QM.then (wpM.seq (wpM.region ?_))))
 refine LM.mv rfl ?_
 refine LM.val (ov_nilCheck rfl) ?_
 refine LM.val (ov_field Tryz.underlying165 rfl Tryz.sizeOf3 rfl (k := 1) rfl rfl) ?_
 refine LM.rd (om_ld Tryz.isAgg3 rfl rfl) ?_
 refine LM.mv rfl ?_
 refine LM.val (ov_add64 rfl rfl (by omega)) ?_
 refine LM.val (ov_nilCheck rfl) ?_
 refine LM.val (ov_field Tryz.underlying165 rfl Tryz.sizeOf3 rfl (k := 1) rfl rfl) ?_
 refine LM.st Tryz.sizeOf3 rfl rfl rfl au5 rfl (fun _ => rfl) ?_
 refine LM.nil (QM.sub (e' := [(5, _), (6, _)]) ⟨rfl, rfl, trivial⟩ (QM.then (wpM.seq (wpM.region ?_))))
 refine LM.mv rfl ?_
 refine LM.mv rfl ?_
 refine LM.val (ov_sslcHi Tryz.underlying9 rfl rfl (by omega) (by omega)) ?_
 refine LM.as rfl ?_
 refine LM.nil (QM.sub (e' := [(4, _)]) ⟨rfl, trivial⟩ (QM.then ?_))
 refine wpM.ret ?_
 refine QM.leave (.inl rfl) [.tmp 4] Tryz.results142 rfl ?_
 intro w' hm' hc' hg'
 have hAB : (((s.drop ((i : Nat) : Int).toNat).length : Nat) : Int) - (((Lib.trimLeftS (s.drop ((i : Nat) : Int).toNat) of).length : Nat) : Int) = ((runL p s i : Nat) : Int) := (by omega); have h3 := hm'.at b; rw [hAB] at h3; refine ⟨?_, hc', h3⟩; show vS ((s.drop ((i : Nat) : Int).toNat).take ((((s.drop ((i : Nat) : Int).toNat).length : Nat) : Int) - (((Lib.trimLeftS (s.drop ((i : Nat) : Int).toNat) of).length : Nat) : Int)).toNat) = _; rw [hAB, hti, Int.toNat_natCast]
set_option maxRecDepth 100000 in
theorem skip_spec (b : Nat) (s : List UInt8) (i : Nat) (last kind : Int) (w : World) (hi : i ≤ s.length) (hs : s.length ≤ 1000000000) (hM : Mem w [xB b s i last kind]) : Ret Tryz.prog 108 #[.pointer (some ⟨b, 0, none⟩)] w (WrP b (.tuple #[]) (xO s (skipO s i) last kind) w) := by
 refine Ret.enterM (l := [.pointer (some ⟨b, 0, none⟩)]) Tryz.func108 rfl Tryz.ntmps108 rfl ([xB b s i last kind]) ((fun x => x = b)) hM ?_
 refine wpM.seq (wpM.region ?_)
 refine LM.mv rfl ?_
 refine LM.cW (oc_call (enters_fn Tryz.func142 (by kernel_rfl) rfl) rfl) (fun w hm hc hg => run_spec blanks_blank (by decide) (by decide) b s i last kind w hi hs (hm.pick _)) rfl (fun _ => rfl) ?_
 refine LM.nil (QM.sub (e' := [(0, _)]) ⟨rfl, trivial⟩ (QM.then ?_))
 refine wpM.block ?_
 refine wpM.loopK0 (α := Nat × Nat) (fun ⟨i1, j⟩ => []) [(0, _)] (fun ⟨i1, j⟩ => xB b s j last kind :: []) (fun ⟨i1, j⟩ => i1 ≤ s.length ∧ skipO s i1 = skipO s i ∧ j = i1 + runL blankB s i1) (fun ⟨i1, j⟩ => s.length - i1) ((i, i + runL blankB s i)) ⟨rfl, trivial⟩ au1 ⟨hi, rfl, rfl⟩ ?_
 rintro ⟨i1, j⟩ ⟨hi1, hsk, hj⟩
 change wpM _ _ _ _ _ _ _ (xB b s j last kind :: []) _ _ _
 have hrl := runL_le blankB s i1; have hrn := runL_le notNl s j; have hjt : ((j : Nat) : Int).toNat = j := Int.toNat_natCast j
 refine wpM.seq ?_
 refine wpM.seq ?_
 refine wpM.draw [(0, 0), (1, 0), (2, 0), (3, 1), (4, 0), (5, 0), (6, 0), (7, 1), (8, 0), (9, 2)] (by kernel_rfl) (by kernel_rfl) ?_
 refine LD.val rfl rfl (ov_move rfl) ?_
 refine LD.val rfl rfl (ov_nilCheck rfl) ?_
 refine LD.val rfl rfl (ov_field Tryz.underlying165 rfl Tryz.sizeOf9 rfl (k := 0) rfl rfl) ?_
 refine LD.rd rfl rfl (om_ld Tryz.isAgg9 rfl rfl) ?_
 refine LD.val rfl rfl (ov_move rfl) ?_
 refine LD.val rfl rfl (ov_nilCheck rfl) ?_
 refine LD.val rfl rfl (ov_field Tryz.underlying165 rfl Tryz.sizeOf3 rfl (k := 1) rfl rfl) ?_
 refine LD.rd rfl rfl (om_ld Tryz.isAgg3 rfl rfl) ?_
 refine LD.val rfl rfl (ov_sslcLo Tryz.underlying9 rfl rfl (by omega) (by omega)) ?_
 refine LD.callE rfl rfl (oc_call (enters_fn Tryz.func143 (by kernel_rfl) rfl) rfl) (fun w hm hc hg => pre_ret _ [35] w) ?_
 refine LD.nil ?_
 refine QM.sub (e' := [(0, _), (14, _)]) ⟨rfl, rfl, trivial⟩ (QM.then ?_)
 first | refine wpM.condD rfl (fun h1 => ?_) (fun h1 => ?_) | refine wpM.condB rfl (fun h1 => ?_) (fun h1 => ?_)
 ·
  have hph : Lib.hasPrefix (s.drop ((j : Nat) : Int).toNat) [35] = (decide (j < s.length) && hashB (s.getD j 0)) := (by rw [hjt]; exact pre_hash); have hidx : Lib.indexByte (s.drop ((j : Nat) : Int).toNat) (Int.toNat 10).toUInt8 = if runL notNl s j = s.length - j then -1 else ((runL notNl s j : Nat) : Int) := (by rw [hjt]; have := idx_nl (s.drop j); rw [List.length_drop] at this; exact this); have hjl : j < s.length := (by have q := hph.symm.trans h1; simp only [Bool.and_eq_true, decide_eq_true_eq] at q; exact q.1); have hgo := hash_go hjl (by have q := hph.symm.trans h1; simp only [Bool.and_eq_true, decide_eq_true_eq] at q; exact q.2)
  refine wpM.skip ?_
  refine QM.then ?_
  refine wpM.seq ?_
  refine wpM.block ?_
  refine wpM.seq ?_
  refine wpM.draw [(0, 0), (1, 0), (2, 0), (3, 1), (4, 0), (5, 0), (6, 0), (7, 1), (8, 0), (9, 2), (10, 0)] (by kernel_rfl) (by kernel_rfl) ?_
  refine LD.val rfl rfl (ov_move rfl) ?_
  refine LD.val rfl rfl (ov_nilCheck rfl) ?_
  refine LD.val rfl rfl (ov_field Tryz.underlying165 rfl Tryz.sizeOf9 rfl (k := 0) rfl rfl) ?_
  refine LD.rd rfl rfl (om_ld Tryz.isAgg9 rfl rfl) ?_
  refine LD.val rfl rfl (ov_move rfl) ?_
  refine LD.val rfl rfl (ov_nilCheck rfl) ?_
  refine LD.val rfl rfl (ov_field Tryz.underlying165 rfl Tryz.sizeOf3 rfl (k := 1) rfl rfl) ?_
  refine LD.rd rfl rfl (om_ld Tryz.isAgg3 rfl rfl) ?_
  refine LD.val rfl rfl (ov_sslcLo Tryz.underlying9 rfl rfl (by omega) (by omega)) ?_
  refine LD.callE rfl rfl (oc_call (enters_fn Tryz.func144 (by kernel_rfl) rfl) rfl) (fun w hm hc hg => idx_ret _ 10 w) ?_
  refine LD.val rfl rfl (ov_assign rfl) ?_
  refine LD.nil ?_
  refine QM.sub (e' := [(0, _), (2, _)]) ⟨rfl, rfl, trivial⟩ (QM.then ?_)
  refine wpM.seq ?_
  refine wpM.seq (wpM.region ?_)
  refine LM.mv rfl ?_
  refine LM.val (ov_lss rfl rfl) ?_
  refine LM.nil (QM.sub (e' := [(0, _), (2, _), (28, _)]) ⟨rfl, rfl, rfl, trivial⟩ (QM.then ?_))
  refine wpM.joinK (α := Unit) (fun ⟨⟩ => [(2, .int .i64 (runL notNl s j : Nat))]) [(0, _)] (fun ⟨⟩ => xB b s j last kind :: []) (fun ⟨⟩ => True) ⟨rfl, trivial⟩ ?_ ?_
  ·
   refine wpM.condD rfl (fun h2 => ?_) (fun h2 => ?_)
   ·
    have hrv : runL notNl s j = s.length - j := (by have q := h2; rw [hidx] at q; split at q <;> omega)
    refine wpM.draw [(0, 0), (1, 0), (2, 0), (3, 1), (4, 0), (5, 0), (6, 0), (7, 0), (8, 1), (9, 0), (10, 0)] (by kernel_rfl) (by kernel_rfl) ?_
    refine LD.val rfl rfl (ov_move rfl) ?_
    refine LD.val rfl rfl (ov_nilCheck rfl) ?_
    refine LD.val rfl rfl (ov_field Tryz.underlying165 rfl Tryz.sizeOf9 rfl (k := 0) rfl rfl) ?_
    refine LD.rd rfl rfl (om_ld Tryz.isAgg9 rfl rfl) ?_
    refine LD.val rfl rfl (ov_slenL Tryz.underlying9 rfl) ?_
    refine LD.val rfl rfl (ov_move rfl) ?_
    refine LD.val rfl rfl (ov_nilCheck rfl) ?_
    refine LD.val rfl rfl (ov_field Tryz.underlying165 rfl Tryz.sizeOf3 rfl (k := 1) rfl rfl) ?_
    refine LD.rd rfl rfl (om_ld Tryz.isAgg3 rfl rfl) ?_
    refine LD.val rfl rfl (ov_sub64 rfl rfl (by omega)) ?_
    refine LD.val rfl rfl (ov_assign rfl) ?_
    refine LD.nil ?_
    refine QM.sub (e' := [(0, _), (2, _)]) ⟨rfl, rfl, trivial⟩ ?_
    refine QM.meetK (⟨⟩) ⟨(by first | rfl | exact lk rfl (by congr 1; omega) | exact lk rfl (by show Value.int .i64 (Lib.indexByte (s.drop ((j : Nat) : Int).toNat) (Int.toNat 10).toUInt8) = _; rw [hrv])), rfl, trivial⟩ au1 ?_
    · trivial
   have hrv : Lib.indexByte (s.drop ((j : Nat) : Int).toNat) (Int.toNat 10).toUInt8 = ((runL notNl s j : Nat) : Int) := (by have q := h2; rw [hidx] at q ⊢; split at q <;> split <;> omega)
   refine wpM.skip ?_
   refine QM.meetK (⟨⟩) ⟨(by first | rfl | exact lk rfl (by congr 1; omega) | exact lk rfl (by show Value.int .i64 (Lib.indexByte (s.drop ((j : Nat) : Int).toNat) (Int.toNat 10).toUInt8) = _; rw [hrv])), rfl, trivial⟩ au1 ?_
   · trivial
  rintro ⟨⟩ -
  change QM _ _ _ _ _ (xB b s j last kind :: []) _ _ _
  refine QM.then (wpM.region ?_)
  refine LM.mv rfl ?_
  refine LM.val (ov_nilCheck rfl) ?_
  refine LM.val (ov_field Tryz.underlying165 rfl Tryz.sizeOf3 rfl (k := 1) rfl rfl) ?_
  refine LM.rd (om_ld Tryz.isAgg3 rfl rfl) ?_
  refine LM.mv rfl ?_
  refine LM.val (ov_add64 rfl rfl (by omega)) ?_
  refine LM.val (ov_nilCheck rfl) ?_
  refine LM.val (ov_field Tryz.underlying165 rfl Tryz.sizeOf3 rfl (k := 1) rfl rfl) ?_
  refine LM.st Tryz.sizeOf3 rfl rfl rfl au5 rfl (fun _ => rfl) ?_
  refine LM.nil (QM.sub (e' := [(0, _)]) ⟨rfl, trivial⟩ ?_)
  refine QM.block_normal ?_
  refine QM.then (wpM.region ?_)
  change LM _ _ _ _ _ _ _ _ (xB b s (j + runL notNl s j) last kind :: []) _ _ _
  refine LM.mv rfl ?_
  refine LM.cW (oc_call (enters_fn Tryz.func142 (by kernel_rfl) rfl) rfl) (fun w hm hc hg => run_spec blanks_blank (by decide) (by decide) b s (j + runL notNl s j) last kind w (by omega) hs (hm.pick _)) rfl (fun _ => rfl) ?_
  refine LM.nil (QM.sub (e' := [(0, _)]) ⟨rfl, trivial⟩ ?_)
  refine QM.againK ((j + runL notNl s j, j + runL notNl s j + runL blankB s (j + runL notNl s j))) ⟨rfl, trivial⟩ au1 (fun _ h => h) ?_ ?_
  · exact ⟨by omega, by rw [← hsk, skip_go (i := i1) (by rw [← hj]; exact hph.symm.trans h1), ← hj], rfl⟩
  · first | omega | (dsimp only; omega)
 refine wpM.exit ?_
 refine QM.then_exit ?_
 refine QM.then_exit ?_
 refine QM.block_hit ?_
 refine QM.leave (.inr rfl) [] Tryz.results108 rfl ?_
 intro w' hm' hc' hg'
 have hph : Lib.hasPrefix (s.drop ((j : Nat) : Int).toNat) [35] = (decide (j < s.length) && hashB (s.getD j 0)) := (by rw [hjt]; exact pre_hash); refine ⟨rfl, hc', ?_⟩; rw [← hsk, skip_stop (i := i1) (by rw [← hj]; exact hph.symm.trans h1), ← hj]; exact hm'.at b
end Go.Eng
namespace Go.Eng
open Go Go.Proofs Go.RowKit
def tokW (s : List UInt8) (i : Nat) : Wrd := if digB (s.getD i 0) && !(oneO s i).2.2 then ⟨2, [], 0, (i : Nat)⟩ else (oneO s i).1
theorem dig_notlet {c : UInt8} (h : digB c = true) : letB c = false := dig_let c h
theorem take_dig {s : List UInt8} {i : Nat} (h : i < s.length) (hd : digB (s.getD i 0) = true) : (s.drop i).take (runL digB s i) ≠ [] ∧ ((s.drop i).take (runL digB s i)).length = runL digB s i ∧ ((s.drop i).take (runL digB s i)).all digB = true ∧ ((s.drop i).take (runL digB s i)).getD 0 0 = s.getD i 0 ∧ numF 9 ((s.drop i).take (runL digB s i)) 0 = numF 9 (s.drop i) 0 := by
  have h1 := runL_step h hd
  have hl : ((s.drop i).take (runL digB s i)).length = runL digB s i := by rw [run_pre]; rfl
  refine ⟨fun q => by rw [q] at hl; simp at hl; omega, hl, by rw [run_pre]; exact all_tw _ _, ?_, by rw [run_pre, numF_tw]⟩
  rw [List.getD_eq_getElem?_getD, List.getElem?_take_of_lt (by omega), List.getElem?_drop, ← List.getD_eq_getElem?_getD]; rfl
theorem okT_dig {s : List UInt8} {i : Nat} (h : i < s.length) (hd : digB (s.getD i 0) = true) : okT ((s.drop i).take (runL digB s i)) = (oneO s i).2.2 := by
  obtain ⟨h1, h2, h3, h4, h5⟩ := take_dig h hd
  have hr := runL_step h hd
  unfold okT oneO
  rw [h2, h4, decide_eq_true h1, Bool.true_and, if_neg (by rw [dig_notlet hd]; simp), if_pos hd]
  simp only
  congr 1
  rw [Bool.not_and, ← decide_not, ← decide_not, Bool.or_comm]
  congr 1
  exact decide_eq_decide.2 (by omega)
def besO (i : Nat) (k last kind : Int) : Bool := decide ((i : Int) = last) && decide (k ≠ 3) && decide (kind ≠ 3)
theorem tokW_k (s : List UInt8) (i : Nat) : (tokW s i).k = (oneO s i).1.k := by
  unfold tokW; split
  · rename_i h; simp only [Bool.and_eq_true] at h
    unfold oneO; rw [if_neg (by rw [dig_notlet h.1]; simp), if_pos h.1]
  · rfl
theorem tokW_p (s : List UInt8) (i : Nat) : (tokW s i).p = (i : Int) := by
  unfold tokW oneO; (repeat' split) <;> rfl
theorem tokW_ok {s : List UInt8} {i : Nat} (h : (oneO s i).2.2 = true) : tokW s i = (oneO s i).1 := by
  unfold tokW; rw [h]; simp
theorem tok_let {s : List UInt8} {i : Nat} (hl : letB (s.getD i 0) = true) : (⟨1, (s.drop i).take (runL letB s i), 0, (i : Nat)⟩ : Wrd) = tokW s i ∧ i + runL letB s i = (oneO s i).2.1 ∧ decide ((((s.drop i).take (runL letB s i)).length : Int) ≤ 12) = (oneO s i).2.2 := by
  have hd : digB (s.getD i 0) = false := by
    cases hd : digB (s.getD i 0) with
    | false => rfl
    | true => rw [dig_let _ hd] at hl; cases hl
  have h1 : tokW s i = (oneO s i).1 := by unfold tokW; rw [hd]; rfl
  have h2 : ((s.drop i).take (runL letB s i)).length = runL letB s i := by rw [run_pre]; rfl
  rw [h1, h2]
  unfold oneO; rw [if_pos hl]
  exact ⟨rfl, rfl, decide_eq_decide.2 (by omega)⟩
theorem tok_dig {s : List UInt8} {i : Nat} (h : i < s.length) (hd : digB (s.getD i 0) = true) : (⟨2, [], if okT ((s.drop i).take (runL digB s i)) then numF 9 ((s.drop i).take (runL digB s i)) 0 else 0, (i : Nat)⟩ : Wrd) = tokW s i ∧ i + runL digB s i = (oneO s i).2.1 ∧ okT ((s.drop i).take (runL digB s i)) = (oneO s i).2.2 := by
  have h1 := okT_dig h hd
  obtain ⟨_, _, _, _, h5⟩ := take_dig h hd
  rw [h1, h5]
  have e : (oneO s i).1 = ⟨2, [], numF 9 (s.drop i) 0, (i : Nat)⟩ ∧ i + runL digB s i = (oneO s i).2.1 := by
    unfold oneO; rw [if_neg (by rw [dig_notlet hd]; simp), if_pos hd]; exact ⟨rfl, rfl⟩
  refine ⟨?_, e.2, rfl⟩
  unfold tokW
  rw [hd, Bool.true_and, e.1]
  cases (oneO s i).2.2 <;> rfl
theorem tok_mark {s : List UInt8} {i : Nat} (hl : letB (s.getD i 0) = false) (hd : digB (s.getD i 0) = false) : (⟨3, (s.drop ((i : Nat) : Int).toNat).take ((((i : Nat) : Int) + 1).toNat - ((i : Nat) : Int).toNat), 0, (i : Nat)⟩ : Wrd) = tokW s i ∧ i + 1 = (oneO s i).2.1 ∧ decide (Lib.indexByte marksL (s.getD i 0) ≥ 0) = (oneO s i).2.2 := by
  have h1 : tokW s i = (oneO s i).1 := by unfold tokW; rw [hd]; rfl
  have h3 := marks_mark (s.getD i 0)
  rw [h1, show ((i : Nat) : Int).toNat = i from Int.toNat_natCast i, show (((i : Nat) : Int) + 1).toNat - i = 1 by omega]
  unfold oneO; rw [if_neg (by rw [hl]; simp), if_neg (by rw [hd]; simp)]
  exact ⟨rfl, rfl, h3⟩
theorem c8 (c : UInt8) : (((c.toNat : Nat) : Int)).toNat.toUInt8 = c := by simp
theorem idxc_ret (t : List UInt8) (c : UInt8) (w : World) : Ret Tryz.prog 144 #[vS t, .int .u8 (c.toNat : Nat)] w (fun v w' => v = .int .i64 (Lib.indexByte t c) ∧ Ext w w') :=
  (idx_ret t _ w).mono (fun v w' ⟨h2, h3⟩ => ⟨by rw [h2, c8], h3⟩)
set_option maxRecDepth 100000 in
theorem number_spec9 (t : List UInt8) (w : World) (ha : t.all digB = true) (hx : t.length ≤ 1000000000) : Ret Tryz.prog 145 #[vS t] w (fun v w' => v = .tuple #[.int .i64 (if okT t then numF 9 t 0 else 0), .bool (okT t)] ∧ Ext w w') := by
 refine Ret.enterM (l := [vS t]) Tryz.func145 rfl Tryz.ntmps145 rfl ([]) (no) (Mem.nil w) ?_
 refine wpM.seq (wpM.region ?_)
 refine LM.as rfl ?_
 refine LM.as rfl ?_
 refine LM.nil (QM.sub (e' := [(0, _)]) ⟨rfl, trivial⟩ (QM.then ?_))
 refine wpM.seq ?_
 refine wpM.seq ?_
 refine wpM.joinK (α := Bool) (fun q => [(22, .bool q)]) [(0, _)] (fun q => []) (fun q => q = !okT t) ⟨rfl, trivial⟩ ?_ ?_
 ·
  refine wpM.region ?_
  refine LM.mv rfl ?_
  refine LM.val (ov_seqlL rfl rfl) ?_
  refine LM.mv rfl ?_
  refine LM.splitD (t := 8) rfl (fun h1 => ?_) (fun h1 => ?_)
  ·
   refine LM.dr 8 rfl rfl rfl ?_
   refine LM.dr 8 rfl rfl rfl ?_
   refine LM.dr 8 rfl rfl rfl ?_
   refine LM.val (ov_pickT rfl rfl) ?_
   refine LM.mv rfl ?_
   refine LM.dr 13 rfl rfl rfl ?_
   refine LM.dr 13 rfl rfl rfl ?_
   refine LM.dr 13 rfl rfl rfl ?_
   refine LM.dropU (t := 13) rfl rfl rfl ?_
   refine LM.dropX (t := 17) rfl rfl ?_
   refine LM.dropX (t := 17) rfl rfl ?_
   refine LM.dropX (t := 17) rfl rfl ?_
   refine LM.dr 13 rfl rfl rfl ?_
   refine LM.val (ov_pickT rfl rfl) ?_
   refine LM.nil (QM.sub (e' := [(0, _), (22, _)]) ⟨rfl, rfl, trivial⟩ ?_)
   refine QM.meetK (_) ⟨au2, rfl, trivial⟩ au1 ?_
   · unfold okT; rw [decide_eq_false (show ¬ t ≠ [] from fun q => q h1)]; rfl
  refine LM.sp 8 rfl rfl rfl ?_
  refine LM.mv rfl ?_
  refine LM.sp 8 rfl rfl rfl ?_
  refine LM.val (ov_slenL Tryz.underlying9 rfl) ?_
  refine LM.sp 8 rfl rfl rfl ?_
  refine LM.val (ov_gtr rfl rfl) ?_
  refine LM.val (ov_pickF rfl rfl) ?_
  refine LM.mv rfl ?_
  refine LM.splitD (t := 13) rfl (fun h2 => ?_) (fun h2 => ?_)
  ·
   refine LM.dr 13 rfl rfl rfl ?_
   refine LM.dr 13 rfl rfl rfl ?_
   refine LM.dr 13 rfl rfl rfl ?_
   refine LM.dropU (t := 13) rfl rfl rfl ?_
   refine LM.dropX (t := 17) rfl rfl ?_
   refine LM.dropX (t := 17) rfl rfl ?_
   refine LM.dropX (t := 17) rfl rfl ?_
   refine LM.dr 13 rfl rfl rfl ?_
   refine LM.val (ov_pickT rfl rfl) ?_
   refine LM.nil (QM.sub (e' := [(0, _), (22, _)]) ⟨rfl, rfl, trivial⟩ ?_)
   refine QM.meetK (_) ⟨au2, rfl, trivial⟩ au1 ?_
   · unfold okT; rw [decide_eq_true (show t ≠ [] from h1), decide_eq_false (show ¬ t.length ≤ 9 by omega)]; rfl
  refine LM.sp 13 rfl rfl rfl ?_
  refine LM.mv rfl ?_
  refine LM.sp 13 rfl rfl rfl ?_
  refine LM.val (ov_slenL Tryz.underlying9 rfl) ?_
  refine LM.sp 13 rfl rfl rfl ?_
  refine LM.val (ov_gtr rfl rfl) ?_
  refine LM.sp 13 rfl rfl rfl ?_
  refine LM.mv rfl ?_
  refine LM.splitD (t := 17) rfl (fun h3 => ?_) (fun h3 => ?_)
  ·
   refine LM.sp 17 rfl rfl rfl ?_
   refine LM.mv rfl ?_
   refine LM.sp 17 rfl rfl rfl ?_
   first | refine LM.val (ov_sidxN Tryz.underlying9 rfl rfl (by omega)) ?_ | refine LM.val (ov_sidxL Tryz.underlying9 rfl rfl (by omega)) ?_
   refine LM.sp 17 rfl rfl rfl ?_
   refine LM.val (ov_eql rfl rfl) ?_
   refine LM.sp 13 rfl rfl rfl ?_
   refine LM.val (ov_pickT rfl rfl) ?_
   refine LM.val (ov_pickF rfl rfl) ?_
   refine LM.nil (QM.sub (e' := [(0, _), (22, _)]) ⟨rfl, rfl, trivial⟩ ?_)
   refine QM.meetK (_) ⟨au2, rfl, trivial⟩ au1 ?_
   · unfold okT; rw [decide_eq_true (show t ≠ [] from h1), decide_eq_true (show t.length ≤ 9 by omega), decide_eq_true (show 1 < t.length by omega)]; simp only [Bool.true_and, Bool.not_not]; rfl
  refine LM.dr 17 rfl rfl rfl ?_
  refine LM.dr 17 rfl rfl rfl ?_
  refine LM.dr 17 rfl rfl rfl ?_
  refine LM.sp 13 rfl rfl rfl ?_
  refine LM.val (ov_pickF rfl rfl) ?_
  refine LM.val (ov_pickF rfl rfl) ?_
  refine LM.nil (QM.sub (e' := [(0, _), (22, _)]) ⟨rfl, rfl, trivial⟩ ?_)
  refine QM.meetK (_) ⟨au2, rfl, trivial⟩ au1 ?_
  · unfold okT; rw [decide_eq_true (show t ≠ [] from h1), decide_eq_true (show t.length ≤ 9 by omega), decide_eq_false (show ¬ 1 < t.length by omega)]; rfl
 rintro q hq
 change QM _ _ _ _ _ ([]) _ _ _
 refine QM.then ?_
 first | refine wpM.condD rfl (fun h4 => ?_) (fun h4 => ?_) | refine wpM.condB rfl (fun h4 => ?_) (fun h4 => ?_)
 ·
  refine wpM.seq (wpM.region ?_)
  refine LM.as rfl ?_
  refine LM.as rfl ?_
  refine LM.nil (QM.sub (e' := [(2, _), (3, _)]) ⟨rfl, rfl, trivial⟩ (QM.then ?_))
  refine wpM.ret ?_
  refine QM.then_ret ?_
  refine QM.leave (.inl rfl) [.tmp 2, .tmp 3] Tryz.results145 rfl ?_
  intro w' hm' hc' hg'
  have hok0 : okT t = false := (by simpa using hq.symm.trans h4); refine ⟨?_, hc'⟩; rw [hok0]; rfl
 have hok0 : okT t = true := (by simpa using hq.symm.trans h4); have hok : t ≠ [] ∧ t.length ≤ 9 := (by have q := hok0; unfold okT at q; simp only [Bool.and_eq_true, decide_eq_true_eq] at q; exact q.1)
 refine wpM.skip ?_
 refine QM.then (wpM.seq (wpM.region ?_))
 refine LM.mv rfl ?_
 refine LM.callE (oc_call (enters_fn Tryz.func169 (by kernel_rfl) rfl) rfl) (fun w hm hc hg => atoi_ret hok.1 hok.2 ha w) ?_
 refine LM.mv rfl ?_
 refine LM.val (ov_extract rfl rfl) ?_
 refine LM.val (ov_extract rfl rfl) ?_
 refine LM.as rfl ?_
 refine LM.as rfl ?_
 refine LM.nil (QM.sub (e' := [(4, _)]) ⟨rfl, trivial⟩ (QM.then (wpM.seq (wpM.region ?_))))
 refine LM.mv rfl ?_
 refine LM.as rfl ?_
 refine LM.as rfl ?_
 refine LM.nil (QM.sub (e' := [(2, _), (3, _)]) ⟨rfl, rfl, trivial⟩ (QM.then ?_))
 refine wpM.ret ?_
 refine QM.leave (.inl rfl) [.tmp 2, .tmp 3] Tryz.results145 rfl ?_
 intro w' hm' hc' hg'
 refine ⟨?_, hc'⟩; rw [hok0]; rfl
set_option maxRecDepth 100000 in
set_option maxHeartbeats 1000000 in
theorem tword_spec (b : Nat) (s : List UInt8) (i : Nat) (last kind : Int) (w : World) (hi : i < s.length) (hs : s.length ≤ 1000000000) (hM : Mem w [xB b s i last kind]) : Ret Tryz.prog 109 #[.pointer (some ⟨b, 0, none⟩)] w (WrP b (.tuple #[.agg (fW (tokW s i)).toArray, .bool ((oneO s i).2.2 && !besO i (oneO s i).1.k last kind)]) (xO s (oneO s i).2.1 ((oneO s i).2.1 : Nat) (oneO s i).1.k) w) := by
 refine Ret.enterM (l := [.pointer (some ⟨b, 0, none⟩)]) Tryz.func109 rfl Tryz.ntmps109 rfl ([xB b s i last kind]) ((fun x => x = b)) hM ?_
 refine wpM.seq (wpM.region ?_)
 refine LM.alloc Tryz.zeroValue65 rfl (fun b2 hb2 => ?_)
 refine LM.as rfl ?_
 refine LM.nil (QM.sub (e' := [(0, _), (2, _)]) ⟨rfl, rfl, trivial⟩ (QM.then (wpM.seq (wpM.region ?_))))
 refine LM.mv rfl ?_
 refine LM.val (ov_nilCheck rfl) ?_
 refine LM.val (ov_field Tryz.underlying165 rfl Tryz.sizeOf3 rfl (k := 1) rfl rfl) ?_
 refine LM.rd (om_ld Tryz.isAgg3 rfl rfl) ?_
 refine LM.as rfl ?_
 refine LM.nil (QM.sub (e' := [(0, _), (2, _), (4, _)]) ⟨rfl, rfl, rfl, trivial⟩ (QM.then (wpM.seq (wpM.region ?_))))
 refine LM.mv rfl ?_
 refine LM.val (ov_nilCheck rfl) ?_
 refine LM.val (ov_field Tryz.underlying165 rfl Tryz.sizeOf9 rfl (k := 0) rfl rfl) ?_
 refine LM.rd (om_ld Tryz.isAgg9 rfl rfl) ?_
 refine LM.mv rfl ?_
 refine LM.val (ov_sidxN Tryz.underlying9 rfl rfl (by omega)) ?_
 refine LM.as rfl ?_
 refine LM.nil (QM.sub (e' := [(0, _), (2, _), (4, _), (5, _)]) ⟨rfl, rfl, rfl, rfl, trivial⟩ (QM.then (wpM.seq (wpM.region ?_))))
 refine LM.mv rfl ?_
 refine LM.val (ov_build (cs := #[_, _, _, _]) rfl (by first | rfl | kernel_rfl)) ?_
 refine LM.alloc Tryz.zeroValue65 rfl (fun b6 hb6 => ?_)
 refine LM.stW Tryz.sizeOf65 rfl rfl rfl rfl au7 (fun hlt => by first | exact rfl | exact absurd hlt (by omega)) ?_
 refine LM.nil (QM.sub (e' := [(0, _), (2, _), (4, _), (5, _), (6, _)]) ⟨rfl, rfl, rfl, rfl, rfl, trivial⟩ (QM.then (wpM.seq (wpM.region ?_))))
 refine LM.as rfl ?_
 refine LM.nil (QM.sub (e' := [(0, _), (2, _), (4, _), (5, _), (6, _)]) ⟨rfl, rfl, rfl, rfl, rfl, trivial⟩ (QM.then ?_))
 refine wpM.seq ?_
 refine wpM.joinK (α := Wrd × Nat × Bool) (fun ⟨x, j, ok⟩ => [(7, .bool ok)]) [(0, _), (2, _), (4, _), (6, _)] (fun ⟨x, j, ok⟩ => (b6, .cells (fW x).toArray 65 (0, 0)) :: (b2, .cells (fW default).toArray 65 (0, 0)) :: xB b s j last kind :: []) (fun ⟨x, j, ok⟩ => x = tokW s i ∧ j = (oneO s i).2.1 ∧ ok = (oneO s i).2.2) ⟨rfl, rfl, rfl, rfl, trivial⟩ ?_ ?_
 ·
  refine wpM.block ?_
  refine wpM.seq (wpM.region ?_)
  refine LM.mv rfl ?_
  refine LM.callE (oc_call (enters_fn Tryz.func144 (by kernel_rfl) rfl) rfl) (fun w hm hc hg => idxc_ret lettersL (s.getD i 0) w) ?_
  refine LM.val (ov_geq rfl rfl) ?_
  refine LM.as rfl ?_
  refine LM.nil (QM.sub (e' := [(0, _), (2, _), (4, _), (5, _), (6, _), (41, _)]) ⟨rfl, rfl, rfl, rfl, rfl, rfl, trivial⟩ (QM.then ?_))
  refine wpM.condD rfl (fun h1 => ?_) (fun h1 => ?_)
  ·
   have hlt : letB (s.getD i 0) = true := (by rw [← letters_at]; exact decide_eq_true h1)
   refine wpM.seq (wpM.region ?_)
   refine LM.mv rfl ?_
   refine LM.cW (oc_call (enters_fn Tryz.func142 (by kernel_rfl) rfl) rfl) (fun w hm hc hg => run_spec letters_let (by decide) (by decide) b s i last kind w (by omega) hs (hm.pick _)) rfl (fun hlt => by first | exact rfl | exact absurd hlt (by omega)) ?_
   refine LM.val (ov_field Tryz.underlying65 rfl Tryz.sizeOf3 rfl (k := 0) rfl rfl) ?_
   refine LM.st Tryz.sizeOf3 rfl rfl rfl au5 rfl (fun hlt => by first | exact rfl | exact absurd hlt (by omega)) ?_
   refine LM.val (ov_field Tryz.underlying65 rfl Tryz.sizeOf9 rfl (k := 1) rfl rfl) ?_
   refine LM.st Tryz.sizeOf9 rfl rfl rfl au5 rfl (fun hlt => by first | exact rfl | exact absurd hlt (by omega)) ?_
   refine LM.nil (QM.sub (e' := [(0, _), (2, _), (4, _), (6, _)]) ⟨rfl, rfl, rfl, rfl, trivial⟩ (QM.then (wpM.region ?_)))
   refine LM.val (ov_field Tryz.underlying65 rfl Tryz.sizeOf9 rfl (k := 1) rfl rfl) ?_
   refine LM.rd (om_ld Tryz.isAgg9 rfl rfl) ?_
   refine LM.val (ov_slenL Tryz.underlying9 rfl) ?_
   refine LM.val (ov_leq rfl rfl) ?_
   refine LM.as rfl ?_
   refine LM.nil (QM.sub (e' := [(0, _), (2, _), (4, _), (6, _), (7, _)]) ⟨rfl, rfl, rfl, rfl, rfl, trivial⟩ ?_)
   refine QM.block_normal ?_
   refine QM.meetK ((⟨1, (s.drop i).take (runL letB s i), 0, (i : Nat)⟩, i + runL letB s i, decide ((((s.drop i).take (runL letB s i)).length : Int) ≤ 12))) ⟨au2, rfl, rfl, rfl, rfl, trivial⟩ au1 ?_
   · exact tok_let hlt
  have hlf : letB (s.getD i 0) = false := (by rw [← letters_at]; exact decide_eq_false h1)
  refine wpM.seq (wpM.region ?_)
  refine LM.mv rfl ?_
  refine LM.callE (oc_call (enters_fn Tryz.func144 (by kernel_rfl) rfl) rfl) (fun w hm hc hg => idxc_ret digitL (s.getD i 0) w) ?_
  refine LM.val (ov_geq rfl rfl) ?_
  refine LM.as rfl ?_
  refine LM.nil (QM.sub (e' := [(0, _), (2, _), (4, _), (5, _), (6, _), (53, _)]) ⟨rfl, rfl, rfl, rfl, rfl, rfl, trivial⟩ (QM.then ?_))
  refine wpM.condD rfl (fun h2 => ?_) (fun h2 => ?_)
  ·
   have hdt : digB (s.getD i 0) = true := (by rw [← digits_at]; exact decide_eq_true h2); have htd := take_dig hi hdt; have hrl := runL_le digB s i
   refine wpM.seq (wpM.region ?_)
   refine LM.val (ov_field Tryz.underlying65 rfl Tryz.sizeOf3 rfl (k := 0) rfl rfl) ?_
   refine LM.st Tryz.sizeOf3 rfl rfl rfl au5 rfl (fun hlt => by first | exact rfl | exact absurd hlt (by omega)) ?_
   refine LM.nil (QM.sub (e' := [(0, _), (2, _), (4, _), (6, _)]) ⟨rfl, rfl, rfl, rfl, trivial⟩ (QM.then (wpM.region ?_)))
   refine LM.mv rfl ?_
   refine LM.cW (oc_call (enters_fn Tryz.func142 (by kernel_rfl) rfl) rfl) (fun w hm hc hg => run_spec digits_dig (by decide) (by decide) b s i last kind w (by omega) hs (hm.pick _)) rfl (fun hlt => by first | exact rfl | exact absurd hlt (by omega)) ?_
   refine LM.callE (oc_call (enters_fn Tryz.func145 (by kernel_rfl) rfl) rfl) (fun w hm hc hg => number_spec9 _ w htd.2.2.1 (by rw [htd.2.1]; omega)) ?_
   refine LM.mv rfl ?_
   refine LM.val (ov_extract rfl rfl) ?_
   refine LM.val (ov_extract rfl rfl) ?_
   refine LM.val (ov_field Tryz.underlying65 rfl Tryz.sizeOf3 rfl (k := 2) rfl rfl) ?_
   refine LM.st Tryz.sizeOf3 rfl rfl rfl au5 rfl (fun hlt => by first | exact rfl | exact absurd hlt (by omega)) ?_
   refine LM.as rfl ?_
   refine LM.nil (QM.sub (e' := [(0, _), (2, _), (4, _), (6, _), (7, _)]) ⟨rfl, rfl, rfl, rfl, rfl, trivial⟩ ?_)
   refine QM.block_normal ?_
   refine QM.meetK ((⟨2, [], if okT ((s.drop i).take (runL digB s i)) then numF 9 ((s.drop i).take (runL digB s i)) 0 else 0, (i : Nat)⟩, i + runL digB s i, okT ((s.drop i).take (runL digB s i)))) ⟨au2, rfl, rfl, rfl, rfl, trivial⟩ au1 ?_
   · exact tok_dig hi hdt
  have hdf : digB (s.getD i 0) = false := (by rw [← digits_at]; exact decide_eq_false h2)
  refine wpM.seq ?_
  refine wpM.keep ((b, _) :: []) (fun _ => True) (.one 0 0 (.one 1 0 (.one 2 0 (.one 3 1 (.one 4 0 (.one 5 0 (.one 6 0 (.one 7 0 (.one 8 0 (.one 9 2 (.one 10 0 (.one 11 2 .nil)))))))))))) (by kernel_rfl) (by kernel_rfl) au1 (fun _ _ => trivial) ?_
  refine KD.val rfl rfl (ov_move rfl) ?_
  refine KD.val rfl rfl (ov_nilCheck rfl) ?_
  refine KD.val rfl rfl (ov_field Tryz.underlying165 rfl Tryz.sizeOf9 rfl (k := 0) rfl rfl) ?_
  refine KD.rd rfl rfl (om_ld Tryz.isAgg9 rfl rfl) ?_
  refine KD.val rfl rfl (ov_move rfl) ?_
  refine KD.val rfl rfl (ov_move rfl) ?_
  refine KD.val rfl rfl (ov_add64 rfl rfl (by omega)) ?_
  refine KD.val rfl rfl (ov_sslcL Tryz.underlying9 rfl rfl rfl (by omega) (by omega) (by omega)) ?_
  refine KD.val rfl rfl (ov_field Tryz.underlying65 rfl Tryz.sizeOf3 rfl (k := 0) rfl rfl) ?_
  refine KD.one rfl ?_
  refine LM.st Tryz.sizeOf3 rfl rfl rfl au5 rfl (fun hlt => by first | exact rfl | exact absurd hlt (by omega)) ?_
  refine LM.nil ?_
  refine QM.one au1 (fun _ _ => trivial) ?_
  refine KD.val rfl rfl (ov_field Tryz.underlying65 rfl Tryz.sizeOf9 rfl (k := 1) rfl rfl) ?_
  refine KD.one rfl ?_
  refine LM.st Tryz.sizeOf9 rfl rfl rfl au5 rfl (fun hlt => by first | exact rfl | exact absurd hlt (by omega)) ?_
  refine LM.nil ?_
  refine QM.one au1 (fun _ _ => trivial) ?_
  refine KD.nil ?_
  refine QM.sub (e' := [(0, _), (2, _), (4, _), (5, _), (6, _)]) ⟨rfl, rfl, rfl, rfl, rfl, trivial⟩ (QM.then (wpM.seq (wpM.region ?_)))
  refine LM.mv rfl ?_
  refine LM.callE (oc_call (enters_fn Tryz.func144 (by kernel_rfl) rfl) rfl) (fun w hm hc hg => idxc_ret marksL (s.getD i 0) w) ?_
  refine LM.val (ov_geq rfl rfl) ?_
  refine LM.as rfl ?_
  refine LM.nil (QM.sub (e' := [(0, _), (2, _), (4, _), (6, _), (7, _)]) ⟨rfl, rfl, rfl, rfl, rfl, trivial⟩ (QM.then (wpM.region ?_)))
  refine LM.mv rfl ?_
  refine LM.val (ov_nilCheck rfl) ?_
  refine LM.val (ov_field Tryz.underlying165 rfl Tryz.sizeOf3 rfl (k := 1) rfl rfl) ?_
  refine LM.rd (om_ld Tryz.isAgg3 rfl rfl) ?_
  refine LM.val (ov_add64 rfl rfl (by omega)) ?_
  refine LM.val (ov_nilCheck rfl) ?_
  refine LM.val (ov_field Tryz.underlying165 rfl Tryz.sizeOf3 rfl (k := 1) rfl rfl) ?_
  refine LM.st Tryz.sizeOf3 rfl rfl rfl au5 rfl (fun hlt => by first | exact rfl | exact absurd hlt (by omega)) ?_
  refine LM.nil (QM.sub (e' := [(0, _), (2, _), (4, _), (6, _), (7, _)]) ⟨rfl, rfl, rfl, rfl, rfl, trivial⟩ ?_)
  refine QM.block_normal ?_
  refine QM.meetK ((⟨3, (s.drop ((i : Nat) : Int).toNat).take ((((i : Nat) : Int) + 1).toNat - ((i : Nat) : Int).toNat), 0, (i : Nat)⟩, i + 1, decide (Lib.indexByte marksL (s.getD i 0) ≥ 0))) ⟨au2, rfl, rfl, rfl, rfl, trivial⟩ au1 ?_
  · exact tok_mark hlf hdf
 rintro ⟨x, j, ok⟩ ⟨hxw, hjw, hokw⟩
 change QM _ _ _ _ _ ((b6, .cells (fW x).toArray 65 (0, 0)) :: (b2, .cells (fW default).toArray 65 (0, 0)) :: xB b s j last kind :: []) _ _ _
 refine QM.then ?_
 refine wpM.seq ?_
 refine wpM.joinK (α := Bool) (fun q => [(8, .bool q)]) [(0, _), (2, _), (6, _), (7, _)] (fun q => (b6, .cells (fW x).toArray 65 (0, 0)) :: (b2, .cells (fW default).toArray 65 (0, 0)) :: xB b s j last kind :: []) (fun q => q = besO i x.k last kind) ⟨rfl, rfl, rfl, rfl, trivial⟩ ?_ ?_
 ·
  refine wpM.region ?_
  refine LM.mv rfl ?_
  refine LM.mv rfl ?_
  refine LM.val (ov_nilCheck rfl) ?_
  refine LM.val (ov_field Tryz.underlying165 rfl Tryz.sizeOf3 rfl (k := 2) rfl rfl) ?_
  refine LM.rd (om_ld Tryz.isAgg3 rfl rfl) ?_
  refine LM.val (ov_eql rfl rfl) ?_
  refine LM.mv rfl ?_
  refine LM.splitD (t := 71) rfl (fun h3 => ?_) (fun h3 => ?_)
  ·
   refine LM.sp 71 rfl rfl rfl ?_
   refine LM.val (ov_field Tryz.underlying65 rfl Tryz.sizeOf3 rfl (k := 0) rfl rfl) ?_
   refine LM.sp 71 rfl rfl rfl ?_
   refine LM.rd (om_ld Tryz.isAgg3 rfl rfl) ?_
   refine LM.sp 71 rfl rfl rfl ?_
   refine LM.val (ov_neq rfl rfl) ?_
   refine LM.val (ov_pickT rfl rfl) ?_
   refine LM.mv rfl ?_
   refine LM.splitD (t := 76) rfl (fun h4 => ?_) (fun h4 => ?_)
   ·
    refine LM.sp 76 rfl rfl rfl ?_
    refine LM.mv rfl ?_
    refine LM.sp 76 rfl rfl rfl ?_
    refine LM.val (ov_nilCheck rfl) ?_
    refine LM.sp 76 rfl rfl rfl ?_
    refine LM.val (ov_field Tryz.underlying165 rfl Tryz.sizeOf3 rfl (k := 3) rfl rfl) ?_
    refine LM.sp 76 rfl rfl rfl ?_
    refine LM.rd (om_ld Tryz.isAgg3 rfl rfl) ?_
    refine LM.sp 76 rfl rfl rfl ?_
    refine LM.val (ov_neq rfl rfl) ?_
    refine LM.val (ov_pickT rfl rfl) ?_
    refine LM.as rfl ?_
    refine LM.nil (QM.sub (e' := [(0, _), (2, _), (6, _), (7, _), (8, _)]) ⟨rfl, rfl, rfl, rfl, rfl, trivial⟩ ?_)
    refine QM.meetK (_) ⟨au2, rfl, rfl, rfl, rfl, trivial⟩ au1 ?_
    · unfold besO; first | (simp only [h3, h4, decide_true, decide_false, Bool.true_and, Bool.false_and, Bool.and_true, Bool.and_false, Bool.not_true, Bool.not_false, Bool.true_or, Bool.false_or, Bool.or_true, Bool.or_false, ne_eq, not_true_eq_false, not_false_eq_true, Bool.and_self]; done) | (simp only [h3, h4, decide_true, decide_false, Bool.true_and, Bool.false_and, Bool.and_true, Bool.and_false, Bool.not_true, Bool.not_false, Bool.true_or, Bool.false_or, Bool.or_true, Bool.or_false, ne_eq, not_true_eq_false, not_false_eq_true, Bool.and_self]; rfl)
   refine LM.dr 76 rfl rfl rfl ?_
   refine LM.dr 76 rfl rfl rfl ?_
   refine LM.dr 76 rfl rfl rfl ?_
   refine LM.dr 76 rfl rfl rfl ?_
   refine LM.dr 76 rfl rfl rfl ?_
   refine LM.val (ov_pickF rfl rfl) ?_
   refine LM.as rfl ?_
   refine LM.nil (QM.sub (e' := [(0, _), (2, _), (6, _), (7, _), (8, _)]) ⟨rfl, rfl, rfl, rfl, rfl, trivial⟩ ?_)
   refine QM.meetK (_) ⟨au2, rfl, rfl, rfl, rfl, trivial⟩ au1 ?_
   · unfold besO; first | (simp only [h3, h4, decide_true, decide_false, Bool.true_and, Bool.false_and, Bool.and_true, Bool.and_false, Bool.not_true, Bool.not_false, Bool.true_or, Bool.false_or, Bool.or_true, Bool.or_false, ne_eq, not_true_eq_false, not_false_eq_true, Bool.and_self]; done) | (simp only [h3, h4, decide_true, decide_false, Bool.true_and, Bool.false_and, Bool.and_true, Bool.and_false, Bool.not_true, Bool.not_false, Bool.true_or, Bool.false_or, Bool.or_true, Bool.or_false, ne_eq, not_true_eq_false, not_false_eq_true, Bool.and_self]; rfl)
  refine LM.dr 71 rfl rfl rfl ?_
  refine LM.dr 71 rfl rfl rfl ?_
  refine LM.dr 71 rfl rfl rfl ?_
  refine LM.val (ov_pickF rfl rfl) ?_
  refine LM.mv rfl ?_
  refine LM.dr 76 rfl rfl rfl ?_
  refine LM.dr 76 rfl rfl rfl ?_
  refine LM.dr 76 rfl rfl rfl ?_
  refine LM.dr 76 rfl rfl rfl ?_
  refine LM.dr 76 rfl rfl rfl ?_
  refine LM.val (ov_pickF rfl rfl) ?_
  refine LM.as rfl ?_
  refine LM.nil (QM.sub (e' := [(0, _), (2, _), (6, _), (7, _), (8, _)]) ⟨rfl, rfl, rfl, rfl, rfl, trivial⟩ ?_)
  refine QM.meetK (_) ⟨au2, rfl, rfl, rfl, rfl, trivial⟩ au1 ?_
  · unfold besO; first | (simp only [h3, decide_true, decide_false, Bool.true_and, Bool.false_and, Bool.and_true, Bool.and_false, Bool.not_true, Bool.not_false, Bool.true_or, Bool.false_or, Bool.or_true, Bool.or_false, ne_eq, not_true_eq_false, not_false_eq_true, Bool.and_self]; done) | (simp only [h3, decide_true, decide_false, Bool.true_and, Bool.false_and, Bool.and_true, Bool.and_false, Bool.not_true, Bool.not_false, Bool.true_or, Bool.false_or, Bool.or_true, Bool.or_false, ne_eq, not_true_eq_false, not_false_eq_true, Bool.and_self]; rfl)
 rintro q hqb
 change QM _ _ _ _ _ ((b6, .cells (fW x).toArray 65 (0, 0)) :: (b2, .cells (fW default).toArray 65 (0, 0)) :: xB b s j last kind :: []) _ _ _
 refine QM.then ?_
 refine wpM.seq ?_
 refine wpM.keep ((b6, _) :: []) (fun _ => True) (.one 0 0 (.one 1 0 (.one 2 0 (.one 3 0 (.one 4 0 (.one 6 0 (.one 7 1 (.one 5 2 (.one 8 0 (.one 9 0 (.one 10 2 (.one 11 0 (.one 12 0 (.one 13 2 .nil)))))))))))))) (by kernel_rfl) (by kernel_rfl) au1 (fun _ _ => trivial) ?_
 refine KD.val rfl rfl (ov_move rfl) ?_
 refine KD.val rfl rfl (ov_move rfl) ?_
 refine KD.val rfl rfl (ov_move rfl) ?_
 refine KD.val rfl rfl (ov_nilCheck rfl) ?_
 refine KD.val rfl rfl (ov_field Tryz.underlying165 rfl Tryz.sizeOf3 rfl (k := 1) rfl rfl) ?_
 refine KD.val rfl rfl (ov_field Tryz.underlying65 rfl Tryz.sizeOf3 rfl (k := 0) rfl rfl) ?_
 refine KD.rd rfl rfl (om_ld Tryz.isAgg3 rfl rfl) ?_
 refine KD.one rfl ?_
 refine LM.rd (om_ld Tryz.isAgg3 rfl rfl) ?_
 refine LM.nil ?_
 refine QM.one au1 (fun _ _ => trivial) ?_
 refine KD.val rfl rfl (ov_nilCheck rfl) ?_
 refine KD.val rfl rfl (ov_field Tryz.underlying165 rfl Tryz.sizeOf3 rfl (k := 2) rfl rfl) ?_
 refine KD.one rfl ?_
 refine LM.st Tryz.sizeOf3 rfl rfl rfl au5 rfl (fun hlt => by first | exact rfl | exact absurd hlt (by omega)) ?_
 refine LM.nil ?_
 refine QM.one au1 (fun _ _ => trivial) ?_
 refine KD.val rfl rfl (ov_nilCheck rfl) ?_
 refine KD.val rfl rfl (ov_field Tryz.underlying165 rfl Tryz.sizeOf3 rfl (k := 3) rfl rfl) ?_
 refine KD.one rfl ?_
 refine LM.st Tryz.sizeOf3 rfl rfl rfl au5 rfl (fun hlt => by first | exact rfl | exact absurd hlt (by omega)) ?_
 refine LM.nil ?_
 refine QM.one au1 (fun _ _ => trivial) ?_
 refine KD.nil ?_
 refine QM.sub (e' := [(2, _), (6, _), (7, _), (8, _)]) ⟨rfl, rfl, rfl, rfl, trivial⟩ (QM.then (wpM.seq (wpM.region ?_)))
 refine LM.rd (om_ldW Tryz.isAgg65 Tryz.sizeOf65 rfl rfl) ?_
 refine LM.mv rfl ?_
 refine LM.mv rfl ?_
 first | refine LM.splitD (t := 97) rfl (fun h5 => ?_) (fun h5 => ?_) | refine LM.splitB (t := 97) rfl (fun h5 => ?_) (fun h5 => ?_)
 ·
  refine LM.sp 97 rfl rfl rfl ?_
  refine LM.mv rfl ?_
  refine LM.sp 97 rfl rfl rfl ?_
  first | refine LM.val (ov_notD rfl) ?_ | refine LM.val (ov_not rfl) ?_
  refine LM.val (ov_pickT rfl rfl) ?_
  refine LM.stW Tryz.sizeOf65 rfl rfl rfl rfl au7 (fun hlt => by first | exact rfl | exact absurd hlt (by omega)) ?_
  refine LM.as rfl ?_
  refine LM.nil (QM.sub (e' := [(2, _), (3, _)]) ⟨rfl, rfl, trivial⟩ (QM.then ?_))
  refine wpM.ret ?_
  refine QM.leaveCs (ds := ([])) (.inl rfl) [.cell 2 65, .tmp 3] Tryz.results109 hd_nil (rc_w rfl Tryz.isAgg65 Tryz.sizeOf65 rfl (rc_tmp rfl rc_nil)) ?_
  intro w' hm' hc'
  subst hxw; subst hjw; have hok1 : (oneO s i).2.2 = true := (by rw [← hokw]; exact h5); refine ⟨?_, hc', ?_⟩; (rw [hok1, Bool.true_and, ← tokW_k, ← hqb]; rfl); (rw [← tokW_k]; exact hm'.at b)
 refine LM.dr 97 rfl rfl rfl ?_
 refine LM.dr 97 rfl rfl rfl ?_
 refine LM.val (ov_pickF rfl rfl) ?_
 refine LM.stW Tryz.sizeOf65 rfl rfl rfl rfl au7 (fun hlt => by first | exact rfl | exact absurd hlt (by omega)) ?_
 refine LM.as rfl ?_
 refine LM.nil (QM.sub (e' := [(2, _), (3, _)]) ⟨rfl, rfl, trivial⟩ (QM.then ?_))
 refine wpM.ret ?_
 refine QM.leaveCs (ds := ([])) (.inl rfl) [.cell 2 65, .tmp 3] Tryz.results109 hd_nil (rc_w rfl Tryz.isAgg65 Tryz.sizeOf65 rfl (rc_tmp rfl rc_nil)) ?_
 intro w' hm' hc'
 subst hxw; subst hjw; have hok1 : (oneO s i).2.2 = false := (by rw [← hokw]; exact h5); refine ⟨?_, hc', ?_⟩; (rw [hok1]; rfl); (rw [← tokW_k]; exact hm'.at b)
end Go.Eng
namespace Go.Eng
open Go Go.Proofs Go.RowKit
def okW (s : List UInt8) (i : Nat) (last kind : Int) : Bool := (oneO s i).2.2 && !besO i (oneO s i).1.k last kind
theorem okW_bad {s : List UInt8} {i : Nat} {last kind : Int} {out : List Wrd} (h : last = -1 ∨ (out ≠ [] ∧ kind = (out.getD (out.length - 1) default).k)) : badO (oneO s i) i last out = !okW s i last kind := by
  unfold okW besO badO
  rcases h with rfl | ⟨_, rfl⟩
  · rw [decide_eq_false (show ¬ (-1 : Int) = (i : Nat) by omega), decide_eq_false (show ¬ ((i : Nat) : Int) = -1 by omega)]; simp
  · rw [Bool.not_and, Bool.not_not]
    congr 2
    congr 1
    exact decide_eq_decide.2 ⟨Eq.symm, Eq.symm⟩
set_option maxRecDepth 100000 in
set_option maxHeartbeats 1000000 in
theorem tscan_spec {s : List UInt8} (w : World) : Ret Tryz.prog 66 #[vS s] w (fun v w' => Ext w w' ∧ ∃ m, ScT (scanO s) w.heap.size v m ∧ Mem w' m ∧ ∀ p ∈ m, w.heap.size ≤ p.1) := by
 refine Ret.enterM (l := [vS s]) Tryz.func66 rfl Tryz.ntmps66 rfl ([]) (no) (Mem.nil w) ?_
 refine wpM.seq (wpM.region ?_)
 refine LM.as rfl ?_
 refine LM.as rfl ?_
 refine LM.as rfl ?_
 refine LM.nil (QM.sub (e' := [(0, _)]) ⟨rfl, trivial⟩ (QM.then ?_))
 refine wpM.seq ?_
 refine wpM.seq (wpM.region ?_)
 refine LM.mv rfl ?_
 refine LM.val (ov_slenL Tryz.underlying9 rfl) ?_
 refine LM.val (ov_gtr rfl rfl) ?_
 refine LM.nil (QM.sub (e' := [(0, _), (11, _)]) ⟨rfl, rfl, trivial⟩ (QM.then ?_))
 refine wpM.condD rfl (fun h1 => ?_) (fun h1 => ?_)
 ·
  refine wpM.seq (wpM.region ?_)
  refine LM.as rfl ?_
  refine LM.as rfl ?_
  refine LM.as rfl ?_
  refine LM.nil (QM.sub (e' := [(2, _), (3, _), (4, _)]) ⟨rfl, rfl, rfl, trivial⟩ (QM.then ?_))
  refine wpM.ret ?_
  refine QM.then_ret ?_
  refine QM.leave (.inl rfl) [.tmp 2, .tmp 3, .tmp 4] Tryz.results66 rfl ?_
  intro w' hm' hc' hg'
  have hr : scanO s = ([], 8000, 6) := (by unfold scanO; rw [if_pos (by omega)]); rw [hr]; exact ⟨hc', [], ⟨none, 0, 0, rfl, rfl, .nil _ _ _ _⟩, Mem.nil _, fun p hp => by cases hp⟩
 refine wpM.skip ?_
 refine QM.then (wpM.seq (wpM.region ?_))
 refine LM.mv rfl ?_
 refine LM.val (ov_build (cs := #[_, _, _, _]) rfl (by first | rfl | kernel_rfl)) ?_
 refine LM.box rfl rfl (fun b14 hb14 => ?_)
 refine LM.as rfl ?_
 refine LM.nil (QM.sub (e' := [(0, _), (5, _)]) ⟨rfl, rfl, trivial⟩ (QM.then (wpM.seq (wpM.region ?_))))
 refine LM.as rfl ?_
 refine LM.nil (QM.sub (e' := [(0, _), (5, _), (6, _)]) ⟨rfl, rfl, rfl, trivial⟩ (QM.then ?_))
 refine wpM.seq ?_
 refine wpM.seq (wpM.region ?_)
 change LM _ _ _ _ _ _ _ _ (xB b14 s 0 (-1) 0 :: []) _ _ _
 refine LM.mv rfl ?_
 refine LM.cW (oc_call (enters_fn Tryz.func108 (by kernel_rfl) rfl) rfl) (fun w hm hc hg => skip_spec b14 s 0 (-1) 0 w (Nat.zero_le _) (by omega) (hm.pick _)) rfl au8 ?_
 refine LM.nil (QM.sub (e' := [(0, _), (5, _), (6, _)]) ⟨rfl, rfl, rfl, trivial⟩ (QM.then ?_))
 refine wpM.block ?_
 refine wpM.loopK0 (α := Nat × Int × Int × List Wrd × Option Addr × Nat × Nat × Mem0) (fun ⟨i, last, kind, out, ad6, n6, cap6, m6⟩ => [(6, .slice ad6 n6 cap6)]) [(0, _), (5, _)] (fun ⟨i, last, kind, out, ad6, n6, cap6, m6⟩ => m6 ++ (xB b14 s i last kind :: [])) (fun ⟨i, last, kind, out, ad6, n6, cap6, m6⟩ => i ≤ s.length ∧ scanR s i last out = scanR s 0 (-1) [] ∧ (i < s.length → blankB (s.getD i 0) = false ∧ hashB (s.getD i 0) = false) ∧ n6 = out.length ∧ Sl fW 65 4 w.heap.size out (.slice ad6 n6 cap6) m6 ∧ (last = -1 ∨ (out ≠ [] ∧ kind = (out.getD (out.length - 1) default).k)) ∧ out.length ≤ i) (fun ⟨i, last, kind, out, ad6, n6, cap6, m6⟩ => s.length - i) ((skipO s 0, -1, 0, [], none, 0, 0, [])) ⟨au2, rfl, rfl, trivial⟩ au1 ⟨(skip_end (Nat.zero_le _)).2.1, (scanR_skip (Nat.zero_le _)).symm, (skip_end (Nat.zero_le _)).2.2, rfl, .nil _ _ _ _, .inl rfl, Nat.zero_le _⟩ ?_
 rintro ⟨i, last, kind, out, ad6, n6, cap6, m6⟩ ⟨hi, hsc, hbl, hn6, hs6, hlast, hol⟩
 change wpM _ _ _ _ _ _ _ (m6 ++ (xB b14 s i last kind :: [])) _ _ _
 have hlen8 : s.length ≤ 8000 := (by omega)
 refine wpM.seq ?_
 refine wpM.seq (wpM.region ?_)
 refine LM.mv rfl ?_
 refine LM.val (ov_nilCheck rfl) ?_
 refine LM.val (ov_field Tryz.underlying165 rfl Tryz.sizeOf3 rfl (k := 1) rfl rfl) ?_
 refine LM.rd (om_ld Tryz.isAgg3 rfl rfl) ?_
 refine LM.mv rfl ?_
 refine LM.val (ov_slenL Tryz.underlying9 rfl) ?_
 refine LM.val (ov_lss rfl rfl) ?_
 refine LM.nil (QM.sub (e' := [(0, _), (5, _), (6, _), (23, _)]) ⟨rfl, rfl, rfl, rfl, trivial⟩ (QM.then ?_))
 refine wpM.condD rfl (fun h2 => ?_) (fun h2 => ?_)
 ·
  have hl1 := one_lt (show i < s.length by omega)
  refine wpM.skip ?_
  refine QM.then ?_
  refine wpM.seq ?_
  refine wpM.block ?_
  refine wpM.seq (wpM.region ?_)
  refine LM.mv rfl ?_
  refine LM.cW (oc_call (enters_fn Tryz.func109 (by kernel_rfl) rfl) rfl) (fun w hm hc hg => tword_spec b14 s i last kind w (by omega) (by omega) (hm.pick _)) rfl au8 ?_
  refine LM.mv rfl ?_
  refine LM.val (ov_extract rfl rfl) ?_
  refine LM.val (ov_extract rfl rfl) ?_
  refine LM.alloc Tryz.zeroValue65 rfl (fun b7 hb7 => ?_)
  refine LM.stW Tryz.sizeOf65 rfl rfl rfl rfl au7 au8 ?_
  refine LM.as rfl ?_
  refine LM.nil (QM.sub (e' := [(0, _), (5, _), (6, _), (7, _), (8, _)]) ⟨rfl, rfl, rfl, rfl, rfl, trivial⟩ (QM.then ?_))
  refine wpM.seq ?_
  refine wpM.seq (wpM.region ?_)
  refine LM.mv rfl ?_
  first | refine LM.val (ov_notD rfl) ?_ | refine LM.val (ov_not rfl) ?_
  refine LM.nil (QM.sub (e' := [(0, _), (5, _), (6, _), (7, _), (32, _)]) ⟨rfl, rfl, rfl, rfl, rfl, trivial⟩ (QM.then ?_))
  first | refine wpM.condD rfl (fun h3 => ?_) (fun h3 => ?_) | refine wpM.condB rfl (fun h3 => ?_) (fun h3 => ?_)
  ·
   refine wpM.seq ?_
   refine wpM.draw [(0, 0), (1, 1), (2, 0), (3, 0), (4, 0)] (by kernel_rfl) (by kernel_rfl) ?_
   refine LD.val rfl rfl (ov_field Tryz.underlying65 rfl Tryz.sizeOf3 rfl (k := 3) rfl rfl) ?_
   refine LD.rd rfl rfl (om_ld Tryz.isAgg3 rfl rfl) ?_
   refine LD.val rfl rfl (ov_assign rfl) ?_
   refine LD.val rfl rfl (ov_assign rfl) ?_
   refine LD.val rfl rfl (ov_assign rfl) ?_
   refine LD.nil ?_
   refine QM.sub (e' := [(2, _), (3, _), (4, _)]) ⟨rfl, rfl, rfl, trivial⟩ (QM.then ?_)
   refine wpM.ret ?_
   refine QM.then_ret ?_
   refine QM.block_ret ?_
   refine QM.then_ret ?_
   refine QM.then_ret ?_
   refine QM.block_ret ?_
   refine QM.then_ret ?_
   refine QM.leave (.inl rfl) [.tmp 2, .tmp 3, .tmp 4] Tryz.results66 rfl ?_
   intro w' hm' hc' hg'
   have hokw : okW s i last kind = false := (by have q : (!okW s i last kind) = true := h3; simpa using q); have hr : scanO s = ([], (i : Int), 5) := (by unfold scanO; rw [if_neg (by omega), ← hsc, scanR_bad (by omega) (hbl (by omega)).1 (hbl (by omega)).2 (by rw [okW_bad hlast, hokw]; rfl)]); rw [hr]; refine ⟨hc', [], ⟨none, 0, 0, ?_, rfl, .nil _ _ _ _⟩, Mem.nil _, fun p hp => by cases hp⟩; show Value.tuple #[.slice none 0 0, .int .i64 (tokW s i).p, .int .i64 5] = _; rw [tokW_p]
  have hokw : okW s i last kind = true := (by unfold okW; simpa using h3); have hwx : tokW s i = (oneO s i).1 := tokW_ok (by have q := hokw; unfold okW at q; rw [Bool.and_eq_true] at q; exact q.1)
  refine wpM.skip ?_
  refine QM.then (wpM.region ?_)
  refine LM.mv rfl ?_
  refine LM.rd (om_ldW Tryz.isAgg65 Tryz.sizeOf65 rfl rfl) ?_
  refine LM.single Tryz.underlying23 Tryz.sizeOf65 Tryz.zeroValue65 rfl rfl rfl rfl rfl (fun b37 hb37 => ?_)
  refine LM.app (a := tokW s i) Tryz.underlying23 Tryz.typeInfo65 rfl rfl rfl rfl rfl rfl rfl (by assumption) (by rfl) (by intro _; rfl) (by intro _ u hu; simp [fW] at hu; (repeat (first | (rcases hu with rfl | hu) | subst hu | rfl))) (by first | exact Nat.le_refl _ | omega) au9 (by first | omega | (unfold maxLen; omega)) (by simp only [Tryz.t65]; omega) (fun ad38 n38 cap38 m38 hn38 hs38 hin38 => ?_)
  refine LM.as rfl ?_
  refine LM.nil (QM.sub (e' := [(0, _), (5, _), (6, _)]) ⟨rfl, rfl, rfl, trivial⟩ ?_)
  refine QM.block_normal ?_
  refine QM.then (wpM.region ?_)
  refine LM.mv rfl ?_
  refine LM.cW (oc_call (enters_fn Tryz.func108 (by kernel_rfl) rfl) rfl) (fun w hm hc hg => skip_spec b14 s (oneO s i).2.1 ((oneO s i).2.1 : Nat) (oneO s i).1.k w (by omega) (by omega) (hm.pick _)) rfl au8 ?_
  refine LM.nil (QM.sub (e' := [(0, _), (5, _), (6, _)]) ⟨rfl, rfl, rfl, trivial⟩ ?_)
  have hsk := skip_end hl1.2
  refine QM.againK ((skipO s (oneO s i).2.1, ((oneO s i).2.1 : Nat), (oneO s i).1.k, out ++ [tokW s i], ad38, n38, cap38, m38)) ⟨au2, rfl, rfl, trivial⟩ au1 (fun _ h => h) ?_ ?_
  · refine ⟨hsk.2.1, ?_, hsk.2.2, by rw [hn38]; simp, hs38, .inr ⟨by simp, ?_⟩, by simp; omega⟩; (rw [← scanR_skip hl1.2, hwx, ← scanR_word (by omega) (hbl (by omega)).1 (hbl (by omega)).2 (by rw [okW_bad hlast, hokw]; rfl)]; exact hsc); (rw [hwx]; simp)
  · first | omega | (dsimp only; omega)
 refine wpM.exit ?_
 refine QM.then_exit ?_
 refine QM.then_exit ?_
 refine QM.block_hit ?_
 refine QM.then (wpM.seq (wpM.region ?_))
 refine LM.mv rfl ?_
 refine LM.as rfl ?_
 refine LM.as rfl ?_
 refine LM.as rfl ?_
 refine LM.nil (QM.sub (e' := [(2, _), (3, _), (4, _)]) ⟨rfl, rfl, rfl, trivial⟩ (QM.then ?_))
 refine wpM.ret ?_
 refine QM.leave (.inl rfl) [.tmp 2, .tmp 3, .tmp 4] Tryz.results66 rfl ?_
 intro w' hm' hc' hg'
 have hr : scanO s = (out, 0, 0) := (by unfold scanO; rw [if_neg (by omega), ← hsc, scanR_end (by omega)]); rw [hr]; exact ⟨hc', m6, ⟨ad6, n6, cap6, rfl, hn6, hs6⟩, hm'.pick m6, fun p hp => Sl.ge hs6 p hp⟩
end Go.Eng
namespace Go.Eng
open Go Go.Proofs Go.RowKit
def ScV.same (x y : ScV) : Bool := decide (x.sv.C = y.sv.C) && decide (x.xs = y.xs)
def mayX (s : StC) (l : List Act) : Bool := mayS s && mayA l
def printX (s : StC) (l : List Act) : List UInt8 × Int := if mayX s l then joinO (setW s ++ l.flatMap actW) else ([], 1)
theorem mayA_len {l : List Act} (h : mayA l = true) : l.length ≤ 4000 := by
  unfold mayA at h; simp only [Bool.and_eq_true, decide_eq_true_eq] at h; exact h.1
theorem mayA_words {l : List Act} (h : mayA l = true) : wordsA l = (l.flatMap actW, 0) := by
  unfold mayA at h; simp only [Bool.and_eq_true, decide_eq_true_eq] at h
  unfold wordsA; rw [if_pos h.2, if_neg (by omega)]
set_option maxRecDepth 100000 in
theorem script_spec (s : List UInt8) (w : World) (hs : s.length ≤ 1000000000) : Ret Tryz.prog 24 #[vS s] w (fun v w' => Ext w w' ∧ ∃ m, SpT (scriptO s) w.heap.size v m ∧ Mem w' m ∧ ∀ p ∈ m, w.heap.size ≤ p.1) := by
 refine Ret.enterM (l := [vS s]) Tryz.func24 rfl Tryz.ntmps24 rfl ([]) (no) (Mem.nil w) ?_
 refine wpM.seq (wpM.region ?_)
 refine LM.alloc Tryz.zeroValue49 rfl (fun b2 hb2 => ?_)
 refine LM.as rfl ?_
 refine LM.as rfl ?_
 refine LM.nil (QM.sub (e' := [(0, _), (2, _)]) ⟨rfl, rfl, trivial⟩ (QM.then (wpM.seq (wpM.region ?_))))
 refine LM.mv rfl ?_
 refine LM.callT (oc_call (enters_fn Tryz.func66 (by kernel_rfl) rfl) rfl) ScT.mono (fun w hm hc hg => tscan_spec w) ?_
 rintro u13 m13 ⟨ad13, n13, cap13, rfl, hn13, hs13⟩ -; have hl13 := scan_len s
 refine LM.mv rfl ?_
 refine LM.val (ov_extract rfl rfl) ?_
 refine LM.val (ov_extract rfl rfl) ?_
 refine LM.val (ov_extract rfl rfl) ?_
 refine LM.as rfl ?_
 refine LM.as rfl ?_
 refine LM.as rfl ?_
 refine LM.nil (QM.sub (e' := [(0, _), (2, _), (5, _), (6, _), (7, _)]) ⟨rfl, rfl, rfl, rfl, rfl, trivial⟩ (QM.then ?_))
 refine wpM.seq ?_
 refine wpM.seq (wpM.region ?_)
 refine LM.mv rfl ?_
 refine LM.val (ov_neq rfl rfl) ?_
 refine LM.nil (QM.sub (e' := [(0, _), (2, _), (5, _), (6, _), (7, _), (18, _)]) ⟨rfl, rfl, rfl, rfl, rfl, rfl, trivial⟩ (QM.then ?_))
 refine wpM.condD rfl (fun h1 => ?_) (fun h1 => ?_)
 ·
  refine wpM.seq (wpM.region ?_)
  refine LM.val (ov_build (cs := #[_, _, _, _, _, _]) rfl (by first | rfl | kernel_rfl)) ?_
  refine LM.mv rfl ?_
  refine LM.mv rfl ?_
  refine LM.stW Tryz.sizeOf49 rfl rfl rfl rfl au7 au8 ?_
  refine LM.as rfl ?_
  refine LM.as rfl ?_
  refine LM.nil (QM.sub (e' := [(2, _), (3, _), (4, _)]) ⟨rfl, rfl, rfl, trivial⟩ (QM.then ?_))
  refine wpM.ret ?_
  refine QM.then_ret ?_
  refine QM.leaveCs (ds := ([])) (.inl rfl) [.cell 2 49, .tmp 3, .tmp 4] Tryz.results24 hd_nil (rc_w rfl Tryz.isAgg49 Tryz.sizeOf49 rfl (rc_tmp rfl (rc_tmp rfl rc_nil))) ?_
  intro w' hm' hc'
  unfold scriptO; rw [if_pos h1]; exact ⟨hc', [], SpT.nil0, Mem.nil _, fun p hp => by cases hp⟩
 refine wpM.skip ?_
 refine QM.then (wpM.seq (wpM.region ?_))
 refine LM.mv rfl ?_
 refine LM.callT (oc_call (enters_fn Tryz.func11 (by kernel_rfl) rfl) rfl) StT.mono (fun w hm hc hg => setup_spec 0 w hn13 (by omega) (hs13.srM (by intro _; rfl) hm)) ?_
 rintro u24 m24 ⟨sv, rfl, hsv, hin⟩ hge24
 refine LM.mv rfl ?_
 refine LM.val (ov_extract rfl rfl) ?_
 refine LM.val (ov_extract rfl rfl) ?_
 refine LM.val (ov_extract rfl rfl) ?_
 refine LM.alloc Tryz.zeroValue30 rfl (fun b8 hb8 => ?_)
 refine LM.stW Tryz.sizeOf30 rfl rfl rfl rfl au7 au8 ?_
 refine LM.as rfl ?_
 refine LM.as rfl ?_
 refine LM.nil (QM.sub (e' := [(0, _), (2, _), (5, _), (7, _), (8, _), (9, _)]) ⟨rfl, rfl, rfl, rfl, rfl, rfl, trivial⟩ (QM.then ?_))
 refine wpM.seq ?_
 refine wpM.seq (wpM.region ?_)
 refine LM.mv rfl ?_
 refine LM.val (ov_neq rfl rfl) ?_
 refine LM.nil (QM.sub (e' := [(0, _), (2, _), (5, _), (7, _), (8, _), (9, _), (29, _)]) ⟨rfl, rfl, rfl, rfl, rfl, rfl, rfl, trivial⟩ (QM.then ?_))
 refine wpM.condD rfl (fun h2 => ?_) (fun h2 => ?_)
 ·
  refine wpM.seq (wpM.region ?_)
  refine LM.val (ov_build (cs := #[_, _, _, _, _, _]) rfl (by first | rfl | kernel_rfl)) ?_
  refine LM.mv rfl ?_
  refine LM.mv rfl ?_
  refine LM.mv rfl ?_
  refine LM.callE (oc_call (enters_fn Tryz.func67 (by kernel_rfl) rfl) rfl) (fun w hm hc hg => splace_spec s _ w hn13 (hs13.srM (by intro _; rfl) hm) (set_pos _ _)) ?_
  refine LM.mv rfl ?_
  refine LM.stW Tryz.sizeOf49 rfl rfl rfl rfl au7 au8 ?_
  refine LM.as rfl ?_
  refine LM.as rfl ?_
  refine LM.nil (QM.sub (e' := [(2, _), (3, _), (4, _)]) ⟨rfl, rfl, rfl, trivial⟩ (QM.then ?_))
  refine wpM.ret ?_
  refine QM.then_ret ?_
  refine QM.leaveCs (ds := ([])) (.inl rfl) [.cell 2 49, .tmp 3, .tmp 4] Tryz.results24 hd_nil (rc_w rfl Tryz.isAgg49 Tryz.sizeOf49 rfl (rc_tmp rfl (rc_tmp rfl rc_nil))) ?_
  intro w' hm' hc'
  unfold scriptO; rw [if_neg h1, if_pos h2]; exact ⟨hc', [], SpT.nil0, Mem.nil _, fun p hp => by cases hp⟩
 refine wpM.skip ?_
 refine QM.then (wpM.seq (wpM.region ?_))
 refine LM.mv rfl ?_
 refine LM.mv rfl ?_
 refine LM.callT (oc_call (enters_fn Tryz.func68 (by kernel_rfl) rfl) rfl) AcT.mono (fun w hm hc hg => aparse_spec _ w hn13 (by omega) (hs13.srM (by intro _; rfl) hm)) ?_
 rintro u39 m39 ⟨ad39, n39, cap39, rfl, hn39, hs39⟩ hge39
 refine LM.mv rfl ?_
 refine LM.val (ov_extract rfl rfl) ?_
 refine LM.val (ov_extract rfl rfl) ?_
 refine LM.val (ov_extract rfl rfl) ?_
 refine LM.as rfl ?_
 refine LM.as rfl ?_
 refine LM.as rfl ?_
 refine LM.nil (QM.sub (e' := [(0, _), (2, _), (5, _), (7, _), (8, _), (9, _), (10, _)]) ⟨rfl, rfl, rfl, rfl, rfl, rfl, rfl, trivial⟩ (QM.then ?_))
 refine wpM.seq ?_
 refine wpM.seq (wpM.region ?_)
 refine LM.mv rfl ?_
 refine LM.val (ov_neq rfl rfl) ?_
 refine LM.nil (QM.sub (e' := [(0, _), (2, _), (5, _), (7, _), (8, _), (9, _), (10, _), (44, _)]) ⟨rfl, rfl, rfl, rfl, rfl, rfl, rfl, rfl, trivial⟩ (QM.then ?_))
 refine wpM.condD rfl (fun h3 => ?_) (fun h3 => ?_)
 ·
  refine wpM.seq (wpM.region ?_)
  refine LM.val (ov_build (cs := #[_, _, _, _, _, _]) rfl (by first | rfl | kernel_rfl)) ?_
  refine LM.mv rfl ?_
  refine LM.mv rfl ?_
  refine LM.mv rfl ?_
  refine LM.callE (oc_call (enters_fn Tryz.func67 (by kernel_rfl) rfl) rfl) (fun w hm hc hg => splace_spec s _ w hn13 (hs13.srM (by intro _; rfl) hm) (acts_pos _ _)) ?_
  refine LM.mv rfl ?_
  refine LM.stW Tryz.sizeOf49 rfl rfl rfl rfl au7 au8 ?_
  refine LM.as rfl ?_
  refine LM.as rfl ?_
  refine LM.nil (QM.sub (e' := [(2, _), (3, _), (4, _)]) ⟨rfl, rfl, rfl, trivial⟩ (QM.then ?_))
  refine wpM.ret ?_
  refine QM.then_ret ?_
  refine QM.leaveCs (ds := ([])) (.inl rfl) [.cell 2 49, .tmp 3, .tmp 4] Tryz.results24 hd_nil (rc_w rfl Tryz.isAgg49 Tryz.sizeOf49 rfl (rc_tmp rfl (rc_tmp rfl rc_nil))) ?_
  intro w' hm' hc'
  unfold scriptO; rw [if_neg h1, if_neg h2, if_pos h3]; exact ⟨hc', [], SpT.nil0, Mem.nil _, fun p hp => by cases hp⟩
 refine wpM.skip ?_
 refine QM.then (wpM.seq (wpM.region ?_))
 refine LM.rd (om_ldW Tryz.isAgg30 Tryz.sizeOf30 rfl rfl) ?_
 refine LM.mv rfl ?_
 refine LM.val (ov_build (cs := #[_, _, _, _, _, _]) rfl (by first | rfl | kernel_rfl)) ?_
 refine LM.stW Tryz.sizeOf49 rfl rfl rfl rfl au7 au8 ?_
 refine LM.as rfl ?_
 refine LM.as rfl ?_
 refine LM.nil (QM.sub (e' := [(2, _), (3, _), (4, _)]) ⟨rfl, rfl, rfl, trivial⟩ (QM.then ?_))
 refine wpM.ret ?_
 refine QM.leaveCs (ds := ([])) (.inl rfl) [.cell 2 49, .tmp 3, .tmp 4] Tryz.results24 hd_nil (rc_w rfl Tryz.isAgg49 Tryz.sizeOf49 rfl (rc_tmp rfl (rc_tmp rfl rc_nil))) ?_
 intro w' hm' hc'
 unfold scriptO; rw [if_neg h1, if_neg h2, if_neg h3]; refine ⟨hc', m39 ++ (m24 ++ []), ⟨⟨sv, _, ad39, n39, cap39⟩, rfl, hsv, rfl, fun w hm => ⟨hin w (hm.pick m24), hn39, hs39.srM (by intro _; rfl) hm⟩⟩, SubM.mem (by (repeat' (first | exact SubM.nil _ | refine SubM.app ?_))) w' hm', ?_⟩; intro p hp; simp only [List.mem_append, List.not_mem_nil, or_false] at hp; rcases hp with hp | hp; exact hge39 p hp; exact hge24 p hp
set_option maxRecDepth 100000 in
theorem xmay_spec {x : ScV} (w : World) (hX : x.In w) : Ret Tryz.prog 27 #[x.val] w (fun v w' => v = .bool (mayX x.sv.C x.xs) ∧ Ext w w') := by
 refine Ret.enterM (l := [x.val]) Tryz.func27 rfl Tryz.ntmps27 rfl ([]) (no) (Mem.nil w) ?_
 refine wpM.seq (wpM.region ?_)
 refine LM.box rfl rfl (fun b1 hb1 => ?_)
 refine LM.as rfl ?_
 refine LM.nil (QM.sub (e' := [(1, _)]) ⟨rfl, trivial⟩ (QM.then (wpM.seq (wpM.region ?_))))
 refine LM.val (ov_field Tryz.underlying49 rfl Tryz.sizeOf30 rfl (k := 0) rfl rfl) ?_
 first | refine LM.rd (om_ldW Tryz.isAgg30 Tryz.sizeOf30 rfl rfl) ?_ | refine LM.rd (om_ldA Tryz.isAgg30 Tryz.sizeOf30 rfl (vs := [_, _, _, _, _]) rfl ⟨rfl, rfl, rfl, rfl, rfl, trivial⟩) ?_
 refine LM.callE (oc_call (enters_fn Tryz.func14 (by kernel_rfl) rfl) rfl) (fun w hm hc hg => mayS_spec (s := x.sv) w (hX.st.ext hc)) ?_
 refine LM.mv rfl ?_
 first | refine LM.splitD (t := 6) rfl (fun h1 => ?_) (fun h1 => ?_) | refine LM.splitB (t := 6) rfl (fun h1 => ?_) (fun h1 => ?_)
 ·
  refine LM.sp 6 rfl rfl rfl ?_
  refine LM.val (ov_field Tryz.underlying49 rfl Tryz.sizeOf47 rfl (k := 5) rfl rfl) ?_
  refine LM.sp 6 rfl rfl rfl ?_
  refine LM.rd (om_ld Tryz.isAgg47 rfl rfl) ?_
  refine LM.sp 6 rfl rfl rfl ?_
  refine LM.callE (oc_call (enters_fn Tryz.func71 (by kernel_rfl) rfl) rfl) (fun w hm hc hg => amay_spec w hX.hn (hX.hx.ext hc)) ?_
  refine LM.val (ov_pickT rfl rfl) ?_
  refine LM.as rfl ?_
  refine LM.nil (QM.sub (e' := [(2, _)]) ⟨rfl, trivial⟩ (QM.then ?_))
  refine wpM.ret ?_
  refine QM.leave (.inl rfl) [.tmp 2] Tryz.results27 rfl ?_
  intro w' hm' hc' hg'
  refine ⟨?_, hc'⟩; simp only [resV, mayX]; simp only [h1, decide_true, decide_false, Bool.true_and, Bool.false_and, Bool.and_true, Bool.and_false, Bool.not_true, Bool.not_false, Bool.true_or, Bool.false_or, Bool.or_true, Bool.or_false, ne_eq, not_true_eq_false, not_false_eq_true, Bool.and_self]
 refine LM.dr 6 rfl rfl rfl ?_
 refine LM.dr 6 rfl rfl rfl ?_
 refine LM.dr 6 rfl rfl rfl ?_
 refine LM.val (ov_pickF rfl rfl) ?_
 refine LM.as rfl ?_
 refine LM.nil (QM.sub (e' := [(2, _)]) ⟨rfl, trivial⟩ (QM.then ?_))
 refine wpM.ret ?_
 refine QM.leave (.inl rfl) [.tmp 2] Tryz.results27 rfl ?_
 intro w' hm' hc' hg'
 refine ⟨?_, hc'⟩; simp only [resV, mayX]; simp only [h1, decide_true, decide_false, Bool.true_and, Bool.false_and, Bool.and_true, Bool.and_false, Bool.not_true, Bool.not_false, Bool.true_or, Bool.false_or, Bool.or_true, Bool.or_false, ne_eq, not_true_eq_false, not_false_eq_true, Bool.and_self]
set_option maxRecDepth 100000 in
theorem eqs_a {xs ys : List Act} {ad1 ad2 : Option Addr} {n1 n2 cap1 cap2 : Nat} (w : World) (hn1 : n1 = xs.length) (hl1 : Sr fA 5 xs (.slice ad1 n1 cap1) w) (hn2 : n2 = ys.length) (hl2 : Sr fA 5 ys (.slice ad2 n2 cap2) w) (hx : xs.length ≤ 1000000000) : Ret Tryz.prog 75 #[.slice ad1 n1 cap1, .slice ad2 n2 cap2] w (fun v w' => v = .bool (decide (xs = ys)) ∧ Ext w w') := by
 refine Ret.enterM (l := [.slice ad1 n1 cap1, .slice ad2 n2 cap2]) Tryz.func75 rfl Tryz.ntmps75 rfl ([]) (no) (Mem.nil w) ?_
 refine wpM.seq (wpM.region ?_)
 refine LM.as rfl ?_
 refine LM.nil (QM.sub (e' := [(0, _), (1, _)]) ⟨rfl, rfl, trivial⟩ (QM.then ?_))
 refine wpM.seq ?_
 refine wpM.seq (wpM.region ?_)
 refine LM.mv rfl ?_
 refine LM.val (ov_len Tryz.underlying47 rfl) ?_
 refine LM.mv rfl ?_
 refine LM.val (ov_len Tryz.underlying47 rfl) ?_
 refine LM.val (ov_neq rfl rfl) ?_
 refine LM.nil (QM.sub (e' := [(0, _), (1, _), (10, _)]) ⟨rfl, rfl, rfl, trivial⟩ (QM.then ?_))
 refine wpM.condD rfl (fun h1 => ?_) (fun h1 => ?_)
 ·
  refine wpM.seq (wpM.region ?_)
  refine LM.as rfl ?_
  refine LM.nil (QM.sub (e' := [(4, _)]) ⟨rfl, trivial⟩ (QM.then ?_))
  refine wpM.ret ?_
  refine QM.then_ret ?_
  refine QM.leave (.inl rfl) [.tmp 4] Tryz.results75 rfl ?_
  intro w' hm' hc' hg'
  refine ⟨?_, hc'⟩; show Value.bool false = _; rw [decide_eq_false (show ¬ xs = ys by intro q; have := congrArg List.length q; omega)]
 refine wpM.skip ?_
 refine QM.then ?_
 refine wpM.seq ?_
 refine wpM.seq (wpM.region ?_)
 refine LM.mv rfl ?_
 refine LM.val (ov_len Tryz.underlying47 rfl) ?_
 refine LM.mv rfl ?_
 refine LM.nil (QM.sub (e' := [(0, _), (1, _), (12, _), (13, _)]) ⟨rfl, rfl, rfl, rfl, trivial⟩ (QM.then ?_))
 refine wpM.block ?_
 refine wpM.loopK0 (α := Nat) (fun i => [(13, .int .i64 (i : Nat))]) [(0, _), (1, _), (12, _)] (fun i => []) (fun i => i ≤ xs.length ∧ xs.take i = ys.take i) (fun i => xs.length - i) (0) ⟨au2, rfl, rfl, rfl, trivial⟩ au1 ⟨Nat.zero_le _, rfl⟩ ?_
 rintro i ⟨hi, ha⟩
 change wpM _ _ _ _ _ _ _ ([]) _ _ _
 refine wpM.seq (wpM.region ?_)
 refine LM.val (ov_lss rfl rfl) ?_
 refine LM.nil (QM.sub (e' := [(0, _), (1, _), (12, _), (13, _), (14, _)]) ⟨rfl, rfl, rfl, rfl, rfl, trivial⟩ (QM.then ?_))
 refine wpM.seq ?_
 refine wpM.condD rfl (fun h2 => ?_) (fun h2 => ?_)
 ·
  refine wpM.skip ?_
  refine QM.then ?_
  refine wpM.seq ?_
  refine wpM.block ?_
  refine wpM.seq (wpM.region ?_)
  refine LM.mv rfl ?_
  refine LM.as rfl ?_
  refine LM.nil (QM.sub (e' := [(0, _), (1, _), (5, _), (12, _), (13, _)]) ⟨rfl, rfl, rfl, rfl, rfl, trivial⟩ (QM.then ?_))
  refine wpM.seq ?_
  refine wpM.draw [(0, 0), (1, 0), (2, 0), (3, 1), (4, 0), (5, 0), (6, 0), (7, 1), (8, 0)] (by kernel_rfl) (by kernel_rfl) ?_
  refine LD.val rfl rfl (ov_move rfl) ?_
  refine LD.val rfl rfl (ov_move rfl) ?_
  refine LD.val rfl rfl (ov_idxSN au6 Tryz.underlying47 Tryz.sizeOf123 rfl rfl (by omega)) ?_
  first | refine LD.rd rfl rfl (om_slA (by assumption) (by intro _; rfl) Tryz.isAgg123 Tryz.sizeOf123 rfl au3) ?_ | refine LD.rdC rfl rfl (om_srEA (by assumption) (by intro _; rfl) Tryz.isAgg123 Tryz.sizeOf123 rfl au3 id) ?_ | refine LD.rd rfl rfl (om_ldW Tryz.isAgg123 Tryz.sizeOf123 rfl rfl) ?_ | refine LD.rd rfl rfl (om_ldA Tryz.isAgg123 Tryz.sizeOf123 rfl (vs := [_, _, _, _, _]) rfl ⟨rfl, rfl, rfl, rfl, rfl, trivial⟩) ?_
  refine LD.val rfl rfl (ov_move rfl) ?_
  refine LD.val rfl rfl (ov_move rfl) ?_
  refine LD.val rfl rfl (ov_idxSN au6 Tryz.underlying47 Tryz.sizeOf123 rfl rfl (by omega)) ?_
  first | refine LD.rd rfl rfl (om_slA (by assumption) (by intro _; rfl) Tryz.isAgg123 Tryz.sizeOf123 rfl au3) ?_ | refine LD.rdC rfl rfl (om_srEA (by assumption) (by intro _; rfl) Tryz.isAgg123 Tryz.sizeOf123 rfl au3 id) ?_ | refine LD.rd rfl rfl (om_ldW Tryz.isAgg123 Tryz.sizeOf123 rfl rfl) ?_ | refine LD.rd rfl rfl (om_ldA Tryz.isAgg123 Tryz.sizeOf123 rfl (vs := [_, _, _, _, _]) rfl ⟨rfl, rfl, rfl, rfl, rfl, trivial⟩) ?_
  refine LD.val rfl rfl (ov_aneq Tryz.underlying123 (by kernel_rfl) (by kernel_rfl) (by decide) rfl rfl (by rfl) ⟨(by first | rfl | trivial), (by first | rfl | trivial), (by first | rfl | trivial), (by first | rfl | trivial), (by first | rfl | trivial), trivial⟩) ?_
  refine LD.nil ?_
  refine QM.sub (e' := [(0, _), (1, _), (12, _), (13, _), (24, _)]) ⟨rfl, rfl, rfl, rfl, rfl, trivial⟩ (QM.then ?_)
  first | refine wpM.condD rfl (fun h3 => ?_) (fun h3 => ?_) | refine wpM.condB rfl (fun h3 => ?_) (fun h3 => ?_)
  ·
   refine wpM.seq (wpM.region ?_)
   refine LM.as rfl ?_
   refine LM.nil (QM.sub (e' := [(4, _)]) ⟨rfl, trivial⟩ (QM.then ?_))
   refine wpM.ret ?_
   refine QM.block_ret ?_
   refine QM.then_ret ?_
   refine QM.then_ret ?_
   refine QM.block_ret ?_
   refine QM.then_ret ?_
   refine QM.leave (.inl rfl) [.tmp 4] Tryz.results75 rfl ?_
   intro w' hm' hc' hg'
   refine ⟨?_, hc'⟩; show Value.bool false = _; rw [decide_eq_false (show ¬ xs = ys by intro q; rw [fA_veqs, q] at h3; simp at h3)]
  refine wpM.skip ?_
  refine QM.block_normal ?_
  refine QM.then (wpM.region ?_)
  refine LM.val (ov_add64 rfl rfl (by omega)) ?_
  refine LM.mv rfl ?_
  refine LM.nil (QM.sub (e' := [(0, _), (1, _), (12, _), (13, _)]) ⟨rfl, rfl, rfl, rfl, trivial⟩ ?_)
  refine QM.againK (i + 1) ⟨au2, rfl, rfl, rfl, trivial⟩ au1 (fun _ h => h) ?_ ?_
  · exact ⟨by omega, eq_atD default (by omega) (by omega) ha (by rw [fA_veqs] at h3; simpa using h3)⟩
  · omega
 refine wpM.exit ?_
 refine QM.then_exit ?_
 refine QM.then_exit ?_
 refine QM.block_hit ?_
 refine QM.then (wpM.seq (wpM.region ?_))
 refine LM.as rfl ?_
 refine LM.nil (QM.sub (e' := [(4, _)]) ⟨rfl, trivial⟩ (QM.then ?_))
 refine wpM.ret ?_
 refine QM.leave (.inl rfl) [.tmp 4] Tryz.results75 rfl ?_
 intro w' hm' hc' hg'
 refine ⟨?_, hc'⟩; show Value.bool true = _; rw [decide_eq_true (eq_all (by omega) (by omega) ha)]
set_option maxRecDepth 100000 in
theorem xsame_spec {x y : ScV} (w : World) (hX : x.In w) (hY : y.In w) (hb : x.sv.Bd) (hl : x.xs.length ≤ 1000000) : Ret Tryz.prog 30 #[x.val, y.val] w (fun v w' => v = .bool (x.same y) ∧ Ext w w') := by
 refine Ret.enterM (l := [x.val, y.val]) Tryz.func30 rfl Tryz.ntmps30 rfl ([]) (no) (Mem.nil w) ?_
 refine wpM.seq (wpM.region ?_)
 refine LM.box rfl rfl (fun b2 hb2 => ?_)
 refine LM.box rfl rfl (fun b3 hb3 => ?_)
 refine LM.as rfl ?_
 refine LM.nil (QM.sub (e' := [(2, _), (3, _)]) ⟨rfl, rfl, trivial⟩ (QM.then (wpM.seq (wpM.region ?_))))
 refine LM.val (ov_field Tryz.underlying49 rfl Tryz.sizeOf30 rfl (k := 0) rfl rfl) ?_
 first | refine LM.rd (om_ldW Tryz.isAgg30 Tryz.sizeOf30 rfl rfl) ?_ | refine LM.rd (om_ldA Tryz.isAgg30 Tryz.sizeOf30 rfl (vs := [_, _, _, _, _]) rfl ⟨rfl, rfl, rfl, rfl, rfl, trivial⟩) ?_
 refine LM.val (ov_field Tryz.underlying49 rfl Tryz.sizeOf30 rfl (k := 0) rfl rfl) ?_
 first | refine LM.rd (om_ldW Tryz.isAgg30 Tryz.sizeOf30 rfl rfl) ?_ | refine LM.rd (om_ldA Tryz.isAgg30 Tryz.sizeOf30 rfl (vs := [_, _, _, _, _]) rfl ⟨rfl, rfl, rfl, rfl, rfl, trivial⟩) ?_
 refine LM.callE (oc_call (enters_fn Tryz.func22 (by kernel_rfl) rfl) rfl) (fun w hm hc hg => ssame_spec (a := x.sv) (b := y.sv) w (hX.st.ext hc) (hY.st.ext hc) hb) ?_
 refine LM.mv rfl ?_
 refine LM.splitD (t := 10) rfl (fun h1 => ?_) (fun h1 => ?_)
 ·
  refine LM.sp 10 rfl rfl rfl ?_
  refine LM.val (ov_field Tryz.underlying49 rfl Tryz.sizeOf47 rfl (k := 5) rfl rfl) ?_
  refine LM.sp 10 rfl rfl rfl ?_
  refine LM.rd (om_ld Tryz.isAgg47 rfl rfl) ?_
  refine LM.sp 10 rfl rfl rfl ?_
  refine LM.val (ov_field Tryz.underlying49 rfl Tryz.sizeOf47 rfl (k := 5) rfl rfl) ?_
  refine LM.sp 10 rfl rfl rfl ?_
  refine LM.rd (om_ld Tryz.isAgg47 rfl rfl) ?_
  refine LM.sp 10 rfl rfl rfl ?_
  refine LM.callE (oc_call (enters_fn Tryz.func75 (by kernel_rfl) rfl) rfl) (fun w hm hc hg => eqs_a w hX.hn (hX.hx.ext hc) hY.hn (hY.hx.ext hc) (by omega)) ?_
  refine LM.val (ov_pickT rfl rfl) ?_
  refine LM.as rfl ?_
  refine LM.nil (QM.sub (e' := [(4, _)]) ⟨rfl, trivial⟩ (QM.then ?_))
  refine wpM.ret ?_
  refine QM.leave (.inl rfl) [.tmp 4] Tryz.results30 rfl ?_
  intro w' hm' hc' hg'
  refine ⟨?_, hc'⟩; simp only [resV, ScV.same]; simp only [h1, decide_true, decide_false, Bool.true_and, Bool.false_and, Bool.and_true, Bool.and_false, Bool.not_true, Bool.not_false, Bool.true_or, Bool.false_or, Bool.or_true, Bool.or_false, ne_eq, not_true_eq_false, not_false_eq_true, Bool.and_self]
 refine LM.dr 10 rfl rfl rfl ?_
 refine LM.dr 10 rfl rfl rfl ?_
 refine LM.dr 10 rfl rfl rfl ?_
 refine LM.dr 10 rfl rfl rfl ?_
 refine LM.dr 10 rfl rfl rfl ?_
 refine LM.val (ov_pickF rfl rfl) ?_
 refine LM.as rfl ?_
 refine LM.nil (QM.sub (e' := [(4, _)]) ⟨rfl, trivial⟩ (QM.then ?_))
 refine wpM.ret ?_
 refine QM.leave (.inl rfl) [.tmp 4] Tryz.results30 rfl ?_
 intro w' hm' hc' hg'
 refine ⟨?_, hc'⟩; simp only [resV, ScV.same]; simp only [h1, decide_true, decide_false, Bool.true_and, Bool.false_and, Bool.and_true, Bool.and_false, Bool.not_true, Bool.not_false, Bool.true_or, Bool.false_or, Bool.or_true, Bool.or_false, ne_eq, not_true_eq_false, not_false_eq_true, Bool.and_self]
set_option maxRecDepth 100000 in
theorem rxsame_spec {x y : ScV} (w : World) (hX : x.In w) (hY : y.In w) (hb : x.sv.Bd) (hl : x.xs.length ≤ 1000000) : Ret Tryz.prog 26 #[x.val, y.val] w (fun v w' => v = .bool (x.same y) ∧ Ext w w') := by
 refine Ret.enterM (l := [x.val, y.val]) Tryz.func26 rfl Tryz.ntmps26 rfl ([]) (no) (Mem.nil w) ?_
 refine wpM.seq (wpM.region ?_)
 refine LM.box rfl rfl (fun b2 hb2 => ?_)
 refine LM.box rfl rfl (fun b3 hb3 => ?_)
 refine LM.as rfl ?_
 refine LM.nil (QM.sub (e' := [(2, _), (3, _)]) ⟨rfl, rfl, trivial⟩ (QM.then (wpM.seq (wpM.region ?_))))
 refine LM.val (ov_field Tryz.underlying49 rfl Tryz.sizeOf30 rfl (k := 0) rfl rfl) ?_
 first | refine LM.rd (om_ldW Tryz.isAgg30 Tryz.sizeOf30 rfl rfl) ?_ | refine LM.rd (om_ldA Tryz.isAgg30 Tryz.sizeOf30 rfl (vs := [_, _, _, _, _]) rfl ⟨rfl, rfl, rfl, rfl, rfl, trivial⟩) ?_
 refine LM.val (ov_field Tryz.underlying49 rfl Tryz.sizeOf30 rfl (k := 0) rfl rfl) ?_
 first | refine LM.rd (om_ldW Tryz.isAgg30 Tryz.sizeOf30 rfl rfl) ?_ | refine LM.rd (om_ldA Tryz.isAgg30 Tryz.sizeOf30 rfl (vs := [_, _, _, _, _]) rfl ⟨rfl, rfl, rfl, rfl, rfl, trivial⟩) ?_
 refine LM.callE (oc_call (enters_fn Tryz.func13 (by kernel_rfl) rfl) rfl) (fun w hm hc hg => rssame_spec (a := x.sv) (b := y.sv) w (hX.st.ext hc) (hY.st.ext hc) hb) ?_
 refine LM.mv rfl ?_
 refine LM.splitD (t := 10) rfl (fun h1 => ?_) (fun h1 => ?_)
 ·
  refine LM.sp 10 rfl rfl rfl ?_
  refine LM.val (ov_field Tryz.underlying49 rfl Tryz.sizeOf47 rfl (k := 5) rfl rfl) ?_
  refine LM.sp 10 rfl rfl rfl ?_
  refine LM.rd (om_ld Tryz.isAgg47 rfl rfl) ?_
  refine LM.sp 10 rfl rfl rfl ?_
  refine LM.val (ov_field Tryz.underlying49 rfl Tryz.sizeOf47 rfl (k := 5) rfl rfl) ?_
  refine LM.sp 10 rfl rfl rfl ?_
  refine LM.rd (om_ld Tryz.isAgg47 rfl rfl) ?_
  refine LM.sp 10 rfl rfl rfl ?_
  refine LM.callE (oc_call (enters_fn Tryz.func32 (by kernel_rfl) rfl) rfl) (fun w hm hc hg => asame_spec w hX.hn (hX.hx.ext hc) hY.hn (hY.hx.ext hc) (by omega)) ?_
  refine LM.val (ov_pickT rfl rfl) ?_
  refine LM.as rfl ?_
  refine LM.nil (QM.sub (e' := [(4, _)]) ⟨rfl, trivial⟩ (QM.then ?_))
  refine wpM.ret ?_
  refine QM.leave (.inl rfl) [.tmp 4] Tryz.results26 rfl ?_
  intro w' hm' hc' hg'
  refine ⟨?_, hc'⟩; simp only [resV, ScV.same]; simp only [h1, decide_true, decide_false, Bool.true_and, Bool.false_and, Bool.and_true, Bool.and_false, Bool.not_true, Bool.not_false, Bool.true_or, Bool.false_or, Bool.or_true, Bool.or_false, ne_eq, not_true_eq_false, not_false_eq_true, Bool.and_self]
 refine LM.dr 10 rfl rfl rfl ?_
 refine LM.dr 10 rfl rfl rfl ?_
 refine LM.dr 10 rfl rfl rfl ?_
 refine LM.dr 10 rfl rfl rfl ?_
 refine LM.dr 10 rfl rfl rfl ?_
 refine LM.val (ov_pickF rfl rfl) ?_
 refine LM.as rfl ?_
 refine LM.nil (QM.sub (e' := [(4, _)]) ⟨rfl, trivial⟩ (QM.then ?_))
 refine wpM.ret ?_
 refine QM.leave (.inl rfl) [.tmp 4] Tryz.results26 rfl ?_
 intro w' hm' hc' hg'
 refine ⟨?_, hc'⟩; simp only [resV, ScV.same]; simp only [h1, decide_true, decide_false, Bool.true_and, Bool.false_and, Bool.and_true, Bool.and_false, Bool.not_true, Bool.not_false, Bool.true_or, Bool.false_or, Bool.or_true, Bool.or_false, ne_eq, not_true_eq_false, not_false_eq_true, Bool.and_self]
end Go.Eng
namespace Go.Eng
open Go Go.Proofs Go.RowKit
structure SlW where
  ad : Option Addr
  n : Nat
  cap : Nat
  xs : List Wrd
  deriving Inhabited
def fSl (x : SlW) : List Value := [.slice x.ad x.n x.cap]
def allW (L : List SlW) : List Wrd := L.flatMap SlW.xs
theorem allW_snoc {L : List SlW} {i : Nat} (h : i < L.length) : allW (L.take (i + 1)) = allW (L.take i) ++ (L.getD i default).xs := by
  unfold allW; rw [take_snoc default h, List.flatMap_append]; simp
theorem allW_le (L : List SlW) (i : Nat) : (allW (L.take i)).length ≤ (allW L).length := by
  have := congrArg List.length (congrArg allW (List.take_append_drop i L))
  unfold allW at this ⊢; rw [List.flatMap_append, List.length_append] at this; omega
set_option maxRecDepth 100000 in
theorem growW_spec (k : Nat) (w : World) (hk : k ≤ 1000000) : Ret Tryz.prog 121 #[.slice none 0 0, .int .i64 (k : Nat)] w (New fW 65 4 [] w) := by
 refine Ret.enterM (l := [.slice none 0 0, .int .i64 (k : Nat)]) Tryz.func121 rfl Tryz.ntmps121 rfl ([]) (no) (Mem.nil w) ?_
 refine wpM.seq (wpM.region ?_)
 refine LM.as rfl ?_
 refine LM.nil (QM.sub (e' := [(0, _), (1, _)]) ⟨rfl, rfl, trivial⟩ (QM.then ?_))
 refine wpM.seq ?_
 refine wpM.seq (wpM.region ?_)
 refine LM.mv rfl ?_
 refine LM.val (ov_lss rfl rfl) ?_
 refine LM.nil (QM.sub (e' := [(0, _), (1, _), (6, _)]) ⟨rfl, rfl, rfl, trivial⟩ (QM.then ?_))
 refine wpM.condD rfl (fun h1 => ?_) (fun h1 => ?_)
 ·
  exfalso; omega
 refine wpM.skip ?_
 refine QM.then ?_
 refine wpM.seq ?_
 refine wpM.seq (wpM.region ?_)
 refine LM.mv rfl ?_
 refine LM.mv rfl ?_
 refine LM.val (ov_cap Tryz.underlying23 rfl) ?_
 refine LM.mv rfl ?_
 refine LM.val (ov_len Tryz.underlying23 rfl) ?_
 refine LM.val (ov_sub64 rfl rfl (by omega)) ?_
 refine LM.val (ov_sub64 rfl rfl (by omega)) ?_
 refine LM.as rfl ?_
 refine LM.nil (QM.sub (e' := [(0, _), (1, _)]) ⟨rfl, rfl, trivial⟩ (QM.then (wpM.seq (wpM.region ?_))))
 refine LM.mv rfl ?_
 refine LM.val (ov_gtr rfl rfl) ?_
 refine LM.nil (QM.sub (e' := [(0, _), (1, _), (16, _)]) ⟨rfl, rfl, rfl, trivial⟩ (QM.then ?_))
 refine wpM.condD rfl (fun h2 => ?_) (fun h2 => ?_)
 ·
  refine wpM.region ?_
  refine LM.mv rfl ?_
  refine LM.mv rfl ?_
  refine LM.val (ov_cap Tryz.underlying23 rfl) ?_
  refine LM.val (ov_subHi Tryz.underlying23 Tryz.sizeOf65 rfl rfl (by omega) (by omega)) ?_
  refine LM.mv rfl ?_
  refine LM.appZ (n := k) Tryz.underlying23 Tryz.underlying3 Tryz.typeInfo65 rfl rfl rfl rfl rfl rfl rfl (by omega) (by omega) (by unfold maxLen; omega) (by simp only [Tryz.t65]; omega) (fun b22 cap22 cs22 hb22 hn22 hc22 hl22 => ?_)
  refine LM.mv rfl ?_
  refine LM.val (ov_len Tryz.underlying23 rfl) ?_
  refine LM.val (ov_subHi Tryz.underlying23 Tryz.sizeOf65 rfl rfl (by omega) (by omega)) ?_
  refine LM.as rfl ?_
  refine LM.nil (QM.sub (e' := [(0, _)]) ⟨rfl, trivial⟩ (QM.then (wpM.seq (wpM.region ?_))))
  refine LM.mv rfl ?_
  refine LM.as rfl ?_
  refine LM.nil (QM.sub (e' := [(4, _)]) ⟨rfl, trivial⟩ (QM.then ?_))
  refine wpM.ret ?_
  refine QM.leave (.inl rfl) [.tmp 4] Tryz.results121 rfl ?_
  intro w' hm' hc' hg'
  exact ⟨hc', _, .void hb22 hc22 hl22, hm'⟩
 refine wpM.skip ?_
 refine QM.then (wpM.seq (wpM.region ?_))
 refine LM.mv rfl ?_
 refine LM.as rfl ?_
 refine LM.nil (QM.sub (e' := [(4, _)]) ⟨rfl, trivial⟩ (QM.then ?_))
 refine wpM.ret ?_
 refine QM.leave (.inl rfl) [.tmp 4] Tryz.results121 rfl ?_
 intro w' hm' hc' hg'
 exact ⟨hc', [], .nil _ _ _ _, Mem.nil _⟩
set_option maxRecDepth 100000 in
theorem concat_spec {L : List SlW} {ad : Option Addr} {n cap : Nat} (w : World) (hn : n = L.length) (hl : Sr fSl 1 L (.slice ad n cap) w) (hL : ∀ x ∈ L, x.n = x.xs.length ∧ Sr fW 4 x.xs (.slice x.ad x.n x.cap) w) (hz : (allW L).length ≤ 1000000) (hk : L.length ≤ 1000000) : Ret Tryz.prog 73 #[.slice ad n cap] w (New fW 65 4 (allW L) w) := by
 refine Ret.enterM (l := [.slice ad n cap]) Tryz.func73 rfl Tryz.ntmps73 rfl ([]) (no) (Mem.nil w) ?_
 refine wpM.seq (wpM.region ?_)
 refine LM.as rfl ?_
 refine LM.nil (QM.sub (e' := [(0, _)]) ⟨rfl, trivial⟩ (QM.then (wpM.seq (wpM.region ?_))))
 refine LM.as rfl ?_
 refine LM.nil (QM.sub (e' := [(0, _), (3, _)]) ⟨rfl, rfl, trivial⟩ (QM.then ?_))
 refine wpM.seq ?_
 refine wpM.seq (wpM.region ?_)
 refine LM.mv rfl ?_
 refine LM.val (ov_len Tryz.underlying176 rfl) ?_
 refine LM.mv rfl ?_
 refine LM.nil (QM.sub (e' := [(0, _), (3, _), (9, _), (10, _), (11, _)]) ⟨rfl, rfl, rfl, rfl, rfl, trivial⟩ (QM.then ?_))
 refine wpM.block ?_
 refine wpM.loopK0 (α := Nat) (fun i => [(3, .int .i64 ((allW (L.take i)).length : Nat)), (11, .int .i64 (i : Nat))]) [(0, _), (9, _), (10, _)] (fun i => []) (fun i => i ≤ L.length) (fun i => L.length - i) (0) ⟨au2, au2, rfl, rfl, rfl, trivial⟩ au1 (Nat.zero_le _) ?_
 rintro i hi
 change wpM _ _ _ _ _ _ _ ([]) _ _ _
 refine wpM.seq (wpM.region ?_)
 refine LM.val (ov_lss rfl rfl) ?_
 refine LM.nil (QM.sub (e' := [(0, _), (3, _), (9, _), (10, _), (11, _), (12, _)]) ⟨rfl, rfl, rfl, rfl, rfl, rfl, trivial⟩ (QM.then ?_))
 refine wpM.seq ?_
 refine wpM.condD rfl (fun h1 => ?_) (fun h1 => ?_)
 ·
  refine wpM.skip ?_
  refine QM.then ?_
  refine wpM.seq ?_
  refine wpM.block ?_
  refine wpM.seq (wpM.region ?_)
  refine LM.val (ov_idxSN au6 Tryz.underlying176 Tryz.sizeOf23 rfl rfl (by omega)) ?_
  first | refine LM.rd (om_sl1 (by assumption) (by intro _; rfl) Tryz.isAgg23 rfl rfl au3 (by rfl)) ?_ | refine LM.rdC (om_sr1 (by assumption) Tryz.isAgg23 rfl rfl au3 (by rfl) id) ?_ | refine LM.rd (om_ld Tryz.isAgg23 rfl rfl) ?_
  refine LM.as rfl ?_
  refine LM.nil (QM.sub (e' := [(0, _), (3, _), (5, _), (9, _), (10, _), (11, _)]) ⟨rfl, rfl, rfl, rfl, rfl, rfl, trivial⟩ (QM.then (wpM.seq (wpM.region ?_))))
  have hgi : L.getD i default ∈ L := (by rw [List.getD_eq_getElem?_getD, List.getElem?_eq_getElem (by omega)]; exact List.getElem_mem _); have hni := (hL _ hgi).1; have hsn := congrArg List.length (allW_snoc (L := L) (i := i) (by omega)); have hle := allW_le L (i + 1); rw [List.length_append] at hsn
  refine LM.mv rfl ?_
  refine LM.mv rfl ?_
  refine LM.val (ov_len Tryz.underlying23 rfl) ?_
  refine LM.val (ov_add64 rfl rfl (by omega)) ?_
  refine LM.as rfl ?_
  refine LM.nil (QM.sub (e' := [(0, _), (3, _), (9, _), (10, _), (11, _)]) ⟨rfl, rfl, rfl, rfl, rfl, trivial⟩ (QM.then (wpM.seq (wpM.region ?_))))
  refine LM.mv rfl ?_
  refine LM.val (ov_lss rfl rfl) ?_
  refine LM.nil (QM.sub (e' := [(0, _), (3, _), (9, _), (10, _), (11, _), (20, _)]) ⟨rfl, rfl, rfl, rfl, rfl, rfl, trivial⟩ (QM.then ?_))
  refine wpM.condD rfl (fun h2 => ?_) (fun h2 => ?_)
  ·
   exfalso; omega
  refine wpM.skip ?_
  refine QM.block_normal ?_
  refine QM.then (wpM.region ?_)
  refine LM.val (ov_add64 rfl rfl (by omega)) ?_
  refine LM.mv rfl ?_
  refine LM.nil (QM.sub (e' := [(0, _), (3, _), (9, _), (10, _), (11, _)]) ⟨rfl, rfl, rfl, rfl, rfl, trivial⟩ ?_)
  refine QM.againK (i + 1) ⟨au2, au2, rfl, rfl, rfl, trivial⟩ au1 (fun _ h => h) ?_ ?_
  · exact (by omega)
  · omega
 refine wpM.exit ?_
 refine QM.then_exit ?_
 refine QM.then_exit ?_
 refine QM.block_hit ?_
 refine QM.then (wpM.seq (wpM.region ?_))
 refine LM.mv rfl ?_
 refine LM.cS (oc_call (enters_fn Tryz.func121 (by kernel_rfl) rfl) rfl) (fun w hm hc hg => growW_spec (allW (L.take i)).length w (by have := allW_le L i; omega)) (fun ad24 n24 cap24 m24 hn24 hs24 => ?_)
 refine LM.as rfl ?_
 refine LM.nil (QM.sub (e' := [(0, _), (6, _)]) ⟨rfl, rfl, trivial⟩ (QM.then ?_))
 refine wpM.seq ?_
 refine wpM.seq (wpM.region ?_)
 refine LM.mv rfl ?_
 refine LM.val (ov_len Tryz.underlying176 rfl) ?_
 refine LM.mv rfl ?_
 refine LM.nil (QM.sub (e' := [(6, _), (25, _), (26, _), (27, _)]) ⟨rfl, rfl, rfl, rfl, trivial⟩ (QM.then ?_))
 refine wpM.block ?_
 refine wpM.loopK0 (α := Nat × Option Addr × Nat × Nat × Mem0) (fun ⟨i, ad6, n6, cap6, m6⟩ => [(6, .slice ad6 n6 cap6), (27, .int .i64 (i : Nat))]) [(25, _), (26, _)] (fun ⟨i, ad6, n6, cap6, m6⟩ => m6 ++ []) (fun ⟨i, ad6, n6, cap6, m6⟩ => i ≤ L.length ∧ n6 = (allW (L.take i)).length ∧ Sl fW 65 4 w.heap.size (allW (L.take i)) (.slice ad6 n6 cap6) m6) (fun ⟨i, ad6, n6, cap6, m6⟩ => L.length - i) ((0, ad24, n24, cap24, m24)) ⟨au2, au2, rfl, rfl, trivial⟩ au1 ⟨Nat.zero_le _, hn24, hs24⟩ ?_
 rintro ⟨i, ad6, n6, cap6, m6⟩ ⟨hi, hn6, hs6⟩
 change wpM _ _ _ _ _ _ _ (m6 ++ []) _ _ _
 refine wpM.seq (wpM.region ?_)
 refine LM.val (ov_lss rfl rfl) ?_
 refine LM.nil (QM.sub (e' := [(6, _), (25, _), (26, _), (27, _), (28, _)]) ⟨rfl, rfl, rfl, rfl, rfl, trivial⟩ (QM.then ?_))
 refine wpM.seq ?_
 refine wpM.condD rfl (fun h3 => ?_) (fun h3 => ?_)
 ·
  refine wpM.skip ?_
  refine QM.then ?_
  refine wpM.seq ?_
  refine wpM.block ?_
  refine wpM.seq (wpM.region ?_)
  refine LM.val (ov_idxSN au6 Tryz.underlying176 Tryz.sizeOf23 rfl rfl (by omega)) ?_
  first | refine LM.rd (om_sl1 (by assumption) (by intro _; rfl) Tryz.isAgg23 rfl rfl au3 (by rfl)) ?_ | refine LM.rdC (om_sr1 (by assumption) Tryz.isAgg23 rfl rfl au3 (by rfl) id) ?_ | refine LM.rd (om_ld Tryz.isAgg23 rfl rfl) ?_
  refine LM.as rfl ?_
  refine LM.nil (QM.sub (e' := [(6, _), (8, _), (25, _), (26, _), (27, _)]) ⟨rfl, rfl, rfl, rfl, rfl, trivial⟩ (QM.then (wpM.region ?_)))
  have hgi : L.getD i default ∈ L := (by rw [List.getD_eq_getElem?_getD, List.getElem?_eq_getElem (by omega)]; exact List.getElem_mem _); have hni := (hL _ hgi).1; have hsn := congrArg List.length (allW_snoc (L := L) (i := i) (by omega)); have hle := allW_le L (i + 1); rw [List.length_append] at hsn
  refine LM.mv rfl ?_
  refine LM.mv rfl ?_
  refine LM.appN (ys := (L.getD i default).xs) Tryz.underlying23 Tryz.typeInfo65 rfl rfl rfl rfl rfl rfl rfl hs6 (fun w hm hc hg => (hL _ hgi).2.ext hc) (by intro _; rfl) (by intro _ u hu; simp [fW] at hu; (repeat (first | (rcases hu with rfl | hu) | subst hu | rfl))) (Nat.le_refl _) (fun p hp hlt => absurd hlt (Nat.not_lt_of_le (Sl.ge hs6 p hp))) (by unfold maxLen; omega) (by simp only [Tryz.t65]; omega) (fun ad33 n33 cap33 m33 hn33 hs33 hin33 => ?_)
  refine LM.as rfl ?_
  refine LM.nil (QM.sub (e' := [(6, _), (25, _), (26, _), (27, _)]) ⟨rfl, rfl, rfl, rfl, trivial⟩ ?_)
  refine QM.block_normal ?_
  refine QM.then (wpM.region ?_)
  refine LM.val (ov_add64 rfl rfl (by omega)) ?_
  refine LM.mv rfl ?_
  refine LM.nil (QM.sub (e' := [(6, _), (25, _), (26, _), (27, _)]) ⟨rfl, rfl, rfl, rfl, trivial⟩ ?_)
  refine QM.againK ((i + 1, ad33, n33, cap33, m33)) ⟨au2, au2, rfl, rfl, trivial⟩ au1 (fun _ h => h) ?_ ?_
  · exact ⟨by omega, by rw [allW_snoc (by omega), List.length_append]; exact hn33, by rw [allW_snoc (by omega)]; exact hs33⟩
  · first | omega | (dsimp only; omega)
 refine wpM.exit ?_
 refine QM.then_exit ?_
 refine QM.then_exit ?_
 refine QM.block_hit ?_
 refine QM.then (wpM.seq (wpM.region ?_))
 refine LM.mv rfl ?_
 refine LM.as rfl ?_
 refine LM.nil (QM.sub (e' := [(2, _)]) ⟨rfl, trivial⟩ (QM.then ?_))
 refine wpM.ret ?_
 refine QM.leave (.inl rfl) [.tmp 2] Tryz.results73 rfl ?_
 intro w' hm' hc' hg'
 exact ⟨hc', m6, by (have he : i = L.length := by omega); rw [he, List.take_length] at hs6; exact hs6, hm'.pick _⟩
theorem acts_text (l : List Act) : ∀ x ∈ l.flatMap actW, x.t.length ≤ 7 := by
  intro x hx; obtain ⟨o, _, ho⟩ := List.mem_flatMap.1 hx; exact actW_text o x ho
theorem setW_t (s : StC) (l : List Act) : ∀ x ∈ setW s ++ l.flatMap actW, x.t.length ≤ 7 := by
  intro x hx
  rcases List.mem_append.1 hx with h | h
  · exact setW_text s x h
  · exact acts_text l x h
set_option maxRecDepth 100000 in
theorem xprint_spec {x : ScV} (w : World) (hX : x.In w) (hT : Tb w) : Ret Tryz.prog 28 #[x.val] w (fun v w' => v = .tuple #[vS (printX x.sv.C x.xs).1, .int .i64 (printX x.sv.C x.xs).2] ∧ Ext w w') := by
 refine Ret.enterM (l := [x.val]) Tryz.func28 rfl Tryz.ntmps28 rfl ([]) (no) (Mem.nil w) ?_
 refine wpM.seq (wpM.region ?_)
 refine LM.box rfl rfl (fun b1 hb1 => ?_)
 refine LM.as rfl ?_
 refine LM.as rfl ?_
 refine LM.nil (QM.sub (e' := [(1, _)]) ⟨rfl, trivial⟩ (QM.then ?_))
 refine wpM.seq ?_
 refine wpM.seq (wpM.region ?_)
 refine LM.rd (om_ldW Tryz.isAgg49 Tryz.sizeOf49 rfl rfl) ?_
 refine LM.callE (oc_call (enters_fn Tryz.func27 (by kernel_rfl) rfl) rfl) (fun w hm hc hg => xmay_spec w (hX.ext hc)) ?_
 first | refine LM.val (ov_notD rfl) ?_ | refine LM.val (ov_not rfl) ?_
 refine LM.nil (QM.sub (e' := [(1, _), (10, _)]) ⟨rfl, rfl, trivial⟩ (QM.then ?_))
 first | refine wpM.condD rfl (fun h1 => ?_) (fun h1 => ?_) | refine wpM.condB rfl (fun h1 => ?_) (fun h1 => ?_)
 ·
  refine wpM.seq (wpM.region ?_)
  refine LM.as rfl ?_
  refine LM.as rfl ?_
  refine LM.nil (QM.sub (e' := [(2, _), (3, _)]) ⟨rfl, rfl, trivial⟩ (QM.then ?_))
  refine wpM.ret ?_
  refine QM.then_ret ?_
  refine QM.leave (.inl rfl) [.tmp 2, .tmp 3] Tryz.results28 rfl ?_
  intro w' hm' hc' hg'
  refine ⟨?_, hc'⟩; unfold printX; rw [if_neg (by simpa using h1)]; rfl
 have hmX : mayX x.sv.C x.xs = true := (by simpa using h1); have hmS : mayS x.sv.C = true := (by unfold mayX at hmX; simp only [Bool.and_eq_true] at hmX; exact hmX.1); have hmA : mayA x.xs = true := (by unfold mayX at hmX; simp only [Bool.and_eq_true] at hmX; exact hmX.2); have hla := mayA_len hmA
 refine wpM.skip ?_
 refine QM.then (wpM.seq (wpM.region ?_))
 refine LM.val (ov_field Tryz.underlying49 rfl Tryz.sizeOf30 rfl (k := 0) rfl rfl) ?_
 first | refine LM.rd (om_ldW Tryz.isAgg30 Tryz.sizeOf30 rfl rfl) ?_ | refine LM.rd (om_ldA Tryz.isAgg30 Tryz.sizeOf30 rfl (vs := [_, _, _, _, _]) rfl ⟨rfl, rfl, rfl, rfl, rfl, trivial⟩) ?_
 refine LM.callT (oc_call (enters_fn Tryz.func18 (by kernel_rfl) rfl) rfl) WoT.mono (fun w hm hc hg => swords_spec w (hX.st.ext hc)) ?_
 rw [show wordsS x.sv.C = (setW x.sv.C, 0) by unfold wordsS; rw [if_pos hmS]]; rintro u14 m14 ⟨ad14, n14, cap14, rfl, hn14, hs14⟩ -
 refine LM.mv rfl ?_
 refine LM.val (ov_extract rfl rfl) ?_
 refine LM.val (ov_extract rfl rfl) ?_
 refine LM.as rfl ?_
 refine LM.as rfl ?_
 refine LM.nil (QM.sub (e' := [(1, _), (4, _)]) ⟨rfl, rfl, trivial⟩ (QM.then (wpM.seq (wpM.region ?_))))
 refine LM.val (ov_field Tryz.underlying49 rfl Tryz.sizeOf47 rfl (k := 5) rfl rfl) ?_
 refine LM.rd (om_ld Tryz.isAgg47 rfl rfl) ?_
 refine LM.callT (oc_call (enters_fn Tryz.func72 (by kernel_rfl) rfl) rfl) WoT.mono (fun w hm hc hg => awords_spec w hX.hn (hX.hx.ext hc) (by omega)) ?_
 rw [mayA_words hmA]; rintro u20 m20 ⟨ad20, n20, cap20, rfl, hn20, hs20⟩ -
 refine LM.mv rfl ?_
 refine LM.val (ov_extract rfl rfl) ?_
 refine LM.val (ov_extract rfl rfl) ?_
 refine LM.as rfl ?_
 refine LM.as rfl ?_
 refine LM.nil (QM.sub (e' := [(4, _), (6, _)]) ⟨rfl, rfl, trivial⟩ (QM.then (wpM.seq (wpM.region ?_))))
 refine LM.mv rfl ?_
 refine LM.mv rfl ?_
 refine LM.row (vs := [_, _]) Tryz.underlying176 Tryz.sizeOf23 Tryz.zeroValue23 rfl rfl rfl rfl rfl rfl (fun b25 hb25 => ?_)
 have hs25 : Sl fSl 23 1 w.heap.size [⟨ad14, n14, cap14, setW x.sv.C⟩, ⟨ad20, n20, cap20, x.xs.flatMap actW⟩] (.slice (some ⟨b25, 0, none⟩) 2 2) [(b25, .cells (arr fSl [⟨ad14, n14, cap14, setW x.sv.C⟩, ⟨ad20, n20, cap20, x.xs.flatMap actW⟩] []) 23 (0, 0))] := .inr ⟨b25, 2, [], hb25, rfl, rfl, Nat.le_refl 2, by unfold maxLen; decide, rfl⟩; have hlA := flatA_len x.xs; have hlS := setW_len hmS; have hlW : (allW [⟨ad14, n14, cap14, setW x.sv.C⟩, ⟨ad20, n20, cap20, x.xs.flatMap actW⟩]).length = (setW x.sv.C).length + (x.xs.flatMap actW).length := (by simp [allW])
 refine LM.cS (oc_call (enters_fn Tryz.func73 (by kernel_rfl) rfl) rfl) (fun w hm hc hg => concat_spec (L := [⟨ad14, n14, cap14, setW x.sv.C⟩, ⟨ad20, n20, cap20, x.xs.flatMap actW⟩]) w rfl (by have hm2 : Mem w ((b25, .cells (arr fSl [⟨ad14, n14, cap14, setW x.sv.C⟩, ⟨ad20, n20, cap20, x.xs.flatMap actW⟩] []) 23 (0, 0)) :: _) := hm; exact hs25.srM (by intro _; rfl) hm2) (by intro p hp; simp only [List.mem_cons, List.not_mem_nil, or_false] at hp; rcases hp with rfl | rfl; exact ⟨hn14, hs14.srM (by intro _; rfl) hm⟩; exact ⟨hn20, hs20.srM (by intro _; rfl) hm⟩) (by rw [hlW]; omega) (by show 2 ≤ 1000000; decide)) (fun ad26 n26 cap26 m26 hn26 hs26 => ?_)
 refine LM.callE (oc_call (enters_fn Tryz.func54 (by kernel_rfl) rfl) rfl) (fun w hm hc hg => join_spec (ws := setW x.sv.C ++ x.xs.flatMap actW) w (by rw [hn26]; simp [allW]) (by rw [List.length_append]; omega) (by have he : allW [⟨ad14, n14, cap14, setW x.sv.C⟩, ⟨ad20, n20, cap20, x.xs.flatMap actW⟩] = setW x.sv.C ++ x.xs.flatMap actW := (by simp [allW]); rw [← he]; exact hs26.srM (by intro _; rfl) hm) (by intro y hy; have := setW_t _ _ y hy; omega) (hT.ext hc)) ?_
 refine LM.val (ov_extract rfl rfl) ?_
 refine LM.val (ov_extract rfl rfl) ?_
 refine LM.as rfl ?_
 refine LM.as rfl ?_
 refine LM.nil (QM.sub (e' := [(2, _), (3, _)]) ⟨rfl, rfl, trivial⟩ (QM.then ?_))
 refine wpM.ret ?_
 refine QM.leave (.inl rfl) [.tmp 2, .tmp 3] Tryz.results28 rfl ?_
 intro w' hm' hc' hg'
 refine ⟨?_, hc'⟩; unfold printX; rw [if_pos hmX]; rfl
end Go.Eng
namespace Go.Eng
open Go Go.Proofs Go.RowKit
def aw14L : List UInt8 := [99, 111, 114, 101, 115, 32, 49, 59, 32, 103, 114, 97, 105, 110, 32, 49, 59, 32, 103, 114, 111, 117, 112, 32, 49, 59, 32, 112, 114, 111, 103, 32, 123, 32, 101, 120, 105, 116, 59, 32, 125, 32, 115, 112, 97, 119, 110, 32, 48, 32, 48, 32, 49, 32, 48, 59, 32, 116, 105, 99, 107, 32, 48, 59]
def aw14M : List UInt8 := [99, 111, 114, 101, 115, 32, 49, 59, 32, 103, 114, 97, 105, 110, 32, 49, 59, 32, 103, 114, 111, 117, 112, 32, 49, 59, 32, 112, 114, 111, 103, 32, 123, 32, 101, 120, 105, 116, 59, 32, 125, 32, 115, 112, 97, 119, 110, 32, 48, 32, 48, 32, 49, 32, 48, 59, 32, 116, 105, 99, 107, 32, 48, 59, 32, 120]
def aw14S : StC := ⟨1, 1, [1], [], [⟨false, [⟨11, 0, 0⟩]⟩]⟩
def aw14A : List Act := [⟨4, 0, 0, 1, 0⟩, ⟨1, 0, 0, 0, 0⟩]
theorem aw14_1 : scriptO aw14L = (aw14S, aw14A, 0, 0) := by decide +kernel
theorem aw14_2 : scriptO aw14M = (default, [], 65, 5) := by decide +kernel
theorem aw14_pr : printX aw14S aw14A = (aw14L, 0) := by decide +kernel
theorem aw14_may : mayX aw14S aw14A = true := by decide +kernel
theorem same_refl {x y : ScV} (h : x.sv.C = y.sv.C) (h2 : x.xs = y.xs) : x.same y = true := by
  unfold ScV.same; rw [decide_eq_true h, decide_eq_true h2]; rfl
set_option maxRecDepth 100000 in
set_option maxHeartbeats 2000000 in
theorem awake14_spec (w : World) (hT : Tb w) : Ret Tryz.prog 23 #[] w (fun v w' => v = .bool true ∧ Ext w w') := by
 refine Ret.enterM (l := []) Tryz.func23 rfl Tryz.ntmps23 rfl ([]) (no) (Mem.nil w) ?_
 refine wpM.seq (wpM.region ?_)
 refine LM.as rfl ?_
 refine LM.nil (QM.sub (e' := []) trivial (QM.then (wpM.seq (wpM.region ?_))))
 refine LM.callT (oc_call (enters_fn Tryz.func24 (by kernel_rfl) rfl) rfl) SpT.mono (fun w hm hc hg => script_spec aw14L w (by decide)) ?_
 rw [aw14_1]; rintro u10 m10 ⟨xa, rfl, hxs, hxa, hin⟩ -
 refine LM.mv rfl ?_
 refine LM.val (ov_extract rfl rfl) ?_
 refine LM.val (ov_extract rfl rfl) ?_
 refine LM.val (ov_extract rfl rfl) ?_
 refine LM.alloc Tryz.zeroValue49 rfl (fun b1 hb1 => ?_)
 refine LM.stW Tryz.sizeOf49 rfl rfl rfl rfl au7 au8 ?_
 refine LM.as rfl ?_
 refine LM.as rfl ?_
 refine LM.nil (QM.sub (e' := [(1, _), (2, _), (3, _)]) ⟨rfl, rfl, rfl, trivial⟩ (QM.then (wpM.seq (wpM.region ?_))))
 refine LM.rd (om_ldW Tryz.isAgg49 Tryz.sizeOf49 rfl rfl) ?_
 refine LM.callE (oc_call (enters_fn Tryz.func28 (by kernel_rfl) rfl) rfl) (fun w hm hc hg => (show printX xa.sv.C xa.xs = (aw14L, 0) by rw [hxs, hxa]; exact aw14_pr) ▸ xprint_spec w (hin w (hm.pick m10)) (hT.ext hc)) ?_
 refine LM.mv rfl ?_
 refine LM.val (ov_extract rfl rfl) ?_
 refine LM.val (ov_extract rfl rfl) ?_
 refine LM.as rfl ?_
 refine LM.as rfl ?_
 refine LM.nil (QM.sub (e' := [(1, _), (2, _), (3, _), (4, _), (5, _)]) ⟨rfl, rfl, rfl, rfl, rfl, trivial⟩ (QM.then (wpM.seq (wpM.region ?_))))
 refine LM.callT (oc_call (enters_fn Tryz.func24 (by kernel_rfl) rfl) rfl) SpT.mono (fun w hm hc hg => script_spec aw14M w (by decide)) ?_
 rw [aw14_2]; rintro u20 m20 ⟨xb, rfl, hxs2, hxa2, hin2⟩ -
 refine LM.mv rfl ?_
 refine LM.val (ov_extract rfl rfl) ?_
 refine LM.val (ov_extract rfl rfl) ?_
 refine LM.val (ov_extract rfl rfl) ?_
 refine LM.alloc Tryz.zeroValue49 rfl (fun b6 hb6 => ?_)
 refine LM.stW Tryz.sizeOf49 rfl rfl rfl rfl au7 au8 ?_
 refine LM.as rfl ?_
 refine LM.as rfl ?_
 refine LM.nil (QM.sub (e' := [(1, _), (2, _), (3, _), (4, _), (5, _), (7, _), (8, _)]) ⟨rfl, rfl, rfl, rfl, rfl, rfl, rfl, trivial⟩ (QM.then (wpM.seq (wpM.region ?_))))
 refine LM.mv rfl ?_
 refine LM.val (ov_eql rfl rfl) ?_
 refine LM.mv rfl ?_
 refine LM.splitD (t := 26) rfl (fun h1 => ?_) (fun h1 => ?_)
 ·
  refine LM.sp 26 rfl rfl rfl ?_
  refine LM.mv rfl ?_
  refine LM.sp 26 rfl rfl rfl ?_
  refine LM.val (ov_eql rfl rfl) ?_
  refine LM.val (ov_pickT rfl rfl) ?_
  refine LM.mv rfl ?_
  refine LM.splitD (t := 30) rfl (fun h2 => ?_) (fun h2 => ?_)
  ·
   refine LM.sp 30 rfl rfl rfl ?_
   refine LM.mv rfl ?_
   refine LM.sp 30 rfl rfl rfl ?_
   refine LM.val (ov_eql rfl rfl) ?_
   refine LM.val (ov_pickT rfl rfl) ?_
   refine LM.mv rfl ?_
   refine LM.splitD (t := 34) rfl (fun h3 => ?_) (fun h3 => ?_)
   ·
    refine LM.sp 34 rfl rfl rfl ?_
    refine LM.mv rfl ?_
    refine LM.sp 34 rfl rfl rfl ?_
    refine LM.val (ov_seqlL rfl rfl) ?_
    refine LM.val (ov_pickT rfl rfl) ?_
    refine LM.mv rfl ?_
    refine LM.splitD (t := 38) rfl (fun h4 => ?_) (fun h4 => ?_)
    ·
     refine LM.sp 38 rfl rfl rfl ?_
     refine LM.val (ov_field Tryz.underlying49 rfl Tryz.sizeOf47 rfl (k := 5) rfl rfl) ?_
     refine LM.sp 38 rfl rfl rfl ?_
     refine LM.rd (om_ld Tryz.isAgg47 rfl rfl) ?_
     refine LM.sp 38 rfl rfl rfl ?_
     refine LM.val (ov_len Tryz.underlying47 rfl) ?_
     refine LM.sp 38 rfl rfl rfl ?_
     refine LM.val (ov_eql rfl rfl) ?_
     refine LM.val (ov_pickT rfl rfl) ?_
     refine LM.mv rfl ?_
     refine LM.splitD (t := 44) rfl (fun h5 => ?_) (fun h5 => ?_)
     ·
      refine LM.sp 44 rfl rfl rfl ?_
      refine LM.rd (om_ldW Tryz.isAgg49 Tryz.sizeOf49 rfl rfl) ?_
      refine LM.sp 44 rfl rfl rfl ?_
      refine LM.callE (oc_call (enters_fn Tryz.func27 (by kernel_rfl) rfl) rfl) (fun w hm hc hg => (show mayX xa.sv.C xa.xs = true by rw [hxs, hxa]; exact aw14_may) ▸ xmay_spec w (hin w (hm.pick m10))) ?_
      refine LM.val (ov_pickT rfl rfl) ?_
      refine LM.mv rfl ?_
      first | refine LM.splitD (t := 48) rfl (fun h6 => ?_) (fun h6 => ?_) | refine LM.splitB (t := 48) rfl (fun h6 => ?_) (fun h6 => ?_)
      ·
       refine LM.sp 48 rfl rfl rfl ?_
       refine LM.mv rfl ?_
       refine LM.sp 48 rfl rfl rfl ?_
       refine LM.val (ov_eql rfl rfl) ?_
       refine LM.val (ov_pickT rfl rfl) ?_
       refine LM.mv rfl ?_
       refine LM.splitD (t := 52) rfl (fun h7 => ?_) (fun h7 => ?_)
       ·
        refine LM.sp 52 rfl rfl rfl ?_
        refine LM.mv rfl ?_
        refine LM.sp 52 rfl rfl rfl ?_
        refine LM.val (ov_eql rfl rfl) ?_
        refine LM.val (ov_pickT rfl rfl) ?_
        refine LM.as rfl ?_
        refine LM.nil (QM.sub (e' := [(0, _)]) ⟨rfl, trivial⟩ (QM.then ?_))
        refine wpM.ret ?_
        refine QM.leave (.inl rfl) [.tmp 0] Tryz.results23 rfl ?_
        intro w' hm' hc' hg'
        exact ⟨rfl, hc'⟩
       refine LM.dr 52 rfl rfl rfl ?_
       refine LM.dr 52 rfl rfl rfl ?_
       refine LM.val (ov_pickF rfl rfl) ?_
       refine LM.as rfl ?_
       refine LM.nil (QM.sub (e' := [(0, _)]) ⟨rfl, trivial⟩ (QM.then ?_))
       refine wpM.ret ?_
       refine QM.leave (.inl rfl) [.tmp 0] Tryz.results23 rfl ?_
       intro w' hm' hc' hg'
       first | exact ⟨rfl, hc'⟩ | (exfalso; first | omega | (simp at *; done) | (simp_all; done))
      refine LM.dr 48 rfl rfl rfl ?_
      refine LM.dr 48 rfl rfl rfl ?_
      refine LM.val (ov_pickF rfl rfl) ?_
      refine LM.mv rfl ?_
      refine LM.dr 52 rfl rfl rfl ?_
      refine LM.dr 52 rfl rfl rfl ?_
      refine LM.val (ov_pickF rfl rfl) ?_
      refine LM.as rfl ?_
      refine LM.nil (QM.sub (e' := [(0, _)]) ⟨rfl, trivial⟩ (QM.then ?_))
      refine wpM.ret ?_
      refine QM.leave (.inl rfl) [.tmp 0] Tryz.results23 rfl ?_
      intro w' hm' hc' hg'
      first | exact ⟨rfl, hc'⟩ | (exfalso; first | omega | (simp at *; done) | (simp_all; done))
     refine LM.dr 44 rfl rfl rfl ?_
     refine LM.dr 44 rfl rfl rfl ?_
     refine LM.val (ov_pickF rfl rfl) ?_
     refine LM.mv rfl ?_
     refine LM.dr 48 rfl rfl rfl ?_
     refine LM.dr 48 rfl rfl rfl ?_
     refine LM.val (ov_pickF rfl rfl) ?_
     refine LM.mv rfl ?_
     refine LM.dr 52 rfl rfl rfl ?_
     refine LM.dr 52 rfl rfl rfl ?_
     refine LM.val (ov_pickF rfl rfl) ?_
     refine LM.as rfl ?_
     refine LM.nil (QM.sub (e' := [(0, _)]) ⟨rfl, trivial⟩ (QM.then ?_))
     refine wpM.ret ?_
     refine QM.leave (.inl rfl) [.tmp 0] Tryz.results23 rfl ?_
     intro w' hm' hc' hg'
     have hq := (hin w' (hm'.pick m10)).hn; rw [hxa] at hq; exact absurd (by rw [hq]; rfl) h5
    refine LM.dr 38 rfl rfl rfl ?_
    refine LM.dr 38 rfl rfl rfl ?_
    refine LM.dr 38 rfl rfl rfl ?_
    refine LM.dr 38 rfl rfl rfl ?_
    refine LM.val (ov_pickF rfl rfl) ?_
    refine LM.mv rfl ?_
    refine LM.dr 44 rfl rfl rfl ?_
    refine LM.dr 44 rfl rfl rfl ?_
    refine LM.val (ov_pickF rfl rfl) ?_
    refine LM.mv rfl ?_
    refine LM.dr 48 rfl rfl rfl ?_
    refine LM.dr 48 rfl rfl rfl ?_
    refine LM.val (ov_pickF rfl rfl) ?_
    refine LM.mv rfl ?_
    refine LM.dr 52 rfl rfl rfl ?_
    refine LM.dr 52 rfl rfl rfl ?_
    refine LM.val (ov_pickF rfl rfl) ?_
    refine LM.as rfl ?_
    refine LM.nil (QM.sub (e' := [(0, _)]) ⟨rfl, trivial⟩ (QM.then ?_))
    refine wpM.ret ?_
    refine QM.leave (.inl rfl) [.tmp 0] Tryz.results23 rfl ?_
    intro w' hm' hc' hg'
    exact absurd rfl h4
   refine LM.dr 34 rfl rfl rfl ?_
   refine LM.dr 34 rfl rfl rfl ?_
   refine LM.val (ov_pickF rfl rfl) ?_
   refine LM.mv rfl ?_
   refine LM.dr 38 rfl rfl rfl ?_
   refine LM.dr 38 rfl rfl rfl ?_
   refine LM.dr 38 rfl rfl rfl ?_
   refine LM.dr 38 rfl rfl rfl ?_
   refine LM.val (ov_pickF rfl rfl) ?_
   refine LM.mv rfl ?_
   refine LM.dr 44 rfl rfl rfl ?_
   refine LM.dr 44 rfl rfl rfl ?_
   refine LM.val (ov_pickF rfl rfl) ?_
   refine LM.mv rfl ?_
   refine LM.dr 48 rfl rfl rfl ?_
   refine LM.dr 48 rfl rfl rfl ?_
   refine LM.val (ov_pickF rfl rfl) ?_
   refine LM.mv rfl ?_
   refine LM.dr 52 rfl rfl rfl ?_
   refine LM.dr 52 rfl rfl rfl ?_
   refine LM.val (ov_pickF rfl rfl) ?_
   refine LM.as rfl ?_
   refine LM.nil (QM.sub (e' := [(0, _)]) ⟨rfl, trivial⟩ (QM.then ?_))
   refine wpM.ret ?_
   refine QM.leave (.inl rfl) [.tmp 0] Tryz.results23 rfl ?_
   intro w' hm' hc' hg'
   first | exact ⟨rfl, hc'⟩ | (exfalso; first | omega | (simp at *; done) | (simp_all; done))
  refine LM.dr 30 rfl rfl rfl ?_
  refine LM.dr 30 rfl rfl rfl ?_
  refine LM.val (ov_pickF rfl rfl) ?_
  refine LM.mv rfl ?_
  refine LM.dr 34 rfl rfl rfl ?_
  refine LM.dr 34 rfl rfl rfl ?_
  refine LM.val (ov_pickF rfl rfl) ?_
  refine LM.mv rfl ?_
  refine LM.dr 38 rfl rfl rfl ?_
  refine LM.dr 38 rfl rfl rfl ?_
  refine LM.dr 38 rfl rfl rfl ?_
  refine LM.dr 38 rfl rfl rfl ?_
  refine LM.val (ov_pickF rfl rfl) ?_
  refine LM.mv rfl ?_
  refine LM.dr 44 rfl rfl rfl ?_
  refine LM.dr 44 rfl rfl rfl ?_
  refine LM.val (ov_pickF rfl rfl) ?_
  refine LM.mv rfl ?_
  refine LM.dr 48 rfl rfl rfl ?_
  refine LM.dr 48 rfl rfl rfl ?_
  refine LM.val (ov_pickF rfl rfl) ?_
  refine LM.mv rfl ?_
  refine LM.dr 52 rfl rfl rfl ?_
  refine LM.dr 52 rfl rfl rfl ?_
  refine LM.val (ov_pickF rfl rfl) ?_
  refine LM.as rfl ?_
  refine LM.nil (QM.sub (e' := [(0, _)]) ⟨rfl, trivial⟩ (QM.then ?_))
  refine wpM.ret ?_
  refine QM.leave (.inl rfl) [.tmp 0] Tryz.results23 rfl ?_
  intro w' hm' hc' hg'
  first | exact ⟨rfl, hc'⟩ | (exfalso; first | omega | (simp at *; done) | (simp_all; done))
 refine LM.dr 26 rfl rfl rfl ?_
 refine LM.dr 26 rfl rfl rfl ?_
 refine LM.val (ov_pickF rfl rfl) ?_
 refine LM.mv rfl ?_
 refine LM.dr 30 rfl rfl rfl ?_
 refine LM.dr 30 rfl rfl rfl ?_
 refine LM.val (ov_pickF rfl rfl) ?_
 refine LM.mv rfl ?_
 refine LM.dr 34 rfl rfl rfl ?_
 refine LM.dr 34 rfl rfl rfl ?_
 refine LM.val (ov_pickF rfl rfl) ?_
 refine LM.mv rfl ?_
 refine LM.dr 38 rfl rfl rfl ?_
 refine LM.dr 38 rfl rfl rfl ?_
 refine LM.dr 38 rfl rfl rfl ?_
 refine LM.dr 38 rfl rfl rfl ?_
 refine LM.val (ov_pickF rfl rfl) ?_
 refine LM.mv rfl ?_
 refine LM.dr 44 rfl rfl rfl ?_
 refine LM.dr 44 rfl rfl rfl ?_
 refine LM.val (ov_pickF rfl rfl) ?_
 refine LM.mv rfl ?_
 refine LM.dr 48 rfl rfl rfl ?_
 refine LM.dr 48 rfl rfl rfl ?_
 refine LM.val (ov_pickF rfl rfl) ?_
 refine LM.mv rfl ?_
 refine LM.dr 52 rfl rfl rfl ?_
 refine LM.dr 52 rfl rfl rfl ?_
 refine LM.val (ov_pickF rfl rfl) ?_
 refine LM.as rfl ?_
 refine LM.nil (QM.sub (e' := [(0, _)]) ⟨rfl, trivial⟩ (QM.then ?_))
 refine wpM.ret ?_
 refine QM.leave (.inl rfl) [.tmp 0] Tryz.results23 rfl ?_
 intro w' hm' hc' hg'
 first | exact ⟨rfl, hc'⟩ | (exfalso; first | omega | (simp at *; done) | (simp_all; done))
end Go.Eng
namespace Go.Eng
open Go Go.Proofs Go.RowKit
/-! one word, from its text on -/
end Go.Eng
namespace Go.Eng
open Go Go.RowKit
section
variable (ws : List Wrd)
end
/-! the words of a script -/
/-! what may be can be printed -/
end Go.Eng
