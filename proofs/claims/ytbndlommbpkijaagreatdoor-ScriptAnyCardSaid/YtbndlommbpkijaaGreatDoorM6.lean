/- The walks of the program's reader of setups. No condition. -/
import Derived.Test.YtbndlommbpkijaaGreatDoorM5
import Derived.Test.YtbndlommbpkijaaGreatDoorM2
import Derived.Lib.AtoiErrMem
set_option linter.unusedVariables false
set_option linter.unusedSimpArgs false
namespace Go.Eng
open Go Go.Proofs Go.RowKit
abbrev tO (ad : Option Addr) (n cap : Nat) (i : Nat) (e : Int) : Obj := .cells #[.slice ad n cap, .int .i64 (i : Nat), .int .i64 e] 70 (0, 0)
abbrev tB (b : Nat) (ad : Option Addr) (n cap : Nat) (i : Nat) (e : Int) : Nat × Obj := (b, tO ad n cap i e)
def GpT (r : List Int × Nat × Int) (n0 : Nat) (v : Value) (m : Mem0) : Prop := ∃ gs ad n cap, v = .slice ad n cap ∧ n = gs.length ∧ Sl fI 3 1 n0 gs (.slice ad n cap) m ∧ (r.2.2 = 0 → gs = r.1)
theorem GpT.mono {r : List Int × Nat × Int} : ∀ (k k' : Nat) u m, k' ≤ k → GpT r k u m → GpT r k' u m := fun k k' u m h ⟨gs, ad, n, cap, h1, h2, h3, h4⟩ => ⟨gs, ad, n, cap, h1, h2, h3.mono h, h4⟩
def LkT (r : List CLk × Nat × Int) (n0 : Nat) (v : Value) (m : Mem0) : Prop := ∃ ad n cap, v = .slice ad n cap ∧ n = r.1.length ∧ Sl fL 63 5 n0 r.1 (.slice ad n cap) m
theorem LkT.mono {r : List CLk × Nat × Int} : ∀ (k k' : Nat) u m, k' ≤ k → LkT r k u m → LkT r k' u m := fun k k' u m h ⟨ad, n, cap, h1, h2, h3⟩ => ⟨ad, n, cap, h1, h2, h3.mono h⟩
def PgT (r : List PgC × List Int × Nat × Int) (n0 : Nat) (v : Value) (m : Mem0) : Prop := ∃ (ps : List PgV) (ad : Option Addr) (n cap : Nat) (adq : Option Addr) (nq cq : Nat) (mp mq mo : Mem0), v = .tuple #[.slice ad n cap, .slice adq nq cq] ∧ ps.map PgV.c = r.1 ∧ n = ps.length ∧ ps.length ≤ 8 ∧ nq = r.2.1.length ∧ r.2.1.length = ps.length ∧ m = mo ++ (mp ++ (mq ++ [])) ∧
  Sl fPg 87 2 n0 ps (.slice ad n cap) mp ∧ Sl fI 3 1 n0 r.2.1 (.slice adq nq cq) mq ∧ (∀ w, Mem w mo → PgsIn ps w) ∧ (∀ p ∈ mo, n0 ≤ p.1)
theorem PgT.mono {r : List PgC × List Int × Nat × Int} : ∀ (k k' : Nat) u m, k' ≤ k → PgT r k u m → PgT r k' u m := fun k k' u m h ⟨ps, ad, n, cap, adq, nq, cq, mp, mq, mo, h1, h2, h3, h4, h5, h6, h7, h8, h9, h10, h11⟩ => ⟨ps, ad, n, cap, adq, nq, cq, mp, mq, mo, h1, h2, h3, h4, h5, h6, h7, h8.mono h, h9.mono h, h10, fun p hp => Nat.le_trans h (h11 p hp)⟩
set_option maxRecDepth 100000 in
theorem tfail_spec (b : Nat) {ad : Option Addr} {n cap : Nat} (i : Nat) (e0 e : Int) (w : World) (hM : Mem w [tB b ad n cap i e0]) : Ret Tryz.prog 81 #[.pointer (some ⟨b, 0, none⟩), .int .i64 e] w (WrP b (.tuple #[]) (tO ad n cap i (if e0 = 0 then e else e0)) w) := by
 refine Ret.enterM (l := [.pointer (some ⟨b, 0, none⟩), .int .i64 e]) Tryz.func81 rfl Tryz.ntmps81 rfl ([tB b ad n cap i e0]) ((fun x => x = b)) hM ?_
 refine wpM.seq (wpM.region ?_)
 refine LM.mv rfl ?_
 refine LM.val (ov_nilCheck rfl) ?_
 refine LM.val (ov_field Tryz.underlying70 rfl Tryz.sizeOf31 rfl (k := 2) rfl rfl) ?_
 refine LM.rd (om_ld Tryz.isAgg31 rfl rfl) ?_
 refine LM.val (ov_eql rfl rfl) ?_
 refine LM.nil (QM.sub (e' := [(0, _), (1, _), (8, _)]) ⟨rfl, rfl, rfl, trivial⟩ (QM.then ?_))
 refine wpM.condD rfl (fun h1 => ?_) (fun h1 => ?_)
 ·
  refine wpM.region ?_
  refine LM.mv rfl ?_
  refine LM.mv rfl ?_
  refine LM.val (ov_nilCheck rfl) ?_
  refine LM.val (ov_field Tryz.underlying70 rfl Tryz.sizeOf31 rfl (k := 2) rfl rfl) ?_
  refine LM.st Tryz.sizeOf31 rfl rfl rfl au5 rfl (fun _ => rfl) ?_
  refine LM.nil (QM.sub (e' := []) trivial ?_)
  refine QM.leave (.inr rfl) [] Tryz.results81 rfl ?_
  intro w' hm' hc' hg'
  refine ⟨rfl, hc', ?_⟩; rw [if_pos h1]; exact hm'.at b
 refine wpM.skip ?_
 refine QM.leave (.inr rfl) [] Tryz.results81 rfl ?_
 intro w' hm' hc' hg'
 refine ⟨rfl, hc', ?_⟩; rw [if_neg h1]; exact hm'.at b
set_option maxRecDepth 100000 in
set_option maxHeartbeats 1000000 in
theorem tis_spec {ws : List Wrd} (b : Nat) {ad : Option Addr} {n cap : Nat} (i : Nat) (e : Int) (t : List UInt8) (w : World) (hn : n = ws.length) (hl : Sr fW 4 ws (.slice ad n cap) w) (hM : Mem w [tB b ad n cap i e]) : Ret Tryz.prog 82 #[.pointer (some ⟨b, 0, none⟩), vS t] w (fun v w' => v = .bool (isE ws i e 1 t) ∧ Ext w w') := by
 refine Ret.enterM (l := [.pointer (some ⟨b, 0, none⟩), vS t]) Tryz.func82 rfl Tryz.ntmps82 rfl ([tB b ad n cap i e]) (no) hM ?_
 refine wpM.seq (wpM.region ?_)
 refine LM.as rfl ?_
 refine LM.nil (QM.sub (e' := [(0, _), (1, _)]) ⟨rfl, rfl, trivial⟩ (QM.then ?_))
 refine wpM.seq ?_
 refine wpM.draw [(0, 0), (1, 0), (2, 0), (3, 1), (4, 0), (5, 0), (6, 0), (7, 0), (8, 0), (9, 1), (10, 0), (11, 0), (12, 0), (13, 1), (14, 0), (15, 0), (16, 0), (17, 0), (18, 0), (19, 0), (20, 0), (21, 1), (22, 0), (23, 0), (24, 0), (25, 1), (26, 0), (27, 0), (28, 1), (29, 0), (30, 0), (31, 0), (32, 0), (33, 0), (34, 0), (35, 1), (36, 0), (37, 0), (38, 0), (39, 1), (40, 0), (41, 0), (42, 1), (43, 0), (44, 0), (45, 0), (46, 0)] (by kernel_rfl) (by kernel_rfl) ?_
 refine LD.val rfl rfl (ov_move rfl) ?_
 refine LD.val rfl rfl (ov_nilCheck rfl) ?_
 refine LD.val rfl rfl (ov_field Tryz.underlying70 rfl Tryz.sizeOf31 rfl (k := 2) rfl rfl) ?_
 refine LD.rd rfl rfl (om_ld Tryz.isAgg31 rfl rfl) ?_
 refine LD.val rfl rfl (ov_eql rfl rfl) ?_
 refine LD.val rfl rfl (ov_move rfl) ?_
 refine LD.splitD (t := 10) rfl (fun h1 => ?_) (fun h1 => ?_)
 ·
  refine LD.val rfl ⟨10, _, rfl, rfl, rfl⟩ (ov_move rfl) ?_
  refine LD.val rfl ⟨10, _, rfl, rfl, rfl⟩ (ov_nilCheck rfl) ?_
  refine LD.val rfl ⟨10, _, rfl, rfl, rfl⟩ (ov_field Tryz.underlying70 rfl Tryz.sizeOf3 rfl (k := 1) rfl rfl) ?_
  refine LD.rd rfl ⟨10, _, rfl, rfl, rfl⟩ (om_ld Tryz.isAgg3 rfl rfl) ?_
  refine LD.val rfl ⟨10, _, rfl, rfl, rfl⟩ (ov_move rfl) ?_
  refine LD.val rfl ⟨10, _, rfl, rfl, rfl⟩ (ov_nilCheck rfl) ?_
  refine LD.val rfl ⟨10, _, rfl, rfl, rfl⟩ (ov_field Tryz.underlying70 rfl Tryz.sizeOf23 rfl (k := 0) rfl rfl) ?_
  refine LD.rd rfl ⟨10, _, rfl, rfl, rfl⟩ (om_ld Tryz.isAgg23 rfl rfl) ?_
  refine LD.val rfl ⟨10, _, rfl, rfl, rfl⟩ (ov_len Tryz.underlying23 rfl) ?_
  refine LD.val rfl ⟨10, _, rfl, rfl, rfl⟩ (ov_lss rfl rfl) ?_
  refine LD.val rfl rfl (ov_pickT rfl rfl) ?_
  refine LD.val rfl rfl (ov_move rfl) ?_
  refine LD.splitD (t := 22) rfl (fun h2 => ?_) (fun h2 => ?_)
  ·
   refine LD.val rfl ⟨22, _, rfl, rfl, rfl⟩ (ov_move rfl) ?_
   refine LD.val rfl ⟨22, _, rfl, rfl, rfl⟩ (ov_nilCheck rfl) ?_
   refine LD.val rfl ⟨22, _, rfl, rfl, rfl⟩ (ov_field Tryz.underlying70 rfl Tryz.sizeOf23 rfl (k := 0) rfl rfl) ?_
   refine LD.rd rfl ⟨22, _, rfl, rfl, rfl⟩ (om_ld Tryz.isAgg23 rfl rfl) ?_
   refine LD.val rfl ⟨22, _, rfl, rfl, rfl⟩ (ov_move rfl) ?_
   refine LD.val rfl ⟨22, _, rfl, rfl, rfl⟩ (ov_nilCheck rfl) ?_
   refine LD.val rfl ⟨22, _, rfl, rfl, rfl⟩ (ov_field Tryz.underlying70 rfl Tryz.sizeOf3 rfl (k := 1) rfl rfl) ?_
   refine LD.rd rfl ⟨22, _, rfl, rfl, rfl⟩ (om_ld Tryz.isAgg3 rfl rfl) ?_
   refine LD.val rfl ⟨22, _, rfl, rfl, rfl⟩ (ov_idxSN au6 Tryz.underlying23 Tryz.sizeOf65 rfl rfl (by omega)) ?_
   refine LD.val rfl ⟨22, _, rfl, rfl, rfl⟩ (ov_field Tryz.underlying65 rfl Tryz.sizeOf3 rfl (k := 0) rfl rfl) ?_
   first | refine LD.rd rfl ⟨22, _, rfl, rfl, rfl⟩ (om_slE (j := 0) (by assumption) (by intro _; rfl) Tryz.isAgg3 rfl rfl au3 rfl (by rfl)) ?_ | refine LD.rdC rfl ⟨22, _, rfl, rfl, rfl⟩ (om_srE (j := 0) (by assumption) Tryz.isAgg3 rfl rfl au3 (by rfl) (by rfl) id) ?_ | refine LD.rd rfl ⟨22, _, rfl, rfl, rfl⟩ (om_ld Tryz.isAgg3 rfl rfl) ?_
   refine LD.val rfl ⟨22, _, rfl, rfl, rfl⟩ (ov_eql rfl rfl) ?_
   refine LD.val rfl rfl (ov_pickT rfl rfl) ?_
   refine LD.val rfl rfl (ov_move rfl) ?_
   refine LD.splitD (t := 36) rfl (fun h3 => ?_) (fun h3 => ?_)
   ·
    refine LD.val rfl ⟨36, _, rfl, rfl, rfl⟩ (ov_move rfl) ?_
    refine LD.val rfl ⟨36, _, rfl, rfl, rfl⟩ (ov_nilCheck rfl) ?_
    refine LD.val rfl ⟨36, _, rfl, rfl, rfl⟩ (ov_field Tryz.underlying70 rfl Tryz.sizeOf23 rfl (k := 0) rfl rfl) ?_
    refine LD.rd rfl ⟨36, _, rfl, rfl, rfl⟩ (om_ld Tryz.isAgg23 rfl rfl) ?_
    refine LD.val rfl ⟨36, _, rfl, rfl, rfl⟩ (ov_move rfl) ?_
    refine LD.val rfl ⟨36, _, rfl, rfl, rfl⟩ (ov_nilCheck rfl) ?_
    refine LD.val rfl ⟨36, _, rfl, rfl, rfl⟩ (ov_field Tryz.underlying70 rfl Tryz.sizeOf3 rfl (k := 1) rfl rfl) ?_
    refine LD.rd rfl ⟨36, _, rfl, rfl, rfl⟩ (om_ld Tryz.isAgg3 rfl rfl) ?_
    refine LD.val rfl ⟨36, _, rfl, rfl, rfl⟩ (ov_idxSN au6 Tryz.underlying23 Tryz.sizeOf65 rfl rfl (by omega)) ?_
    refine LD.val rfl ⟨36, _, rfl, rfl, rfl⟩ (ov_field Tryz.underlying65 rfl Tryz.sizeOf9 rfl (k := 1) rfl rfl) ?_
    first | refine LD.rd rfl ⟨36, _, rfl, rfl, rfl⟩ (om_slE (j := 1) (by assumption) (by intro _; rfl) Tryz.isAgg9 rfl rfl au3 rfl (by rfl)) ?_ | refine LD.rdC rfl ⟨36, _, rfl, rfl, rfl⟩ (om_srE (j := 1) (by assumption) Tryz.isAgg9 rfl rfl au3 (by rfl) (by rfl) id) ?_ | refine LD.rd rfl ⟨36, _, rfl, rfl, rfl⟩ (om_ld Tryz.isAgg9 rfl rfl) ?_
    refine LD.val rfl ⟨36, _, rfl, rfl, rfl⟩ (ov_move rfl) ?_
    refine LD.val rfl ⟨36, _, rfl, rfl, rfl⟩ (ov_seqlL rfl rfl) ?_
    refine LD.val rfl rfl (ov_pickT rfl rfl) ?_
    refine LD.val rfl rfl (ov_assign rfl) ?_
    refine LD.nil ?_
    refine QM.sub (e' := [(4, _)]) ⟨rfl, trivial⟩ (QM.then ?_)
    refine wpM.ret ?_
    refine QM.leave (.inl rfl) [.tmp 4] Tryz.results82 rfl ?_
    intro w' hm' hc' hg'
    refine ⟨?_, hc'⟩; simp only [resV, isE]; rw [decide_eq_true h1, decide_eq_true (show i < ws.length by omega), decide_eq_true h3]; simp only [Bool.true_and]
   refine LD.drop rfl rfl ⟨36, _, rfl, rfl, rfl⟩ ?_
   refine LD.drop rfl rfl ⟨36, _, rfl, rfl, rfl⟩ ?_
   refine LD.drop rfl rfl ⟨36, _, rfl, rfl, rfl⟩ ?_
   refine LD.drop rfl rfl ⟨36, _, rfl, rfl, rfl⟩ ?_
   refine LD.drop rfl rfl ⟨36, _, rfl, rfl, rfl⟩ ?_
   refine LD.drop rfl rfl ⟨36, _, rfl, rfl, rfl⟩ ?_
   refine LD.drop rfl rfl ⟨36, _, rfl, rfl, rfl⟩ ?_
   refine LD.drop rfl rfl ⟨36, _, rfl, rfl, rfl⟩ ?_
   refine LD.drop rfl rfl ⟨36, _, rfl, rfl, rfl⟩ ?_
   refine LD.drop rfl rfl ⟨36, _, rfl, rfl, rfl⟩ ?_
   refine LD.drop rfl rfl ⟨36, _, rfl, rfl, rfl⟩ ?_
   refine LD.drop rfl rfl ⟨36, _, rfl, rfl, rfl⟩ ?_
   refine LD.drop rfl rfl ⟨36, _, rfl, rfl, rfl⟩ ?_
   refine LD.val rfl rfl (ov_pickF rfl rfl) ?_
   refine LD.val rfl rfl (ov_assign rfl) ?_
   refine LD.nil ?_
   refine QM.sub (e' := [(4, _)]) ⟨rfl, trivial⟩ (QM.then ?_)
   refine wpM.ret ?_
   refine QM.leave (.inl rfl) [.tmp 4] Tryz.results82 rfl ?_
   intro w' hm' hc' hg'
   refine ⟨?_, hc'⟩; simp only [resV, isE]; rw [decide_eq_false h3]; simp only [Bool.and_false, Bool.false_and]
  refine LD.drop rfl rfl ⟨22, _, rfl, rfl, rfl⟩ ?_
  refine LD.drop rfl rfl ⟨22, _, rfl, rfl, rfl⟩ ?_
  refine LD.drop rfl rfl ⟨22, _, rfl, rfl, rfl⟩ ?_
  refine LD.drop rfl rfl ⟨22, _, rfl, rfl, rfl⟩ ?_
  refine LD.drop rfl rfl ⟨22, _, rfl, rfl, rfl⟩ ?_
  refine LD.drop rfl rfl ⟨22, _, rfl, rfl, rfl⟩ ?_
  refine LD.drop rfl rfl ⟨22, _, rfl, rfl, rfl⟩ ?_
  refine LD.drop rfl rfl ⟨22, _, rfl, rfl, rfl⟩ ?_
  refine LD.drop rfl rfl ⟨22, _, rfl, rfl, rfl⟩ ?_
  refine LD.drop rfl rfl ⟨22, _, rfl, rfl, rfl⟩ ?_
  refine LD.drop rfl rfl ⟨22, _, rfl, rfl, rfl⟩ ?_
  refine LD.drop rfl rfl ⟨22, _, rfl, rfl, rfl⟩ ?_
  refine LD.val rfl rfl (ov_pickF rfl rfl) ?_
  refine LD.val rfl rfl (ov_move rfl) ?_
  refine LD.drop rfl rfl ⟨36, _, rfl, rfl, rfl⟩ ?_
  refine LD.drop rfl rfl ⟨36, _, rfl, rfl, rfl⟩ ?_
  refine LD.drop rfl rfl ⟨36, _, rfl, rfl, rfl⟩ ?_
  refine LD.drop rfl rfl ⟨36, _, rfl, rfl, rfl⟩ ?_
  refine LD.drop rfl rfl ⟨36, _, rfl, rfl, rfl⟩ ?_
  refine LD.drop rfl rfl ⟨36, _, rfl, rfl, rfl⟩ ?_
  refine LD.drop rfl rfl ⟨36, _, rfl, rfl, rfl⟩ ?_
  refine LD.drop rfl rfl ⟨36, _, rfl, rfl, rfl⟩ ?_
  refine LD.drop rfl rfl ⟨36, _, rfl, rfl, rfl⟩ ?_
  refine LD.drop rfl rfl ⟨36, _, rfl, rfl, rfl⟩ ?_
  refine LD.drop rfl rfl ⟨36, _, rfl, rfl, rfl⟩ ?_
  refine LD.drop rfl rfl ⟨36, _, rfl, rfl, rfl⟩ ?_
  refine LD.drop rfl rfl ⟨36, _, rfl, rfl, rfl⟩ ?_
  refine LD.val rfl rfl (ov_pickF rfl rfl) ?_
  refine LD.val rfl rfl (ov_assign rfl) ?_
  refine LD.nil ?_
  refine QM.sub (e' := [(4, _)]) ⟨rfl, trivial⟩ (QM.then ?_)
  refine wpM.ret ?_
  refine QM.leave (.inl rfl) [.tmp 4] Tryz.results82 rfl ?_
  intro w' hm' hc' hg'
  refine ⟨?_, hc'⟩; simp only [resV, isE]; rw [decide_eq_false (show ¬ i < ws.length by omega)]; simp only [Bool.and_false, Bool.false_and]
 refine LD.drop rfl rfl ⟨10, _, rfl, rfl, rfl⟩ ?_
 refine LD.drop rfl rfl ⟨10, _, rfl, rfl, rfl⟩ ?_
 refine LD.drop rfl rfl ⟨10, _, rfl, rfl, rfl⟩ ?_
 refine LD.drop rfl rfl ⟨10, _, rfl, rfl, rfl⟩ ?_
 refine LD.drop rfl rfl ⟨10, _, rfl, rfl, rfl⟩ ?_
 refine LD.drop rfl rfl ⟨10, _, rfl, rfl, rfl⟩ ?_
 refine LD.drop rfl rfl ⟨10, _, rfl, rfl, rfl⟩ ?_
 refine LD.drop rfl rfl ⟨10, _, rfl, rfl, rfl⟩ ?_
 refine LD.drop rfl rfl ⟨10, _, rfl, rfl, rfl⟩ ?_
 refine LD.drop rfl rfl ⟨10, _, rfl, rfl, rfl⟩ ?_
 refine LD.val rfl rfl (ov_pickF rfl rfl) ?_
 refine LD.val rfl rfl (ov_move rfl) ?_
 refine LD.drop rfl rfl ⟨22, _, rfl, rfl, rfl⟩ ?_
 refine LD.drop rfl rfl ⟨22, _, rfl, rfl, rfl⟩ ?_
 refine LD.drop rfl rfl ⟨22, _, rfl, rfl, rfl⟩ ?_
 refine LD.drop rfl rfl ⟨22, _, rfl, rfl, rfl⟩ ?_
 refine LD.drop rfl rfl ⟨22, _, rfl, rfl, rfl⟩ ?_
 refine LD.drop rfl rfl ⟨22, _, rfl, rfl, rfl⟩ ?_
 refine LD.drop rfl rfl ⟨22, _, rfl, rfl, rfl⟩ ?_
 refine LD.drop rfl rfl ⟨22, _, rfl, rfl, rfl⟩ ?_
 refine LD.drop rfl rfl ⟨22, _, rfl, rfl, rfl⟩ ?_
 refine LD.drop rfl rfl ⟨22, _, rfl, rfl, rfl⟩ ?_
 refine LD.drop rfl rfl ⟨22, _, rfl, rfl, rfl⟩ ?_
 refine LD.drop rfl rfl ⟨22, _, rfl, rfl, rfl⟩ ?_
 refine LD.val rfl rfl (ov_pickF rfl rfl) ?_
 refine LD.val rfl rfl (ov_move rfl) ?_
 refine LD.drop rfl rfl ⟨36, _, rfl, rfl, rfl⟩ ?_
 refine LD.drop rfl rfl ⟨36, _, rfl, rfl, rfl⟩ ?_
 refine LD.drop rfl rfl ⟨36, _, rfl, rfl, rfl⟩ ?_
 refine LD.drop rfl rfl ⟨36, _, rfl, rfl, rfl⟩ ?_
 refine LD.drop rfl rfl ⟨36, _, rfl, rfl, rfl⟩ ?_
 refine LD.drop rfl rfl ⟨36, _, rfl, rfl, rfl⟩ ?_
 refine LD.drop rfl rfl ⟨36, _, rfl, rfl, rfl⟩ ?_
 refine LD.drop rfl rfl ⟨36, _, rfl, rfl, rfl⟩ ?_
 refine LD.drop rfl rfl ⟨36, _, rfl, rfl, rfl⟩ ?_
 refine LD.drop rfl rfl ⟨36, _, rfl, rfl, rfl⟩ ?_
 refine LD.drop rfl rfl ⟨36, _, rfl, rfl, rfl⟩ ?_
 refine LD.drop rfl rfl ⟨36, _, rfl, rfl, rfl⟩ ?_
 refine LD.drop rfl rfl ⟨36, _, rfl, rfl, rfl⟩ ?_
 refine LD.val rfl rfl (ov_pickF rfl rfl) ?_
 refine LD.val rfl rfl (ov_assign rfl) ?_
 refine LD.nil ?_
 refine QM.sub (e' := [(4, _)]) ⟨rfl, trivial⟩ (QM.then ?_)
 refine wpM.ret ?_
 refine QM.leave (.inl rfl) [.tmp 4] Tryz.results82 rfl ?_
 intro w' hm' hc' hg'
 refine ⟨?_, hc'⟩; simp only [resV, isE]; rw [decide_eq_false h1]; simp only [Bool.and_false, Bool.false_and]
set_option maxRecDepth 100000 in
theorem tname_spec {ws : List Wrd} (b : Nat) {ad : Option Addr} {n cap : Nat} (i : Nat) (e : Int) (t : List UInt8) (w : World) (hn : n = ws.length) (hx : ws.length ≤ 1000000000) (hl : Sr fW 4 ws (.slice ad n cap) w) (hab : 0 < ws.length → adB ad ≠ b) (hM : Mem w [tB b ad n cap i e]) : Ret Tryz.prog 80 #[.pointer (some ⟨b, 0, none⟩), vS t] w (WrP b (.tuple #[]) (tO ad n cap (needE ws i e 1 t).1 (needE ws i e 1 t).2) w) := by
 refine Ret.enterM (l := [.pointer (some ⟨b, 0, none⟩), vS t]) Tryz.func80 rfl Tryz.ntmps80 rfl ([tB b ad n cap i e]) ((fun x => x = b)) hM ?_
 refine wpM.seq ?_
 refine wpM.seq (wpM.region ?_)
 refine LM.mv rfl ?_
 refine LM.mv rfl ?_
 refine LM.callE (oc_call (enters_fn Tryz.func82 (by kernel_rfl) rfl) rfl) (fun w hm hc hg => tis_spec b i e t w hn (hl.kp hc hab) (hm.pick _)) ?_
 first | refine LM.val (ov_notD rfl) ?_ | refine LM.val (ov_not rfl) ?_
 refine LM.nil (QM.sub (e' := [(0, _), (7, _)]) ⟨rfl, rfl, trivial⟩ (QM.then ?_))
 first | refine wpM.condD rfl (fun h1 => ?_) (fun h1 => ?_) | refine wpM.condB rfl (fun h1 => ?_) (fun h1 => ?_)
 ·
  have hq : isE ws i e 1 t = false := (by simpa using h1)
  refine wpM.seq (wpM.region ?_)
  refine LM.mv rfl ?_
  refine LM.cW (oc_call (enters_fn Tryz.func81 (by kernel_rfl) rfl) rfl) (fun w hm hc hg => tfail_spec b (ad := ad) (n := n) (cap := cap) i e 5 w (hm.pick _)) rfl (fun hlt => by first | exact rfl | exact absurd hlt (by omega)) ?_
  refine LM.nil (QM.sub (e' := []) trivial (QM.then ?_))
  refine wpM.ret ?_
  refine QM.then_ret ?_
  refine QM.leave (.inl rfl) [] Tryz.results80 rfl ?_
  intro w' hm' hc' hg'
  refine ⟨rfl, hc', ?_⟩; have h3 := hm'.at b; unfold needE; rw [if_neg (by rw [hq]; simp)]; by_cases h0 : e = 0; (rw [if_pos h0] at h3 ⊢; exact h3); (rw [if_neg h0] at h3 ⊢; exact h3)
 have hq : isE ws i e 1 t = true := (by simpa using h1); have hlt := (isE_lt hq).1
 refine wpM.skip ?_
 refine QM.then (wpM.region ?_)
 refine LM.mv rfl ?_
 refine LM.val (ov_nilCheck rfl) ?_
 refine LM.val (ov_field Tryz.underlying70 rfl Tryz.sizeOf3 rfl (k := 1) rfl rfl) ?_
 refine LM.rd (om_ld Tryz.isAgg3 rfl rfl) ?_
 refine LM.val (ov_add64 rfl rfl (by omega)) ?_
 refine LM.val (ov_nilCheck rfl) ?_
 refine LM.val (ov_field Tryz.underlying70 rfl Tryz.sizeOf3 rfl (k := 1) rfl rfl) ?_
 refine LM.st Tryz.sizeOf3 rfl rfl rfl au5 rfl (fun hlt => by first | exact rfl | exact absurd hlt (by omega)) ?_
 refine LM.nil (QM.sub (e' := []) trivial ?_)
 refine QM.leave (.inr rfl) [] Tryz.results80 rfl ?_
 intro w' hm' hc' hg'
 refine ⟨rfl, hc', ?_⟩; have h3 := hm'.at b; unfold needE; rw [if_pos hq]; exact h3
set_option maxRecDepth 100000 in
set_option maxHeartbeats 1000000 in
theorem tend_spec {ws : List Wrd} (b : Nat) {ad : Option Addr} {n cap : Nat} (i : Nat) (e : Int) (w : World) (hn : n = ws.length) (hx : ws.length ≤ 1000000000) (hl : Sr fW 4 ws (.slice ad n cap) w) (hab : 0 < ws.length → adB ad ≠ b) (hM : Mem w [tB b ad n cap i e]) : Ret Tryz.prog 35 #[.pointer (some ⟨b, 0, none⟩)] w (WrP b (.tuple #[]) (tO ad n cap (needE ws i e 3 [59]).1 (needE ws i e 3 [59]).2) w) := by
 refine Ret.enterM (l := [.pointer (some ⟨b, 0, none⟩)]) Tryz.func35 rfl Tryz.ntmps35 rfl ([tB b ad n cap i e]) ((fun x => x = b)) hM ?_
 refine wpM.seq ?_
 refine wpM.seq ?_
 refine wpM.joinK (α := Bool) (fun q => [(46, .bool q)]) [(0, _)] (fun q => tB b ad n cap i e :: []) (fun q => q = !isE ws i e 3 [59]) ⟨rfl, trivial⟩ ?_ ?_
 ·
  refine wpM.draw [(0, 0), (1, 0), (2, 0), (3, 1), (4, 0), (5, 0), (6, 0), (7, 0), (8, 0), (9, 1), (10, 0), (11, 0), (12, 0), (13, 1), (14, 0), (15, 0), (16, 0), (17, 0), (18, 0), (19, 0), (20, 0), (21, 1), (22, 0), (23, 0), (24, 0), (25, 1), (26, 0), (27, 0), (28, 1), (29, 0), (30, 0), (31, 0), (32, 0), (33, 0), (34, 0), (35, 1), (36, 0), (37, 0), (38, 0), (39, 1), (40, 0), (41, 0), (42, 1), (43, 0), (44, 0)] (by kernel_rfl) (by kernel_rfl) ?_
  refine LD.val rfl rfl (ov_move rfl) ?_
  refine LD.val rfl rfl (ov_nilCheck rfl) ?_
  refine LD.val rfl rfl (ov_field Tryz.underlying70 rfl Tryz.sizeOf31 rfl (k := 2) rfl rfl) ?_
  refine LD.rd rfl rfl (om_ld Tryz.isAgg31 rfl rfl) ?_
  refine LD.val rfl rfl (ov_neq rfl rfl) ?_
  refine LD.val rfl rfl (ov_move rfl) ?_
  refine LD.splitD (t := 7) rfl (fun h1 => ?_) (fun h1 => ?_)
  ·
   refine LD.drop rfl rfl ⟨7, _, rfl, rfl, rfl⟩ ?_
   refine LD.drop rfl rfl ⟨7, _, rfl, rfl, rfl⟩ ?_
   refine LD.drop rfl rfl ⟨7, _, rfl, rfl, rfl⟩ ?_
   refine LD.drop rfl rfl ⟨7, _, rfl, rfl, rfl⟩ ?_
   refine LD.drop rfl rfl ⟨7, _, rfl, rfl, rfl⟩ ?_
   refine LD.drop rfl rfl ⟨7, _, rfl, rfl, rfl⟩ ?_
   refine LD.drop rfl rfl ⟨7, _, rfl, rfl, rfl⟩ ?_
   refine LD.drop rfl rfl ⟨7, _, rfl, rfl, rfl⟩ ?_
   refine LD.drop rfl rfl ⟨7, _, rfl, rfl, rfl⟩ ?_
   refine LD.drop rfl rfl ⟨7, _, rfl, rfl, rfl⟩ ?_
   refine LD.val rfl rfl (ov_pickT rfl rfl) ?_
   refine LD.val rfl rfl (ov_move rfl) ?_
   refine LD.drop rfl rfl ⟨19, _, rfl, rfl, rfl⟩ ?_
   refine LD.drop rfl rfl ⟨19, _, rfl, rfl, rfl⟩ ?_
   refine LD.drop rfl rfl ⟨19, _, rfl, rfl, rfl⟩ ?_
   refine LD.drop rfl rfl ⟨19, _, rfl, rfl, rfl⟩ ?_
   refine LD.drop rfl rfl ⟨19, _, rfl, rfl, rfl⟩ ?_
   refine LD.drop rfl rfl ⟨19, _, rfl, rfl, rfl⟩ ?_
   refine LD.drop rfl rfl ⟨19, _, rfl, rfl, rfl⟩ ?_
   refine LD.drop rfl rfl ⟨19, _, rfl, rfl, rfl⟩ ?_
   refine LD.drop rfl rfl ⟨19, _, rfl, rfl, rfl⟩ ?_
   refine LD.drop rfl rfl ⟨19, _, rfl, rfl, rfl⟩ ?_
   refine LD.drop rfl rfl ⟨19, _, rfl, rfl, rfl⟩ ?_
   refine LD.drop rfl rfl ⟨19, _, rfl, rfl, rfl⟩ ?_
   refine LD.val rfl rfl (ov_pickT rfl rfl) ?_
   refine LD.val rfl rfl (ov_move rfl) ?_
   refine LD.drop rfl rfl ⟨33, _, rfl, rfl, rfl⟩ ?_
   refine LD.drop rfl rfl ⟨33, _, rfl, rfl, rfl⟩ ?_
   refine LD.drop rfl rfl ⟨33, _, rfl, rfl, rfl⟩ ?_
   refine LD.drop rfl rfl ⟨33, _, rfl, rfl, rfl⟩ ?_
   refine LD.drop rfl rfl ⟨33, _, rfl, rfl, rfl⟩ ?_
   refine LD.drop rfl rfl ⟨33, _, rfl, rfl, rfl⟩ ?_
   refine LD.drop rfl rfl ⟨33, _, rfl, rfl, rfl⟩ ?_
   refine LD.drop rfl rfl ⟨33, _, rfl, rfl, rfl⟩ ?_
   refine LD.drop rfl rfl ⟨33, _, rfl, rfl, rfl⟩ ?_
   refine LD.drop rfl rfl ⟨33, _, rfl, rfl, rfl⟩ ?_
   refine LD.drop rfl rfl ⟨33, _, rfl, rfl, rfl⟩ ?_
   refine LD.drop rfl rfl ⟨33, _, rfl, rfl, rfl⟩ ?_
   refine LD.val rfl rfl (ov_pickT rfl rfl) ?_
   refine LD.nil ?_
   refine QM.sub (e' := [(0, _), (46, _)]) ⟨rfl, rfl, trivial⟩ ?_
   refine QM.meetK (_) ⟨au2, rfl, trivial⟩ au1 ?_
   · rw [isE_bad h1]; rfl
  refine LD.val rfl ⟨7, _, rfl, rfl, rfl⟩ (ov_move rfl) ?_
  refine LD.val rfl ⟨7, _, rfl, rfl, rfl⟩ (ov_nilCheck rfl) ?_
  refine LD.val rfl ⟨7, _, rfl, rfl, rfl⟩ (ov_field Tryz.underlying70 rfl Tryz.sizeOf3 rfl (k := 1) rfl rfl) ?_
  refine LD.rd rfl ⟨7, _, rfl, rfl, rfl⟩ (om_ld Tryz.isAgg3 rfl rfl) ?_
  refine LD.val rfl ⟨7, _, rfl, rfl, rfl⟩ (ov_move rfl) ?_
  refine LD.val rfl ⟨7, _, rfl, rfl, rfl⟩ (ov_nilCheck rfl) ?_
  refine LD.val rfl ⟨7, _, rfl, rfl, rfl⟩ (ov_field Tryz.underlying70 rfl Tryz.sizeOf23 rfl (k := 0) rfl rfl) ?_
  refine LD.rd rfl ⟨7, _, rfl, rfl, rfl⟩ (om_ld Tryz.isAgg23 rfl rfl) ?_
  refine LD.val rfl ⟨7, _, rfl, rfl, rfl⟩ (ov_len Tryz.underlying23 rfl) ?_
  refine LD.val rfl ⟨7, _, rfl, rfl, rfl⟩ (ov_geq rfl rfl) ?_
  refine LD.val rfl rfl (ov_pickF rfl rfl) ?_
  refine LD.val rfl rfl (ov_move rfl) ?_
  refine LD.splitD (t := 19) rfl (fun h2 => ?_) (fun h2 => ?_)
  ·
   refine LD.drop rfl rfl ⟨19, _, rfl, rfl, rfl⟩ ?_
   refine LD.drop rfl rfl ⟨19, _, rfl, rfl, rfl⟩ ?_
   refine LD.drop rfl rfl ⟨19, _, rfl, rfl, rfl⟩ ?_
   refine LD.drop rfl rfl ⟨19, _, rfl, rfl, rfl⟩ ?_
   refine LD.drop rfl rfl ⟨19, _, rfl, rfl, rfl⟩ ?_
   refine LD.drop rfl rfl ⟨19, _, rfl, rfl, rfl⟩ ?_
   refine LD.drop rfl rfl ⟨19, _, rfl, rfl, rfl⟩ ?_
   refine LD.drop rfl rfl ⟨19, _, rfl, rfl, rfl⟩ ?_
   refine LD.drop rfl rfl ⟨19, _, rfl, rfl, rfl⟩ ?_
   refine LD.drop rfl rfl ⟨19, _, rfl, rfl, rfl⟩ ?_
   refine LD.drop rfl rfl ⟨19, _, rfl, rfl, rfl⟩ ?_
   refine LD.drop rfl rfl ⟨19, _, rfl, rfl, rfl⟩ ?_
   refine LD.val rfl rfl (ov_pickT rfl rfl) ?_
   refine LD.val rfl rfl (ov_move rfl) ?_
   refine LD.drop rfl rfl ⟨33, _, rfl, rfl, rfl⟩ ?_
   refine LD.drop rfl rfl ⟨33, _, rfl, rfl, rfl⟩ ?_
   refine LD.drop rfl rfl ⟨33, _, rfl, rfl, rfl⟩ ?_
   refine LD.drop rfl rfl ⟨33, _, rfl, rfl, rfl⟩ ?_
   refine LD.drop rfl rfl ⟨33, _, rfl, rfl, rfl⟩ ?_
   refine LD.drop rfl rfl ⟨33, _, rfl, rfl, rfl⟩ ?_
   refine LD.drop rfl rfl ⟨33, _, rfl, rfl, rfl⟩ ?_
   refine LD.drop rfl rfl ⟨33, _, rfl, rfl, rfl⟩ ?_
   refine LD.drop rfl rfl ⟨33, _, rfl, rfl, rfl⟩ ?_
   refine LD.drop rfl rfl ⟨33, _, rfl, rfl, rfl⟩ ?_
   refine LD.drop rfl rfl ⟨33, _, rfl, rfl, rfl⟩ ?_
   refine LD.drop rfl rfl ⟨33, _, rfl, rfl, rfl⟩ ?_
   refine LD.val rfl rfl (ov_pickT rfl rfl) ?_
   refine LD.nil ?_
   refine QM.sub (e' := [(0, _), (46, _)]) ⟨rfl, rfl, trivial⟩ ?_
   refine QM.meetK (_) ⟨au2, rfl, trivial⟩ au1 ?_
   · unfold isE; rw [decide_eq_false (show ¬ i < ws.length by omega)]; simp
  refine LD.val rfl ⟨19, _, rfl, rfl, rfl⟩ (ov_move rfl) ?_
  refine LD.val rfl ⟨19, _, rfl, rfl, rfl⟩ (ov_nilCheck rfl) ?_
  refine LD.val rfl ⟨19, _, rfl, rfl, rfl⟩ (ov_field Tryz.underlying70 rfl Tryz.sizeOf23 rfl (k := 0) rfl rfl) ?_
  refine LD.rd rfl ⟨19, _, rfl, rfl, rfl⟩ (om_ld Tryz.isAgg23 rfl rfl) ?_
  refine LD.val rfl ⟨19, _, rfl, rfl, rfl⟩ (ov_move rfl) ?_
  refine LD.val rfl ⟨19, _, rfl, rfl, rfl⟩ (ov_nilCheck rfl) ?_
  refine LD.val rfl ⟨19, _, rfl, rfl, rfl⟩ (ov_field Tryz.underlying70 rfl Tryz.sizeOf3 rfl (k := 1) rfl rfl) ?_
  refine LD.rd rfl ⟨19, _, rfl, rfl, rfl⟩ (om_ld Tryz.isAgg3 rfl rfl) ?_
  refine LD.val rfl ⟨19, _, rfl, rfl, rfl⟩ (ov_idxSN au6 Tryz.underlying23 Tryz.sizeOf65 rfl rfl (by omega)) ?_
  refine LD.val rfl ⟨19, _, rfl, rfl, rfl⟩ (ov_field Tryz.underlying65 rfl Tryz.sizeOf3 rfl (k := 0) rfl rfl) ?_
  first | refine LD.rd rfl ⟨19, _, rfl, rfl, rfl⟩ (om_slE (j := 0) (by assumption) (by intro _; rfl) Tryz.isAgg3 rfl rfl au3 rfl (by rfl)) ?_ | refine LD.rdC rfl ⟨19, _, rfl, rfl, rfl⟩ (om_srE (j := 0) (by assumption) Tryz.isAgg3 rfl rfl au3 (by rfl) (by rfl) (by exact hab (by omega))) ?_ | refine LD.rd rfl ⟨19, _, rfl, rfl, rfl⟩ (om_ld Tryz.isAgg3 rfl rfl) ?_
  refine LD.val rfl ⟨19, _, rfl, rfl, rfl⟩ (ov_neq rfl rfl) ?_
  refine LD.val rfl rfl (ov_pickF rfl rfl) ?_
  refine LD.val rfl rfl (ov_move rfl) ?_
  refine LD.splitD (t := 33) rfl (fun h3 => ?_) (fun h3 => ?_)
  ·
   refine LD.drop rfl rfl ⟨33, _, rfl, rfl, rfl⟩ ?_
   refine LD.drop rfl rfl ⟨33, _, rfl, rfl, rfl⟩ ?_
   refine LD.drop rfl rfl ⟨33, _, rfl, rfl, rfl⟩ ?_
   refine LD.drop rfl rfl ⟨33, _, rfl, rfl, rfl⟩ ?_
   refine LD.drop rfl rfl ⟨33, _, rfl, rfl, rfl⟩ ?_
   refine LD.drop rfl rfl ⟨33, _, rfl, rfl, rfl⟩ ?_
   refine LD.drop rfl rfl ⟨33, _, rfl, rfl, rfl⟩ ?_
   refine LD.drop rfl rfl ⟨33, _, rfl, rfl, rfl⟩ ?_
   refine LD.drop rfl rfl ⟨33, _, rfl, rfl, rfl⟩ ?_
   refine LD.drop rfl rfl ⟨33, _, rfl, rfl, rfl⟩ ?_
   refine LD.drop rfl rfl ⟨33, _, rfl, rfl, rfl⟩ ?_
   refine LD.drop rfl rfl ⟨33, _, rfl, rfl, rfl⟩ ?_
   refine LD.val rfl rfl (ov_pickT rfl rfl) ?_
   refine LD.nil ?_
   refine QM.sub (e' := [(0, _), (46, _)]) ⟨rfl, rfl, trivial⟩ ?_
   refine QM.meetK (_) ⟨au2, rfl, trivial⟩ au1 ?_
   · unfold isE; rw [decide_eq_false h3]; simp
  refine LD.val rfl ⟨33, _, rfl, rfl, rfl⟩ (ov_move rfl) ?_
  refine LD.val rfl ⟨33, _, rfl, rfl, rfl⟩ (ov_nilCheck rfl) ?_
  refine LD.val rfl ⟨33, _, rfl, rfl, rfl⟩ (ov_field Tryz.underlying70 rfl Tryz.sizeOf23 rfl (k := 0) rfl rfl) ?_
  refine LD.rd rfl ⟨33, _, rfl, rfl, rfl⟩ (om_ld Tryz.isAgg23 rfl rfl) ?_
  refine LD.val rfl ⟨33, _, rfl, rfl, rfl⟩ (ov_move rfl) ?_
  refine LD.val rfl ⟨33, _, rfl, rfl, rfl⟩ (ov_nilCheck rfl) ?_
  refine LD.val rfl ⟨33, _, rfl, rfl, rfl⟩ (ov_field Tryz.underlying70 rfl Tryz.sizeOf3 rfl (k := 1) rfl rfl) ?_
  refine LD.rd rfl ⟨33, _, rfl, rfl, rfl⟩ (om_ld Tryz.isAgg3 rfl rfl) ?_
  refine LD.val rfl ⟨33, _, rfl, rfl, rfl⟩ (ov_idxSN au6 Tryz.underlying23 Tryz.sizeOf65 rfl rfl (by omega)) ?_
  refine LD.val rfl ⟨33, _, rfl, rfl, rfl⟩ (ov_field Tryz.underlying65 rfl Tryz.sizeOf9 rfl (k := 1) rfl rfl) ?_
  first | refine LD.rd rfl ⟨33, _, rfl, rfl, rfl⟩ (om_slE (j := 1) (by assumption) (by intro _; rfl) Tryz.isAgg9 rfl rfl au3 rfl (by rfl)) ?_ | refine LD.rdC rfl ⟨33, _, rfl, rfl, rfl⟩ (om_srE (j := 1) (by assumption) Tryz.isAgg9 rfl rfl au3 (by rfl) (by rfl) (by exact hab (by omega))) ?_ | refine LD.rd rfl ⟨33, _, rfl, rfl, rfl⟩ (om_ld Tryz.isAgg9 rfl rfl) ?_
  refine LD.val rfl ⟨33, _, rfl, rfl, rfl⟩ (ov_sneqL rfl rfl) ?_
  refine LD.val rfl rfl (ov_pickF rfl rfl) ?_
  refine LD.nil ?_
  refine QM.sub (e' := [(0, _), (46, _)]) ⟨rfl, rfl, trivial⟩ ?_
  refine QM.meetK (_) ⟨au2, rfl, trivial⟩ au1 ?_
  · unfold isE; rw [decide_eq_true (show e = 0 from Classical.not_not.1 h1), decide_eq_true (show i < ws.length by omega), decide_eq_true (Classical.not_not.1 h3)]; simp
 rintro q hq
 change QM _ _ _ _ _ (tB b ad n cap i e :: []) _ _ _
 refine QM.then ?_
 first | refine wpM.condD rfl (fun h4 => ?_) (fun h4 => ?_) | refine wpM.condB rfl (fun h4 => ?_) (fun h4 => ?_)
 ·
  have hq2 : isE ws i e 3 [59] = false := (by rw [h4] at hq; simpa using hq.symm)
  refine wpM.seq (wpM.region ?_)
  refine LM.mv rfl ?_
  refine LM.cW (oc_call (enters_fn Tryz.func81 (by kernel_rfl) rfl) rfl) (fun w hm hc hg => tfail_spec b (ad := ad) (n := n) (cap := cap) i e 5 w (hm.pick _)) rfl (fun hlt => by first | exact rfl | exact absurd hlt (by omega)) ?_
  refine LM.nil (QM.sub (e' := []) trivial (QM.then ?_))
  refine wpM.ret ?_
  refine QM.then_ret ?_
  refine QM.leave (.inl rfl) [] Tryz.results35 rfl ?_
  intro w' hm' hc' hg'
  refine ⟨rfl, hc', ?_⟩; have h3 := hm'.at b; unfold needE; rw [if_neg (by rw [hq2]; simp)]; by_cases h0 : e = 0; (rw [if_pos h0] at h3 ⊢; exact h3); (rw [if_neg h0] at h3 ⊢; exact h3)
 have hq2 : isE ws i e 3 [59] = true := (by rw [h4] at hq; simpa using hq.symm); have hlt := (isE_lt hq2).1
 refine wpM.skip ?_
 refine QM.then (wpM.region ?_)
 refine LM.mv rfl ?_
 refine LM.val (ov_nilCheck rfl) ?_
 refine LM.val (ov_field Tryz.underlying70 rfl Tryz.sizeOf3 rfl (k := 1) rfl rfl) ?_
 refine LM.rd (om_ld Tryz.isAgg3 rfl rfl) ?_
 refine LM.val (ov_add64 rfl rfl (by omega)) ?_
 refine LM.val (ov_nilCheck rfl) ?_
 refine LM.val (ov_field Tryz.underlying70 rfl Tryz.sizeOf3 rfl (k := 1) rfl rfl) ?_
 refine LM.st Tryz.sizeOf3 rfl rfl rfl au5 rfl (fun hlt => by first | exact rfl | exact absurd hlt (by omega)) ?_
 refine LM.nil (QM.sub (e' := []) trivial ?_)
 refine QM.leave (.inr rfl) [] Tryz.results35 rfl ?_
 intro w' hm' hc' hg'
 refine ⟨rfl, hc', ?_⟩; have h3 := hm'.at b; unfold needE; rw [if_pos hq2]; exact h3
set_option maxRecDepth 100000 in
set_option maxHeartbeats 1000000 in
theorem tfield_spec {ws : List Wrd} (b : Nat) {ad : Option Addr} {n cap : Nat} (i : Nat) (e most : Int) (nm : List UInt8) (w : World) (hn : n = ws.length) (hx : ws.length ≤ 1000000000) (hl : Sr fW 4 ws (.slice ad n cap) w) (hab : 0 < ws.length → adB ad ≠ b) (hM : Mem w [tB b ad n cap i e]) : Ret Tryz.prog 34 #[.pointer (some ⟨b, 0, none⟩), vS nm, .int .i64 most] w (WrP b (.int .i64 (fldE ws i e nm most).2.2) (tO ad n cap (fldE ws i e nm most).1 (fldE ws i e nm most).2.1) w) := by
 refine Ret.enterM (l := [.pointer (some ⟨b, 0, none⟩), vS nm, .int .i64 most]) Tryz.func34 rfl Tryz.ntmps34 rfl ([tB b ad n cap i e]) ((fun x => x = b)) hM ?_
 refine wpM.seq (wpM.region ?_)
 refine LM.as rfl ?_
 refine LM.nil (QM.sub (e' := [(0, _), (1, _), (2, _)]) ⟨rfl, rfl, rfl, trivial⟩ (QM.then (wpM.seq (wpM.region ?_))))
 refine LM.mv rfl ?_
 refine LM.mv rfl ?_
 refine LM.cW (oc_call (enters_fn Tryz.func80 (by kernel_rfl) rfl) rfl) (fun w hm hc hg => tname_spec b i e nm w hn hx (hl.kp hc hab) hab (hm.pick _)) rfl (fun hlt => by first | exact rfl | exact absurd hlt (by omega)) ?_
 refine LM.nil (QM.sub (e' := [(0, _), (2, _)]) ⟨rfl, rfl, trivial⟩ (QM.then ?_))
 refine wpM.seq ?_
 refine wpM.block ?_
 refine wpM.seq (wpM.region ?_)
 refine LM.mv rfl ?_
 refine LM.val (ov_nilCheck rfl) ?_
 refine LM.val (ov_field Tryz.underlying70 rfl Tryz.sizeOf31 rfl (k := 2) rfl rfl) ?_
 refine LM.rd (om_ld Tryz.isAgg31 rfl rfl) ?_
 refine LM.val (ov_neq rfl rfl) ?_
 refine LM.as rfl ?_
 refine LM.nil (QM.sub (e' := [(0, _), (2, _), (10, _)]) ⟨rfl, rfl, rfl, trivial⟩ (QM.then ?_))
 refine wpM.condD rfl (fun h1 => ?_) (fun h1 => ?_)
 ·
  refine wpM.seq (wpM.region ?_)
  refine LM.as rfl ?_
  refine LM.nil (QM.sub (e' := [(6, _)]) ⟨rfl, trivial⟩ (QM.then ?_))
  refine wpM.ret ?_
  refine QM.block_ret ?_
  refine QM.then_ret ?_
  refine QM.leave (.inl rfl) [.tmp 6] Tryz.results34 rfl ?_
  intro w' hm' hc' hg'
  unfold fldE; rw [num_b h1]; exact ⟨rfl, hc', hm'.at b⟩
 have he0 : (needE ws i e 1 nm).2 = 0 := Classical.not_not.1 h1
 refine wpM.seq ?_
 refine wpM.draw [(0, 0), (1, 0), (2, 0), (3, 1), (4, 0), (5, 0), (6, 0), (7, 1), (8, 0), (9, 0), (10, 0), (11, 0), (12, 0), (13, 0), (14, 1), (15, 0), (16, 0), (17, 0), (18, 1), (19, 0), (20, 0), (21, 1), (22, 0), (23, 0), (24, 0)] (by kernel_rfl) (by kernel_rfl) ?_
 refine LD.val rfl rfl (ov_move rfl) ?_
 refine LD.val rfl rfl (ov_nilCheck rfl) ?_
 refine LD.val rfl rfl (ov_field Tryz.underlying70 rfl Tryz.sizeOf3 rfl (k := 1) rfl rfl) ?_
 refine LD.rd rfl rfl (om_ld Tryz.isAgg3 rfl rfl) ?_
 refine LD.val rfl rfl (ov_move rfl) ?_
 refine LD.val rfl rfl (ov_nilCheck rfl) ?_
 refine LD.val rfl rfl (ov_field Tryz.underlying70 rfl Tryz.sizeOf23 rfl (k := 0) rfl rfl) ?_
 refine LD.rd rfl rfl (om_ld Tryz.isAgg23 rfl rfl) ?_
 refine LD.val rfl rfl (ov_len Tryz.underlying23 rfl) ?_
 refine LD.val rfl rfl (ov_geq rfl rfl) ?_
 refine LD.val rfl rfl (ov_move rfl) ?_
 refine LD.splitD (t := 27) rfl (fun h2 => ?_) (fun h2 => ?_)
 ·
  refine LD.drop rfl rfl ⟨27, _, rfl, rfl, rfl⟩ ?_
  refine LD.drop rfl rfl ⟨27, _, rfl, rfl, rfl⟩ ?_
  refine LD.drop rfl rfl ⟨27, _, rfl, rfl, rfl⟩ ?_
  refine LD.drop rfl rfl ⟨27, _, rfl, rfl, rfl⟩ ?_
  refine LD.drop rfl rfl ⟨27, _, rfl, rfl, rfl⟩ ?_
  refine LD.drop rfl rfl ⟨27, _, rfl, rfl, rfl⟩ ?_
  refine LD.drop rfl rfl ⟨27, _, rfl, rfl, rfl⟩ ?_
  refine LD.drop rfl rfl ⟨27, _, rfl, rfl, rfl⟩ ?_
  refine LD.drop rfl rfl ⟨27, _, rfl, rfl, rfl⟩ ?_
  refine LD.drop rfl rfl ⟨27, _, rfl, rfl, rfl⟩ ?_
  refine LD.drop rfl rfl ⟨27, _, rfl, rfl, rfl⟩ ?_
  refine LD.drop rfl rfl ⟨27, _, rfl, rfl, rfl⟩ ?_
  refine LD.val rfl rfl (ov_pickT rfl rfl) ?_
  refine LD.val rfl rfl (ov_assign rfl) ?_
  refine LD.nil ?_
  refine QM.sub (e' := [(0, _), (2, _), (16, _)]) ⟨rfl, rfl, rfl, trivial⟩ (QM.then ?_)
  refine wpM.condT rfl ?_
  refine wpM.seq (wpM.region ?_)
  refine LM.mv rfl ?_
  refine LM.cW (oc_call (enters_fn Tryz.func81 (by kernel_rfl) rfl) rfl) (fun w hm hc hg => tfail_spec b (ad := ad) (n := n) (cap := cap) (needE ws i e 1 nm).1 (needE ws i e 1 nm).2 5 w (hm.pick _)) rfl (fun hlt => by first | exact rfl | exact absurd hlt (by omega)) ?_
  refine LM.nil (QM.sub (e' := []) trivial (QM.then (wpM.seq (wpM.region ?_))))
  refine LM.as rfl ?_
  refine LM.nil (QM.sub (e' := [(6, _)]) ⟨rfl, trivial⟩ (QM.then ?_))
  refine wpM.ret ?_
  refine QM.block_ret ?_
  refine QM.then_ret ?_
  refine QM.leave (.inl rfl) [.tmp 6] Tryz.results34 rfl ?_
  intro w' hm' hc' hg'
  have h9 := hm'.at b; rw [he0, if_pos rfl] at h9; unfold fldE; rw [he0, num_c (by decide) (.inl (by omega))]; exact ⟨rfl, hc', h9⟩
 refine LD.val rfl ⟨27, _, rfl, rfl, rfl⟩ (ov_move rfl) ?_
 refine LD.val rfl ⟨27, _, rfl, rfl, rfl⟩ (ov_nilCheck rfl) ?_
 refine LD.val rfl ⟨27, _, rfl, rfl, rfl⟩ (ov_field Tryz.underlying70 rfl Tryz.sizeOf23 rfl (k := 0) rfl rfl) ?_
 refine LD.rd rfl ⟨27, _, rfl, rfl, rfl⟩ (om_ld Tryz.isAgg23 rfl rfl) ?_
 refine LD.val rfl ⟨27, _, rfl, rfl, rfl⟩ (ov_move rfl) ?_
 refine LD.val rfl ⟨27, _, rfl, rfl, rfl⟩ (ov_nilCheck rfl) ?_
 refine LD.val rfl ⟨27, _, rfl, rfl, rfl⟩ (ov_field Tryz.underlying70 rfl Tryz.sizeOf3 rfl (k := 1) rfl rfl) ?_
 refine LD.rd rfl ⟨27, _, rfl, rfl, rfl⟩ (om_ld Tryz.isAgg3 rfl rfl) ?_
 refine LD.val rfl ⟨27, _, rfl, rfl, rfl⟩ (ov_idxSN au6 Tryz.underlying23 Tryz.sizeOf65 rfl rfl (by omega)) ?_
 refine LD.val rfl ⟨27, _, rfl, rfl, rfl⟩ (ov_field Tryz.underlying65 rfl Tryz.sizeOf3 rfl (k := 0) rfl rfl) ?_
 first | refine LD.rd rfl ⟨27, _, rfl, rfl, rfl⟩ (om_slE (j := 0) (by assumption) (by intro _; rfl) Tryz.isAgg3 rfl rfl au3 rfl (by rfl)) ?_ | refine LD.rdC rfl ⟨27, _, rfl, rfl, rfl⟩ (om_srE (j := 0) (by assumption) Tryz.isAgg3 rfl rfl au3 (by rfl) (by rfl) (by exact hab (by omega))) ?_ | refine LD.rd rfl ⟨27, _, rfl, rfl, rfl⟩ (om_ld Tryz.isAgg3 rfl rfl) ?_
 refine LD.val rfl ⟨27, _, rfl, rfl, rfl⟩ (ov_neq rfl rfl) ?_
 refine LD.val rfl rfl (ov_pickF rfl rfl) ?_
 refine LD.val rfl rfl (ov_assign rfl) ?_
 refine LD.nil ?_
 refine QM.sub (e' := [(0, _), (2, _), (16, _)]) ⟨rfl, rfl, rfl, trivial⟩ (QM.then ?_)
 refine wpM.condD rfl (fun h3 => ?_) (fun h3 => ?_)
 ·
  refine wpM.seq (wpM.region ?_)
  refine LM.mv rfl ?_
  refine LM.cW (oc_call (enters_fn Tryz.func81 (by kernel_rfl) rfl) rfl) (fun w hm hc hg => tfail_spec b (ad := ad) (n := n) (cap := cap) (needE ws i e 1 nm).1 (needE ws i e 1 nm).2 5 w (hm.pick _)) rfl (fun hlt => by first | exact rfl | exact absurd hlt (by omega)) ?_
  refine LM.nil (QM.sub (e' := []) trivial (QM.then (wpM.seq (wpM.region ?_))))
  refine LM.as rfl ?_
  refine LM.nil (QM.sub (e' := [(6, _)]) ⟨rfl, trivial⟩ (QM.then ?_))
  refine wpM.ret ?_
  refine QM.block_ret ?_
  refine QM.then_ret ?_
  refine QM.leave (.inl rfl) [.tmp 6] Tryz.results34 rfl ?_
  intro w' hm' hc' hg'
  have h9 := hm'.at b; rw [he0, if_pos rfl] at h9; unfold fldE; rw [he0, num_c (by decide) (.inr h3)]; exact ⟨rfl, hc', h9⟩
 refine wpM.seq ?_
 refine wpM.draw [(0, 0), (1, 0), (2, 0), (3, 1), (4, 0), (5, 0), (6, 0), (7, 1), (8, 0), (9, 0), (10, 1), (11, 0), (12, 0), (13, 0), (14, 0), (15, 0), (16, 1), (17, 0), (18, 0), (19, 0), (20, 1), (21, 0), (22, 0), (23, 1), (24, 0), (25, 0), (26, 0), (27, 0)] (by kernel_rfl) (by kernel_rfl) ?_
 refine LD.val rfl rfl (ov_move rfl) ?_
 refine LD.val rfl rfl (ov_nilCheck rfl) ?_
 refine LD.val rfl rfl (ov_field Tryz.underlying70 rfl Tryz.sizeOf23 rfl (k := 0) rfl rfl) ?_
 refine LD.rd rfl rfl (om_ld Tryz.isAgg23 rfl rfl) ?_
 refine LD.val rfl rfl (ov_move rfl) ?_
 refine LD.val rfl rfl (ov_nilCheck rfl) ?_
 refine LD.val rfl rfl (ov_field Tryz.underlying70 rfl Tryz.sizeOf3 rfl (k := 1) rfl rfl) ?_
 refine LD.rd rfl rfl (om_ld Tryz.isAgg3 rfl rfl) ?_
 refine LD.val rfl rfl (ov_idxSN au6 Tryz.underlying23 Tryz.sizeOf65 rfl rfl (by omega)) ?_
 refine LD.val rfl rfl (ov_field Tryz.underlying65 rfl Tryz.sizeOf3 rfl (k := 2) rfl rfl) ?_
 first | refine LD.rd rfl rfl (om_slE (j := 2) (by assumption) (by intro _; rfl) Tryz.isAgg3 rfl rfl au3 rfl (by rfl)) ?_ | refine LD.rdC rfl rfl (om_srE (j := 2) (by assumption) Tryz.isAgg3 rfl rfl au3 (by rfl) (by rfl) (by exact hab (by omega))) ?_ | refine LD.rd rfl rfl (om_ld Tryz.isAgg3 rfl rfl) ?_
 refine LD.val rfl rfl (ov_lss rfl rfl) ?_
 refine LD.val rfl rfl (ov_move rfl) ?_
 refine LD.splitD (t := 56) rfl (fun h4 => ?_) (fun h4 => ?_)
 ·
  refine LD.drop rfl rfl ⟨56, _, rfl, rfl, rfl⟩ ?_
  refine LD.drop rfl rfl ⟨56, _, rfl, rfl, rfl⟩ ?_
  refine LD.drop rfl rfl ⟨56, _, rfl, rfl, rfl⟩ ?_
  refine LD.drop rfl rfl ⟨56, _, rfl, rfl, rfl⟩ ?_
  refine LD.drop rfl rfl ⟨56, _, rfl, rfl, rfl⟩ ?_
  refine LD.drop rfl rfl ⟨56, _, rfl, rfl, rfl⟩ ?_
  refine LD.drop rfl rfl ⟨56, _, rfl, rfl, rfl⟩ ?_
  refine LD.drop rfl rfl ⟨56, _, rfl, rfl, rfl⟩ ?_
  refine LD.drop rfl rfl ⟨56, _, rfl, rfl, rfl⟩ ?_
  refine LD.drop rfl rfl ⟨56, _, rfl, rfl, rfl⟩ ?_
  refine LD.drop rfl rfl ⟨56, _, rfl, rfl, rfl⟩ ?_
  refine LD.drop rfl rfl ⟨56, _, rfl, rfl, rfl⟩ ?_
  refine LD.drop rfl rfl ⟨56, _, rfl, rfl, rfl⟩ ?_
  refine LD.val rfl rfl (ov_pickT rfl rfl) ?_
  refine LD.val rfl rfl (ov_assign rfl) ?_
  refine LD.nil ?_
  refine QM.sub (e' := [(0, _), (43, _)]) ⟨rfl, rfl, trivial⟩ (QM.then ?_)
  refine wpM.condT rfl ?_
  refine wpM.seq (wpM.region ?_)
  refine LM.mv rfl ?_
  refine LM.cW (oc_call (enters_fn Tryz.func81 (by kernel_rfl) rfl) rfl) (fun w hm hc hg => tfail_spec b (ad := ad) (n := n) (cap := cap) (needE ws i e 1 nm).1 (needE ws i e 1 nm).2 1 w (hm.pick _)) rfl (fun hlt => by first | exact rfl | exact absurd hlt (by omega)) ?_
  refine LM.nil (QM.sub (e' := []) trivial (QM.then (wpM.seq (wpM.region ?_))))
  refine LM.as rfl ?_
  refine LM.nil (QM.sub (e' := [(6, _)]) ⟨rfl, trivial⟩ (QM.then ?_))
  refine wpM.ret ?_
  refine QM.block_ret ?_
  refine QM.then_ret ?_
  refine QM.leave (.inl rfl) [.tmp 6] Tryz.results34 rfl ?_
  intro w' hm' hc' hg'
  have h9 := hm'.at b; rw [he0, if_pos rfl] at h9; unfold fldE; rw [he0, num_d (by decide) (by omega) (Classical.not_not.1 h3) (by unfold hasB; rw [if_neg (by decide), decide_eq_false (by omega)]; rfl)]; exact ⟨rfl, hc', h9⟩
 refine LD.val rfl ⟨56, _, rfl, rfl, rfl⟩ (ov_move rfl) ?_
 refine LD.val rfl ⟨56, _, rfl, rfl, rfl⟩ (ov_nilCheck rfl) ?_
 refine LD.val rfl ⟨56, _, rfl, rfl, rfl⟩ (ov_field Tryz.underlying70 rfl Tryz.sizeOf23 rfl (k := 0) rfl rfl) ?_
 refine LD.rd rfl ⟨56, _, rfl, rfl, rfl⟩ (om_ld Tryz.isAgg23 rfl rfl) ?_
 refine LD.val rfl ⟨56, _, rfl, rfl, rfl⟩ (ov_move rfl) ?_
 refine LD.val rfl ⟨56, _, rfl, rfl, rfl⟩ (ov_nilCheck rfl) ?_
 refine LD.val rfl ⟨56, _, rfl, rfl, rfl⟩ (ov_field Tryz.underlying70 rfl Tryz.sizeOf3 rfl (k := 1) rfl rfl) ?_
 refine LD.rd rfl ⟨56, _, rfl, rfl, rfl⟩ (om_ld Tryz.isAgg3 rfl rfl) ?_
 refine LD.val rfl ⟨56, _, rfl, rfl, rfl⟩ (ov_idxSN au6 Tryz.underlying23 Tryz.sizeOf65 rfl rfl (by omega)) ?_
 refine LD.val rfl ⟨56, _, rfl, rfl, rfl⟩ (ov_field Tryz.underlying65 rfl Tryz.sizeOf3 rfl (k := 2) rfl rfl) ?_
 first | refine LD.rd rfl ⟨56, _, rfl, rfl, rfl⟩ (om_slE (j := 2) (by assumption) (by intro _; rfl) Tryz.isAgg3 rfl rfl au3 rfl (by rfl)) ?_ | refine LD.rdC rfl ⟨56, _, rfl, rfl, rfl⟩ (om_srE (j := 2) (by assumption) Tryz.isAgg3 rfl rfl au3 (by rfl) (by rfl) (by exact hab (by omega))) ?_ | refine LD.rd rfl ⟨56, _, rfl, rfl, rfl⟩ (om_ld Tryz.isAgg3 rfl rfl) ?_
 refine LD.val rfl ⟨56, _, rfl, rfl, rfl⟩ (ov_move rfl) ?_
 refine LD.val rfl ⟨56, _, rfl, rfl, rfl⟩ (ov_gtr rfl rfl) ?_
 refine LD.val rfl rfl (ov_pickF rfl rfl) ?_
 refine LD.val rfl rfl (ov_assign rfl) ?_
 refine LD.nil ?_
 refine QM.sub (e' := [(0, _), (43, _)]) ⟨rfl, rfl, trivial⟩ (QM.then ?_)
 refine wpM.condD rfl (fun h5 => ?_) (fun h5 => ?_)
 ·
  refine wpM.seq (wpM.region ?_)
  refine LM.mv rfl ?_
  refine LM.cW (oc_call (enters_fn Tryz.func81 (by kernel_rfl) rfl) rfl) (fun w hm hc hg => tfail_spec b (ad := ad) (n := n) (cap := cap) (needE ws i e 1 nm).1 (needE ws i e 1 nm).2 1 w (hm.pick _)) rfl (fun hlt => by first | exact rfl | exact absurd hlt (by omega)) ?_
  refine LM.nil (QM.sub (e' := []) trivial (QM.then (wpM.seq (wpM.region ?_))))
  refine LM.as rfl ?_
  refine LM.nil (QM.sub (e' := [(6, _)]) ⟨rfl, trivial⟩ (QM.then ?_))
  refine wpM.ret ?_
  refine QM.block_ret ?_
  refine QM.then_ret ?_
  refine QM.leave (.inl rfl) [.tmp 6] Tryz.results34 rfl ?_
  intro w' hm' hc' hg'
  have h9 := hm'.at b; rw [he0, if_pos rfl] at h9; unfold fldE; rw [he0, num_d (by decide) (by omega) (Classical.not_not.1 h3) (by unfold hasB; rw [if_neg (by decide), decide_eq_true (by omega), decide_eq_false (by omega)]; rfl)]; exact ⟨rfl, hc', h9⟩
 refine wpM.skip ?_
 refine QM.block_normal ?_
 refine QM.then (wpM.seq (wpM.region ?_))
 refine LM.mv rfl ?_
 refine LM.val (ov_nilCheck rfl) ?_
 refine LM.val (ov_field Tryz.underlying70 rfl Tryz.sizeOf3 rfl (k := 1) rfl rfl) ?_
 refine LM.rd (om_ld Tryz.isAgg3 rfl rfl) ?_
 refine LM.val (ov_add64 rfl rfl (by omega)) ?_
 refine LM.val (ov_nilCheck rfl) ?_
 refine LM.val (ov_field Tryz.underlying70 rfl Tryz.sizeOf3 rfl (k := 1) rfl rfl) ?_
 refine LM.st Tryz.sizeOf3 rfl rfl rfl au5 rfl (fun hlt => by first | exact rfl | exact absurd hlt (by omega)) ?_
 refine LM.nil (QM.sub (e' := [(0, _)]) ⟨rfl, trivial⟩ (QM.then ?_))
 refine wpM.seq ?_
 refine wpM.draw [(0, 0), (1, 0), (2, 0), (3, 1), (4, 0), (5, 0), (6, 0), (7, 1), (8, 0), (9, 0), (10, 0), (11, 1), (12, 0)] (by kernel_rfl) (by kernel_rfl) ?_
 refine LD.val rfl rfl (ov_move rfl) ?_
 refine LD.val rfl rfl (ov_nilCheck rfl) ?_
 refine LD.val rfl rfl (ov_field Tryz.underlying70 rfl Tryz.sizeOf23 rfl (k := 0) rfl rfl) ?_
 refine LD.rd rfl rfl (om_ld Tryz.isAgg23 rfl rfl) ?_
 refine LD.val rfl rfl (ov_move rfl) ?_
 refine LD.val rfl rfl (ov_nilCheck rfl) ?_
 refine LD.val rfl rfl (ov_field Tryz.underlying70 rfl Tryz.sizeOf3 rfl (k := 1) rfl rfl) ?_
 refine LD.rd rfl rfl (om_ld Tryz.isAgg3 rfl rfl) ?_
 refine LD.val rfl rfl (ov_sub64 rfl rfl (by omega)) ?_
 first | refine LD.val rfl rfl (ov_idxSN au6 Tryz.underlying23 Tryz.sizeOf65 rfl rfl (by omega)) ?_ | refine LD.val rfl rfl (ov_idxS au6 Tryz.underlying23 Tryz.sizeOf65 rfl rfl (by omega)) ?_ | refine LD.val rfl rfl (ov_idx Tryz.underlying23 Tryz.sizeOf65 rfl rfl (by omega)) ?_
 refine LD.val rfl rfl (ov_field Tryz.underlying65 rfl Tryz.sizeOf3 rfl (k := 2) rfl rfl) ?_
 first | refine LD.rd rfl rfl (om_slE (j := 2) (by assumption) (by intro _; rfl) Tryz.isAgg3 rfl rfl au3 rfl (by rfl)) ?_ | refine LD.rdC rfl rfl (om_srE (j := 2) (by assumption) Tryz.isAgg3 rfl rfl au3 (by rfl) (by rfl) (by exact hab (by omega))) ?_ | refine LD.rd rfl rfl (om_ld Tryz.isAgg3 rfl rfl) ?_
 refine LD.val rfl rfl (ov_assign rfl) ?_
 refine LD.nil ?_
 refine QM.sub (e' := [(6, _)]) ⟨rfl, trivial⟩ (QM.then ?_)
 refine wpM.ret ?_
 refine QM.leave (.inl rfl) [.tmp 6] Tryz.results34 rfl ?_
 intro w' hm' hc' hg'
 have h9 := hm'.at b; rw [he0] at h9; unfold fldE; rw [he0, num_e (by decide) (by omega) (Classical.not_not.1 h3) (by unfold hasB; rw [if_neg (by decide), decide_eq_true (by omega), decide_eq_true (by omega)]; rfl), show (((needE ws i e 1 nm).1 : Int) + 1 - 1).toNat = (needE ws i e 1 nm).1 by omega]; exact ⟨rfl, hc', h9⟩
set_option maxRecDepth 100000 in
theorem troom_spec {ws : List Wrd} (b : Nat) {ad : Option Addr} {n cap : Nat} (i : Nat) (e k most : Int) (w : World) (hM : Mem w [tB b ad n cap i e]) : Ret Tryz.prog 83 #[.pointer (some ⟨b, 0, none⟩), .int .i64 k, .int .i64 most] w (WrP b (.bool (decide (e = 0) && !decide (most ≤ k))) (tO ad n cap i (if e = 0 ∧ most ≤ k then 6 else e)) w) := by
 refine Ret.enterM (l := [.pointer (some ⟨b, 0, none⟩), .int .i64 k, .int .i64 most]) Tryz.func83 rfl Tryz.ntmps83 rfl ([tB b ad n cap i e]) ((fun x => x = b)) hM ?_
 refine wpM.seq (wpM.region ?_)
 refine LM.as rfl ?_
 refine LM.nil (QM.sub (e' := [(0, _), (1, _), (2, _)]) ⟨rfl, rfl, rfl, trivial⟩ (QM.then ?_))
 refine wpM.seq ?_
 refine wpM.seq (wpM.region ?_)
 refine LM.mv rfl ?_
 refine LM.mv rfl ?_
 refine LM.val (ov_geq rfl rfl) ?_
 refine LM.nil (QM.sub (e' := [(0, _), (9, _)]) ⟨rfl, rfl, trivial⟩ (QM.then ?_))
 refine wpM.condD rfl (fun h1 => ?_) (fun h1 => ?_)
 ·
  refine wpM.region ?_
  refine LM.mv rfl ?_
  refine LM.cW (oc_call (enters_fn Tryz.func81 (by kernel_rfl) rfl) rfl) (fun w hm hc hg => tfail_spec b (ad := ad) (n := n) (cap := cap) i e 6 w (hm.pick _)) rfl (fun _ => rfl) ?_
  refine LM.nil (QM.sub (e' := [(0, _)]) ⟨rfl, trivial⟩ (QM.then (wpM.seq (wpM.region ?_))))
  refine LM.mv rfl ?_
  refine LM.val (ov_nilCheck rfl) ?_
  refine LM.val (ov_field Tryz.underlying70 rfl Tryz.sizeOf31 rfl (k := 2) rfl rfl) ?_
  refine LM.rd (om_ld Tryz.isAgg31 rfl rfl) ?_
  refine LM.val (ov_eql rfl rfl) ?_
  refine LM.as rfl ?_
  refine LM.nil (QM.sub (e' := [(6, _)]) ⟨rfl, trivial⟩ (QM.then ?_))
  refine wpM.ret ?_
  refine QM.leave (.inl rfl) [.tmp 6] Tryz.results83 rfl ?_
  intro w' hm' hc' hg'
  have h9 := hm'.at b; have h1' : most ≤ k := h1; refine ⟨?_, hc', ?_⟩; (rw [decide_eq_true h1']; by_cases h0 : e = 0 <;> simp [resV, h0]); (by_cases h0 : e = 0; (rw [if_pos h0] at h9; rw [if_pos ⟨h0, h1'⟩]; exact h9); (rw [if_neg h0] at h9; rw [if_neg (fun q => h0 q.1)]; exact h9))
 refine wpM.skip ?_
 refine QM.then (wpM.seq (wpM.region ?_))
 refine LM.mv rfl ?_
 refine LM.val (ov_nilCheck rfl) ?_
 refine LM.val (ov_field Tryz.underlying70 rfl Tryz.sizeOf31 rfl (k := 2) rfl rfl) ?_
 refine LM.rd (om_ld Tryz.isAgg31 rfl rfl) ?_
 refine LM.val (ov_eql rfl rfl) ?_
 refine LM.as rfl ?_
 refine LM.nil (QM.sub (e' := [(6, _)]) ⟨rfl, trivial⟩ (QM.then ?_))
 refine wpM.ret ?_
 refine QM.leave (.inl rfl) [.tmp 6] Tryz.results83 rfl ?_
 intro w' hm' hc' hg'
 have h9 := hm'.at b; have h1' : ¬ most ≤ k := h1; refine ⟨?_, hc', ?_⟩; (rw [decide_eq_false h1', Bool.not_false, Bool.and_true]; rfl); (rw [if_neg (fun q => h1' q.2)]; exact h9)
set_option maxRecDepth 100000 in
set_option maxHeartbeats 1000000 in
theorem tlockT_spec {ws : List Wrd} (b : Nat) {ad : Option Addr} {n cap : Nat} (i : Nat) (e : Int) (w : World) (hn : n = ws.length) (hx : ws.length ≤ 1000000000) (hl : Sr fW 4 ws (.slice ad n cap) w) (hab : 0 < ws.length → adB ad ≠ b) (hM : Mem w [tB b ad n cap i e]) (hi : i < ws.length) (hsh : isE ws i e 1 wShared = true) : Ret Tryz.prog 84 #[.pointer (some ⟨b, 0, none⟩)] w (WrP b (.agg (fL (lckE ws true (i + 1) e).2.2).toArray) (tO ad n cap (lckE ws true (i + 1) e).1 (lckE ws true (i + 1) e).2.1) w) := by
 refine Ret.enterM (l := [.pointer (some ⟨b, 0, none⟩)]) Tryz.func84 rfl Tryz.ntmps84 rfl ([tB b ad n cap i e]) ((fun x => x = b)) hM ?_
 refine wpM.seq (wpM.region ?_)
 refine LM.alloc Tryz.zeroValue63 rfl (fun b2 hb2 => ?_)
 refine LM.nil (QM.sub (e' := [(0, _), (2, _)]) ⟨rfl, rfl, trivial⟩ (QM.then (wpM.seq (wpM.region ?_))))
 refine LM.mv rfl ?_
 refine LM.callE (oc_call (enters_fn Tryz.func82 (by kernel_rfl) rfl) rfl) (fun w hm hc hg => tis_spec b i e wShared w hn (hl.kp hc hab) (SubM.mem au1 w hm)) ?_
 rw [hsh]
 refine LM.val (ov_build (cs := #[_, _, _, _, _]) rfl (by first | rfl | kernel_rfl)) ?_
 refine LM.alloc Tryz.zeroValue63 rfl (fun b3 hb3 => ?_)
 refine LM.stW Tryz.sizeOf63 rfl rfl rfl rfl au7 (fun hlt => by first | exact rfl | exact absurd hlt (by omega)) ?_
 refine LM.nil (QM.sub (e' := [(0, _), (2, _), (3, _)]) ⟨rfl, rfl, rfl, trivial⟩ (QM.then (wpM.seq (wpM.region ?_))))
 refine LM.mv rfl ?_
 refine LM.val (ov_nilCheck rfl) ?_
 refine LM.val (ov_field Tryz.underlying70 rfl Tryz.sizeOf3 rfl (k := 1) rfl rfl) ?_
 refine LM.rd (om_ld Tryz.isAgg3 rfl rfl) ?_
 refine LM.val (ov_add64 rfl rfl (by omega)) ?_
 refine LM.val (ov_nilCheck rfl) ?_
 refine LM.val (ov_field Tryz.underlying70 rfl Tryz.sizeOf3 rfl (k := 1) rfl rfl) ?_
 refine LM.st Tryz.sizeOf3 rfl rfl rfl au5 rfl (fun hlt => by first | exact rfl | exact absurd hlt (by omega)) ?_
 refine LM.nil (QM.sub (e' := [(0, _), (2, _), (3, _)]) ⟨rfl, rfl, rfl, trivial⟩ (QM.then (wpM.seq (wpM.region ?_))))
 refine LM.mv rfl ?_
 refine LM.cW (oc_call (enters_fn Tryz.func34 (by kernel_rfl) rfl) rfl) (fun w hm hc hg => tfield_spec b (i + 1) e 16 wSlice w hn hx (hl.kp hc hab) hab (SubM.mem au1 w hm)) rfl (fun hlt => by first | exact rfl | exact absurd hlt (by omega)) ?_
 refine LM.val (ov_field Tryz.underlying63 rfl Tryz.sizeOf3 rfl (k := 1) rfl rfl) ?_
 refine LM.st Tryz.sizeOf3 rfl rfl rfl au5 rfl (fun hlt => by first | exact rfl | exact absurd hlt (by omega)) ?_
 refine LM.nil (QM.sub (e' := [(0, _), (2, _), (3, _)]) ⟨rfl, rfl, rfl, trivial⟩ (QM.then (wpM.seq (wpM.region ?_))))
 refine LM.mv rfl ?_
 refine LM.cW (oc_call (enters_fn Tryz.func34 (by kernel_rfl) rfl) rfl) (fun w hm hc hg => tfield_spec b (lkA ws (i + 1) e).1 (lkA ws (i + 1) e).2.1 32 wCrit w hn hx (hl.kp hc hab) hab (SubM.mem au1 w hm)) rfl (fun hlt => by first | exact rfl | exact absurd hlt (by omega)) ?_
 refine LM.val (ov_field Tryz.underlying63 rfl Tryz.sizeOf3 rfl (k := 2) rfl rfl) ?_
 refine LM.st Tryz.sizeOf3 rfl rfl rfl au5 rfl (fun hlt => by first | exact rfl | exact absurd hlt (by omega)) ?_
 refine LM.nil (QM.sub (e' := [(0, _), (2, _), (3, _)]) ⟨rfl, rfl, rfl, trivial⟩ (QM.then ?_))
 refine wpM.seq ?_
 refine wpM.seq (wpM.region ?_)
 refine LM.val (ov_field Tryz.underlying63 rfl Tryz.sizeOf4 rfl (k := 0) rfl rfl) ?_
 refine LM.rd (om_ld Tryz.isAgg4 rfl rfl) ?_
 refine LM.nil (QM.sub (e' := [(0, _), (2, _), (3, _), (21, _)]) ⟨rfl, rfl, rfl, rfl, trivial⟩ (QM.then ?_))
 first | refine wpM.condD rfl (fun h1 => ?_) (fun h1 => ?_) | refine wpM.condB rfl (fun h1 => ?_) (fun h1 => ?_)
 ·
  refine wpM.seq (wpM.region ?_)
  refine LM.mv rfl ?_
  refine LM.cW (oc_call (enters_fn Tryz.func34 (by kernel_rfl) rfl) rfl) (fun w hm hc hg => tfield_spec b (lkB ws (i + 1) e).1 (lkB ws (i + 1) e).2.1 16 wRead w hn hx (hl.kp hc hab) hab (SubM.mem au1 w hm)) rfl (fun hlt => by first | exact rfl | exact absurd hlt (by omega)) ?_
  refine LM.val (ov_field Tryz.underlying63 rfl Tryz.sizeOf3 rfl (k := 3) rfl rfl) ?_
  refine LM.st Tryz.sizeOf3 rfl rfl rfl au5 rfl (fun hlt => by first | exact rfl | exact absurd hlt (by omega)) ?_
  refine LM.nil (QM.sub (e' := [(0, _), (2, _), (3, _)]) ⟨rfl, rfl, rfl, trivial⟩ (QM.then (wpM.region ?_)))
  refine LM.mv rfl ?_
  refine LM.cW (oc_call (enters_fn Tryz.func34 (by kernel_rfl) rfl) rfl) (fun w hm hc hg => tfield_spec b (lkC ws true (i + 1) e).1 (lkC ws true (i + 1) e).2.1 16 wWrite w hn hx (hl.kp hc hab) hab (SubM.mem au1 w hm)) rfl (fun hlt => by first | exact rfl | exact absurd hlt (by omega)) ?_
  refine LM.val (ov_field Tryz.underlying63 rfl Tryz.sizeOf3 rfl (k := 4) rfl rfl) ?_
  refine LM.st Tryz.sizeOf3 rfl rfl rfl au5 rfl (fun hlt => by first | exact rfl | exact absurd hlt (by omega)) ?_
  refine LM.nil (QM.sub (e' := [(0, _), (2, _), (3, _)]) ⟨rfl, rfl, rfl, trivial⟩ (QM.then (wpM.seq (wpM.region ?_))))
  refine LM.mv rfl ?_
  refine LM.cW (oc_call (enters_fn Tryz.func35 (by kernel_rfl) rfl) rfl) (fun w hm hc hg => tend_spec b (lkD ws true (i + 1) e).1 (lkD ws true (i + 1) e).2.1 w hn hx (hl.kp hc hab) hab (SubM.mem au1 w hm)) rfl (fun hlt => by first | exact rfl | exact absurd hlt (by omega)) ?_
  refine LM.nil (QM.sub (e' := [(2, _), (3, _)]) ⟨rfl, rfl, trivial⟩ (QM.then (wpM.seq (wpM.region ?_))))
  refine LM.rd (om_ldW Tryz.isAgg63 Tryz.sizeOf63 rfl rfl) ?_
  refine LM.stW Tryz.sizeOf63 rfl rfl rfl rfl au7 (fun hlt => by first | exact rfl | exact absurd hlt (by omega)) ?_
  refine LM.nil (QM.sub (e' := [(2, _)]) ⟨rfl, trivial⟩ (QM.then ?_))
  refine wpM.ret ?_
  refine QM.leaveCs (ds := ([])) (.inl rfl) [.cell 2 63] Tryz.results84 hd_nil (rc_w rfl Tryz.isAgg63 Tryz.sizeOf63 rfl rc_nil) ?_
  intro w' hm' hc'
  exact ⟨rfl, hc', hm'.at b⟩
 cases h1
set_option maxRecDepth 100000 in
set_option maxHeartbeats 1000000 in
theorem tlockF_spec {ws : List Wrd} (b : Nat) {ad : Option Addr} {n cap : Nat} (i : Nat) (e : Int) (w : World) (hn : n = ws.length) (hx : ws.length ≤ 1000000000) (hl : Sr fW 4 ws (.slice ad n cap) w) (hab : 0 < ws.length → adB ad ≠ b) (hM : Mem w [tB b ad n cap i e]) (hi : i < ws.length) (hsh : isE ws i e 1 wShared = false) : Ret Tryz.prog 84 #[.pointer (some ⟨b, 0, none⟩)] w (WrP b (.agg (fL (lckE ws false (i + 1) e).2.2).toArray) (tO ad n cap (lckE ws false (i + 1) e).1 (lckE ws false (i + 1) e).2.1) w) := by
 refine Ret.enterM (l := [.pointer (some ⟨b, 0, none⟩)]) Tryz.func84 rfl Tryz.ntmps84 rfl ([tB b ad n cap i e]) ((fun x => x = b)) hM ?_
 refine wpM.seq (wpM.region ?_)
 refine LM.alloc Tryz.zeroValue63 rfl (fun b2 hb2 => ?_)
 refine LM.nil (QM.sub (e' := [(0, _), (2, _)]) ⟨rfl, rfl, trivial⟩ (QM.then (wpM.seq (wpM.region ?_))))
 refine LM.mv rfl ?_
 refine LM.callE (oc_call (enters_fn Tryz.func82 (by kernel_rfl) rfl) rfl) (fun w hm hc hg => tis_spec b i e wShared w hn (hl.kp hc hab) (SubM.mem au1 w hm)) ?_
 rw [hsh]
 refine LM.val (ov_build (cs := #[_, _, _, _, _]) rfl (by first | rfl | kernel_rfl)) ?_
 refine LM.alloc Tryz.zeroValue63 rfl (fun b3 hb3 => ?_)
 refine LM.stW Tryz.sizeOf63 rfl rfl rfl rfl au7 (fun hlt => by first | exact rfl | exact absurd hlt (by omega)) ?_
 refine LM.nil (QM.sub (e' := [(0, _), (2, _), (3, _)]) ⟨rfl, rfl, rfl, trivial⟩ (QM.then (wpM.seq (wpM.region ?_))))
 refine LM.mv rfl ?_
 refine LM.val (ov_nilCheck rfl) ?_
 refine LM.val (ov_field Tryz.underlying70 rfl Tryz.sizeOf3 rfl (k := 1) rfl rfl) ?_
 refine LM.rd (om_ld Tryz.isAgg3 rfl rfl) ?_
 refine LM.val (ov_add64 rfl rfl (by omega)) ?_
 refine LM.val (ov_nilCheck rfl) ?_
 refine LM.val (ov_field Tryz.underlying70 rfl Tryz.sizeOf3 rfl (k := 1) rfl rfl) ?_
 refine LM.st Tryz.sizeOf3 rfl rfl rfl au5 rfl (fun hlt => by first | exact rfl | exact absurd hlt (by omega)) ?_
 refine LM.nil (QM.sub (e' := [(0, _), (2, _), (3, _)]) ⟨rfl, rfl, rfl, trivial⟩ (QM.then (wpM.seq (wpM.region ?_))))
 refine LM.mv rfl ?_
 refine LM.cW (oc_call (enters_fn Tryz.func34 (by kernel_rfl) rfl) rfl) (fun w hm hc hg => tfield_spec b (i + 1) e 16 wSlice w hn hx (hl.kp hc hab) hab (SubM.mem au1 w hm)) rfl (fun hlt => by first | exact rfl | exact absurd hlt (by omega)) ?_
 refine LM.val (ov_field Tryz.underlying63 rfl Tryz.sizeOf3 rfl (k := 1) rfl rfl) ?_
 refine LM.st Tryz.sizeOf3 rfl rfl rfl au5 rfl (fun hlt => by first | exact rfl | exact absurd hlt (by omega)) ?_
 refine LM.nil (QM.sub (e' := [(0, _), (2, _), (3, _)]) ⟨rfl, rfl, rfl, trivial⟩ (QM.then (wpM.seq (wpM.region ?_))))
 refine LM.mv rfl ?_
 refine LM.cW (oc_call (enters_fn Tryz.func34 (by kernel_rfl) rfl) rfl) (fun w hm hc hg => tfield_spec b (lkA ws (i + 1) e).1 (lkA ws (i + 1) e).2.1 32 wCrit w hn hx (hl.kp hc hab) hab (SubM.mem au1 w hm)) rfl (fun hlt => by first | exact rfl | exact absurd hlt (by omega)) ?_
 refine LM.val (ov_field Tryz.underlying63 rfl Tryz.sizeOf3 rfl (k := 2) rfl rfl) ?_
 refine LM.st Tryz.sizeOf3 rfl rfl rfl au5 rfl (fun hlt => by first | exact rfl | exact absurd hlt (by omega)) ?_
 refine LM.nil (QM.sub (e' := [(0, _), (2, _), (3, _)]) ⟨rfl, rfl, rfl, trivial⟩ (QM.then ?_))
 refine wpM.seq ?_
 refine wpM.seq (wpM.region ?_)
 refine LM.val (ov_field Tryz.underlying63 rfl Tryz.sizeOf4 rfl (k := 0) rfl rfl) ?_
 refine LM.rd (om_ld Tryz.isAgg4 rfl rfl) ?_
 refine LM.nil (QM.sub (e' := [(0, _), (2, _), (3, _), (21, _)]) ⟨rfl, rfl, rfl, rfl, trivial⟩ (QM.then ?_))
 first | refine wpM.condD rfl (fun h1 => ?_) (fun h1 => ?_) | refine wpM.condB rfl (fun h1 => ?_) (fun h1 => ?_)
 ·
  cases h1
 refine wpM.skip ?_
 refine QM.then (wpM.seq (wpM.region ?_))
 refine LM.mv rfl ?_
 refine LM.cW (oc_call (enters_fn Tryz.func35 (by kernel_rfl) rfl) rfl) (fun w hm hc hg => tend_spec b (lkD ws false (i + 1) e).1 (lkD ws false (i + 1) e).2.1 w hn hx (hl.kp hc hab) hab (SubM.mem au1 w hm)) rfl (fun hlt => by first | exact rfl | exact absurd hlt (by omega)) ?_
 refine LM.nil (QM.sub (e' := [(2, _), (3, _)]) ⟨rfl, rfl, trivial⟩ (QM.then (wpM.seq (wpM.region ?_))))
 refine LM.rd (om_ldW Tryz.isAgg63 Tryz.sizeOf63 rfl rfl) ?_
 refine LM.stW Tryz.sizeOf63 rfl rfl rfl rfl au7 (fun hlt => by first | exact rfl | exact absurd hlt (by omega)) ?_
 refine LM.nil (QM.sub (e' := [(2, _)]) ⟨rfl, trivial⟩ (QM.then ?_))
 refine wpM.ret ?_
 refine QM.leaveCs (ds := ([])) (.inl rfl) [.cell 2 63] Tryz.results84 hd_nil (rc_w rfl Tryz.isAgg63 Tryz.sizeOf63 rfl rc_nil) ?_
 intro w' hm' hc'
 exact ⟨rfl, hc', hm'.at b⟩
theorem tlock_spec {ws : List Wrd} (b : Nat) {ad : Option Addr} {n cap : Nat} (i : Nat) (e : Int) (w : World) (hn : n = ws.length) (hx : ws.length ≤ 1000000000) (hl : Sr fW 4 ws (.slice ad n cap) w) (hab : 0 < ws.length → adB ad ≠ b) (hM : Mem w [tB b ad n cap i e]) (hi : i < ws.length) :
    Ret Tryz.prog 84 #[.pointer (some ⟨b, 0, none⟩)] w (WrP b (.agg (fL (lckE ws (isE ws i e 1 wShared) (i + 1) e).2.2).toArray) (tO ad n cap (lckE ws (isE ws i e 1 wShared) (i + 1) e).1 (lckE ws (isE ws i e 1 wShared) (i + 1) e).2.1) w) := by
  cases hq : isE ws i e 1 wShared
  · exact tlockF_spec b i e w hn hx hl hab hM hi hq
  · exact tlockT_spec b i e w hn hx hl hab hM hi hq
theorem room_t {e m : Int} {n : Nat} (he : e = 0) : ((decide (e = 0) && !decide (m ≤ (n : Int))) = true → (n : Int) < m ∧ (if e = 0 ∧ m ≤ (n : Int) then 6 else e) = e) ∧ ((decide (e = 0) && !decide (m ≤ (n : Int))) = false → m ≤ (n : Int) ∧ (if e = 0 ∧ m ≤ (n : Int) then 6 else e) = 6) := by
  by_cases h : m ≤ (n : Int)
  · rw [decide_eq_true he, decide_eq_true h, if_pos ⟨he, h⟩]; exact ⟨fun q => (by cases q), fun _ => ⟨h, rfl⟩⟩
  · rw [decide_eq_true he, decide_eq_false h, if_neg (fun q => h q.2)]; exact ⟨fun _ => ⟨by omega, rfl⟩, fun q => (by cases q)⟩
theorem gpF_le {ws : List Wrd} : ∀ (f i : Nat) (e : Int) (gs : List Int), i ≤ ws.length → (gpF ws f i e gs).2.1 ≤ ws.length
  | 0, i, e, gs, h => by unfold gpF; split <;> exact h
  | f + 1, i, e, gs, h => by
    unfold gpF; split
    · exact gpF_le f _ _ _ (lin_le h)
    · exact h
theorem lkF_le {ws : List Wrd} : ∀ (f i : Nat) (e : Int) (ls : List CLk), i ≤ ws.length → (lkF ws f i e ls).2.1 ≤ ws.length
  | 0, i, e, ls, h => by unfold lkF; split <;> exact h
  | f + 1, i, e, ls, h => by
    unfold lkF; split
    · rename_i q; exact lkF_le f _ _ _ (lck_le (isL_lt q).1)
    · exact h
set_option maxRecDepth 100000 in
set_option maxHeartbeats 1000000 in
theorem tgroups_spec {ws : List Wrd} (b : Nat) {ad : Option Addr} {n cap : Nat} (i : Nat) (e : Int) (w : World) (hn : n = ws.length) (hx : ws.length ≤ 1000000000) (hl : Sr fW 4 ws (.slice ad n cap) w) (hab : 0 < ws.length → adB ad ≠ b) (hM : Mem w [tB b ad n cap i e]) : Ret Tryz.prog 36 #[.pointer (some ⟨b, 0, none⟩)] w (WrN b (tO ad n cap (gpO ws i e).2.1 (gpO ws i e).2.2) (GpT (gpO ws i e)) w) := by
 refine Ret.enterM (l := [.pointer (some ⟨b, 0, none⟩)]) Tryz.func36 rfl Tryz.ntmps36 rfl ([tB b ad n cap i e]) ((fun x => x = b)) hM ?_
 refine wpM.seq (wpM.region ?_)
 refine LM.as rfl ?_
 refine LM.nil (QM.sub (e' := [(0, _)]) ⟨rfl, trivial⟩ (QM.then (wpM.seq (wpM.region ?_))))
 refine LM.mv rfl ?_
 refine LM.cW (oc_call (enters_fn Tryz.func34 (by kernel_rfl) rfl) rfl) (fun w hm hc hg => tfield_spec b i e 16 wGroup w hn hx (hl.kp hc hab) hab (SubM.mem au1 w hm)) rfl (fun hlt => by first | exact rfl | exact absurd hlt (by omega)) ?_
 refine LM.single Tryz.underlying26 Tryz.sizeOf3 Tryz.zeroValue3 rfl rfl rfl rfl rfl (fun b6 hb6 => ?_)
 refine LM.as rfl ?_
 refine LM.nil (QM.sub (e' := [(0, _), (3, _)]) ⟨rfl, rfl, trivial⟩ (QM.then (wpM.seq (wpM.region ?_))))
 change LM _ _ _ _ _ _ _ _ ((b6, Obj.cells (arr fI [(fldE ws i e wGroup 16).2.2] []) 3 (0, 0)) :: _) _ _ _; have hs6 : Sl fI 3 1 w.heap.size [(fldE ws i e wGroup 16).2.2] (.slice (some ⟨b6, 0, none⟩) 1 1) [(b6, .cells (arr fI [(fldE ws i e wGroup 16).2.2] []) 3 (0, 0))] := .inr ⟨b6, 1, [], hb6, rfl, rfl, Nat.le_refl _, by unfold maxLen; decide, rfl⟩
 refine LM.mv rfl ?_
 refine LM.cW (oc_call (enters_fn Tryz.func35 (by kernel_rfl) rfl) rfl) (fun w hm hc hg => tend_spec b (fldE ws i e wGroup 16).1 (fldE ws i e wGroup 16).2.1 w hn hx (hl.kp hc hab) hab (SubM.mem au1 w hm)) rfl (fun hlt => by first | exact rfl | exact absurd hlt (by omega)) ?_
 refine LM.nil (QM.sub (e' := [(0, _), (3, _)]) ⟨rfl, rfl, trivial⟩ (QM.then ?_))
 refine wpM.seq ?_
 refine wpM.block ?_
 refine wpM.loopK0 (α := Nat × Int × List Int × Option Addr × Nat × Nat × Mem0) (fun ⟨j, x, gs, adg, ng, cg, mg⟩ => [(3, .slice adg ng cg)]) [(0, _)] (fun ⟨j, x, gs, adg, ng, cg, mg⟩ => mg ++ (tB b ad n cap j x :: [])) (fun ⟨j, x, gs, adg, ng, cg, mg⟩ => gpL ws j x gs = gpO ws i e ∧ 1 ≤ gs.length ∧ gs.length ≤ 4 ∧ ng = gs.length ∧ Sl fI 3 1 w.heap.size gs (.slice adg ng cg) mg) (fun ⟨j, x, gs, adg, ng, cg, mg⟩ => 5 - gs.length) (((linE ws i e wGroup 16).1, (linE ws i e wGroup 16).2.1, [(linE ws i e wGroup 16).2.2], some ⟨b6, 0, none⟩, 1, 1, [(b6, .cells (arr fI [(fldE ws i e wGroup 16).2.2] []) 3 (0, 0))])) ⟨au2, rfl, trivial⟩ au1 ⟨rfl, by simp, by simp, rfl, hs6⟩ ?_
 rintro ⟨j, x, gs, adg, ng, cg, mg⟩ ⟨hG, hg1, hg4, hng, hsg⟩
 change wpM _ _ _ _ _ _ _ (mg ++ (tB b ad n cap j x :: [])) _ _ _
 refine wpM.seq ?_
 refine wpM.seq ?_
 refine wpM.joinK (α := Bool × Int) (fun ⟨q, y⟩ => [(16, .bool q)]) [(0, _), (3, _)] (fun ⟨q, y⟩ => mg ++ (tB b ad n cap j y :: [])) (fun ⟨q, y⟩ => (q = true → isE ws j x 1 wGroup = true ∧ ng < 4 ∧ x = y) ∧ (q = false → gpL ws j x gs = (gs, j, y))) ⟨rfl, rfl, trivial⟩ ?_ ?_
 ·
  refine wpM.region ?_
  refine LM.mv rfl ?_
  refine LM.callE (oc_call (enters_fn Tryz.func82 (by kernel_rfl) rfl) rfl) (fun w hm hc hg => tis_spec b j x wGroup w hn (hl.kp hc hab) (SubM.mem au1 w hm)) ?_
  refine LM.mv rfl ?_
  first | refine LM.splitD (t := 11) rfl (fun h1 => ?_) (fun h1 => ?_) | refine LM.splitB (t := 11) rfl (fun h1 => ?_) (fun h1 => ?_)
  ·
   refine LM.sp 11 rfl rfl rfl ?_
   refine LM.mv rfl ?_
   refine LM.sp 11 rfl rfl rfl ?_
   refine LM.mv rfl ?_
   refine LM.sp 11 rfl rfl rfl ?_
   refine LM.val (ov_len Tryz.underlying26 rfl) ?_
   refine LM.sp 11 rfl rfl rfl ?_
   refine LM.cW (oc_call (enters_fn Tryz.func83 (by kernel_rfl) rfl) rfl) (fun w hm hc hg => troom_spec (ws := ws) b j x (ng : Nat) 4 w (SubM.mem au1 w hm)) rfl (fun hlt => by first | exact rfl | exact absurd hlt (by omega)) ?_
   refine LM.val (ov_pickT rfl rfl) ?_
   refine LM.nil (QM.sub (e' := [(0, _), (3, _), (16, _)]) ⟨rfl, rfl, rfl, trivial⟩ ?_)
   refine QM.meetK ((decide (x = 0) && !decide ((4 : Int) ≤ (ng : Nat)), (if x = 0 ∧ (4 : Int) ≤ (ng : Nat) then 6 else x))) ⟨au2, rfl, rfl, trivial⟩ au1 ?_
   · have hr := room_t (m := 4) (n := ng) (isE_lt h1).2; exact ⟨fun q => ⟨h1, by have := (hr.1 q).1; omega, (hr.1 q).2.symm⟩, fun q => by rw [(hr.2 q).2]; exact gpL_full h1 (by have := (hr.2 q).1; omega)⟩
  refine LM.dr 11 rfl rfl rfl ?_
  refine LM.dr 11 rfl rfl rfl ?_
  refine LM.dr 11 rfl rfl rfl ?_
  refine LM.dr 11 rfl rfl rfl ?_
  refine LM.val (ov_pickF rfl rfl) ?_
  refine LM.nil (QM.sub (e' := [(0, _), (3, _), (16, _)]) ⟨rfl, rfl, rfl, trivial⟩ ?_)
  refine QM.meetK ((false, x)) ⟨au2, rfl, rfl, trivial⟩ au1 ?_
  · exact ⟨fun q => (by cases q), fun _ => gpL_stop h1⟩
 rintro ⟨q, y⟩ ⟨hq1, hq2⟩
 change QM _ _ _ _ _ (mg ++ (tB b ad n cap j y :: [])) _ _ _
 refine QM.then ?_
 first | refine wpM.condD rfl (fun h2 => ?_) (fun h2 => ?_) | refine wpM.condB rfl (fun h2 => ?_) (fun h2 => ?_)
 ·
  obtain ⟨hQ, hlt4, rfl⟩ := hq1 h2
  refine wpM.skip ?_
  refine QM.then ?_
  refine wpM.block ?_
  refine wpM.seq (wpM.region ?_)
  refine LM.mv rfl ?_
  refine LM.mv rfl ?_
  refine LM.cW (oc_call (enters_fn Tryz.func34 (by kernel_rfl) rfl) rfl) (fun w hm hc hg => tfield_spec b j x 16 wGroup w hn hx (hl.kp hc hab) hab (SubM.mem au1 w hm)) rfl (fun hlt => by first | exact rfl | exact absurd hlt (by omega)) ?_
  refine LM.single Tryz.underlying26 Tryz.sizeOf3 Tryz.zeroValue3 rfl rfl rfl rfl rfl (fun b20 hb20 => ?_)
  refine LM.app (a := (fldE ws j x wGroup 16).2.2) Tryz.underlying26 Tryz.typeInfo3 rfl rfl rfl rfl rfl rfl rfl (by assumption) (by rfl) (by intro _; rfl) (by intro _ u hu; simp [fI] at hu; (repeat (first | (rcases hu with rfl | hu) | subst hu | rfl))) (by first | exact Nat.le_refl _ | omega) au9 (by first | omega | (unfold maxLen; omega)) (by simp only [Tryz.t3]; omega) (fun ad21 n21 cap21 m21 hn21 hs21 hin21 => ?_)
  refine LM.as rfl ?_
  refine LM.nil (QM.sub (e' := [(0, _), (3, _)]) ⟨rfl, rfl, trivial⟩ (QM.then (wpM.region ?_)))
  refine LM.mv rfl ?_
  refine LM.cW (oc_call (enters_fn Tryz.func35 (by kernel_rfl) rfl) rfl) (fun w hm hc hg => tend_spec b (fldE ws j x wGroup 16).1 (fldE ws j x wGroup 16).2.1 w hn hx (hl.kp hc hab) hab (SubM.mem au1 w hm)) rfl (fun hlt => by first | exact rfl | exact absurd hlt (by omega)) ?_
  refine LM.nil (QM.sub (e' := [(0, _), (3, _)]) ⟨rfl, rfl, trivial⟩ ?_)
  refine QM.block_normal ?_
  refine QM.againK (((linE ws j x wGroup 16).1, (linE ws j x wGroup 16).2.1, gs ++ [(linE ws j x wGroup 16).2.2], ad21, n21, cap21, m21)) ⟨au2, rfl, trivial⟩ au1 (fun _ h => h) ?_ ?_
  · exact ⟨by rw [← gpL_next hQ (by omega)]; exact hG, by simp, by simp; omega, by rw [hn21]; simp, hs21⟩
  · dsimp only; rw [List.length_append, List.length_singleton]; omega
 have hR := hq2 h2
 refine wpM.exit ?_
 refine QM.then_exit ?_
 refine QM.then_exit ?_
 refine QM.block_hit ?_
 refine QM.then (wpM.seq (wpM.region ?_))
 refine LM.mv rfl ?_
 refine LM.as rfl ?_
 refine LM.nil (QM.sub (e' := [(2, _)]) ⟨rfl, trivial⟩ (QM.then ?_))
 refine wpM.ret ?_
 refine QM.leave (.inl rfl) [.tmp 2] Tryz.results36 rfl ?_
 intro w' hm' hc' hg'
 rw [hG] at hR; have h9 := hm'.at b; rw [hR]; exact ⟨hc', h9, mg, ⟨gs, adg, ng, cg, rfl, hng, hsg, fun _ => rfl⟩, hm'.pick mg, fun p hp => Sl.ge hsg p hp⟩
set_option maxRecDepth 100000 in
set_option maxHeartbeats 1000000 in
theorem tlocks_spec {ws : List Wrd} (b : Nat) {ad : Option Addr} {n cap : Nat} (i : Nat) (e : Int) (w : World) (hn : n = ws.length) (hx : ws.length ≤ 1000000000) (hl : Sr fW 4 ws (.slice ad n cap) w) (hab : 0 < ws.length → adB ad ≠ b) (hM : Mem w [tB b ad n cap i e]) : Ret Tryz.prog 37 #[.pointer (some ⟨b, 0, none⟩)] w (WrN b (tO ad n cap (lkL ws i e []).2.1 (lkL ws i e []).2.2) (LkT (lkL ws i e [])) w) := by
 refine Ret.enterM (l := [.pointer (some ⟨b, 0, none⟩)]) Tryz.func37 rfl Tryz.ntmps37 rfl ([tB b ad n cap i e]) ((fun x => x = b)) hM ?_
 refine wpM.seq (wpM.region ?_)
 refine LM.as rfl ?_
 refine LM.nil (QM.sub (e' := [(0, _)]) ⟨rfl, trivial⟩ (QM.then (wpM.seq (wpM.region ?_))))
 refine LM.as rfl ?_
 refine LM.nil (QM.sub (e' := [(0, _), (3, _)]) ⟨rfl, rfl, trivial⟩ (QM.then ?_))
 refine wpM.seq ?_
 refine wpM.block ?_
 refine wpM.loopK0 (α := Nat × Int × List CLk × Option Addr × Nat × Nat × Mem0) (fun ⟨j, x, ls, adl, nl, cl, ml⟩ => [(3, .slice adl nl cl)]) [(0, _)] (fun ⟨j, x, ls, adl, nl, cl, ml⟩ => ml ++ (tB b ad n cap j x :: [])) (fun ⟨j, x, ls, adl, nl, cl, ml⟩ => lkL ws j x ls = lkL ws i e [] ∧ ls.length ≤ 8 ∧ nl = ls.length ∧ Sl fL 63 5 w.heap.size ls (.slice adl nl cl) ml) (fun ⟨j, x, ls, adl, nl, cl, ml⟩ => 9 - ls.length) ((i, e, [], none, 0, 0, [])) ⟨au2, rfl, trivial⟩ au1 ⟨rfl, by decide, rfl, .nil _ _ _ _⟩ ?_
 rintro ⟨j, x, ls, adl, nl, cl, ml⟩ ⟨hL, hl8, hnl, hsl⟩
 change wpM _ _ _ _ _ _ _ (ml ++ (tB b ad n cap j x :: [])) _ _ _
 refine wpM.seq ?_
 refine wpM.seq ?_
 refine wpM.joinK (α := Bool × Int) (fun ⟨q, y⟩ => [(15, .bool q)]) [(0, _), (3, _)] (fun ⟨q, y⟩ => ml ++ (tB b ad n cap j y :: [])) (fun ⟨q, y⟩ => (q = true → isL ws j x = true ∧ nl < 8 ∧ x = y) ∧ (q = false → lkL ws j x ls = (ls, j, y))) ⟨rfl, rfl, trivial⟩ ?_ ?_
 ·
  refine wpM.region ?_
  refine LM.mv rfl ?_
  refine LM.callE (oc_call (enters_fn Tryz.func82 (by kernel_rfl) rfl) rfl) (fun w hm hc hg => tis_spec b j x wLock w hn (hl.kp hc hab) (SubM.mem au1 w hm)) ?_
  refine LM.mv rfl ?_
  first | refine LM.splitD (t := 6) rfl (fun h1 => ?_) (fun h1 => ?_) | refine LM.splitB (t := 6) rfl (fun h1 => ?_) (fun h1 => ?_)
  ·
   refine LM.dr 6 rfl rfl rfl ?_
   refine LM.dr 6 rfl rfl rfl ?_
   refine LM.val (ov_pickT rfl rfl) ?_
   refine LM.mv rfl ?_
   refine LM.sp 10 rfl rfl rfl ?_
   refine LM.mv rfl ?_
   refine LM.sp 10 rfl rfl rfl ?_
   refine LM.mv rfl ?_
   refine LM.sp 10 rfl rfl rfl ?_
   refine LM.val (ov_len Tryz.underlying27 rfl) ?_
   refine LM.sp 10 rfl rfl rfl ?_
   refine LM.cW (oc_call (enters_fn Tryz.func83 (by kernel_rfl) rfl) rfl) (fun w hm hc hg => troom_spec (ws := ws) b j x (nl : Nat) 8 w (SubM.mem au1 w hm)) rfl (fun hlt => by first | exact rfl | exact absurd hlt (by omega)) ?_
   refine LM.val (ov_pickT rfl rfl) ?_
   refine LM.nil (QM.sub (e' := [(0, _), (3, _), (15, _)]) ⟨rfl, rfl, rfl, trivial⟩ ?_)
   refine QM.meetK ((decide (x = 0) && !decide ((8 : Int) ≤ (nl : Nat)), (if x = 0 ∧ (8 : Int) ≤ (nl : Nat) then 6 else x))) ⟨au2, rfl, rfl, trivial⟩ au1 ?_
   · have hQ : isL ws j x = true := (by unfold isL; rw [h1]; rfl); have hr := room_t (m := 8) (n := nl) (isL_lt hQ).2; exact ⟨fun q => ⟨hQ, by have := (hr.1 q).1; omega, (hr.1 q).2.symm⟩, fun q => by rw [(hr.2 q).2]; exact lkL_full hQ (by have := (hr.2 q).1; omega)⟩
  refine LM.sp 6 rfl rfl rfl ?_
  refine LM.mv rfl ?_
  refine LM.sp 6 rfl rfl rfl ?_
  refine LM.callE (oc_call (enters_fn Tryz.func82 (by kernel_rfl) rfl) rfl) (fun w hm hc hg => tis_spec b j x wShared w hn (hl.kp hc hab) (SubM.mem au1 w hm)) ?_
  refine LM.val (ov_pickF rfl rfl) ?_
  refine LM.mv rfl ?_
  first | refine LM.splitD (t := 10) rfl (fun h2 => ?_) (fun h2 => ?_) | refine LM.splitB (t := 10) rfl (fun h2 => ?_) (fun h2 => ?_)
  ·
   refine LM.sp 10 rfl rfl rfl ?_
   refine LM.mv rfl ?_
   refine LM.sp 10 rfl rfl rfl ?_
   refine LM.mv rfl ?_
   refine LM.sp 10 rfl rfl rfl ?_
   refine LM.val (ov_len Tryz.underlying27 rfl) ?_
   refine LM.sp 10 rfl rfl rfl ?_
   refine LM.cW (oc_call (enters_fn Tryz.func83 (by kernel_rfl) rfl) rfl) (fun w hm hc hg => troom_spec (ws := ws) b j x (nl : Nat) 8 w (SubM.mem au1 w hm)) rfl (fun hlt => by first | exact rfl | exact absurd hlt (by omega)) ?_
   refine LM.val (ov_pickT rfl rfl) ?_
   refine LM.nil (QM.sub (e' := [(0, _), (3, _), (15, _)]) ⟨rfl, rfl, rfl, trivial⟩ ?_)
   refine QM.meetK ((decide (x = 0) && !decide ((8 : Int) ≤ (nl : Nat)), (if x = 0 ∧ (8 : Int) ≤ (nl : Nat) then 6 else x))) ⟨au2, rfl, rfl, trivial⟩ au1 ?_
   · have hQ : isL ws j x = true := (by unfold isL; rw [h1, h2]; rfl); have hr := room_t (m := 8) (n := nl) (isL_lt hQ).2; exact ⟨fun q => ⟨hQ, by have := (hr.1 q).1; omega, (hr.1 q).2.symm⟩, fun q => by rw [(hr.2 q).2]; exact lkL_full hQ (by have := (hr.2 q).1; omega)⟩
  refine LM.dr 10 rfl rfl rfl ?_
  refine LM.dr 10 rfl rfl rfl ?_
  refine LM.dr 10 rfl rfl rfl ?_
  refine LM.dr 10 rfl rfl rfl ?_
  refine LM.val (ov_pickF rfl rfl) ?_
  refine LM.nil (QM.sub (e' := [(0, _), (3, _), (15, _)]) ⟨rfl, rfl, rfl, trivial⟩ ?_)
  refine QM.meetK ((false, x)) ⟨au2, rfl, rfl, trivial⟩ au1 ?_
  · exact ⟨fun q => (by cases q), fun _ => lkL_stop (by unfold isL; rw [h1, h2]; rfl)⟩
 rintro ⟨q, y⟩ ⟨hq1, hq2⟩
 change QM _ _ _ _ _ (ml ++ (tB b ad n cap j y :: [])) _ _ _
 refine QM.then ?_
 first | refine wpM.condD rfl (fun h3 => ?_) (fun h3 => ?_) | refine wpM.condB rfl (fun h3 => ?_) (fun h3 => ?_)
 ·
  obtain ⟨hQ, hlt8, rfl⟩ := hq1 h3
  refine wpM.skip ?_
  refine QM.then ?_
  refine wpM.block ?_
  refine wpM.region ?_
  refine LM.mv rfl ?_
  refine LM.mv rfl ?_
  refine LM.cW (oc_call (enters_fn Tryz.func84 (by kernel_rfl) rfl) rfl) (fun w hm hc hg => tlock_spec b j x w hn hx (hl.kp hc hab) hab (SubM.mem au1 w hm) (isL_lt hQ).1) rfl (fun hlt => by first | exact rfl | exact absurd hlt (by omega)) ?_
  refine LM.single Tryz.underlying27 Tryz.sizeOf63 Tryz.zeroValue63 rfl rfl rfl rfl rfl (fun b19 hb19 => ?_)
  refine LM.app (a := (lckE ws (isE ws j x 1 wShared) (j + 1) x).2.2) Tryz.underlying27 Tryz.typeInfo63 rfl rfl rfl rfl rfl rfl rfl (by assumption) (by rfl) (by intro _; rfl) (by intro _ u hu; simp [fL] at hu; (repeat (first | (rcases hu with rfl | hu) | subst hu | rfl))) (by first | exact Nat.le_refl _ | omega) au9 (by first | omega | (unfold maxLen; omega)) (by simp only [Tryz.t63]; omega) (fun ad20 n20 cap20 m20 hn20 hs20 hin20 => ?_)
  refine LM.as rfl ?_
  refine LM.nil (QM.sub (e' := [(0, _), (3, _)]) ⟨rfl, rfl, trivial⟩ ?_)
  refine QM.block_normal ?_
  refine QM.againK (((lckE ws (isE ws j x 1 wShared) (j + 1) x).1, (lckE ws (isE ws j x 1 wShared) (j + 1) x).2.1, ls ++ [(lckE ws (isE ws j x 1 wShared) (j + 1) x).2.2], ad20, n20, cap20, m20)) ⟨au2, rfl, trivial⟩ au1 (fun _ h => h) ?_ ?_
  · exact ⟨by rw [← lkL_next hQ (by omega)]; exact hL, by simp; omega, by rw [hn20]; simp, hs20⟩
  · dsimp only; rw [List.length_append, List.length_singleton]; omega
 have hR := hq2 h3
 refine wpM.exit ?_
 refine QM.then_exit ?_
 refine QM.then_exit ?_
 refine QM.block_hit ?_
 refine QM.then (wpM.seq (wpM.region ?_))
 refine LM.mv rfl ?_
 refine LM.as rfl ?_
 refine LM.nil (QM.sub (e' := [(2, _)]) ⟨rfl, trivial⟩ (QM.then ?_))
 refine wpM.ret ?_
 refine QM.leave (.inl rfl) [.tmp 2] Tryz.results37 rfl ?_
 intro w' hm' hc' hg'
 rw [hL] at hR; have h9 := hm'.at b; rw [hR]; exact ⟨hc', h9, ml, ⟨adl, nl, cl, rfl, hnl, hsl⟩, hm'.pick ml, fun p hp => Sl.ge hsl p hp⟩
set_option maxRecDepth 100000 in
set_option maxHeartbeats 2000000 in
theorem tprogs_spec {ws : List Wrd} (b : Nat) {ad : Option Addr} {n cap : Nat} (i : Nat) (e : Int) (w : World) (hn : n = ws.length) (hx : ws.length ≤ 1000000000) (hl : Sr fW 4 ws (.slice ad n cap) w) (hab : 0 < ws.length → adB ad ≠ b) (hM : Mem w [tB b ad n cap i e]) (hi0 : i ≤ ws.length) : Ret Tryz.prog 38 #[.pointer (some ⟨b, 0, none⟩)] w (WrN b (tO ad n cap (pgL ws i e [] []).2.2.1 (pgL ws i e [] []).2.2.2) (PgT (pgL ws i e [] [])) w) := by
 refine Ret.enterM (l := [.pointer (some ⟨b, 0, none⟩)]) Tryz.func38 rfl Tryz.ntmps38 rfl ([tB b ad n cap i e]) ((fun x => x = b)) hM ?_
 refine wpM.seq (wpM.region ?_)
 refine LM.as rfl ?_
 refine LM.as rfl ?_
 refine LM.nil (QM.sub (e' := [(0, _)]) ⟨rfl, trivial⟩ (QM.then (wpM.seq (wpM.region ?_))))
 refine LM.as rfl ?_
 refine LM.nil (QM.sub (e' := [(0, _), (4, _)]) ⟨rfl, rfl, trivial⟩ (QM.then (wpM.seq (wpM.region ?_))))
 refine LM.as rfl ?_
 refine LM.nil (QM.sub (e' := [(0, _), (4, _), (5, _)]) ⟨rfl, rfl, rfl, trivial⟩ (QM.then ?_))
 refine wpM.seq ?_
 refine wpM.block ?_
 refine wpM.loopK0 (α := Nat × Int × List PgV × Option Addr × Nat × Nat × Mem0 × List Int × Option Addr × Nat × Nat × Mem0 × Mem0) (fun ⟨j, x, ps, adp, np, cp, mp, pl, adq, nq, cq, mq, mo⟩ => [(4, .slice adp np cp), (5, .slice adq nq cq)]) [(0, _)] (fun ⟨j, x, ps, adp, np, cp, mp, pl, adq, nq, cq, mq, mo⟩ => mo ++ (mp ++ (mq ++ (tB b ad n cap j x :: [])))) (fun ⟨j, x, ps, adp, np, cp, mp, pl, adq, nq, cq, mq, mo⟩ => pgL ws j x (ps.map PgV.c) pl = pgL ws i e [] [] ∧ j ≤ ws.length ∧ ps.length ≤ 8 ∧ np = ps.length ∧ Sl fPg 87 2 w.heap.size ps (.slice adp np cp) mp ∧ pl.length = ps.length ∧ nq = pl.length ∧ Sl fI 3 1 w.heap.size pl (.slice adq nq cq) mq ∧ (∀ w, Mem w mo → PgsIn ps w) ∧ (∀ p ∈ mo, w.heap.size ≤ p.1)) (fun ⟨j, x, ps, adp, np, cp, mp, pl, adq, nq, cq, mq, mo⟩ => 9 - ps.length) ((i, e, [], none, 0, 0, [], [], none, 0, 0, [], [])) ⟨au2, au2, rfl, trivial⟩ au1 ⟨rfl, hi0, by decide, rfl, .nil _ _ _ _, rfl, rfl, .nil _ _ _ _, (fun w _ p hp => by cases hp), (fun p hp => by cases hp)⟩ ?_
 rintro ⟨j, x, ps, adp, np, cp, mp, pl, adq, nq, cq, mq, mo⟩ ⟨hP, hj, hp8, hnp, hsp, hplp, hnq, hsq, hop, hog⟩
 change wpM _ _ _ _ _ _ _ (mo ++ (mp ++ (mq ++ (tB b ad n cap j x :: [])))) _ _ _
 have hpp := par_pos hj; obtain ⟨j9, hj9⟩ : ∃ j' : Nat, (parseO ws (j : Int)).2.2.1 = (j' : Int) := ⟨_, (Int.toNat_of_nonneg hpp.1).symm⟩
 refine wpM.seq ?_
 refine wpM.seq ?_
 refine wpM.joinK (α := Bool × Int) (fun ⟨q, y⟩ => [(28, .bool q)]) [(0, _), (4, _), (5, _)] (fun ⟨q, y⟩ => mo ++ (mp ++ (mq ++ (tB b ad n cap j y :: [])))) (fun ⟨q, y⟩ => (q = true → isP ws j x (ps.map PgV.c) = true ∧ np < 8 ∧ x = y) ∧ (q = false → pgL ws j x (ps.map PgV.c) pl = (ps.map PgV.c, pl, j, y))) ⟨rfl, rfl, rfl, trivial⟩ ?_ ?_
 ·
  refine wpM.region ?_
  refine LM.mv rfl ?_
  refine LM.val (ov_nilCheck rfl) ?_
  refine LM.val (ov_field Tryz.underlying70 rfl Tryz.sizeOf31 rfl (k := 2) rfl rfl) ?_
  refine LM.rd (om_ld Tryz.isAgg31 rfl rfl) ?_
  refine LM.val (ov_eql rfl rfl) ?_
  refine LM.mv rfl ?_
  refine LM.splitD (t := 14) rfl (fun h1 => ?_) (fun h1 => ?_)
  ·
   refine LM.sp 14 rfl rfl rfl ?_
   refine LM.mv rfl ?_
   refine LM.sp 14 rfl rfl rfl ?_
   refine LM.val (ov_len Tryz.underlying28 rfl) ?_
   refine LM.sp 14 rfl rfl rfl ?_
   refine LM.val (ov_eql rfl rfl) ?_
   refine LM.sp 14 rfl rfl rfl ?_
   refine LM.mv rfl ?_
   refine LM.splitD (t := 18) rfl (fun h2 => ?_) (fun h2 => ?_)
   ·
    refine LM.dr 18 rfl rfl rfl ?_
    refine LM.dr 18 rfl rfl rfl ?_
    refine LM.sp 14 rfl rfl rfl ?_
    refine LM.val (ov_pickT rfl rfl) ?_
    refine LM.val (ov_pickT rfl rfl) ?_
    refine LM.mv rfl ?_
    refine LM.sp 23 rfl rfl rfl ?_
    refine LM.mv rfl ?_
    refine LM.sp 23 rfl rfl rfl ?_
    refine LM.mv rfl ?_
    refine LM.sp 23 rfl rfl rfl ?_
    refine LM.val (ov_len Tryz.underlying28 rfl) ?_
    refine LM.sp 23 rfl rfl rfl ?_
    refine LM.cW (oc_call (enters_fn Tryz.func83 (by kernel_rfl) rfl) rfl) (fun w hm hc hg => troom_spec (ws := ws) b j x (np : Nat) 8 w (SubM.mem au1 w hm)) rfl (fun hlt => by first | exact rfl | exact absurd hlt (by omega)) ?_
    refine LM.val (ov_pickT rfl rfl) ?_
    refine LM.nil (QM.sub (e' := [(0, _), (4, _), (5, _), (28, _)]) ⟨rfl, rfl, rfl, rfl, trivial⟩ ?_)
    refine QM.meetK ((decide (x = 0) && !decide ((8 : Int) ≤ (np : Nat)), (if x = 0 ∧ (8 : Int) ≤ (np : Nat) then 6 else x))) ⟨au2, rfl, rfl, rfl, trivial⟩ au1 ?_
    · have hQ : isP ws j x (ps.map PgV.c) = true := (by unfold isP; rw [decide_eq_true h1, List.length_map, decide_eq_true (show ps.length = 0 by omega)]; rfl); have hr := room_t (m := 8) (n := np) (isP_zero hQ); exact ⟨fun q => ⟨hQ, by have := (hr.1 q).1; omega, (hr.1 q).2.symm⟩, fun q => by rw [(hr.2 q).2]; exact pgL_full hQ (by have := (hr.2 q).1; rw [List.length_map]; omega)⟩
   refine LM.sp 18 rfl rfl rfl ?_
   refine LM.mv rfl ?_
   refine LM.sp 18 rfl rfl rfl ?_
   refine LM.callE (oc_call (enters_fn Tryz.func82 (by kernel_rfl) rfl) rfl) (fun w hm hc hg => tis_spec b j x wProg w hn (hl.kp hc hab) (SubM.mem au1 w hm)) ?_
   refine LM.sp 14 rfl rfl rfl ?_
   refine LM.val (ov_pickF rfl rfl) ?_
   refine LM.val (ov_pickT rfl rfl) ?_
   refine LM.mv rfl ?_
   first | refine LM.splitD (t := 23) rfl (fun h3 => ?_) (fun h3 => ?_) | refine LM.splitB (t := 23) rfl (fun h3 => ?_) (fun h3 => ?_)
   ·
    refine LM.sp 23 rfl rfl rfl ?_
    refine LM.mv rfl ?_
    refine LM.sp 23 rfl rfl rfl ?_
    refine LM.mv rfl ?_
    refine LM.sp 23 rfl rfl rfl ?_
    refine LM.val (ov_len Tryz.underlying28 rfl) ?_
    refine LM.sp 23 rfl rfl rfl ?_
    refine LM.cW (oc_call (enters_fn Tryz.func83 (by kernel_rfl) rfl) rfl) (fun w hm hc hg => troom_spec (ws := ws) b j x (np : Nat) 8 w (SubM.mem au1 w hm)) rfl (fun hlt => by first | exact rfl | exact absurd hlt (by omega)) ?_
    refine LM.val (ov_pickT rfl rfl) ?_
    refine LM.nil (QM.sub (e' := [(0, _), (4, _), (5, _), (28, _)]) ⟨rfl, rfl, rfl, rfl, trivial⟩ ?_)
    refine QM.meetK ((decide (x = 0) && !decide ((8 : Int) ≤ (np : Nat)), (if x = 0 ∧ (8 : Int) ≤ (np : Nat) then 6 else x))) ⟨au2, rfl, rfl, rfl, trivial⟩ au1 ?_
    · have hQ : isP ws j x (ps.map PgV.c) = true := (by unfold isP; rw [decide_eq_true h1, h3]; simp); have hr := room_t (m := 8) (n := np) (isP_zero hQ); exact ⟨fun q => ⟨hQ, by have := (hr.1 q).1; omega, (hr.1 q).2.symm⟩, fun q => by rw [(hr.2 q).2]; exact pgL_full hQ (by have := (hr.2 q).1; rw [List.length_map]; omega)⟩
   refine LM.dr 23 rfl rfl rfl ?_
   refine LM.dr 23 rfl rfl rfl ?_
   refine LM.dr 23 rfl rfl rfl ?_
   refine LM.dr 23 rfl rfl rfl ?_
   refine LM.val (ov_pickF rfl rfl) ?_
   refine LM.nil (QM.sub (e' := [(0, _), (4, _), (5, _), (28, _)]) ⟨rfl, rfl, rfl, rfl, trivial⟩ ?_)
   refine QM.meetK ((false, x)) ⟨au2, rfl, rfl, rfl, trivial⟩ au1 ?_
   · exact ⟨fun q => (by cases q), fun _ => pgL_stop (by unfold isP; rw [List.length_map, decide_eq_false (show ¬ ps.length = 0 by omega), h3]; simp)⟩
  refine LM.dr 14 rfl rfl rfl ?_
  refine LM.dr 14 rfl rfl rfl ?_
  refine LM.dr 14 rfl rfl rfl ?_
  refine LM.dropU (t := 14) rfl rfl rfl ?_
  refine LM.dropX (t := 18) rfl rfl ?_
  refine LM.dropX (t := 18) rfl rfl ?_
  refine LM.dr 14 rfl rfl rfl ?_
  refine LM.val (ov_pickF rfl rfl) ?_
  refine LM.mv rfl ?_
  refine LM.dr 23 rfl rfl rfl ?_
  refine LM.dr 23 rfl rfl rfl ?_
  refine LM.dr 23 rfl rfl rfl ?_
  refine LM.dr 23 rfl rfl rfl ?_
  refine LM.val (ov_pickF rfl rfl) ?_
  refine LM.nil (QM.sub (e' := [(0, _), (4, _), (5, _), (28, _)]) ⟨rfl, rfl, rfl, rfl, trivial⟩ ?_)
  refine QM.meetK ((false, x)) ⟨au2, rfl, rfl, rfl, trivial⟩ au1 ?_
  · exact ⟨fun q => (by cases q), fun _ => pgL_stop (by unfold isP; rw [decide_eq_false h1]; rfl)⟩
 rintro ⟨q, y⟩ ⟨hq1, hq2⟩
 change QM _ _ _ _ _ (mo ++ (mp ++ (mq ++ (tB b ad n cap j y :: [])))) _ _ _
 refine QM.then ?_
 first | refine wpM.condD rfl (fun h4 => ?_) (fun h4 => ?_) | refine wpM.condB rfl (fun h4 => ?_) (fun h4 => ?_)
 ·
  obtain ⟨hQ, hlt8, rfl⟩ := hq1 h4
  refine wpM.skip ?_
  refine QM.then ?_
  refine wpM.block ?_
  refine wpM.seq ?_
  refine wpM.joinK (α := Nat × Option Addr × Nat × Nat × Mem0) (fun ⟨c6, ad38, n38, cap38, m38⟩ => [(6, .pointer (some ⟨c6, 0, none⟩)), (7, .int .i64 (j9 : Nat)), (8, .int .i64 (parseO ws (j : Int)).2.2.2)]) [(0, _), (4, _), (5, _)] (fun ⟨c6, ad38, n38, cap38, m38⟩ => m38 ++ ((c6, .cells #[.bool (parseO ws (j : Int)).1, .slice ad38 n38 cap38] 87 (0, 0)) :: (mo ++ (mp ++ (mq ++ (tB b ad n cap j x :: [])))))) (fun ⟨c6, ad38, n38, cap38, m38⟩ => n38 = (parseO ws (j : Int)).2.1.length ∧ Sl fO 135 3 w.heap.size (parseO ws (j : Int)).2.1 (.slice ad38 n38 cap38) m38 ∧ (∀ p ∈ m38, w.heap.size ≤ p.1)) ⟨rfl, rfl, rfl, trivial⟩ ?_ ?_
  ·
   refine wpM.keep ((b, _) :: []) (fun _ => True) (.one 0 0 (.one 1 0 (.one 2 0 (.one 3 1 (.one 4 0 (.one 5 0 (.one 6 0 (.one 7 1 (.fork 8 (.one 9 0 (.one 10 0 (.one 11 0 (.one 12 0 (.one 13 2 (.one 14 2 (.one 15 0 (.one 16 0 .nil)))))))) 13 (.one 8 2 (.one 9 0 (.one 10 0 (.one 11 0 (.one 12 0 (.one 14 2 (.one 15 0 (.one 16 0 .nil))))))))))))))))) (by kernel_rfl) (by kernel_rfl) au1 (fun _ _ => trivial) ?_
   refine KD.val rfl rfl (ov_move rfl) ?_
   refine KD.val rfl rfl (ov_nilCheck rfl) ?_
   refine KD.val rfl rfl (ov_field Tryz.underlying70 rfl Tryz.sizeOf23 rfl (k := 0) rfl rfl) ?_
   refine KD.rd rfl rfl (om_ld Tryz.isAgg23 rfl rfl) ?_
   refine KD.val rfl rfl (ov_move rfl) ?_
   refine KD.val rfl rfl (ov_nilCheck rfl) ?_
   refine KD.val rfl rfl (ov_field Tryz.underlying70 rfl Tryz.sizeOf3 rfl (k := 1) rfl rfl) ?_
   refine KD.rd rfl rfl (om_ld Tryz.isAgg3 rfl rfl) ?_
   refine KD.fork rfl rfl ?_ ?_
   ·
    refine LM.callT (oc_call (enters_fn Tryz.func85 (by kernel_rfl) rfl) rfl) ParT.mono (fun w hm hc hg => parse_spec (j : Nat) w hn hx (hl.kp hc hab)) ?_
    rintro u38 m38 ⟨ad38, n38, cap38, rfl, hn38, hs38⟩ hge38; rw [hj9]
    refine LM.nil ?_
    refine QM.one au1 (fun _ _ => trivial) ?_
    refine KD.val rfl rfl (ov_move rfl) ?_
    refine KD.val rfl rfl (ov_extract rfl rfl) ?_
    refine KD.val rfl rfl (ov_extract rfl rfl) ?_
    refine KD.val rfl rfl (ov_extract rfl rfl) ?_
    refine KD.one rfl ?_
    refine LM.alloc Tryz.zeroValue87 rfl (fun b6 hb6 => ?_)
    refine LM.nil ?_
    refine QM.one au1 (fun _ _ => trivial) ?_
    refine KD.one rfl ?_
    refine LM.stW Tryz.sizeOf87 rfl rfl rfl rfl au7 (fun hlt => by first | exact rfl | exact absurd hlt (by omega)) ?_
    refine LM.nil ?_
    refine QM.one au1 (fun _ _ => trivial) ?_
    refine KD.val rfl rfl (ov_assign rfl) ?_
    refine KD.val rfl rfl (ov_assign rfl) ?_
    refine KD.nil ?_
    refine QM.sub (e' := [(0, _), (4, _), (5, _), (6, _), (7, _), (8, _)]) ⟨rfl, rfl, rfl, rfl, rfl, rfl, trivial⟩ ?_
    refine QM.meetK ((b6, ad38, n38, cap38, m38)) ⟨au2, au2, au2, rfl, rfl, rfl, trivial⟩ au1 ?_
    · exact ⟨hn38, hs38, hge38⟩
   refine LM.alloc Tryz.zeroValue87 rfl (fun b6 hb6 => ?_)
   refine LM.nil ?_
   refine QM.one au1 (fun _ _ => trivial) ?_
   refine KD.one rfl ?_
   refine LM.callT (oc_call (enters_fn Tryz.func85 (by kernel_rfl) rfl) rfl) ParT.mono (fun w hm hc hg => parse_spec (j : Nat) w hn hx (hl.kp hc hab)) ?_
   rintro u38 m38 ⟨ad38, n38, cap38, rfl, hn38, hs38⟩ hge38; rw [hj9]
   refine LM.nil ?_
   refine QM.one au1 (fun _ _ => trivial) ?_
   refine KD.val rfl rfl (ov_move rfl) ?_
   refine KD.val rfl rfl (ov_extract rfl rfl) ?_
   refine KD.val rfl rfl (ov_extract rfl rfl) ?_
   refine KD.val rfl rfl (ov_extract rfl rfl) ?_
   refine KD.one rfl ?_
   refine LM.stW Tryz.sizeOf87 rfl rfl rfl rfl au7 (fun hlt => by first | exact rfl | exact absurd hlt (by omega)) ?_
   refine LM.nil ?_
   refine QM.one au1 (fun _ _ => trivial) ?_
   refine KD.val rfl rfl (ov_assign rfl) ?_
   refine KD.val rfl rfl (ov_assign rfl) ?_
   refine KD.nil ?_
   refine QM.sub (e' := [(0, _), (4, _), (5, _), (6, _), (7, _), (8, _)]) ⟨rfl, rfl, rfl, rfl, rfl, rfl, trivial⟩ ?_
   refine QM.meetK ((b6, ad38, n38, cap38, m38)) ⟨au2, au2, au2, rfl, rfl, rfl, trivial⟩ au1 ?_
   · exact ⟨hn38, hs38, hge38⟩
  rintro ⟨c6, ad38, n38, cap38, m38⟩ ⟨hn38, hs38, hge38⟩
  change QM _ _ _ _ _ (m38 ++ ((c6, .cells #[.bool (parseO ws (j : Int)).1, .slice ad38 n38 cap38] 87 (0, 0)) :: (mo ++ (mp ++ (mq ++ (tB b ad n cap j x :: [])))))) _ _ _
  refine QM.then ?_
  refine wpM.seq ?_
  refine wpM.joinK (α := Option Addr × Nat × Nat × Mem0 × Option Addr × Nat × Nat × Mem0) (fun ⟨ad45, n45, cap45, m45, ad52, n52, cap52, m52⟩ => [(4, .slice ad45 n45 cap45), (5, .slice ad52 n52 cap52)]) [(0, _), (7, _), (8, _)] (fun ⟨ad45, n45, cap45, m45, ad52, n52, cap52, m52⟩ => m38 ++ (mo ++ (m45 ++ (m52 ++ (tB b ad n cap j x :: []))))) (fun ⟨ad45, n45, cap45, m45, ad52, n52, cap52, m52⟩ => n45 = ps.length + 1 ∧ Sl fPg 87 2 w.heap.size (ps ++ [(⟨prC (parseO ws (j : Int)), ad38, n38, cap38⟩ : PgV)]) (.slice ad45 n45 cap45) m45 ∧ n52 = pl.length + 1 ∧ Sl fI 3 1 w.heap.size (pl ++ [(j : Int)]) (.slice ad52 n52 cap52) m52) ⟨rfl, rfl, rfl, trivial⟩ ?_ ?_
  ·
   refine wpM.keep ((c6, _) :: (b, _) :: []) (fun _ => True) (.one 0 0 (.one 1 1 (.one 4 0 (.one 5 0 (.one 6 0 (.one 7 0 (.one 8 1 (.fork 2 (.fork 3 (.one 9 2 (.one 10 2 (.one 11 0 (.one 12 0 .nil)))) 9 (.one 3 2 (.one 10 2 (.one 11 0 (.one 12 0 .nil))))) 9 (.one 2 2 (.one 3 2 (.one 10 2 (.one 11 0 (.one 12 0 .nil))))))))))))) (by kernel_rfl) (by kernel_rfl) au1 (fun _ _ => trivial) ?_
   refine KD.val rfl rfl (ov_move rfl) ?_
   refine KD.rd rfl rfl (om_ldW Tryz.isAgg87 Tryz.sizeOf87 rfl rfl) ?_
   refine KD.val rfl rfl (ov_move rfl) ?_
   refine KD.val rfl rfl (ov_move rfl) ?_
   refine KD.val rfl rfl (ov_nilCheck rfl) ?_
   refine KD.val rfl rfl (ov_field Tryz.underlying70 rfl Tryz.sizeOf3 rfl (k := 1) rfl rfl) ?_
   refine KD.rd rfl rfl (om_ld Tryz.isAgg3 rfl rfl) ?_
   refine KD.fork rfl rfl ?_ ?_
   ·
    refine LM.single Tryz.underlying28 Tryz.sizeOf87 Tryz.zeroValue87 rfl rfl rfl rfl rfl (fun b44 hb44 => ?_)
    refine LM.nil ?_
    refine QM.one au1 (fun _ _ => trivial) ?_
    refine KD.fork rfl rfl ?_ ?_
    ·
     refine LM.app (a := (⟨prC (parseO ws (j : Int)), ad38, n38, cap38⟩ : PgV)) Tryz.underlying28 Tryz.typeInfo87 rfl rfl rfl rfl rfl rfl rfl (by assumption) (by rfl) (by intro _; rfl) (by intro _ u hu; simp [fPg] at hu; (repeat (first | (rcases hu with rfl | hu) | subst hu | rfl))) (by first | exact Nat.le_refl _ | omega) au9 (by first | omega | (unfold maxLen; omega)) (by simp only [Tryz.t87]; omega) (fun ad45 n45 cap45 m45 hn45 hs45 hin45 => ?_)
     refine LM.nil ?_
     refine QM.one au1 (fun _ _ => trivial) ?_
     refine KD.one rfl ?_
     refine LM.single Tryz.underlying26 Tryz.sizeOf3 Tryz.zeroValue3 rfl rfl rfl rfl rfl (fun b51 hb51 => ?_)
     refine LM.nil ?_
     refine QM.one au1 (fun _ _ => trivial) ?_
     refine KD.one rfl ?_
     refine LM.app (a := (j : Int)) Tryz.underlying26 Tryz.typeInfo3 rfl rfl rfl rfl rfl rfl rfl (by assumption) (by rfl) (by intro _; rfl) (by intro _ u hu; simp [fI] at hu; (repeat (first | (rcases hu with rfl | hu) | subst hu | rfl))) (by first | exact Nat.le_refl _ | omega) au9 (by first | omega | (unfold maxLen; omega)) (by simp only [Tryz.t3]; omega) (fun ad52 n52 cap52 m52 hn52 hs52 hin52 => ?_)
     refine LM.nil ?_
     refine QM.one au1 (fun _ _ => trivial) ?_
     refine KD.val rfl rfl (ov_assign rfl) ?_
     refine KD.val rfl rfl (ov_assign rfl) ?_
     refine KD.nil ?_
     refine QM.sub (e' := [(0, _), (4, _), (5, _), (7, _), (8, _)]) ⟨rfl, rfl, rfl, rfl, rfl, trivial⟩ ?_
     refine QM.meetK ((ad45, n45, cap45, m45, ad52, n52, cap52, m52)) ⟨au2, au2, rfl, rfl, rfl, trivial⟩ au1 ?_
     · exact ⟨hn45, hs45, hn52, hs52⟩
    refine LM.single Tryz.underlying26 Tryz.sizeOf3 Tryz.zeroValue3 rfl rfl rfl rfl rfl (fun b51 hb51 => ?_)
    refine LM.nil ?_
    refine QM.one au1 (fun _ _ => trivial) ?_
    refine KD.one rfl ?_
    refine LM.app (a := (⟨prC (parseO ws (j : Int)), ad38, n38, cap38⟩ : PgV)) Tryz.underlying28 Tryz.typeInfo87 rfl rfl rfl rfl rfl rfl rfl (by assumption) (by rfl) (by intro _; rfl) (by intro _ u hu; simp [fPg] at hu; (repeat (first | (rcases hu with rfl | hu) | subst hu | rfl))) (by first | exact Nat.le_refl _ | omega) au9 (by first | omega | (unfold maxLen; omega)) (by simp only [Tryz.t87]; omega) (fun ad45 n45 cap45 m45 hn45 hs45 hin45 => ?_)
    refine LM.nil ?_
    refine QM.one au1 (fun _ _ => trivial) ?_
    refine KD.one rfl ?_
    refine LM.app (a := (j : Int)) Tryz.underlying26 Tryz.typeInfo3 rfl rfl rfl rfl rfl rfl rfl (by assumption) (by rfl) (by intro _; rfl) (by intro _ u hu; simp [fI] at hu; (repeat (first | (rcases hu with rfl | hu) | subst hu | rfl))) (by first | exact Nat.le_refl _ | omega) au9 (by first | omega | (unfold maxLen; omega)) (by simp only [Tryz.t3]; omega) (fun ad52 n52 cap52 m52 hn52 hs52 hin52 => ?_)
    refine LM.nil ?_
    refine QM.one au1 (fun _ _ => trivial) ?_
    refine KD.val rfl rfl (ov_assign rfl) ?_
    refine KD.val rfl rfl (ov_assign rfl) ?_
    refine KD.nil ?_
    refine QM.sub (e' := [(0, _), (4, _), (5, _), (7, _), (8, _)]) ⟨rfl, rfl, rfl, rfl, rfl, trivial⟩ ?_
    refine QM.meetK ((ad45, n45, cap45, m45, ad52, n52, cap52, m52)) ⟨au2, au2, rfl, rfl, rfl, trivial⟩ au1 ?_
    · exact ⟨hn45, hs45, hn52, hs52⟩
   refine LM.single Tryz.underlying26 Tryz.sizeOf3 Tryz.zeroValue3 rfl rfl rfl rfl rfl (fun b51 hb51 => ?_)
   refine LM.nil ?_
   refine QM.one au1 (fun _ _ => trivial) ?_
   refine KD.one rfl ?_
   refine LM.single Tryz.underlying28 Tryz.sizeOf87 Tryz.zeroValue87 rfl rfl rfl rfl rfl (fun b44 hb44 => ?_)
   refine LM.nil ?_
   refine QM.one au1 (fun _ _ => trivial) ?_
   refine KD.one rfl ?_
   refine LM.app (a := (⟨prC (parseO ws (j : Int)), ad38, n38, cap38⟩ : PgV)) Tryz.underlying28 Tryz.typeInfo87 rfl rfl rfl rfl rfl rfl rfl (by assumption) (by rfl) (by intro _; rfl) (by intro _ u hu; simp [fPg] at hu; (repeat (first | (rcases hu with rfl | hu) | subst hu | rfl))) (by first | exact Nat.le_refl _ | omega) au9 (by first | omega | (unfold maxLen; omega)) (by simp only [Tryz.t87]; omega) (fun ad45 n45 cap45 m45 hn45 hs45 hin45 => ?_)
   refine LM.nil ?_
   refine QM.one au1 (fun _ _ => trivial) ?_
   refine KD.one rfl ?_
   refine LM.app (a := (j : Int)) Tryz.underlying26 Tryz.typeInfo3 rfl rfl rfl rfl rfl rfl rfl (by assumption) (by rfl) (by intro _; rfl) (by intro _ u hu; simp [fI] at hu; (repeat (first | (rcases hu with rfl | hu) | subst hu | rfl))) (by first | exact Nat.le_refl _ | omega) au9 (by first | omega | (unfold maxLen; omega)) (by simp only [Tryz.t3]; omega) (fun ad52 n52 cap52 m52 hn52 hs52 hin52 => ?_)
   refine LM.nil ?_
   refine QM.one au1 (fun _ _ => trivial) ?_
   refine KD.val rfl rfl (ov_assign rfl) ?_
   refine KD.val rfl rfl (ov_assign rfl) ?_
   refine KD.nil ?_
   refine QM.sub (e' := [(0, _), (4, _), (5, _), (7, _), (8, _)]) ⟨rfl, rfl, rfl, rfl, rfl, trivial⟩ ?_
   refine QM.meetK ((ad45, n45, cap45, m45, ad52, n52, cap52, m52)) ⟨au2, au2, rfl, rfl, rfl, trivial⟩ au1 ?_
   · exact ⟨hn45, hs45, hn52, hs52⟩
  rintro ⟨ad45, n45, cap45, m45, ad52, n52, cap52, m52⟩ ⟨hn45, hs45, hn52, hs52⟩
  change QM _ _ _ _ _ (m38 ++ (mo ++ (m45 ++ (m52 ++ (tB b ad n cap j x :: []))))) _ _ _
  refine QM.then (wpM.region ?_)
  refine LM.mv rfl ?_
  refine LM.mv rfl ?_
  refine LM.mv rfl ?_
  refine LM.mv rfl ?_
  refine LM.val (ov_nilCheck rfl) ?_
  refine LM.val (ov_field Tryz.underlying70 rfl Tryz.sizeOf3 rfl (k := 1) rfl rfl) ?_
  refine LM.st Tryz.sizeOf3 rfl rfl rfl au5 rfl (fun hlt => by first | exact rfl | exact absurd hlt (by omega)) ?_
  refine LM.val (ov_nilCheck rfl) ?_
  refine LM.val (ov_field Tryz.underlying70 rfl Tryz.sizeOf31 rfl (k := 2) rfl rfl) ?_
  refine LM.st Tryz.sizeOf31 rfl rfl rfl au5 rfl (fun hlt => by first | exact rfl | exact absurd hlt (by omega)) ?_
  refine LM.nil (QM.sub (e' := [(0, _), (4, _), (5, _)]) ⟨rfl, rfl, rfl, trivial⟩ ?_)
  refine QM.block_normal ?_
  refine QM.againK ((j9, (parseO ws (j : Int)).2.2.2, ps ++ [(⟨prC (parseO ws (j : Int)), ad38, n38, cap38⟩ : PgV)], ad45, n45, cap45, m45, pl ++ [(j : Int)], ad52, n52, cap52, m52, m38 ++ mo)) ⟨au2, au2, rfl, trivial⟩ au1 (fun _ h => h) ?_ ?_
  · exact ⟨by rw [snoc_map, ← hP, pgL_next hQ (by simp; omega), hj9, Int.toNat_natCast], by have := hpp.2; rw [hj9, Int.toNat_natCast] at this; exact this, by simp; omega, by rw [hn45]; simp, hs45, by simp [hplp], by rw [hn52]; simp, hs52, (fun w hm => snoc_in (hop w (hm.sub (List.sublist_append_right _ _))) ⟨hn38, sr_of_sl hs38 (fun _ => rfl) (hm.sub (List.sublist_append_left _ _))⟩), List.forall_mem_append.2 ⟨hge38, hog⟩⟩
  · dsimp only; rw [List.length_append, List.length_singleton]; omega
 have hR := hq2 h4
 refine wpM.exit ?_
 refine QM.then_exit ?_
 refine QM.then_exit ?_
 refine QM.block_hit ?_
 refine QM.then (wpM.seq (wpM.region ?_))
 refine LM.mv rfl ?_
 refine LM.mv rfl ?_
 refine LM.as rfl ?_
 refine LM.as rfl ?_
 refine LM.nil (QM.sub (e' := [(2, _), (3, _)]) ⟨rfl, rfl, trivial⟩ (QM.then ?_))
 refine wpM.ret ?_
 refine QM.leave (.inl rfl) [.tmp 2, .tmp 3] Tryz.results38 rfl ?_
 intro w' hm' hc' hg'
 rw [hP] at hR; have h9 := hm'.at b; rw [hR]; refine ⟨hc', h9, mo ++ (mp ++ (mq ++ [])), ⟨ps, adp, np, cp, adq, nq, cq, mp, mq, mo, rfl, rfl, hnp, hp8, hnq, hplp, rfl, hsp, hsq, hop, hog⟩, SubM.mem (by (repeat' (first | exact SubM.nil _ | refine SubM.app ?_))) w' hm', ?_⟩; intro p hp; simp only [List.mem_append, List.not_mem_nil, or_false] at hp; rcases hp with hp | hp | hp; exact hog p hp; exact Sl.ge hsp p hp; exact Sl.ge hsq p hp
def sv (ws : List Wrd) (i0 : Nat) (gs : List Int) (adg : Option Addr) (ng cg : Nat) (adl : Option Addr) (nl cl : Nat) (ps : List PgV) (adp : Option Addr) (np cp : Nat) : StV := ⟨(sA ws i0).2.2, (sB2 ws i0).2.2, gs, adg, ng, cg, (sL ws i0).1, adl, nl, cl, ps, adp, np, cp⟩
theorem misfit_at {ws : List Wrd} {i0 : Nat} {gs : List Int} {adg : Option Addr} {ng cg : Nat} {adl : Option Addr} {nl cl : Nat} {ps : List PgV} {adp : Option Addr} {np cp : Nat} (w : World) (hI : (sv ws i0 gs adg ng cg adl nl cl ps adp np cp).In w) (hx : ps.length ≤ 1000000) :
    Ret Tryz.prog 39 #[.agg #[.int .i64 (sA ws i0).2.2, .int .i64 (sB2 ws i0).2.2, .slice adg ng cg, .slice adl nl cl, .slice adp np cp]] w (fun v w' => v = .tuple #[.int .i64 (misI (sL ws i0).1 (ps.map PgV.c)), .int .i64 (misE (sL ws i0).1 (ps.map PgV.c) (misI (sL ws i0).1 (ps.map PgV.c)))] ∧ Ext w w') := misfit_spec (s := sv ws i0 gs adg ng cg adl nl cl ps adp np cp) w hI hx
theorem SetI.mis2 {ws : List Wrd} {i0 : Nat} {gs : List Int} {i1 : Nat} {e1 : Int} {ls : List CLk} {i2 : Nat} {e2 : Int} {ps : List PgC} {pl : List Int} {i3 : Nat} {e3 : Int} (h : SetI ws i0 gs i1 e1 ls i2 e2 ps pl i3 e3) (he : e3 = 0) (hm : 0 ≤ misI ls ps) : stpR ws i0 = (default, pl.getD (misI ls ps).toNat 0, misE ls ps (misI ls ps)) := by
  unfold stpR; rw [h.two.2, h.two.1]; simp only; rw [if_neg (by simp [he]), if_pos hm]
theorem Mem.pickN {m : Mem0} {w : World} (h : Mem w (m ++ [])) : Mem w m := by simpa using h
set_option maxRecDepth 100000 in
set_option maxHeartbeats 4000000 in
theorem setup_spec {ws : List Wrd} {ad : Option Addr} {n cap : Nat} (p : Int) (w : World) (hn : n = ws.length) (hx : ws.length ≤ 1000000000) (hl : Sr fW 4 ws (.slice ad n cap) w) : Ret Tryz.prog 11 #[.slice ad n cap, .int .i64 p] w (fun v w' => Ext w w' ∧ ∃ m, StT (setO ws p) w.heap.size v m ∧ Mem w' m ∧ ∀ p ∈ m, w.heap.size ≤ p.1) := by
 refine Ret.enterM (l := [.slice ad n cap, .int .i64 p]) Tryz.func11 rfl Tryz.ntmps11 rfl ([]) (no) (Mem.nil w) ?_
 refine wpM.seq (wpM.region ?_)
 refine LM.alloc Tryz.zeroValue30 rfl (fun b4 hb4 => ?_)
 refine LM.as rfl ?_
 refine LM.as rfl ?_
 refine LM.nil (QM.sub (e' := [(0, _), (1, _), (4, _)]) ⟨rfl, rfl, rfl, trivial⟩ (QM.then ?_))
 refine wpM.seq ?_
 refine wpM.seq (wpM.region ?_)
 refine LM.mv rfl ?_
 refine LM.val (ov_lss rfl rfl) ?_
 refine LM.mv rfl ?_
 refine LM.splitD (t := 15) rfl (fun h1 => ?_) (fun h1 => ?_)
 ·
  refine LM.dr 15 rfl rfl rfl ?_
  refine LM.dr 15 rfl rfl rfl ?_
  refine LM.dr 15 rfl rfl rfl ?_
  refine LM.dr 15 rfl rfl rfl ?_
  refine LM.val (ov_pickT rfl rfl) ?_
  refine LM.nil (QM.sub (e' := [(0, _), (1, _), (4, _), (20, _)]) ⟨rfl, rfl, rfl, rfl, trivial⟩ (QM.then ?_))
  refine wpM.condT rfl ?_
  refine wpM.seq (wpM.region ?_)
  refine LM.val (ov_build (cs := #[_, _, _, _, _]) rfl (by first | rfl | kernel_rfl)) ?_
  refine LM.stW Tryz.sizeOf30 rfl rfl rfl rfl au7 au8 ?_
  refine LM.as rfl ?_
  refine LM.as rfl ?_
  refine LM.nil (QM.sub (e' := [(4, _), (5, _), (6, _)]) ⟨rfl, rfl, rfl, trivial⟩ (QM.then ?_))
  refine wpM.ret ?_
  refine QM.then_ret ?_
  refine QM.leaveCs (ds := ([])) (.inl rfl) [.cell 4 30, .tmp 5, .tmp 6] Tryz.results11 hd_nil (rc_w rfl Tryz.isAgg30 Tryz.sizeOf30 rfl (rc_tmp rfl (rc_tmp rfl rc_nil))) ?_
  intro w' hm' hc'
  have hpar : setO ws p = (default, 0, 5) := (by unfold setO; rw [if_pos (by omega)]); rw [hpar]; exact ⟨hc', [], StT.none, Mem.nil _, fun p hp => by cases hp⟩
 refine LM.sp 15 rfl rfl rfl ?_
 refine LM.mv rfl ?_
 refine LM.sp 15 rfl rfl rfl ?_
 refine LM.mv rfl ?_
 refine LM.sp 15 rfl rfl rfl ?_
 refine LM.val (ov_len Tryz.underlying23 rfl) ?_
 refine LM.sp 15 rfl rfl rfl ?_
 refine LM.val (ov_gtr rfl rfl) ?_
 refine LM.val (ov_pickF rfl rfl) ?_
 refine LM.nil (QM.sub (e' := [(0, _), (1, _), (4, _), (20, _)]) ⟨rfl, rfl, rfl, rfl, trivial⟩ (QM.then ?_))
 refine wpM.condD rfl (fun h2 => ?_) (fun h2 => ?_)
 ·
  refine wpM.seq (wpM.region ?_)
  refine LM.val (ov_build (cs := #[_, _, _, _, _]) rfl (by first | rfl | kernel_rfl)) ?_
  refine LM.stW Tryz.sizeOf30 rfl rfl rfl rfl au7 au8 ?_
  refine LM.as rfl ?_
  refine LM.as rfl ?_
  refine LM.nil (QM.sub (e' := [(4, _), (5, _), (6, _)]) ⟨rfl, rfl, rfl, trivial⟩ (QM.then ?_))
  refine wpM.ret ?_
  refine QM.then_ret ?_
  refine QM.leaveCs (ds := ([])) (.inl rfl) [.cell 4 30, .tmp 5, .tmp 6] Tryz.results11 hd_nil (rc_w rfl Tryz.isAgg30 Tryz.sizeOf30 rfl (rc_tmp rfl (rc_tmp rfl rc_nil))) ?_
  intro w' hm' hc'
  have hpar : setO ws p = (default, 0, 5) := (by unfold setO; rw [if_pos (by omega)]); rw [hpar]; exact ⟨hc', [], StT.none, Mem.nil _, fun p hp => by cases hp⟩
 obtain ⟨i0, rfl⟩ : ∃ i0 : Nat, p = (i0 : Nat) := ⟨p.toNat, by omega⟩; have hi0 : i0 ≤ ws.length := (by omega); have hle : (sL ws i0).2.1 ≤ ws.length := lkF_le _ _ _ _ (gpF_le _ _ _ _ (lin_le (lin_le (lin_le hi0))))
 refine wpM.skip ?_
 refine QM.then (wpM.seq (wpM.region ?_))
 refine LM.mv rfl ?_
 refine LM.mv rfl ?_
 refine LM.val (ov_build (cs := #[_, _, _]) rfl (by first | rfl | kernel_rfl)) ?_
 refine LM.box rfl rfl (fun b25 hb25 => ?_)
 refine LM.as rfl ?_
 refine LM.nil (QM.sub (e' := [(4, _), (7, _)]) ⟨rfl, rfl, trivial⟩ (QM.then (wpM.seq (wpM.region ?_))))
 refine LM.alloc Tryz.zeroValue30 rfl (fun b8 hb8 => ?_)
 refine LM.nil (QM.sub (e' := [(4, _), (7, _), (8, _)]) ⟨rfl, rfl, rfl, trivial⟩ (QM.then (wpM.seq (wpM.region ?_))))
 have hab25 : 0 < ws.length → adB ad ≠ b25 := (fun h0 => by have := hl.adlt h0; omega)
 refine LM.mv rfl ?_
 refine LM.cW (oc_call (enters_fn Tryz.func34 (by kernel_rfl) rfl) rfl) (fun w hm hc hg => tfield_spec b25 i0 0 4 wCores w hn hx (hl.ext hc) hab25 (SubM.mem au1 w hm)) rfl au8 ?_
 refine LM.val (ov_field Tryz.underlying30 rfl Tryz.sizeOf3 rfl (k := 0) rfl rfl) ?_
 refine LM.st Tryz.sizeOf3 rfl rfl rfl au5 rfl au8 ?_
 refine LM.nil (QM.sub (e' := [(4, _), (7, _), (8, _)]) ⟨rfl, rfl, rfl, trivial⟩ (QM.then (wpM.seq (wpM.region ?_))))
 refine LM.mv rfl ?_
 refine LM.cW (oc_call (enters_fn Tryz.func35 (by kernel_rfl) rfl) rfl) (fun w hm hc hg => tend_spec b25 (fldE ws i0 0 wCores 4).1 (fldE ws i0 0 wCores 4).2.1 w hn hx (hl.ext hc) hab25 (SubM.mem au1 w hm)) rfl au8 ?_
 refine LM.nil (QM.sub (e' := [(4, _), (7, _), (8, _)]) ⟨rfl, rfl, rfl, trivial⟩ (QM.then (wpM.seq (wpM.region ?_))))
 refine LM.mv rfl ?_
 refine LM.cW (oc_call (enters_fn Tryz.func34 (by kernel_rfl) rfl) rfl) (fun w hm hc hg => tfield_spec b25 (sA ws i0).1 (sA ws i0).2.1 8 wGrain w hn hx (hl.ext hc) hab25 (SubM.mem au1 w hm)) rfl au8 ?_
 refine LM.val (ov_field Tryz.underlying30 rfl Tryz.sizeOf3 rfl (k := 1) rfl rfl) ?_
 refine LM.st Tryz.sizeOf3 rfl rfl rfl au5 rfl au8 ?_
 refine LM.nil (QM.sub (e' := [(4, _), (7, _), (8, _)]) ⟨rfl, rfl, rfl, trivial⟩ (QM.then (wpM.seq (wpM.region ?_))))
 refine LM.mv rfl ?_
 refine LM.cW (oc_call (enters_fn Tryz.func35 (by kernel_rfl) rfl) rfl) (fun w hm hc hg => tend_spec b25 (fldE ws (sA ws i0).1 (sA ws i0).2.1 wGrain 8).1 (fldE ws (sA ws i0).1 (sA ws i0).2.1 wGrain 8).2.1 w hn hx (hl.ext hc) hab25 (SubM.mem au1 w hm)) rfl au8 ?_
 refine LM.nil (QM.sub (e' := [(4, _), (7, _), (8, _)]) ⟨rfl, rfl, rfl, trivial⟩ (QM.then (wpM.seq (wpM.region ?_))))
 refine LM.mv rfl ?_
 refine LM.cWN (oc_call (enters_fn Tryz.func36 (by kernel_rfl) rfl) rfl) GpT.mono (fun w hm hc hg => tgroups_spec b25 (sB2 ws i0).1 (sB2 ws i0).2.1 w hn hx (hl.ext hc) hab25 (SubM.mem au1 w hm)) rfl au8 ?_
 rintro u37 m37 ⟨gs, adg, ng, cg, rfl, hng, hsg, hgs⟩ -
 refine LM.val (ov_field Tryz.underlying30 rfl Tryz.sizeOf26 rfl (k := 2) rfl rfl) ?_
 refine LM.st Tryz.sizeOf26 rfl rfl rfl au5 rfl au8 ?_
 refine LM.nil (QM.sub (e' := [(4, _), (7, _), (8, _)]) ⟨rfl, rfl, rfl, trivial⟩ (QM.then (wpM.seq (wpM.region ?_))))
 refine LM.mv rfl ?_
 refine LM.cWN (oc_call (enters_fn Tryz.func37 (by kernel_rfl) rfl) rfl) LkT.mono (fun w hm hc hg => tlocks_spec b25 (sG ws i0).2.1 (sG ws i0).2.2 w hn hx (hl.ext hc) hab25 (SubM.mem au1 w hm)) rfl au8 ?_
 rintro u40 m40 ⟨adl, nl, cl, rfl, hnl, hsl⟩ -
 refine LM.val (ov_field Tryz.underlying30 rfl Tryz.sizeOf27 rfl (k := 3) rfl rfl) ?_
 refine LM.st Tryz.sizeOf27 rfl rfl rfl au5 rfl au8 ?_
 refine LM.nil (QM.sub (e' := [(4, _), (7, _), (8, _)]) ⟨rfl, rfl, rfl, trivial⟩ (QM.then (wpM.seq (wpM.region ?_))))
 refine LM.mv rfl ?_
 refine LM.cWN (oc_call (enters_fn Tryz.func38 (by kernel_rfl) rfl) rfl) PgT.mono (fun w hm hc hg => tprogs_spec b25 (sL ws i0).2.1 (sL ws i0).2.2 w hn hx (hl.ext hc) hab25 (SubM.mem au1 w hm) hle) rfl au8 ?_
 rintro u44 m44 ⟨ps, adp, np, cp, adq, nq, cq, mp, mq, mo, rfl, hps, hnp, hp8, hnq, hplp, rfl, hsp, hsq, hop, hog⟩ -; have hI : SetI ws i0 gs (sG ws i0).2.1 (sG ws i0).2.2 (sL ws i0).1 (sL ws i0).2.1 (sL ws i0).2.2 (ps.map PgV.c) (sP ws i0).2.1 (sP ws i0).2.2.1 (sP ws i0).2.2.2 := ⟨⟨rfl, fun q => (hgs q).symm⟩, rfl, by rw [hps]; rfl⟩
 refine LM.mv rfl ?_
 refine LM.val (ov_extract rfl rfl) ?_
 refine LM.val (ov_extract rfl rfl) ?_
 refine LM.as rfl ?_
 refine LM.as rfl ?_
 refine LM.nil (QM.sub (e' := [(4, _), (7, _), (8, _), (9, _), (10, _)]) ⟨rfl, rfl, rfl, rfl, rfl, trivial⟩ (QM.then (wpM.seq (wpM.region ?_))))
 refine LM.mv rfl ?_
 refine LM.val (ov_field Tryz.underlying30 rfl Tryz.sizeOf28 rfl (k := 4) rfl rfl) ?_
 refine LM.st Tryz.sizeOf28 rfl rfl rfl au5 rfl au8 ?_
 refine LM.nil (QM.sub (e' := [(4, _), (7, _), (8, _), (10, _)]) ⟨rfl, rfl, rfl, rfl, trivial⟩ (QM.then ?_))
 refine wpM.seq ?_
 refine wpM.seq (wpM.region ?_)
 refine LM.mv rfl ?_
 refine LM.val (ov_nilCheck rfl) ?_
 refine LM.val (ov_field Tryz.underlying70 rfl Tryz.sizeOf31 rfl (k := 2) rfl rfl) ?_
 refine LM.rd (om_ld Tryz.isAgg31 rfl rfl) ?_
 refine LM.val (ov_neq rfl rfl) ?_
 refine LM.nil (QM.sub (e' := [(4, _), (7, _), (8, _), (10, _), (53, _)]) ⟨rfl, rfl, rfl, rfl, rfl, trivial⟩ (QM.then ?_))
 refine wpM.condD rfl (fun h3 => ?_) (fun h3 => ?_)
 ·
  refine wpM.seq ?_
  refine wpM.keep ((b25, _) :: []) (fun _ => True) (.one 0 0 (.one 1 0 (.one 2 0 (.one 3 0 (.one 4 1 (.one 5 0 (.one 6 0 (.one 7 0 (.one 8 1 (.one 9 2 (.one 10 0 (.one 11 0 .nil)))))))))))) (by kernel_rfl) (by kernel_rfl) au1 (fun _ _ => trivial) ?_
  refine KD.val rfl rfl (ov_build (cs := #[_, _, _, _, _]) rfl (by first | rfl | kernel_rfl)) ?_
  refine KD.val rfl rfl (ov_move rfl) ?_
  refine KD.val rfl rfl (ov_nilCheck rfl) ?_
  refine KD.val rfl rfl (ov_field Tryz.underlying70 rfl Tryz.sizeOf3 rfl (k := 1) rfl rfl) ?_
  refine KD.rd rfl rfl (om_ld Tryz.isAgg3 rfl rfl) ?_
  refine KD.val rfl rfl (ov_move rfl) ?_
  refine KD.val rfl rfl (ov_nilCheck rfl) ?_
  refine KD.val rfl rfl (ov_field Tryz.underlying70 rfl Tryz.sizeOf31 rfl (k := 2) rfl rfl) ?_
  refine KD.rd rfl rfl (om_ld Tryz.isAgg31 rfl rfl) ?_
  refine KD.one rfl ?_
  refine LM.stW Tryz.sizeOf30 rfl rfl rfl rfl au7 au8 ?_
  refine LM.nil ?_
  refine QM.one au1 (fun _ _ => trivial) ?_
  refine KD.val rfl rfl (ov_assign rfl) ?_
  refine KD.val rfl rfl (ov_assign rfl) ?_
  refine KD.nil ?_
  refine QM.sub (e' := [(4, _), (5, _), (6, _)]) ⟨rfl, rfl, rfl, trivial⟩ (QM.then ?_)
  refine wpM.ret ?_
  refine QM.then_ret ?_
  refine QM.leaveCs (ds := ([])) (.inl rfl) [.cell 4 30, .tmp 5, .tmp 6] Tryz.results11 hd_nil (rc_w rfl Tryz.isAgg30 Tryz.sizeOf30 rfl (rc_tmp rfl (rc_tmp rfl rc_nil))) ?_
  intro w' hm' hc'
  rw [set_nat hi0, hI.bad h3]; exact ⟨hc', [], StT.none, Mem.nil _, fun p hp => by cases hp⟩
 have he3 : (sP ws i0).2.2.2 = 0 := Classical.not_not.1 h3
 refine wpM.skip ?_
 refine QM.then ?_
 refine wpM.seq ?_
 refine wpM.seq (wpM.region ?_)
 refine LM.rd (om_ldW Tryz.isAgg30 Tryz.sizeOf30 rfl rfl) ?_
 refine LM.callE (oc_call (enters_fn Tryz.func39 (by kernel_rfl) rfl) rfl) (fun w hm hc hg => misfit_at (gs := gs) (ps := ps) w ⟨hng, sr_of_sl hsg (fun _ => rfl) (hm.pick m37), hnl, sr_of_sl hsl (fun _ => rfl) (hm.pick m40), hnp, sr_of_sl hsp (fun _ => rfl) (SubM.mem au1 w hm : Mem w (mp ++ [])).pickN, hop w (hm.pick mo)⟩ (by omega)) ?_
 refine LM.mv rfl ?_
 refine LM.val (ov_extract rfl rfl) ?_
 refine LM.val (ov_extract rfl rfl) ?_
 refine LM.as rfl ?_
 refine LM.as rfl ?_
 refine LM.nil (QM.sub (e' := [(4, _), (7, _), (8, _), (10, _), (11, _), (12, _)]) ⟨rfl, rfl, rfl, rfl, rfl, rfl, trivial⟩ (QM.then (wpM.seq (wpM.region ?_))))
 refine LM.mv rfl ?_
 refine LM.val (ov_geq rfl rfl) ?_
 refine LM.nil (QM.sub (e' := [(4, _), (7, _), (8, _), (10, _), (11, _), (12, _), (69, _)]) ⟨rfl, rfl, rfl, rfl, rfl, rfl, rfl, trivial⟩ (QM.then ?_))
 refine wpM.condD rfl (fun h4 => ?_) (fun h4 => ?_)
 ·
  have hfx := (fix_ge (p := misB (sL ws i0).1 (ps.map PgV.c).length) (xs := ps.map PgV.c) default h4).1; have hfl : (ps.map PgV.c).length = ps.length := List.length_map ..; have h4' : 0 ≤ misI (sL ws i0).1 (ps.map PgV.c) := h4; have hfx : (misI (sL ws i0).1 (ps.map PgV.c)).toNat < ps.length := (by rw [← hfl]; exact hfx)
  refine wpM.seq ?_
  refine wpM.keep (mq ++ []) (fun _ => True) (.one 0 0 (.one 1 0 (.one 2 0 (.one 3 0 (.one 4 1 (.one 5 0 (.one 6 2 (.one 7 0 (.one 8 0 .nil))))))))) (by kernel_rfl) (by kernel_rfl) au1 (fun _ _ => trivial) ?_
  refine KD.val rfl rfl (ov_build (cs := #[_, _, _, _, _]) rfl (by first | rfl | kernel_rfl)) ?_
  refine KD.val rfl rfl (ov_move rfl) ?_
  refine KD.val rfl rfl (ov_move rfl) ?_
  first | refine KD.val rfl rfl (ov_idxSN au6 Tryz.underlying26 Tryz.sizeOf3 rfl rfl (by omega)) ?_ | refine KD.val rfl rfl (ov_idxS au6 Tryz.underlying26 Tryz.sizeOf3 rfl rfl (by omega)) ?_ | refine KD.val rfl rfl (ov_idx1 Tryz.underlying26 Tryz.sizeOf3 rfl rfl (by omega)) ?_
  refine KD.rd rfl rfl (om_sl1 (by assumption) (by intro _; rfl) Tryz.isAgg3 rfl rfl (by exact getq 0 au4) (by rfl)) ?_
  refine KD.val rfl rfl (ov_move rfl) ?_
  refine KD.one rfl ?_
  refine LM.stW Tryz.sizeOf30 rfl rfl rfl rfl au7 au8 ?_
  refine LM.nil ?_
  refine QM.one au1 (fun _ _ => trivial) ?_
  refine KD.val rfl rfl (ov_assign rfl) ?_
  refine KD.val rfl rfl (ov_assign rfl) ?_
  refine KD.nil ?_
  refine QM.sub (e' := [(4, _), (5, _), (6, _)]) ⟨rfl, rfl, rfl, trivial⟩ (QM.then ?_)
  refine wpM.ret ?_
  refine QM.then_ret ?_
  refine QM.leaveCs (ds := ([])) (.inl rfl) [.cell 4 30, .tmp 5, .tmp 6] Tryz.results11 hd_nil (rc_w rfl Tryz.isAgg30 Tryz.sizeOf30 rfl (rc_tmp rfl (rc_tmp rfl rc_nil))) ?_
  intro w' hm' hc'
  rw [set_nat hi0, hI.mis2 he3 h4]; exact ⟨hc', [], StT.none, Mem.nil _, fun p hp => by cases hp⟩
 refine wpM.skip ?_
 refine QM.then ?_
 refine wpM.seq ?_
 refine wpM.keep ((b25, _) :: (b8, _) :: []) (fun _ => True) (.one 0 1 (.one 1 0 (.one 2 0 (.one 3 0 (.one 4 1 (.one 5 2 (.one 6 0 (.one 7 0 .nil)))))))) (by kernel_rfl) (by kernel_rfl) au1 (fun _ _ => trivial) ?_
 refine KD.rd rfl rfl (om_ldW Tryz.isAgg30 Tryz.sizeOf30 rfl rfl) ?_
 refine KD.val rfl rfl (ov_move rfl) ?_
 refine KD.val rfl rfl (ov_nilCheck rfl) ?_
 refine KD.val rfl rfl (ov_field Tryz.underlying70 rfl Tryz.sizeOf3 rfl (k := 1) rfl rfl) ?_
 refine KD.rd rfl rfl (om_ld Tryz.isAgg3 rfl rfl) ?_
 refine KD.one rfl ?_
 refine LM.stW Tryz.sizeOf30 rfl rfl rfl rfl au7 au8 ?_
 refine LM.nil ?_
 refine QM.one au1 (fun _ _ => trivial) ?_
 refine KD.val rfl rfl (ov_assign rfl) ?_
 refine KD.val rfl rfl (ov_assign rfl) ?_
 refine KD.nil ?_
 refine QM.sub (e' := [(4, _), (5, _), (6, _)]) ⟨rfl, rfl, rfl, trivial⟩ (QM.then ?_)
 refine wpM.ret ?_
 refine QM.leaveCs (ds := ([])) (.inl rfl) [.cell 4 30, .tmp 5, .tmp 6] Tryz.results11 hd_nil (rc_w rfl Tryz.isAgg30 Tryz.sizeOf30 rfl (rc_tmp rfl (rc_tmp rfl rc_nil))) ?_
 intro w' hm' hc'
 rw [set_nat hi0, hI.ok he3 (fix_lt (p := misB (sL ws i0).1 (ps.map PgV.c).length) (xs := ps.map PgV.c) (fun q => h4 q))]; refine ⟨hc', mo ++ (mp ++ (m40 ++ (m37 ++ []))), ⟨sv ws i0 gs adg ng cg adl nl cl ps adp np cp, rfl, rfl, fun w hm => ⟨hng, sr_of_sl hsg (fun _ => rfl) (hm.pick m37), hnl, sr_of_sl hsl (fun _ => rfl) (hm.pick m40), hnp, sr_of_sl hsp (fun _ => rfl) (hm.pick mp), hop w (hm.pick mo)⟩⟩, SubM.mem (by (repeat' (first | exact SubM.nil _ | refine SubM.app ?_))) w' hm', ?_⟩; intro p hp; simp only [List.mem_append, List.not_mem_nil, or_false] at hp; rcases hp with hp | hp | hp | hp; exact hog p hp; exact Sl.ge hsp p hp; exact Sl.ge hsl p hp; exact Sl.ge hsg p hp
end Go.Eng
namespace Go.Eng
open Go Go.Proofs Go.RowKit
theorem eq_atD {α : Type} (d : α) {xs ys : List α} {i : Nat} (hl : xs.length = ys.length) (h : i < xs.length) (hp : xs.take i = ys.take i) (e : xs.getD i d = ys.getD i d) : xs.take (i + 1) = ys.take (i + 1) := by
  rw [take_snoc d h, take_snoc d (hl ▸ h), hp, e]
theorem eq_all {α : Type} {xs ys : List α} {i : Nat} (hl : xs.length = ys.length) (h : xs.length ≤ i) (hp : xs.take i = ys.take i) : xs = ys := by
  rw [List.take_of_length_le h, List.take_of_length_le (hl ▸ h)] at hp; exact hp
theorem fL_veqs (a b : CLk) : veqs (fL a) (fL b) = decide (a = b) := by
  cases a; cases b; simp only [veqs, veq, fL, Bool.and_true, CLk.mk.injEq, Bool.decide_and]; rfl
structure StV.Bd (s : StV) : Prop where
  g : s.gs.length ≤ 1000000
  l : s.ls.length ≤ 1000000
  p : s.ps.length ≤ 1000000
  o : ∀ p ∈ s.ps, p.c.xs.length ≤ 1000000
theorem pgc_eq (p q : PgC) : (decide (p.fv = q.fv) && decide (p.xs = q.xs)) = decide (p = q) := by
  cases p; cases q; simp only [PgC.mk.injEq, Bool.decide_and]
set_option maxRecDepth 100000 in
set_option maxHeartbeats 2000000 in
theorem rssame_spec {a b : StV} (w : World) (hA : a.In w) (hB : b.In w) (hb : a.Bd) : Ret Tryz.prog 13 #[a.val, b.val] w (fun v w' => v = .bool (decide (a.C = b.C)) ∧ Ext w w') := by
 have a1 := hA.hgn; have a2 := hA.hg; have a3 := hA.hln; have a4 := hA.hl; have a5 := hA.hpn; have a6 := hA.hp; have b1' := hB.hgn; have b2' := hB.hg; have b3' := hB.hln; have b4' := hB.hl; have b5' := hB.hpn; have b6' := hB.hp; have c1 := hb.g; have c2 := hb.l; have c3 := hb.p
 refine Ret.enterM (l := [a.val, b.val]) Tryz.func13 rfl Tryz.ntmps13 rfl ([]) (no) (Mem.nil w) ?_
 refine wpM.seq (wpM.region ?_)
 refine LM.box rfl rfl (fun b2 hb2 => ?_)
 refine LM.box rfl rfl (fun b3 hb3 => ?_)
 refine LM.as rfl ?_
 refine LM.nil (QM.sub (e' := [(2, _), (3, _)]) ⟨rfl, rfl, trivial⟩ (QM.then ?_))
 refine wpM.seq ?_
 refine wpM.seq ?_
 refine wpM.joinK (α := Bool) (fun q => [(46, .bool q)]) [(2, _), (3, _)] (fun q => stB b2 a :: stB b3 b :: []) (fun q => q = (decide (a.cr ≠ b.cr) || (decide (a.gr ≠ b.gr) || (decide ((a.gn : Int) ≠ (b.gn : Int)) || (decide ((a.ln : Int) ≠ (b.ln : Int)) || decide ((a.pn : Int) ≠ (b.pn : Int))))))) ⟨rfl, rfl, trivial⟩ ?_ ?_
 ·
  refine wpM.region ?_
  refine LM.val (ov_field Tryz.underlying30 rfl Tryz.sizeOf3 rfl (k := 0) rfl rfl) ?_
  refine LM.rd (om_ld Tryz.isAgg3 rfl rfl) ?_
  refine LM.val (ov_field Tryz.underlying30 rfl Tryz.sizeOf3 rfl (k := 0) rfl rfl) ?_
  refine LM.rd (om_ld Tryz.isAgg3 rfl rfl) ?_
  refine LM.val (ov_neq rfl rfl) ?_
  refine LM.mv rfl ?_
  refine LM.splitD (t := 13) rfl (fun h1 => ?_) (fun h1 => ?_)
  ·
   refine LM.dr 13 rfl rfl rfl ?_
   refine LM.dr 13 rfl rfl rfl ?_
   refine LM.dr 13 rfl rfl rfl ?_
   refine LM.dr 13 rfl rfl rfl ?_
   refine LM.dr 13 rfl rfl rfl ?_
   refine LM.val (ov_pickT rfl rfl) ?_
   refine LM.mv rfl ?_
   refine LM.dr 20 rfl rfl rfl ?_
   refine LM.dr 20 rfl rfl rfl ?_
   refine LM.dr 20 rfl rfl rfl ?_
   refine LM.dr 20 rfl rfl rfl ?_
   refine LM.dr 20 rfl rfl rfl ?_
   refine LM.dr 20 rfl rfl rfl ?_
   refine LM.dr 20 rfl rfl rfl ?_
   refine LM.val (ov_pickT rfl rfl) ?_
   refine LM.mv rfl ?_
   refine LM.dr 29 rfl rfl rfl ?_
   refine LM.dr 29 rfl rfl rfl ?_
   refine LM.dr 29 rfl rfl rfl ?_
   refine LM.dr 29 rfl rfl rfl ?_
   refine LM.dr 29 rfl rfl rfl ?_
   refine LM.dr 29 rfl rfl rfl ?_
   refine LM.dr 29 rfl rfl rfl ?_
   refine LM.val (ov_pickT rfl rfl) ?_
   refine LM.mv rfl ?_
   refine LM.dr 38 rfl rfl rfl ?_
   refine LM.dr 38 rfl rfl rfl ?_
   refine LM.dr 38 rfl rfl rfl ?_
   refine LM.dr 38 rfl rfl rfl ?_
   refine LM.dr 38 rfl rfl rfl ?_
   refine LM.dr 38 rfl rfl rfl ?_
   refine LM.dr 38 rfl rfl rfl ?_
   refine LM.val (ov_pickT rfl rfl) ?_
   refine LM.nil (QM.sub (e' := [(2, _), (3, _), (46, _)]) ⟨rfl, rfl, rfl, trivial⟩ ?_)
   refine QM.meetK (_) ⟨au2, rfl, rfl, trivial⟩ au1 ?_
   · (simp [h1]; done)
  refine LM.sp 13 rfl rfl rfl ?_
  refine LM.val (ov_field Tryz.underlying30 rfl Tryz.sizeOf3 rfl (k := 1) rfl rfl) ?_
  refine LM.sp 13 rfl rfl rfl ?_
  refine LM.rd (om_ld Tryz.isAgg3 rfl rfl) ?_
  refine LM.sp 13 rfl rfl rfl ?_
  refine LM.val (ov_field Tryz.underlying30 rfl Tryz.sizeOf3 rfl (k := 1) rfl rfl) ?_
  refine LM.sp 13 rfl rfl rfl ?_
  refine LM.rd (om_ld Tryz.isAgg3 rfl rfl) ?_
  refine LM.sp 13 rfl rfl rfl ?_
  refine LM.val (ov_neq rfl rfl) ?_
  refine LM.val (ov_pickF rfl rfl) ?_
  refine LM.mv rfl ?_
  refine LM.splitD (t := 20) rfl (fun h2 => ?_) (fun h2 => ?_)
  ·
   refine LM.dr 20 rfl rfl rfl ?_
   refine LM.dr 20 rfl rfl rfl ?_
   refine LM.dr 20 rfl rfl rfl ?_
   refine LM.dr 20 rfl rfl rfl ?_
   refine LM.dr 20 rfl rfl rfl ?_
   refine LM.dr 20 rfl rfl rfl ?_
   refine LM.dr 20 rfl rfl rfl ?_
   refine LM.val (ov_pickT rfl rfl) ?_
   refine LM.mv rfl ?_
   refine LM.dr 29 rfl rfl rfl ?_
   refine LM.dr 29 rfl rfl rfl ?_
   refine LM.dr 29 rfl rfl rfl ?_
   refine LM.dr 29 rfl rfl rfl ?_
   refine LM.dr 29 rfl rfl rfl ?_
   refine LM.dr 29 rfl rfl rfl ?_
   refine LM.dr 29 rfl rfl rfl ?_
   refine LM.val (ov_pickT rfl rfl) ?_
   refine LM.mv rfl ?_
   refine LM.dr 38 rfl rfl rfl ?_
   refine LM.dr 38 rfl rfl rfl ?_
   refine LM.dr 38 rfl rfl rfl ?_
   refine LM.dr 38 rfl rfl rfl ?_
   refine LM.dr 38 rfl rfl rfl ?_
   refine LM.dr 38 rfl rfl rfl ?_
   refine LM.dr 38 rfl rfl rfl ?_
   refine LM.val (ov_pickT rfl rfl) ?_
   refine LM.nil (QM.sub (e' := [(2, _), (3, _), (46, _)]) ⟨rfl, rfl, rfl, trivial⟩ ?_)
   refine QM.meetK (_) ⟨au2, rfl, rfl, trivial⟩ au1 ?_
   · (simp [h1, h2]; done)
  refine LM.sp 20 rfl rfl rfl ?_
  refine LM.val (ov_field Tryz.underlying30 rfl Tryz.sizeOf26 rfl (k := 2) rfl rfl) ?_
  refine LM.sp 20 rfl rfl rfl ?_
  refine LM.rd (om_ld Tryz.isAgg26 rfl rfl) ?_
  refine LM.sp 20 rfl rfl rfl ?_
  refine LM.val (ov_len Tryz.underlying26 rfl) ?_
  refine LM.sp 20 rfl rfl rfl ?_
  refine LM.val (ov_field Tryz.underlying30 rfl Tryz.sizeOf26 rfl (k := 2) rfl rfl) ?_
  refine LM.sp 20 rfl rfl rfl ?_
  refine LM.rd (om_ld Tryz.isAgg26 rfl rfl) ?_
  refine LM.sp 20 rfl rfl rfl ?_
  refine LM.val (ov_len Tryz.underlying26 rfl) ?_
  refine LM.sp 20 rfl rfl rfl ?_
  refine LM.val (ov_neq rfl rfl) ?_
  refine LM.val (ov_pickF rfl rfl) ?_
  refine LM.mv rfl ?_
  refine LM.splitD (t := 29) rfl (fun h3 => ?_) (fun h3 => ?_)
  ·
   refine LM.dr 29 rfl rfl rfl ?_
   refine LM.dr 29 rfl rfl rfl ?_
   refine LM.dr 29 rfl rfl rfl ?_
   refine LM.dr 29 rfl rfl rfl ?_
   refine LM.dr 29 rfl rfl rfl ?_
   refine LM.dr 29 rfl rfl rfl ?_
   refine LM.dr 29 rfl rfl rfl ?_
   refine LM.val (ov_pickT rfl rfl) ?_
   refine LM.mv rfl ?_
   refine LM.dr 38 rfl rfl rfl ?_
   refine LM.dr 38 rfl rfl rfl ?_
   refine LM.dr 38 rfl rfl rfl ?_
   refine LM.dr 38 rfl rfl rfl ?_
   refine LM.dr 38 rfl rfl rfl ?_
   refine LM.dr 38 rfl rfl rfl ?_
   refine LM.dr 38 rfl rfl rfl ?_
   refine LM.val (ov_pickT rfl rfl) ?_
   refine LM.nil (QM.sub (e' := [(2, _), (3, _), (46, _)]) ⟨rfl, rfl, rfl, trivial⟩ ?_)
   refine QM.meetK (_) ⟨au2, rfl, rfl, trivial⟩ au1 ?_
   · (simp [h1, h2, h3]; done)
  refine LM.sp 29 rfl rfl rfl ?_
  refine LM.val (ov_field Tryz.underlying30 rfl Tryz.sizeOf27 rfl (k := 3) rfl rfl) ?_
  refine LM.sp 29 rfl rfl rfl ?_
  refine LM.rd (om_ld Tryz.isAgg27 rfl rfl) ?_
  refine LM.sp 29 rfl rfl rfl ?_
  refine LM.val (ov_len Tryz.underlying27 rfl) ?_
  refine LM.sp 29 rfl rfl rfl ?_
  refine LM.val (ov_field Tryz.underlying30 rfl Tryz.sizeOf27 rfl (k := 3) rfl rfl) ?_
  refine LM.sp 29 rfl rfl rfl ?_
  refine LM.rd (om_ld Tryz.isAgg27 rfl rfl) ?_
  refine LM.sp 29 rfl rfl rfl ?_
  refine LM.val (ov_len Tryz.underlying27 rfl) ?_
  refine LM.sp 29 rfl rfl rfl ?_
  refine LM.val (ov_neq rfl rfl) ?_
  refine LM.val (ov_pickF rfl rfl) ?_
  refine LM.mv rfl ?_
  refine LM.splitD (t := 38) rfl (fun h4 => ?_) (fun h4 => ?_)
  ·
   refine LM.dr 38 rfl rfl rfl ?_
   refine LM.dr 38 rfl rfl rfl ?_
   refine LM.dr 38 rfl rfl rfl ?_
   refine LM.dr 38 rfl rfl rfl ?_
   refine LM.dr 38 rfl rfl rfl ?_
   refine LM.dr 38 rfl rfl rfl ?_
   refine LM.dr 38 rfl rfl rfl ?_
   refine LM.val (ov_pickT rfl rfl) ?_
   refine LM.nil (QM.sub (e' := [(2, _), (3, _), (46, _)]) ⟨rfl, rfl, rfl, trivial⟩ ?_)
   refine QM.meetK (_) ⟨au2, rfl, rfl, trivial⟩ au1 ?_
   · (simp [h1, h2, h3, h4]; done)
  refine LM.sp 38 rfl rfl rfl ?_
  refine LM.val (ov_field Tryz.underlying30 rfl Tryz.sizeOf28 rfl (k := 4) rfl rfl) ?_
  refine LM.sp 38 rfl rfl rfl ?_
  refine LM.rd (om_ld Tryz.isAgg28 rfl rfl) ?_
  refine LM.sp 38 rfl rfl rfl ?_
  refine LM.val (ov_len Tryz.underlying28 rfl) ?_
  refine LM.sp 38 rfl rfl rfl ?_
  refine LM.val (ov_field Tryz.underlying30 rfl Tryz.sizeOf28 rfl (k := 4) rfl rfl) ?_
  refine LM.sp 38 rfl rfl rfl ?_
  refine LM.rd (om_ld Tryz.isAgg28 rfl rfl) ?_
  refine LM.sp 38 rfl rfl rfl ?_
  refine LM.val (ov_len Tryz.underlying28 rfl) ?_
  refine LM.sp 38 rfl rfl rfl ?_
  refine LM.val (ov_neq rfl rfl) ?_
  refine LM.val (ov_pickF rfl rfl) ?_
  refine LM.nil (QM.sub (e' := [(2, _), (3, _), (46, _)]) ⟨rfl, rfl, rfl, trivial⟩ ?_)
  refine QM.meetK (_) ⟨au2, rfl, rfl, trivial⟩ au1 ?_
  · (simp [h1, h2, h3, h4]; done)
 rintro q hq
 change QM _ _ _ _ _ (stB b2 a :: stB b3 b :: []) _ _ _
 refine QM.then ?_
 first | refine wpM.condD rfl (fun h5 => ?_) (fun h5 => ?_) | refine wpM.condB rfl (fun h5 => ?_) (fun h5 => ?_)
 ·
  refine wpM.seq (wpM.region ?_)
  refine LM.as rfl ?_
  refine LM.nil (QM.sub (e' := [(4, _)]) ⟨rfl, trivial⟩ (QM.then ?_))
  refine wpM.ret ?_
  refine QM.then_ret ?_
  refine QM.leave (.inl rfl) [.tmp 4] Tryz.results13 rfl ?_
  intro w' hm' hc' hg'
  refine ⟨?_, hc'⟩; rw [decide_eq_false (fun (q : a.C = b.C) => by have f1 : a.cr = b.cr := congrArg StC.cr q; have f2 : a.gr = b.gr := congrArg StC.gr q; have f3 : a.gn = b.gn := (by rw [a1, b1', show a.gs = b.gs from congrArg StC.gs q]); have f4 : a.ln = b.ln := (by rw [a3, b3', show a.ls = b.ls from congrArg StC.ls q]); have f5 : a.pn = b.pn := (by have f6 : a.ps.map PgV.c = b.ps.map PgV.c := congrArg StC.ps q; have := congrArg List.length f6; simp at this; omega); rw [h5] at hq; simp [f1, f2, f3, f4, f5] at hq)]; rfl
 have hh := hq.symm; rw [h5] at hh; simp only [Bool.or_eq_false_iff, decide_eq_false_iff_not, Decidable.not_not, ne_eq] at hh; obtain ⟨e1, e2, e3, e4, e5⟩ := hh
 refine wpM.skip ?_
 refine QM.then ?_
 refine wpM.seq ?_
 refine wpM.seq (wpM.region ?_)
 refine LM.as rfl ?_
 refine LM.nil (QM.sub (e' := [(2, _), (3, _), (5, _)]) ⟨rfl, rfl, rfl, trivial⟩ (QM.then ?_))
 refine wpM.block ?_
 refine wpM.loopK0 (α := Nat) (fun i => [(5, .int .i64 (i : Nat))]) [(2, _), (3, _)] (fun i => stB b2 a :: stB b3 b :: []) (fun i => i ≤ a.gs.length ∧ a.gs.take i = b.gs.take i) (fun i => a.gs.length - i) (0) ⟨au2, rfl, rfl, trivial⟩ au1 ⟨Nat.zero_le _, rfl⟩ ?_
 rintro i ⟨hi, hg⟩
 change wpM _ _ _ _ _ _ _ (stB b2 a :: stB b3 b :: []) _ _ _
 refine wpM.seq ?_
 refine wpM.seq (wpM.region ?_)
 refine LM.mv rfl ?_
 refine LM.val (ov_field Tryz.underlying30 rfl Tryz.sizeOf26 rfl (k := 2) rfl rfl) ?_
 refine LM.rd (om_ld Tryz.isAgg26 rfl rfl) ?_
 refine LM.val (ov_len Tryz.underlying26 rfl) ?_
 refine LM.val (ov_lss rfl rfl) ?_
 refine LM.nil (QM.sub (e' := [(2, _), (3, _), (5, _), (51, _)]) ⟨rfl, rfl, rfl, rfl, trivial⟩ (QM.then ?_))
 refine wpM.condD rfl (fun h6 => ?_) (fun h6 => ?_)
 ·
  refine wpM.skip ?_
  refine QM.then ?_
  refine wpM.seq ?_
  refine wpM.block ?_
  refine wpM.seq ?_
  refine wpM.draw [(0, 0), (1, 1), (2, 0), (3, 0), (4, 1), (5, 0), (6, 1), (7, 0), (8, 0), (9, 1), (10, 0)] (by kernel_rfl) (by kernel_rfl) ?_
  refine LD.val rfl rfl (ov_field Tryz.underlying30 rfl Tryz.sizeOf26 rfl (k := 2) rfl rfl) ?_
  refine LD.rd rfl rfl (om_ld Tryz.isAgg26 rfl rfl) ?_
  refine LD.val rfl rfl (ov_move rfl) ?_
  refine LD.val rfl rfl (ov_idxSN au6 Tryz.underlying26 Tryz.sizeOf3 rfl rfl (by omega)) ?_
  first | refine LD.rd rfl rfl (om_sl1 (by assumption) (by intro _; rfl) Tryz.isAgg3 rfl rfl (by exact getq 0 au4) (by rfl)) ?_ | refine LD.rdC rfl rfl (om_sr1 (by assumption) Tryz.isAgg3 rfl rfl (by exact getq 0 au4) (by rfl) id) ?_ | refine LD.rd rfl rfl (om_ld Tryz.isAgg3 rfl rfl) ?_
  refine LD.val rfl rfl (ov_field Tryz.underlying30 rfl Tryz.sizeOf26 rfl (k := 2) rfl rfl) ?_
  refine LD.rd rfl rfl (om_ld Tryz.isAgg26 rfl rfl) ?_
  refine LD.val rfl rfl (ov_move rfl) ?_
  refine LD.val rfl rfl (ov_idxSN au6 Tryz.underlying26 Tryz.sizeOf3 rfl rfl (by omega)) ?_
  first | refine LD.rd rfl rfl (om_sl1 (by assumption) (by intro _; rfl) Tryz.isAgg3 rfl rfl (by exact getq 0 au4) (by rfl)) ?_ | refine LD.rdC rfl rfl (om_sr1 (by assumption) Tryz.isAgg3 rfl rfl (by exact getq 0 au4) (by rfl) id) ?_ | refine LD.rd rfl rfl (om_ld Tryz.isAgg3 rfl rfl) ?_
  refine LD.val rfl rfl (ov_neq rfl rfl) ?_
  refine LD.nil ?_
  refine QM.sub (e' := [(2, _), (3, _), (5, _), (64, _)]) ⟨rfl, rfl, rfl, rfl, trivial⟩ (QM.then ?_)
  refine wpM.condD rfl (fun h7 => ?_) (fun h7 => ?_)
  ·
   refine wpM.seq (wpM.region ?_)
   refine LM.as rfl ?_
   refine LM.nil (QM.sub (e' := [(4, _)]) ⟨rfl, trivial⟩ (QM.then ?_))
   refine wpM.ret ?_
   refine QM.block_ret ?_
   refine QM.then_ret ?_
   refine QM.then_ret ?_
   refine QM.block_ret ?_
   refine QM.then_ret ?_
   refine QM.leave (.inl rfl) [.tmp 4] Tryz.results13 rfl ?_
   intro w' hm' hc' hg'
   refine ⟨?_, hc'⟩; rw [decide_eq_false (fun (q : a.C = b.C) => h7 (by rw [show a.gs = b.gs from congrArg StC.gs q]))]; rfl
  refine wpM.skip ?_
  refine QM.block_normal ?_
  refine QM.then (wpM.region ?_)
  refine LM.mv rfl ?_
  refine LM.val (ov_add64 rfl rfl (by omega)) ?_
  refine LM.as rfl ?_
  refine LM.nil (QM.sub (e' := [(2, _), (3, _), (5, _)]) ⟨rfl, rfl, rfl, trivial⟩ ?_)
  refine QM.againK (i + 1) ⟨au2, rfl, rfl, trivial⟩ au1 (fun _ h => h) ?_ ?_
  · exact ⟨by omega, eq_atD 0 (by omega) (by omega) hg (Classical.not_not.1 h7)⟩
  · omega
 refine wpM.exit ?_
 refine QM.then_exit ?_
 refine QM.then_exit ?_
 refine QM.block_hit ?_
 refine QM.then ?_
 refine wpM.seq ?_
 refine wpM.seq (wpM.region ?_)
 refine LM.as rfl ?_
 refine LM.nil (QM.sub (e' := [(2, _), (3, _), (6, _)]) ⟨rfl, rfl, rfl, trivial⟩ (QM.then ?_))
 refine wpM.block ?_
 refine wpM.loopK0 (α := Nat) (fun j => [(6, .int .i64 (j : Nat))]) [(2, _), (3, _)] (fun j => stB b2 a :: stB b3 b :: []) (fun j => j ≤ a.ls.length ∧ a.ls.take j = b.ls.take j) (fun j => a.ls.length - j) (0) ⟨au2, rfl, rfl, trivial⟩ au1 ⟨Nat.zero_le _, rfl⟩ ?_
 rintro j ⟨hj, hl⟩
 change wpM _ _ _ _ _ _ _ (stB b2 a :: stB b3 b :: []) _ _ _
 refine wpM.seq ?_
 refine wpM.seq (wpM.region ?_)
 refine LM.mv rfl ?_
 refine LM.val (ov_field Tryz.underlying30 rfl Tryz.sizeOf27 rfl (k := 3) rfl rfl) ?_
 refine LM.rd (om_ld Tryz.isAgg27 rfl rfl) ?_
 refine LM.val (ov_len Tryz.underlying27 rfl) ?_
 refine LM.val (ov_lss rfl rfl) ?_
 refine LM.nil (QM.sub (e' := [(2, _), (3, _), (6, _), (69, _)]) ⟨rfl, rfl, rfl, rfl, trivial⟩ (QM.then ?_))
 refine wpM.condD rfl (fun h8 => ?_) (fun h8 => ?_)
 ·
  refine wpM.skip ?_
  refine QM.then ?_
  refine wpM.seq ?_
  refine wpM.block ?_
  refine wpM.seq ?_
  refine wpM.draw [(0, 0), (1, 1), (2, 0), (3, 0), (4, 1), (5, 0), (6, 1), (7, 0), (8, 0), (9, 1), (10, 0)] (by kernel_rfl) (by kernel_rfl) ?_
  refine LD.val rfl rfl (ov_field Tryz.underlying30 rfl Tryz.sizeOf27 rfl (k := 3) rfl rfl) ?_
  refine LD.rd rfl rfl (om_ld Tryz.isAgg27 rfl rfl) ?_
  refine LD.val rfl rfl (ov_move rfl) ?_
  refine LD.val rfl rfl (ov_idxSN au6 Tryz.underlying27 Tryz.sizeOf63 rfl rfl (by omega)) ?_
  first | refine LD.rd rfl rfl (om_slA (by assumption) (by intro _; rfl) Tryz.isAgg63 Tryz.sizeOf63 rfl au3) ?_ | refine LD.rdC rfl rfl (om_srEA (by assumption) (by intro _; rfl) Tryz.isAgg63 Tryz.sizeOf63 rfl au3 id) ?_ | refine LD.rd rfl rfl (om_ldW Tryz.isAgg63 Tryz.sizeOf63 rfl rfl) ?_ | refine LD.rd rfl rfl (om_ldA Tryz.isAgg63 Tryz.sizeOf63 rfl (vs := [_, _, _, _, _]) rfl ⟨rfl, rfl, rfl, rfl, rfl, trivial⟩) ?_
  refine LD.val rfl rfl (ov_field Tryz.underlying30 rfl Tryz.sizeOf27 rfl (k := 3) rfl rfl) ?_
  refine LD.rd rfl rfl (om_ld Tryz.isAgg27 rfl rfl) ?_
  refine LD.val rfl rfl (ov_move rfl) ?_
  refine LD.val rfl rfl (ov_idxSN au6 Tryz.underlying27 Tryz.sizeOf63 rfl rfl (by omega)) ?_
  first | refine LD.rd rfl rfl (om_slA (by assumption) (by intro _; rfl) Tryz.isAgg63 Tryz.sizeOf63 rfl au3) ?_ | refine LD.rdC rfl rfl (om_srEA (by assumption) (by intro _; rfl) Tryz.isAgg63 Tryz.sizeOf63 rfl au3 id) ?_ | refine LD.rd rfl rfl (om_ldW Tryz.isAgg63 Tryz.sizeOf63 rfl rfl) ?_ | refine LD.rd rfl rfl (om_ldA Tryz.isAgg63 Tryz.sizeOf63 rfl (vs := [_, _, _, _, _]) rfl ⟨rfl, rfl, rfl, rfl, rfl, trivial⟩) ?_
  refine LD.val rfl rfl (ov_aneq Tryz.underlying63 (by kernel_rfl) (by kernel_rfl) (by decide) rfl rfl (by rfl) ⟨(by first | rfl | trivial), (by first | rfl | trivial), (by first | rfl | trivial), (by first | rfl | trivial), (by first | rfl | trivial), trivial⟩) ?_
  refine LD.nil ?_
  refine QM.sub (e' := [(2, _), (3, _), (6, _), (82, _)]) ⟨rfl, rfl, rfl, rfl, trivial⟩ (QM.then ?_)
  first | refine wpM.condD rfl (fun h9 => ?_) (fun h9 => ?_) | refine wpM.condB rfl (fun h9 => ?_) (fun h9 => ?_)
  ·
   refine wpM.seq (wpM.region ?_)
   refine LM.as rfl ?_
   refine LM.nil (QM.sub (e' := [(4, _)]) ⟨rfl, trivial⟩ (QM.then ?_))
   refine wpM.ret ?_
   refine QM.block_ret ?_
   refine QM.then_ret ?_
   refine QM.then_ret ?_
   refine QM.block_ret ?_
   refine QM.then_ret ?_
   refine QM.leave (.inl rfl) [.tmp 4] Tryz.results13 rfl ?_
   intro w' hm' hc' hg'
   refine ⟨?_, hc'⟩; rw [decide_eq_false (fun (q : a.C = b.C) => by rw [fL_veqs, show a.ls = b.ls from congrArg StC.ls q] at h9; simp at h9)]; rfl
  refine wpM.skip ?_
  refine QM.block_normal ?_
  refine QM.then (wpM.region ?_)
  refine LM.mv rfl ?_
  refine LM.val (ov_add64 rfl rfl (by omega)) ?_
  refine LM.as rfl ?_
  refine LM.nil (QM.sub (e' := [(2, _), (3, _), (6, _)]) ⟨rfl, rfl, rfl, trivial⟩ ?_)
  refine QM.againK (j + 1) ⟨au2, rfl, rfl, trivial⟩ au1 (fun _ h => h) ?_ ?_
  · exact ⟨by omega, eq_atD default (by omega) (by omega) hl (by rw [fL_veqs] at h9; simpa using h9)⟩
  · omega
 refine wpM.exit ?_
 refine QM.then_exit ?_
 refine QM.then_exit ?_
 refine QM.block_hit ?_
 refine QM.then ?_
 refine wpM.seq ?_
 refine wpM.seq (wpM.region ?_)
 refine LM.as rfl ?_
 refine LM.nil (QM.sub (e' := [(2, _), (3, _), (7, _)]) ⟨rfl, rfl, rfl, trivial⟩ (QM.then ?_))
 refine wpM.block ?_
 refine wpM.loopK0 (α := Nat) (fun k => [(7, .int .i64 (k : Nat))]) [(2, _), (3, _)] (fun k => stB b2 a :: stB b3 b :: []) (fun k => k ≤ a.ps.length ∧ (a.ps.map PgV.c).take k = (b.ps.map PgV.c).take k) (fun k => a.ps.length - k) (0) ⟨au2, rfl, rfl, trivial⟩ au1 ⟨Nat.zero_le _, rfl⟩ ?_
 rintro k ⟨hk, hp⟩
 change wpM _ _ _ _ _ _ _ (stB b2 a :: stB b3 b :: []) _ _ _
 refine wpM.seq ?_
 refine wpM.seq (wpM.region ?_)
 refine LM.mv rfl ?_
 refine LM.val (ov_field Tryz.underlying30 rfl Tryz.sizeOf28 rfl (k := 4) rfl rfl) ?_
 refine LM.rd (om_ld Tryz.isAgg28 rfl rfl) ?_
 refine LM.val (ov_len Tryz.underlying28 rfl) ?_
 refine LM.val (ov_lss rfl rfl) ?_
 refine LM.nil (QM.sub (e' := [(2, _), (3, _), (7, _), (87, _)]) ⟨rfl, rfl, rfl, rfl, trivial⟩ (QM.then ?_))
 refine wpM.condD rfl (fun h10 => ?_) (fun h10 => ?_)
 ·
  have hx1 : a.ps.getD k default ∈ a.ps := List.mem_of_getElem? (getq default (by omega)); have hx2 : b.ps.getD k default ∈ b.ps := List.mem_of_getElem? (getq default (by omega))
  refine wpM.skip ?_
  refine QM.then ?_
  refine wpM.seq ?_
  refine wpM.block ?_
  refine wpM.seq ?_
  refine wpM.draw [(0, 0), (1, 1), (2, 0), (3, 0), (4, 1), (5, 0), (6, 1), (7, 0), (8, 0), (9, 1), (10, 2), (11, 0)] (by kernel_rfl) (by kernel_rfl) ?_
  refine LD.val rfl rfl (ov_field Tryz.underlying30 rfl Tryz.sizeOf28 rfl (k := 4) rfl rfl) ?_
  refine LD.rd rfl rfl (om_ld Tryz.isAgg28 rfl rfl) ?_
  refine LD.val rfl rfl (ov_move rfl) ?_
  refine LD.val rfl rfl (ov_idxSN au6 Tryz.underlying28 Tryz.sizeOf87 rfl rfl (by omega)) ?_
  first | refine LD.rd rfl rfl (om_slA (by assumption) (by intro _; rfl) Tryz.isAgg87 Tryz.sizeOf87 rfl au3) ?_ | refine LD.rdC rfl rfl (om_srEA (by assumption) (by intro _; rfl) Tryz.isAgg87 Tryz.sizeOf87 rfl au3 id) ?_ | refine LD.rd rfl rfl (om_ldW Tryz.isAgg87 Tryz.sizeOf87 rfl rfl) ?_ | refine LD.rd rfl rfl (om_ldA Tryz.isAgg87 Tryz.sizeOf87 rfl (vs := [_, _]) rfl ⟨rfl, rfl, trivial⟩) ?_
  refine LD.val rfl rfl (ov_field Tryz.underlying30 rfl Tryz.sizeOf28 rfl (k := 4) rfl rfl) ?_
  refine LD.rd rfl rfl (om_ld Tryz.isAgg28 rfl rfl) ?_
  refine LD.val rfl rfl (ov_move rfl) ?_
  refine LD.val rfl rfl (ov_idxSN au6 Tryz.underlying28 Tryz.sizeOf87 rfl rfl (by omega)) ?_
  first | refine LD.rd rfl rfl (om_slA (by assumption) (by intro _; rfl) Tryz.isAgg87 Tryz.sizeOf87 rfl au3) ?_ | refine LD.rdC rfl rfl (om_srEA (by assumption) (by intro _; rfl) Tryz.isAgg87 Tryz.sizeOf87 rfl au3 id) ?_ | refine LD.rd rfl rfl (om_ldW Tryz.isAgg87 Tryz.sizeOf87 rfl rfl) ?_ | refine LD.rd rfl rfl (om_ldA Tryz.isAgg87 Tryz.sizeOf87 rfl (vs := [_, _]) rfl ⟨rfl, rfl, trivial⟩) ?_
  refine LD.callE rfl rfl (oc_call (enters_fn Tryz.func47 (by kernel_rfl) rfl) rfl) (fun w hm hc hg => rsame_spec w (hA.ops _ hx1).1 ((hA.ops _ hx1).2.ext hc) (hB.ops _ hx2).1 ((hB.ops _ hx2).2.ext hc) (by have := hb.o _ hx1; omega)) ?_
  first | refine LD.val rfl rfl (ov_notD rfl) ?_ | refine LD.val rfl rfl (ov_not rfl) ?_
  refine LD.nil ?_
  refine QM.sub (e' := [(2, _), (3, _), (7, _), (101, _)]) ⟨rfl, rfl, rfl, rfl, trivial⟩ (QM.then ?_)
  first | refine wpM.condD rfl (fun h11 => ?_) (fun h11 => ?_) | refine wpM.condB rfl (fun h11 => ?_) (fun h11 => ?_)
  ·
   refine wpM.seq (wpM.region ?_)
   refine LM.as rfl ?_
   refine LM.nil (QM.sub (e' := [(4, _)]) ⟨rfl, trivial⟩ (QM.then ?_))
   refine wpM.ret ?_
   refine QM.block_ret ?_
   refine QM.then_ret ?_
   refine QM.then_ret ?_
   refine QM.block_ret ?_
   refine QM.then_ret ?_
   refine QM.leave (.inl rfl) [.tmp 4] Tryz.results13 rfl ?_
   intro w' hm' hc' hg'
   refine ⟨?_, hc'⟩; rw [decide_eq_false (fun (q : a.C = b.C) => by rw [pgc_eq, ← map_getD, ← map_getD, show a.ps.map PgV.c = b.ps.map PgV.c from congrArg StC.ps q] at h11; simp at h11)]; rfl
  refine wpM.skip ?_
  refine QM.block_normal ?_
  refine QM.then (wpM.region ?_)
  refine LM.mv rfl ?_
  refine LM.val (ov_add64 rfl rfl (by omega)) ?_
  refine LM.as rfl ?_
  refine LM.nil (QM.sub (e' := [(2, _), (3, _), (7, _)]) ⟨rfl, rfl, rfl, trivial⟩ ?_)
  refine QM.againK (k + 1) ⟨au2, rfl, rfl, trivial⟩ au1 (fun _ h => h) ?_ ?_
  · exact ⟨by omega, eq_atD default (by simp; omega) (by simp; omega) hp (by rw [map_getD, map_getD]; rw [pgc_eq] at h11; simpa using h11)⟩
  · omega
 refine wpM.exit ?_
 refine QM.then_exit ?_
 refine QM.then_exit ?_
 refine QM.block_hit ?_
 refine QM.then (wpM.seq (wpM.region ?_))
 refine LM.as rfl ?_
 refine LM.nil (QM.sub (e' := [(4, _)]) ⟨rfl, trivial⟩ (QM.then ?_))
 refine wpM.ret ?_
 refine QM.leave (.inl rfl) [.tmp 4] Tryz.results13 rfl ?_
 intro w' hm' hc' hg'
 refine ⟨?_, hc'⟩; rw [decide_eq_true (show a.C = b.C by unfold StV.C; rw [e1, e2, eq_all (by omega) (by omega) hg, eq_all (by omega) (by omega) hl, eq_all (by simp; omega) (by simp; omega) hp])]; rfl
end Go.Eng
namespace Go.Eng
open Go Go.Proofs Go.RowKit
abbrev wrB (b : Nat) (ad : Option Addr) (n cap : Nat) : Nat × Obj := (b, .cells #[.slice ad n cap] 101 (0, 0))
def WrM (n0 b : Nat) (ws : List Wrd) (m : Mem0) : Prop := ∃ ad n cap ml, n = ws.length ∧ Sl fW 65 4 n0 ws (.slice ad n cap) ml ∧ n0 ≤ b ∧ m = wrB b ad n cap :: (ml ++ [])
def WrT (n0 b : Nat) (ws : List Wrd) (u : Value) (m : Mem0) : Prop := u = .tuple #[] ∧ WrM n0 b ws m
theorem fldW_len (t : List UInt8) (k : Int) : (fldW t k).length = 2 := rfl
theorem linW_len (t : List UInt8) (k : Int) : (linW t k).length = 3 := rfl
theorem lin_snoc {gs : List Int} {i : Nat} {t : List UInt8} (h : i < gs.length) : (gs.take (i + 1)).flatMap (linW t) = (gs.take i).flatMap (linW t) ++ linW t (gs.getD i 0) := by
  rw [take_snoc 0 h, List.flatMap_append]; simp
theorem lck_snoc {ls : List CLk} {i : Nat} (h : i < ls.length) : (ls.take (i + 1)).flatMap lckW = (ls.take i).flatMap lckW ++ lckW (ls.getD i default) := by
  rw [take_snoc default h, List.flatMap_append]; simp
def pgW (ps : List PgC) : List Wrd := ps.flatMap (fun p => wordsF p.fv p.xs)
theorem pgW_snoc {ps : List PgC} {i : Nat} (h : i < ps.length) : pgW (ps.take (i + 1)) = pgW (ps.take i) ++ wordsF (ps.getD i default).fv (ps.getD i default).xs := by
  unfold pgW; rw [take_snoc default h, List.flatMap_append]; simp
theorem lin_flen {gs : List Int} {t : List UInt8} : (gs.flatMap (linW t)).length = 3 * gs.length := by
  induction gs with
  | nil => rfl
  | cons a l ih => rw [List.flatMap_cons, List.length_append, ih, linW_len, List.length_cons]; omega
theorem lck_flen {ls : List CLk} : (ls.flatMap lckW).length ≤ 10 * ls.length := by
  induction ls with
  | nil => exact Nat.zero_le _
  | cons a l ih => rw [List.flatMap_cons, List.length_append, lckW_len, List.length_cons]; split <;> omega
theorem pg_flen {ps : List PgC} (h : ∀ p ∈ ps, p.xs.length ≤ 12) : (pgW ps).length ≤ 60 * ps.length := by
  unfold pgW
  induction ps with
  | nil => exact Nat.zero_le _
  | cons a l ih =>
    have h1 := words_len a.fv a.xs
    have h2 := h a (List.mem_cons_self ..)
    have h3 := ih (fun p hp => h p (List.mem_cons_of_mem _ hp))
    rw [List.flatMap_cons, List.length_append, List.length_cons]; omega
theorem setW_eq (s : StC) : setW s = linW wCores s.cr ++ linW wGrain s.gr ++ s.gs.flatMap (linW wGroup) ++ s.ls.flatMap lckW ++ pgW s.ps := rfl
theorem progs12 {s : StC} (h : mayS s = true) : ∀ p ∈ s.ps, p.xs.length ≤ 12 := fun p hp => (mayB_inv (List.all_eq_true.1 (mayS_progs h) p hp)).2.1
theorem setW_len {s : StC} (h : mayS s = true) : (setW s).length ≤ 600 := by
  obtain ⟨_, _, h1, _, h2, _, h3, _⟩ := mayS_inv h
  have a := lin_flen (gs := s.gs) (t := wGroup)
  have b := lck_flen (ls := s.ls)
  have c := pg_flen (progs12 h)
  rw [setW_eq]; simp only [List.length_append, linW_len]; omega
set_option maxRecDepth 100000 in
theorem wfield_spec {n0 : Nat} {ws : List Wrd} {m : Mem0} (b : Nat) (t : List UInt8) (k : Int) (w : World) (hW : WrM n0 b ws m) (hM : Mem w m) (hn0 : n0 ≤ w.heap.size) (hlx : ws.length ≤ 300000) : Ret Tryz.prog 101 #[.pointer (some ⟨b, 0, none⟩), vS t, .int .i64 k] w (Upd m (WrT n0 b (ws ++ fldW t k)) w) := by
 obtain ⟨ad, n, cap, ml, hn, hsl, hbw, rfl⟩ := hW
 refine Ret.enterM (l := [.pointer (some ⟨b, 0, none⟩), vS t, .int .i64 k]) Tryz.func101 rfl Tryz.ntmps101 rfl (wrB b ad n cap :: (ml ++ [])) ((fun x => ∃ q ∈ wrB b ad n cap :: (ml ++ []), q.1 = x)) hM ?_
 refine wpM.region ?_
 refine LM.mv rfl ?_
 refine LM.mv rfl ?_
 refine LM.val (ov_nilCheck rfl) ?_
 refine LM.val (ov_field Tryz.underlying101 rfl Tryz.sizeOf23 rfl (k := 0) rfl rfl) ?_
 refine LM.rd (om_ld Tryz.isAgg23 rfl rfl) ?_
 refine LM.mv rfl ?_
 refine LM.val (ov_build (cs := #[_, _, _, _]) rfl (by first | rfl | kernel_rfl)) ?_
 refine LM.mv rfl ?_
 refine LM.val (ov_build (cs := #[_, _, _, _]) rfl (by first | rfl | kernel_rfl)) ?_
 refine LM.row (vs := [_, _]) Tryz.underlying23 Tryz.sizeOf65 Tryz.zeroValue65 rfl rfl rfl rfl rfl rfl (fun b15 hb15 => ?_)
 refine LM.appN (ys := fldW t k) Tryz.underlying23 Tryz.typeInfo65 rfl rfl rfl rfl rfl rfl rfl hsl (fun w hm hc hg => row_sr 2 (hm.at b15) rfl rfl (fun _ => rfl)) (by intro _; rfl) (by intro _ u hu; simp [fW] at hu; (repeat (first | (rcases hu with rfl | hu) | subst hu | rfl))) (by first | exact Nat.le_refl _ | omega) (fun p hp _ => ⟨p, List.mem_cons_of_mem _ (List.mem_append_left _ hp), rfl⟩) (by first | omega | (unfold maxLen; simp only [fldW_len, List.length_cons, List.length_nil]; omega) | (unfold maxLen; omega)) (by simp only [Tryz.t65, fldW_len, List.length_cons, List.length_nil]; omega) (fun ad16 n16 cap16 m16 hn16 hs16 hin16 => ?_)
 refine LM.val (ov_nilCheck rfl) ?_
 refine LM.val (ov_field Tryz.underlying101 rfl Tryz.sizeOf23 rfl (k := 0) rfl rfl) ?_
 refine LM.st Tryz.sizeOf23 rfl rfl rfl au5 rfl (fun hlt => by first | exact ⟨_, List.mem_cons_self .., rfl⟩ | exact absurd hlt (by omega)) ?_
 refine LM.nil (QM.sub (e' := []) trivial ?_)
 refine QM.leave (.inr rfl) [] Tryz.results101 rfl ?_
 intro w' hm' hc' hg'
 refine ⟨hc', wrB b ad16 n16 cap16 :: (m16 ++ []), ⟨rfl, ad16, n16, cap16, m16, by rw [hn16]; simp, hs16, hbw, rfl⟩, SubM.mem au1 w' hm', fun p hp => ?_⟩; rcases List.mem_cons.1 hp with rfl | hp; exact .inr ⟨_, List.mem_cons_self .., rfl⟩; rw [List.append_nil] at hp; rcases hin16 p hp with h | ⟨q, hq, hqp⟩; exact .inl h; exact .inr ⟨q, List.mem_cons_of_mem _ (List.mem_append_left _ hq), hqp⟩
set_option maxRecDepth 100000 in
theorem wend_spec {n0 : Nat} {ws : List Wrd} {m : Mem0} (b : Nat) (w : World) (hW : WrM n0 b ws m) (hM : Mem w m) (hn0 : n0 ≤ w.heap.size) (hlx : ws.length ≤ 300000) : Ret Tryz.prog 102 #[.pointer (some ⟨b, 0, none⟩)] w (Upd m (WrT n0 b (ws ++ [mk3 [59]])) w) := by
 obtain ⟨ad, n, cap, ml, hn, hsl, hbw, rfl⟩ := hW
 refine Ret.enterM (l := [.pointer (some ⟨b, 0, none⟩)]) Tryz.func102 rfl Tryz.ntmps102 rfl (wrB b ad n cap :: (ml ++ [])) ((fun x => ∃ q ∈ wrB b ad n cap :: (ml ++ []), q.1 = x)) hM ?_
 refine wpM.region ?_
 refine LM.mv rfl ?_
 refine LM.mv rfl ?_
 refine LM.val (ov_nilCheck rfl) ?_
 refine LM.val (ov_field Tryz.underlying101 rfl Tryz.sizeOf23 rfl (k := 0) rfl rfl) ?_
 refine LM.rd (om_ld Tryz.isAgg23 rfl rfl) ?_
 refine LM.val (ov_build (cs := #[_, _, _, _]) rfl (by first | rfl | kernel_rfl)) ?_
 refine LM.single Tryz.underlying23 Tryz.sizeOf65 Tryz.zeroValue65 rfl rfl rfl rfl rfl (fun b8 hb8 => ?_)
 refine LM.appN (ys := [mk3 [59]]) Tryz.underlying23 Tryz.typeInfo65 rfl rfl rfl rfl rfl rfl rfl hsl (fun w hm hc hg => row_sr 1 (hm.at b8) rfl rfl (fun _ => rfl)) (by intro _; rfl) (by intro _ u hu; simp [fW] at hu; (repeat (first | (rcases hu with rfl | hu) | subst hu | rfl))) (by first | exact Nat.le_refl _ | omega) (fun p hp _ => ⟨p, List.mem_cons_of_mem _ (List.mem_append_left _ hp), rfl⟩) (by first | omega | (unfold maxLen; simp only [fldW_len, List.length_cons, List.length_nil]; omega) | (unfold maxLen; omega)) (by simp only [Tryz.t65, fldW_len, List.length_cons, List.length_nil]; omega) (fun ad9 n9 cap9 m9 hn9 hs9 hin9 => ?_)
 refine LM.val (ov_nilCheck rfl) ?_
 refine LM.val (ov_field Tryz.underlying101 rfl Tryz.sizeOf23 rfl (k := 0) rfl rfl) ?_
 refine LM.st Tryz.sizeOf23 rfl rfl rfl au5 rfl (fun hlt => by first | exact ⟨_, List.mem_cons_self .., rfl⟩ | exact absurd hlt (by omega)) ?_
 refine LM.nil (QM.sub (e' := []) trivial ?_)
 refine QM.leave (.inr rfl) [] Tryz.results102 rfl ?_
 intro w' hm' hc' hg'
 refine ⟨hc', wrB b ad9 n9 cap9 :: (m9 ++ []), ⟨rfl, ad9, n9, cap9, m9, by rw [hn9]; simp, hs9, hbw, rfl⟩, SubM.mem au1 w' hm', fun p hp => ?_⟩; rcases List.mem_cons.1 hp with rfl | hp; exact .inr ⟨_, List.mem_cons_self .., rfl⟩; rw [List.append_nil] at hp; rcases hin9 p hp with h | ⟨q, hq, hqp⟩; exact .inl h; exact .inr ⟨q, List.mem_cons_of_mem _ (List.mem_append_left _ hq), hqp⟩
theorem wr_cells {n0 b : Nat} {ws : List Wrd} {m : Mem0} (h : WrM n0 b ws m) : ∀ p ∈ m, wlk p.2 = false := by
  obtain ⟨ad, n, cap, ml, hn, hsl, hbw, rfl⟩ := h
  intro p hp
  rcases List.mem_cons.1 hp with rfl | hp
  · rfl
  · rw [List.append_nil] at hp; exact hsl.wlk p hp
theorem wr_ge {n0 b : Nat} {ws : List Wrd} {m : Mem0} (h : WrM n0 b ws m) : ∀ p ∈ m, n0 ≤ p.1 := by
  obtain ⟨ad, n, cap, ml, hn, hsl, hbw, rfl⟩ := h
  intro p hp
  rcases List.mem_cons.1 hp with rfl | hp
  · exact hbw
  · rw [List.append_nil] at hp; exact Sl.ge hsl p hp
theorem in_S {A B : Mem0} {k : Nat} (h : ∀ p ∈ B, k ≤ p.1 ∨ ∃ q ∈ A, q.1 = p.1) : ∀ p ∈ B, p.1 < k → ∃ q ∈ A, q.1 = p.1 := fun p hp hlt => (h p hp).resolve_left (by omega)
theorem in_tr {A B C : Mem0} {k : Nat} (h1 : ∀ p ∈ B, k ≤ p.1 ∨ ∃ q ∈ A, q.1 = p.1) (h2 : ∀ p ∈ C, k ≤ p.1 ∨ ∃ q ∈ B, q.1 = p.1) : ∀ p ∈ C, k ≤ p.1 ∨ ∃ q ∈ A, q.1 = p.1 := fun p hp => by
  rcases h2 p hp with h | ⟨q, hq, e⟩
  · exact .inl h
  · rcases h1 q hq with h | ⟨r, hr, e2⟩
    · exact .inl (by omega)
    · exact .inr ⟨r, hr, e2.trans e⟩
theorem in_wr {b : Nat} {ad ad' : Option Addr} {n n' cap cap' k : Nat} {ml m' : Mem0} (h : ∀ p ∈ m', k ≤ p.1 ∨ ∃ q ∈ ml, q.1 = p.1) : ∀ p ∈ wrB b ad' n' cap' :: (m' ++ []), k ≤ p.1 ∨ ∃ q ∈ wrB b ad n cap :: (ml ++ []), q.1 = p.1 := fun p hp => by
  rcases List.mem_cons.1 hp with rfl | hp
  · exact .inr ⟨_, List.mem_cons_self .., rfl⟩
  · rw [List.append_nil] at hp
    rcases h p hp with h | ⟨q, hq, hqp⟩
    · exact .inl h
    · exact .inr ⟨q, List.mem_cons_of_mem _ (List.mem_append_left _ hq), hqp⟩
set_option maxRecDepth 100000 in
theorem wline_spec {n0 : Nat} {ws : List Wrd} {m : Mem0} (b : Nat) (t : List UInt8) (k : Int) (w : World) (hW : WrM n0 b ws m) (hM : Mem w m) (hn0 : n0 ≤ w.heap.size) (hlx : ws.length ≤ 200000) : Ret Tryz.prog 56 #[.pointer (some ⟨b, 0, none⟩), vS t, .int .i64 k] w (Upd m (WrT n0 b (ws ++ linW t k)) w) := by
 refine Ret.enterM (l := [.pointer (some ⟨b, 0, none⟩), vS t, .int .i64 k]) Tryz.func56 rfl Tryz.ntmps56 rfl (m ++ []) ((fun x => ∃ q ∈ m, q.1 = x)) (by rw [List.append_nil]; exact hM) ?_
 refine wpM.seq (wpM.region ?_)
 refine LM.mv rfl ?_
 refine LM.mv rfl ?_
 refine LM.mv rfl ?_
 refine LM.cU (oc_call (enters_fn Tryz.func101 (by kernel_rfl) rfl) rfl) (fun w hm hc hg => wfield_spec b t k w hW (hm.pick _) (Nat.le_trans hn0 hc.size) (by first | omega | (simp only [List.length_append, List.length_cons, List.length_nil, fldW_len, linW_len]; omega))) (wr_cells hW) (fun p hp _ => ⟨p, hp, rfl⟩) ?_
 rintro u9 m9 ⟨rfl, hW9⟩ hin9
 refine LM.nil (QM.sub (e' := [(0, _)]) ⟨rfl, trivial⟩ (QM.then (wpM.region ?_)))
 refine LM.mv rfl ?_
 refine LM.cU (oc_call (enters_fn Tryz.func102 (by kernel_rfl) rfl) rfl) (fun w hm hc hg => wend_spec b w hW9 (hm.pick _) (Nat.le_trans hn0 hc.size) (by first | omega | (simp only [List.length_append, List.length_cons, List.length_nil, fldW_len, linW_len]; omega))) (wr_cells hW9) (in_S hin9) ?_
 rintro u11 m11 ⟨rfl, hW11⟩ hin11
 refine LM.nil (QM.sub (e' := []) trivial ?_)
 refine QM.leave (.inr rfl) [] Tryz.results56 rfl ?_
 intro w' hm' hc' hg'
 refine ⟨hc', m11, ⟨rfl, by have e : ws ++ linW t k = ws ++ fldW t k ++ [mk3 [59]] := (by simp [linW]); rw [e]; exact hW11⟩, hm'.pick _, in_tr hin9 hin11⟩
set_option maxRecDepth 100000 in
set_option maxHeartbeats 1000000 in
theorem wlock_spec {n0 : Nat} {ws : List Wrd} {m : Mem0} (b : Nat) (x : CLk) (w : World) (hW : WrM n0 b ws m) (hM : Mem w m) (hn0 : n0 ≤ w.heap.size) (hlx : ws.length ≤ 200000) : Ret Tryz.prog 57 #[.pointer (some ⟨b, 0, none⟩), .agg (fL x).toArray] w (Upd m (WrT n0 b (ws ++ lckW x)) w) := by
 obtain ⟨ad, n, cap, ml, hn, hsl, hbw, rfl⟩ := hW
 refine Ret.enterM (l := [.pointer (some ⟨b, 0, none⟩), .agg (fL x).toArray]) Tryz.func57 rfl Tryz.ntmps57 rfl (wrB b ad n cap :: (ml ++ [])) ((fun x => ∃ q ∈ wrB b ad n cap :: (ml ++ []), q.1 = x)) hM ?_
 refine wpM.seq (wpM.region ?_)
 refine LM.box rfl rfl (fun b3 hb3 => ?_)
 refine LM.nil (QM.sub (e' := [(0, _), (3, _)]) ⟨rfl, rfl, trivial⟩ (QM.then (wpM.seq (wpM.region ?_))))
 refine LM.as rfl ?_
 refine LM.nil (QM.sub (e' := [(0, _), (3, _), (4, _)]) ⟨rfl, rfl, rfl, trivial⟩ (QM.then ?_))
 refine wpM.seq ?_
 refine wpM.seq (wpM.region ?_)
 refine LM.val (ov_field Tryz.underlying63 rfl Tryz.sizeOf4 rfl (k := 0) rfl rfl) ?_
 refine LM.rd (om_ld Tryz.isAgg4 rfl rfl) ?_
 refine LM.nil (QM.sub (e' := [(0, _), (3, _), (4, _), (6, _)]) ⟨rfl, rfl, rfl, rfl, trivial⟩ (QM.then ?_))
 refine wpM.joinK (α := List UInt8) (fun t => [(4, vS t)]) [(0, _), (3, _)] (fun t => wrB b ad n cap :: (ml ++ ((b3, .cells (fL x).toArray 63 (0, 0)) :: []))) (fun t => t = (if x.sh then wShared else wLock)) ⟨rfl, rfl, trivial⟩ ?_ ?_
 ·
  first | refine wpM.condD rfl (fun h1 => ?_) (fun h1 => ?_) | refine wpM.condB rfl (fun h1 => ?_) (fun h1 => ?_)
  ·
   refine wpM.region ?_
   refine LM.as rfl ?_
   refine LM.nil (QM.sub (e' := [(0, _), (3, _), (4, _)]) ⟨rfl, rfl, rfl, trivial⟩ ?_)
   refine QM.meetK (wShared) ⟨au2, rfl, rfl, trivial⟩ au1 ?_
   · rw [if_pos h1]
  refine wpM.skip ?_
  refine QM.meetK (wLock) ⟨au2, rfl, rfl, trivial⟩ au1 ?_
  · rw [if_neg (by rw [h1]; simp)]
 rintro t ht
 change QM _ _ _ _ _ (wrB b ad n cap :: (ml ++ ((b3, .cells (fL x).toArray 63 (0, 0)) :: []))) _ _ _
 refine QM.then (wpM.seq (wpM.region ?_))
 refine LM.mv rfl ?_
 refine LM.mv rfl ?_
 refine LM.val (ov_nilCheck rfl) ?_
 refine LM.val (ov_field Tryz.underlying101 rfl Tryz.sizeOf23 rfl (k := 0) rfl rfl) ?_
 refine LM.rd (om_ld Tryz.isAgg23 rfl rfl) ?_
 refine LM.mv rfl ?_
 refine LM.val (ov_build (cs := #[_, _, _, _]) rfl (by first | rfl | kernel_rfl)) ?_
 refine LM.single Tryz.underlying23 Tryz.sizeOf65 Tryz.zeroValue65 rfl rfl rfl rfl rfl (fun b14 hb14 => ?_)
 refine LM.appN (ys := [nmE t]) Tryz.underlying23 Tryz.typeInfo65 rfl rfl rfl rfl rfl rfl rfl hsl (fun w hm hc hg => row_sr 1 (hm.at b14) rfl rfl (fun _ => rfl)) (by intro _; rfl) (by intro _ u hu; simp [fW] at hu; (repeat (first | (rcases hu with rfl | hu) | subst hu | rfl))) (by first | exact Nat.le_refl _ | omega) (fun p hp _ => ⟨p, List.mem_cons_of_mem _ (List.mem_append_left _ hp), rfl⟩) (by first | omega | (unfold maxLen; simp only [fldW_len, List.length_cons, List.length_nil]; omega) | (unfold maxLen; omega)) (by simp only [Tryz.t65, fldW_len, List.length_cons, List.length_nil]; omega) (fun ad15 n15 cap15 m15 hn15 hs15 hin15 => ?_); have hWa : WrM n0 b (ws ++ [nmE t]) (wrB b ad15 n15 cap15 :: (m15 ++ [])) := ⟨ad15, n15, cap15, m15, by rw [hn15]; simp, hs15, hbw, rfl⟩; have hina := in_wr (b := b) (ad := ad) (ad' := ad15) (n := n) (n' := n15) (cap := cap) (cap' := cap15) hin15
 refine LM.val (ov_nilCheck rfl) ?_
 refine LM.val (ov_field Tryz.underlying101 rfl Tryz.sizeOf23 rfl (k := 0) rfl rfl) ?_
 refine LM.st Tryz.sizeOf23 rfl rfl rfl au5 rfl (fun hlt => by first | exact ⟨_, List.mem_cons_self .., rfl⟩ | exact absurd hlt (by omega)) ?_
 refine LM.nil (QM.sub (e' := [(0, _), (3, _)]) ⟨rfl, rfl, trivial⟩ (QM.then (wpM.seq (wpM.region ?_))))
 change LM _ _ _ _ _ _ _ _ (wrB b ad15 n15 cap15 :: _) _ _ _
 refine LM.mv rfl ?_
 refine LM.val (ov_field Tryz.underlying63 rfl Tryz.sizeOf3 rfl (k := 1) rfl rfl) ?_
 refine LM.rd (om_ld Tryz.isAgg3 rfl rfl) ?_
 refine LM.cU (oc_call (enters_fn Tryz.func101 (by kernel_rfl) rfl) rfl) (fun w hm hc hg => wfield_spec b wSlice x.sl w hWa (hm.pick _) (Nat.le_trans hn0 hc.size) (by first | omega | (simp only [List.length_append, List.length_cons, List.length_nil, fldW_len, linW_len]; omega))) (wr_cells hWa) (in_S hina) ?_
 rintro u21 m21 ⟨rfl, hW21⟩ hin21
 refine LM.nil (QM.sub (e' := [(0, _), (3, _)]) ⟨rfl, rfl, trivial⟩ (QM.then (wpM.seq (wpM.region ?_))))
 refine LM.mv rfl ?_
 refine LM.val (ov_field Tryz.underlying63 rfl Tryz.sizeOf3 rfl (k := 2) rfl rfl) ?_
 refine LM.rd (om_ld Tryz.isAgg3 rfl rfl) ?_
 refine LM.cU (oc_call (enters_fn Tryz.func101 (by kernel_rfl) rfl) rfl) (fun w hm hc hg => wfield_spec b wCrit x.cr w hW21 (hm.pick _) (Nat.le_trans hn0 hc.size) (by first | omega | (simp only [List.length_append, List.length_cons, List.length_nil, fldW_len, linW_len]; omega))) (wr_cells hW21) (in_S (in_tr hina hin21)) ?_
 rintro u25 m25 ⟨rfl, hW25⟩ hin25
 refine LM.nil (QM.sub (e' := [(0, _), (3, _)]) ⟨rfl, rfl, trivial⟩ (QM.then ?_))
 refine wpM.seq ?_
 refine wpM.seq (wpM.region ?_)
 refine LM.val (ov_field Tryz.underlying63 rfl Tryz.sizeOf4 rfl (k := 0) rfl rfl) ?_
 refine LM.rd (om_ld Tryz.isAgg4 rfl rfl) ?_
 refine LM.nil (QM.sub (e' := [(0, _), (3, _), (27, _)]) ⟨rfl, rfl, rfl, trivial⟩ (QM.then ?_))
 first | refine wpM.condD rfl (fun h2 => ?_) (fun h2 => ?_) | refine wpM.condB rfl (fun h2 => ?_) (fun h2 => ?_)
 ·
  refine wpM.seq (wpM.region ?_)
  refine LM.mv rfl ?_
  refine LM.val (ov_field Tryz.underlying63 rfl Tryz.sizeOf3 rfl (k := 3) rfl rfl) ?_
  refine LM.rd (om_ld Tryz.isAgg3 rfl rfl) ?_
  refine LM.cU (oc_call (enters_fn Tryz.func101 (by kernel_rfl) rfl) rfl) (fun w hm hc hg => wfield_spec b wRead x.rd w hW25 (hm.pick _) (Nat.le_trans hn0 hc.size) (by first | omega | (simp only [List.length_append, List.length_cons, List.length_nil, fldW_len, linW_len]; omega))) (wr_cells hW25) (in_S (in_tr hina (in_tr hin21 hin25))) ?_
  rintro u31 m31 ⟨rfl, hW31⟩ hin31
  refine LM.nil (QM.sub (e' := [(0, _), (3, _)]) ⟨rfl, rfl, trivial⟩ (QM.then (wpM.region ?_)))
  refine LM.mv rfl ?_
  refine LM.val (ov_field Tryz.underlying63 rfl Tryz.sizeOf3 rfl (k := 4) rfl rfl) ?_
  refine LM.rd (om_ld Tryz.isAgg3 rfl rfl) ?_
  refine LM.cU (oc_call (enters_fn Tryz.func101 (by kernel_rfl) rfl) rfl) (fun w hm hc hg => wfield_spec b wWrite x.wr w hW31 (hm.pick _) (Nat.le_trans hn0 hc.size) (by first | omega | (simp only [List.length_append, List.length_cons, List.length_nil, fldW_len, linW_len]; omega))) (wr_cells hW31) (in_S (in_tr hina (in_tr hin21 (in_tr hin25 hin31)))) ?_
  rintro u35 m35 ⟨rfl, hW35⟩ hin35; have hWe := hW35; have hine := in_tr hina (in_tr hin21 (in_tr hin25 (in_tr hin31 hin35)))
  refine LM.nil (QM.sub (e' := [(0, _)]) ⟨rfl, trivial⟩ (QM.then (wpM.region ?_)))
  refine LM.mv rfl ?_
  refine LM.cU (oc_call (enters_fn Tryz.func102 (by kernel_rfl) rfl) rfl) (fun w hm hc hg => wend_spec b w hWe (hm.pick _) (Nat.le_trans hn0 hc.size) (by first | omega | (simp only [List.length_append, List.length_cons, List.length_nil, fldW_len, linW_len]; omega))) (wr_cells hWe) (in_S hine) ?_
  rintro u37 m37 ⟨rfl, hW37⟩ hin37
  refine LM.nil (QM.sub (e' := []) trivial ?_)
  refine QM.leave (.inr rfl) [] Tryz.results57 rfl ?_
  intro w' hm' hc' hg'
  refine ⟨hc', m37, ⟨rfl, by have e : ws ++ lckW x = ws ++ [nmE t] ++ fldW wSlice x.sl ++ fldW wCrit x.cr ++ fldW wRead x.rd ++ fldW wWrite x.wr ++ [mk3 [59]] := (by unfold lckW; rw [ht]; simp [h2]); rw [e]; exact hW37⟩, hm'.pick _, in_tr hine hin37⟩
 have hWe := hW25; have hine := in_tr hina (in_tr hin21 hin25)
 refine wpM.skip ?_
 refine QM.then (wpM.region ?_)
 refine LM.mv rfl ?_
 refine LM.cU (oc_call (enters_fn Tryz.func102 (by kernel_rfl) rfl) rfl) (fun w hm hc hg => wend_spec b w hWe (hm.pick _) (Nat.le_trans hn0 hc.size) (by first | omega | (simp only [List.length_append, List.length_cons, List.length_nil, fldW_len, linW_len]; omega))) (wr_cells hWe) (in_S hine) ?_
 rintro u37 m37 ⟨rfl, hW37⟩ hin37
 refine LM.nil (QM.sub (e' := []) trivial ?_)
 refine QM.leave (.inr rfl) [] Tryz.results57 rfl ?_
 intro w' hm' hc' hg'
 refine ⟨hc', m37, ⟨rfl, by have e : ws ++ lckW x = ws ++ [nmE t] ++ fldW wSlice x.sl ++ fldW wCrit x.cr ++ [mk3 [59]] := (by unfold lckW; rw [ht]; simp [h2]); rw [e]; exact hW37⟩, hm'.pick _, in_tr hine hin37⟩
set_option maxRecDepth 100000 in
set_option maxHeartbeats 2000000 in
theorem swords_spec {s : StV} (w : World) (hI : s.In w) : Ret Tryz.prog 18 #[s.val] w (fun v w' => Ext w w' ∧ ∃ m, WoT (wordsS s.C) w.heap.size v m ∧ Mem w' m ∧ ∀ p ∈ m, w.heap.size ≤ p.1) := by
 have hgn := hI.hgn; have hln := hI.hln; have hpn := hI.hpn; have hpS := hI.hp; have hgS := hI.hg; have hlS := hI.hl
 refine Ret.enterM (l := [s.val]) Tryz.func18 rfl Tryz.ntmps18 rfl ([]) (no) (Mem.nil w) ?_
 refine wpM.seq (wpM.region ?_)
 refine LM.box rfl rfl (fun b1 hb1 => ?_)
 refine LM.as rfl ?_
 refine LM.as rfl ?_
 refine LM.nil (QM.sub (e' := [(1, _)]) ⟨rfl, trivial⟩ (QM.then ?_))
 refine wpM.seq ?_
 refine wpM.seq (wpM.region ?_)
 refine LM.rd (om_ldW Tryz.isAgg30 Tryz.sizeOf30 rfl rfl) ?_
 refine LM.callE (oc_call (enters_fn Tryz.func14 (by kernel_rfl) rfl) rfl) (fun w hm hc hg => mayS_spec w (hI.ext hc)) ?_
 first | refine LM.val (ov_notD rfl) ?_ | refine LM.val (ov_not rfl) ?_
 refine LM.nil (QM.sub (e' := [(1, _), (15, _)]) ⟨rfl, rfl, trivial⟩ (QM.then ?_))
 first | refine wpM.condD rfl (fun h1 => ?_) (fun h1 => ?_) | refine wpM.condB rfl (fun h1 => ?_) (fun h1 => ?_)
 ·
  refine wpM.seq (wpM.region ?_)
  refine LM.as rfl ?_
  refine LM.as rfl ?_
  refine LM.nil (QM.sub (e' := [(2, _), (3, _)]) ⟨rfl, rfl, trivial⟩ (QM.then ?_))
  refine wpM.ret ?_
  refine QM.then_ret ?_
  refine QM.leave (.inl rfl) [.tmp 2, .tmp 3] Tryz.results18 rfl ?_
  intro w' hm' hc' hg'
  have hm0 : mayS s.C = false := (by simpa using h1); have hw : wordsS s.C = ([], 1) := (by unfold wordsS; rw [if_neg (by rw [hm0]; simp)]); rw [hw]; exact ⟨hc', [], ⟨none, 0, 0, rfl, rfl, .nil _ _ _ _⟩, Mem.nil _, fun p hp => by cases hp⟩
 have hmS : mayS s.C = true := (by simpa using h1); obtain ⟨_, _, hg4, _, hl8, _, hp8, _⟩ := mayS_inv hmS; have hg4 : 1 ≤ s.gs.length ∧ s.gs.length ≤ 4 := hg4; have hl8 : s.ls.length ≤ 8 := hl8; have hcl : (s.ps.map PgV.c).length = s.ps.length := List.length_map ..; have hp8 : 1 ≤ s.ps.length ∧ s.ps.length ≤ 8 := (by have h9 : 1 ≤ (s.ps.map PgV.c).length ∧ (s.ps.map PgV.c).length ≤ 8 := hp8; omega); have hp12 : ∀ p ∈ s.ps.map PgV.c, p.xs.length ≤ 12 := progs12 hmS
 refine wpM.skip ?_
 refine QM.then (wpM.seq (wpM.region ?_))
 refine LM.val (ov_build (cs := #[_]) rfl (by first | rfl | kernel_rfl)) ?_
 refine LM.box rfl rfl (fun b17 hb17 => ?_)
 refine LM.as rfl ?_
 refine LM.nil (QM.sub (e' := [(1, _), (4, _)]) ⟨rfl, rfl, trivial⟩ (QM.then (wpM.seq (wpM.region ?_))))
 change LM _ _ _ _ _ _ _ _ (wrB b17 none 0 0 :: _) _ _ _; have hW17 : WrM w.heap.size b17 [] (wrB b17 none 0 0 :: []) := ⟨none, 0, 0, [], rfl, .nil _ _ _ _, hb17, rfl⟩
 refine LM.mv rfl ?_
 refine LM.val (ov_field Tryz.underlying30 rfl Tryz.sizeOf3 rfl (k := 0) rfl rfl) ?_
 refine LM.rd (om_ld Tryz.isAgg3 rfl rfl) ?_
 refine LM.cU (oc_call (enters_fn Tryz.func56 (by kernel_rfl) rfl) rfl) (fun w hm hc hg => wline_spec b17 wCores s.cr w hW17 (hm.pick _) hc.size (by simp)) (wr_cells hW17) (fun p hp hlt => absurd hlt (Nat.not_lt_of_le (wr_ge hW17 p hp))) ?_
 rintro u21 m21 ⟨rfl, hW21⟩ hin21
 refine LM.nil (QM.sub (e' := [(1, _), (4, _)]) ⟨rfl, rfl, trivial⟩ (QM.then (wpM.seq (wpM.region ?_))))
 refine LM.mv rfl ?_
 refine LM.val (ov_field Tryz.underlying30 rfl Tryz.sizeOf3 rfl (k := 1) rfl rfl) ?_
 refine LM.rd (om_ld Tryz.isAgg3 rfl rfl) ?_
 refine LM.cU (oc_call (enters_fn Tryz.func56 (by kernel_rfl) rfl) rfl) (fun w hm hc hg => wline_spec b17 wGrain s.gr w hW21 (hm.pick _) hc.size (by simp [linW_len])) (wr_cells hW21) (fun p hp hlt => absurd hlt (Nat.not_lt_of_le (wr_ge hW21 p hp))) ?_
 rintro u25 m25 ⟨rfl, hW25⟩ hin25
 refine LM.nil (QM.sub (e' := [(1, _), (4, _)]) ⟨rfl, rfl, trivial⟩ (QM.then ?_))
 refine wpM.seq ?_
 refine wpM.seq (wpM.region ?_)
 refine LM.val (ov_field Tryz.underlying30 rfl Tryz.sizeOf26 rfl (k := 2) rfl rfl) ?_
 refine LM.rd (om_ld Tryz.isAgg26 rfl rfl) ?_
 refine LM.val (ov_len Tryz.underlying26 rfl) ?_
 refine LM.mv rfl ?_
 refine LM.nil (QM.sub (e' := [(1, _), (4, _), (27, _), (28, _), (29, _)]) ⟨rfl, rfl, rfl, rfl, rfl, trivial⟩ (QM.then ?_))
 refine wpM.block ?_
 refine wpM.loopK0 (α := Nat × Mem0) (fun ⟨i, mw⟩ => [(29, .int .i64 (i : Nat))]) [(1, _), (4, _), (27, _), (28, _)] (fun ⟨i, mw⟩ => mw ++ (stB b1 s :: [])) (fun ⟨i, mw⟩ => i ≤ s.gs.length ∧ WrM w.heap.size b17 (linW wCores s.cr ++ linW wGrain s.gr ++ (s.gs.take i).flatMap (linW wGroup)) mw) (fun ⟨i, mw⟩ => s.gs.length - i) ((0, m25)) ⟨au2, rfl, rfl, rfl, rfl, trivial⟩ au1 ⟨Nat.zero_le _, by simpa using hW25⟩ ?_
 rintro ⟨i, mw⟩ ⟨hi, hW0⟩
 change wpM _ _ _ _ _ _ _ (mw ++ (stB b1 s :: [])) _ _ _
 refine wpM.seq (wpM.region ?_)
 refine LM.val (ov_lss rfl rfl) ?_
 refine LM.nil (QM.sub (e' := [(1, _), (4, _), (27, _), (28, _), (29, _), (30, _)]) ⟨rfl, rfl, rfl, rfl, rfl, rfl, trivial⟩ (QM.then ?_))
 refine wpM.seq ?_
 refine wpM.condD rfl (fun h2 => ?_) (fun h2 => ?_)
 ·
  refine wpM.skip ?_
  refine QM.then ?_
  refine wpM.seq ?_
  refine wpM.block ?_
  refine wpM.seq (wpM.region ?_)
  refine LM.val (ov_idxSN au6 Tryz.underlying26 Tryz.sizeOf3 rfl rfl (by omega)) ?_
  first | refine LM.rd (om_sl1 (by assumption) (by intro _; rfl) Tryz.isAgg3 rfl rfl (by exact getq 0 au4) (by rfl)) ?_ | refine LM.rdC (om_sr1 (by assumption) Tryz.isAgg3 rfl rfl (by exact getq 0 au4) (by rfl) id) ?_ | refine LM.rd (om_ld Tryz.isAgg3 rfl rfl) ?_
  refine LM.as rfl ?_
  refine LM.nil (QM.sub (e' := [(1, _), (4, _), (6, _), (27, _), (28, _), (29, _)]) ⟨rfl, rfl, rfl, rfl, rfl, rfl, trivial⟩ (QM.then (wpM.region ?_)))
  refine LM.mv rfl ?_
  refine LM.mv rfl ?_
  refine LM.cU (oc_call (enters_fn Tryz.func56 (by kernel_rfl) rfl) rfl) (fun w hm hc hg => wline_spec b17 wGroup (s.gs.getD i 0) w hW0 (hm.pick _) hc.size (by have h9 := lin_flen (gs := s.gs.take i) (t := wGroup); have h8 := List.length_take_le i s.gs; simp only [List.length_append, linW_len]; omega)) (wr_cells hW0) (fun p hp hlt => absurd hlt (Nat.not_lt_of_le (wr_ge hW0 p hp))) ?_
  rintro u35 m35 ⟨rfl, hW35⟩ hin35
  refine LM.nil (QM.sub (e' := [(1, _), (4, _), (27, _), (28, _), (29, _)]) ⟨rfl, rfl, rfl, rfl, rfl, trivial⟩ ?_)
  refine QM.block_normal ?_
  refine QM.then (wpM.region ?_)
  refine LM.val (ov_add64 rfl rfl (by omega)) ?_
  refine LM.mv rfl ?_
  refine LM.nil (QM.sub (e' := [(1, _), (4, _), (27, _), (28, _), (29, _)]) ⟨rfl, rfl, rfl, rfl, rfl, trivial⟩ ?_)
  refine QM.againK ((i + 1, m35)) ⟨au2, rfl, rfl, rfl, rfl, trivial⟩ au1 (fun _ h => h) ?_ ?_
  · exact ⟨by omega, by rw [lin_snoc (by omega), ← List.append_assoc]; exact hW35⟩
  · first | omega | (dsimp only; omega)
 refine wpM.exit ?_
 refine QM.then_exit ?_
 refine QM.then_exit ?_
 refine QM.block_hit ?_
 refine QM.then ?_
 refine wpM.seq ?_
 refine wpM.seq (wpM.region ?_)
 refine LM.val (ov_field Tryz.underlying30 rfl Tryz.sizeOf27 rfl (k := 3) rfl rfl) ?_
 refine LM.rd (om_ld Tryz.isAgg27 rfl rfl) ?_
 refine LM.val (ov_len Tryz.underlying27 rfl) ?_
 refine LM.mv rfl ?_
 refine LM.nil (QM.sub (e' := [(1, _), (4, _), (38, _), (39, _), (40, _)]) ⟨rfl, rfl, rfl, rfl, rfl, trivial⟩ (QM.then ?_))
 refine wpM.block ?_
 refine wpM.loopK0 (α := Nat × Mem0) (fun ⟨j, mw⟩ => [(40, .int .i64 (j : Nat))]) [(1, _), (4, _), (38, _), (39, _)] (fun ⟨j, mw⟩ => mw ++ (stB b1 s :: [])) (fun ⟨j, mw⟩ => j ≤ s.ls.length ∧ WrM w.heap.size b17 (linW wCores s.cr ++ linW wGrain s.gr ++ s.gs.flatMap (linW wGroup) ++ (s.ls.take j).flatMap lckW) mw) (fun ⟨j, mw⟩ => s.ls.length - j) ((0, mw)) ⟨au2, rfl, rfl, rfl, rfl, trivial⟩ au1 ⟨Nat.zero_le _, by have hil : i = s.gs.length := (by omega); rw [hil, List.take_length] at hW0; simpa using hW0⟩ ?_
 rintro ⟨j, mw⟩ ⟨hj, hW1⟩
 change wpM _ _ _ _ _ _ _ (mw ++ (stB b1 s :: [])) _ _ _
 refine wpM.seq (wpM.region ?_)
 refine LM.val (ov_lss rfl rfl) ?_
 refine LM.nil (QM.sub (e' := [(1, _), (4, _), (38, _), (39, _), (40, _), (41, _)]) ⟨rfl, rfl, rfl, rfl, rfl, rfl, trivial⟩ (QM.then ?_))
 refine wpM.seq ?_
 refine wpM.condD rfl (fun h3 => ?_) (fun h3 => ?_)
 ·
  refine wpM.skip ?_
  refine QM.then ?_
  refine wpM.seq ?_
  refine wpM.block ?_
  refine wpM.seq (wpM.region ?_)
  refine LM.val (ov_idxSN au6 Tryz.underlying27 Tryz.sizeOf63 rfl rfl (by omega)) ?_
  first | refine LM.rd (om_slA (by assumption) (by intro _; rfl) Tryz.isAgg63 Tryz.sizeOf63 rfl au3) ?_ | refine LM.rdC (om_srEA (by assumption) (by intro _; rfl) Tryz.isAgg63 Tryz.sizeOf63 rfl au3 id) ?_ | refine LM.rd (om_ldW Tryz.isAgg63 Tryz.sizeOf63 rfl rfl) ?_ | refine LM.rd (om_ldA Tryz.isAgg63 Tryz.sizeOf63 rfl (vs := [_, _, _, _, _]) rfl ⟨rfl, rfl, rfl, rfl, rfl, trivial⟩) ?_
  refine LM.alloc Tryz.zeroValue63 rfl (fun b8 hb8 => ?_)
  refine LM.stW Tryz.sizeOf63 rfl rfl rfl rfl au7 au8 ?_
  refine LM.nil (QM.sub (e' := [(1, _), (4, _), (8, _), (38, _), (39, _), (40, _)]) ⟨rfl, rfl, rfl, rfl, rfl, rfl, trivial⟩ (QM.then (wpM.region ?_)))
  refine LM.mv rfl ?_
  refine LM.rd (om_ldW Tryz.isAgg63 Tryz.sizeOf63 rfl rfl) ?_
  refine LM.cU (oc_call (enters_fn Tryz.func57 (by kernel_rfl) rfl) rfl) (fun w hm hc hg => wlock_spec b17 (s.ls.getD j default) w hW1 (hm.pick _) hc.size (by have h9 := lin_flen (gs := s.gs) (t := wGroup); have h7 := lck_flen (ls := s.ls.take j); have h8 := List.length_take_le j s.ls; simp only [List.length_append, linW_len]; omega)) (wr_cells hW1) (fun p hp hlt => absurd hlt (Nat.not_lt_of_le (wr_ge hW1 p hp))) ?_
  rintro u46 m46 ⟨rfl, hW46⟩ hin46
  refine LM.nil (QM.sub (e' := [(1, _), (4, _), (38, _), (39, _), (40, _)]) ⟨rfl, rfl, rfl, rfl, rfl, trivial⟩ ?_)
  refine QM.block_normal ?_
  refine QM.then (wpM.region ?_)
  refine LM.val (ov_add64 rfl rfl (by omega)) ?_
  refine LM.mv rfl ?_
  refine LM.nil (QM.sub (e' := [(1, _), (4, _), (38, _), (39, _), (40, _)]) ⟨rfl, rfl, rfl, rfl, rfl, trivial⟩ ?_)
  refine QM.againK ((j + 1, m46)) ⟨au2, rfl, rfl, rfl, rfl, trivial⟩ au1 (fun _ h => h) ?_ ?_
  · exact ⟨by omega, by rw [lck_snoc (by omega), ← List.append_assoc]; exact hW46⟩
  · first | omega | (dsimp only; omega)
 refine wpM.exit ?_
 refine QM.then_exit ?_
 refine QM.then_exit ?_
 refine QM.block_hit ?_
 refine QM.then ?_
 refine wpM.seq ?_
 refine wpM.seq (wpM.region ?_)
 refine LM.val (ov_field Tryz.underlying30 rfl Tryz.sizeOf28 rfl (k := 4) rfl rfl) ?_
 refine LM.rd (om_ld Tryz.isAgg28 rfl rfl) ?_
 refine LM.val (ov_len Tryz.underlying28 rfl) ?_
 refine LM.mv rfl ?_
 refine LM.nil (QM.sub (e' := [(4, _), (49, _), (50, _), (51, _)]) ⟨rfl, rfl, rfl, rfl, trivial⟩ (QM.then ?_))
 refine wpM.block ?_
 refine wpM.loopK0 (α := Nat × Mem0) (fun ⟨k, mw⟩ => [(51, .int .i64 (k : Nat))]) [(4, _), (49, _), (50, _)] (fun ⟨k, mw⟩ => mw ++ (stB b1 s :: [])) (fun ⟨k, mw⟩ => k ≤ s.ps.length ∧ WrM w.heap.size b17 (linW wCores s.cr ++ linW wGrain s.gr ++ s.gs.flatMap (linW wGroup) ++ s.ls.flatMap lckW ++ pgW ((s.ps.map PgV.c).take k)) mw) (fun ⟨k, mw⟩ => s.ps.length - k) ((0, mw)) ⟨au2, rfl, rfl, rfl, trivial⟩ au1 ⟨Nat.zero_le _, by have hjl : j = s.ls.length := (by omega); rw [hjl, List.take_length] at hW1; simpa [pgW] using hW1⟩ ?_
 rintro ⟨k, mw⟩ ⟨hk, hW2⟩
 change wpM _ _ _ _ _ _ _ (mw ++ (stB b1 s :: [])) _ _ _
 refine wpM.seq (wpM.region ?_)
 refine LM.val (ov_lss rfl rfl) ?_
 refine LM.nil (QM.sub (e' := [(4, _), (49, _), (50, _), (51, _), (52, _)]) ⟨rfl, rfl, rfl, rfl, rfl, trivial⟩ (QM.then ?_))
 refine wpM.seq ?_
 refine wpM.condD rfl (fun h4 => ?_) (fun h4 => ?_)
 ·
  have hpm : s.ps.getD k default ∈ s.ps := List.mem_of_getElem? (getq default (by omega))
  refine wpM.skip ?_
  refine QM.then ?_
  refine wpM.seq ?_
  refine wpM.block ?_
  refine wpM.seq (wpM.region ?_)
  refine LM.val (ov_idxSN au6 Tryz.underlying28 Tryz.sizeOf87 rfl rfl (by omega)) ?_
  first | refine LM.rd (om_slA (by assumption) (by intro _; rfl) Tryz.isAgg87 Tryz.sizeOf87 rfl au3) ?_ | refine LM.rdC (om_srEA (by assumption) (by intro _; rfl) Tryz.isAgg87 Tryz.sizeOf87 rfl au3 id) ?_ | refine LM.rd (om_ldW Tryz.isAgg87 Tryz.sizeOf87 rfl rfl) ?_ | refine LM.rd (om_ldA Tryz.isAgg87 Tryz.sizeOf87 rfl (vs := [_, _]) rfl ⟨rfl, rfl, trivial⟩) ?_
  refine LM.alloc Tryz.zeroValue87 rfl (fun b10 hb10 => ?_)
  refine LM.stW Tryz.sizeOf87 rfl rfl rfl rfl au7 au8 ?_
  refine LM.nil (QM.sub (e' := [(4, _), (10, _), (49, _), (50, _), (51, _)]) ⟨rfl, rfl, rfl, rfl, rfl, trivial⟩ (QM.then (wpM.seq (wpM.region ?_))))
  refine LM.rd (om_ldW Tryz.isAgg87 Tryz.sizeOf87 rfl rfl) ?_
  refine LM.callT (oc_call (enters_fn Tryz.func58 (by kernel_rfl) rfl) rfl) WoT.mono (fun w hm hc hg => words_spec w (hI.ops _ hpm).1 ((hI.ops _ hpm).2.ext hc)) ?_
  rintro u57 m57 ⟨ad57, n57, cap57, rfl, hn57, hs57⟩ -; obtain ⟨adz, nz, cz, mz, hnz, hsz, hbz, rfl⟩ := hW2
  refine LM.mv rfl ?_
  refine LM.val (ov_extract rfl rfl) ?_
  refine LM.val (ov_extract rfl rfl) ?_
  refine LM.as rfl ?_
  refine LM.as rfl ?_
  refine LM.nil (QM.sub (e' := [(4, _), (11, _), (49, _), (50, _), (51, _)]) ⟨rfl, rfl, rfl, rfl, rfl, trivial⟩ (QM.then (wpM.region ?_)))
  have h9 := lin_flen (gs := s.gs) (t := wGroup); have h7 := lck_flen (ls := s.ls); have h8 := pg_flen (ps := (s.ps.map PgV.c).take k) (fun p hp => hp12 p (List.mem_of_mem_take hp)); have h6 := List.length_take_le k (s.ps.map PgV.c); have h5 := words_len (s.ps.getD k default).c.fv (s.ps.getD k default).c.xs; have h4 := hp12 _ (List.mem_map_of_mem hpm); have hw57 : (wordsO (s.ps.getD k default).c.fv (s.ps.getD k default).c.xs).1 = wordsF (s.ps.getD k default).c.fv (s.ps.getD k default).c.xs := (by unfold wordsO; rw [if_pos (List.all_eq_true.1 (mayS_progs hmS) _ (List.mem_map_of_mem hpm))])
  refine LM.mv rfl ?_
  refine LM.mv rfl ?_
  refine LM.val (ov_nilCheck rfl) ?_
  refine LM.val (ov_field Tryz.underlying101 rfl Tryz.sizeOf23 rfl (k := 0) rfl rfl) ?_
  refine LM.rd (om_ld Tryz.isAgg23 rfl rfl) ?_
  refine LM.mv rfl ?_
  refine LM.appN (ys := wordsF (s.ps.getD k default).c.fv (s.ps.getD k default).c.xs) Tryz.underlying23 Tryz.typeInfo65 rfl rfl rfl rfl rfl rfl rfl hsz (fun w hm hc hg => (hw57 ▸ hs57.srM (by intro _; rfl) hm)) (by intro _; rfl) (by intro _ u hu; simp [fW] at hu; (repeat (first | (rcases hu with rfl | hu) | subst hu | rfl))) (by first | exact Nat.le_refl _ | omega) (fun p hp hlt => absurd hlt (Nat.not_lt_of_le (Sl.ge hsz p hp))) (by first | (simp only [List.length_append, linW_len]; unfold maxLen; omega) | omega | (unfold maxLen; simp only [fldW_len, List.length_cons, List.length_nil]; omega) | (unfold maxLen; omega)) (by simp only [Tryz.t65, List.length_append, linW_len]; omega) (fun ad66 n66 cap66 m66 hn66 hs66 hin66 => ?_)
  refine LM.val (ov_nilCheck rfl) ?_
  refine LM.val (ov_field Tryz.underlying101 rfl Tryz.sizeOf23 rfl (k := 0) rfl rfl) ?_
  refine LM.st Tryz.sizeOf23 rfl rfl rfl au5 rfl au8 ?_
  refine LM.nil (QM.sub (e' := [(4, _), (49, _), (50, _), (51, _)]) ⟨rfl, rfl, rfl, rfl, trivial⟩ ?_)
  refine QM.block_normal ?_
  refine QM.then (wpM.region ?_)
  refine LM.val (ov_add64 rfl rfl (by omega)) ?_
  refine LM.mv rfl ?_
  refine LM.nil (QM.sub (e' := [(4, _), (49, _), (50, _), (51, _)]) ⟨rfl, rfl, rfl, rfl, trivial⟩ ?_)
  refine QM.againK ((k + 1, wrB b17 ad66 n66 cap66 :: (m66 ++ []))) ⟨au2, rfl, rfl, rfl, trivial⟩ au1 (fun _ h => h) ?_ ?_
  · exact ⟨by omega, by rw [pgW_snoc (by simp; omega), map_getD, ← List.append_assoc]; exact ⟨ad66, n66, cap66, m66, by simp only [hn66, List.length_append], hs66, hbz, rfl⟩⟩
  · first | omega | (dsimp only; omega)
 refine wpM.exit ?_
 refine QM.then_exit ?_
 refine QM.then_exit ?_
 refine QM.block_hit ?_
 refine QM.then (wpM.seq (wpM.region ?_))
 obtain ⟨adz, nz, cz, mz, hnz, hsz, hbz, rfl⟩ := hW2
 refine LM.mv rfl ?_
 refine LM.val (ov_nilCheck rfl) ?_
 refine LM.val (ov_field Tryz.underlying101 rfl Tryz.sizeOf23 rfl (k := 0) rfl rfl) ?_
 refine LM.rd (om_ld Tryz.isAgg23 rfl rfl) ?_
 refine LM.as rfl ?_
 refine LM.as rfl ?_
 refine LM.nil (QM.sub (e' := [(2, _), (3, _)]) ⟨rfl, rfl, trivial⟩ (QM.then ?_))
 refine wpM.ret ?_
 refine QM.leave (.inl rfl) [.tmp 2, .tmp 3] Tryz.results18 rfl ?_
 intro w' hm' hc' hg'
 have hkl : k = s.ps.length := (by omega); have hw : wordsS s.C = (linW wCores s.cr ++ linW wGrain s.gr ++ s.gs.flatMap (linW wGroup) ++ s.ls.flatMap lckW ++ pgW ((s.ps.map PgV.c).take k), 0) := (by unfold wordsS; rw [if_pos hmS, setW_eq, hkl, List.take_of_length_le (by omega)]; rfl); rw [hw]; exact ⟨hc', mz ++ [], ⟨adz, nz, cz, rfl, hnz, by rw [List.append_nil]; exact hsz⟩, SubM.mem (by (repeat' (first | exact SubM.nil _ | refine SubM.app ?_))) w' hm', fun p hp => by rw [List.append_nil] at hp; exact Sl.ge hsz p hp⟩
end Go.Eng
namespace Go.Eng
open Go Go.Proofs Go.RowKit
end Go.Eng
namespace Go.Eng
open Go Go.Proofs Go.RowKit
def numW (n : Int) : Wrd := ⟨2, [], n, 0⟩
def actW (o : Act) : List Wrd := ⟨1, acT o.k, 0, 0⟩ :: (((numsA o).take (manyA o.k)).map numW ++ [mk3 [59]])
def wordsA (l : List Act) : List Wrd × Int := if l.all rightA then (if 4000 < l.length then ([], 6) else (l.flatMap actW, 0)) else ([], 1)
theorem acT_len (k : Int) : (acT k).length ≤ 7 := by
  unfold acT; split
  · rename_i h
    have : k = 0 ∨ k = 1 ∨ k = 2 ∨ k = 3 ∨ k = 4 ∨ k = 5 ∨ k = 6 ∨ k = 7 ∨ k = 8 := by omega
    rcases this with rfl | rfl | rfl | rfl | rfl | rfl | rfl | rfl | rfl <;> decide
  · decide
theorem actW_len (o : Act) : (actW o).length ≤ 6 := by
  have := manyA_le o.k
  unfold actW; simp [numsA]; omega
theorem actW_text (o : Act) : ∀ x ∈ actW o, x.t.length ≤ 7 := by
  have := acT_len o.k
  intro x hx
  unfold actW mk3 numW at hx
  simp only [List.mem_cons, List.mem_append, List.not_mem_nil, or_false, List.mem_map] at hx
  rcases hx with rfl | ⟨n, _, rfl⟩ | rfl
  · exact this
  · simp
  · simp
theorem flatA_len (xs : List Act) : (xs.flatMap actW).length ≤ 6 * xs.length := by
  induction xs with
  | nil => simp
  | cons o xs ih => have := actW_len o; rw [List.flatMap_cons, List.length_append, List.length_cons]; omega
theorem flatA_snoc {xs : List Act} {i : Nat} (h : i < xs.length) : (xs.take (i + 1)).flatMap actW = (xs.take i).flatMap actW ++ actW (xs.getD i default) := by
  rw [take_snoc default h, List.flatMap_append]; simp
theorem Sl.cap {α : Type} {f : α → List Value} {E s n0 : Nat} {xs : List α} {ad : Option Addr} {n cap : Nat} {m : Mem0} (h : Sl f E s n0 xs (.slice ad n cap) m) (hx : 0 < xs.length) : xs.length ≤ cap := by
  obtain ⟨b, cap', junk, h1, h2, h3, h4, h5, h6⟩ := h.ne hx
  cases h2; exact h4
theorem allA_snoc {xs : List Act} {i : Nat} (h : i < xs.length) (h0 : (xs.take i).all rightA = true) (h1 : rightA (xs.getD i default) = true) : (xs.take (i + 1)).all rightA = true := by
  rw [take_snoc default h, List.all_append, h0]; simp only [List.all_cons, List.all_nil, Bool.and_true, Bool.true_and]; exact h1
theorem allA_not {xs : List Act} {i : Nat} (h : i < xs.length) (h1 : rightA (xs.getD i default) = false) : xs.all rightA = false := by
  cases hm : xs.all rightA with
  | false => rfl
  | true => rw [List.all_eq_true.1 hm _ (List.mem_of_getElem? (getq default h))] at h1; cases h1
theorem take_get {xs : List Int} {m k : Nat} (h : k < m) : (xs.take m).getD k 0 = xs.getD k 0 := by
  rw [List.getD_eq_getElem?_getD, List.getD_eq_getElem?_getD, List.getElem?_take_of_lt h]
theorem nums_snoc {o : Act} {k : Nat} (h : k < 4) : ((numsA o).take (k + 1)).map numW = ((numsA o).take k).map numW ++ [numW ((numsA o).getD k 0)] := by
  rw [take_snoc 0 (show k < (numsA o).length from h), List.map_append]; rfl
theorem Sl.pre {α : Type} {f : α → List Value} {E s n0 : Nat} {xs : List α} {ad : Option Addr} {n cap : Nat} {m : Mem0} (h : Sl f E s n0 xs (.slice ad n cap) m) (hf : ∀ a, (f a).length = s) {k : Nat} (hk : k ≤ xs.length) (hx : 0 < xs.length) : Sl f E s n0 (xs.take k) (.slice ad k cap) m := by
  obtain ⟨b, cap', junk, h1, h2, h3, h4, h5, h6⟩ := h.ne hx
  cases h2
  refine .inr ⟨b, cap, (xs.drop k).flatMap f ++ junk, h1, by rw [List.length_take, Nat.min_eq_left hk], ?_, by rw [List.length_take]; omega, h5, ?_⟩
  · rw [h3]; unfold arr; rw [← List.append_assoc, ← List.flatMap_append, List.take_append_drop]
  · rw [List.length_append, flatMap_len hf, List.length_take, List.length_drop, Nat.min_eq_left hk, ← h6, ← Nat.add_assoc, ← Nat.add_mul]; congr 2; omega
set_option maxRecDepth 100000 in
set_option maxHeartbeats 1000000 in
theorem awords_spec {xs : List Act} {ad : Option Addr} {n cap : Nat} (w : World) (hn : n = xs.length) (hl : Sr fA 5 xs (.slice ad n cap) w) (hx : xs.length ≤ 100000) : Ret Tryz.prog 72 #[.slice ad n cap] w (fun v w' => Ext w w' ∧ ∃ m, WoT (wordsA xs) w.heap.size v m ∧ Mem w' m ∧ ∀ p ∈ m, w.heap.size ≤ p.1) := by
 refine Ret.enterM (l := [.slice ad n cap]) Tryz.func72 rfl Tryz.ntmps72 rfl ([]) (no) (Mem.nil w) ?_
 refine wpM.seq (wpM.region ?_)
 refine LM.as rfl ?_
 refine LM.as rfl ?_
 refine LM.nil (QM.sub (e' := [(0, _)]) ⟨rfl, trivial⟩ (QM.then (wpM.seq (wpM.region ?_))))
 refine LM.as rfl ?_
 refine LM.nil (QM.sub (e' := [(0, _), (4, _)]) ⟨rfl, rfl, trivial⟩ (QM.then ?_))
 refine wpM.seq ?_
 refine wpM.seq (wpM.region ?_)
 refine LM.mv rfl ?_
 refine LM.val (ov_len Tryz.underlying47 rfl) ?_
 refine LM.mv rfl ?_
 refine LM.nil (QM.sub (e' := [(0, _), (4, _), (9, _), (10, _), (11, _)]) ⟨rfl, rfl, rfl, rfl, rfl, trivial⟩ (QM.then ?_))
 refine wpM.block ?_
 refine wpM.loopK0 (α := Nat × List Wrd × Option Addr × Nat × Nat × Mem0) (fun ⟨i, out, ado, no, capo, mo⟩ => [(4, .slice ado no capo), (11, .int .i64 (i : Nat))]) [(0, _), (9, _), (10, _)] (fun ⟨i, out, ado, no, capo, mo⟩ => mo ++ []) (fun ⟨i, out, ado, no, capo, mo⟩ => i ≤ xs.length ∧ out.length ≤ 6 * i ∧ out = (xs.take i).flatMap actW ∧ (xs.take i).all rightA = true ∧ no = out.length ∧ Sl fW 65 4 w.heap.size out (.slice ado no capo) mo) (fun ⟨i, out, ado, no, capo, mo⟩ => xs.length - i) ((0, [], none, 0, 0, [])) ⟨au2, au2, rfl, rfl, rfl, trivial⟩ au1 ⟨Nat.zero_le _, Nat.zero_le _, rfl, rfl, rfl, .nil _ _ _ _⟩ ?_
 rintro ⟨i, out, ado, no, capo, mo⟩ ⟨hi, hz, hout, hall, hno, hso⟩
 change wpM _ _ _ _ _ _ _ (mo ++ []) _ _ _
 have hm4 := manyA_le (xs.getD i default).k
 refine wpM.seq (wpM.region ?_)
 refine LM.val (ov_lss rfl rfl) ?_
 refine LM.nil (QM.sub (e' := [(0, _), (4, _), (9, _), (10, _), (11, _), (12, _)]) ⟨rfl, rfl, rfl, rfl, rfl, rfl, trivial⟩ (QM.then ?_))
 refine wpM.seq ?_
 refine wpM.condD rfl (fun h1 => ?_) (fun h1 => ?_)
 ·
  refine wpM.skip ?_
  refine QM.then ?_
  refine wpM.seq ?_
  refine wpM.block ?_
  refine wpM.seq (wpM.region ?_)
  refine LM.val (ov_idxSN au6 Tryz.underlying47 Tryz.sizeOf123 rfl rfl (by omega)) ?_
  first | refine LM.rd (om_slA (by assumption) (by intro _; rfl) Tryz.isAgg123 Tryz.sizeOf123 rfl au3) ?_ | refine LM.rdC (om_srEA (by assumption) (by intro _; rfl) Tryz.isAgg123 Tryz.sizeOf123 rfl au3 id) ?_ | refine LM.rd (om_ldW Tryz.isAgg123 Tryz.sizeOf123 rfl rfl) ?_ | refine LM.rd (om_ldA Tryz.isAgg123 Tryz.sizeOf123 rfl (vs := [_, _, _, _, _]) rfl ⟨rfl, rfl, rfl, rfl, rfl, trivial⟩) ?_
  refine LM.alloc Tryz.zeroValue123 rfl (fun b6 hb6 => ?_)
  refine LM.stW Tryz.sizeOf123 rfl rfl rfl rfl au7 au8 ?_
  refine LM.nil (QM.sub (e' := [(0, _), (4, _), (6, _), (9, _), (10, _), (11, _)]) ⟨rfl, rfl, rfl, rfl, rfl, rfl, trivial⟩ (QM.then ?_))
  refine wpM.seq ?_
  refine wpM.seq (wpM.region ?_)
  refine LM.rd (om_ldW Tryz.isAgg123 Tryz.sizeOf123 rfl rfl) ?_
  refine LM.callE (oc_call (enters_fn Tryz.func117 (by kernel_rfl) rfl) rfl) (fun w hm hc hg => aright_spec _ w) ?_
  first | refine LM.val (ov_notD rfl) ?_ | refine LM.val (ov_not rfl) ?_
  refine LM.nil (QM.sub (e' := [(0, _), (4, _), (6, _), (9, _), (10, _), (11, _), (17, _)]) ⟨rfl, rfl, rfl, rfl, rfl, rfl, rfl, trivial⟩ (QM.then ?_))
  first | refine wpM.condD rfl (fun h2 => ?_) (fun h2 => ?_) | refine wpM.condB rfl (fun h2 => ?_) (fun h2 => ?_)
  ·
   refine wpM.seq (wpM.region ?_)
   refine LM.as rfl ?_
   refine LM.as rfl ?_
   refine LM.nil (QM.sub (e' := [(2, _), (3, _)]) ⟨rfl, rfl, trivial⟩ (QM.then ?_))
   refine wpM.ret ?_
   refine QM.then_ret ?_
   refine QM.block_ret ?_
   refine QM.then_ret ?_
   refine QM.then_ret ?_
   refine QM.block_ret ?_
   refine QM.then_ret ?_
   refine QM.leave (.inl rfl) [.tmp 2, .tmp 3] Tryz.results72 rfl ?_
   intro w' hm' hc' hg'
   have hr : wordsA xs = ([], 1) := (by unfold wordsA; rw [allA_not (i := i) (by omega) (by simpa using h2)]; rfl); rw [hr]; exact ⟨hc', [], ⟨none, 0, 0, rfl, rfl, .nil _ _ _ _⟩, Mem.nil _, fun p hp => by cases hp⟩
  refine wpM.skip ?_
  refine QM.then (wpM.seq (wpM.region ?_))
  refine LM.mv rfl ?_
  refine LM.val (ov_field Tryz.underlying123 rfl Tryz.sizeOf3 rfl (k := 0) rfl rfl) ?_
  refine LM.rd (om_ld Tryz.isAgg3 rfl rfl) ?_
  refine LM.callE (oc_call (enters_fn Tryz.func118 (by kernel_rfl) rfl) rfl) (fun w hm hc hg => aname_spec _ w) ?_
  refine LM.val (ov_build (cs := #[_, _, _, _]) rfl (by first | rfl | kernel_rfl)) ?_
  refine LM.single Tryz.underlying23 Tryz.sizeOf65 Tryz.zeroValue65 rfl rfl rfl rfl rfl (fun b23 hb23 => ?_)
  refine LM.app (a := (⟨1, acT (xs.getD i default).k, 0, 0⟩ : Wrd)) Tryz.underlying23 Tryz.typeInfo65 rfl rfl rfl rfl rfl rfl rfl (by assumption) (by rfl) (by intro _; rfl) (by intro _ u hu; simp [fW] at hu; (repeat (first | (rcases hu with rfl | hu) | subst hu | rfl))) (by first | exact Nat.le_refl _ | omega) au9 (by first | omega | (unfold maxLen; omega)) (by simp only [Tryz.t65]; omega) (fun ad24 n24 cap24 m24 hn24 hs24 hin24 => ?_)
  refine LM.as rfl ?_
  refine LM.nil (QM.sub (e' := [(0, _), (4, _), (6, _), (9, _), (10, _), (11, _)]) ⟨rfl, rfl, rfl, rfl, rfl, rfl, trivial⟩ (QM.then ?_))
  refine wpM.seq ?_
  refine wpM.seq ?_
  refine wpM.draw [(0, 1), (2, 0), (3, 1), (7, 0), (1, 2), (4, 2), (5, 0), (6, 0)] (by kernel_rfl) (by kernel_rfl) ?_
  refine LD.rd rfl rfl (om_ldW Tryz.isAgg123 Tryz.sizeOf123 rfl rfl) ?_
  refine LD.val rfl rfl (ov_field Tryz.underlying123 rfl Tryz.sizeOf3 rfl (k := 0) rfl rfl) ?_
  refine LD.rd rfl rfl (om_ld Tryz.isAgg3 rfl rfl) ?_
  refine LD.val rfl rfl (ov_move rfl) ?_
  refine LD.cS rfl rfl (oc_call (enters_fn Tryz.func119 (by kernel_rfl) rfl) rfl) (fun w hm hc hg => numbers_spec (xs.getD i default) w) (fun ad26 n26 cap26 m26 hn26 hs26 => ?_)
  refine LD.callE rfl rfl (oc_call (enters_fn Tryz.func120 (by kernel_rfl) rfl) rfl) (fun w hm hc hg => many_spec _ w) ?_
  have hcap := hs26.cap (Nat.zero_lt_succ _); have hl4 : (numsA (xs.getD i default)).length = 4 := rfl
  refine LD.val rfl rfl (ov_subHi Tryz.underlying26 Tryz.sizeOf3 rfl rfl (by omega) (by omega)) ?_
  refine LD.val rfl rfl (ov_len Tryz.underlying26 rfl) ?_
  refine LD.nil ?_
  refine QM.sub (e' := [(0, _), (4, _), (9, _), (10, _), (11, _), (30, _), (31, _), (32, _)]) ⟨rfl, rfl, rfl, rfl, rfl, rfl, rfl, rfl, trivial⟩ (QM.then ?_)
  refine wpM.block ?_
  refine wpM.loopK0 (α := Nat × List Wrd × Option Addr × Nat × Nat × Mem0) (fun ⟨k, out2, ad2, n2, cap2, m2⟩ => [(4, .slice ad2 n2 cap2), (32, .int .i64 (k : Nat))]) [(0, _), (9, _), (10, _), (11, _), (30, _), (31, _)] (fun ⟨k, out2, ad2, n2, cap2, m2⟩ => m2 ++ (m26 ++ [])) (fun ⟨k, out2, ad2, n2, cap2, m2⟩ => k ≤ manyA (xs.getD i default).k ∧ out2.length ≤ 6 * i + 1 + k ∧ out2 = out ++ [⟨1, acT (xs.getD i default).k, 0, 0⟩] ++ (((numsA (xs.getD i default)).take k).map numW) ∧ n2 = out2.length ∧ Sl fW 65 4 w.heap.size out2 (.slice ad2 n2 cap2) m2) (fun ⟨k, out2, ad2, n2, cap2, m2⟩ => manyA (xs.getD i default).k - k) ((0, out ++ [(⟨1, acT (xs.getD i default).k, 0, 0⟩ : Wrd)], ad24, n24, cap24, m24)) ⟨au2, au2, rfl, rfl, rfl, rfl, rfl, rfl, trivial⟩ au1 ⟨Nat.zero_le _, by simp; omega, by simp, by rw [hn24]; simp, hs24⟩ ?_
  rintro ⟨k, out2, ad2, n2, cap2, m2⟩ ⟨hk, hz2, hout2, hn2, hs2⟩
  change wpM _ _ _ _ _ _ _ (m2 ++ (m26 ++ [])) _ _ _
  have hs30 := hs26.pre (fun _ => rfl) (show manyA (xs.getD i default).k ≤ (numsA (xs.getD i default)).length from hm4) (Nat.zero_lt_succ _); have hl30 : ((numsA (xs.getD i default)).take (manyA (xs.getD i default).k)).length = manyA (xs.getD i default).k := by rw [List.length_take]; omega
  refine wpM.seq (wpM.region ?_)
  refine LM.val (ov_lss rfl rfl) ?_
  refine LM.nil (QM.sub (e' := [(0, _), (4, _), (9, _), (10, _), (11, _), (30, _), (31, _), (32, _), (33, _)]) ⟨rfl, rfl, rfl, rfl, rfl, rfl, rfl, rfl, rfl, trivial⟩ (QM.then ?_))
  refine wpM.seq ?_
  refine wpM.condD rfl (fun h3 => ?_) (fun h3 => ?_)
  ·
   refine wpM.skip ?_
   refine QM.then ?_
   refine wpM.seq ?_
   refine wpM.block ?_
   refine wpM.seq (wpM.region ?_)
   refine LM.val (ov_idxSN au6 Tryz.underlying26 Tryz.sizeOf3 rfl rfl (by omega)) ?_
   refine LM.rd (om_sl1 (by assumption) (by intro _; rfl) Tryz.isAgg3 rfl rfl (by exact getq 0 au4) (by rfl)) ?_
   refine LM.as rfl ?_
   refine LM.nil (QM.sub (e' := [(0, _), (4, _), (8, _), (9, _), (10, _), (11, _), (30, _), (31, _), (32, _)]) ⟨rfl, rfl, rfl, rfl, rfl, rfl, rfl, rfl, rfl, trivial⟩ (QM.then (wpM.region ?_)))
   refine LM.mv rfl ?_
   refine LM.mv rfl ?_
   refine LM.val (ov_build (cs := #[_, _, _, _]) rfl (by first | rfl | kernel_rfl)) ?_
   refine LM.single Tryz.underlying23 Tryz.sizeOf65 Tryz.zeroValue65 rfl rfl rfl rfl rfl (fun b39 hb39 => ?_)
   refine LM.app (a := numW (((numsA (xs.getD i default)).take (manyA (xs.getD i default).k)).getD k 0)) Tryz.underlying23 Tryz.typeInfo65 rfl rfl rfl rfl rfl rfl rfl (by assumption) (by rfl) (by intro _; rfl) (by intro _ u hu; simp [fW] at hu; (repeat (first | (rcases hu with rfl | hu) | subst hu | rfl))) (by first | exact Nat.le_refl _ | omega) au9 (by first | omega | (unfold maxLen; omega)) (by simp only [Tryz.t65]; omega) (fun ad40 n40 cap40 m40 hn40 hs40 hin40 => ?_)
   refine LM.as rfl ?_
   refine LM.nil (QM.sub (e' := [(0, _), (4, _), (9, _), (10, _), (11, _), (30, _), (31, _), (32, _)]) ⟨rfl, rfl, rfl, rfl, rfl, rfl, rfl, rfl, trivial⟩ ?_)
   refine QM.block_normal ?_
   refine QM.then (wpM.region ?_)
   refine LM.val (ov_add64 rfl rfl (by omega)) ?_
   refine LM.mv rfl ?_
   refine LM.nil (QM.sub (e' := [(0, _), (4, _), (9, _), (10, _), (11, _), (30, _), (31, _), (32, _)]) ⟨rfl, rfl, rfl, rfl, rfl, rfl, rfl, rfl, trivial⟩ ?_)
   refine QM.againK ((k + 1, out2 ++ [numW (((numsA (xs.getD i default)).take (manyA (xs.getD i default).k)).getD k 0)], ad40, n40, cap40, m40)) ⟨au2, au2, rfl, rfl, rfl, rfl, rfl, rfl, trivial⟩ au1 (fun _ h => h) ?_ ?_
   · exact ⟨by omega, by rw [List.length_append, List.length_singleton]; omega, by rw [hout2, nums_snoc (by omega), take_get (by omega)]; simp, by rw [hn40]; simp, hs40⟩
   · first | omega | (dsimp only; omega)
  refine wpM.exit ?_
  refine QM.then_exit ?_
  refine QM.then_exit ?_
  refine QM.block_hit ?_
  refine QM.then (wpM.region ?_)
  refine LM.mv rfl ?_
  refine LM.val (ov_build (cs := #[_, _, _, _]) rfl (by first | rfl | kernel_rfl)) ?_
  refine LM.single Tryz.underlying23 Tryz.sizeOf65 Tryz.zeroValue65 rfl rfl rfl rfl rfl (fun b44 hb44 => ?_)
  refine LM.app (a := mk3 [59]) Tryz.underlying23 Tryz.typeInfo65 rfl rfl rfl rfl rfl rfl rfl (by assumption) (by rfl) (by intro _; rfl) (by intro _ u hu; simp [fW] at hu; (repeat (first | (rcases hu with rfl | hu) | subst hu | rfl))) (by first | exact Nat.le_refl _ | omega) au9 (by first | omega | (unfold maxLen; omega)) (by simp only [Tryz.t65]; omega) (fun ad45 n45 cap45 m45 hn45 hs45 hin45 => ?_)
  refine LM.as rfl ?_
  refine LM.nil (QM.sub (e' := [(0, _), (4, _), (9, _), (10, _), (11, _)]) ⟨rfl, rfl, rfl, rfl, rfl, trivial⟩ ?_)
  refine QM.block_normal ?_
  refine QM.then (wpM.region ?_)
  refine LM.val (ov_add64 rfl rfl (by omega)) ?_
  refine LM.mv rfl ?_
  refine LM.nil (QM.sub (e' := [(0, _), (4, _), (9, _), (10, _), (11, _)]) ⟨rfl, rfl, rfl, rfl, rfl, trivial⟩ ?_)
  obtain rfl : k = manyA (xs.getD i default).k := (by omega); have hl2 := congrArg List.length hout2
  refine QM.againK ((i + 1, out2 ++ [mk3 [59]], ad45, n45, cap45, m45)) ⟨au2, au2, rfl, rfl, rfl, trivial⟩ au1 (fun _ h => h) ?_ ?_
  · refine ⟨by omega, ?_, ?_, allA_snoc (by omega) hall (by simpa using h2), by rw [hn45]; simp, hs45⟩; (simp [numsA] at hl2 ⊢; omega); (rw [flatA_snoc (by omega), ← hout, hout2]; simp [actW])
  · first | omega | (dsimp only; omega)
 refine wpM.exit ?_
 refine QM.then_exit ?_
 refine QM.then_exit ?_
 refine QM.block_hit ?_
 refine QM.then ?_
 refine wpM.seq ?_
 refine wpM.seq (wpM.region ?_)
 refine LM.mv rfl ?_
 refine LM.val (ov_len Tryz.underlying47 rfl) ?_
 refine LM.val (ov_gtr rfl rfl) ?_
 refine LM.nil (QM.sub (e' := [(4, _), (49, _)]) ⟨rfl, rfl, trivial⟩ (QM.then ?_))
 refine wpM.condD rfl (fun h4 => ?_) (fun h4 => ?_)
 ·
  refine wpM.seq (wpM.region ?_)
  refine LM.as rfl ?_
  refine LM.as rfl ?_
  refine LM.nil (QM.sub (e' := [(2, _), (3, _)]) ⟨rfl, rfl, trivial⟩ (QM.then ?_))
  refine wpM.ret ?_
  refine QM.then_ret ?_
  refine QM.leave (.inl rfl) [.tmp 2, .tmp 3] Tryz.results72 rfl ?_
  intro w' hm' hc' hg'
  have hil : i = xs.length := (by omega); subst hil; rw [List.take_length] at hall; have hr : wordsA xs = ([], 6) := (by unfold wordsA; rw [hall, if_pos rfl, if_pos (by omega)]); rw [hr]; exact ⟨hc', [], ⟨none, 0, 0, rfl, rfl, .nil _ _ _ _⟩, Mem.nil _, fun p hp => by cases hp⟩
 refine wpM.skip ?_
 refine QM.then (wpM.seq (wpM.region ?_))
 refine LM.mv rfl ?_
 refine LM.as rfl ?_
 refine LM.as rfl ?_
 refine LM.nil (QM.sub (e' := [(2, _), (3, _)]) ⟨rfl, rfl, trivial⟩ (QM.then ?_))
 refine wpM.ret ?_
 refine QM.leave (.inl rfl) [.tmp 2, .tmp 3] Tryz.results72 rfl ?_
 intro w' hm' hc' hg'
 have hil : i = xs.length := (by omega); subst hil; rw [List.take_length] at hall hout; have hr : wordsA xs = (out, 0) := (by unfold wordsA; rw [hall, if_pos rfl, if_neg (by omega), hout]); rw [hr]; exact ⟨hc', mo, ⟨ado, no, capo, rfl, hno, hso⟩, hm'.pick _, fun p hp => Sl.ge hso p hp⟩
end Go.Eng
namespace Go.Eng
open Go Go.Proofs Go.RowKit
theorem numF_rng : ∀ (k : Nat) (s : List UInt8) (n : Int), 0 ≤ n → 0 ≤ numF k s n ∧ numF k s n < (n + 1) * 10 ^ k
  | 0, s, n, h => by unfold numF; simp; omega
  | k + 1, [], n, h => by
    unfold numF
    have : (1 : Int) ≤ 10 ^ (k + 1) := Int.add_one_le_of_lt (Int.pow_pos (by decide))
    refine ⟨h, ?_⟩
    have h2 : (n + 1) * 1 ≤ (n + 1) * 10 ^ (k + 1) := Int.mul_le_mul_of_nonneg_left this (by omega)
    omega
  | k + 1, c :: l, n, h => by
    unfold numF; split
    · rename_i hd
      have hr := dig_rng hd
      have ih := numF_rng k l (n * 10 + ((c.toNat : Nat) : Int) - 48) (by omega)
      refine ⟨ih.1, Int.lt_of_lt_of_le ih.2 ?_⟩
      have h2 : (n * 10 + ((c.toNat : Nat) : Int) - 48 + 1) * 10 ^ k ≤ ((n + 1) * 10) * 10 ^ k := Int.mul_le_mul_of_nonneg_right (by omega) (Int.le_of_lt (Int.pow_pos (by decide)))
      rw [Int.pow_succ, Int.mul_comm (10 ^ k) 10, ← Int.mul_assoc]; exact h2
    · have : (1 : Int) ≤ 10 ^ (k + 1) := Int.add_one_le_of_lt (Int.pow_pos (by decide))
      refine ⟨h, ?_⟩
      have h2 : (n + 1) * 1 ≤ (n + 1) * 10 ^ (k + 1) := Int.mul_le_mul_of_nonneg_left this (by omega)
      omega
def okN (x : Wrd) : Prop := x.k = 2 → 0 ≤ x.n ∧ x.n ≤ 999999999
theorem one_okN (s : List UInt8) (i : Nat) : okN (oneO s i).1 := by
  unfold oneO okN
  split
  · intro h; cases h
  split
  · intro _
    have := numF_rng 9 (s.drop i) 0 (by decide)
    simp only; omega
  · intro h; cases h
theorem scanF_okN (s : List UInt8) : ∀ (f i : Nat) (last : Int) (out : List Wrd), (∀ x ∈ out, okN x) → ∀ x ∈ (scanF f s i last out).1, okN x
  | 0, i, last, out, h => h
  | f + 1, i, last, out, h => by
    rw [scanF]
    split
    · exact h
    split
    · exact scanF_okN s f _ _ _ h
    split
    · exact scanF_okN s f _ _ _ h
    split
    · intro x hx; cases hx
    · refine scanF_okN s f _ _ _ (fun x hx => ?_)
      rcases List.mem_append.1 hx with hx | hx
      · exact h x hx
      · rw [List.mem_singleton] at hx; subst hx; exact one_okN s i
theorem scan_okN (s : List UInt8) : ∀ x ∈ (scanO s).1, okN x := by
  unfold scanO; split
  · intro x hx; cases hx
  · exact scanF_okN s _ _ _ _ (fun x hx => by cases hx)
theorem numG_ok {ws : List Wrd} (hw : ∀ x ∈ ws, okN x) : ∀ (f j i : Nat) (xs : List Int), xs.length = 4 → i + f ≤ 4 → (∀ p, p < 4 → 0 ≤ xs.getD p 0 ∧ xs.getD p 0 ≤ 999999999 ∧ (i ≤ p → xs.getD p 0 = 0)) → (numG ws f j i xs).2.1 = 0 → ∀ p, p < 4 → 0 ≤ (numG ws f j i xs).2.2.getD p 0 ∧ (numG ws f j i xs).2.2.getD p 0 ≤ 999999999 ∧ (i + f ≤ p → (numG ws f j i xs).2.2.getD p 0 = 0)
  | 0, j, i, xs, hl, hf, h, _ => h
  | f + 1, j, i, xs, hl, hf, h, he => by
    unfold numG at he ⊢
    split at he
    · cases he
    · rename_i q
      rw [if_neg q]
      simp only [Bool.or_eq_true, decide_eq_true_eq, not_or, Classical.not_not] at q
      have hx : ws.getD j default ∈ ws := List.mem_of_getElem? (getq default (by omega))
      have hn := hw _ hx q.2
      have := numG_ok hw f (j + 1) (i + 1) (xs.set i (ws.getD j default).n) (by simpa using hl) (by omega) (fun p hp => by
        by_cases e : p = i
        · subst e
          rw [List.getD_eq_getElem?_getD, List.getElem?_set_self (by omega)]
          exact ⟨hn.1, hn.2, fun q => absurd q (by omega)⟩
        · rw [List.getD_eq_getElem?_getD, List.getElem?_set_ne (by omega), ← List.getD_eq_getElem?_getD]
          have h1 := h p hp
          exact ⟨h1.1, h1.2.1, fun q => h1.2.2 (by omega)⟩) he
      intro p hp
      have h2 := this p hp
      exact ⟨h2.1, h2.2.1, fun q => h2.2.2 (by omega)⟩
theorem oneA_right {ws : List Wrd} (hw : ∀ x ∈ ws, okN x) {i : Nat} (h : (oneA ws i).2.2 = 0) : rightA (oneA ws i).1 = true := by
  unfold oneA at h ⊢
  split at h
  · cases h
  rename_i h1
  rw [if_neg h1]
  split at h
  · rename_i h2; exact absurd h h2
  rename_i h2
  rw [if_neg h2]
  split at h
  · rename_i h3
    rw [if_pos h3]
    have hm := manyA_le (kindA ws i)
    have hr := kindA_rng ws i
    have hk : kindOk (kindA ws i) = true := by unfold kindOk; simp only [Bool.and_eq_true, decide_eq_true_eq]; omega
    have hG := numG_ok hw (manyA (kindA ws i)) (i + 1) 0 zer4 rfl (by omega) (fun p hp => by
      have : p = 0 ∨ p = 1 ∨ p = 2 ∨ p = 3 := by omega
      rcases this with rfl | rfl | rfl | rfl <;> simp [zer4]) (Classical.not_not.1 h2)
    refine right_all hk (fun j hj => ?_)
    have e : (numsA (toA (kindA ws i) (numK ws i).2.2)).getD j 0 = (numK ws i).2.2.getD j 0 := by
      have : j = 0 ∨ j = 1 ∨ j = 2 ∨ j = 3 := by omega
      rcases this with rfl | rfl | rfl | rfl <;> rfl
    have g := hG j hj
    show numB (kindA ws i) j ((numsA (toA (kindA ws i) (numK ws i).2.2)).getD j 0) = true
    rw [e]
    unfold numB
    unfold numK
    simp only [Bool.and_eq_true, Bool.or_eq_true, decide_eq_true_eq]
    refine ⟨⟨g.1, g.2.1⟩, ?_⟩
    by_cases q : j < manyA (kindA ws i)
    · exact .inl q
    · exact .inr (g.2.2 (by omega))
  · cases h
theorem loopAF_may {ws : List Wrd} (hw : ∀ x ∈ ws, okN x) : ∀ (f i : Nat) (out : List Act), out.length ≤ 4000 → out.all rightA = true → mayA (loopAF f ws i out).1 = true
  | 0, i, out, h1, h2 => by unfold loopAF mayA; simp [h1, h2]
  | f + 1, i, out, h1, h2 => by
    unfold loopAF
    split
    · unfold mayA; simp [h1, h2]
    split
    · rfl
    split
    · rfl
    split
    · rfl
    · rename_i a b c d
      refine loopAF_may hw f _ _ (by rw [List.length_append, List.length_singleton]; omega) ?_
      rw [List.all_append, h2]
      simp only [List.all_cons, List.all_nil, Bool.and_true, Bool.true_and]
      exact oneA_right hw (Classical.not_not.1 d)
theorem acts_may {s : List UInt8} {p : Int} : mayA (actsO (scanO s).1 p).1 = true := by
  unfold actsO; split
  · rfl
  · exact loopAF_may (scan_okN s) _ _ _ (Nat.zero_le _) rfl
theorem acts_len {ws : List Wrd} {p : Int} (h : mayA (actsO ws p).1 = true) : (actsO ws p).1.length ≤ 4000 := by
  unfold mayA at h; simp only [Bool.and_eq_true, decide_eq_true_eq] at h; exact h.1
theorem eqA_at {xs ys : List Act} {i : Nat} (hl : xs.length = ys.length) (h : i < xs.length) (hp : xs.take i = ys.take i) (e : xs.getD i default = ys.getD i default) : xs.take (i + 1) = ys.take (i + 1) := by
  rw [take_snoc default h, take_snoc default (hl ▸ h), hp, e]
theorem fA_veqs (a b : Act) : veqs (fA a) (fA b) = decide (a = b) := by
  cases a; cases b; simp only [veqs, veq, fA, Bool.and_true, Act.mk.injEq, Bool.decide_and]; rfl
end Go.Eng
namespace Go.Eng
open Go Go.Proofs Go.RowKit
theorem bd_of {s : StV} (h : mayS s.C = true) : s.Bd := by
  obtain ⟨_, _, h1, _, h2, _, h3, _⟩ := mayS_inv h
  have hcl : (s.ps.map PgV.c).length = s.ps.length := List.length_map ..
  have h3 : 1 ≤ (s.ps.map PgV.c).length ∧ (s.ps.map PgV.c).length ≤ 8 := h3
  have h1 : 1 ≤ s.gs.length ∧ s.gs.length ≤ 4 := h1
  have h2 : s.ls.length ≤ 8 := h2
  exact ⟨by omega, by omega, by omega, fun p hp => by have := progs12 h p.c (List.mem_map_of_mem hp); omega⟩
theorem bd_par {ws : List Wrd} {p : Int} {s : StV} (h : s.C = (setO ws p).1) : s.Bd := by
  by_cases he : (setO ws p).2.2 = 0
  · exact bd_of (by rw [h]; exact set_may he)
  · have hd : (setO ws p).1 = default := by
      unfold setO stpR at he ⊢
      split
      · rfl
      rename_i q
      rw [if_neg q] at he
      split
      · rfl
      rename_i q2
      rw [if_neg q2] at he
      split
      · rfl
      rename_i q3
      rw [if_neg q3] at he; exact absurd rfl he
    rw [hd] at h
    have h1 : s.gs = [] := congrArg StC.gs h
    have h2 : s.ls = [] := congrArg StC.ls h
    have h3 : s.ps.map PgV.c = [] := congrArg StC.ps h
    have h4 : s.ps = [] := List.map_eq_nil_iff.1 h3
    exact ⟨by rw [h1]; simp, by rw [h2]; simp, by rw [h4]; simp, by rw [h4]; intro p hp; cases hp⟩
end Go.Eng
namespace Go.Eng
open Go Go.Proofs Go.RowKit
abbrev sB (b : Nat) (ad : Option Addr) (n cap : Nat) : Nat × Obj := (b, .cells #[.slice ad n cap] 47 (0, 0))
def EachAT (ad : Option Addr) (n cap : Nat) (n0 : Nat) (v : Value) (m : Mem0) : Prop := ∃ b1, v = .func (.func 99999) #[] #[.pointer (some ⟨b1, 0, none⟩)] ∧ m = [sB b1 ad n cap] ∧ n0 ≤ b1
theorem EachAT.mono {ad : Option Addr} {n cap : Nat} : ∀ (k k' : Nat) u m, k' ≤ k → EachAT ad n cap k u m → EachAT ad n cap k' u m := fun k k' u m h ⟨b1, h1, h2, h3⟩ => ⟨b1, h1, h2, by omega⟩
set_option maxRecDepth 100000 in
theorem asame_spec {xs ys : List Act} {ad1 ad2 : Option Addr} {n1 n2 cap1 cap2 : Nat} (w : World) (hn1 : n1 = xs.length) (hl1 : Sr fA 5 xs (.slice ad1 n1 cap1) w) (hn2 : n2 = ys.length) (hl2 : Sr fA 5 ys (.slice ad2 n2 cap2) w) (hx : xs.length ≤ 1000000000) : Ret Tryz.prog 32 #[.slice ad1 n1 cap1, .slice ad2 n2 cap2] w (fun v w' => v = .bool (decide (xs = ys)) ∧ Ext w w') := by
 refine Ret.enterM (l := [.slice ad1 n1 cap1, .slice ad2 n2 cap2]) Tryz.func32 rfl Tryz.ntmps32 rfl ([]) (no) (Mem.nil w) ?_
 refine wpM.seq (wpM.region ?_)
 refine LM.as rfl ?_
 refine LM.nil (QM.sub (e' := [(0, _), (1, _)]) ⟨rfl, rfl, trivial⟩ (QM.then ?_))
 refine wpM.seq ?_
 refine wpM.seq (wpM.region ?_)
 refine LM.mv rfl ?_
 refine LM.val (ov_len Tryz.underlying47 rfl) ?_
 refine LM.mv rfl ?_
 refine LM.val (ov_len Tryz.underlying47 rfl) ?_
 refine LM.val (ov_neq rfl rfl) ?_
 refine LM.nil (QM.sub (e' := [(0, _), (1, _), (10, _)]) ⟨rfl, rfl, rfl, trivial⟩ (QM.then ?_))
 refine wpM.condD rfl (fun h1 => ?_) (fun h1 => ?_)
 ·
  refine wpM.seq (wpM.region ?_)
  refine LM.as rfl ?_
  refine LM.nil (QM.sub (e' := [(4, _)]) ⟨rfl, trivial⟩ (QM.then ?_))
  refine wpM.ret ?_
  refine QM.then_ret ?_
  refine QM.leave (.inl rfl) [.tmp 4] Tryz.results32 rfl ?_
  intro w' hm' hc' hg'
  refine ⟨?_, hc'⟩; show Value.bool false = _; rw [decide_eq_false (show ¬ xs = ys by intro q; have := congrArg List.length q; omega)]
 refine wpM.skip ?_
 refine QM.then ?_
 refine wpM.seq ?_
 refine wpM.seq (wpM.region ?_)
 refine LM.as rfl ?_
 refine LM.nil (QM.sub (e' := [(0, _), (1, _), (5, _)]) ⟨rfl, rfl, rfl, trivial⟩ (QM.then ?_))
 refine wpM.block ?_
 refine wpM.loopK0 (α := Nat) (fun i => [(5, .int .i64 (i : Nat))]) [(0, _), (1, _)] (fun i => []) (fun i => i ≤ xs.length ∧ xs.take i = ys.take i) (fun i => xs.length - i) (0) ⟨au2, rfl, rfl, trivial⟩ au1 ⟨Nat.zero_le _, rfl⟩ ?_
 rintro i ⟨hi, ha⟩
 change wpM _ _ _ _ _ _ _ ([]) _ _ _
 refine wpM.seq ?_
 refine wpM.seq (wpM.region ?_)
 refine LM.mv rfl ?_
 refine LM.mv rfl ?_
 refine LM.val (ov_len Tryz.underlying47 rfl) ?_
 refine LM.val (ov_lss rfl rfl) ?_
 refine LM.nil (QM.sub (e' := [(0, _), (1, _), (5, _), (14, _)]) ⟨rfl, rfl, rfl, rfl, trivial⟩ (QM.then ?_))
 refine wpM.condD rfl (fun h2 => ?_) (fun h2 => ?_)
 ·
  refine wpM.skip ?_
  refine QM.then ?_
  refine wpM.seq ?_
  refine wpM.block ?_
  refine wpM.seq ?_
  refine wpM.draw [(0, 0), (1, 0), (2, 0), (3, 1), (4, 0), (5, 0), (6, 0), (7, 1), (8, 0)] (by kernel_rfl) (by kernel_rfl) ?_
  refine LD.val rfl rfl (ov_move rfl) ?_
  refine LD.val rfl rfl (ov_move rfl) ?_
  refine LD.val rfl rfl (ov_idxSN au6 Tryz.underlying47 Tryz.sizeOf123 rfl rfl (by omega)) ?_
  first | refine LD.rd rfl rfl (om_slA (by assumption) (by intro _; rfl) Tryz.isAgg123 Tryz.sizeOf123 rfl au3) ?_ | refine LD.rdC rfl rfl (om_srEA (by assumption) (by intro _; rfl) Tryz.isAgg123 Tryz.sizeOf123 rfl au3 id) ?_ | refine LD.rd rfl rfl (om_ldW Tryz.isAgg123 Tryz.sizeOf123 rfl rfl) ?_ | refine LD.rd rfl rfl (om_ldA Tryz.isAgg123 Tryz.sizeOf123 rfl (vs := [_, _, _, _, _]) rfl ⟨rfl, rfl, rfl, rfl, rfl, trivial⟩) ?_
  refine LD.val rfl rfl (ov_move rfl) ?_
  refine LD.val rfl rfl (ov_move rfl) ?_
  refine LD.val rfl rfl (ov_idxSN au6 Tryz.underlying47 Tryz.sizeOf123 rfl rfl (by omega)) ?_
  first | refine LD.rd rfl rfl (om_slA (by assumption) (by intro _; rfl) Tryz.isAgg123 Tryz.sizeOf123 rfl au3) ?_ | refine LD.rdC rfl rfl (om_srEA (by assumption) (by intro _; rfl) Tryz.isAgg123 Tryz.sizeOf123 rfl au3 id) ?_ | refine LD.rd rfl rfl (om_ldW Tryz.isAgg123 Tryz.sizeOf123 rfl rfl) ?_ | refine LD.rd rfl rfl (om_ldA Tryz.isAgg123 Tryz.sizeOf123 rfl (vs := [_, _, _, _, _]) rfl ⟨rfl, rfl, rfl, rfl, rfl, trivial⟩) ?_
  refine LD.val rfl rfl (ov_aneq Tryz.underlying123 (by kernel_rfl) (by kernel_rfl) (by decide) rfl rfl (by rfl) ⟨(by first | rfl | trivial), (by first | rfl | trivial), (by first | rfl | trivial), (by first | rfl | trivial), (by first | rfl | trivial), trivial⟩) ?_
  refine LD.nil ?_
  refine QM.sub (e' := [(0, _), (1, _), (5, _), (25, _)]) ⟨rfl, rfl, rfl, rfl, trivial⟩ (QM.then ?_)
  first | refine wpM.condD rfl (fun h3 => ?_) (fun h3 => ?_) | refine wpM.condB rfl (fun h3 => ?_) (fun h3 => ?_)
  ·
   refine wpM.seq (wpM.region ?_)
   refine LM.as rfl ?_
   refine LM.nil (QM.sub (e' := [(4, _)]) ⟨rfl, trivial⟩ (QM.then ?_))
   refine wpM.ret ?_
   refine QM.block_ret ?_
   refine QM.then_ret ?_
   refine QM.then_ret ?_
   refine QM.block_ret ?_
   refine QM.then_ret ?_
   refine QM.leave (.inl rfl) [.tmp 4] Tryz.results32 rfl ?_
   intro w' hm' hc' hg'
   refine ⟨?_, hc'⟩; show Value.bool false = _; rw [decide_eq_false (show ¬ xs = ys by intro q; rw [fA_veqs, q] at h3; simp at h3)]
  refine wpM.skip ?_
  refine QM.block_normal ?_
  refine QM.then (wpM.region ?_)
  refine LM.mv rfl ?_
  refine LM.val (ov_add64 rfl rfl (by omega)) ?_
  refine LM.as rfl ?_
  refine LM.nil (QM.sub (e' := [(0, _), (1, _), (5, _)]) ⟨rfl, rfl, rfl, trivial⟩ ?_)
  refine QM.againK (i + 1) ⟨au2, rfl, rfl, trivial⟩ au1 (fun _ h => h) ?_ ?_
  · exact ⟨by omega, eqA_at (by omega) (by omega) ha (by rw [fA_veqs] at h3; simpa using h3)⟩
  · omega
 refine wpM.exit ?_
 refine QM.then_exit ?_
 refine QM.then_exit ?_
 refine QM.block_hit ?_
 refine QM.then (wpM.seq (wpM.region ?_))
 refine LM.as rfl ?_
 refine LM.nil (QM.sub (e' := [(4, _)]) ⟨rfl, trivial⟩ (QM.then ?_))
 refine wpM.ret ?_
 refine QM.leave (.inl rfl) [.tmp 4] Tryz.results32 rfl ?_
 intro w' hm' hc' hg'
 refine ⟨?_, hc'⟩; show Value.bool true = _; rw [decide_eq_true]; have e1 : xs.take i = xs := List.take_of_length_le (by omega); have e2 : ys.take i = ys := List.take_of_length_le (by omega); rw [← e1, ← e2, ha]
end Go.Eng
namespace Go.Eng
open Go Go.Proofs Go.RowKit
end Go.Eng
namespace Go.Eng
open Go Go.Proofs Go.RowKit
section
variable {P : Program} {ty : TypeId} {e : Env} {x lo hi : Operand} {t : TypeId} {l : List UInt8}
theorem ov_sslcLo {k : IntKind} {i : Int} (ht : P.underlying t = some .string) (hx : ev e x = some (vS l)) (hl : ev e lo = some (.int k i)) (h1 : 0 ≤ i) (h2 : i ≤ l.length) :
    OpP P (.slice t x (some lo) none none) ty e (vS (l.drop i.toNat)) := fun w ρ hρ _ _ _ _ => by
  have a1 : 0 ≤ ((bs l).size : Int) ∧ ((bs l).size : Int) ≤ ((bs l).size : Int) := by omega
  have a2 : 0 ≤ i ∧ i ≤ (((bs l).size : Nat) : Int) := by rw [bs_size]; omega
  have h4 : (bs l).extract i.toNat (bs l).size = bs (l.drop i.toNat) := by
    rw [bs_size]
    have := Lib.extract_eq (bs l) i.toNat l.length
    refine this.trans ?_
    show bs ((l.drop i.toNat).take (l.length - i.toNat)) = _
    rw [List.take_of_length_le (by rw [List.length_drop]; omega)]
  simp [execOp, Instr.sliceAt, Instr.slice, Instr.sliceBounds, Instr.sliceBound, asIntOf, hρ x _ hx, hρ lo _ hl, Result.andThen, run_underlying ht, a2, h4]
theorem ov_sslcHi {k : IntKind} {j : Int} (ht : P.underlying t = some .string) (hx : ev e x = some (vS l)) (hh : ev e hi = some (.int k j)) (h1 : 0 ≤ j) (h3 : j ≤ l.length) :
    OpP P (.slice t x none (some hi) none) ty e (vS (l.take j.toNat)) := fun w ρ hρ _ _ _ _ => by
  have a1 : 0 ≤ j ∧ j ≤ ((bs l).size : Int) := by rw [bs_size]; omega
  have h4 : (bs l).extract 0 j.toNat = bs (l.take j.toNat) := by
    have := Lib.extract_eq (bs l) 0 j.toNat
    simpa using this
  simp [execOp, Instr.sliceAt, Instr.slice, Instr.sliceBounds, Instr.sliceBound, asIntOf, hρ x _ hx, hρ hi _ hh, Result.andThen, run_underlying ht, a1, h4]
end
abbrev blankL : List UInt8 := [32, 9, 10]
abbrev digitL : List UInt8 := [48, 49, 50, 51, 52, 53, 54, 55, 56, 57]
theorem blanks_blank (c : UInt8) : blankL.contains c = blankB c := all256 (fun c => blankL.contains c) blankB (by decide +kernel) c
theorem digits_dig (c : UInt8) : digitL.contains c = digB c := all256 (fun c => digitL.contains c) digB (by decide +kernel) c
theorem letters_at (c : UInt8) : decide (0 ≤ Lib.indexByte lettersL c) = letB c := all256 (fun c => decide (0 ≤ Lib.indexByte lettersL c)) letB (by decide +kernel) c
theorem digits_at (c : UInt8) : decide (0 ≤ Lib.indexByte digitL c) = digB c := all256 (fun c => decide (0 ≤ Lib.indexByte digitL c)) digB (by decide +kernel) c
theorem trim_len {of : List UInt8} {p : UInt8 → Bool} (hp : ∀ c, of.contains c = p c) (s : List UInt8) (i : Nat) : (Lib.trimLeftS (s.drop i) of).length = s.length - i - runL p s i ∧ runL p s i ≤ s.length - i := by
  have hf : (fun c => of.contains c) = p := funext hp
  have h1 : (s.drop i).length = ((s.drop i).takeWhile p).length + ((s.drop i).dropWhile p).length := by
    conv => lhs; rw [← List.takeWhile_append_dropWhile (p := p) (l := s.drop i)]
    rw [List.length_append]
  unfold Lib.trimLeftS runL
  rw [hf]
  rw [List.length_drop] at h1
  omega
theorem tw_take (p : UInt8 → Bool) : ∀ (l : List UInt8), l.take (l.takeWhile p).length = l.takeWhile p
  | [] => rfl
  | c :: l => by
    rw [List.takeWhile_cons]
    cases h : p c with
    | true => rw [if_pos rfl, List.length_cons, List.take_succ_cons, tw_take p l]
    | false => rfl
theorem run_pre (p : UInt8 → Bool) (s : List UInt8) (i : Nat) : (s.drop i).take (runL p s i) = (s.drop i).takeWhile p := tw_take p _
/-! blanks and remarks -/
def skipF : Nat → List UInt8 → Nat → Nat
  | 0, s, i => i + runL blankB s i
  | f + 1, s, i => if decide (i + runL blankB s i < s.length) && hashB (s.getD (i + runL blankB s i) 0) then skipF f s (i + runL blankB s i + runL notNl s (i + runL blankB s i)) else i + runL blankB s i
theorem hash_go {s : List UInt8} {j : Nat} (h : j < s.length) (hh : hashB (s.getD j 0) = true) : j < j + runL notNl s j := by
  have := runL_step (p := notNl) h (hash_nl hh); omega
theorem skipF_fuel (s : List UInt8) : ∀ (f g i : Nat), s.length - i ≤ f → s.length - i ≤ g → skipF f s i = skipF g s i
  | 0, 0, i, _, _ => rfl
  | 0, g + 1, i, h1, h2 => by rw [skipF, skipF, if_neg (by simp; omega)]
  | f + 1, 0, i, h1, h2 => by rw [skipF, skipF, if_neg (by simp; omega)]
  | f + 1, g + 1, i, h1, h2 => by
    simp only [skipF]
    split
    · rename_i q
      simp only [Bool.and_eq_true, decide_eq_true_eq] at q
      have := hash_go q.1 q.2
      exact skipF_fuel s f g _ (by omega) (by omega)
    · rfl
def skipO (s : List UInt8) (i : Nat) : Nat := skipF (s.length - i) s i
theorem skip_stop {s : List UInt8} {i : Nat} (h : (decide (i + runL blankB s i < s.length) && hashB (s.getD (i + runL blankB s i) 0)) = false) : skipO s i = i + runL blankB s i := by
  unfold skipO
  cases hf : s.length - i with
  | zero => rfl
  | succ f => rw [skipF, if_neg (by rw [h]; simp)]
theorem skip_go {s : List UInt8} {i : Nat} (h : (decide (i + runL blankB s i < s.length) && hashB (s.getD (i + runL blankB s i) 0)) = true) : skipO s i = skipO s (i + runL blankB s i + runL notNl s (i + runL blankB s i)) := by
  have q := h
  simp only [Bool.and_eq_true, decide_eq_true_eq] at q
  have := hash_go q.1 q.2
  unfold skipO
  obtain ⟨f, hf⟩ : ∃ f, s.length - i = f + 1 := ⟨s.length - i - 1, by omega⟩
  rw [hf, skipF, if_pos h]
  exact skipF_fuel s _ _ _ (by omega) (Nat.le_refl _)
theorem skipF_end (s : List UInt8) : ∀ (f i : Nat), i ≤ s.length → s.length - i ≤ f → i ≤ skipF f s i ∧ skipF f s i ≤ s.length ∧ (skipF f s i < s.length → blankB (s.getD (skipF f s i) 0) = false ∧ hashB (s.getD (skipF f s i) 0) = false)
  | f, i, h, hf => by
    have hb := runL_le blankB s i
    have stop : (decide (i + runL blankB s i < s.length) && hashB (s.getD (i + runL blankB s i) 0)) = false → i ≤ i + runL blankB s i ∧ i + runL blankB s i ≤ s.length ∧ (i + runL blankB s i < s.length → blankB (s.getD (i + runL blankB s i) 0) = false ∧ hashB (s.getD (i + runL blankB s i) 0) = false) := fun q => by
      refine ⟨by omega, by omega, fun hl => ?_⟩
      rw [decide_eq_true hl, Bool.true_and] at q
      refine ⟨?_, q⟩
      cases hc : blankB (s.getD (i + runL blankB s i) 0) with
      | false => rfl
      | true =>
        exfalso
        have e1 : (s.drop i).takeWhile blankB = (s.drop i).take (runL blankB s i) := (run_pre blankB s i).symm
        have h3 : (s.drop i)[runL blankB s i]? = some (s.getD (i + runL blankB s i) 0) := by
          rw [List.getElem?_drop]; exact getq 0 hl
        have := takeWhile_next (p := blankB) (l := s.drop i) h3
        rw [this] at hc; cases hc
    cases f with
    | zero =>
      rw [skipF]; exact stop (by rw [decide_eq_false (by omega)]; rfl)
    | succ f =>
      rw [skipF]
      split
      · rename_i q
        simp only [Bool.and_eq_true, decide_eq_true_eq] at q
        have h1 := hash_go q.1 q.2
        have h2 := runL_le notNl s (i + runL blankB s i)
        have := skipF_end s f (i + runL blankB s i + runL notNl s (i + runL blankB s i)) (by omega) (by omega)
        exact ⟨by omega, this.2⟩
      · rename_i q
        exact stop (by simpa using q)
where
  takeWhile_next {p : UInt8 → Bool} {l : List UInt8} {c : UInt8} (h : l[(l.takeWhile p).length]? = some c) : p c = false := by
    induction l with
    | nil => simp at h
    | cons a l ih =>
      rw [List.takeWhile_cons] at h
      cases ha : p a with
      | true => rw [ha, if_pos rfl, List.length_cons, List.getElem?_cons_succ] at h; exact ih h
      | false => rw [ha] at h; simp at h; rw [← h]; exact ha
theorem skip_end {s : List UInt8} {i : Nat} (h : i ≤ s.length) : i ≤ skipO s i ∧ skipO s i ≤ s.length ∧ (skipO s i < s.length → blankB (s.getD (skipO s i) 0) = false ∧ hashB (s.getD (skipO s i) 0) = false) := skipF_end s _ i h (Nat.le_refl _)
theorem hash_blank {c : UInt8} (h : hashB c = true) : blankB c = false := by
  have := all256 (fun c => !hashB c || !blankB c) (fun _ => true) (by decide +kernel) c
  rw [h] at this; simpa using this
theorem scanR_blanks {s : List UInt8} {last : Int} {out : List Wrd} : ∀ (n i : Nat), n = runL blankB s i → i ≤ s.length → scanR s i last out = scanR s (i + n) last out
  | 0, i, _, _ => rfl
  | n + 1, i, h, hi => by
    have hl := runL_le blankB s i
    have hlt : i < s.length := by omega
    have hb : blankB (s.getD i 0) = true := by
      cases hb : blankB (s.getD i 0) with
      | true => rfl
      | false => rw [runL_stop hlt hb] at h; cases h
    have h1 := runL_step hlt hb
    rw [scanR_blank hlt hb, scanR_blanks n (i + 1) (by omega) (by omega), show i + 1 + n = i + (n + 1) by omega]
theorem scanR_skipF {s : List UInt8} {last : Int} {out : List Wrd} : ∀ (f i : Nat), i ≤ s.length → scanR s i last out = scanR s (skipF f s i) last out
  | 0, i, h => scanR_blanks _ i rfl h
  | f + 1, i, h => by
    rw [scanR_blanks _ i rfl h, skipF]
    split
    · rename_i q
      simp only [Bool.and_eq_true, decide_eq_true_eq] at q
      have hb := hash_blank q.2
      have h2 := runL_le notNl s (i + runL blankB s i)
      rw [scanR_hash q.1 hb q.2 rfl]
      refine scanR_skipF f _ ?_; omega
    · rfl
theorem scanR_skip {s : List UInt8} {i : Nat} {last : Int} {out : List Wrd} (h : i ≤ s.length) : scanR s i last out = scanR s (skipO s i) last out := scanR_skipF _ i h
theorem idx_nl : ∀ (l : List UInt8), Lib.indexByte l 10 = if (l.takeWhile notNl).length = l.length then -1 else ((l.takeWhile notNl).length : Int)
  | [] => rfl
  | c :: l => by
    have ih := idx_nl l
    have hle := (List.takeWhile_sublist (l := l) notNl).length_le
    rw [Lib.indexByte, ih, List.takeWhile_cons]
    have hc : notNl c = !(c == 10) := all256 notNl (fun c => !(c == 10)) (by decide +kernel) c
    cases hq : c == 10 with
    | true => rw [hc, hq]; simp
    | false =>
      rw [hc, hq]
      simp only [Bool.not_false, if_true, Bool.false_eq_true, if_false, List.length_cons]
      by_cases h2 : (l.takeWhile notNl).length = l.length
      · simp [h2]
      · have h3 : ¬ (((l.takeWhile notNl).length : Int) = -1) := by omega
        simp [h2, h3]
theorem pre_hash {s : List UInt8} {j : Nat} : Lib.hasPrefix (s.drop j) [35] = (decide (j < s.length) && hashB (s.getD j 0)) := by
  unfold Lib.hasPrefix
  by_cases h : j < s.length
  · rw [drop_get h, decide_eq_true h, Bool.true_and]
    have := all256 (fun c => List.isPrefixOf [35] (c :: ([] : List UInt8))) hashB (by decide +kernel) (s.getD j 0)
    simpa [List.isPrefixOf] using this
  · rw [List.drop_of_length_le (by omega), decide_eq_false h]; rfl
/-! numbers -/
def okT (t : List UInt8) : Bool := decide (t ≠ []) && decide (t.length ≤ 9) && !(decide (1 < t.length) && decide ((((t.getD 0 0).toNat : Nat) : Int) = 48))
theorem dec_num : ∀ (l : List UInt8) (k acc : Nat), l.length ≤ k → l.all digB = true → ∃ m : Nat, Lib.decFrom acc l = some m ∧ (m : Int) = numF k l acc
  | [], k, acc, _, _ => ⟨acc, rfl, by cases k <;> rfl⟩
  | c :: l, 0, acc, h, _ => absurd h (by simp)
  | c :: l, k + 1, acc, h, ha => by
    rw [List.all_cons, Bool.and_eq_true] at ha
    have hr := dig_rng ha.1
    obtain ⟨m, h1, h2⟩ := dec_num l k (acc * 10 + (c.toNat - 48)) (by simpa using h) ha.2
    refine ⟨m, ?_, ?_⟩
    · rw [Lib.decFrom, Lib.digitVal, if_pos (by omega)]; exact h1
    · rw [numF, if_pos ha.1, h2]; congr 1; omega
theorem atoi_num {t : List UInt8} (h0 : t ≠ []) (h : t.length ≤ 9) (ha : t.all digB = true) : Lib.atoi t = some (numF 9 t 0) := by
  match t, h0 with
  | c :: l, _ =>
    have hc : digB c = true := by rw [List.all_cons, Bool.and_eq_true] at ha; exact ha.1
    have hr := dig_rng hc
    have n1 : (c == 45) = false := by rw [beq_eq_false_iff_ne]; intro q; subst q; simp at hr
    have n2 : (c == 43) = false := by rw [beq_eq_false_iff_ne]; intro q; subst q; simp at hr
    obtain ⟨m, h1, h2⟩ := dec_num (c :: l) 9 0 h ha
    have e : Lib.atoi (c :: l) = if (c == 45) = true then (Lib.decNat l).map fun (m : Nat) => -(m : Int) else if (c == 43) = true then (Lib.decNat l).map fun (m : Nat) => (m : Int) else (Lib.decNat (c :: l)).map fun (m : Nat) => (m : Int) := rfl
    have e2 : Lib.decNat (c :: l) = Lib.decFrom 0 (c :: l) := rfl
    rw [e, n1, n2, if_neg (by simp), if_neg (by simp), e2, h1, Option.map_some, h2]; rfl
theorem numF_tw : ∀ (k : Nat) (l : List UInt8) (n : Int), numF k (l.takeWhile digB) n = numF k l n
  | 0, l, n => by cases l <;> (try (rw [List.takeWhile_cons]; split)) <;> rfl
  | k + 1, [], n => rfl
  | k + 1, c :: l, n => by
    rw [List.takeWhile_cons]
    cases h : digB c with
    | true => rw [if_pos rfl, numF, if_pos h, numF, if_pos h, numF_tw k l]
    | false => rw [if_neg (by simp)]; rw [numF, numF, if_neg (by rw [h]; simp)]
theorem atoi_ret {t : List UInt8} (h0 : t ≠ []) (h : t.length ≤ 9) (ha : t.all digB = true) (w : World) : Ret Tryz.prog 169 #[vS t] w (fun v w' => v = .tuple #[.int .i64 (numF 9 t 0), .nilIface] ∧ Ext w w') :=
  (Any.strconv_Atoi l172 (bs t) (numF 9 t 0) (by rw [bs_size]; omega) (atoi_num h0 h ha) w).mono (fun e w' ⟨he, k, hw⟩ => ⟨_, he, rfl, by rw [hw]; exact Ext.of_below (Lib.bytesWorld_below w _ _)⟩)
theorem tleft_ret (t of : List UInt8) (hx : of.length < 4294967281) (ha : of.all (fun b => decide (b.toNat < 128)) = true) (w : World) : Ret Tryz.prog 166 #[vS t, vS of] w (fun v w' => v = vS (Lib.trimLeftS t of) ∧ Ext w w') :=
  (Any.strings_TrimLeft_laid l161 l160set (bs t) (bs of) w (by rw [bs_size]; exact hx) (ascii_of_all ha)).mono (fun e w' ⟨he, hb⟩ => ⟨_, he, rfl, Ext.of_below hb⟩)
theorem pre_ret (t p : List UInt8) (w : World) : Ret Tryz.prog 143 #[vS t, vS p] w (fun v w' => v = .bool (Lib.hasPrefix t p) ∧ Ext w w') :=
  (Any.strings_HasPrefix l99 (bs t) (bs p) w).mono (fun e w' ⟨he, hw⟩ => ⟨_, he, rfl, by rw [hw]; exact Chg.refl _ _⟩)
theorem idx_ret (t : List UInt8) (c : Int) (w : World) : Ret Tryz.prog 144 #[vS t, .int .u8 c] w (fun v w' => v = .int .i64 (Lib.indexByte t c.toNat.toUInt8) ∧ Ext w w') :=
  (Any.strings_IndexByte l137 (bs t) c w).mono (fun e w' ⟨he, hw⟩ => ⟨_, he, rfl, by rw [hw]; exact Chg.refl _ _⟩)
end Go.Eng
namespace Go.Eng
open Go Go.Proofs Go.RowKit
abbrev xO (s : List UInt8) (i : Nat) (last kind : Int) : Obj := .cells #[vS s, .int .i64 (i : Nat), .int .i64 last, .int .i64 kind] 165 (0, 0)
abbrev xB (b : Nat) (s : List UInt8) (i : Nat) (last kind : Int) : Nat × Obj := (b, xO s i last kind)
set_option maxRecDepth 100000 in
theorem run_spec {of : List UInt8} {p : UInt8 → Bool} (hp : ∀ c, of.contains c = p c) (hof : of.length < 4294967281) (ha : of.all (fun b => decide (b.toNat < 128)) = true) (b : Nat) (s : List UInt8) (i : Nat) (last kind : Int) (w : World) (hi : i ≤ s.length) (hs : s.length ≤ 1000000000) (hM : Mem w [xB b s i last kind]) : Ret Tryz.prog 142 #[.pointer (some ⟨b, 0, none⟩), vS of] w (WrP b (vS ((s.drop i).take (runL p s i))) (xO s (i + runL p s i) last kind) w) := by
 have hti : ((i : Nat) : Int).toNat = i := Int.toNat_natCast i; have htl := trim_len hp s ((i : Nat) : Int).toNat; have hdl : (s.drop ((i : Nat) : Int).toNat).length = s.length - ((i : Nat) : Int).toNat := List.length_drop; have hrr : runL p s ((i : Nat) : Int).toNat = runL p s i := (by rw [hti])
 refine Ret.enterM (l := [.pointer (some ⟨b, 0, none⟩), vS of]) Tryz.func142 rfl Tryz.ntmps142 rfl ([xB b s i last kind]) ((fun x => x = b)) hM ?_
 refine wpM.seq (wpM.region ?_)
 refine LM.as rfl ?_
 refine LM.nil (QM.sub (e' := [(0, _), (1, _)]) ⟨rfl, rfl, trivial⟩ (QM.then ?_))
 refine wpM.seq ?_
 refine wpM.draw [(0, 0), (1, 0), (2, 0), (3, 1), (4, 0), (5, 0), (6, 0), (7, 1), (8, 0), (9, 0)] (by kernel_rfl) (by kernel_rfl) ?_
 refine LD.val rfl rfl (ov_move rfl) ?_
 refine LD.val rfl rfl (ov_nilCheck rfl) ?_
 refine LD.val rfl rfl (ov_field Tryz.underlying165 rfl Tryz.sizeOf9 rfl (k := 0) rfl rfl) ?_
 refine LD.rd rfl rfl (om_ld Tryz.isAgg9 rfl rfl) ?_
 refine LD.val rfl rfl (ov_move rfl) ?_
 refine LD.val rfl rfl (ov_nilCheck rfl) ?_
 refine LD.val rfl rfl (ov_field Tryz.underlying165 rfl Tryz.sizeOf3 rfl (k := 1) rfl rfl) ?_
 refine LD.rd rfl rfl (om_ld Tryz.isAgg3 rfl rfl) ?_
 refine LD.val rfl rfl (ov_sslcLo Tryz.underlying9 rfl rfl (by omega) (by omega)) ?_
 refine LD.val rfl rfl (ov_assign rfl) ?_
 refine LD.nil ?_
 refine QM.sub (e' := [(0, _), (1, _), (5, _)]) ⟨rfl, rfl, rfl, trivial⟩ (QM.then (wpM.seq (wpM.region ?_)))
 refine LM.mv rfl ?_
 refine LM.val (ov_slenL Tryz.underlying9 rfl) ?_
 refine LM.mv rfl ?_
 refine LM.mv rfl ?_
 refine LM.callE (oc_call (enters_fn Tryz.func166 (by kernel_rfl) rfl) rfl) (fun w hm hc hg => tleft_ret _ of hof ha w) ?_
 refine LM.val (ov_slenL Tryz.underlying9 rfl) ?_
 refine LM.val (ov_sub64 rfl rfl (by omega)) ?_
 refine LM.as rfl ?_
 refine LM.nil (QM.sub (e' := [(0, _), (5, _), (6, _)]) ⟨rfl, rfl, rfl, trivial⟩ (QM.then (wpM.seq (wpM.region ?_))))
 refine LM.mv rfl ?_
 refine LM.val (ov_nilCheck rfl) ?_
 refine LM.val (ov_field Tryz.underlying165 rfl Tryz.sizeOf3 rfl (k := 1) rfl rfl) ?_
 refine LM.rd (om_ld Tryz.isAgg3 rfl rfl) ?_
 refine LM.mv rfl ?_
 refine LM.val (ov_add64 rfl rfl (by omega)) ?_
 refine LM.val (ov_nilCheck rfl) ?_
 refine LM.val (ov_field Tryz.underlying165 rfl Tryz.sizeOf3 rfl (k := 1) rfl rfl) ?_
 refine LM.st Tryz.sizeOf3 rfl rfl rfl au5 rfl (fun _ => rfl) ?_
 refine LM.nil (QM.sub (e' := [(5, _), (6, _)]) ⟨rfl, rfl, trivial⟩ (QM.then (wpM.seq (wpM.region ?_))))
 refine LM.mv rfl ?_
 refine LM.mv rfl ?_
 refine LM.val (ov_sslcHi Tryz.underlying9 rfl rfl (by omega) (by omega)) ?_
 refine LM.as rfl ?_
 refine LM.nil (QM.sub (e' := [(4, _)]) ⟨rfl, trivial⟩ (QM.then ?_))
 refine wpM.ret ?_
 refine QM.leave (.inl rfl) [.tmp 4] Tryz.results142 rfl ?_
 intro w' hm' hc' hg'
 have hAB : (((s.drop ((i : Nat) : Int).toNat).length : Nat) : Int) - (((Lib.trimLeftS (s.drop ((i : Nat) : Int).toNat) of).length : Nat) : Int) = ((runL p s i : Nat) : Int) := (by omega); have h3 := hm'.at b; rw [hAB] at h3; refine ⟨?_, hc', h3⟩; show vS ((s.drop ((i : Nat) : Int).toNat).take ((((s.drop ((i : Nat) : Int).toNat).length : Nat) : Int) - (((Lib.trimLeftS (s.drop ((i : Nat) : Int).toNat) of).length : Nat) : Int)).toNat) = _; rw [hAB, hti, Int.toNat_natCast]
set_option maxRecDepth 100000 in
theorem skip_spec (b : Nat) (s : List UInt8) (i : Nat) (last kind : Int) (w : World) (hi : i ≤ s.length) (hs : s.length ≤ 1000000000) (hM : Mem w [xB b s i last kind]) : Ret Tryz.prog 108 #[.pointer (some ⟨b, 0, none⟩)] w (WrP b (.tuple #[]) (xO s (skipO s i) last kind) w) := by
 refine Ret.enterM (l := [.pointer (some ⟨b, 0, none⟩)]) Tryz.func108 rfl Tryz.ntmps108 rfl ([xB b s i last kind]) ((fun x => x = b)) hM ?_
 refine wpM.seq (wpM.region ?_)
 refine LM.mv rfl ?_
 refine LM.cW (oc_call (enters_fn Tryz.func142 (by kernel_rfl) rfl) rfl) (fun w hm hc hg => run_spec blanks_blank (by decide) (by decide) b s i last kind w hi hs (hm.pick _)) rfl (fun _ => rfl) ?_
 refine LM.nil (QM.sub (e' := [(0, _)]) ⟨rfl, trivial⟩ (QM.then ?_))
 refine wpM.block ?_
 refine wpM.loopK0 (α := Nat × Nat) (fun ⟨i1, j⟩ => []) [(0, _)] (fun ⟨i1, j⟩ => xB b s j last kind :: []) (fun ⟨i1, j⟩ => i1 ≤ s.length ∧ skipO s i1 = skipO s i ∧ j = i1 + runL blankB s i1) (fun ⟨i1, j⟩ => s.length - i1) ((i, i + runL blankB s i)) ⟨rfl, trivial⟩ au1 ⟨hi, rfl, rfl⟩ ?_
 rintro ⟨i1, j⟩ ⟨hi1, hsk, hj⟩
 change wpM _ _ _ _ _ _ _ (xB b s j last kind :: []) _ _ _
 have hrl := runL_le blankB s i1; have hrn := runL_le notNl s j; have hjt : ((j : Nat) : Int).toNat = j := Int.toNat_natCast j
 refine wpM.seq ?_
 refine wpM.seq ?_
 refine wpM.draw [(0, 0), (1, 0), (2, 0), (3, 1), (4, 0), (5, 0), (6, 0), (7, 1), (8, 0), (9, 2)] (by kernel_rfl) (by kernel_rfl) ?_
 refine LD.val rfl rfl (ov_move rfl) ?_
 refine LD.val rfl rfl (ov_nilCheck rfl) ?_
 refine LD.val rfl rfl (ov_field Tryz.underlying165 rfl Tryz.sizeOf9 rfl (k := 0) rfl rfl) ?_
 refine LD.rd rfl rfl (om_ld Tryz.isAgg9 rfl rfl) ?_
 refine LD.val rfl rfl (ov_move rfl) ?_
 refine LD.val rfl rfl (ov_nilCheck rfl) ?_
 refine LD.val rfl rfl (ov_field Tryz.underlying165 rfl Tryz.sizeOf3 rfl (k := 1) rfl rfl) ?_
 refine LD.rd rfl rfl (om_ld Tryz.isAgg3 rfl rfl) ?_
 refine LD.val rfl rfl (ov_sslcLo Tryz.underlying9 rfl rfl (by omega) (by omega)) ?_
 refine LD.callE rfl rfl (oc_call (enters_fn Tryz.func143 (by kernel_rfl) rfl) rfl) (fun w hm hc hg => pre_ret _ [35] w) ?_
 refine LD.nil ?_
 refine QM.sub (e' := [(0, _), (14, _)]) ⟨rfl, rfl, trivial⟩ (QM.then ?_)
 first | refine wpM.condD rfl (fun h1 => ?_) (fun h1 => ?_) | refine wpM.condB rfl (fun h1 => ?_) (fun h1 => ?_)
 ·
  have hph : Lib.hasPrefix (s.drop ((j : Nat) : Int).toNat) [35] = (decide (j < s.length) && hashB (s.getD j 0)) := (by rw [hjt]; exact pre_hash); have hidx : Lib.indexByte (s.drop ((j : Nat) : Int).toNat) (Int.toNat 10).toUInt8 = if runL notNl s j = s.length - j then -1 else ((runL notNl s j : Nat) : Int) := (by rw [hjt]; have := idx_nl (s.drop j); rw [List.length_drop] at this; exact this); have hjl : j < s.length := (by have q := hph.symm.trans h1; simp only [Bool.and_eq_true, decide_eq_true_eq] at q; exact q.1); have hgo := hash_go hjl (by have q := hph.symm.trans h1; simp only [Bool.and_eq_true, decide_eq_true_eq] at q; exact q.2)
  refine wpM.skip ?_
  refine QM.then ?_
  refine wpM.seq ?_
  refine wpM.block ?_
  refine wpM.seq ?_
  refine wpM.draw [(0, 0), (1, 0), (2, 0), (3, 1), (4, 0), (5, 0), (6, 0), (7, 1), (8, 0), (9, 2), (10, 0)] (by kernel_rfl) (by kernel_rfl) ?_
  refine LD.val rfl rfl (ov_move rfl) ?_
  refine LD.val rfl rfl (ov_nilCheck rfl) ?_
  refine LD.val rfl rfl (ov_field Tryz.underlying165 rfl Tryz.sizeOf9 rfl (k := 0) rfl rfl) ?_
  refine LD.rd rfl rfl (om_ld Tryz.isAgg9 rfl rfl) ?_
  refine LD.val rfl rfl (ov_move rfl) ?_
  refine LD.val rfl rfl (ov_nilCheck rfl) ?_
  refine LD.val rfl rfl (ov_field Tryz.underlying165 rfl Tryz.sizeOf3 rfl (k := 1) rfl rfl) ?_
  refine LD.rd rfl rfl (om_ld Tryz.isAgg3 rfl rfl) ?_
  refine LD.val rfl rfl (ov_sslcLo Tryz.underlying9 rfl rfl (by omega) (by omega)) ?_
  refine LD.callE rfl rfl (oc_call (enters_fn Tryz.func144 (by kernel_rfl) rfl) rfl) (fun w hm hc hg => idx_ret _ 10 w) ?_
  refine LD.val rfl rfl (ov_assign rfl) ?_
  refine LD.nil ?_
  refine QM.sub (e' := [(0, _), (2, _)]) ⟨rfl, rfl, trivial⟩ (QM.then ?_)
  refine wpM.seq ?_
  refine wpM.seq (wpM.region ?_)
  refine LM.mv rfl ?_
  refine LM.val (ov_lss rfl rfl) ?_
  refine LM.nil (QM.sub (e' := [(0, _), (2, _), (28, _)]) ⟨rfl, rfl, rfl, trivial⟩ (QM.then ?_))
  refine wpM.joinK (α := Unit) (fun ⟨⟩ => [(2, .int .i64 (runL notNl s j : Nat))]) [(0, _)] (fun ⟨⟩ => xB b s j last kind :: []) (fun ⟨⟩ => True) ⟨rfl, trivial⟩ ?_ ?_
  ·
   refine wpM.condD rfl (fun h2 => ?_) (fun h2 => ?_)
   ·
    have hrv : runL notNl s j = s.length - j := (by have q := h2; rw [hidx] at q; split at q <;> omega)
    refine wpM.draw [(0, 0), (1, 0), (2, 0), (3, 1), (4, 0), (5, 0), (6, 0), (7, 0), (8, 1), (9, 0), (10, 0)] (by kernel_rfl) (by kernel_rfl) ?_
    refine LD.val rfl rfl (ov_move rfl) ?_
    refine LD.val rfl rfl (ov_nilCheck rfl) ?_
    refine LD.val rfl rfl (ov_field Tryz.underlying165 rfl Tryz.sizeOf9 rfl (k := 0) rfl rfl) ?_
    refine LD.rd rfl rfl (om_ld Tryz.isAgg9 rfl rfl) ?_
    refine LD.val rfl rfl (ov_slenL Tryz.underlying9 rfl) ?_
    refine LD.val rfl rfl (ov_move rfl) ?_
    refine LD.val rfl rfl (ov_nilCheck rfl) ?_
    refine LD.val rfl rfl (ov_field Tryz.underlying165 rfl Tryz.sizeOf3 rfl (k := 1) rfl rfl) ?_
    refine LD.rd rfl rfl (om_ld Tryz.isAgg3 rfl rfl) ?_
    refine LD.val rfl rfl (ov_sub64 rfl rfl (by omega)) ?_
    refine LD.val rfl rfl (ov_assign rfl) ?_
    refine LD.nil ?_
    refine QM.sub (e' := [(0, _), (2, _)]) ⟨rfl, rfl, trivial⟩ ?_
    refine QM.meetK (⟨⟩) ⟨(by first | rfl | exact lk rfl (by congr 1; omega) | exact lk rfl (by show Value.int .i64 (Lib.indexByte (s.drop ((j : Nat) : Int).toNat) (Int.toNat 10).toUInt8) = _; rw [hrv])), rfl, trivial⟩ au1 ?_
    · trivial
   have hrv : Lib.indexByte (s.drop ((j : Nat) : Int).toNat) (Int.toNat 10).toUInt8 = ((runL notNl s j : Nat) : Int) := (by have q := h2; rw [hidx] at q ⊢; split at q <;> split <;> omega)
   refine wpM.skip ?_
   refine QM.meetK (⟨⟩) ⟨(by first | rfl | exact lk rfl (by congr 1; omega) | exact lk rfl (by show Value.int .i64 (Lib.indexByte (s.drop ((j : Nat) : Int).toNat) (Int.toNat 10).toUInt8) = _; rw [hrv])), rfl, trivial⟩ au1 ?_
   · trivial
  rintro ⟨⟩ -
  change QM _ _ _ _ _ (xB b s j last kind :: []) _ _ _
  refine QM.then (wpM.region ?_)
  refine LM.mv rfl ?_
  refine LM.val (ov_nilCheck rfl) ?_
  refine LM.val (ov_field Tryz.underlying165 rfl Tryz.sizeOf3 rfl (k := 1) rfl rfl) ?_
  refine LM.rd (om_ld Tryz.isAgg3 rfl rfl) ?_
  refine LM.mv rfl ?_
  refine LM.val (ov_add64 rfl rfl (by omega)) ?_
  refine LM.val (ov_nilCheck rfl) ?_
  refine LM.val (ov_field Tryz.underlying165 rfl Tryz.sizeOf3 rfl (k := 1) rfl rfl) ?_
  refine LM.st Tryz.sizeOf3 rfl rfl rfl au5 rfl (fun _ => rfl) ?_
  refine LM.nil (QM.sub (e' := [(0, _)]) ⟨rfl, trivial⟩ ?_)
  refine QM.block_normal ?_
  refine QM.then (wpM.region ?_)
  change LM _ _ _ _ _ _ _ _ (xB b s (j + runL notNl s j) last kind :: []) _ _ _
  refine LM.mv rfl ?_
  refine LM.cW (oc_call (enters_fn Tryz.func142 (by kernel_rfl) rfl) rfl) (fun w hm hc hg => run_spec blanks_blank (by decide) (by decide) b s (j + runL notNl s j) last kind w (by omega) hs (hm.pick _)) rfl (fun _ => rfl) ?_
  refine LM.nil (QM.sub (e' := [(0, _)]) ⟨rfl, trivial⟩ ?_)
  refine QM.againK ((j + runL notNl s j, j + runL notNl s j + runL blankB s (j + runL notNl s j))) ⟨rfl, trivial⟩ au1 (fun _ h => h) ?_ ?_
  · exact ⟨by omega, by rw [← hsk, skip_go (i := i1) (by rw [← hj]; exact hph.symm.trans h1), ← hj], rfl⟩
  · first | omega | (dsimp only; omega)
 refine wpM.exit ?_
 refine QM.then_exit ?_
 refine QM.then_exit ?_
 refine QM.block_hit ?_
 refine QM.leave (.inr rfl) [] Tryz.results108 rfl ?_
 intro w' hm' hc' hg'
 have hph : Lib.hasPrefix (s.drop ((j : Nat) : Int).toNat) [35] = (decide (j < s.length) && hashB (s.getD j 0)) := (by rw [hjt]; exact pre_hash); refine ⟨rfl, hc', ?_⟩; rw [← hsk, skip_stop (i := i1) (by rw [← hj]; exact hph.symm.trans h1), ← hj]; exact hm'.at b
end Go.Eng
