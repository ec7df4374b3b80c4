/- The walks of the program's reader of setups. No condition. -/
import Derived.Test.YtbndlommbpkijaaGreatDoorM5
import Derived.Test.YtbndlommbpkijaaGreatDoorM2
set_option linter.unusedVariables false
set_option linter.unusedSimpArgs false
namespace Go.Eng
open Go Go.Proofs Go.RowKit
abbrev tO (ad : Option Addr) (n cap : Nat) (i : Nat) (e : Int) : Obj := .cells #[.slice ad n cap, .int .i64 (i : Nat), .int .i64 e] 70 (0, 0)
abbrev tB (b : Nat) (ad : Option Addr) (n cap : Nat) (i : Nat) (e : Int) : Nat × Obj := (b, tO ad n cap i e)
def GpT (r : List Int × Nat × Int) (n0 : Nat) (v : Value) (m : Mem0) : Prop := ∃ gs ad n cap, v = .slice ad n cap ∧ n = gs.length ∧ Sl fI 3 1 n0 gs (.slice ad n cap) m ∧ (r.2.2 = 0 → gs = r.1)
theorem GpT.mono {r : List Int × Nat × Int} : ∀ (k k' : Nat) u m, k' ≤ k → GpT r k u m → GpT r k' u m := fun k k' u m h ⟨gs, ad, n, cap, h1, h2, h3, h4⟩ => ⟨gs, ad, n, cap, h1, h2, h3.mono h, h4⟩
def LkT (r : List CLk × Nat × Int) (n0 : Nat) (v : Value) (m : Mem0) : Prop := ∃ ad n cap, v = .slice ad n cap ∧ n = r.1.length ∧ Sl fL 63 5 n0 r.1 (.slice ad n cap) m
theorem LkT.mono {r : List CLk × Nat × Int} : ∀ (k k' : Nat) u m, k' ≤ k → LkT r k u m → LkT r k' u m := fun k k' u m h ⟨ad, n, cap, h1, h2, h3⟩ => ⟨ad, n, cap, h1, h2, h3.mono h⟩
def PgT (r : List PgC × List Int × Nat × Int) (n0 : Nat) (v : Value) (m : Mem0) : Prop := ∃ (ps : List PgV) (ad : Option Addr) (n cap : Nat) (adq : Option Addr) (nq cq : Nat) (mp mq mo : Mem0), v = .tuple #[.slice ad n cap, .slice adq nq cq] ∧ ps.map PgV.c = r.1 ∧ n = ps.length ∧ ps.length ≤ 8 ∧ nq = r.2.1.length ∧ r.2.1.length = ps.length ∧ m = mo ++ (mp ++ (mq ++ [])) ∧
  Sl fPg 87 2 n0 ps (.slice ad n cap) mp ∧ Sl fI 3 1 n0 r.2.1 (.slice adq nq cq) mq ∧ (∀ w, Mem w mo → PgsIn ps w) ∧ (∀ p ∈ mo, n0 ≤ p.1)
theorem PgT.mono {r : List PgC × List Int × Nat × Int} : ∀ (k k' : Nat) u m, k' ≤ k → PgT r k u m → PgT r k' u m := fun k k' u m h ⟨ps, ad, n, cap, adq, nq, cq, mp, mq, mo, h1, h2, h3, h4, h5, h6, h7, h8, h9, h10, h11⟩ => ⟨ps, ad, n, cap, adq, nq, cq, mp, mq, mo, h1, h2, h3, h4, h5, h6, h7, h8.mono h, h9.mono h, h10, fun p hp => Nat.le_trans h (h11 p hp)⟩
set_option maxRecDepth 100000 in
theorem tfail_spec (b : Nat) {ad : Option Addr} {n cap : Nat} (i : Nat) (e0 e : Int) (w : World) (hM : Mem w [tB b ad n cap i e0]) : Ret Tryz.prog 81 #[.pointer (some ⟨b, 0, none⟩), .int .i64 e] w (WrP b (.tuple #[]) (tO ad n cap i (if e0 = 0 then e else e0)) w) := by
 refine Ret.enterM (l := [.pointer (some ⟨b, 0, none⟩), .int .i64 e]) Tryz.func81 rfl Tryz.ntmps81 rfl ([tB b ad n cap i e0]) ((fun x => x = b)) hM ?_
 refine wpM.seq (wpM.region ?_)
 refine LM.mv rfl ?_
 refine LM.val (ov_nilCheck rfl) ?_
 refine LM.val (ov_field Tryz.underlying70 rfl Tryz.sizeOf31 rfl (k := 2) rfl rfl) ?_
 refine LM.rd (om_ld Tryz.isAgg31 rfl rfl) ?_
 refine LM.val (ov_eql rfl rfl) ?_
 refine LM.nil (QM.sub (e' := [(0, _), (1, _), (8, _)]) au9 (QM.then ?_))
 refine wpM.condD rfl (fun h1 => ?_) (fun h1 => ?_)
 ·
  refine wpM.region ?_
  refine LM.mv rfl (LM.mv rfl ?_)
  refine LM.val (ov_nilCheck rfl) ?_
  refine LM.val (ov_field Tryz.underlying70 rfl Tryz.sizeOf31 rfl (k := 2) rfl rfl) ?_
  refine LM.st Tryz.sizeOf31 rfl rfl rfl au5 rfl (fun _ => rfl) ?_
  refine LM.nil (QM.sub (e' := []) trivial ?_)
  refine QM.leave (.inr rfl) [] Tryz.results81 rfl ?_
  intro w' hm' hc' hg'
  refine ⟨rfl, hc', ?_⟩; rw [if_pos h1]; exact hm'.at b
 refine wpM.skip ?_
 refine QM.leave (.inr rfl) [] Tryz.results81 rfl ?_
 intro w' hm' hc' hg'
 refine ⟨rfl, hc', ?_⟩; rw [if_neg h1]; exact hm'.at b
set_option maxRecDepth 100000 in
set_option maxHeartbeats 1000000 in
theorem tis_spec {ws : List Wrd} (b : Nat) {ad : Option Addr} {n cap : Nat} (i : Nat) (e : Int) (t : List UInt8) (w : World) (hn : n = ws.length) (hl : Sr fW 4 ws (.slice ad n cap) w) (hM : Mem w [tB b ad n cap i e]) : Ret Tryz.prog 82 #[.pointer (some ⟨b, 0, none⟩), vS t] w (fun v w' => v = .bool (isE ws i e 1 t) ∧ Ext w w') := by
 refine Ret.enterM (l := [.pointer (some ⟨b, 0, none⟩), vS t]) Tryz.func82 rfl Tryz.ntmps82 rfl ([tB b ad n cap i e]) (no) hM ?_
 refine wpM.seq (wpM.region ?_)
 refine LM.as rfl ?_
 refine LM.nil (QM.sub (e' := [(0, _), (1, _)]) au9 (QM.then ?_))
 refine wpM.seq ?_
 refine wpM.draw [(0, 0), (1, 0), (2, 0), (3, 1), (4, 0), (5, 0), (6, 0), (7, 0), (8, 0), (9, 1), (10, 0), (11, 0), (12, 0), (13, 1), (14, 0), (15, 0), (16, 0), (17, 0), (18, 0), (19, 0), (20, 0), (21, 1), (22, 0), (23, 0), (24, 0), (25, 1), (26, 0), (27, 0), (28, 1), (29, 0), (30, 0), (31, 0), (32, 0), (33, 0), (34, 0), (35, 1), (36, 0), (37, 0), (38, 0), (39, 1), (40, 0), (41, 0), (42, 1), (43, 0), (44, 0), (45, 0), (46, 0)] (by kernel_rfl) (by kernel_rfl) ?_
 refine LD.val rfl rfl (ov_move rfl) ?_
 refine LD.val rfl rfl (ov_nilCheck rfl) ?_
 refine LD.val rfl rfl (ov_field Tryz.underlying70 rfl Tryz.sizeOf31 rfl (k := 2) rfl rfl) ?_
 refine LD.rd rfl rfl (om_ld Tryz.isAgg31 rfl rfl) ?_
 refine LD.val rfl rfl (ov_eql rfl rfl) ?_
 refine LD.val rfl rfl (ov_move rfl) ?_
 refine LD.splitD (t := 10) rfl (fun h1 => ?_) (fun h1 => ?_)
 ·
  refine LD.val rfl ⟨10, _, rfl, rfl, rfl⟩ (ov_move rfl) ?_
  refine LD.val rfl ⟨10, _, rfl, rfl, rfl⟩ (ov_nilCheck rfl) ?_
  refine LD.val rfl ⟨10, _, rfl, rfl, rfl⟩ (ov_field Tryz.underlying70 rfl Tryz.sizeOf3 rfl (k := 1) rfl rfl) ?_
  refine LD.rd rfl ⟨10, _, rfl, rfl, rfl⟩ (om_ld Tryz.isAgg3 rfl rfl) ?_
  refine LD.val rfl ⟨10, _, rfl, rfl, rfl⟩ (ov_move rfl) ?_
  refine LD.val rfl ⟨10, _, rfl, rfl, rfl⟩ (ov_nilCheck rfl) ?_
  refine LD.val rfl ⟨10, _, rfl, rfl, rfl⟩ (ov_field Tryz.underlying70 rfl Tryz.sizeOf23 rfl (k := 0) rfl rfl) ?_
  refine LD.rd rfl ⟨10, _, rfl, rfl, rfl⟩ (om_ld Tryz.isAgg23 rfl rfl) ?_
  refine LD.val rfl ⟨10, _, rfl, rfl, rfl⟩ (ov_len Tryz.underlying23 rfl) ?_
  refine LD.val rfl ⟨10, _, rfl, rfl, rfl⟩ (ov_lss rfl rfl) ?_
  refine LD.val rfl rfl (ov_pickT rfl rfl) ?_
  refine LD.val rfl rfl (ov_move rfl) ?_
  refine LD.splitD (t := 22) rfl (fun h2 => ?_) (fun h2 => ?_)
  ·
   refine LD.val rfl ⟨22, _, rfl, rfl, rfl⟩ (ov_move rfl) ?_
   refine LD.val rfl ⟨22, _, rfl, rfl, rfl⟩ (ov_nilCheck rfl) ?_
   refine LD.val rfl ⟨22, _, rfl, rfl, rfl⟩ (ov_field Tryz.underlying70 rfl Tryz.sizeOf23 rfl (k := 0) rfl rfl) ?_
   refine LD.rd rfl ⟨22, _, rfl, rfl, rfl⟩ (om_ld Tryz.isAgg23 rfl rfl) ?_
   refine LD.val rfl ⟨22, _, rfl, rfl, rfl⟩ (ov_move rfl) ?_
   refine LD.val rfl ⟨22, _, rfl, rfl, rfl⟩ (ov_nilCheck rfl) ?_
   refine LD.val rfl ⟨22, _, rfl, rfl, rfl⟩ (ov_field Tryz.underlying70 rfl Tryz.sizeOf3 rfl (k := 1) rfl rfl) ?_
   refine LD.rd rfl ⟨22, _, rfl, rfl, rfl⟩ (om_ld Tryz.isAgg3 rfl rfl) ?_
   refine LD.val rfl ⟨22, _, rfl, rfl, rfl⟩ (ov_idxSN au6 Tryz.underlying23 Tryz.sizeOf65 rfl rfl (by omega)) ?_
   refine LD.val rfl ⟨22, _, rfl, rfl, rfl⟩ (ov_field Tryz.underlying65 rfl Tryz.sizeOf3 rfl (k := 0) rfl rfl) ?_
   first | refine LD.rd rfl ⟨22, _, rfl, rfl, rfl⟩ (om_slE (j := 0) (by assumption) (by intro _; rfl) Tryz.isAgg3 rfl rfl au3 rfl (by rfl)) ?_ | refine LD.rdC rfl ⟨22, _, rfl, rfl, rfl⟩ (om_srE (j := 0) (by assumption) Tryz.isAgg3 rfl rfl au3 (by rfl) (by rfl) id) ?_ | refine LD.rd rfl ⟨22, _, rfl, rfl, rfl⟩ (om_ld Tryz.isAgg3 rfl rfl) ?_
   refine LD.val rfl ⟨22, _, rfl, rfl, rfl⟩ (ov_eql rfl rfl) ?_
   refine LD.val rfl rfl (ov_pickT rfl rfl) ?_
   refine LD.val rfl rfl (ov_move rfl) ?_
   refine LD.splitD (t := 36) rfl (fun h3 => ?_) (fun h3 => ?_)
   ·
    refine LD.val rfl ⟨36, _, rfl, rfl, rfl⟩ (ov_move rfl) ?_
    refine LD.val rfl ⟨36, _, rfl, rfl, rfl⟩ (ov_nilCheck rfl) ?_
    refine LD.val rfl ⟨36, _, rfl, rfl, rfl⟩ (ov_field Tryz.underlying70 rfl Tryz.sizeOf23 rfl (k := 0) rfl rfl) ?_
    refine LD.rd rfl ⟨36, _, rfl, rfl, rfl⟩ (om_ld Tryz.isAgg23 rfl rfl) ?_
    refine LD.val rfl ⟨36, _, rfl, rfl, rfl⟩ (ov_move rfl) ?_
    refine LD.val rfl ⟨36, _, rfl, rfl, rfl⟩ (ov_nilCheck rfl) ?_
    refine LD.val rfl ⟨36, _, rfl, rfl, rfl⟩ (ov_field Tryz.underlying70 rfl Tryz.sizeOf3 rfl (k := 1) rfl rfl) ?_
    refine LD.rd rfl ⟨36, _, rfl, rfl, rfl⟩ (om_ld Tryz.isAgg3 rfl rfl) ?_
    refine LD.val rfl ⟨36, _, rfl, rfl, rfl⟩ (ov_idxSN au6 Tryz.underlying23 Tryz.sizeOf65 rfl rfl (by omega)) ?_
    refine LD.val rfl ⟨36, _, rfl, rfl, rfl⟩ (ov_field Tryz.underlying65 rfl Tryz.sizeOf9 rfl (k := 1) rfl rfl) ?_
    first | refine LD.rd rfl ⟨36, _, rfl, rfl, rfl⟩ (om_slE (j := 1) (by assumption) (by intro _; rfl) Tryz.isAgg9 rfl rfl au3 rfl (by rfl)) ?_ | refine LD.rdC rfl ⟨36, _, rfl, rfl, rfl⟩ (om_srE (j := 1) (by assumption) Tryz.isAgg9 rfl rfl au3 (by rfl) (by rfl) id) ?_ | refine LD.rd rfl ⟨36, _, rfl, rfl, rfl⟩ (om_ld Tryz.isAgg9 rfl rfl) ?_
    refine LD.val rfl ⟨36, _, rfl, rfl, rfl⟩ (ov_move rfl) ?_
    refine LD.val rfl ⟨36, _, rfl, rfl, rfl⟩ (ov_seqlL rfl rfl) ?_
    refine LD.val rfl rfl (ov_pickT rfl rfl) ?_
    refine LD.val rfl rfl (ov_assign rfl) ?_
    refine LD.nil ?_
    refine QM.sub (e' := [(4, _)]) ⟨rfl, trivial⟩ (QM.then ?_)
    refine wpM.ret ?_
    refine QM.leave (.inl rfl) [.tmp 4] Tryz.results82 rfl ?_
    intro w' hm' hc' hg'
    refine ⟨?_, hc'⟩; simp only [resV, isE]; rw [decide_eq_true h1, decide_eq_true (show i < ws.length by omega), decide_eq_true h3]; simp only [Bool.true_and]
   refine LD.drop rfl rfl ⟨36, _, rfl, rfl, rfl⟩ ?_
   refine LD.drop rfl rfl ⟨36, _, rfl, rfl, rfl⟩ ?_
   refine LD.drop rfl rfl ⟨36, _, rfl, rfl, rfl⟩ ?_
   refine LD.drop rfl rfl ⟨36, _, rfl, rfl, rfl⟩ ?_
   refine LD.drop rfl rfl ⟨36, _, rfl, rfl, rfl⟩ ?_
   refine LD.drop rfl rfl ⟨36, _, rfl, rfl, rfl⟩ ?_
   refine LD.drop rfl rfl ⟨36, _, rfl, rfl, rfl⟩ ?_
   refine LD.drop rfl rfl ⟨36, _, rfl, rfl, rfl⟩ ?_
   refine LD.drop rfl rfl ⟨36, _, rfl, rfl, rfl⟩ ?_
   refine LD.drop rfl rfl ⟨36, _, rfl, rfl, rfl⟩ ?_
   refine LD.drop rfl rfl ⟨36, _, rfl, rfl, rfl⟩ ?_
   refine LD.drop rfl rfl ⟨36, _, rfl, rfl, rfl⟩ ?_
   refine LD.drop rfl rfl ⟨36, _, rfl, rfl, rfl⟩ ?_
   refine LD.val rfl rfl (ov_pickF rfl rfl) ?_
   refine LD.val rfl rfl (ov_assign rfl) ?_
   refine LD.nil ?_
   refine QM.sub (e' := [(4, _)]) ⟨rfl, trivial⟩ (QM.then ?_)
   refine wpM.ret ?_
   refine QM.leave (.inl rfl) [.tmp 4] Tryz.results82 rfl ?_
   intro w' hm' hc' hg'
   refine ⟨?_, hc'⟩; simp only [resV, isE]; rw [decide_eq_false h3]; simp only [Bool.and_false, Bool.false_and]
  refine LD.drop rfl rfl ⟨22, _, rfl, rfl, rfl⟩ ?_
  refine LD.drop rfl rfl ⟨22, _, rfl, rfl, rfl⟩ ?_
  refine LD.drop rfl rfl ⟨22, _, rfl, rfl, rfl⟩ ?_
  refine LD.drop rfl rfl ⟨22, _, rfl, rfl, rfl⟩ ?_
  refine LD.drop rfl rfl ⟨22, _, rfl, rfl, rfl⟩ ?_
  refine LD.drop rfl rfl ⟨22, _, rfl, rfl, rfl⟩ ?_
  refine LD.drop rfl rfl ⟨22, _, rfl, rfl, rfl⟩ ?_
  refine LD.drop rfl rfl ⟨22, _, rfl, rfl, rfl⟩ ?_
  refine LD.drop rfl rfl ⟨22, _, rfl, rfl, rfl⟩ ?_
  refine LD.drop rfl rfl ⟨22, _, rfl, rfl, rfl⟩ ?_
  refine LD.drop rfl rfl ⟨22, _, rfl, rfl, rfl⟩ ?_
  refine LD.drop rfl rfl ⟨22, _, rfl, rfl, rfl⟩ ?_
  refine LD.val rfl rfl (ov_pickF rfl rfl) ?_
  refine LD.val rfl rfl (ov_move rfl) ?_
  refine LD.drop rfl rfl ⟨36, _, rfl, rfl, rfl⟩ ?_
  refine LD.drop rfl rfl ⟨36, _, rfl, rfl, rfl⟩ ?_
  refine LD.drop rfl rfl ⟨36, _, rfl, rfl, rfl⟩ ?_
  refine LD.drop rfl rfl ⟨36, _, rfl, rfl, rfl⟩ ?_
  refine LD.drop rfl rfl ⟨36, _, rfl, rfl, rfl⟩ ?_
  refine LD.drop rfl rfl ⟨36, _, rfl, rfl, rfl⟩ ?_
  refine LD.drop rfl rfl ⟨36, _, rfl, rfl, rfl⟩ ?_
  refine LD.drop rfl rfl ⟨36, _, rfl, rfl, rfl⟩ ?_
  refine LD.drop rfl rfl ⟨36, _, rfl, rfl, rfl⟩ ?_
  refine LD.drop rfl rfl ⟨36, _, rfl, rfl, rfl⟩ ?_
  refine LD.drop rfl rfl ⟨36, _, rfl, rfl, rfl⟩ ?_
  refine LD.drop rfl rfl ⟨36, _, rfl, rfl, rfl⟩ ?_
  refine LD.drop rfl rfl ⟨36, _, rfl, rfl, rfl⟩ ?_
  refine LD.val rfl rfl (ov_pickF rfl rfl) ?_
  refine LD.val rfl rfl (ov_assign rfl) ?_
  refine LD.nil ?_
  refine QM.sub (e' := [(4, _)]) ⟨rfl, trivial⟩ (QM.then ?_)
  refine wpM.ret ?_
  refine QM.leave (.inl rfl) [.tmp 4] Tryz.results82 rfl ?_
  intro w' hm' hc' hg'
  refine ⟨?_, hc'⟩; simp only [resV, isE]; rw [decide_eq_false (show ¬ i < ws.length by omega)]; simp only [Bool.and_false, Bool.false_and]
 refine LD.drop rfl rfl ⟨10, _, rfl, rfl, rfl⟩ ?_
 refine LD.drop rfl rfl ⟨10, _, rfl, rfl, rfl⟩ ?_
 refine LD.drop rfl rfl ⟨10, _, rfl, rfl, rfl⟩ ?_
 refine LD.drop rfl rfl ⟨10, _, rfl, rfl, rfl⟩ ?_
 refine LD.drop rfl rfl ⟨10, _, rfl, rfl, rfl⟩ ?_
 refine LD.drop rfl rfl ⟨10, _, rfl, rfl, rfl⟩ ?_
 refine LD.drop rfl rfl ⟨10, _, rfl, rfl, rfl⟩ ?_
 refine LD.drop rfl rfl ⟨10, _, rfl, rfl, rfl⟩ ?_
 refine LD.drop rfl rfl ⟨10, _, rfl, rfl, rfl⟩ ?_
 refine LD.drop rfl rfl ⟨10, _, rfl, rfl, rfl⟩ ?_
 refine LD.val rfl rfl (ov_pickF rfl rfl) ?_
 refine LD.val rfl rfl (ov_move rfl) ?_
 refine LD.drop rfl rfl ⟨22, _, rfl, rfl, rfl⟩ ?_
 refine LD.drop rfl rfl ⟨22, _, rfl, rfl, rfl⟩ ?_
 refine LD.drop rfl rfl ⟨22, _, rfl, rfl, rfl⟩ ?_
 refine LD.drop rfl rfl ⟨22, _, rfl, rfl, rfl⟩ ?_
 refine LD.drop rfl rfl ⟨22, _, rfl, rfl, rfl⟩ ?_
 refine LD.drop rfl rfl ⟨22, _, rfl, rfl, rfl⟩ ?_
 refine LD.drop rfl rfl ⟨22, _, rfl, rfl, rfl⟩ ?_
 refine LD.drop rfl rfl ⟨22, _, rfl, rfl, rfl⟩ ?_
 refine LD.drop rfl rfl ⟨22, _, rfl, rfl, rfl⟩ ?_
 refine LD.drop rfl rfl ⟨22, _, rfl, rfl, rfl⟩ ?_
 refine LD.drop rfl rfl ⟨22, _, rfl, rfl, rfl⟩ ?_
 refine LD.drop rfl rfl ⟨22, _, rfl, rfl, rfl⟩ ?_
 refine LD.val rfl rfl (ov_pickF rfl rfl) ?_
 refine LD.val rfl rfl (ov_move rfl) ?_
 refine LD.drop rfl rfl ⟨36, _, rfl, rfl, rfl⟩ ?_
 refine LD.drop rfl rfl ⟨36, _, rfl, rfl, rfl⟩ ?_
 refine LD.drop rfl rfl ⟨36, _, rfl, rfl, rfl⟩ ?_
 refine LD.drop rfl rfl ⟨36, _, rfl, rfl, rfl⟩ ?_
 refine LD.drop rfl rfl ⟨36, _, rfl, rfl, rfl⟩ ?_
 refine LD.drop rfl rfl ⟨36, _, rfl, rfl, rfl⟩ ?_
 refine LD.drop rfl rfl ⟨36, _, rfl, rfl, rfl⟩ ?_
 refine LD.drop rfl rfl ⟨36, _, rfl, rfl, rfl⟩ ?_
 refine LD.drop rfl rfl ⟨36, _, rfl, rfl, rfl⟩ ?_
 refine LD.drop rfl rfl ⟨36, _, rfl, rfl, rfl⟩ ?_
 refine LD.drop rfl rfl ⟨36, _, rfl, rfl, rfl⟩ ?_
 refine LD.drop rfl rfl ⟨36, _, rfl, rfl, rfl⟩ ?_
 refine LD.drop rfl rfl ⟨36, _, rfl, rfl, rfl⟩ ?_
 refine LD.val rfl rfl (ov_pickF rfl rfl) ?_
 refine LD.val rfl rfl (ov_assign rfl) ?_
 refine LD.nil ?_
 refine QM.sub (e' := [(4, _)]) ⟨rfl, trivial⟩ (QM.then ?_)
 refine wpM.ret ?_
 refine QM.leave (.inl rfl) [.tmp 4] Tryz.results82 rfl ?_
 intro w' hm' hc' hg'
 refine ⟨?_, hc'⟩; simp only [resV, isE]; rw [decide_eq_false h1]; simp only [Bool.and_false, Bool.false_and]
set_option maxRecDepth 100000 in
theorem tname_spec {ws : List Wrd} (b : Nat) {ad : Option Addr} {n cap : Nat} (i : Nat) (e : Int) (t : List UInt8) (w : World) (hn : n = ws.length) (hx : ws.length ≤ 1000000000) (hl : Sr fW 4 ws (.slice ad n cap) w) (hab : 0 < ws.length → adB ad ≠ b) (hM : Mem w [tB b ad n cap i e]) : Ret Tryz.prog 80 #[.pointer (some ⟨b, 0, none⟩), vS t] w (WrP b (.tuple #[]) (tO ad n cap (needE ws i e 1 t).1 (needE ws i e 1 t).2) w) := by
 refine Ret.enterM (l := [.pointer (some ⟨b, 0, none⟩), vS t]) Tryz.func80 rfl Tryz.ntmps80 rfl ([tB b ad n cap i e]) ((fun x => x = b)) hM ?_
 refine wpM.seq ?_
 refine wpM.seq (wpM.region ?_)
 refine LM.mv rfl (LM.mv rfl ?_)
 refine LM.callE (oc_call (enters_fn Tryz.func82 (by kernel_rfl) rfl) rfl) (fun w hm hc hg => tis_spec b i e t w hn (hl.kp hc hab) (hm.pick _)) ?_
 first | refine LM.val (ov_notD rfl) ?_ | refine LM.val (ov_not rfl) ?_
 refine LM.nil (QM.sub (e' := [(0, _), (7, _)]) au9 (QM.then ?_))
 first | refine wpM.condD rfl (fun h1 => ?_) (fun h1 => ?_) | refine wpM.condB rfl (fun h1 => ?_) (fun h1 => ?_)
 ·
  have hq : isE ws i e 1 t = false := (by simpa using h1)
  refine wpM.seq (wpM.region ?_)
  refine LM.mv rfl ?_
  refine LM.cW (oc_call (enters_fn Tryz.func81 (by kernel_rfl) rfl) rfl) (fun w hm hc hg => tfail_spec b (ad := ad) (n := n) (cap := cap) i e 5 w (hm.pick _)) rfl (fun hlt => by first | exact rfl | exact absurd hlt (by omega)) ?_
  refine LM.nil (QM.sub (e' := []) trivial (QM.then ?_))
  refine wpM.ret ?_
  refine QM.then_ret ?_
  refine QM.leave (.inl rfl) [] Tryz.results80 rfl ?_
  intro w' hm' hc' hg'
  refine ⟨rfl, hc', ?_⟩; have h3 := hm'.at b; unfold needE; rw [if_neg (by rw [hq]; simp)]; by_cases h0 : e = 0; (rw [if_pos h0] at h3 ⊢; exact h3); (rw [if_neg h0] at h3 ⊢; exact h3)
 have hq : isE ws i e 1 t = true := (by simpa using h1); have hlt := (isE_lt hq).1
 refine wpM.skip ?_
 refine QM.then (wpM.region ?_)
 refine LM.mv rfl ?_
 refine LM.val (ov_nilCheck rfl) ?_
 refine LM.val (ov_field Tryz.underlying70 rfl Tryz.sizeOf3 rfl (k := 1) rfl rfl) ?_
 refine LM.rd (om_ld Tryz.isAgg3 rfl rfl) ?_
 refine LM.val (ov_add64 rfl rfl (by omega)) ?_
 refine LM.val (ov_nilCheck rfl) ?_
 refine LM.val (ov_field Tryz.underlying70 rfl Tryz.sizeOf3 rfl (k := 1) rfl rfl) ?_
 refine LM.st Tryz.sizeOf3 rfl rfl rfl au5 rfl (fun hlt => by first | exact rfl | exact absurd hlt (by omega)) ?_
 refine LM.nil (QM.sub (e' := []) trivial ?_)
 refine QM.leave (.inr rfl) [] Tryz.results80 rfl ?_
 intro w' hm' hc' hg'
 refine ⟨rfl, hc', ?_⟩; have h3 := hm'.at b; unfold needE; rw [if_pos hq]; exact h3
set_option maxRecDepth 100000 in
set_option maxHeartbeats 1000000 in
theorem tend_spec {ws : List Wrd} (b : Nat) {ad : Option Addr} {n cap : Nat} (i : Nat) (e : Int) (w : World) (hn : n = ws.length) (hx : ws.length ≤ 1000000000) (hl : Sr fW 4 ws (.slice ad n cap) w) (hab : 0 < ws.length → adB ad ≠ b) (hM : Mem w [tB b ad n cap i e]) : Ret Tryz.prog 35 #[.pointer (some ⟨b, 0, none⟩)] w (WrP b (.tuple #[]) (tO ad n cap (needE ws i e 3 [59]).1 (needE ws i e 3 [59]).2) w) := by
 refine Ret.enterM (l := [.pointer (some ⟨b, 0, none⟩)]) Tryz.func35 rfl Tryz.ntmps35 rfl ([tB b ad n cap i e]) ((fun x => x = b)) hM ?_
 refine wpM.seq ?_
 refine wpM.seq ?_
 refine wpM.joinK (α := Bool) (fun q => [(46, .bool q)]) [(0, _)] (fun q => tB b ad n cap i e :: []) (fun q => q = !isE ws i e 3 [59]) ⟨rfl, trivial⟩ ?_ ?_
 ·
  refine wpM.draw [(0, 0), (1, 0), (2, 0), (3, 1), (4, 0), (5, 0), (6, 0), (7, 0), (8, 0), (9, 1), (10, 0), (11, 0), (12, 0), (13, 1), (14, 0), (15, 0), (16, 0), (17, 0), (18, 0), (19, 0), (20, 0), (21, 1), (22, 0), (23, 0), (24, 0), (25, 1), (26, 0), (27, 0), (28, 1), (29, 0), (30, 0), (31, 0), (32, 0), (33, 0), (34, 0), (35, 1), (36, 0), (37, 0), (38, 0), (39, 1), (40, 0), (41, 0), (42, 1), (43, 0), (44, 0)] (by kernel_rfl) (by kernel_rfl) ?_
  refine LD.val rfl rfl (ov_move rfl) ?_
  refine LD.val rfl rfl (ov_nilCheck rfl) ?_
  refine LD.val rfl rfl (ov_field Tryz.underlying70 rfl Tryz.sizeOf31 rfl (k := 2) rfl rfl) ?_
  refine LD.rd rfl rfl (om_ld Tryz.isAgg31 rfl rfl) ?_
  refine LD.val rfl rfl (ov_neq rfl rfl) ?_
  refine LD.val rfl rfl (ov_move rfl) ?_
  refine LD.splitD (t := 7) rfl (fun h1 => ?_) (fun h1 => ?_)
  ·
   refine LD.drop rfl rfl ⟨7, _, rfl, rfl, rfl⟩ ?_
   refine LD.drop rfl rfl ⟨7, _, rfl, rfl, rfl⟩ ?_
   refine LD.drop rfl rfl ⟨7, _, rfl, rfl, rfl⟩ ?_
   refine LD.drop rfl rfl ⟨7, _, rfl, rfl, rfl⟩ ?_
   refine LD.drop rfl rfl ⟨7, _, rfl, rfl, rfl⟩ ?_
   refine LD.drop rfl rfl ⟨7, _, rfl, rfl, rfl⟩ ?_
   refine LD.drop rfl rfl ⟨7, _, rfl, rfl, rfl⟩ ?_
   refine LD.drop rfl rfl ⟨7, _, rfl, rfl, rfl⟩ ?_
   refine LD.drop rfl rfl ⟨7, _, rfl, rfl, rfl⟩ ?_
   refine LD.drop rfl rfl ⟨7, _, rfl, rfl, rfl⟩ ?_
   refine LD.val rfl rfl (ov_pickT rfl rfl) ?_
   refine LD.val rfl rfl (ov_move rfl) ?_
   refine LD.drop rfl rfl ⟨19, _, rfl, rfl, rfl⟩ ?_
   refine LD.drop rfl rfl ⟨19, _, rfl, rfl, rfl⟩ ?_
   refine LD.drop rfl rfl ⟨19, _, rfl, rfl, rfl⟩ ?_
   refine LD.drop rfl rfl ⟨19, _, rfl, rfl, rfl⟩ ?_
   refine LD.drop rfl rfl ⟨19, _, rfl, rfl, rfl⟩ ?_
   refine LD.drop rfl rfl ⟨19, _, rfl, rfl, rfl⟩ ?_
   refine LD.drop rfl rfl ⟨19, _, rfl, rfl, rfl⟩ ?_
   refine LD.drop rfl rfl ⟨19, _, rfl, rfl, rfl⟩ ?_
   refine LD.drop rfl rfl ⟨19, _, rfl, rfl, rfl⟩ ?_
   refine LD.drop rfl rfl ⟨19, _, rfl, rfl, rfl⟩ ?_
   refine LD.drop rfl rfl ⟨19, _, rfl, rfl, rfl⟩ ?_
   refine LD.drop rfl rfl ⟨19, _, rfl, rfl, rfl⟩ ?_
   refine LD.val rfl rfl (ov_pickT rfl rfl) ?_
   refine LD.val rfl rfl (ov_move rfl) ?_
   refine LD.drop rfl rfl ⟨33, _, rfl, rfl, rfl⟩ ?_
   refine LD.drop rfl rfl ⟨33, _, rfl, rfl, rfl⟩ ?_
   refine LD.drop rfl rfl ⟨33, _, rfl, rfl, rfl⟩ ?_
   refine LD.drop rfl rfl ⟨33, _, rfl, rfl, rfl⟩ ?_
   refine LD.drop rfl rfl ⟨33, _, rfl, rfl, rfl⟩ ?_
   refine LD.drop rfl rfl ⟨33, _, rfl, rfl, rfl⟩ ?_
   refine LD.drop rfl rfl ⟨33, _, rfl, rfl, rfl⟩ ?_
   refine LD.drop rfl rfl ⟨33, _, rfl, rfl, rfl⟩ ?_
   refine LD.drop rfl rfl ⟨33, _, rfl, rfl, rfl⟩ ?_
   refine LD.drop rfl rfl ⟨33, _, rfl, rfl, rfl⟩ ?_
   refine LD.drop rfl rfl ⟨33, _, rfl, rfl, rfl⟩ ?_
   refine LD.drop rfl rfl ⟨33, _, rfl, rfl, rfl⟩ ?_
   refine LD.val rfl rfl (ov_pickT rfl rfl) ?_
   refine LD.nil ?_
   refine QM.sub (e' := [(0, _), (46, _)]) au9 ?_
   refine QM.meetK (_) ⟨au2, rfl, trivial⟩ au1 ?_
   · rw [isE_bad h1]; rfl
  refine LD.val rfl ⟨7, _, rfl, rfl, rfl⟩ (ov_move rfl) ?_
  refine LD.val rfl ⟨7, _, rfl, rfl, rfl⟩ (ov_nilCheck rfl) ?_
  refine LD.val rfl ⟨7, _, rfl, rfl, rfl⟩ (ov_field Tryz.underlying70 rfl Tryz.sizeOf3 rfl (k := 1) rfl rfl) ?_
  refine LD.rd rfl ⟨7, _, rfl, rfl, rfl⟩ (om_ld Tryz.isAgg3 rfl rfl) ?_
  refine LD.val rfl ⟨7, _, rfl, rfl, rfl⟩ (ov_move rfl) ?_
  refine LD.val rfl ⟨7, _, rfl, rfl, rfl⟩ (ov_nilCheck rfl) ?_
  refine LD.val rfl ⟨7, _, rfl, rfl, rfl⟩ (ov_field Tryz.underlying70 rfl Tryz.sizeOf23 rfl (k := 0) rfl rfl) ?_
  refine LD.rd rfl ⟨7, _, rfl, rfl, rfl⟩ (om_ld Tryz.isAgg23 rfl rfl) ?_
  refine LD.val rfl ⟨7, _, rfl, rfl, rfl⟩ (ov_len Tryz.underlying23 rfl) ?_
  refine LD.val rfl ⟨7, _, rfl, rfl, rfl⟩ (ov_geq rfl rfl) ?_
  refine LD.val rfl rfl (ov_pickF rfl rfl) ?_
  refine LD.val rfl rfl (ov_move rfl) ?_
  refine LD.splitD (t := 19) rfl (fun h2 => ?_) (fun h2 => ?_)
  ·
   refine LD.drop rfl rfl ⟨19, _, rfl, rfl, rfl⟩ ?_
   refine LD.drop rfl rfl ⟨19, _, rfl, rfl, rfl⟩ ?_
   refine LD.drop rfl rfl ⟨19, _, rfl, rfl, rfl⟩ ?_
   refine LD.drop rfl rfl ⟨19, _, rfl, rfl, rfl⟩ ?_
   refine LD.drop rfl rfl ⟨19, _, rfl, rfl, rfl⟩ ?_
   refine LD.drop rfl rfl ⟨19, _, rfl, rfl, rfl⟩ ?_
   refine LD.drop rfl rfl ⟨19, _, rfl, rfl, rfl⟩ ?_
   refine LD.drop rfl rfl ⟨19, _, rfl, rfl, rfl⟩ ?_
   refine LD.drop rfl rfl ⟨19, _, rfl, rfl, rfl⟩ ?_
   refine LD.drop rfl rfl ⟨19, _, rfl, rfl, rfl⟩ ?_
   refine LD.drop rfl rfl ⟨19, _, rfl, rfl, rfl⟩ ?_
   refine LD.drop rfl rfl ⟨19, _, rfl, rfl, rfl⟩ ?_
   refine LD.val rfl rfl (ov_pickT rfl rfl) ?_
   refine LD.val rfl rfl (ov_move rfl) ?_
   refine LD.drop rfl rfl ⟨33, _, rfl, rfl, rfl⟩ ?_
   refine LD.drop rfl rfl ⟨33, _, rfl, rfl, rfl⟩ ?_
   refine LD.drop rfl rfl ⟨33, _, rfl, rfl, rfl⟩ ?_
   refine LD.drop rfl rfl ⟨33, _, rfl, rfl, rfl⟩ ?_
   refine LD.drop rfl rfl ⟨33, _, rfl, rfl, rfl⟩ ?_
   refine LD.drop rfl rfl ⟨33, _, rfl, rfl, rfl⟩ ?_
   refine LD.drop rfl rfl ⟨33, _, rfl, rfl, rfl⟩ ?_
   refine LD.drop rfl rfl ⟨33, _, rfl, rfl, rfl⟩ ?_
   refine LD.drop rfl rfl ⟨33, _, rfl, rfl, rfl⟩ ?_
   refine LD.drop rfl rfl ⟨33, _, rfl, rfl, rfl⟩ ?_
   refine LD.drop rfl rfl ⟨33, _, rfl, rfl, rfl⟩ ?_
   refine LD.drop rfl rfl ⟨33, _, rfl, rfl, rfl⟩ ?_
   refine LD.val rfl rfl (ov_pickT rfl rfl) ?_
   refine LD.nil ?_
   refine QM.sub (e' := [(0, _), (46, _)]) au9 ?_
   refine QM.meetK (_) ⟨au2, rfl, trivial⟩ au1 ?_
   · unfold isE; rw [decide_eq_false (show ¬ i < ws.length by omega)]; simp
  refine LD.val rfl ⟨19, _, rfl, rfl, rfl⟩ (ov_move rfl) ?_
  refine LD.val rfl ⟨19, _, rfl, rfl, rfl⟩ (ov_nilCheck rfl) ?_
  refine LD.val rfl ⟨19, _, rfl, rfl, rfl⟩ (ov_field Tryz.underlying70 rfl Tryz.sizeOf23 rfl (k := 0) rfl rfl) ?_
  refine LD.rd rfl ⟨19, _, rfl, rfl, rfl⟩ (om_ld Tryz.isAgg23 rfl rfl) ?_
  refine LD.val rfl ⟨19, _, rfl, rfl, rfl⟩ (ov_move rfl) ?_
  refine LD.val rfl ⟨19, _, rfl, rfl, rfl⟩ (ov_nilCheck rfl) ?_
  refine LD.val rfl ⟨19, _, rfl, rfl, rfl⟩ (ov_field Tryz.underlying70 rfl Tryz.sizeOf3 rfl (k := 1) rfl rfl) ?_
  refine LD.rd rfl ⟨19, _, rfl, rfl, rfl⟩ (om_ld Tryz.isAgg3 rfl rfl) ?_
  refine LD.val rfl ⟨19, _, rfl, rfl, rfl⟩ (ov_idxSN au6 Tryz.underlying23 Tryz.sizeOf65 rfl rfl (by omega)) ?_
  refine LD.val rfl ⟨19, _, rfl, rfl, rfl⟩ (ov_field Tryz.underlying65 rfl Tryz.sizeOf3 rfl (k := 0) rfl rfl) ?_
  first | refine LD.rd rfl ⟨19, _, rfl, rfl, rfl⟩ (om_slE (j := 0) (by assumption) (by intro _; rfl) Tryz.isAgg3 rfl rfl au3 rfl (by rfl)) ?_ | refine LD.rdC rfl ⟨19, _, rfl, rfl, rfl⟩ (om_srE (j := 0) (by assumption) Tryz.isAgg3 rfl rfl au3 (by rfl) (by rfl) (by exact hab (by omega))) ?_ | refine LD.rd rfl ⟨19, _, rfl, rfl, rfl⟩ (om_ld Tryz.isAgg3 rfl rfl) ?_
  refine LD.val rfl ⟨19, _, rfl, rfl, rfl⟩ (ov_neq rfl rfl) ?_
  refine LD.val rfl rfl (ov_pickF rfl rfl) ?_
  refine LD.val rfl rfl (ov_move rfl) ?_
  refine LD.splitD (t := 33) rfl (fun h3 => ?_) (fun h3 => ?_)
  ·
   refine LD.drop rfl rfl ⟨33, _, rfl, rfl, rfl⟩ ?_
   refine LD.drop rfl rfl ⟨33, _, rfl, rfl, rfl⟩ ?_
   refine LD.drop rfl rfl ⟨33, _, rfl, rfl, rfl⟩ ?_
   refine LD.drop rfl rfl ⟨33, _, rfl, rfl, rfl⟩ ?_
   refine LD.drop rfl rfl ⟨33, _, rfl, rfl, rfl⟩ ?_
   refine LD.drop rfl rfl ⟨33, _, rfl, rfl, rfl⟩ ?_
   refine LD.drop rfl rfl ⟨33, _, rfl, rfl, rfl⟩ ?_
   refine LD.drop rfl rfl ⟨33, _, rfl, rfl, rfl⟩ ?_
   refine LD.drop rfl rfl ⟨33, _, rfl, rfl, rfl⟩ ?_
   refine LD.drop rfl rfl ⟨33, _, rfl, rfl, rfl⟩ ?_
   refine LD.drop rfl rfl ⟨33, _, rfl, rfl, rfl⟩ ?_
   refine LD.drop rfl rfl ⟨33, _, rfl, rfl, rfl⟩ ?_
   refine LD.val rfl rfl (ov_pickT rfl rfl) ?_
   refine LD.nil ?_
   refine QM.sub (e' := [(0, _), (46, _)]) au9 ?_
   refine QM.meetK (_) ⟨au2, rfl, trivial⟩ au1 ?_
   · unfold isE; rw [decide_eq_false h3]; simp
  refine LD.val rfl ⟨33, _, rfl, rfl, rfl⟩ (ov_move rfl) ?_
  refine LD.val rfl ⟨33, _, rfl, rfl, rfl⟩ (ov_nilCheck rfl) ?_
  refine LD.val rfl ⟨33, _, rfl, rfl, rfl⟩ (ov_field Tryz.underlying70 rfl Tryz.sizeOf23 rfl (k := 0) rfl rfl) ?_
  refine LD.rd rfl ⟨33, _, rfl, rfl, rfl⟩ (om_ld Tryz.isAgg23 rfl rfl) ?_
  refine LD.val rfl ⟨33, _, rfl, rfl, rfl⟩ (ov_move rfl) ?_
  refine LD.val rfl ⟨33, _, rfl, rfl, rfl⟩ (ov_nilCheck rfl) ?_
  refine LD.val rfl ⟨33, _, rfl, rfl, rfl⟩ (ov_field Tryz.underlying70 rfl Tryz.sizeOf3 rfl (k := 1) rfl rfl) ?_
  refine LD.rd rfl ⟨33, _, rfl, rfl, rfl⟩ (om_ld Tryz.isAgg3 rfl rfl) ?_
  refine LD.val rfl ⟨33, _, rfl, rfl, rfl⟩ (ov_idxSN au6 Tryz.underlying23 Tryz.sizeOf65 rfl rfl (by omega)) ?_
  refine LD.val rfl ⟨33, _, rfl, rfl, rfl⟩ (ov_field Tryz.underlying65 rfl Tryz.sizeOf9 rfl (k := 1) rfl rfl) ?_
  first | refine LD.rd rfl ⟨33, _, rfl, rfl, rfl⟩ (om_slE (j := 1) (by assumption) (by intro _; rfl) Tryz.isAgg9 rfl rfl au3 rfl (by rfl)) ?_ | refine LD.rdC rfl ⟨33, _, rfl, rfl, rfl⟩ (om_srE (j := 1) (by assumption) Tryz.isAgg9 rfl rfl au3 (by rfl) (by rfl) (by exact hab (by omega))) ?_ | refine LD.rd rfl ⟨33, _, rfl, rfl, rfl⟩ (om_ld Tryz.isAgg9 rfl rfl) ?_
  refine LD.val rfl ⟨33, _, rfl, rfl, rfl⟩ (ov_sneqL rfl rfl) ?_
  refine LD.val rfl rfl (ov_pickF rfl rfl) ?_
  refine LD.nil ?_
  refine QM.sub (e' := [(0, _), (46, _)]) au9 ?_
  refine QM.meetK (_) ⟨au2, rfl, trivial⟩ au1 ?_
  · unfold isE; rw [decide_eq_true (show e = 0 from Classical.not_not.1 h1), decide_eq_true (show i < ws.length by omega), decide_eq_true (Classical.not_not.1 h3)]; simp
 rintro q hq
 change QM _ _ _ _ _ (tB b ad n cap i e :: []) _ _ _
 refine QM.then ?_
 first | refine wpM.condD rfl (fun h4 => ?_) (fun h4 => ?_) | refine wpM.condB rfl (fun h4 => ?_) (fun h4 => ?_)
 ·
  have hq2 : isE ws i e 3 [59] = false := (by rw [h4] at hq; simpa using hq.symm)
  refine wpM.seq (wpM.region ?_)
  refine LM.mv rfl ?_
  refine LM.cW (oc_call (enters_fn Tryz.func81 (by kernel_rfl) rfl) rfl) (fun w hm hc hg => tfail_spec b (ad := ad) (n := n) (cap := cap) i e 5 w (hm.pick _)) rfl (fun hlt => by first | exact rfl | exact absurd hlt (by omega)) ?_
  refine LM.nil (QM.sub (e' := []) trivial (QM.then ?_))
  refine wpM.ret ?_
  refine QM.then_ret ?_
  refine QM.leave (.inl rfl) [] Tryz.results35 rfl ?_
  intro w' hm' hc' hg'
  refine ⟨rfl, hc', ?_⟩; have h3 := hm'.at b; unfold needE; rw [if_neg (by rw [hq2]; simp)]; by_cases h0 : e = 0; (rw [if_pos h0] at h3 ⊢; exact h3); (rw [if_neg h0] at h3 ⊢; exact h3)
 have hq2 : isE ws i e 3 [59] = true := (by rw [h4] at hq; simpa using hq.symm); have hlt := (isE_lt hq2).1
 refine wpM.skip ?_
 refine QM.then (wpM.region ?_)
 refine LM.mv rfl ?_
 refine LM.val (ov_nilCheck rfl) ?_
 refine LM.val (ov_field Tryz.underlying70 rfl Tryz.sizeOf3 rfl (k := 1) rfl rfl) ?_
 refine LM.rd (om_ld Tryz.isAgg3 rfl rfl) ?_
 refine LM.val (ov_add64 rfl rfl (by omega)) ?_
 refine LM.val (ov_nilCheck rfl) ?_
 refine LM.val (ov_field Tryz.underlying70 rfl Tryz.sizeOf3 rfl (k := 1) rfl rfl) ?_
 refine LM.st Tryz.sizeOf3 rfl rfl rfl au5 rfl (fun hlt => by first | exact rfl | exact absurd hlt (by omega)) ?_
 refine LM.nil (QM.sub (e' := []) trivial ?_)
 refine QM.leave (.inr rfl) [] Tryz.results35 rfl ?_
 intro w' hm' hc' hg'
 refine ⟨rfl, hc', ?_⟩; have h3 := hm'.at b; unfold needE; rw [if_pos hq2]; exact h3
set_option maxRecDepth 100000 in
set_option maxHeartbeats 1000000 in
theorem tfield_spec {ws : List Wrd} (b : Nat) {ad : Option Addr} {n cap : Nat} (i : Nat) (e most : Int) (nm : List UInt8) (w : World) (hn : n = ws.length) (hx : ws.length ≤ 1000000000) (hl : Sr fW 4 ws (.slice ad n cap) w) (hab : 0 < ws.length → adB ad ≠ b) (hM : Mem w [tB b ad n cap i e]) : Ret Tryz.prog 34 #[.pointer (some ⟨b, 0, none⟩), vS nm, .int .i64 most] w (WrP b (.int .i64 (fldE ws i e nm most).2.2) (tO ad n cap (fldE ws i e nm most).1 (fldE ws i e nm most).2.1) w) := by
 refine Ret.enterM (l := [.pointer (some ⟨b, 0, none⟩), vS nm, .int .i64 most]) Tryz.func34 rfl Tryz.ntmps34 rfl ([tB b ad n cap i e]) ((fun x => x = b)) hM ?_
 refine wpM.seq (wpM.region ?_)
 refine LM.as rfl ?_
 refine LM.nil (QM.sub (e' := [(0, _), (1, _), (2, _)]) au9 (QM.then (wpM.seq (wpM.region ?_))))
 refine LM.mv rfl (LM.mv rfl ?_)
 refine LM.cW (oc_call (enters_fn Tryz.func80 (by kernel_rfl) rfl) rfl) (fun w hm hc hg => tname_spec b i e nm w hn hx (hl.kp hc hab) hab (hm.pick _)) rfl (fun hlt => by first | exact rfl | exact absurd hlt (by omega)) ?_
 refine LM.nil (QM.sub (e' := [(0, _), (2, _)]) au9 (QM.then ?_))
 refine wpM.seq ?_
 refine wpM.block ?_
 refine wpM.seq (wpM.region ?_)
 refine LM.mv rfl ?_
 refine LM.val (ov_nilCheck rfl) ?_
 refine LM.val (ov_field Tryz.underlying70 rfl Tryz.sizeOf31 rfl (k := 2) rfl rfl) ?_
 refine LM.rd (om_ld Tryz.isAgg31 rfl rfl) ?_
 refine LM.val (ov_neq rfl rfl) ?_
 refine LM.as rfl ?_
 refine LM.nil (QM.sub (e' := [(0, _), (2, _), (10, _)]) au9 (QM.then ?_))
 refine wpM.condD rfl (fun h1 => ?_) (fun h1 => ?_)
 ·
  refine wpM.seq (wpM.region ?_)
  refine LM.as rfl ?_
  refine LM.nil (QM.sub (e' := [(6, _)]) ⟨rfl, trivial⟩ (QM.then ?_))
  refine wpM.ret ?_
  refine QM.block_ret ?_
  refine QM.then_ret ?_
  refine QM.leave (.inl rfl) [.tmp 6] Tryz.results34 rfl ?_
  intro w' hm' hc' hg'
  unfold fldE; rw [num_b h1]; exact ⟨rfl, hc', hm'.at b⟩
 have he0 : (needE ws i e 1 nm).2 = 0 := Classical.not_not.1 h1
 refine wpM.seq ?_
 refine wpM.draw [(0, 0), (1, 0), (2, 0), (3, 1), (4, 0), (5, 0), (6, 0), (7, 1), (8, 0), (9, 0), (10, 0), (11, 0), (12, 0), (13, 0), (14, 1), (15, 0), (16, 0), (17, 0), (18, 1), (19, 0), (20, 0), (21, 1), (22, 0), (23, 0), (24, 0)] (by kernel_rfl) (by kernel_rfl) ?_
 refine LD.val rfl rfl (ov_move rfl) ?_
 refine LD.val rfl rfl (ov_nilCheck rfl) ?_
 refine LD.val rfl rfl (ov_field Tryz.underlying70 rfl Tryz.sizeOf3 rfl (k := 1) rfl rfl) ?_
 refine LD.rd rfl rfl (om_ld Tryz.isAgg3 rfl rfl) ?_
 refine LD.val rfl rfl (ov_move rfl) ?_
 refine LD.val rfl rfl (ov_nilCheck rfl) ?_
 refine LD.val rfl rfl (ov_field Tryz.underlying70 rfl Tryz.sizeOf23 rfl (k := 0) rfl rfl) ?_
 refine LD.rd rfl rfl (om_ld Tryz.isAgg23 rfl rfl) ?_
 refine LD.val rfl rfl (ov_len Tryz.underlying23 rfl) ?_
 refine LD.val rfl rfl (ov_geq rfl rfl) ?_
 refine LD.val rfl rfl (ov_move rfl) ?_
 refine LD.splitD (t := 27) rfl (fun h2 => ?_) (fun h2 => ?_)
 ·
  refine LD.drop rfl rfl ⟨27, _, rfl, rfl, rfl⟩ ?_
  refine LD.drop rfl rfl ⟨27, _, rfl, rfl, rfl⟩ ?_
  refine LD.drop rfl rfl ⟨27, _, rfl, rfl, rfl⟩ ?_
  refine LD.drop rfl rfl ⟨27, _, rfl, rfl, rfl⟩ ?_
  refine LD.drop rfl rfl ⟨27, _, rfl, rfl, rfl⟩ ?_
  refine LD.drop rfl rfl ⟨27, _, rfl, rfl, rfl⟩ ?_
  refine LD.drop rfl rfl ⟨27, _, rfl, rfl, rfl⟩ ?_
  refine LD.drop rfl rfl ⟨27, _, rfl, rfl, rfl⟩ ?_
  refine LD.drop rfl rfl ⟨27, _, rfl, rfl, rfl⟩ ?_
  refine LD.drop rfl rfl ⟨27, _, rfl, rfl, rfl⟩ ?_
  refine LD.drop rfl rfl ⟨27, _, rfl, rfl, rfl⟩ ?_
  refine LD.drop rfl rfl ⟨27, _, rfl, rfl, rfl⟩ ?_
  refine LD.val rfl rfl (ov_pickT rfl rfl) ?_
  refine LD.val rfl rfl (ov_assign rfl) ?_
  refine LD.nil ?_
  refine QM.sub (e' := [(0, _), (2, _), (16, _)]) au9 (QM.then ?_)
  refine wpM.condT rfl ?_
  refine wpM.seq (wpM.region ?_)
  refine LM.mv rfl ?_
  refine LM.cW (oc_call (enters_fn Tryz.func81 (by kernel_rfl) rfl) rfl) (fun w hm hc hg => tfail_spec b (ad := ad) (n := n) (cap := cap) (needE ws i e 1 nm).1 (needE ws i e 1 nm).2 5 w (hm.pick _)) rfl (fun hlt => by first | exact rfl | exact absurd hlt (by omega)) ?_
  refine LM.nil (QM.sub (e' := []) trivial (QM.then (wpM.seq (wpM.region ?_))))
  refine LM.as rfl ?_
  refine LM.nil (QM.sub (e' := [(6, _)]) ⟨rfl, trivial⟩ (QM.then ?_))
  refine wpM.ret ?_
  refine QM.block_ret ?_
  refine QM.then_ret ?_
  refine QM.leave (.inl rfl) [.tmp 6] Tryz.results34 rfl ?_
  intro w' hm' hc' hg'
  have h9 := hm'.at b; rw [he0, if_pos rfl] at h9; unfold fldE; rw [he0, num_c (by decide) (.inl (by omega))]; exact ⟨rfl, hc', h9⟩
 refine LD.val rfl ⟨27, _, rfl, rfl, rfl⟩ (ov_move rfl) ?_
 refine LD.val rfl ⟨27, _, rfl, rfl, rfl⟩ (ov_nilCheck rfl) ?_
 refine LD.val rfl ⟨27, _, rfl, rfl, rfl⟩ (ov_field Tryz.underlying70 rfl Tryz.sizeOf23 rfl (k := 0) rfl rfl) ?_
 refine LD.rd rfl ⟨27, _, rfl, rfl, rfl⟩ (om_ld Tryz.isAgg23 rfl rfl) ?_
 refine LD.val rfl ⟨27, _, rfl, rfl, rfl⟩ (ov_move rfl) ?_
 refine LD.val rfl ⟨27, _, rfl, rfl, rfl⟩ (ov_nilCheck rfl) ?_
 refine LD.val rfl ⟨27, _, rfl, rfl, rfl⟩ (ov_field Tryz.underlying70 rfl Tryz.sizeOf3 rfl (k := 1) rfl rfl) ?_
 refine LD.rd rfl ⟨27, _, rfl, rfl, rfl⟩ (om_ld Tryz.isAgg3 rfl rfl) ?_
 refine LD.val rfl ⟨27, _, rfl, rfl, rfl⟩ (ov_idxSN au6 Tryz.underlying23 Tryz.sizeOf65 rfl rfl (by omega)) ?_
 refine LD.val rfl ⟨27, _, rfl, rfl, rfl⟩ (ov_field Tryz.underlying65 rfl Tryz.sizeOf3 rfl (k := 0) rfl rfl) ?_
 first | refine LD.rd rfl ⟨27, _, rfl, rfl, rfl⟩ (om_slE (j := 0) (by assumption) (by intro _; rfl) Tryz.isAgg3 rfl rfl au3 rfl (by rfl)) ?_ | refine LD.rdC rfl ⟨27, _, rfl, rfl, rfl⟩ (om_srE (j := 0) (by assumption) Tryz.isAgg3 rfl rfl au3 (by rfl) (by rfl) (by exact hab (by omega))) ?_ | refine LD.rd rfl ⟨27, _, rfl, rfl, rfl⟩ (om_ld Tryz.isAgg3 rfl rfl) ?_
 refine LD.val rfl ⟨27, _, rfl, rfl, rfl⟩ (ov_neq rfl rfl) ?_
 refine LD.val rfl rfl (ov_pickF rfl rfl) ?_
 refine LD.val rfl rfl (ov_assign rfl) ?_
 refine LD.nil ?_
 refine QM.sub (e' := [(0, _), (2, _), (16, _)]) au9 (QM.then ?_)
 refine wpM.condD rfl (fun h3 => ?_) (fun h3 => ?_)
 ·
  refine wpM.seq (wpM.region ?_)
  refine LM.mv rfl ?_
  refine LM.cW (oc_call (enters_fn Tryz.func81 (by kernel_rfl) rfl) rfl) (fun w hm hc hg => tfail_spec b (ad := ad) (n := n) (cap := cap) (needE ws i e 1 nm).1 (needE ws i e 1 nm).2 5 w (hm.pick _)) rfl (fun hlt => by first | exact rfl | exact absurd hlt (by omega)) ?_
  refine LM.nil (QM.sub (e' := []) trivial (QM.then (wpM.seq (wpM.region ?_))))
  refine LM.as rfl ?_
  refine LM.nil (QM.sub (e' := [(6, _)]) ⟨rfl, trivial⟩ (QM.then ?_))
  refine wpM.ret ?_
  refine QM.block_ret ?_
  refine QM.then_ret ?_
  refine QM.leave (.inl rfl) [.tmp 6] Tryz.results34 rfl ?_
  intro w' hm' hc' hg'
  have h9 := hm'.at b; rw [he0, if_pos rfl] at h9; unfold fldE; rw [he0, num_c (by decide) (.inr h3)]; exact ⟨rfl, hc', h9⟩
 refine wpM.seq ?_
 refine wpM.draw [(0, 0), (1, 0), (2, 0), (3, 1), (4, 0), (5, 0), (6, 0), (7, 1), (8, 0), (9, 0), (10, 1), (11, 0), (12, 0), (13, 0), (14, 0), (15, 0), (16, 1), (17, 0), (18, 0), (19, 0), (20, 1), (21, 0), (22, 0), (23, 1), (24, 0), (25, 0), (26, 0), (27, 0)] (by kernel_rfl) (by kernel_rfl) ?_
 refine LD.val rfl rfl (ov_move rfl) ?_
 refine LD.val rfl rfl (ov_nilCheck rfl) ?_
 refine LD.val rfl rfl (ov_field Tryz.underlying70 rfl Tryz.sizeOf23 rfl (k := 0) rfl rfl) ?_
 refine LD.rd rfl rfl (om_ld Tryz.isAgg23 rfl rfl) ?_
 refine LD.val rfl rfl (ov_move rfl) ?_
 refine LD.val rfl rfl (ov_nilCheck rfl) ?_
 refine LD.val rfl rfl (ov_field Tryz.underlying70 rfl Tryz.sizeOf3 rfl (k := 1) rfl rfl) ?_
 refine LD.rd rfl rfl (om_ld Tryz.isAgg3 rfl rfl) ?_
 refine LD.val rfl rfl (ov_idxSN au6 Tryz.underlying23 Tryz.sizeOf65 rfl rfl (by omega)) ?_
 refine LD.val rfl rfl (ov_field Tryz.underlying65 rfl Tryz.sizeOf3 rfl (k := 2) rfl rfl) ?_
 first | refine LD.rd rfl rfl (om_slE (j := 2) (by assumption) (by intro _; rfl) Tryz.isAgg3 rfl rfl au3 rfl (by rfl)) ?_ | refine LD.rdC rfl rfl (om_srE (j := 2) (by assumption) Tryz.isAgg3 rfl rfl au3 (by rfl) (by rfl) (by exact hab (by omega))) ?_ | refine LD.rd rfl rfl (om_ld Tryz.isAgg3 rfl rfl) ?_
 refine LD.val rfl rfl (ov_lss rfl rfl) ?_
 refine LD.val rfl rfl (ov_move rfl) ?_
 refine LD.splitD (t := 56) rfl (fun h4 => ?_) (fun h4 => ?_)
 ·
  refine LD.drop rfl rfl ⟨56, _, rfl, rfl, rfl⟩ ?_
  refine LD.drop rfl rfl ⟨56, _, rfl, rfl, rfl⟩ ?_
  refine LD.drop rfl rfl ⟨56, _, rfl, rfl, rfl⟩ ?_
  refine LD.drop rfl rfl ⟨56, _, rfl, rfl, rfl⟩ ?_
  refine LD.drop rfl rfl ⟨56, _, rfl, rfl, rfl⟩ ?_
  refine LD.drop rfl rfl ⟨56, _, rfl, rfl, rfl⟩ ?_
  refine LD.drop rfl rfl ⟨56, _, rfl, rfl, rfl⟩ ?_
  refine LD.drop rfl rfl ⟨56, _, rfl, rfl, rfl⟩ ?_
  refine LD.drop rfl rfl ⟨56, _, rfl, rfl, rfl⟩ ?_
  refine LD.drop rfl rfl ⟨56, _, rfl, rfl, rfl⟩ ?_
  refine LD.drop rfl rfl ⟨56, _, rfl, rfl, rfl⟩ ?_
  refine LD.drop rfl rfl ⟨56, _, rfl, rfl, rfl⟩ ?_
  refine LD.drop rfl rfl ⟨56, _, rfl, rfl, rfl⟩ ?_
  refine LD.val rfl rfl (ov_pickT rfl rfl) ?_
  refine LD.val rfl rfl (ov_assign rfl) ?_
  refine LD.nil ?_
  refine QM.sub (e' := [(0, _), (43, _)]) au9 (QM.then ?_)
  refine wpM.condT rfl ?_
  refine wpM.seq (wpM.region ?_)
  refine LM.mv rfl ?_
  refine LM.cW (oc_call (enters_fn Tryz.func81 (by kernel_rfl) rfl) rfl) (fun w hm hc hg => tfail_spec b (ad := ad) (n := n) (cap := cap) (needE ws i e 1 nm).1 (needE ws i e 1 nm).2 1 w (hm.pick _)) rfl (fun hlt => by first | exact rfl | exact absurd hlt (by omega)) ?_
  refine LM.nil (QM.sub (e' := []) trivial (QM.then (wpM.seq (wpM.region ?_))))
  refine LM.as rfl ?_
  refine LM.nil (QM.sub (e' := [(6, _)]) ⟨rfl, trivial⟩ (QM.then ?_))
  refine wpM.ret ?_
  refine QM.block_ret ?_
  refine QM.then_ret ?_
  refine QM.leave (.inl rfl) [.tmp 6] Tryz.results34 rfl ?_
  intro w' hm' hc' hg'
  have h9 := hm'.at b; rw [he0, if_pos rfl] at h9; unfold fldE; rw [he0, num_d (by decide) (by omega) (Classical.not_not.1 h3) (by unfold hasB; rw [if_neg (by decide), decide_eq_false (by omega)]; rfl)]; exact ⟨rfl, hc', h9⟩
 refine LD.val rfl ⟨56, _, rfl, rfl, rfl⟩ (ov_move rfl) ?_
 refine LD.val rfl ⟨56, _, rfl, rfl, rfl⟩ (ov_nilCheck rfl) ?_
 refine LD.val rfl ⟨56, _, rfl, rfl, rfl⟩ (ov_field Tryz.underlying70 rfl Tryz.sizeOf23 rfl (k := 0) rfl rfl) ?_
 refine LD.rd rfl ⟨56, _, rfl, rfl, rfl⟩ (om_ld Tryz.isAgg23 rfl rfl) ?_
 refine LD.val rfl ⟨56, _, rfl, rfl, rfl⟩ (ov_move rfl) ?_
 refine LD.val rfl ⟨56, _, rfl, rfl, rfl⟩ (ov_nilCheck rfl) ?_
 refine LD.val rfl ⟨56, _, rfl, rfl, rfl⟩ (ov_field Tryz.underlying70 rfl Tryz.sizeOf3 rfl (k := 1) rfl rfl) ?_
 refine LD.rd rfl ⟨56, _, rfl, rfl, rfl⟩ (om_ld Tryz.isAgg3 rfl rfl) ?_
 refine LD.val rfl ⟨56, _, rfl, rfl, rfl⟩ (ov_idxSN au6 Tryz.underlying23 Tryz.sizeOf65 rfl rfl (by omega)) ?_
 refine LD.val rfl ⟨56, _, rfl, rfl, rfl⟩ (ov_field Tryz.underlying65 rfl Tryz.sizeOf3 rfl (k := 2) rfl rfl) ?_
 first | refine LD.rd rfl ⟨56, _, rfl, rfl, rfl⟩ (om_slE (j := 2) (by assumption) (by intro _; rfl) Tryz.isAgg3 rfl rfl au3 rfl (by rfl)) ?_ | refine LD.rdC rfl ⟨56, _, rfl, rfl, rfl⟩ (om_srE (j := 2) (by assumption) Tryz.isAgg3 rfl rfl au3 (by rfl) (by rfl) (by exact hab (by omega))) ?_ | refine LD.rd rfl ⟨56, _, rfl, rfl, rfl⟩ (om_ld Tryz.isAgg3 rfl rfl) ?_
 refine LD.val rfl ⟨56, _, rfl, rfl, rfl⟩ (ov_move rfl) ?_
 refine LD.val rfl ⟨56, _, rfl, rfl, rfl⟩ (ov_gtr rfl rfl) ?_
 refine LD.val rfl rfl (ov_pickF rfl rfl) ?_
 refine LD.val rfl rfl (ov_assign rfl) ?_
 refine LD.nil ?_
 refine QM.sub (e' := [(0, _), (43, _)]) au9 (QM.then ?_)
 refine wpM.condD rfl (fun h5 => ?_) (fun h5 => ?_)
 ·
  refine wpM.seq (wpM.region ?_)
  refine LM.mv rfl ?_
  refine LM.cW (oc_call (enters_fn Tryz.func81 (by kernel_rfl) rfl) rfl) (fun w hm hc hg => tfail_spec b (ad := ad) (n := n) (cap := cap) (needE ws i e 1 nm).1 (needE ws i e 1 nm).2 1 w (hm.pick _)) rfl (fun hlt => by first | exact rfl | exact absurd hlt (by omega)) ?_
  refine LM.nil (QM.sub (e' := []) trivial (QM.then (wpM.seq (wpM.region ?_))))
  refine LM.as rfl ?_
  refine LM.nil (QM.sub (e' := [(6, _)]) ⟨rfl, trivial⟩ (QM.then ?_))
  refine wpM.ret ?_
  refine QM.block_ret ?_
  refine QM.then_ret ?_
  refine QM.leave (.inl rfl) [.tmp 6] Tryz.results34 rfl ?_
  intro w' hm' hc' hg'
  have h9 := hm'.at b; rw [he0, if_pos rfl] at h9; unfold fldE; rw [he0, num_d (by decide) (by omega) (Classical.not_not.1 h3) (by unfold hasB; rw [if_neg (by decide), decide_eq_true (by omega), decide_eq_false (by omega)]; rfl)]; exact ⟨rfl, hc', h9⟩
 refine wpM.skip ?_
 refine QM.block_normal ?_
 refine QM.then (wpM.seq (wpM.region ?_))
 refine LM.mv rfl ?_
 refine LM.val (ov_nilCheck rfl) ?_
 refine LM.val (ov_field Tryz.underlying70 rfl Tryz.sizeOf3 rfl (k := 1) rfl rfl) ?_
 refine LM.rd (om_ld Tryz.isAgg3 rfl rfl) ?_
 refine LM.val (ov_add64 rfl rfl (by omega)) ?_
 refine LM.val (ov_nilCheck rfl) ?_
 refine LM.val (ov_field Tryz.underlying70 rfl Tryz.sizeOf3 rfl (k := 1) rfl rfl) ?_
 refine LM.st Tryz.sizeOf3 rfl rfl rfl au5 rfl (fun hlt => by first | exact rfl | exact absurd hlt (by omega)) ?_
 refine LM.nil (QM.sub (e' := [(0, _)]) ⟨rfl, trivial⟩ (QM.then ?_))
 refine wpM.seq ?_
 refine wpM.draw [(0, 0), (1, 0), (2, 0), (3, 1), (4, 0), (5, 0), (6, 0), (7, 1), (8, 0), (9, 0), (10, 0), (11, 1), (12, 0)] (by kernel_rfl) (by kernel_rfl) ?_
 refine LD.val rfl rfl (ov_move rfl) ?_
 refine LD.val rfl rfl (ov_nilCheck rfl) ?_
 refine LD.val rfl rfl (ov_field Tryz.underlying70 rfl Tryz.sizeOf23 rfl (k := 0) rfl rfl) ?_
 refine LD.rd rfl rfl (om_ld Tryz.isAgg23 rfl rfl) ?_
 refine LD.val rfl rfl (ov_move rfl) ?_
 refine LD.val rfl rfl (ov_nilCheck rfl) ?_
 refine LD.val rfl rfl (ov_field Tryz.underlying70 rfl Tryz.sizeOf3 rfl (k := 1) rfl rfl) ?_
 refine LD.rd rfl rfl (om_ld Tryz.isAgg3 rfl rfl) ?_
 refine LD.val rfl rfl (ov_sub64 rfl rfl (by omega)) ?_
 first | refine LD.val rfl rfl (ov_idxSN au6 Tryz.underlying23 Tryz.sizeOf65 rfl rfl (by omega)) ?_ | refine LD.val rfl rfl (ov_idxS au6 Tryz.underlying23 Tryz.sizeOf65 rfl rfl (by omega)) ?_ | refine LD.val rfl rfl (ov_idx Tryz.underlying23 Tryz.sizeOf65 rfl rfl (by omega)) ?_
 refine LD.val rfl rfl (ov_field Tryz.underlying65 rfl Tryz.sizeOf3 rfl (k := 2) rfl rfl) ?_
 first | refine LD.rd rfl rfl (om_slE (j := 2) (by assumption) (by intro _; rfl) Tryz.isAgg3 rfl rfl au3 rfl (by rfl)) ?_ | refine LD.rdC rfl rfl (om_srE (j := 2) (by assumption) Tryz.isAgg3 rfl rfl au3 (by rfl) (by rfl) (by exact hab (by omega))) ?_ | refine LD.rd rfl rfl (om_ld Tryz.isAgg3 rfl rfl) ?_
 refine LD.val rfl rfl (ov_assign rfl) ?_
 refine LD.nil ?_
 refine QM.sub (e' := [(6, _)]) ⟨rfl, trivial⟩ (QM.then ?_)
 refine wpM.ret ?_
 refine QM.leave (.inl rfl) [.tmp 6] Tryz.results34 rfl ?_
 intro w' hm' hc' hg'
 have h9 := hm'.at b; rw [he0] at h9; unfold fldE; rw [he0, num_e (by decide) (by omega) (Classical.not_not.1 h3) (by unfold hasB; rw [if_neg (by decide), decide_eq_true (by omega), decide_eq_true (by omega)]; rfl), show (((needE ws i e 1 nm).1 : Int) + 1 - 1).toNat = (needE ws i e 1 nm).1 by omega]; exact ⟨rfl, hc', h9⟩
set_option maxRecDepth 100000 in
theorem troom_spec {ws : List Wrd} (b : Nat) {ad : Option Addr} {n cap : Nat} (i : Nat) (e k most : Int) (w : World) (hM : Mem w [tB b ad n cap i e]) : Ret Tryz.prog 83 #[.pointer (some ⟨b, 0, none⟩), .int .i64 k, .int .i64 most] w (WrP b (.bool (decide (e = 0) && !decide (most ≤ k))) (tO ad n cap i (if e = 0 ∧ most ≤ k then 6 else e)) w) := by
 refine Ret.enterM (l := [.pointer (some ⟨b, 0, none⟩), .int .i64 k, .int .i64 most]) Tryz.func83 rfl Tryz.ntmps83 rfl ([tB b ad n cap i e]) ((fun x => x = b)) hM ?_
 refine wpM.seq (wpM.region ?_)
 refine LM.as rfl ?_
 refine LM.nil (QM.sub (e' := [(0, _), (1, _), (2, _)]) au9 (QM.then ?_))
 refine wpM.seq ?_
 refine wpM.seq (wpM.region ?_)
 refine LM.mv rfl (LM.mv rfl ?_)
 refine LM.val (ov_geq rfl rfl) ?_
 refine LM.nil (QM.sub (e' := [(0, _), (9, _)]) au9 (QM.then ?_))
 refine wpM.condD rfl (fun h1 => ?_) (fun h1 => ?_)
 ·
  refine wpM.region ?_
  refine LM.mv rfl ?_
  refine LM.cW (oc_call (enters_fn Tryz.func81 (by kernel_rfl) rfl) rfl) (fun w hm hc hg => tfail_spec b (ad := ad) (n := n) (cap := cap) i e 6 w (hm.pick _)) rfl (fun _ => rfl) ?_
  refine LM.nil (QM.sub (e' := [(0, _)]) ⟨rfl, trivial⟩ (QM.then (wpM.seq (wpM.region ?_))))
  refine LM.mv rfl ?_
  refine LM.val (ov_nilCheck rfl) ?_
  refine LM.val (ov_field Tryz.underlying70 rfl Tryz.sizeOf31 rfl (k := 2) rfl rfl) ?_
  refine LM.rd (om_ld Tryz.isAgg31 rfl rfl) ?_
  refine LM.val (ov_eql rfl rfl) ?_
  refine LM.as rfl ?_
  refine LM.nil (QM.sub (e' := [(6, _)]) ⟨rfl, trivial⟩ (QM.then ?_))
  refine wpM.ret ?_
  refine QM.leave (.inl rfl) [.tmp 6] Tryz.results83 rfl ?_
  intro w' hm' hc' hg'
  have h9 := hm'.at b; have h1' : most ≤ k := h1; refine ⟨?_, hc', ?_⟩; (rw [decide_eq_true h1']; by_cases h0 : e = 0 <;> simp [resV, h0]); (by_cases h0 : e = 0; (rw [if_pos h0] at h9; rw [if_pos ⟨h0, h1'⟩]; exact h9); (rw [if_neg h0] at h9; rw [if_neg (fun q => h0 q.1)]; exact h9))
 refine wpM.skip ?_
 refine QM.then (wpM.seq (wpM.region ?_))
 refine LM.mv rfl ?_
 refine LM.val (ov_nilCheck rfl) ?_
 refine LM.val (ov_field Tryz.underlying70 rfl Tryz.sizeOf31 rfl (k := 2) rfl rfl) ?_
 refine LM.rd (om_ld Tryz.isAgg31 rfl rfl) ?_
 refine LM.val (ov_eql rfl rfl) ?_
 refine LM.as rfl ?_
 refine LM.nil (QM.sub (e' := [(6, _)]) ⟨rfl, trivial⟩ (QM.then ?_))
 refine wpM.ret ?_
 refine QM.leave (.inl rfl) [.tmp 6] Tryz.results83 rfl ?_
 intro w' hm' hc' hg'
 have h9 := hm'.at b; have h1' : ¬ most ≤ k := h1; refine ⟨?_, hc', ?_⟩; (rw [decide_eq_false h1', Bool.not_false, Bool.and_true]; rfl); (rw [if_neg (fun q => h1' q.2)]; exact h9)
set_option maxRecDepth 100000 in
set_option maxHeartbeats 1000000 in
theorem tlockT_spec {ws : List Wrd} (b : Nat) {ad : Option Addr} {n cap : Nat} (i : Nat) (e : Int) (w : World) (hn : n = ws.length) (hx : ws.length ≤ 1000000000) (hl : Sr fW 4 ws (.slice ad n cap) w) (hab : 0 < ws.length → adB ad ≠ b) (hM : Mem w [tB b ad n cap i e]) (hi : i < ws.length) (hsh : isE ws i e 1 wShared = true) : Ret Tryz.prog 84 #[.pointer (some ⟨b, 0, none⟩)] w (WrP b (.agg (fL (lckE ws true (i + 1) e).2.2).toArray) (tO ad n cap (lckE ws true (i + 1) e).1 (lckE ws true (i + 1) e).2.1) w) := by
 refine Ret.enterM (l := [.pointer (some ⟨b, 0, none⟩)]) Tryz.func84 rfl Tryz.ntmps84 rfl ([tB b ad n cap i e]) ((fun x => x = b)) hM ?_
 refine wpM.seq (wpM.region ?_)
 refine LM.alloc Tryz.zeroValue63 rfl (fun b2 hb2 => ?_)
 refine LM.nil (QM.sub (e' := [(0, _), (2, _)]) au9 (QM.then (wpM.seq (wpM.region ?_))))
 refine LM.mv rfl ?_
 refine LM.callE (oc_call (enters_fn Tryz.func82 (by kernel_rfl) rfl) rfl) (fun w hm hc hg => tis_spec b i e wShared w hn (hl.kp hc hab) (SubM.mem au1 w hm)) ?_
 rw [hsh]
 refine LM.val (ov_build (cs := #[_, _, _, _, _]) rfl (by first | rfl | kernel_rfl)) ?_
 refine LM.alloc Tryz.zeroValue63 rfl (fun b3 hb3 => ?_)
 refine LM.stW Tryz.sizeOf63 rfl rfl rfl rfl au7 (fun hlt => by first | exact rfl | exact absurd hlt (by omega)) ?_
 refine LM.nil (QM.sub (e' := [(0, _), (2, _), (3, _)]) au9 (QM.then (wpM.seq (wpM.region ?_))))
 refine LM.mv rfl ?_
 refine LM.val (ov_nilCheck rfl) ?_
 refine LM.val (ov_field Tryz.underlying70 rfl Tryz.sizeOf3 rfl (k := 1) rfl rfl) ?_
 refine LM.rd (om_ld Tryz.isAgg3 rfl rfl) ?_
 refine LM.val (ov_add64 rfl rfl (by omega)) ?_
 refine LM.val (ov_nilCheck rfl) ?_
 refine LM.val (ov_field Tryz.underlying70 rfl Tryz.sizeOf3 rfl (k := 1) rfl rfl) ?_
 refine LM.st Tryz.sizeOf3 rfl rfl rfl au5 rfl (fun hlt => by first | exact rfl | exact absurd hlt (by omega)) ?_
 refine LM.nil (QM.sub (e' := [(0, _), (2, _), (3, _)]) au9 (QM.then (wpM.seq (wpM.region ?_))))
 refine LM.mv rfl ?_
 refine LM.cW (oc_call (enters_fn Tryz.func34 (by kernel_rfl) rfl) rfl) (fun w hm hc hg => tfield_spec b (i + 1) e 16 wSlice w hn hx (hl.kp hc hab) hab (SubM.mem au1 w hm)) rfl (fun hlt => by first | exact rfl | exact absurd hlt (by omega)) ?_
 refine LM.val (ov_field Tryz.underlying63 rfl Tryz.sizeOf3 rfl (k := 1) rfl rfl) ?_
 refine LM.st Tryz.sizeOf3 rfl rfl rfl au5 rfl (fun hlt => by first | exact rfl | exact absurd hlt (by omega)) ?_
 refine LM.nil (QM.sub (e' := [(0, _), (2, _), (3, _)]) au9 (QM.then (wpM.seq (wpM.region ?_))))
 refine LM.mv rfl ?_
 refine LM.cW (oc_call (enters_fn Tryz.func34 (by kernel_rfl) rfl) rfl) (fun w hm hc hg => tfield_spec b (lkA ws (i + 1) e).1 (lkA ws (i + 1) e).2.1 32 wCrit w hn hx (hl.kp hc hab) hab (SubM.mem au1 w hm)) rfl (fun hlt => by first | exact rfl | exact absurd hlt (by omega)) ?_
 refine LM.val (ov_field Tryz.underlying63 rfl Tryz.sizeOf3 rfl (k := 2) rfl rfl) ?_
 refine LM.st Tryz.sizeOf3 rfl rfl rfl au5 rfl (fun hlt => by first | exact rfl | exact absurd hlt (by omega)) ?_
 refine LM.nil (QM.sub (e' := [(0, _), (2, _), (3, _)]) au9 (QM.then ?_))
 refine wpM.seq ?_
 refine wpM.seq (wpM.region ?_)
 refine LM.val (ov_field Tryz.underlying63 rfl Tryz.sizeOf4 rfl (k := 0) rfl rfl) ?_
 refine LM.rd (om_ld Tryz.isAgg4 rfl rfl) ?_
 refine LM.nil (QM.sub (e' := [(0, _), (2, _), (3, _), (21, _)]) au9 (QM.then ?_))
 first | refine wpM.condD rfl (fun h1 => ?_) (fun h1 => ?_) | refine wpM.condB rfl (fun h1 => ?_) (fun h1 => ?_)
 ·
  refine wpM.seq (wpM.region ?_)
  refine LM.mv rfl ?_
  refine LM.cW (oc_call (enters_fn Tryz.func34 (by kernel_rfl) rfl) rfl) (fun w hm hc hg => tfield_spec b (lkB ws (i + 1) e).1 (lkB ws (i + 1) e).2.1 16 wRead w hn hx (hl.kp hc hab) hab (SubM.mem au1 w hm)) rfl (fun hlt => by first | exact rfl | exact absurd hlt (by omega)) ?_
  refine LM.val (ov_field Tryz.underlying63 rfl Tryz.sizeOf3 rfl (k := 3) rfl rfl) ?_
  refine LM.st Tryz.sizeOf3 rfl rfl rfl au5 rfl (fun hlt => by first | exact rfl | exact absurd hlt (by omega)) ?_
  refine LM.nil (QM.sub (e' := [(0, _), (2, _), (3, _)]) au9 (QM.then (wpM.region ?_)))
  refine LM.mv rfl ?_
  refine LM.cW (oc_call (enters_fn Tryz.func34 (by kernel_rfl) rfl) rfl) (fun w hm hc hg => tfield_spec b (lkC ws true (i + 1) e).1 (lkC ws true (i + 1) e).2.1 16 wWrite w hn hx (hl.kp hc hab) hab (SubM.mem au1 w hm)) rfl (fun hlt => by first | exact rfl | exact absurd hlt (by omega)) ?_
  refine LM.val (ov_field Tryz.underlying63 rfl Tryz.sizeOf3 rfl (k := 4) rfl rfl) ?_
  refine LM.st Tryz.sizeOf3 rfl rfl rfl au5 rfl (fun hlt => by first | exact rfl | exact absurd hlt (by omega)) ?_
  refine LM.nil (QM.sub (e' := [(0, _), (2, _), (3, _)]) au9 (QM.then (wpM.seq (wpM.region ?_))))
  refine LM.mv rfl ?_
  refine LM.cW (oc_call (enters_fn Tryz.func35 (by kernel_rfl) rfl) rfl) (fun w hm hc hg => tend_spec b (lkD ws true (i + 1) e).1 (lkD ws true (i + 1) e).2.1 w hn hx (hl.kp hc hab) hab (SubM.mem au1 w hm)) rfl (fun hlt => by first | exact rfl | exact absurd hlt (by omega)) ?_
  refine LM.nil (QM.sub (e' := [(2, _), (3, _)]) au9 (QM.then (wpM.seq (wpM.region ?_))))
  refine LM.rd (om_ldW Tryz.isAgg63 Tryz.sizeOf63 rfl rfl) ?_
  refine LM.stW Tryz.sizeOf63 rfl rfl rfl rfl au7 (fun hlt => by first | exact rfl | exact absurd hlt (by omega)) ?_
  refine LM.nil (QM.sub (e' := [(2, _)]) ⟨rfl, trivial⟩ (QM.then ?_))
  refine wpM.ret ?_
  refine QM.leaveCs (ds := ([])) (.inl rfl) [.cell 2 63] Tryz.results84 hd_nil (rc_w rfl Tryz.isAgg63 Tryz.sizeOf63 rfl rc_nil) ?_
  intro w' hm' hc'
  exact ⟨rfl, hc', hm'.at b⟩
 cases h1
set_option maxRecDepth 100000 in
set_option maxHeartbeats 1000000 in
theorem tlockF_spec {ws : List Wrd} (b : Nat) {ad : Option Addr} {n cap : Nat} (i : Nat) (e : Int) (w : World) (hn : n = ws.length) (hx : ws.length ≤ 1000000000) (hl : Sr fW 4 ws (.slice ad n cap) w) (hab : 0 < ws.length → adB ad ≠ b) (hM : Mem w [tB b ad n cap i e]) (hi : i < ws.length) (hsh : isE ws i e 1 wShared = false) : Ret Tryz.prog 84 #[.pointer (some ⟨b, 0, none⟩)] w (WrP b (.agg (fL (lckE ws false (i + 1) e).2.2).toArray) (tO ad n cap (lckE ws false (i + 1) e).1 (lckE ws false (i + 1) e).2.1) w) := by
 refine Ret.enterM (l := [.pointer (some ⟨b, 0, none⟩)]) Tryz.func84 rfl Tryz.ntmps84 rfl ([tB b ad n cap i e]) ((fun x => x = b)) hM ?_
 refine wpM.seq (wpM.region ?_)
 refine LM.alloc Tryz.zeroValue63 rfl (fun b2 hb2 => ?_)
 refine LM.nil (QM.sub (e' := [(0, _), (2, _)]) au9 (QM.then (wpM.seq (wpM.region ?_))))
 refine LM.mv rfl ?_
 refine LM.callE (oc_call (enters_fn Tryz.func82 (by kernel_rfl) rfl) rfl) (fun w hm hc hg => tis_spec b i e wShared w hn (hl.kp hc hab) (SubM.mem au1 w hm)) ?_
 rw [hsh]
 refine LM.val (ov_build (cs := #[_, _, _, _, _]) rfl (by first | rfl | kernel_rfl)) ?_
 refine LM.alloc Tryz.zeroValue63 rfl (fun b3 hb3 => ?_)
 refine LM.stW Tryz.sizeOf63 rfl rfl rfl rfl au7 (fun hlt => by first | exact rfl | exact absurd hlt (by omega)) ?_
 refine LM.nil (QM.sub (e' := [(0, _), (2, _), (3, _)]) au9 (QM.then (wpM.seq (wpM.region ?_))))
 refine LM.mv rfl ?_
 refine LM.val (ov_nilCheck rfl) ?_
 refine LM.val (ov_field Tryz.underlying70 rfl Tryz.sizeOf3 rfl (k := 1) rfl rfl) ?_
 refine LM.rd (om_ld Tryz.isAgg3 rfl rfl) ?_
 refine LM.val (ov_add64 rfl rfl (by omega)) ?_
 refine LM.val (ov_nilCheck rfl) ?_
 refine LM.val (ov_field Tryz.underlying70 rfl Tryz.sizeOf3 rfl (k := 1) rfl rfl) ?_
 refine LM.st Tryz.sizeOf3 rfl rfl rfl au5 rfl (fun hlt => by first | exact rfl | exact absurd hlt (by omega)) ?_
 refine LM.nil (QM.sub (e' := [(0, _), (2, _), (3, _)]) au9 (QM.then (wpM.seq (wpM.region ?_))))
 refine LM.mv rfl ?_
 refine LM.cW (oc_call (enters_fn Tryz.func34 (by kernel_rfl) rfl) rfl) (fun w hm hc hg => tfield_spec b (i + 1) e 16 wSlice w hn hx (hl.kp hc hab) hab (SubM.mem au1 w hm)) rfl (fun hlt => by first | exact rfl | exact absurd hlt (by omega)) ?_
 refine LM.val (ov_field Tryz.underlying63 rfl Tryz.sizeOf3 rfl (k := 1) rfl rfl) ?_
 refine LM.st Tryz.sizeOf3 rfl rfl rfl au5 rfl (fun hlt => by first | exact rfl | exact absurd hlt (by omega)) ?_
 refine LM.nil (QM.sub (e' := [(0, _), (2, _), (3, _)]) au9 (QM.then (wpM.seq (wpM.region ?_))))
 refine LM.mv rfl ?_
 refine LM.cW (oc_call (enters_fn Tryz.func34 (by kernel_rfl) rfl) rfl) (fun w hm hc hg => tfield_spec b (lkA ws (i + 1) e).1 (lkA ws (i + 1) e).2.1 32 wCrit w hn hx (hl.kp hc hab) hab (SubM.mem au1 w hm)) rfl (fun hlt => by first | exact rfl | exact absurd hlt (by omega)) ?_
 refine LM.val (ov_field Tryz.underlying63 rfl Tryz.sizeOf3 rfl (k := 2) rfl rfl) ?_
 refine LM.st Tryz.sizeOf3 rfl rfl rfl au5 rfl (fun hlt => by first | exact rfl | exact absurd hlt (by omega)) ?_
 refine LM.nil (QM.sub (e' := [(0, _), (2, _), (3, _)]) au9 (QM.then ?_))
 refine wpM.seq ?_
 refine wpM.seq (wpM.region ?_)
 refine LM.val (ov_field Tryz.underlying63 rfl Tryz.sizeOf4 rfl (k := 0) rfl rfl) ?_
 refine LM.rd (om_ld Tryz.isAgg4 rfl rfl) ?_
 refine LM.nil (QM.sub (e' := [(0, _), (2, _), (3, _), (21, _)]) au9 (QM.then ?_))
 first | refine wpM.condD rfl (fun h1 => ?_) (fun h1 => ?_) | refine wpM.condB rfl (fun h1 => ?_) (fun h1 => ?_)
 ·
  cases h1
 refine wpM.skip ?_
 refine QM.then (wpM.seq (wpM.region ?_))
 refine LM.mv rfl ?_
 refine LM.cW (oc_call (enters_fn Tryz.func35 (by kernel_rfl) rfl) rfl) (fun w hm hc hg => tend_spec b (lkD ws false (i + 1) e).1 (lkD ws false (i + 1) e).2.1 w hn hx (hl.kp hc hab) hab (SubM.mem au1 w hm)) rfl (fun hlt => by first | exact rfl | exact absurd hlt (by omega)) ?_
 refine LM.nil (QM.sub (e' := [(2, _), (3, _)]) au9 (QM.then (wpM.seq (wpM.region ?_))))
 refine LM.rd (om_ldW Tryz.isAgg63 Tryz.sizeOf63 rfl rfl) ?_
 refine LM.stW Tryz.sizeOf63 rfl rfl rfl rfl au7 (fun hlt => by first | exact rfl | exact absurd hlt (by omega)) ?_
 refine LM.nil (QM.sub (e' := [(2, _)]) ⟨rfl, trivial⟩ (QM.then ?_))
 refine wpM.ret ?_
 refine QM.leaveCs (ds := ([])) (.inl rfl) [.cell 2 63] Tryz.results84 hd_nil (rc_w rfl Tryz.isAgg63 Tryz.sizeOf63 rfl rc_nil) ?_
 intro w' hm' hc'
 exact ⟨rfl, hc', hm'.at b⟩
theorem tlock_spec {ws : List Wrd} (b : Nat) {ad : Option Addr} {n cap : Nat} (i : Nat) (e : Int) (w : World) (hn : n = ws.length) (hx : ws.length ≤ 1000000000) (hl : Sr fW 4 ws (.slice ad n cap) w) (hab : 0 < ws.length → adB ad ≠ b) (hM : Mem w [tB b ad n cap i e]) (hi : i < ws.length) :
    Ret Tryz.prog 84 #[.pointer (some ⟨b, 0, none⟩)] w (WrP b (.agg (fL (lckE ws (isE ws i e 1 wShared) (i + 1) e).2.2).toArray) (tO ad n cap (lckE ws (isE ws i e 1 wShared) (i + 1) e).1 (lckE ws (isE ws i e 1 wShared) (i + 1) e).2.1) w) := by
  cases hq : isE ws i e 1 wShared
  · exact tlockF_spec b i e w hn hx hl hab hM hi hq
  · exact tlockT_spec b i e w hn hx hl hab hM hi hq
theorem room_t {e m : Int} {n : Nat} (he : e = 0) : ((decide (e = 0) && !decide (m ≤ (n : Int))) = true → (n : Int) < m ∧ (if e = 0 ∧ m ≤ (n : Int) then 6 else e) = e) ∧ ((decide (e = 0) && !decide (m ≤ (n : Int))) = false → m ≤ (n : Int) ∧ (if e = 0 ∧ m ≤ (n : Int) then 6 else e) = 6) := by
  by_cases h : m ≤ (n : Int)
  · rw [decide_eq_true he, decide_eq_true h, if_pos ⟨he, h⟩]; exact ⟨fun q => (by cases q), fun _ => ⟨h, rfl⟩⟩
  · rw [decide_eq_true he, decide_eq_false h, if_neg (fun q => h q.2)]; exact ⟨fun _ => ⟨by omega, rfl⟩, fun q => (by cases q)⟩
theorem gpF_le {ws : List Wrd} : ∀ (f i : Nat) (e : Int) (gs : List Int), i ≤ ws.length → (gpF ws f i e gs).2.1 ≤ ws.length
  | 0, i, e, gs, h => by unfold gpF; split <;> exact h
  | f + 1, i, e, gs, h => by
    unfold gpF; split
    · exact gpF_le f _ _ _ (lin_le h)
    · exact h
theorem lkF_le {ws : List Wrd} : ∀ (f i : Nat) (e : Int) (ls : List CLk), i ≤ ws.length → (lkF ws f i e ls).2.1 ≤ ws.length
  | 0, i, e, ls, h => by unfold lkF; split <;> exact h
  | f + 1, i, e, ls, h => by
    unfold lkF; split
    · rename_i q; exact lkF_le f _ _ _ (lck_le (isL_lt q).1)
    · exact h
set_option maxRecDepth 100000 in
set_option maxHeartbeats 1000000 in
theorem tgroups_spec {ws : List Wrd} (b : Nat) {ad : Option Addr} {n cap : Nat} (i : Nat) (e : Int) (w : World) (hn : n = ws.length) (hx : ws.length ≤ 1000000000) (hl : Sr fW 4 ws (.slice ad n cap) w) (hab : 0 < ws.length → adB ad ≠ b) (hM : Mem w [tB b ad n cap i e]) : Ret Tryz.prog 36 #[.pointer (some ⟨b, 0, none⟩)] w (WrN b (tO ad n cap (gpO ws i e).2.1 (gpO ws i e).2.2) (GpT (gpO ws i e)) w) := by
 refine Ret.enterM (l := [.pointer (some ⟨b, 0, none⟩)]) Tryz.func36 rfl Tryz.ntmps36 rfl ([tB b ad n cap i e]) ((fun x => x = b)) hM ?_
 refine wpM.seq (wpM.region ?_)
 refine LM.as rfl ?_
 refine LM.nil (QM.sub (e' := [(0, _)]) ⟨rfl, trivial⟩ (QM.then (wpM.seq (wpM.region ?_))))
 refine LM.mv rfl ?_
 refine LM.cW (oc_call (enters_fn Tryz.func34 (by kernel_rfl) rfl) rfl) (fun w hm hc hg => tfield_spec b i e 16 wGroup w hn hx (hl.kp hc hab) hab (SubM.mem au1 w hm)) rfl (fun hlt => by first | exact rfl | exact absurd hlt (by omega)) ?_
 refine LM.single Tryz.underlying26 Tryz.sizeOf3 Tryz.zeroValue3 rfl rfl rfl rfl rfl (fun b6 hb6 => ?_)
 refine LM.as rfl ?_
 refine LM.nil (QM.sub (e' := [(0, _), (3, _)]) au9 (QM.then (wpM.seq (wpM.region ?_))))
 change LM _ _ _ _ _ _ _ _ ((b6, Obj.cells (arr fI [(fldE ws i e wGroup 16).2.2] []) 3 (0, 0)) :: _) _ _ _; have hs6 : Sl fI 3 1 w.heap.size [(fldE ws i e wGroup 16).2.2] (.slice (some ⟨b6, 0, none⟩) 1 1) [(b6, .cells (arr fI [(fldE ws i e wGroup 16).2.2] []) 3 (0, 0))] := .inr ⟨b6, 1, [], hb6, rfl, rfl, Nat.le_refl _, by unfold maxLen; decide, rfl⟩
 refine LM.mv rfl ?_
 refine LM.cW (oc_call (enters_fn Tryz.func35 (by kernel_rfl) rfl) rfl) (fun w hm hc hg => tend_spec b (fldE ws i e wGroup 16).1 (fldE ws i e wGroup 16).2.1 w hn hx (hl.kp hc hab) hab (SubM.mem au1 w hm)) rfl (fun hlt => by first | exact rfl | exact absurd hlt (by omega)) ?_
 refine LM.nil (QM.sub (e' := [(0, _), (3, _)]) au9 (QM.then ?_))
 refine wpM.seq ?_
 refine wpM.block ?_
 refine wpM.loopK0 (α := Nat × Int × List Int × Option Addr × Nat × Nat × Mem0) (fun ⟨j, x, gs, adg, ng, cg, mg⟩ => [(3, .slice adg ng cg)]) [(0, _)] (fun ⟨j, x, gs, adg, ng, cg, mg⟩ => mg ++ (tB b ad n cap j x :: [])) (fun ⟨j, x, gs, adg, ng, cg, mg⟩ => gpL ws j x gs = gpO ws i e ∧ 1 ≤ gs.length ∧ gs.length ≤ 4 ∧ ng = gs.length ∧ Sl fI 3 1 w.heap.size gs (.slice adg ng cg) mg) (fun ⟨j, x, gs, adg, ng, cg, mg⟩ => 5 - gs.length) (((linE ws i e wGroup 16).1, (linE ws i e wGroup 16).2.1, [(linE ws i e wGroup 16).2.2], some ⟨b6, 0, none⟩, 1, 1, [(b6, .cells (arr fI [(fldE ws i e wGroup 16).2.2] []) 3 (0, 0))])) ⟨au2, rfl, trivial⟩ au1 ⟨rfl, by simp, by simp, rfl, hs6⟩ ?_
 rintro ⟨j, x, gs, adg, ng, cg, mg⟩ ⟨hG, hg1, hg4, hng, hsg⟩
 change wpM _ _ _ _ _ _ _ (mg ++ (tB b ad n cap j x :: [])) _ _ _
 refine wpM.seq ?_
 refine wpM.seq ?_
 refine wpM.joinK (α := Bool × Int) (fun ⟨q, y⟩ => [(16, .bool q)]) [(0, _), (3, _)] (fun ⟨q, y⟩ => mg ++ (tB b ad n cap j y :: [])) (fun ⟨q, y⟩ => (q = true → isE ws j x 1 wGroup = true ∧ ng < 4 ∧ x = y) ∧ (q = false → gpL ws j x gs = (gs, j, y))) ⟨rfl, rfl, trivial⟩ ?_ ?_
 ·
  refine wpM.region ?_
  refine LM.mv rfl ?_
  refine LM.callE (oc_call (enters_fn Tryz.func82 (by kernel_rfl) rfl) rfl) (fun w hm hc hg => tis_spec b j x wGroup w hn (hl.kp hc hab) (SubM.mem au1 w hm)) ?_
  refine LM.mv rfl ?_
  first | refine LM.splitD (t := 11) rfl (fun h1 => ?_) (fun h1 => ?_) | refine LM.splitB (t := 11) rfl (fun h1 => ?_) (fun h1 => ?_)
  ·
   refine LM.sp 11 rfl rfl rfl (LM.mv rfl (LM.sp 11 rfl rfl rfl (LM.mv rfl (LM.sp 11 rfl rfl rfl ?_))))
   refine LM.val (ov_len Tryz.underlying26 rfl) ?_
   refine LM.sp 11 rfl rfl rfl ?_
   refine LM.cW (oc_call (enters_fn Tryz.func83 (by kernel_rfl) rfl) rfl) (fun w hm hc hg => troom_spec (ws := ws) b j x (ng : Nat) 4 w (SubM.mem au1 w hm)) rfl (fun hlt => by first | exact rfl | exact absurd hlt (by omega)) ?_
   refine LM.val (ov_pickT rfl rfl) ?_
   refine LM.nil (QM.sub (e' := [(0, _), (3, _), (16, _)]) au9 ?_)
   refine QM.meetK ((decide (x = 0) && !decide ((4 : Int) ≤ (ng : Nat)), (if x = 0 ∧ (4 : Int) ≤ (ng : Nat) then 6 else x))) ⟨au2, rfl, rfl, trivial⟩ au1 ?_
   · have hr := room_t (m := 4) (n := ng) (isE_lt h1).2; exact ⟨fun q => ⟨h1, by have := (hr.1 q).1; omega, (hr.1 q).2.symm⟩, fun q => by rw [(hr.2 q).2]; exact gpL_full h1 (by have := (hr.2 q).1; omega)⟩
  refine LM.dr 11 rfl rfl rfl (LM.dr 11 rfl rfl rfl (LM.dr 11 rfl rfl rfl (LM.dr 11 rfl rfl rfl ?_)))
  refine LM.val (ov_pickF rfl rfl) ?_
  refine LM.nil (QM.sub (e' := [(0, _), (3, _), (16, _)]) au9 ?_)
  refine QM.meetK ((false, x)) ⟨au2, rfl, rfl, trivial⟩ au1 ?_
  · exact ⟨fun q => (by cases q), fun _ => gpL_stop h1⟩
 rintro ⟨q, y⟩ ⟨hq1, hq2⟩
 change QM _ _ _ _ _ (mg ++ (tB b ad n cap j y :: [])) _ _ _
 refine QM.then ?_
 first | refine wpM.condD rfl (fun h2 => ?_) (fun h2 => ?_) | refine wpM.condB rfl (fun h2 => ?_) (fun h2 => ?_)
 ·
  obtain ⟨hQ, hlt4, rfl⟩ := hq1 h2
  refine wpM.skip ?_
  refine QM.then ?_
  refine wpM.block ?_
  refine wpM.seq (wpM.region ?_)
  refine LM.mv rfl (LM.mv rfl ?_)
  refine LM.cW (oc_call (enters_fn Tryz.func34 (by kernel_rfl) rfl) rfl) (fun w hm hc hg => tfield_spec b j x 16 wGroup w hn hx (hl.kp hc hab) hab (SubM.mem au1 w hm)) rfl (fun hlt => by first | exact rfl | exact absurd hlt (by omega)) ?_
  refine LM.single Tryz.underlying26 Tryz.sizeOf3 Tryz.zeroValue3 rfl rfl rfl rfl rfl (fun b20 hb20 => ?_)
  refine LM.app (a := (fldE ws j x wGroup 16).2.2) Tryz.underlying26 Tryz.typeInfo3 rfl rfl rfl rfl rfl rfl rfl (by assumption) (by rfl) (by intro _; rfl) (by intro _ u hu; simp [fI] at hu; (repeat (first | (rcases hu with rfl | hu) | subst hu | rfl))) (by first | exact Nat.le_refl _ | omega) au10 (by first | omega | (unfold maxLen; omega)) (by simp only [Tryz.t3]; omega) (fun ad21 n21 cap21 m21 hn21 hs21 hin21 => ?_)
  refine LM.as rfl ?_
  refine LM.nil (QM.sub (e' := [(0, _), (3, _)]) au9 (QM.then (wpM.region ?_)))
  refine LM.mv rfl ?_
  refine LM.cW (oc_call (enters_fn Tryz.func35 (by kernel_rfl) rfl) rfl) (fun w hm hc hg => tend_spec b (fldE ws j x wGroup 16).1 (fldE ws j x wGroup 16).2.1 w hn hx (hl.kp hc hab) hab (SubM.mem au1 w hm)) rfl (fun hlt => by first | exact rfl | exact absurd hlt (by omega)) ?_
  refine LM.nil (QM.sub (e' := [(0, _), (3, _)]) au9 ?_)
  refine QM.block_normal ?_
  refine QM.againK (((linE ws j x wGroup 16).1, (linE ws j x wGroup 16).2.1, gs ++ [(linE ws j x wGroup 16).2.2], ad21, n21, cap21, m21)) ⟨au2, rfl, trivial⟩ au1 (fun _ h => h) ?_ ?_
  · exact ⟨by rw [← gpL_next hQ (by omega)]; exact hG, by simp, by simp; omega, by rw [hn21]; simp, hs21⟩
  · dsimp only; rw [List.length_append, List.length_singleton]; omega
 have hR := hq2 h2
 refine wpM.exit ?_
 refine QM.then_exit ?_
 refine QM.then_exit ?_
 refine QM.block_hit ?_
 refine QM.then (wpM.seq (wpM.region ?_))
 refine LM.mv rfl (LM.as rfl ?_)
 refine LM.nil (QM.sub (e' := [(2, _)]) ⟨rfl, trivial⟩ (QM.then ?_))
 refine wpM.ret ?_
 refine QM.leave (.inl rfl) [.tmp 2] Tryz.results36 rfl ?_
 intro w' hm' hc' hg'
 rw [hG] at hR; have h9 := hm'.at b; rw [hR]; exact ⟨hc', h9, mg, ⟨gs, adg, ng, cg, rfl, hng, hsg, fun _ => rfl⟩, hm'.pick mg, fun p hp => Sl.ge hsg p hp⟩
set_option maxRecDepth 100000 in
set_option maxHeartbeats 1000000 in
theorem tlocks_spec {ws : List Wrd} (b : Nat) {ad : Option Addr} {n cap : Nat} (i : Nat) (e : Int) (w : World) (hn : n = ws.length) (hx : ws.length ≤ 1000000000) (hl : Sr fW 4 ws (.slice ad n cap) w) (hab : 0 < ws.length → adB ad ≠ b) (hM : Mem w [tB b ad n cap i e]) : Ret Tryz.prog 37 #[.pointer (some ⟨b, 0, none⟩)] w (WrN b (tO ad n cap (lkL ws i e []).2.1 (lkL ws i e []).2.2) (LkT (lkL ws i e [])) w) := by
 refine Ret.enterM (l := [.pointer (some ⟨b, 0, none⟩)]) Tryz.func37 rfl Tryz.ntmps37 rfl ([tB b ad n cap i e]) ((fun x => x = b)) hM ?_
 refine wpM.seq (wpM.region ?_)
 refine LM.as rfl ?_
 refine LM.nil (QM.sub (e' := [(0, _)]) ⟨rfl, trivial⟩ (QM.then (wpM.seq (wpM.region ?_))))
 refine LM.as rfl ?_
 refine LM.nil (QM.sub (e' := [(0, _), (3, _)]) au9 (QM.then ?_))
 refine wpM.seq ?_
 refine wpM.block ?_
 refine wpM.loopK0 (α := Nat × Int × List CLk × Option Addr × Nat × Nat × Mem0) (fun ⟨j, x, ls, adl, nl, cl, ml⟩ => [(3, .slice adl nl cl)]) [(0, _)] (fun ⟨j, x, ls, adl, nl, cl, ml⟩ => ml ++ (tB b ad n cap j x :: [])) (fun ⟨j, x, ls, adl, nl, cl, ml⟩ => lkL ws j x ls = lkL ws i e [] ∧ ls.length ≤ 8 ∧ nl = ls.length ∧ Sl fL 63 5 w.heap.size ls (.slice adl nl cl) ml) (fun ⟨j, x, ls, adl, nl, cl, ml⟩ => 9 - ls.length) ((i, e, [], none, 0, 0, [])) ⟨au2, rfl, trivial⟩ au1 ⟨rfl, by decide, rfl, .nil _ _ _ _⟩ ?_
 rintro ⟨j, x, ls, adl, nl, cl, ml⟩ ⟨hL, hl8, hnl, hsl⟩
 change wpM _ _ _ _ _ _ _ (ml ++ (tB b ad n cap j x :: [])) _ _ _
 refine wpM.seq ?_
 refine wpM.seq ?_
 refine wpM.joinK (α := Bool × Int) (fun ⟨q, y⟩ => [(15, .bool q)]) [(0, _), (3, _)] (fun ⟨q, y⟩ => ml ++ (tB b ad n cap j y :: [])) (fun ⟨q, y⟩ => (q = true → isL ws j x = true ∧ nl < 8 ∧ x = y) ∧ (q = false → lkL ws j x ls = (ls, j, y))) ⟨rfl, rfl, trivial⟩ ?_ ?_
 ·
  refine wpM.region ?_
  refine LM.mv rfl ?_
  refine LM.callE (oc_call (enters_fn Tryz.func82 (by kernel_rfl) rfl) rfl) (fun w hm hc hg => tis_spec b j x wLock w hn (hl.kp hc hab) (SubM.mem au1 w hm)) ?_
  refine LM.mv rfl ?_
  first | refine LM.splitD (t := 6) rfl (fun h1 => ?_) (fun h1 => ?_) | refine LM.splitB (t := 6) rfl (fun h1 => ?_) (fun h1 => ?_)
  ·
   refine LM.dr 6 rfl rfl rfl (LM.dr 6 rfl rfl rfl ?_)
   refine LM.val (ov_pickT rfl rfl) ?_
   refine LM.mv rfl (LM.sp 10 rfl rfl rfl (LM.mv rfl (LM.sp 10 rfl rfl rfl (LM.mv rfl (LM.sp 10 rfl rfl rfl ?_)))))
   refine LM.val (ov_len Tryz.underlying27 rfl) ?_
   refine LM.sp 10 rfl rfl rfl ?_
   refine LM.cW (oc_call (enters_fn Tryz.func83 (by kernel_rfl) rfl) rfl) (fun w hm hc hg => troom_spec (ws := ws) b j x (nl : Nat) 8 w (SubM.mem au1 w hm)) rfl (fun hlt => by first | exact rfl | exact absurd hlt (by omega)) ?_
   refine LM.val (ov_pickT rfl rfl) ?_
   refine LM.nil (QM.sub (e' := [(0, _), (3, _), (15, _)]) au9 ?_)
   refine QM.meetK ((decide (x = 0) && !decide ((8 : Int) ≤ (nl : Nat)), (if x = 0 ∧ (8 : Int) ≤ (nl : Nat) then 6 else x))) ⟨au2, rfl, rfl, trivial⟩ au1 ?_
   · have hQ : isL ws j x = true := (by unfold isL; rw [h1]; rfl); have hr := room_t (m := 8) (n := nl) (isL_lt hQ).2; exact ⟨fun q => ⟨hQ, by have := (hr.1 q).1; omega, (hr.1 q).2.symm⟩, fun q => by rw [(hr.2 q).2]; exact lkL_full hQ (by have := (hr.2 q).1; omega)⟩
  refine LM.sp 6 rfl rfl rfl (LM.mv rfl (LM.sp 6 rfl rfl rfl ?_))
  refine LM.callE (oc_call (enters_fn Tryz.func82 (by kernel_rfl) rfl) rfl) (fun w hm hc hg => tis_spec b j x wShared w hn (hl.kp hc hab) (SubM.mem au1 w hm)) ?_
  refine LM.val (ov_pickF rfl rfl) ?_
  refine LM.mv rfl ?_
  first | refine LM.splitD (t := 10) rfl (fun h2 => ?_) (fun h2 => ?_) | refine LM.splitB (t := 10) rfl (fun h2 => ?_) (fun h2 => ?_)
  ·
   refine LM.sp 10 rfl rfl rfl (LM.mv rfl (LM.sp 10 rfl rfl rfl (LM.mv rfl (LM.sp 10 rfl rfl rfl ?_))))
   refine LM.val (ov_len Tryz.underlying27 rfl) ?_
   refine LM.sp 10 rfl rfl rfl ?_
   refine LM.cW (oc_call (enters_fn Tryz.func83 (by kernel_rfl) rfl) rfl) (fun w hm hc hg => troom_spec (ws := ws) b j x (nl : Nat) 8 w (SubM.mem au1 w hm)) rfl (fun hlt => by first | exact rfl | exact absurd hlt (by omega)) ?_
   refine LM.val (ov_pickT rfl rfl) ?_
   refine LM.nil (QM.sub (e' := [(0, _), (3, _), (15, _)]) au9 ?_)
   refine QM.meetK ((decide (x = 0) && !decide ((8 : Int) ≤ (nl : Nat)), (if x = 0 ∧ (8 : Int) ≤ (nl : Nat) then 6 else x))) ⟨au2, rfl, rfl, trivial⟩ au1 ?_
   · have hQ : isL ws j x = true := (by unfold isL; rw [h1, h2]; rfl); have hr := room_t (m := 8) (n := nl) (isL_lt hQ).2; exact ⟨fun q => ⟨hQ, by have := (hr.1 q).1; omega, (hr.1 q).2.symm⟩, fun q => by rw [(hr.2 q).2]; exact lkL_full hQ (by have := (hr.2 q).1; omega)⟩
  refine LM.dr 10 rfl rfl rfl (LM.dr 10 rfl rfl rfl (LM.dr 10 rfl rfl rfl (LM.dr 10 rfl rfl rfl ?_)))
  refine LM.val (ov_pickF rfl rfl) ?_
  refine LM.nil (QM.sub (e' := [(0, _), (3, _), (15, _)]) au9 ?_)
  refine QM.meetK ((false, x)) ⟨au2, rfl, rfl, trivial⟩ au1 ?_
  · exact ⟨fun q => (by cases q), fun _ => lkL_stop (by unfold isL; rw [h1, h2]; rfl)⟩
 rintro ⟨q, y⟩ ⟨hq1, hq2⟩
 change QM _ _ _ _ _ (ml ++ (tB b ad n cap j y :: [])) _ _ _
 refine QM.then ?_
 first | refine wpM.condD rfl (fun h3 => ?_) (fun h3 => ?_) | refine wpM.condB rfl (fun h3 => ?_) (fun h3 => ?_)
 ·
  obtain ⟨hQ, hlt8, rfl⟩ := hq1 h3
  refine wpM.skip ?_
  refine QM.then ?_
  refine wpM.block ?_
  refine wpM.region ?_
  refine LM.mv rfl (LM.mv rfl ?_)
  refine LM.cW (oc_call (enters_fn Tryz.func84 (by kernel_rfl) rfl) rfl) (fun w hm hc hg => tlock_spec b j x w hn hx (hl.kp hc hab) hab (SubM.mem au1 w hm) (isL_lt hQ).1) rfl (fun hlt => by first | exact rfl | exact absurd hlt (by omega)) ?_
  refine LM.single Tryz.underlying27 Tryz.sizeOf63 Tryz.zeroValue63 rfl rfl rfl rfl rfl (fun b19 hb19 => ?_)
  refine LM.app (a := (lckE ws (isE ws j x 1 wShared) (j + 1) x).2.2) Tryz.underlying27 Tryz.typeInfo63 rfl rfl rfl rfl rfl rfl rfl (by assumption) (by rfl) (by intro _; rfl) (by intro _ u hu; simp [fL] at hu; (repeat (first | (rcases hu with rfl | hu) | subst hu | rfl))) (by first | exact Nat.le_refl _ | omega) au10 (by first | omega | (unfold maxLen; omega)) (by simp only [Tryz.t63]; omega) (fun ad20 n20 cap20 m20 hn20 hs20 hin20 => ?_)
  refine LM.as rfl ?_
  refine LM.nil (QM.sub (e' := [(0, _), (3, _)]) au9 ?_)
  refine QM.block_normal ?_
  refine QM.againK (((lckE ws (isE ws j x 1 wShared) (j + 1) x).1, (lckE ws (isE ws j x 1 wShared) (j + 1) x).2.1, ls ++ [(lckE ws (isE ws j x 1 wShared) (j + 1) x).2.2], ad20, n20, cap20, m20)) ⟨au2, rfl, trivial⟩ au1 (fun _ h => h) ?_ ?_
  · exact ⟨by rw [← lkL_next hQ (by omega)]; exact hL, by simp; omega, by rw [hn20]; simp, hs20⟩
  · dsimp only; rw [List.length_append, List.length_singleton]; omega
 have hR := hq2 h3
 refine wpM.exit ?_
 refine QM.then_exit ?_
 refine QM.then_exit ?_
 refine QM.block_hit ?_
 refine QM.then (wpM.seq (wpM.region ?_))
 refine LM.mv rfl (LM.as rfl ?_)
 refine LM.nil (QM.sub (e' := [(2, _)]) ⟨rfl, trivial⟩ (QM.then ?_))
 refine wpM.ret ?_
 refine QM.leave (.inl rfl) [.tmp 2] Tryz.results37 rfl ?_
 intro w' hm' hc' hg'
 rw [hL] at hR; have h9 := hm'.at b; rw [hR]; exact ⟨hc', h9, ml, ⟨adl, nl, cl, rfl, hnl, hsl⟩, hm'.pick ml, fun p hp => Sl.ge hsl p hp⟩
set_option maxRecDepth 100000 in
set_option maxHeartbeats 2000000 in
theorem tprogs_spec {ws : List Wrd} (b : Nat) {ad : Option Addr} {n cap : Nat} (i : Nat) (e : Int) (w : World) (hn : n = ws.length) (hx : ws.length ≤ 1000000000) (hl : Sr fW 4 ws (.slice ad n cap) w) (hab : 0 < ws.length → adB ad ≠ b) (hM : Mem w [tB b ad n cap i e]) (hi0 : i ≤ ws.length) : Ret Tryz.prog 38 #[.pointer (some ⟨b, 0, none⟩)] w (WrN b (tO ad n cap (pgL ws i e [] []).2.2.1 (pgL ws i e [] []).2.2.2) (PgT (pgL ws i e [] [])) w) := by
 refine Ret.enterM (l := [.pointer (some ⟨b, 0, none⟩)]) Tryz.func38 rfl Tryz.ntmps38 rfl ([tB b ad n cap i e]) ((fun x => x = b)) hM ?_
 refine wpM.seq (wpM.region ?_)
 refine LM.as rfl (LM.as rfl ?_)
 refine LM.nil (QM.sub (e' := [(0, _)]) ⟨rfl, trivial⟩ (QM.then (wpM.seq (wpM.region ?_))))
 refine LM.as rfl ?_
 refine LM.nil (QM.sub (e' := [(0, _), (4, _)]) au9 (QM.then (wpM.seq (wpM.region ?_))))
 refine LM.as rfl ?_
 refine LM.nil (QM.sub (e' := [(0, _), (4, _), (5, _)]) au9 (QM.then ?_))
 refine wpM.seq ?_
 refine wpM.block ?_
 refine wpM.loopK0 (α := Nat × Int × List PgV × Option Addr × Nat × Nat × Mem0 × List Int × Option Addr × Nat × Nat × Mem0 × Mem0) (fun ⟨j, x, ps, adp, np, cp, mp, pl, adq, nq, cq, mq, mo⟩ => [(4, .slice adp np cp), (5, .slice adq nq cq)]) [(0, _)] (fun ⟨j, x, ps, adp, np, cp, mp, pl, adq, nq, cq, mq, mo⟩ => mo ++ (mp ++ (mq ++ (tB b ad n cap j x :: [])))) (fun ⟨j, x, ps, adp, np, cp, mp, pl, adq, nq, cq, mq, mo⟩ => pgL ws j x (ps.map PgV.c) pl = pgL ws i e [] [] ∧ j ≤ ws.length ∧ ps.length ≤ 8 ∧ np = ps.length ∧ Sl fPg 87 2 w.heap.size ps (.slice adp np cp) mp ∧ pl.length = ps.length ∧ nq = pl.length ∧ Sl fI 3 1 w.heap.size pl (.slice adq nq cq) mq ∧ (∀ w, Mem w mo → PgsIn ps w) ∧ (∀ p ∈ mo, w.heap.size ≤ p.1)) (fun ⟨j, x, ps, adp, np, cp, mp, pl, adq, nq, cq, mq, mo⟩ => 9 - ps.length) ((i, e, [], none, 0, 0, [], [], none, 0, 0, [], [])) ⟨au2, au2, rfl, trivial⟩ au1 ⟨rfl, hi0, by decide, rfl, .nil _ _ _ _, rfl, rfl, .nil _ _ _ _, (fun w _ p hp => by cases hp), (fun p hp => by cases hp)⟩ ?_
 rintro ⟨j, x, ps, adp, np, cp, mp, pl, adq, nq, cq, mq, mo⟩ ⟨hP, hj, hp8, hnp, hsp, hplp, hnq, hsq, hop, hog⟩
 change wpM _ _ _ _ _ _ _ (mo ++ (mp ++ (mq ++ (tB b ad n cap j x :: [])))) _ _ _
 have hpp := par_pos hj; obtain ⟨j9, hj9⟩ : ∃ j' : Nat, (parseO ws (j : Int)).2.2.1 = (j' : Int) := ⟨_, (Int.toNat_of_nonneg hpp.1).symm⟩
 refine wpM.seq ?_
 refine wpM.seq ?_
 refine wpM.joinK (α := Bool × Int) (fun ⟨q, y⟩ => [(28, .bool q)]) [(0, _), (4, _), (5, _)] (fun ⟨q, y⟩ => mo ++ (mp ++ (mq ++ (tB b ad n cap j y :: [])))) (fun ⟨q, y⟩ => (q = true → isP ws j x (ps.map PgV.c) = true ∧ np < 8 ∧ x = y) ∧ (q = false → pgL ws j x (ps.map PgV.c) pl = (ps.map PgV.c, pl, j, y))) ⟨rfl, rfl, rfl, trivial⟩ ?_ ?_
 ·
  refine wpM.region ?_
  refine LM.mv rfl ?_
  refine LM.val (ov_nilCheck rfl) ?_
  refine LM.val (ov_field Tryz.underlying70 rfl Tryz.sizeOf31 rfl (k := 2) rfl rfl) ?_
  refine LM.rd (om_ld Tryz.isAgg31 rfl rfl) ?_
  refine LM.val (ov_eql rfl rfl) ?_
  refine LM.mv rfl ?_
  refine LM.splitD (t := 14) rfl (fun h1 => ?_) (fun h1 => ?_)
  ·
   refine LM.sp 14 rfl rfl rfl (LM.mv rfl (LM.sp 14 rfl rfl rfl ?_))
   refine LM.val (ov_len Tryz.underlying28 rfl) ?_
   refine LM.sp 14 rfl rfl rfl ?_
   refine LM.val (ov_eql rfl rfl) ?_
   refine LM.sp 14 rfl rfl rfl (LM.mv rfl ?_)
   refine LM.splitD (t := 18) rfl (fun h2 => ?_) (fun h2 => ?_)
   ·
    refine LM.dr 18 rfl rfl rfl (LM.dr 18 rfl rfl rfl (LM.sp 14 rfl rfl rfl ?_))
    refine LM.val (ov_pickT rfl rfl) ?_
    refine LM.val (ov_pickT rfl rfl) ?_
    refine LM.mv rfl (LM.sp 23 rfl rfl rfl (LM.mv rfl (LM.sp 23 rfl rfl rfl (LM.mv rfl (LM.sp 23 rfl rfl rfl ?_)))))
    refine LM.val (ov_len Tryz.underlying28 rfl) ?_
    refine LM.sp 23 rfl rfl rfl ?_
    refine LM.cW (oc_call (enters_fn Tryz.func83 (by kernel_rfl) rfl) rfl) (fun w hm hc hg => troom_spec (ws := ws) b j x (np : Nat) 8 w (SubM.mem au1 w hm)) rfl (fun hlt => by first | exact rfl | exact absurd hlt (by omega)) ?_
    refine LM.val (ov_pickT rfl rfl) ?_
    refine LM.nil (QM.sub (e' := [(0, _), (4, _), (5, _), (28, _)]) au9 ?_)
    refine QM.meetK ((decide (x = 0) && !decide ((8 : Int) ≤ (np : Nat)), (if x = 0 ∧ (8 : Int) ≤ (np : Nat) then 6 else x))) ⟨au2, rfl, rfl, rfl, trivial⟩ au1 ?_
    · have hQ : isP ws j x (ps.map PgV.c) = true := (by unfold isP; rw [decide_eq_true h1, List.length_map, decide_eq_true (show ps.length = 0 by omega)]; rfl); have hr := room_t (m := 8) (n := np) (isP_zero hQ); exact ⟨fun q => ⟨hQ, by have := (hr.1 q).1; omega, (hr.1 q).2.symm⟩, fun q => by rw [(hr.2 q).2]; exact pgL_full hQ (by have := (hr.2 q).1; rw [List.length_map]; omega)⟩
   refine LM.sp 18 rfl rfl rfl (LM.mv rfl (LM.sp 18 rfl rfl rfl ?_))
   refine LM.callE (oc_call (enters_fn Tryz.func82 (by kernel_rfl) rfl) rfl) (fun w hm hc hg => tis_spec b j x wProg w hn (hl.kp hc hab) (SubM.mem au1 w hm)) ?_
   refine LM.sp 14 rfl rfl rfl ?_
   refine LM.val (ov_pickF rfl rfl) ?_
   refine LM.val (ov_pickT rfl rfl) ?_
   refine LM.mv rfl ?_
   first | refine LM.splitD (t := 23) rfl (fun h3 => ?_) (fun h3 => ?_) | refine LM.splitB (t := 23) rfl (fun h3 => ?_) (fun h3 => ?_)
   ·
    refine LM.sp 23 rfl rfl rfl (LM.mv rfl (LM.sp 23 rfl rfl rfl (LM.mv rfl (LM.sp 23 rfl rfl rfl ?_))))
    refine LM.val (ov_len Tryz.underlying28 rfl) ?_
    refine LM.sp 23 rfl rfl rfl ?_
    refine LM.cW (oc_call (enters_fn Tryz.func83 (by kernel_rfl) rfl) rfl) (fun w hm hc hg => troom_spec (ws := ws) b j x (np : Nat) 8 w (SubM.mem au1 w hm)) rfl (fun hlt => by first | exact rfl | exact absurd hlt (by omega)) ?_
    refine LM.val (ov_pickT rfl rfl) ?_
    refine LM.nil (QM.sub (e' := [(0, _), (4, _), (5, _), (28, _)]) au9 ?_)
    refine QM.meetK ((decide (x = 0) && !decide ((8 : Int) ≤ (np : Nat)), (if x = 0 ∧ (8 : Int) ≤ (np : Nat) then 6 else x))) ⟨au2, rfl, rfl, rfl, trivial⟩ au1 ?_
    · have hQ : isP ws j x (ps.map PgV.c) = true := (by unfold isP; rw [decide_eq_true h1, h3]; simp); have hr := room_t (m := 8) (n := np) (isP_zero hQ); exact ⟨fun q => ⟨hQ, by have := (hr.1 q).1; omega, (hr.1 q).2.symm⟩, fun q => by rw [(hr.2 q).2]; exact pgL_full hQ (by have := (hr.2 q).1; rw [List.length_map]; omega)⟩
   refine LM.dr 23 rfl rfl rfl (LM.dr 23 rfl rfl rfl (LM.dr 23 rfl rfl rfl (LM.dr 23 rfl rfl rfl ?_)))
   refine LM.val (ov_pickF rfl rfl) ?_
   refine LM.nil (QM.sub (e' := [(0, _), (4, _), (5, _), (28, _)]) au9 ?_)
   refine QM.meetK ((false, x)) ⟨au2, rfl, rfl, rfl, trivial⟩ au1 ?_
   · exact ⟨fun q => (by cases q), fun _ => pgL_stop (by unfold isP; rw [List.length_map, decide_eq_false (show ¬ ps.length = 0 by omega), h3]; simp)⟩
  refine LM.dr 14 rfl rfl rfl (LM.dr 14 rfl rfl rfl (LM.dr 14 rfl rfl rfl ?_))
  refine LM.dropU (t := 14) rfl rfl rfl ?_
  refine LM.dropX (t := 18) rfl rfl ?_
  refine LM.dropX (t := 18) rfl rfl ?_
  refine LM.dr 14 rfl rfl rfl ?_
  refine LM.val (ov_pickF rfl rfl) ?_
  refine LM.mv rfl (LM.dr 23 rfl rfl rfl (LM.dr 23 rfl rfl rfl (LM.dr 23 rfl rfl rfl (LM.dr 23 rfl rfl rfl ?_))))
  refine LM.val (ov_pickF rfl rfl) ?_
  refine LM.nil (QM.sub (e' := [(0, _), (4, _), (5, _), (28, _)]) au9 ?_)
  refine QM.meetK ((false, x)) ⟨au2, rfl, rfl, rfl, trivial⟩ au1 ?_
  · exact ⟨fun q => (by cases q), fun _ => pgL_stop (by unfold isP; rw [decide_eq_false h1]; rfl)⟩
 rintro ⟨q, y⟩ ⟨hq1, hq2⟩
 change QM _ _ _ _ _ (mo ++ (mp ++ (mq ++ (tB b ad n cap j y :: [])))) _ _ _
 refine QM.then ?_
 first | refine wpM.condD rfl (fun h4 => ?_) (fun h4 => ?_) | refine wpM.condB rfl (fun h4 => ?_) (fun h4 => ?_)
 ·
  obtain ⟨hQ, hlt8, rfl⟩ := hq1 h4
  refine wpM.skip ?_
  refine QM.then ?_
  refine wpM.block ?_
  refine wpM.seq ?_
  refine wpM.joinK (α := Nat × Option Addr × Nat × Nat × Mem0) (fun ⟨c6, ad38, n38, cap38, m38⟩ => [(6, .pointer (some ⟨c6, 0, none⟩)), (7, .int .i64 (j9 : Nat)), (8, .int .i64 (parseO ws (j : Int)).2.2.2)]) [(0, _), (4, _), (5, _)] (fun ⟨c6, ad38, n38, cap38, m38⟩ => m38 ++ ((c6, .cells #[.bool (parseO ws (j : Int)).1, .slice ad38 n38 cap38] 87 (0, 0)) :: (mo ++ (mp ++ (mq ++ (tB b ad n cap j x :: [])))))) (fun ⟨c6, ad38, n38, cap38, m38⟩ => n38 = (parseO ws (j : Int)).2.1.length ∧ Sl fO 135 3 w.heap.size (parseO ws (j : Int)).2.1 (.slice ad38 n38 cap38) m38 ∧ (∀ p ∈ m38, w.heap.size ≤ p.1)) ⟨rfl, rfl, rfl, trivial⟩ ?_ ?_
  ·
   refine wpM.keep ((b, _) :: []) (fun _ => True) (.one 0 0 (.one 1 0 (.one 2 0 (.one 3 1 (.one 4 0 (.one 5 0 (.one 6 0 (.one 7 1 (.fork 8 (.one 9 0 (.one 10 0 (.one 11 0 (.one 12 0 (.one 13 2 (.one 14 2 (.one 15 0 (.one 16 0 .nil)))))))) 13 (.one 8 2 (.one 9 0 (.one 10 0 (.one 11 0 (.one 12 0 (.one 14 2 (.one 15 0 (.one 16 0 .nil))))))))))))))))) (by kernel_rfl) (by kernel_rfl) au1 (fun _ _ => trivial) ?_
   refine KD.val rfl rfl (ov_move rfl) ?_
   refine KD.val rfl rfl (ov_nilCheck rfl) ?_
   refine KD.val rfl rfl (ov_field Tryz.underlying70 rfl Tryz.sizeOf23 rfl (k := 0) rfl rfl) ?_
   refine KD.rd rfl rfl (om_ld Tryz.isAgg23 rfl rfl) ?_
   refine KD.val rfl rfl (ov_move rfl) ?_
   refine KD.val rfl rfl (ov_nilCheck rfl) ?_
   refine KD.val rfl rfl (ov_field Tryz.underlying70 rfl Tryz.sizeOf3 rfl (k := 1) rfl rfl) ?_
   refine KD.rd rfl rfl (om_ld Tryz.isAgg3 rfl rfl) ?_
   refine KD.fork rfl rfl ?_ ?_
   ·
    refine LM.callT (oc_call (enters_fn Tryz.func85 (by kernel_rfl) rfl) rfl) ParT.mono (fun w hm hc hg => parse_spec (j : Nat) w hn hx (hl.kp hc hab)) ?_
    rintro u38 m38 ⟨ad38, n38, cap38, rfl, hn38, hs38⟩ hge38; rw [hj9]
    refine LM.nil ?_
    refine QM.one au1 (fun _ _ => trivial) ?_
    refine KD.val rfl rfl (ov_move rfl) ?_
    refine KD.val rfl rfl (ov_extract rfl rfl) ?_
    refine KD.val rfl rfl (ov_extract rfl rfl) ?_
    refine KD.val rfl rfl (ov_extract rfl rfl) ?_
    refine KD.one rfl ?_
    refine LM.alloc Tryz.zeroValue87 rfl (fun b6 hb6 => ?_)
    refine LM.nil ?_
    refine QM.one au1 (fun _ _ => trivial) ?_
    refine KD.one rfl ?_
    refine LM.stW Tryz.sizeOf87 rfl rfl rfl rfl au7 (fun hlt => by first | exact rfl | exact absurd hlt (by omega)) ?_
    refine LM.nil ?_
    refine QM.one au1 (fun _ _ => trivial) ?_
    refine KD.val rfl rfl (ov_assign rfl) ?_
    refine KD.val rfl rfl (ov_assign rfl) ?_
    refine KD.nil ?_
    refine QM.sub (e' := [(0, _), (4, _), (5, _), (6, _), (7, _), (8, _)]) au9 ?_
    refine QM.meetK ((b6, ad38, n38, cap38, m38)) ⟨au2, au2, au2, rfl, rfl, rfl, trivial⟩ au1 ?_
    · exact ⟨hn38, hs38, hge38⟩
   refine LM.alloc Tryz.zeroValue87 rfl (fun b6 hb6 => ?_)
   refine LM.nil ?_
   refine QM.one au1 (fun _ _ => trivial) ?_
   refine KD.one rfl ?_
   refine LM.callT (oc_call (enters_fn Tryz.func85 (by kernel_rfl) rfl) rfl) ParT.mono (fun w hm hc hg => parse_spec (j : Nat) w hn hx (hl.kp hc hab)) ?_
   rintro u38 m38 ⟨ad38, n38, cap38, rfl, hn38, hs38⟩ hge38; rw [hj9]
   refine LM.nil ?_
   refine QM.one au1 (fun _ _ => trivial) ?_
   refine KD.val rfl rfl (ov_move rfl) ?_
   refine KD.val rfl rfl (ov_extract rfl rfl) ?_
   refine KD.val rfl rfl (ov_extract rfl rfl) ?_
   refine KD.val rfl rfl (ov_extract rfl rfl) ?_
   refine KD.one rfl ?_
   refine LM.stW Tryz.sizeOf87 rfl rfl rfl rfl au7 (fun hlt => by first | exact rfl | exact absurd hlt (by omega)) ?_
   refine LM.nil ?_
   refine QM.one au1 (fun _ _ => trivial) ?_
   refine KD.val rfl rfl (ov_assign rfl) ?_
   refine KD.val rfl rfl (ov_assign rfl) ?_
   refine KD.nil ?_
   refine QM.sub (e' := [(0, _), (4, _), (5, _), (6, _), (7, _), (8, _)]) au9 ?_
   refine QM.meetK ((b6, ad38, n38, cap38, m38)) ⟨au2, au2, au2, rfl, rfl, rfl, trivial⟩ au1 ?_
   · exact ⟨hn38, hs38, hge38⟩
  rintro ⟨c6, ad38, n38, cap38, m38⟩ ⟨hn38, hs38, hge38⟩
  change QM _ _ _ _ _ (m38 ++ ((c6, .cells #[.bool (parseO ws (j : Int)).1, .slice ad38 n38 cap38] 87 (0, 0)) :: (mo ++ (mp ++ (mq ++ (tB b ad n cap j x :: [])))))) _ _ _
  refine QM.then ?_
  refine wpM.seq ?_
  refine wpM.joinK (α := Option Addr × Nat × Nat × Mem0 × Option Addr × Nat × Nat × Mem0) (fun ⟨ad45, n45, cap45, m45, ad52, n52, cap52, m52⟩ => [(4, .slice ad45 n45 cap45), (5, .slice ad52 n52 cap52)]) [(0, _), (7, _), (8, _)] (fun ⟨ad45, n45, cap45, m45, ad52, n52, cap52, m52⟩ => m38 ++ (mo ++ (m45 ++ (m52 ++ (tB b ad n cap j x :: []))))) (fun ⟨ad45, n45, cap45, m45, ad52, n52, cap52, m52⟩ => n45 = ps.length + 1 ∧ Sl fPg 87 2 w.heap.size (ps ++ [(⟨prC (parseO ws (j : Int)), ad38, n38, cap38⟩ : PgV)]) (.slice ad45 n45 cap45) m45 ∧ n52 = pl.length + 1 ∧ Sl fI 3 1 w.heap.size (pl ++ [(j : Int)]) (.slice ad52 n52 cap52) m52) ⟨rfl, rfl, rfl, trivial⟩ ?_ ?_
  ·
   refine wpM.keep ((c6, _) :: (b, _) :: []) (fun _ => True) (.one 0 0 (.one 1 1 (.one 4 0 (.one 5 0 (.one 6 0 (.one 7 0 (.one 8 1 (.fork 2 (.fork 3 (.one 9 2 (.one 10 2 (.one 11 0 (.one 12 0 .nil)))) 9 (.one 3 2 (.one 10 2 (.one 11 0 (.one 12 0 .nil))))) 9 (.one 2 2 (.one 3 2 (.one 10 2 (.one 11 0 (.one 12 0 .nil))))))))))))) (by kernel_rfl) (by kernel_rfl) au1 (fun _ _ => trivial) ?_
   refine KD.val rfl rfl (ov_move rfl) ?_
   refine KD.rd rfl rfl (om_ldW Tryz.isAgg87 Tryz.sizeOf87 rfl rfl) ?_
   refine KD.val rfl rfl (ov_move rfl) ?_
   refine KD.val rfl rfl (ov_move rfl) ?_
   refine KD.val rfl rfl (ov_nilCheck rfl) ?_
   refine KD.val rfl rfl (ov_field Tryz.underlying70 rfl Tryz.sizeOf3 rfl (k := 1) rfl rfl) ?_
   refine KD.rd rfl rfl (om_ld Tryz.isAgg3 rfl rfl) ?_
   refine KD.fork rfl rfl ?_ ?_
   ·
    refine LM.single Tryz.underlying28 Tryz.sizeOf87 Tryz.zeroValue87 rfl rfl rfl rfl rfl (fun b44 hb44 => ?_)
    refine LM.nil ?_
    refine QM.one au1 (fun _ _ => trivial) ?_
    refine KD.fork rfl rfl ?_ ?_
    ·
     refine LM.app (a := (⟨prC (parseO ws (j : Int)), ad38, n38, cap38⟩ : PgV)) Tryz.underlying28 Tryz.typeInfo87 rfl rfl rfl rfl rfl rfl rfl (by assumption) (by rfl) (by intro _; rfl) (by intro _ u hu; simp [fPg] at hu; (repeat (first | (rcases hu with rfl | hu) | subst hu | rfl))) (by first | exact Nat.le_refl _ | omega) au10 (by first | omega | (unfold maxLen; omega)) (by simp only [Tryz.t87]; omega) (fun ad45 n45 cap45 m45 hn45 hs45 hin45 => ?_)
     refine LM.nil ?_
     refine QM.one au1 (fun _ _ => trivial) ?_
     refine KD.one rfl ?_
     refine LM.single Tryz.underlying26 Tryz.sizeOf3 Tryz.zeroValue3 rfl rfl rfl rfl rfl (fun b51 hb51 => ?_)
     refine LM.nil ?_
     refine QM.one au1 (fun _ _ => trivial) ?_
     refine KD.one rfl ?_
     refine LM.app (a := (j : Int)) Tryz.underlying26 Tryz.typeInfo3 rfl rfl rfl rfl rfl rfl rfl (by assumption) (by rfl) (by intro _; rfl) (by intro _ u hu; simp [fI] at hu; (repeat (first | (rcases hu with rfl | hu) | subst hu | rfl))) (by first | exact Nat.le_refl _ | omega) au10 (by first | omega | (unfold maxLen; omega)) (by simp only [Tryz.t3]; omega) (fun ad52 n52 cap52 m52 hn52 hs52 hin52 => ?_)
     refine LM.nil ?_
     refine QM.one au1 (fun _ _ => trivial) ?_
     refine KD.val rfl rfl (ov_assign rfl) ?_
     refine KD.val rfl rfl (ov_assign rfl) ?_
     refine KD.nil ?_
     refine QM.sub (e' := [(0, _), (4, _), (5, _), (7, _), (8, _)]) au9 ?_
     refine QM.meetK ((ad45, n45, cap45, m45, ad52, n52, cap52, m52)) ⟨au2, au2, rfl, rfl, rfl, trivial⟩ au1 ?_
     · exact ⟨hn45, hs45, hn52, hs52⟩
    refine LM.single Tryz.underlying26 Tryz.sizeOf3 Tryz.zeroValue3 rfl rfl rfl rfl rfl (fun b51 hb51 => ?_)
    refine LM.nil ?_
    refine QM.one au1 (fun _ _ => trivial) ?_
    refine KD.one rfl ?_
    refine LM.app (a := (⟨prC (parseO ws (j : Int)), ad38, n38, cap38⟩ : PgV)) Tryz.underlying28 Tryz.typeInfo87 rfl rfl rfl rfl rfl rfl rfl (by assumption) (by rfl) (by intro _; rfl) (by intro _ u hu; simp [fPg] at hu; (repeat (first | (rcases hu with rfl | hu) | subst hu | rfl))) (by first | exact Nat.le_refl _ | omega) au10 (by first | omega | (unfold maxLen; omega)) (by simp only [Tryz.t87]; omega) (fun ad45 n45 cap45 m45 hn45 hs45 hin45 => ?_)
    refine LM.nil ?_
    refine QM.one au1 (fun _ _ => trivial) ?_
    refine KD.one rfl ?_
    refine LM.app (a := (j : Int)) Tryz.underlying26 Tryz.typeInfo3 rfl rfl rfl rfl rfl rfl rfl (by assumption) (by rfl) (by intro _; rfl) (by intro _ u hu; simp [fI] at hu; (repeat (first | (rcases hu with rfl | hu) | subst hu | rfl))) (by first | exact Nat.le_refl _ | omega) au10 (by first | omega | (unfold maxLen; omega)) (by simp only [Tryz.t3]; omega) (fun ad52 n52 cap52 m52 hn52 hs52 hin52 => ?_)
    refine LM.nil ?_
    refine QM.one au1 (fun _ _ => trivial) ?_
    refine KD.val rfl rfl (ov_assign rfl) ?_
    refine KD.val rfl rfl (ov_assign rfl) ?_
    refine KD.nil ?_
    refine QM.sub (e' := [(0, _), (4, _), (5, _), (7, _), (8, _)]) au9 ?_
    refine QM.meetK ((ad45, n45, cap45, m45, ad52, n52, cap52, m52)) ⟨au2, au2, rfl, rfl, rfl, trivial⟩ au1 ?_
    · exact ⟨hn45, hs45, hn52, hs52⟩
   refine LM.single Tryz.underlying26 Tryz.sizeOf3 Tryz.zeroValue3 rfl rfl rfl rfl rfl (fun b51 hb51 => ?_)
   refine LM.nil ?_
   refine QM.one au1 (fun _ _ => trivial) ?_
   refine KD.one rfl ?_
   refine LM.single Tryz.underlying28 Tryz.sizeOf87 Tryz.zeroValue87 rfl rfl rfl rfl rfl (fun b44 hb44 => ?_)
   refine LM.nil ?_
   refine QM.one au1 (fun _ _ => trivial) ?_
   refine KD.one rfl ?_
   refine LM.app (a := (⟨prC (parseO ws (j : Int)), ad38, n38, cap38⟩ : PgV)) Tryz.underlying28 Tryz.typeInfo87 rfl rfl rfl rfl rfl rfl rfl (by assumption) (by rfl) (by intro _; rfl) (by intro _ u hu; simp [fPg] at hu; (repeat (first | (rcases hu with rfl | hu) | subst hu | rfl))) (by first | exact Nat.le_refl _ | omega) au10 (by first | omega | (unfold maxLen; omega)) (by simp only [Tryz.t87]; omega) (fun ad45 n45 cap45 m45 hn45 hs45 hin45 => ?_)
   refine LM.nil ?_
   refine QM.one au1 (fun _ _ => trivial) ?_
   refine KD.one rfl ?_
   refine LM.app (a := (j : Int)) Tryz.underlying26 Tryz.typeInfo3 rfl rfl rfl rfl rfl rfl rfl (by assumption) (by rfl) (by intro _; rfl) (by intro _ u hu; simp [fI] at hu; (repeat (first | (rcases hu with rfl | hu) | subst hu | rfl))) (by first | exact Nat.le_refl _ | omega) au10 (by first | omega | (unfold maxLen; omega)) (by simp only [Tryz.t3]; omega) (fun ad52 n52 cap52 m52 hn52 hs52 hin52 => ?_)
   refine LM.nil ?_
   refine QM.one au1 (fun _ _ => trivial) ?_
   refine KD.val rfl rfl (ov_assign rfl) ?_
   refine KD.val rfl rfl (ov_assign rfl) ?_
   refine KD.nil ?_
   refine QM.sub (e' := [(0, _), (4, _), (5, _), (7, _), (8, _)]) au9 ?_
   refine QM.meetK ((ad45, n45, cap45, m45, ad52, n52, cap52, m52)) ⟨au2, au2, rfl, rfl, rfl, trivial⟩ au1 ?_
   · exact ⟨hn45, hs45, hn52, hs52⟩
  rintro ⟨ad45, n45, cap45, m45, ad52, n52, cap52, m52⟩ ⟨hn45, hs45, hn52, hs52⟩
  change QM _ _ _ _ _ (m38 ++ (mo ++ (m45 ++ (m52 ++ (tB b ad n cap j x :: []))))) _ _ _
  refine QM.then (wpM.region ?_)
  refine LM.mv rfl (LM.mv rfl (LM.mv rfl (LM.mv rfl ?_)))
  refine LM.val (ov_nilCheck rfl) ?_
  refine LM.val (ov_field Tryz.underlying70 rfl Tryz.sizeOf3 rfl (k := 1) rfl rfl) ?_
  refine LM.st Tryz.sizeOf3 rfl rfl rfl au5 rfl (fun hlt => by first | exact rfl | exact absurd hlt (by omega)) ?_
  refine LM.val (ov_nilCheck rfl) ?_
  refine LM.val (ov_field Tryz.underlying70 rfl Tryz.sizeOf31 rfl (k := 2) rfl rfl) ?_
  refine LM.st Tryz.sizeOf31 rfl rfl rfl au5 rfl (fun hlt => by first | exact rfl | exact absurd hlt (by omega)) ?_
  refine LM.nil (QM.sub (e' := [(0, _), (4, _), (5, _)]) au9 ?_)
  refine QM.block_normal ?_
  refine QM.againK ((j9, (parseO ws (j : Int)).2.2.2, ps ++ [(⟨prC (parseO ws (j : Int)), ad38, n38, cap38⟩ : PgV)], ad45, n45, cap45, m45, pl ++ [(j : Int)], ad52, n52, cap52, m52, m38 ++ mo)) ⟨au2, au2, rfl, trivial⟩ au1 (fun _ h => h) ?_ ?_
  · exact ⟨by rw [snoc_map, ← hP, pgL_next hQ (by simp; omega), hj9, Int.toNat_natCast], by have := hpp.2; rw [hj9, Int.toNat_natCast] at this; exact this, by simp; omega, by rw [hn45]; simp, hs45, by simp [hplp], by rw [hn52]; simp, hs52, (fun w hm => snoc_in (hop w (hm.sub (List.sublist_append_right _ _))) ⟨hn38, sr_of_sl hs38 (fun _ => rfl) (hm.sub (List.sublist_append_left _ _))⟩), List.forall_mem_append.2 ⟨hge38, hog⟩⟩
  · dsimp only; rw [List.length_append, List.length_singleton]; omega
 have hR := hq2 h4
 refine wpM.exit ?_
 refine QM.then_exit ?_
 refine QM.then_exit ?_
 refine QM.block_hit ?_
 refine QM.then (wpM.seq (wpM.region ?_))
 refine LM.mv rfl (LM.mv rfl (LM.as rfl (LM.as rfl ?_)))
 refine LM.nil (QM.sub (e' := [(2, _), (3, _)]) au9 (QM.then ?_))
 refine wpM.ret ?_
 refine QM.leave (.inl rfl) [.tmp 2, .tmp 3] Tryz.results38 rfl ?_
 intro w' hm' hc' hg'
 rw [hP] at hR; have h9 := hm'.at b; rw [hR]; refine ⟨hc', h9, mo ++ (mp ++ (mq ++ [])), ⟨ps, adp, np, cp, adq, nq, cq, mp, mq, mo, rfl, rfl, hnp, hp8, hnq, hplp, rfl, hsp, hsq, hop, hog⟩, SubM.mem (by (repeat' (first | exact SubM.nil _ | refine SubM.app ?_))) w' hm', ?_⟩; intro p hp; simp only [List.mem_append, List.not_mem_nil, or_false] at hp; rcases hp with hp | hp | hp; exact hog p hp; exact Sl.ge hsp p hp; exact Sl.ge hsq p hp
def sv (ws : List Wrd) (i0 : Nat) (gs : List Int) (adg : Option Addr) (ng cg : Nat) (adl : Option Addr) (nl cl : Nat) (ps : List PgV) (adp : Option Addr) (np cp : Nat) : StV := ⟨(sA ws i0).2.2, (sB2 ws i0).2.2, gs, adg, ng, cg, (sL ws i0).1, adl, nl, cl, ps, adp, np, cp⟩
theorem misfit_at {ws : List Wrd} {i0 : Nat} {gs : List Int} {adg : Option Addr} {ng cg : Nat} {adl : Option Addr} {nl cl : Nat} {ps : List PgV} {adp : Option Addr} {np cp : Nat} (w : World) (hI : (sv ws i0 gs adg ng cg adl nl cl ps adp np cp).In w) (hx : ps.length ≤ 1000000) :
    Ret Tryz.prog 39 #[.agg #[.int .i64 (sA ws i0).2.2, .int .i64 (sB2 ws i0).2.2, .slice adg ng cg, .slice adl nl cl, .slice adp np cp]] w (fun v w' => v = .tuple #[.int .i64 (misI (sL ws i0).1 (ps.map PgV.c)), .int .i64 (misE (sL ws i0).1 (ps.map PgV.c) (misI (sL ws i0).1 (ps.map PgV.c)))] ∧ Ext w w') := misfit_spec (s := sv ws i0 gs adg ng cg adl nl cl ps adp np cp) w hI hx
theorem SetI.mis2 {ws : List Wrd} {i0 : Nat} {gs : List Int} {i1 : Nat} {e1 : Int} {ls : List CLk} {i2 : Nat} {e2 : Int} {ps : List PgC} {pl : List Int} {i3 : Nat} {e3 : Int} (h : SetI ws i0 gs i1 e1 ls i2 e2 ps pl i3 e3) (he : e3 = 0) (hm : 0 ≤ misI ls ps) : stpR ws i0 = (default, pl.getD (misI ls ps).toNat 0, misE ls ps (misI ls ps)) := by
  unfold stpR; rw [h.two.2, h.two.1]; simp only; rw [if_neg (by simp [he]), if_pos hm]
theorem Mem.pickN {m : Mem0} {w : World} (h : Mem w (m ++ [])) : Mem w m := by simpa using h
set_option maxRecDepth 100000 in
set_option maxHeartbeats 4000000 in
theorem setup_spec {ws : List Wrd} {ad : Option Addr} {n cap : Nat} (p : Int) (w : World) (hn : n = ws.length) (hx : ws.length ≤ 1000000000) (hl : Sr fW 4 ws (.slice ad n cap) w) : Ret Tryz.prog 11 #[.slice ad n cap, .int .i64 p] w (fun v w' => Ext w w' ∧ ∃ m, StT (setO ws p) w.heap.size v m ∧ Mem w' m ∧ ∀ p ∈ m, w.heap.size ≤ p.1) := by
 refine Ret.enterM (l := [.slice ad n cap, .int .i64 p]) Tryz.func11 rfl Tryz.ntmps11 rfl ([]) (no) (Mem.nil w) ?_
 refine wpM.seq (wpM.region ?_)
 refine LM.alloc Tryz.zeroValue30 rfl (fun b4 hb4 => ?_)
 refine LM.as rfl (LM.as rfl ?_)
 refine LM.nil (QM.sub (e' := [(0, _), (1, _), (4, _)]) au9 (QM.then ?_))
 refine wpM.seq ?_
 refine wpM.seq (wpM.region ?_)
 refine LM.mv rfl ?_
 refine LM.val (ov_lss rfl rfl) ?_
 refine LM.mv rfl ?_
 refine LM.splitD (t := 15) rfl (fun h1 => ?_) (fun h1 => ?_)
 ·
  refine LM.dr 15 rfl rfl rfl (LM.dr 15 rfl rfl rfl (LM.dr 15 rfl rfl rfl (LM.dr 15 rfl rfl rfl ?_)))
  refine LM.val (ov_pickT rfl rfl) ?_
  refine LM.nil (QM.sub (e' := [(0, _), (1, _), (4, _), (20, _)]) au9 (QM.then ?_))
  refine wpM.condT rfl ?_
  refine wpM.seq (wpM.region ?_)
  refine LM.val (ov_build (cs := #[_, _, _, _, _]) rfl (by first | rfl | kernel_rfl)) ?_
  refine LM.stW Tryz.sizeOf30 rfl rfl rfl rfl au7 au8 ?_
  refine LM.as rfl (LM.as rfl ?_)
  refine LM.nil (QM.sub (e' := [(4, _), (5, _), (6, _)]) au9 (QM.then ?_))
  refine wpM.ret ?_
  refine QM.then_ret ?_
  refine QM.leaveCs (ds := ([])) (.inl rfl) [.cell 4 30, .tmp 5, .tmp 6] Tryz.results11 hd_nil (rc_w rfl Tryz.isAgg30 Tryz.sizeOf30 rfl (rc_tmp rfl (rc_tmp rfl rc_nil))) ?_
  intro w' hm' hc'
  have hpar : setO ws p = (default, 0, 5) := (by unfold setO; rw [if_pos (by omega)]); rw [hpar]; exact ⟨hc', [], StT.none, Mem.nil _, fun p hp => by cases hp⟩
 refine LM.sp 15 rfl rfl rfl (LM.mv rfl (LM.sp 15 rfl rfl rfl (LM.mv rfl (LM.sp 15 rfl rfl rfl ?_))))
 refine LM.val (ov_len Tryz.underlying23 rfl) ?_
 refine LM.sp 15 rfl rfl rfl ?_
 refine LM.val (ov_gtr rfl rfl) ?_
 refine LM.val (ov_pickF rfl rfl) ?_
 refine LM.nil (QM.sub (e' := [(0, _), (1, _), (4, _), (20, _)]) au9 (QM.then ?_))
 refine wpM.condD rfl (fun h2 => ?_) (fun h2 => ?_)
 ·
  refine wpM.seq (wpM.region ?_)
  refine LM.val (ov_build (cs := #[_, _, _, _, _]) rfl (by first | rfl | kernel_rfl)) ?_
  refine LM.stW Tryz.sizeOf30 rfl rfl rfl rfl au7 au8 ?_
  refine LM.as rfl (LM.as rfl ?_)
  refine LM.nil (QM.sub (e' := [(4, _), (5, _), (6, _)]) au9 (QM.then ?_))
  refine wpM.ret ?_
  refine QM.then_ret ?_
  refine QM.leaveCs (ds := ([])) (.inl rfl) [.cell 4 30, .tmp 5, .tmp 6] Tryz.results11 hd_nil (rc_w rfl Tryz.isAgg30 Tryz.sizeOf30 rfl (rc_tmp rfl (rc_tmp rfl rc_nil))) ?_
  intro w' hm' hc'
  have hpar : setO ws p = (default, 0, 5) := (by unfold setO; rw [if_pos (by omega)]); rw [hpar]; exact ⟨hc', [], StT.none, Mem.nil _, fun p hp => by cases hp⟩
 obtain ⟨i0, rfl⟩ : ∃ i0 : Nat, p = (i0 : Nat) := ⟨p.toNat, by omega⟩; have hi0 : i0 ≤ ws.length := (by omega); have hle : (sL ws i0).2.1 ≤ ws.length := lkF_le _ _ _ _ (gpF_le _ _ _ _ (lin_le (lin_le (lin_le hi0))))
 refine wpM.skip ?_
 refine QM.then (wpM.seq (wpM.region ?_))
 refine LM.mv rfl (LM.mv rfl ?_)
 refine LM.val (ov_build (cs := #[_, _, _]) rfl (by first | rfl | kernel_rfl)) ?_
 refine LM.box rfl rfl (fun b25 hb25 => ?_)
 refine LM.as rfl ?_
 refine LM.nil (QM.sub (e' := [(4, _), (7, _)]) au9 (QM.then (wpM.seq (wpM.region ?_))))
 refine LM.alloc Tryz.zeroValue30 rfl (fun b8 hb8 => ?_)
 refine LM.nil (QM.sub (e' := [(4, _), (7, _), (8, _)]) au9 (QM.then (wpM.seq (wpM.region ?_))))
 have hab25 : 0 < ws.length → adB ad ≠ b25 := (fun h0 => by have := hl.adlt h0; omega)
 refine LM.mv rfl ?_
 refine LM.cW (oc_call (enters_fn Tryz.func34 (by kernel_rfl) rfl) rfl) (fun w hm hc hg => tfield_spec b25 i0 0 4 wCores w hn hx (hl.ext hc) hab25 (SubM.mem au1 w hm)) rfl au8 ?_
 refine LM.val (ov_field Tryz.underlying30 rfl Tryz.sizeOf3 rfl (k := 0) rfl rfl) ?_
 refine LM.st Tryz.sizeOf3 rfl rfl rfl au5 rfl au8 ?_
 refine LM.nil (QM.sub (e' := [(4, _), (7, _), (8, _)]) au9 (QM.then (wpM.seq (wpM.region ?_))))
 refine LM.mv rfl ?_
 refine LM.cW (oc_call (enters_fn Tryz.func35 (by kernel_rfl) rfl) rfl) (fun w hm hc hg => tend_spec b25 (fldE ws i0 0 wCores 4).1 (fldE ws i0 0 wCores 4).2.1 w hn hx (hl.ext hc) hab25 (SubM.mem au1 w hm)) rfl au8 ?_
 refine LM.nil (QM.sub (e' := [(4, _), (7, _), (8, _)]) au9 (QM.then (wpM.seq (wpM.region ?_))))
 refine LM.mv rfl ?_
 refine LM.cW (oc_call (enters_fn Tryz.func34 (by kernel_rfl) rfl) rfl) (fun w hm hc hg => tfield_spec b25 (sA ws i0).1 (sA ws i0).2.1 8 wGrain w hn hx (hl.ext hc) hab25 (SubM.mem au1 w hm)) rfl au8 ?_
 refine LM.val (ov_field Tryz.underlying30 rfl Tryz.sizeOf3 rfl (k := 1) rfl rfl) ?_
 refine LM.st Tryz.sizeOf3 rfl rfl rfl au5 rfl au8 ?_
 refine LM.nil (QM.sub (e' := [(4, _), (7, _), (8, _)]) au9 (QM.then (wpM.seq (wpM.region ?_))))
 refine LM.mv rfl ?_
 refine LM.cW (oc_call (enters_fn Tryz.func35 (by kernel_rfl) rfl) rfl) (fun w hm hc hg => tend_spec b25 (fldE ws (sA ws i0).1 (sA ws i0).2.1 wGrain 8).1 (fldE ws (sA ws i0).1 (sA ws i0).2.1 wGrain 8).2.1 w hn hx (hl.ext hc) hab25 (SubM.mem au1 w hm)) rfl au8 ?_
 refine LM.nil (QM.sub (e' := [(4, _), (7, _), (8, _)]) au9 (QM.then (wpM.seq (wpM.region ?_))))
 refine LM.mv rfl ?_
 refine LM.cWN (oc_call (enters_fn Tryz.func36 (by kernel_rfl) rfl) rfl) GpT.mono (fun w hm hc hg => tgroups_spec b25 (sB2 ws i0).1 (sB2 ws i0).2.1 w hn hx (hl.ext hc) hab25 (SubM.mem au1 w hm)) rfl au8 ?_
 rintro u37 m37 ⟨gs, adg, ng, cg, rfl, hng, hsg, hgs⟩ -
 refine LM.val (ov_field Tryz.underlying30 rfl Tryz.sizeOf26 rfl (k := 2) rfl rfl) ?_
 refine LM.st Tryz.sizeOf26 rfl rfl rfl au5 rfl au8 ?_
 refine LM.nil (QM.sub (e' := [(4, _), (7, _), (8, _)]) au9 (QM.then (wpM.seq (wpM.region ?_))))
 refine LM.mv rfl ?_
 refine LM.cWN (oc_call (enters_fn Tryz.func37 (by kernel_rfl) rfl) rfl) LkT.mono (fun w hm hc hg => tlocks_spec b25 (sG ws i0).2.1 (sG ws i0).2.2 w hn hx (hl.ext hc) hab25 (SubM.mem au1 w hm)) rfl au8 ?_
 rintro u40 m40 ⟨adl, nl, cl, rfl, hnl, hsl⟩ -
 refine LM.val (ov_field Tryz.underlying30 rfl Tryz.sizeOf27 rfl (k := 3) rfl rfl) ?_
 refine LM.st Tryz.sizeOf27 rfl rfl rfl au5 rfl au8 ?_
 refine LM.nil (QM.sub (e' := [(4, _), (7, _), (8, _)]) au9 (QM.then (wpM.seq (wpM.region ?_))))
 refine LM.mv rfl ?_
 refine LM.cWN (oc_call (enters_fn Tryz.func38 (by kernel_rfl) rfl) rfl) PgT.mono (fun w hm hc hg => tprogs_spec b25 (sL ws i0).2.1 (sL ws i0).2.2 w hn hx (hl.ext hc) hab25 (SubM.mem au1 w hm) hle) rfl au8 ?_
 rintro u44 m44 ⟨ps, adp, np, cp, adq, nq, cq, mp, mq, mo, rfl, hps, hnp, hp8, hnq, hplp, rfl, hsp, hsq, hop, hog⟩ -; have hI : SetI ws i0 gs (sG ws i0).2.1 (sG ws i0).2.2 (sL ws i0).1 (sL ws i0).2.1 (sL ws i0).2.2 (ps.map PgV.c) (sP ws i0).2.1 (sP ws i0).2.2.1 (sP ws i0).2.2.2 := ⟨⟨rfl, fun q => (hgs q).symm⟩, rfl, by rw [hps]; rfl⟩
 refine LM.mv rfl ?_
 refine LM.val (ov_extract rfl rfl) ?_
 refine LM.val (ov_extract rfl rfl) ?_
 refine LM.as rfl (LM.as rfl ?_)
 refine LM.nil (QM.sub (e' := [(4, _), (7, _), (8, _), (9, _), (10, _)]) au9 (QM.then (wpM.seq (wpM.region ?_))))
 refine LM.mv rfl (LM.val (ov_field Tryz.underlying30 rfl Tryz.sizeOf28 rfl (k := 4) rfl rfl) ?_)
 refine LM.st Tryz.sizeOf28 rfl rfl rfl au5 rfl au8 ?_
 refine LM.nil (QM.sub (e' := [(4, _), (7, _), (8, _), (10, _)]) au9 (QM.then ?_))
 refine wpM.seq ?_
 refine wpM.seq (wpM.region ?_)
 refine LM.mv rfl ?_
 refine LM.val (ov_nilCheck rfl) ?_
 refine LM.val (ov_field Tryz.underlying70 rfl Tryz.sizeOf31 rfl (k := 2) rfl rfl) ?_
 refine LM.rd (om_ld Tryz.isAgg31 rfl rfl) ?_
 refine LM.val (ov_neq rfl rfl) ?_
 refine LM.nil (QM.sub (e' := [(4, _), (7, _), (8, _), (10, _), (53, _)]) au9 (QM.then ?_))
 refine wpM.condD rfl (fun h3 => ?_) (fun h3 => ?_)
 ·
  refine wpM.seq ?_
  refine wpM.keep ((b25, _) :: []) (fun _ => True) (.one 0 0 (.one 1 0 (.one 2 0 (.one 3 0 (.one 4 1 (.one 5 0 (.one 6 0 (.one 7 0 (.one 8 1 (.one 9 2 (.one 10 0 (.one 11 0 .nil)))))))))))) (by kernel_rfl) (by kernel_rfl) au1 (fun _ _ => trivial) ?_
  refine KD.val rfl rfl (ov_build (cs := #[_, _, _, _, _]) rfl (by first | rfl | kernel_rfl)) ?_
  refine KD.val rfl rfl (ov_move rfl) ?_
  refine KD.val rfl rfl (ov_nilCheck rfl) ?_
  refine KD.val rfl rfl (ov_field Tryz.underlying70 rfl Tryz.sizeOf3 rfl (k := 1) rfl rfl) ?_
  refine KD.rd rfl rfl (om_ld Tryz.isAgg3 rfl rfl) ?_
  refine KD.val rfl rfl (ov_move rfl) ?_
  refine KD.val rfl rfl (ov_nilCheck rfl) ?_
  refine KD.val rfl rfl (ov_field Tryz.underlying70 rfl Tryz.sizeOf31 rfl (k := 2) rfl rfl) ?_
  refine KD.rd rfl rfl (om_ld Tryz.isAgg31 rfl rfl) ?_
  refine KD.one rfl ?_
  refine LM.stW Tryz.sizeOf30 rfl rfl rfl rfl au7 au8 ?_
  refine LM.nil ?_
  refine QM.one au1 (fun _ _ => trivial) ?_
  refine KD.val rfl rfl (ov_assign rfl) ?_
  refine KD.val rfl rfl (ov_assign rfl) ?_
  refine KD.nil ?_
  refine QM.sub (e' := [(4, _), (5, _), (6, _)]) au9 (QM.then ?_)
  refine wpM.ret ?_
  refine QM.then_ret ?_
  refine QM.leaveCs (ds := ([])) (.inl rfl) [.cell 4 30, .tmp 5, .tmp 6] Tryz.results11 hd_nil (rc_w rfl Tryz.isAgg30 Tryz.sizeOf30 rfl (rc_tmp rfl (rc_tmp rfl rc_nil))) ?_
  intro w' hm' hc'
  rw [set_nat hi0, hI.bad h3]; exact ⟨hc', [], StT.none, Mem.nil _, fun p hp => by cases hp⟩
 have he3 : (sP ws i0).2.2.2 = 0 := Classical.not_not.1 h3
 refine wpM.skip ?_
 refine QM.then ?_
 refine wpM.seq ?_
 refine wpM.seq (wpM.region ?_)
 refine LM.rd (om_ldW Tryz.isAgg30 Tryz.sizeOf30 rfl rfl) ?_
 refine LM.callE (oc_call (enters_fn Tryz.func39 (by kernel_rfl) rfl) rfl) (fun w hm hc hg => misfit_at (gs := gs) (ps := ps) w ⟨hng, sr_of_sl hsg (fun _ => rfl) (hm.pick m37), hnl, sr_of_sl hsl (fun _ => rfl) (hm.pick m40), hnp, sr_of_sl hsp (fun _ => rfl) (SubM.mem au1 w hm : Mem w (mp ++ [])).pickN, hop w (hm.pick mo)⟩ (by omega)) ?_
 refine LM.mv rfl ?_
 refine LM.val (ov_extract rfl rfl) ?_
 refine LM.val (ov_extract rfl rfl) ?_
 refine LM.as rfl (LM.as rfl ?_)
 refine LM.nil (QM.sub (e' := [(4, _), (7, _), (8, _), (10, _), (11, _), (12, _)]) au9 (QM.then (wpM.seq (wpM.region ?_))))
 refine LM.mv rfl ?_
 refine LM.val (ov_geq rfl rfl) ?_
 refine LM.nil (QM.sub (e' := [(4, _), (7, _), (8, _), (10, _), (11, _), (12, _), (69, _)]) au9 (QM.then ?_))
 refine wpM.condD rfl (fun h4 => ?_) (fun h4 => ?_)
 ·
  have hfx := (fix_ge (p := misB (sL ws i0).1 (ps.map PgV.c).length) (xs := ps.map PgV.c) default h4).1; have hfl : (ps.map PgV.c).length = ps.length := List.length_map ..; have h4' : 0 ≤ misI (sL ws i0).1 (ps.map PgV.c) := h4; have hfx : (misI (sL ws i0).1 (ps.map PgV.c)).toNat < ps.length := (by rw [← hfl]; exact hfx)
  refine wpM.seq ?_
  refine wpM.keep (mq ++ []) (fun _ => True) (.one 0 0 (.one 1 0 (.one 2 0 (.one 3 0 (.one 4 1 (.one 5 0 (.one 6 2 (.one 7 0 (.one 8 0 .nil))))))))) (by kernel_rfl) (by kernel_rfl) au1 (fun _ _ => trivial) ?_
  refine KD.val rfl rfl (ov_build (cs := #[_, _, _, _, _]) rfl (by first | rfl | kernel_rfl)) ?_
  refine KD.val rfl rfl (ov_move rfl) ?_
  refine KD.val rfl rfl (ov_move rfl) ?_
  first | refine KD.val rfl rfl (ov_idxSN au6 Tryz.underlying26 Tryz.sizeOf3 rfl rfl (by omega)) ?_ | refine KD.val rfl rfl (ov_idxS au6 Tryz.underlying26 Tryz.sizeOf3 rfl rfl (by omega)) ?_ | refine KD.val rfl rfl (ov_idx1 Tryz.underlying26 Tryz.sizeOf3 rfl rfl (by omega)) ?_
  refine KD.rd rfl rfl (om_sl1 (by assumption) (by intro _; rfl) Tryz.isAgg3 rfl rfl (by exact getq 0 au4) (by rfl)) ?_
  refine KD.val rfl rfl (ov_move rfl) ?_
  refine KD.one rfl ?_
  refine LM.stW Tryz.sizeOf30 rfl rfl rfl rfl au7 au8 ?_
  refine LM.nil ?_
  refine QM.one au1 (fun _ _ => trivial) ?_
  refine KD.val rfl rfl (ov_assign rfl) ?_
  refine KD.val rfl rfl (ov_assign rfl) ?_
  refine KD.nil ?_
  refine QM.sub (e' := [(4, _), (5, _), (6, _)]) au9 (QM.then ?_)
  refine wpM.ret ?_
  refine QM.then_ret ?_
  refine QM.leaveCs (ds := ([])) (.inl rfl) [.cell 4 30, .tmp 5, .tmp 6] Tryz.results11 hd_nil (rc_w rfl Tryz.isAgg30 Tryz.sizeOf30 rfl (rc_tmp rfl (rc_tmp rfl rc_nil))) ?_
  intro w' hm' hc'
  rw [set_nat hi0, hI.mis2 he3 h4]; exact ⟨hc', [], StT.none, Mem.nil _, fun p hp => by cases hp⟩
 refine wpM.skip ?_
 refine QM.then ?_
 refine wpM.seq ?_
 refine wpM.keep ((b25, _) :: (b8, _) :: []) (fun _ => True) (.one 0 1 (.one 1 0 (.one 2 0 (.one 3 0 (.one 4 1 (.one 5 2 (.one 6 0 (.one 7 0 .nil)))))))) (by kernel_rfl) (by kernel_rfl) au1 (fun _ _ => trivial) ?_
 refine KD.rd rfl rfl (om_ldW Tryz.isAgg30 Tryz.sizeOf30 rfl rfl) ?_
 refine KD.val rfl rfl (ov_move rfl) ?_
 refine KD.val rfl rfl (ov_nilCheck rfl) ?_
 refine KD.val rfl rfl (ov_field Tryz.underlying70 rfl Tryz.sizeOf3 rfl (k := 1) rfl rfl) ?_
 refine KD.rd rfl rfl (om_ld Tryz.isAgg3 rfl rfl) ?_
 refine KD.one rfl ?_
 refine LM.stW Tryz.sizeOf30 rfl rfl rfl rfl au7 au8 ?_
 refine LM.nil ?_
 refine QM.one au1 (fun _ _ => trivial) ?_
 refine KD.val rfl rfl (ov_assign rfl) ?_
 refine KD.val rfl rfl (ov_assign rfl) ?_
 refine KD.nil ?_
 refine QM.sub (e' := [(4, _), (5, _), (6, _)]) au9 (QM.then ?_)
 refine wpM.ret ?_
 refine QM.leaveCs (ds := ([])) (.inl rfl) [.cell 4 30, .tmp 5, .tmp 6] Tryz.results11 hd_nil (rc_w rfl Tryz.isAgg30 Tryz.sizeOf30 rfl (rc_tmp rfl (rc_tmp rfl rc_nil))) ?_
 intro w' hm' hc'
 rw [set_nat hi0, hI.ok he3 (fix_lt (p := misB (sL ws i0).1 (ps.map PgV.c).length) (xs := ps.map PgV.c) (fun q => h4 q))]; refine ⟨hc', mo ++ (mp ++ (m40 ++ (m37 ++ []))), ⟨sv ws i0 gs adg ng cg adl nl cl ps adp np cp, rfl, rfl, fun w hm => ⟨hng, sr_of_sl hsg (fun _ => rfl) (hm.pick m37), hnl, sr_of_sl hsl (fun _ => rfl) (hm.pick m40), hnp, sr_of_sl hsp (fun _ => rfl) (hm.pick mp), hop w (hm.pick mo)⟩⟩, SubM.mem (by (repeat' (first | exact SubM.nil _ | refine SubM.app ?_))) w' hm', ?_⟩; intro p hp; simp only [List.mem_append, List.not_mem_nil, or_false] at hp; rcases hp with hp | hp | hp | hp; exact hog p hp; exact Sl.ge hsp p hp; exact Sl.ge hsl p hp; exact Sl.ge hsg p hp
end Go.Eng
namespace Go.Eng
open Go Go.Proofs Go.RowKit
theorem eq_atD {α : Type} (d : α) {xs ys : List α} {i : Nat} (hl : xs.length = ys.length) (h : i < xs.length) (hp : xs.take i = ys.take i) (e : xs.getD i d = ys.getD i d) : xs.take (i + 1) = ys.take (i + 1) := by
  rw [take_snoc d h, take_snoc d (hl ▸ h), hp, e]
theorem eq_all {α : Type} {xs ys : List α} {i : Nat} (hl : xs.length = ys.length) (h : xs.length ≤ i) (hp : xs.take i = ys.take i) : xs = ys := by
  rw [List.take_of_length_le h, List.take_of_length_le (hl ▸ h)] at hp; exact hp
theorem fL_veqs (a b : CLk) : veqs (fL a) (fL b) = decide (a = b) := by
  cases a; cases b; simp only [veqs, veq, fL, Bool.and_true, CLk.mk.injEq, Bool.decide_and]; rfl
structure StV.Bd (s : StV) : Prop where
  g : s.gs.length ≤ 1000000
  l : s.ls.length ≤ 1000000
  p : s.ps.length ≤ 1000000
  o : ∀ p ∈ s.ps, p.c.xs.length ≤ 1000000
theorem eqS (a b : StV) : decide (a.C = b.C) = (decide (a.cr = b.cr) && (decide (a.gr = b.gr) && (decide (a.gs = b.gs) && (decide (a.ls = b.ls) && decide (a.ps.map PgV.c = b.ps.map PgV.c))))) := by
  simp only [StV.C, StC.mk.injEq, Bool.decide_and]
theorem pgc_eq (p q : PgC) : (decide (p.fv = q.fv) && decide (p.xs = q.xs)) = decide (p = q) := by
  cases p; cases q; simp only [PgC.mk.injEq, Bool.decide_and]
set_option maxRecDepth 100000 in
theorem eqs_i {xs ys : List Int} {ad1 ad2 : Option Addr} {n1 n2 cap1 cap2 : Nat} (w : World) (hn1 : n1 = xs.length) (hl1 : Sr fI 1 xs (.slice ad1 n1 cap1) w) (hn2 : n2 = ys.length) (hl2 : Sr fI 1 ys (.slice ad2 n2 cap2) w) (hx : xs.length ≤ 1000000000) : Ret Tryz.prog 62 #[.slice ad1 n1 cap1, .slice ad2 n2 cap2] w (fun v w' => v = .bool (decide (xs = ys)) ∧ Ext w w') := by
 refine Ret.enterM (l := [.slice ad1 n1 cap1, .slice ad2 n2 cap2]) Tryz.func62 rfl Tryz.ntmps62 rfl ([]) (no) (Mem.nil w) ?_
 refine wpM.seq (wpM.region ?_)
 refine LM.as rfl ?_
 refine LM.nil (QM.sub (e' := [(0, _), (1, _)]) au9 (QM.then ?_))
 refine wpM.seq ?_
 refine wpM.seq (wpM.region ?_)
 refine LM.mv rfl ?_
 refine LM.val (ov_len Tryz.underlying26 rfl) ?_
 refine LM.mv rfl ?_
 refine LM.val (ov_len Tryz.underlying26 rfl) ?_
 refine LM.val (ov_neq rfl rfl) ?_
 refine LM.nil (QM.sub (e' := [(0, _), (1, _), (10, _)]) au9 (QM.then ?_))
 refine wpM.condD rfl (fun h1 => ?_) (fun h1 => ?_)
 ·
  refine wpM.seq (wpM.region ?_)
  refine LM.as rfl ?_
  refine LM.nil (QM.sub (e' := [(4, _)]) ⟨rfl, trivial⟩ (QM.then ?_))
  refine wpM.ret ?_
  refine QM.then_ret ?_
  refine QM.leave (.inl rfl) [.tmp 4] Tryz.results62 rfl ?_
  intro w' hm' hc' hg'
  refine ⟨?_, hc'⟩; show Value.bool false = _; rw [decide_eq_false (show ¬ xs = ys by intro q; have := congrArg List.length q; omega)]
 refine wpM.skip ?_
 refine QM.then ?_
 refine wpM.seq ?_
 refine wpM.seq (wpM.region ?_)
 refine LM.mv rfl ?_
 refine LM.val (ov_len Tryz.underlying26 rfl) ?_
 refine LM.mv rfl ?_
 refine LM.nil (QM.sub (e' := [(0, _), (1, _), (12, _), (13, _)]) au9 (QM.then ?_))
 refine wpM.block ?_
 refine wpM.loopK0 (α := Nat) (fun i => [(13, .int .i64 (i : Nat))]) [(0, _), (1, _), (12, _)] (fun i => []) (fun i => i ≤ xs.length ∧ xs.take i = ys.take i) (fun i => xs.length - i) (0) ⟨au2, rfl, rfl, rfl, trivial⟩ au1 ⟨Nat.zero_le _, rfl⟩ ?_
 rintro i ⟨hi, ha⟩
 change wpM _ _ _ _ _ _ _ ([]) _ _ _
 refine wpM.seq (wpM.region ?_)
 refine LM.val (ov_lss rfl rfl) ?_
 refine LM.nil (QM.sub (e' := [(0, _), (1, _), (12, _), (13, _), (14, _)]) au9 (QM.then ?_))
 refine wpM.seq ?_
 refine wpM.condD rfl (fun h2 => ?_) (fun h2 => ?_)
 ·
  refine wpM.skip ?_
  refine QM.then ?_
  refine wpM.seq ?_
  refine wpM.block ?_
  refine wpM.seq (wpM.region ?_)
  refine LM.mv rfl (LM.as rfl ?_)
  refine LM.nil (QM.sub (e' := [(0, _), (1, _), (5, _), (12, _), (13, _)]) au9 (QM.then ?_))
  refine wpM.seq ?_
  refine wpM.draw [(0, 0), (1, 0), (2, 0), (3, 1), (4, 0), (5, 0), (6, 0), (7, 1), (8, 0)] (by kernel_rfl) (by kernel_rfl) ?_
  refine LD.val rfl rfl (ov_move rfl) ?_
  refine LD.val rfl rfl (ov_move rfl) ?_
  refine LD.val rfl rfl (ov_idxSN au6 Tryz.underlying26 Tryz.sizeOf3 rfl rfl (by omega)) ?_
  first | refine LD.rd rfl rfl (om_sl1 (by assumption) (by intro _; rfl) Tryz.isAgg3 rfl rfl (by exact getq 0 au4) (by rfl)) ?_ | refine LD.rdC rfl rfl (om_sr1 (by assumption) Tryz.isAgg3 rfl rfl (by exact getq 0 au4) (by rfl) id) ?_ | refine LD.rd rfl rfl (om_ld Tryz.isAgg3 rfl rfl) ?_
  refine LD.val rfl rfl (ov_move rfl) ?_
  refine LD.val rfl rfl (ov_move rfl) ?_
  refine LD.val rfl rfl (ov_idxSN au6 Tryz.underlying26 Tryz.sizeOf3 rfl rfl (by omega)) ?_
  first | refine LD.rd rfl rfl (om_sl1 (by assumption) (by intro _; rfl) Tryz.isAgg3 rfl rfl (by exact getq 0 au4) (by rfl)) ?_ | refine LD.rdC rfl rfl (om_sr1 (by assumption) Tryz.isAgg3 rfl rfl (by exact getq 0 au4) (by rfl) id) ?_ | refine LD.rd rfl rfl (om_ld Tryz.isAgg3 rfl rfl) ?_
  refine LD.val rfl rfl (ov_neq rfl rfl) ?_
  refine LD.nil ?_
  refine QM.sub (e' := [(0, _), (1, _), (12, _), (13, _), (24, _)]) au9 (QM.then ?_)
  refine wpM.condD rfl (fun h3 => ?_) (fun h3 => ?_)
  ·
   refine wpM.seq (wpM.region ?_)
   refine LM.as rfl ?_
   refine LM.nil (QM.sub (e' := [(4, _)]) ⟨rfl, trivial⟩ (QM.then ?_))
   refine wpM.ret ?_
   refine QM.block_ret ?_
   refine QM.then_ret ?_
   refine QM.then_ret ?_
   refine QM.block_ret ?_
   refine QM.then_ret ?_
   refine QM.leave (.inl rfl) [.tmp 4] Tryz.results62 rfl ?_
   intro w' hm' hc' hg'
   refine ⟨?_, hc'⟩; show Value.bool false = _; rw [decide_eq_false (show ¬ xs = ys by intro q; first | (rw [fL_veqs, q] at h3; simp at h3; done) | exact h3 (by rw [q]))]
  refine wpM.skip ?_
  refine QM.block_normal ?_
  refine QM.then (wpM.region ?_)
  refine LM.val (ov_add64 rfl rfl (by omega)) ?_
  refine LM.mv rfl ?_
  refine LM.nil (QM.sub (e' := [(0, _), (1, _), (12, _), (13, _)]) au9 ?_)
  refine QM.againK (i + 1) ⟨au2, rfl, rfl, rfl, trivial⟩ au1 (fun _ h => h) ?_ ?_
  · exact ⟨by omega, eq_atD 0 (by omega) (by omega) ha (by first | exact Classical.not_not.1 h3 | (rw [fL_veqs] at h3; simpa using h3))⟩
  · omega
 refine wpM.exit ?_
 refine QM.then_exit ?_
 refine QM.then_exit ?_
 refine QM.block_hit ?_
 refine QM.then (wpM.seq (wpM.region ?_))
 refine LM.as rfl ?_
 refine LM.nil (QM.sub (e' := [(4, _)]) ⟨rfl, trivial⟩ (QM.then ?_))
 refine wpM.ret ?_
 refine QM.leave (.inl rfl) [.tmp 4] Tryz.results62 rfl ?_
 intro w' hm' hc' hg'
 refine ⟨?_, hc'⟩; show Value.bool true = _; rw [decide_eq_true (eq_all (by omega) (by omega) ha)]
set_option maxRecDepth 100000 in
theorem eqs_l {xs ys : List CLk} {ad1 ad2 : Option Addr} {n1 n2 cap1 cap2 : Nat} (w : World) (hn1 : n1 = xs.length) (hl1 : Sr fL 5 xs (.slice ad1 n1 cap1) w) (hn2 : n2 = ys.length) (hl2 : Sr fL 5 ys (.slice ad2 n2 cap2) w) (hx : xs.length ≤ 1000000000) : Ret Tryz.prog 63 #[.slice ad1 n1 cap1, .slice ad2 n2 cap2] w (fun v w' => v = .bool (decide (xs = ys)) ∧ Ext w w') := by
 refine Ret.enterM (l := [.slice ad1 n1 cap1, .slice ad2 n2 cap2]) Tryz.func63 rfl Tryz.ntmps63 rfl ([]) (no) (Mem.nil w) ?_
 refine wpM.seq (wpM.region ?_)
 refine LM.as rfl ?_
 refine LM.nil (QM.sub (e' := [(0, _), (1, _)]) au9 (QM.then ?_))
 refine wpM.seq ?_
 refine wpM.seq (wpM.region ?_)
 refine LM.mv rfl ?_
 refine LM.val (ov_len Tryz.underlying27 rfl) ?_
 refine LM.mv rfl ?_
 refine LM.val (ov_len Tryz.underlying27 rfl) ?_
 refine LM.val (ov_neq rfl rfl) ?_
 refine LM.nil (QM.sub (e' := [(0, _), (1, _), (10, _)]) au9 (QM.then ?_))
 refine wpM.condD rfl (fun h1 => ?_) (fun h1 => ?_)
 ·
  refine wpM.seq (wpM.region ?_)
  refine LM.as rfl ?_
  refine LM.nil (QM.sub (e' := [(4, _)]) ⟨rfl, trivial⟩ (QM.then ?_))
  refine wpM.ret ?_
  refine QM.then_ret ?_
  refine QM.leave (.inl rfl) [.tmp 4] Tryz.results63 rfl ?_
  intro w' hm' hc' hg'
  refine ⟨?_, hc'⟩; show Value.bool false = _; rw [decide_eq_false (show ¬ xs = ys by intro q; have := congrArg List.length q; omega)]
 refine wpM.skip ?_
 refine QM.then ?_
 refine wpM.seq ?_
 refine wpM.seq (wpM.region ?_)
 refine LM.mv rfl ?_
 refine LM.val (ov_len Tryz.underlying27 rfl) ?_
 refine LM.mv rfl ?_
 refine LM.nil (QM.sub (e' := [(0, _), (1, _), (12, _), (13, _)]) au9 (QM.then ?_))
 refine wpM.block ?_
 refine wpM.loopK0 (α := Nat) (fun i => [(13, .int .i64 (i : Nat))]) [(0, _), (1, _), (12, _)] (fun i => []) (fun i => i ≤ xs.length ∧ xs.take i = ys.take i) (fun i => xs.length - i) (0) ⟨au2, rfl, rfl, rfl, trivial⟩ au1 ⟨Nat.zero_le _, rfl⟩ ?_
 rintro i ⟨hi, ha⟩
 change wpM _ _ _ _ _ _ _ ([]) _ _ _
 refine wpM.seq (wpM.region ?_)
 refine LM.val (ov_lss rfl rfl) ?_
 refine LM.nil (QM.sub (e' := [(0, _), (1, _), (12, _), (13, _), (14, _)]) au9 (QM.then ?_))
 refine wpM.seq ?_
 refine wpM.condD rfl (fun h2 => ?_) (fun h2 => ?_)
 ·
  refine wpM.skip ?_
  refine QM.then ?_
  refine wpM.seq ?_
  refine wpM.block ?_
  refine wpM.seq (wpM.region ?_)
  refine LM.mv rfl (LM.as rfl ?_)
  refine LM.nil (QM.sub (e' := [(0, _), (1, _), (5, _), (12, _), (13, _)]) au9 (QM.then ?_))
  refine wpM.seq ?_
  refine wpM.draw [(0, 0), (1, 0), (2, 0), (3, 1), (4, 0), (5, 0), (6, 0), (7, 1), (8, 0)] (by kernel_rfl) (by kernel_rfl) ?_
  refine LD.val rfl rfl (ov_move rfl) ?_
  refine LD.val rfl rfl (ov_move rfl) ?_
  refine LD.val rfl rfl (ov_idxSN au6 Tryz.underlying27 Tryz.sizeOf63 rfl rfl (by omega)) ?_
  first | refine LD.rd rfl rfl (om_slA (by assumption) (by intro _; rfl) Tryz.isAgg63 Tryz.sizeOf63 rfl au3) ?_ | refine LD.rdC rfl rfl (om_srEA (by assumption) (by intro _; rfl) Tryz.isAgg63 Tryz.sizeOf63 rfl au3 id) ?_ | refine LD.rd rfl rfl (om_ldW Tryz.isAgg63 Tryz.sizeOf63 rfl rfl) ?_ | refine LD.rd rfl rfl (om_ldA Tryz.isAgg63 Tryz.sizeOf63 rfl (vs := [_, _, _, _, _]) rfl ⟨rfl, rfl, rfl, rfl, rfl, trivial⟩) ?_
  refine LD.val rfl rfl (ov_move rfl) ?_
  refine LD.val rfl rfl (ov_move rfl) ?_
  refine LD.val rfl rfl (ov_idxSN au6 Tryz.underlying27 Tryz.sizeOf63 rfl rfl (by omega)) ?_
  first | refine LD.rd rfl rfl (om_slA (by assumption) (by intro _; rfl) Tryz.isAgg63 Tryz.sizeOf63 rfl au3) ?_ | refine LD.rdC rfl rfl (om_srEA (by assumption) (by intro _; rfl) Tryz.isAgg63 Tryz.sizeOf63 rfl au3 id) ?_ | refine LD.rd rfl rfl (om_ldW Tryz.isAgg63 Tryz.sizeOf63 rfl rfl) ?_ | refine LD.rd rfl rfl (om_ldA Tryz.isAgg63 Tryz.sizeOf63 rfl (vs := [_, _, _, _, _]) rfl ⟨rfl, rfl, rfl, rfl, rfl, trivial⟩) ?_
  refine LD.val rfl rfl (ov_aneq Tryz.underlying63 (by kernel_rfl) (by kernel_rfl) (by decide) rfl rfl (by rfl) ⟨(by first | rfl | trivial), (by first | rfl | trivial), (by first | rfl | trivial), (by first | rfl | trivial), (by first | rfl | trivial), trivial⟩) ?_
  refine LD.nil ?_
  refine QM.sub (e' := [(0, _), (1, _), (12, _), (13, _), (24, _)]) au9 (QM.then ?_)
  first | refine wpM.condD rfl (fun h3 => ?_) (fun h3 => ?_) | refine wpM.condB rfl (fun h3 => ?_) (fun h3 => ?_)
  ·
   refine wpM.seq (wpM.region ?_)
   refine LM.as rfl ?_
   refine LM.nil (QM.sub (e' := [(4, _)]) ⟨rfl, trivial⟩ (QM.then ?_))
   refine wpM.ret ?_
   refine QM.block_ret ?_
   refine QM.then_ret ?_
   refine QM.then_ret ?_
   refine QM.block_ret ?_
   refine QM.then_ret ?_
   refine QM.leave (.inl rfl) [.tmp 4] Tryz.results63 rfl ?_
   intro w' hm' hc' hg'
   refine ⟨?_, hc'⟩; show Value.bool false = _; rw [decide_eq_false (show ¬ xs = ys by intro q; first | (rw [fL_veqs, q] at h3; simp at h3; done) | exact h3 (by rw [q]))]
  refine wpM.skip ?_
  refine QM.block_normal ?_
  refine QM.then (wpM.region ?_)
  refine LM.val (ov_add64 rfl rfl (by omega)) ?_
  refine LM.mv rfl ?_
  refine LM.nil (QM.sub (e' := [(0, _), (1, _), (12, _), (13, _)]) au9 ?_)
  refine QM.againK (i + 1) ⟨au2, rfl, rfl, rfl, trivial⟩ au1 (fun _ h => h) ?_ ?_
  · exact ⟨by omega, eq_atD default (by omega) (by omega) ha (by first | exact Classical.not_not.1 h3 | (rw [fL_veqs] at h3; simpa using h3))⟩
  · omega
 refine wpM.exit ?_
 refine QM.then_exit ?_
 refine QM.then_exit ?_
 refine QM.block_hit ?_
 refine QM.then (wpM.seq (wpM.region ?_))
 refine LM.as rfl ?_
 refine LM.nil (QM.sub (e' := [(4, _)]) ⟨rfl, trivial⟩ (QM.then ?_))
 refine wpM.ret ?_
 refine QM.leave (.inl rfl) [.tmp 4] Tryz.results63 rfl ?_
 intro w' hm' hc' hg'
 refine ⟨?_, hc'⟩; show Value.bool true = _; rw [decide_eq_true (eq_all (by omega) (by omega) ha)]
set_option maxRecDepth 100000 in
theorem eqf_p {xs ys : List PgV} {ad1 ad2 : Option Addr} {n1 n2 cap1 cap2 : Nat} (w : World) (hn1 : n1 = xs.length) (hl1 : Sr fPg 2 xs (.slice ad1 n1 cap1) w) (hn2 : n2 = ys.length) (hl2 : Sr fPg 2 ys (.slice ad2 n2 cap2) w) (hx : xs.length ≤ 1000000) (ho1 : PgsIn xs w) (ho2 : PgsIn ys w) (hb : ∀ p ∈ xs, p.c.xs.length ≤ 1000000) : Ret Tryz.prog 64 #[.slice ad1 n1 cap1, .slice ad2 n2 cap2, .func (.func 65) #[] #[]] w (fun v w' => v = .bool (decide (xs.map PgV.c = ys.map PgV.c)) ∧ Ext w w') := by
 refine Ret.enterM (l := [.slice ad1 n1 cap1, .slice ad2 n2 cap2, .func (.func 65) #[] #[]]) Tryz.func64 rfl Tryz.ntmps64 rfl ([]) (no) (Mem.nil w) ?_
 refine wpM.seq (wpM.region ?_)
 refine LM.as rfl ?_
 refine LM.nil (QM.sub (e' := [(0, _), (1, _), (2, _)]) au9 (QM.then ?_))
 refine wpM.seq ?_
 refine wpM.seq (wpM.region ?_)
 refine LM.mv rfl ?_
 refine LM.val (ov_len Tryz.underlying28 rfl) ?_
 refine LM.mv rfl ?_
 refine LM.val (ov_len Tryz.underlying28 rfl) ?_
 refine LM.val (ov_neq rfl rfl) ?_
 refine LM.nil (QM.sub (e' := [(0, _), (1, _), (2, _), (14, _)]) au9 (QM.then ?_))
 refine wpM.condD rfl (fun h1 => ?_) (fun h1 => ?_)
 ·
  refine wpM.seq (wpM.region ?_)
  refine LM.as rfl ?_
  refine LM.nil (QM.sub (e' := [(6, _)]) ⟨rfl, trivial⟩ (QM.then ?_))
  refine wpM.ret ?_
  refine QM.then_ret ?_
  refine QM.leave (.inl rfl) [.tmp 6] Tryz.results64 rfl ?_
  intro w' hm' hc' hg'
  refine ⟨?_, hc'⟩; show Value.bool false = _; rw [decide_eq_false (show ¬ xs.map PgV.c = ys.map PgV.c by intro q; have := congrArg List.length q; simp at this; omega)]
 refine wpM.skip ?_
 refine QM.then ?_
 refine wpM.seq ?_
 refine wpM.seq (wpM.region ?_)
 refine LM.mv rfl ?_
 refine LM.val (ov_len Tryz.underlying28 rfl) ?_
 refine LM.mv rfl ?_
 refine LM.nil (QM.sub (e' := [(1, _), (2, _), (15, _), (16, _), (17, _)]) au9 (QM.then ?_))
 refine wpM.block ?_
 refine wpM.loopK0 (α := Nat) (fun i => [(17, .int .i64 (i : Nat))]) [(1, _), (2, _), (15, _), (16, _)] (fun i => []) (fun i => i ≤ xs.length ∧ (xs.map PgV.c).take i = (ys.map PgV.c).take i) (fun i => xs.length - i) (0) ⟨au2, rfl, rfl, rfl, rfl, trivial⟩ au1 ⟨Nat.zero_le _, rfl⟩ ?_
 rintro i ⟨hi, ha⟩
 change wpM _ _ _ _ _ _ _ ([]) _ _ _
 refine wpM.seq (wpM.region ?_)
 refine LM.val (ov_lss rfl rfl) ?_
 refine LM.nil (QM.sub (e' := [(1, _), (2, _), (15, _), (16, _), (17, _), (18, _)]) au9 (QM.then ?_))
 refine wpM.seq ?_
 refine wpM.condD rfl (fun h2 => ?_) (fun h2 => ?_)
 ·
  have hx1 : xs.getD i default ∈ xs := List.mem_of_getElem? (getq default (by omega)); have hx2 : ys.getD i default ∈ ys := List.mem_of_getElem? (getq default (by omega))
  refine wpM.skip ?_
  refine QM.then ?_
  refine wpM.seq ?_
  refine wpM.block ?_
  refine wpM.seq (wpM.region ?_)
  refine LM.mv rfl ?_
  refine LM.val (ov_idxSN au6 Tryz.underlying28 Tryz.sizeOf87 rfl rfl (by omega)) ?_
  first | refine LM.rd (om_slA (by assumption) (by intro _; rfl) Tryz.isAgg87 Tryz.sizeOf87 rfl au3) ?_ | refine LM.rdC (om_srEA (by assumption) (by intro _; rfl) Tryz.isAgg87 Tryz.sizeOf87 rfl au3 id) ?_ | refine LM.rd (om_ldW Tryz.isAgg87 Tryz.sizeOf87 rfl rfl) ?_ | refine LM.rd (om_ldA Tryz.isAgg87 Tryz.sizeOf87 rfl (vs := [_, _]) rfl ⟨rfl, rfl, trivial⟩) ?_
  refine LM.alloc Tryz.zeroValue87 rfl (fun b8 hb8 => ?_)
  refine LM.as rfl ?_
  refine LM.stW Tryz.sizeOf87 rfl rfl rfl rfl au7 au8 ?_
  refine LM.nil (QM.sub (e' := [(1, _), (2, _), (7, _), (8, _), (15, _), (16, _), (17, _)]) au9 (QM.then (wpM.seq (wpM.region ?_))))
  refine LM.mv rfl (LM.mv rfl ?_)
  refine LM.val (ov_idxSN au6 Tryz.underlying28 Tryz.sizeOf87 rfl rfl (by omega)) ?_
  first | refine LM.rd (om_slA (by assumption) (by intro _; rfl) Tryz.isAgg87 Tryz.sizeOf87 rfl au3) ?_ | refine LM.rdC (om_srEA (by assumption) (by intro _; rfl) Tryz.isAgg87 Tryz.sizeOf87 rfl au3 id) ?_ | refine LM.rd (om_ldW Tryz.isAgg87 Tryz.sizeOf87 rfl rfl) ?_ | refine LM.rd (om_ldA Tryz.isAgg87 Tryz.sizeOf87 rfl (vs := [_, _]) rfl ⟨rfl, rfl, trivial⟩) ?_
  refine LM.alloc Tryz.zeroValue87 rfl (fun b9 hb9 => ?_)
  refine LM.stW Tryz.sizeOf87 rfl rfl rfl rfl au7 au8 ?_
  refine LM.nil (QM.sub (e' := [(1, _), (2, _), (8, _), (9, _), (15, _), (16, _), (17, _)]) au9 (QM.then (wpM.seq (wpM.region ?_))))
  refine LM.mv rfl ?_
  refine LM.rd (om_ldW Tryz.isAgg87 Tryz.sizeOf87 rfl rfl) ?_
  refine LM.rd (om_ldW Tryz.isAgg87 Tryz.sizeOf87 rfl rfl) ?_
  refine LM.callE (oc_callV rfl (enters_fn Tryz.func65 (by kernel_rfl) rfl) rfl) (fun w hm hc hg => psame_spec w (ho1 _ hx1).1 ((ho1 _ hx1).2.ext hc) (ho2 _ hx2).1 ((ho2 _ hx2).2.ext hc) (by have := hb _ hx1; omega)) ?_
  first | refine LM.val (ov_notD rfl) ?_ | refine LM.val (ov_not rfl) ?_
  refine LM.nil (QM.sub (e' := [(1, _), (2, _), (15, _), (16, _), (17, _), (30, _)]) au9 (QM.then ?_))
  first | refine wpM.condD rfl (fun h3 => ?_) (fun h3 => ?_) | refine wpM.condB rfl (fun h3 => ?_) (fun h3 => ?_)
  ·
   refine wpM.seq (wpM.region ?_)
   refine LM.as rfl ?_
   refine LM.nil (QM.sub (e' := [(6, _)]) ⟨rfl, trivial⟩ (QM.then ?_))
   refine wpM.ret ?_
   refine QM.block_ret ?_
   refine QM.then_ret ?_
   refine QM.then_ret ?_
   refine QM.block_ret ?_
   refine QM.then_ret ?_
   refine QM.leave (.inl rfl) [.tmp 6] Tryz.results64 rfl ?_
   intro w' hm' hc' hg'
   refine ⟨?_, hc'⟩; show Value.bool false = _; rw [decide_eq_false (show ¬ xs.map PgV.c = ys.map PgV.c by intro q; rw [pgc_eq, ← map_getD, ← map_getD, q] at h3; simp at h3)]
  refine wpM.skip ?_
  refine QM.block_normal ?_
  refine QM.then (wpM.region ?_)
  refine LM.val (ov_add64 rfl rfl (by omega)) ?_
  refine LM.mv rfl ?_
  refine LM.nil (QM.sub (e' := [(1, _), (2, _), (15, _), (16, _), (17, _)]) au9 ?_)
  refine QM.againK (i + 1) ⟨au2, rfl, rfl, rfl, rfl, trivial⟩ au1 (fun _ h => h) ?_ ?_
  · exact ⟨by omega, eq_atD default (by simp; omega) (by simp; omega) ha (by rw [map_getD, map_getD]; rw [pgc_eq] at h3; simpa using h3)⟩
  · omega
 refine wpM.exit ?_
 refine QM.then_exit ?_
 refine QM.then_exit ?_
 refine QM.block_hit ?_
 refine QM.then (wpM.seq (wpM.region ?_))
 refine LM.as rfl ?_
 refine LM.nil (QM.sub (e' := [(6, _)]) ⟨rfl, trivial⟩ (QM.then ?_))
 refine wpM.ret ?_
 refine QM.leave (.inl rfl) [.tmp 6] Tryz.results64 rfl ?_
 intro w' hm' hc' hg'
 refine ⟨?_, hc'⟩; show Value.bool true = _; rw [decide_eq_true (eq_all (by simp; omega) (by simp; omega) ha)]
set_option maxRecDepth 100000 in
set_option maxHeartbeats 1000000 in
theorem ssame_spec {a b : StV} (w : World) (hA : a.In w) (hB : b.In w) (hb : a.Bd) : Ret Tryz.prog 22 #[a.val, b.val] w (fun v w' => v = .bool (decide (a.C = b.C)) ∧ Ext w w') := by
 refine Ret.enterM (l := [a.val, b.val]) Tryz.func22 rfl Tryz.ntmps22 rfl ([]) (no) (Mem.nil w) ?_
 refine wpM.seq (wpM.region ?_)
 refine LM.box rfl rfl (fun b2 hb2 => ?_)
 refine LM.box rfl rfl (fun b3 hb3 => ?_)
 refine LM.as rfl ?_
 refine LM.nil (QM.sub (e' := [(2, _), (3, _)]) au9 (QM.then (wpM.seq (wpM.region ?_))))
 refine LM.val (ov_field Tryz.underlying30 rfl Tryz.sizeOf3 rfl (k := 0) rfl rfl) ?_
 refine LM.rd (om_ld Tryz.isAgg3 rfl rfl) ?_
 refine LM.val (ov_field Tryz.underlying30 rfl Tryz.sizeOf3 rfl (k := 0) rfl rfl) ?_
 refine LM.rd (om_ld Tryz.isAgg3 rfl rfl) ?_
 refine LM.val (ov_eql rfl rfl) ?_
 refine LM.mv rfl ?_
 refine LM.splitD (t := 10) rfl (fun h1 => ?_) (fun h1 => ?_)
 ·
  refine LM.sp 10 rfl rfl rfl (LM.val (ov_field Tryz.underlying30 rfl Tryz.sizeOf3 rfl (k := 1) rfl rfl) (LM.sp 10 rfl rfl rfl ?_))
  refine LM.rd (om_ld Tryz.isAgg3 rfl rfl) ?_
  refine LM.sp 10 rfl rfl rfl (LM.val (ov_field Tryz.underlying30 rfl Tryz.sizeOf3 rfl (k := 1) rfl rfl) (LM.sp 10 rfl rfl rfl ?_))
  refine LM.rd (om_ld Tryz.isAgg3 rfl rfl) ?_
  refine LM.sp 10 rfl rfl rfl ?_
  refine LM.val (ov_eql rfl rfl) ?_
  refine LM.val (ov_pickT rfl rfl) ?_
  refine LM.mv rfl ?_
  refine LM.splitD (t := 17) rfl (fun h2 => ?_) (fun h2 => ?_)
  ·
   refine LM.sp 17 rfl rfl rfl (LM.val (ov_field Tryz.underlying30 rfl Tryz.sizeOf26 rfl (k := 2) rfl rfl) (LM.sp 17 rfl rfl rfl ?_))
   refine LM.rd (om_ld Tryz.isAgg26 rfl rfl) ?_
   refine LM.sp 17 rfl rfl rfl (LM.val (ov_field Tryz.underlying30 rfl Tryz.sizeOf26 rfl (k := 2) rfl rfl) (LM.sp 17 rfl rfl rfl ?_))
   refine LM.rd (om_ld Tryz.isAgg26 rfl rfl) ?_
   refine LM.sp 17 rfl rfl rfl ?_
   refine LM.callE (oc_call (enters_fn Tryz.func62 (by kernel_rfl) rfl) rfl) (fun w hm hc hg => eqs_i w hA.hgn (hA.hg.ext hc) hB.hgn (hB.hg.ext hc) (by have := hb.g; omega)) ?_
   refine LM.val (ov_pickT rfl rfl) ?_
   refine LM.mv rfl ?_
   refine LM.splitD (t := 24) rfl (fun h3 => ?_) (fun h3 => ?_)
   ·
    refine LM.sp 24 rfl rfl rfl (LM.val (ov_field Tryz.underlying30 rfl Tryz.sizeOf27 rfl (k := 3) rfl rfl) (LM.sp 24 rfl rfl rfl ?_))
    refine LM.rd (om_ld Tryz.isAgg27 rfl rfl) ?_
    refine LM.sp 24 rfl rfl rfl (LM.val (ov_field Tryz.underlying30 rfl Tryz.sizeOf27 rfl (k := 3) rfl rfl) (LM.sp 24 rfl rfl rfl ?_))
    refine LM.rd (om_ld Tryz.isAgg27 rfl rfl) ?_
    refine LM.sp 24 rfl rfl rfl ?_
    refine LM.callE (oc_call (enters_fn Tryz.func63 (by kernel_rfl) rfl) rfl) (fun w hm hc hg => eqs_l w hA.hln (hA.hl.ext hc) hB.hln (hB.hl.ext hc) (by have := hb.l; omega)) ?_
    refine LM.val (ov_pickT rfl rfl) ?_
    refine LM.mv rfl ?_
    refine LM.splitD (t := 31) rfl (fun h4 => ?_) (fun h4 => ?_)
    ·
     refine LM.sp 31 rfl rfl rfl (LM.val (ov_field Tryz.underlying30 rfl Tryz.sizeOf28 rfl (k := 4) rfl rfl) (LM.sp 31 rfl rfl rfl ?_))
     refine LM.rd (om_ld Tryz.isAgg28 rfl rfl) ?_
     refine LM.sp 31 rfl rfl rfl (LM.val (ov_field Tryz.underlying30 rfl Tryz.sizeOf28 rfl (k := 4) rfl rfl) (LM.sp 31 rfl rfl rfl ?_))
     refine LM.rd (om_ld Tryz.isAgg28 rfl rfl) ?_
     refine LM.sp 31 rfl rfl rfl ?_
     refine LM.callE (oc_call (enters_fn Tryz.func64 (by kernel_rfl) rfl) rfl) (fun w hm hc hg => eqf_p w hA.hpn (hA.hp.ext hc) hB.hpn (hB.hp.ext hc) hb.p (hA.ops.ext hc) (hB.ops.ext hc) hb.o) ?_
     refine LM.val (ov_pickT rfl rfl) ?_
     refine LM.as rfl ?_
     refine LM.nil (QM.sub (e' := [(4, _)]) ⟨rfl, trivial⟩ (QM.then ?_))
     refine wpM.ret ?_
     refine QM.leave (.inl rfl) [.tmp 4] Tryz.results22 rfl ?_
     intro w' hm' hc' hg'
     refine ⟨?_, hc'⟩; rw [eqS]; simp [resV, h1, h2, h3, h4]
    refine LM.dr 31 rfl rfl rfl (LM.dr 31 rfl rfl rfl (LM.dr 31 rfl rfl rfl (LM.dr 31 rfl rfl rfl (LM.dr 31 rfl rfl rfl ?_))))
    refine LM.val (ov_pickF rfl rfl) ?_
    refine LM.as rfl ?_
    refine LM.nil (QM.sub (e' := [(4, _)]) ⟨rfl, trivial⟩ (QM.then ?_))
    refine wpM.ret ?_
    refine QM.leave (.inl rfl) [.tmp 4] Tryz.results22 rfl ?_
    intro w' hm' hc' hg'
    refine ⟨?_, hc'⟩; rw [eqS]; simp [resV, h1, h2, h3, h4]
   refine LM.dr 24 rfl rfl rfl (LM.dr 24 rfl rfl rfl (LM.dr 24 rfl rfl rfl (LM.dr 24 rfl rfl rfl (LM.dr 24 rfl rfl rfl ?_))))
   refine LM.val (ov_pickF rfl rfl) ?_
   refine LM.mv rfl (LM.dr 31 rfl rfl rfl (LM.dr 31 rfl rfl rfl (LM.dr 31 rfl rfl rfl (LM.dr 31 rfl rfl rfl (LM.dr 31 rfl rfl rfl ?_)))))
   refine LM.val (ov_pickF rfl rfl) ?_
   refine LM.as rfl ?_
   refine LM.nil (QM.sub (e' := [(4, _)]) ⟨rfl, trivial⟩ (QM.then ?_))
   refine wpM.ret ?_
   refine QM.leave (.inl rfl) [.tmp 4] Tryz.results22 rfl ?_
   intro w' hm' hc' hg'
   refine ⟨?_, hc'⟩; rw [eqS]; simp [resV, h1, h2, h3]
  refine LM.dr 17 rfl rfl rfl (LM.dr 17 rfl rfl rfl (LM.dr 17 rfl rfl rfl (LM.dr 17 rfl rfl rfl (LM.dr 17 rfl rfl rfl ?_))))
  refine LM.val (ov_pickF rfl rfl) ?_
  refine LM.mv rfl (LM.dr 24 rfl rfl rfl (LM.dr 24 rfl rfl rfl (LM.dr 24 rfl rfl rfl (LM.dr 24 rfl rfl rfl (LM.dr 24 rfl rfl rfl ?_)))))
  refine LM.val (ov_pickF rfl rfl) ?_
  refine LM.mv rfl (LM.dr 31 rfl rfl rfl (LM.dr 31 rfl rfl rfl (LM.dr 31 rfl rfl rfl (LM.dr 31 rfl rfl rfl (LM.dr 31 rfl rfl rfl ?_)))))
  refine LM.val (ov_pickF rfl rfl) ?_
  refine LM.as rfl ?_
  refine LM.nil (QM.sub (e' := [(4, _)]) ⟨rfl, trivial⟩ (QM.then ?_))
  refine wpM.ret ?_
  refine QM.leave (.inl rfl) [.tmp 4] Tryz.results22 rfl ?_
  intro w' hm' hc' hg'
  refine ⟨?_, hc'⟩; rw [eqS]; simp [resV, h1, h2]
 refine LM.dr 10 rfl rfl rfl (LM.dr 10 rfl rfl rfl (LM.dr 10 rfl rfl rfl (LM.dr 10 rfl rfl rfl (LM.dr 10 rfl rfl rfl ?_))))
 refine LM.val (ov_pickF rfl rfl) ?_
 refine LM.mv rfl (LM.dr 17 rfl rfl rfl (LM.dr 17 rfl rfl rfl (LM.dr 17 rfl rfl rfl (LM.dr 17 rfl rfl rfl (LM.dr 17 rfl rfl rfl ?_)))))
 refine LM.val (ov_pickF rfl rfl) ?_
 refine LM.mv rfl (LM.dr 24 rfl rfl rfl (LM.dr 24 rfl rfl rfl (LM.dr 24 rfl rfl rfl (LM.dr 24 rfl rfl rfl (LM.dr 24 rfl rfl rfl ?_)))))
 refine LM.val (ov_pickF rfl rfl) ?_
 refine LM.mv rfl (LM.dr 31 rfl rfl rfl (LM.dr 31 rfl rfl rfl (LM.dr 31 rfl rfl rfl (LM.dr 31 rfl rfl rfl (LM.dr 31 rfl rfl rfl ?_)))))
 refine LM.val (ov_pickF rfl rfl) ?_
 refine LM.as rfl ?_
 refine LM.nil (QM.sub (e' := [(4, _)]) ⟨rfl, trivial⟩ (QM.then ?_))
 refine wpM.ret ?_
 refine QM.leave (.inl rfl) [.tmp 4] Tryz.results22 rfl ?_
 intro w' hm' hc' hg'
 refine ⟨?_, hc'⟩; rw [eqS]; simp [resV, h1]
set_option maxRecDepth 100000 in
set_option maxHeartbeats 2000000 in
theorem rssame_spec {a b : StV} (w : World) (hA : a.In w) (hB : b.In w) (hb : a.Bd) : Ret Tryz.prog 13 #[a.val, b.val] w (fun v w' => v = .bool (decide (a.C = b.C)) ∧ Ext w w') := by
 have a1 := hA.hgn; have a2 := hA.hg; have a3 := hA.hln; have a4 := hA.hl; have a5 := hA.hpn; have a6 := hA.hp; have b1' := hB.hgn; have b2' := hB.hg; have b3' := hB.hln; have b4' := hB.hl; have b5' := hB.hpn; have b6' := hB.hp; have c1 := hb.g; have c2 := hb.l; have c3 := hb.p
 refine Ret.enterM (l := [a.val, b.val]) Tryz.func13 rfl Tryz.ntmps13 rfl ([]) (no) (Mem.nil w) ?_
 refine wpM.seq (wpM.region ?_)
 refine LM.box rfl rfl (fun b2 hb2 => ?_)
 refine LM.box rfl rfl (fun b3 hb3 => ?_)
 refine LM.as rfl ?_
 refine LM.nil (QM.sub (e' := [(2, _), (3, _)]) au9 (QM.then ?_))
 refine wpM.seq ?_
 refine wpM.seq ?_
 refine wpM.joinK (α := Bool) (fun q => [(46, .bool q)]) [(2, _), (3, _)] (fun q => stB b2 a :: stB b3 b :: []) (fun q => q = (decide (a.cr ≠ b.cr) || (decide (a.gr ≠ b.gr) || (decide ((a.gn : Int) ≠ (b.gn : Int)) || (decide ((a.ln : Int) ≠ (b.ln : Int)) || decide ((a.pn : Int) ≠ (b.pn : Int))))))) ⟨rfl, rfl, trivial⟩ ?_ ?_
 ·
  refine wpM.region ?_
  refine LM.val (ov_field Tryz.underlying30 rfl Tryz.sizeOf3 rfl (k := 0) rfl rfl) ?_
  refine LM.rd (om_ld Tryz.isAgg3 rfl rfl) ?_
  refine LM.val (ov_field Tryz.underlying30 rfl Tryz.sizeOf3 rfl (k := 0) rfl rfl) ?_
  refine LM.rd (om_ld Tryz.isAgg3 rfl rfl) ?_
  refine LM.val (ov_neq rfl rfl) ?_
  refine LM.mv rfl ?_
  refine LM.splitD (t := 13) rfl (fun h1 => ?_) (fun h1 => ?_)
  ·
   refine LM.dr 13 rfl rfl rfl (LM.dr 13 rfl rfl rfl (LM.dr 13 rfl rfl rfl (LM.dr 13 rfl rfl rfl (LM.dr 13 rfl rfl rfl ?_))))
   refine LM.val (ov_pickT rfl rfl) ?_
   refine LM.mv rfl (LM.dr 20 rfl rfl rfl (LM.dr 20 rfl rfl rfl (LM.dr 20 rfl rfl rfl (LM.dr 20 rfl rfl rfl (LM.dr 20 rfl rfl rfl ?_)))))
   refine LM.dr 20 rfl rfl rfl (LM.dr 20 rfl rfl rfl ?_)
   refine LM.val (ov_pickT rfl rfl) ?_
   refine LM.mv rfl (LM.dr 29 rfl rfl rfl (LM.dr 29 rfl rfl rfl (LM.dr 29 rfl rfl rfl (LM.dr 29 rfl rfl rfl (LM.dr 29 rfl rfl rfl ?_)))))
   refine LM.dr 29 rfl rfl rfl (LM.dr 29 rfl rfl rfl ?_)
   refine LM.val (ov_pickT rfl rfl) ?_
   refine LM.mv rfl (LM.dr 38 rfl rfl rfl (LM.dr 38 rfl rfl rfl (LM.dr 38 rfl rfl rfl (LM.dr 38 rfl rfl rfl (LM.dr 38 rfl rfl rfl ?_)))))
   refine LM.dr 38 rfl rfl rfl (LM.dr 38 rfl rfl rfl ?_)
   refine LM.val (ov_pickT rfl rfl) ?_
   refine LM.nil (QM.sub (e' := [(2, _), (3, _), (46, _)]) au9 ?_)
   refine QM.meetK (_) ⟨au2, rfl, rfl, trivial⟩ au1 ?_
   · (simp [h1]; done)
  refine LM.sp 13 rfl rfl rfl (LM.val (ov_field Tryz.underlying30 rfl Tryz.sizeOf3 rfl (k := 1) rfl rfl) (LM.sp 13 rfl rfl rfl ?_))
  refine LM.rd (om_ld Tryz.isAgg3 rfl rfl) ?_
  refine LM.sp 13 rfl rfl rfl (LM.val (ov_field Tryz.underlying30 rfl Tryz.sizeOf3 rfl (k := 1) rfl rfl) (LM.sp 13 rfl rfl rfl ?_))
  refine LM.rd (om_ld Tryz.isAgg3 rfl rfl) ?_
  refine LM.sp 13 rfl rfl rfl ?_
  refine LM.val (ov_neq rfl rfl) ?_
  refine LM.val (ov_pickF rfl rfl) ?_
  refine LM.mv rfl ?_
  refine LM.splitD (t := 20) rfl (fun h2 => ?_) (fun h2 => ?_)
  ·
   refine LM.dr 20 rfl rfl rfl (LM.dr 20 rfl rfl rfl (LM.dr 20 rfl rfl rfl (LM.dr 20 rfl rfl rfl (LM.dr 20 rfl rfl rfl (LM.dr 20 rfl rfl rfl ?_)))))
   refine LM.dr 20 rfl rfl rfl ?_
   refine LM.val (ov_pickT rfl rfl) ?_
   refine LM.mv rfl (LM.dr 29 rfl rfl rfl (LM.dr 29 rfl rfl rfl (LM.dr 29 rfl rfl rfl (LM.dr 29 rfl rfl rfl (LM.dr 29 rfl rfl rfl ?_)))))
   refine LM.dr 29 rfl rfl rfl (LM.dr 29 rfl rfl rfl ?_)
   refine LM.val (ov_pickT rfl rfl) ?_
   refine LM.mv rfl (LM.dr 38 rfl rfl rfl (LM.dr 38 rfl rfl rfl (LM.dr 38 rfl rfl rfl (LM.dr 38 rfl rfl rfl (LM.dr 38 rfl rfl rfl ?_)))))
   refine LM.dr 38 rfl rfl rfl (LM.dr 38 rfl rfl rfl ?_)
   refine LM.val (ov_pickT rfl rfl) ?_
   refine LM.nil (QM.sub (e' := [(2, _), (3, _), (46, _)]) au9 ?_)
   refine QM.meetK (_) ⟨au2, rfl, rfl, trivial⟩ au1 ?_
   · (simp [h1, h2]; done)
  refine LM.sp 20 rfl rfl rfl (LM.val (ov_field Tryz.underlying30 rfl Tryz.sizeOf26 rfl (k := 2) rfl rfl) (LM.sp 20 rfl rfl rfl ?_))
  refine LM.rd (om_ld Tryz.isAgg26 rfl rfl) ?_
  refine LM.sp 20 rfl rfl rfl ?_
  refine LM.val (ov_len Tryz.underlying26 rfl) ?_
  refine LM.sp 20 rfl rfl rfl (LM.val (ov_field Tryz.underlying30 rfl Tryz.sizeOf26 rfl (k := 2) rfl rfl) (LM.sp 20 rfl rfl rfl ?_))
  refine LM.rd (om_ld Tryz.isAgg26 rfl rfl) ?_
  refine LM.sp 20 rfl rfl rfl ?_
  refine LM.val (ov_len Tryz.underlying26 rfl) ?_
  refine LM.sp 20 rfl rfl rfl ?_
  refine LM.val (ov_neq rfl rfl) ?_
  refine LM.val (ov_pickF rfl rfl) ?_
  refine LM.mv rfl ?_
  refine LM.splitD (t := 29) rfl (fun h3 => ?_) (fun h3 => ?_)
  ·
   refine LM.dr 29 rfl rfl rfl (LM.dr 29 rfl rfl rfl (LM.dr 29 rfl rfl rfl (LM.dr 29 rfl rfl rfl (LM.dr 29 rfl rfl rfl (LM.dr 29 rfl rfl rfl ?_)))))
   refine LM.dr 29 rfl rfl rfl ?_
   refine LM.val (ov_pickT rfl rfl) ?_
   refine LM.mv rfl (LM.dr 38 rfl rfl rfl (LM.dr 38 rfl rfl rfl (LM.dr 38 rfl rfl rfl (LM.dr 38 rfl rfl rfl (LM.dr 38 rfl rfl rfl ?_)))))
   refine LM.dr 38 rfl rfl rfl (LM.dr 38 rfl rfl rfl ?_)
   refine LM.val (ov_pickT rfl rfl) ?_
   refine LM.nil (QM.sub (e' := [(2, _), (3, _), (46, _)]) au9 ?_)
   refine QM.meetK (_) ⟨au2, rfl, rfl, trivial⟩ au1 ?_
   · (simp [h1, h2, h3]; done)
  refine LM.sp 29 rfl rfl rfl (LM.val (ov_field Tryz.underlying30 rfl Tryz.sizeOf27 rfl (k := 3) rfl rfl) (LM.sp 29 rfl rfl rfl ?_))
  refine LM.rd (om_ld Tryz.isAgg27 rfl rfl) ?_
  refine LM.sp 29 rfl rfl rfl ?_
  refine LM.val (ov_len Tryz.underlying27 rfl) ?_
  refine LM.sp 29 rfl rfl rfl (LM.val (ov_field Tryz.underlying30 rfl Tryz.sizeOf27 rfl (k := 3) rfl rfl) (LM.sp 29 rfl rfl rfl ?_))
  refine LM.rd (om_ld Tryz.isAgg27 rfl rfl) ?_
  refine LM.sp 29 rfl rfl rfl ?_
  refine LM.val (ov_len Tryz.underlying27 rfl) ?_
  refine LM.sp 29 rfl rfl rfl ?_
  refine LM.val (ov_neq rfl rfl) ?_
  refine LM.val (ov_pickF rfl rfl) ?_
  refine LM.mv rfl ?_
  refine LM.splitD (t := 38) rfl (fun h4 => ?_) (fun h4 => ?_)
  ·
   refine LM.dr 38 rfl rfl rfl (LM.dr 38 rfl rfl rfl (LM.dr 38 rfl rfl rfl (LM.dr 38 rfl rfl rfl (LM.dr 38 rfl rfl rfl (LM.dr 38 rfl rfl rfl ?_)))))
   refine LM.dr 38 rfl rfl rfl ?_
   refine LM.val (ov_pickT rfl rfl) ?_
   refine LM.nil (QM.sub (e' := [(2, _), (3, _), (46, _)]) au9 ?_)
   refine QM.meetK (_) ⟨au2, rfl, rfl, trivial⟩ au1 ?_
   · (simp [h1, h2, h3, h4]; done)
  refine LM.sp 38 rfl rfl rfl (LM.val (ov_field Tryz.underlying30 rfl Tryz.sizeOf28 rfl (k := 4) rfl rfl) (LM.sp 38 rfl rfl rfl ?_))
  refine LM.rd (om_ld Tryz.isAgg28 rfl rfl) ?_
  refine LM.sp 38 rfl rfl rfl ?_
  refine LM.val (ov_len Tryz.underlying28 rfl) ?_
  refine LM.sp 38 rfl rfl rfl (LM.val (ov_field Tryz.underlying30 rfl Tryz.sizeOf28 rfl (k := 4) rfl rfl) (LM.sp 38 rfl rfl rfl ?_))
  refine LM.rd (om_ld Tryz.isAgg28 rfl rfl) ?_
  refine LM.sp 38 rfl rfl rfl ?_
  refine LM.val (ov_len Tryz.underlying28 rfl) ?_
  refine LM.sp 38 rfl rfl rfl ?_
  refine LM.val (ov_neq rfl rfl) ?_
  refine LM.val (ov_pickF rfl rfl) ?_
  refine LM.nil (QM.sub (e' := [(2, _), (3, _), (46, _)]) au9 ?_)
  refine QM.meetK (_) ⟨au2, rfl, rfl, trivial⟩ au1 ?_
  · (simp [h1, h2, h3, h4]; done)
 rintro q hq
 change QM _ _ _ _ _ (stB b2 a :: stB b3 b :: []) _ _ _
 refine QM.then ?_
 first | refine wpM.condD rfl (fun h5 => ?_) (fun h5 => ?_) | refine wpM.condB rfl (fun h5 => ?_) (fun h5 => ?_)
 ·
  refine wpM.seq (wpM.region ?_)
  refine LM.as rfl ?_
  refine LM.nil (QM.sub (e' := [(4, _)]) ⟨rfl, trivial⟩ (QM.then ?_))
  refine wpM.ret ?_
  refine QM.then_ret ?_
  refine QM.leave (.inl rfl) [.tmp 4] Tryz.results13 rfl ?_
  intro w' hm' hc' hg'
  refine ⟨?_, hc'⟩; rw [decide_eq_false (fun (q : a.C = b.C) => by have f1 : a.cr = b.cr := congrArg StC.cr q; have f2 : a.gr = b.gr := congrArg StC.gr q; have f3 : a.gn = b.gn := (by rw [a1, b1', show a.gs = b.gs from congrArg StC.gs q]); have f4 : a.ln = b.ln := (by rw [a3, b3', show a.ls = b.ls from congrArg StC.ls q]); have f5 : a.pn = b.pn := (by have f6 : a.ps.map PgV.c = b.ps.map PgV.c := congrArg StC.ps q; have := congrArg List.length f6; simp at this; omega); rw [h5] at hq; simp [f1, f2, f3, f4, f5] at hq)]; rfl
 have hh := hq.symm; rw [h5] at hh; simp only [Bool.or_eq_false_iff, decide_eq_false_iff_not, Decidable.not_not, ne_eq] at hh; obtain ⟨e1, e2, e3, e4, e5⟩ := hh
 refine wpM.skip ?_
 refine QM.then ?_
 refine wpM.seq ?_
 refine wpM.seq (wpM.region ?_)
 refine LM.as rfl ?_
 refine LM.nil (QM.sub (e' := [(2, _), (3, _), (5, _)]) au9 (QM.then ?_))
 refine wpM.block ?_
 refine wpM.loopK0 (α := Nat) (fun i => [(5, .int .i64 (i : Nat))]) [(2, _), (3, _)] (fun i => stB b2 a :: stB b3 b :: []) (fun i => i ≤ a.gs.length ∧ a.gs.take i = b.gs.take i) (fun i => a.gs.length - i) (0) ⟨au2, rfl, rfl, trivial⟩ au1 ⟨Nat.zero_le _, rfl⟩ ?_
 rintro i ⟨hi, hg⟩
 change wpM _ _ _ _ _ _ _ (stB b2 a :: stB b3 b :: []) _ _ _
 refine wpM.seq ?_
 refine wpM.seq (wpM.region ?_)
 refine LM.mv rfl (LM.val (ov_field Tryz.underlying30 rfl Tryz.sizeOf26 rfl (k := 2) rfl rfl) ?_)
 refine LM.rd (om_ld Tryz.isAgg26 rfl rfl) ?_
 refine LM.val (ov_len Tryz.underlying26 rfl) ?_
 refine LM.val (ov_lss rfl rfl) ?_
 refine LM.nil (QM.sub (e' := [(2, _), (3, _), (5, _), (51, _)]) au9 (QM.then ?_))
 refine wpM.condD rfl (fun h6 => ?_) (fun h6 => ?_)
 ·
  refine wpM.skip ?_
  refine QM.then ?_
  refine wpM.seq ?_
  refine wpM.block ?_
  refine wpM.seq ?_
  refine wpM.draw [(0, 0), (1, 1), (2, 0), (3, 0), (4, 1), (5, 0), (6, 1), (7, 0), (8, 0), (9, 1), (10, 0)] (by kernel_rfl) (by kernel_rfl) ?_
  refine LD.val rfl rfl (ov_field Tryz.underlying30 rfl Tryz.sizeOf26 rfl (k := 2) rfl rfl) ?_
  refine LD.rd rfl rfl (om_ld Tryz.isAgg26 rfl rfl) ?_
  refine LD.val rfl rfl (ov_move rfl) ?_
  refine LD.val rfl rfl (ov_idxSN au6 Tryz.underlying26 Tryz.sizeOf3 rfl rfl (by omega)) ?_
  first | refine LD.rd rfl rfl (om_sl1 (by assumption) (by intro _; rfl) Tryz.isAgg3 rfl rfl (by exact getq 0 au4) (by rfl)) ?_ | refine LD.rdC rfl rfl (om_sr1 (by assumption) Tryz.isAgg3 rfl rfl (by exact getq 0 au4) (by rfl) id) ?_ | refine LD.rd rfl rfl (om_ld Tryz.isAgg3 rfl rfl) ?_
  refine LD.val rfl rfl (ov_field Tryz.underlying30 rfl Tryz.sizeOf26 rfl (k := 2) rfl rfl) ?_
  refine LD.rd rfl rfl (om_ld Tryz.isAgg26 rfl rfl) ?_
  refine LD.val rfl rfl (ov_move rfl) ?_
  refine LD.val rfl rfl (ov_idxSN au6 Tryz.underlying26 Tryz.sizeOf3 rfl rfl (by omega)) ?_
  first | refine LD.rd rfl rfl (om_sl1 (by assumption) (by intro _; rfl) Tryz.isAgg3 rfl rfl (by exact getq 0 au4) (by rfl)) ?_ | refine LD.rdC rfl rfl (om_sr1 (by assumption) Tryz.isAgg3 rfl rfl (by exact getq 0 au4) (by rfl) id) ?_ | refine LD.rd rfl rfl (om_ld Tryz.isAgg3 rfl rfl) ?_
  refine LD.val rfl rfl (ov_neq rfl rfl) ?_
  refine LD.nil ?_
  refine QM.sub (e' := [(2, _), (3, _), (5, _), (64, _)]) au9 (QM.then ?_)
  refine wpM.condD rfl (fun h7 => ?_) (fun h7 => ?_)
  ·
   refine wpM.seq (wpM.region ?_)
   refine LM.as rfl ?_
   refine LM.nil (QM.sub (e' := [(4, _)]) ⟨rfl, trivial⟩ (QM.then ?_))
   refine wpM.ret ?_
   refine QM.block_ret ?_
   refine QM.then_ret ?_
   refine QM.then_ret ?_
   refine QM.block_ret ?_
   refine QM.then_ret ?_
   refine QM.leave (.inl rfl) [.tmp 4] Tryz.results13 rfl ?_
   intro w' hm' hc' hg'
   refine ⟨?_, hc'⟩; rw [decide_eq_false (fun (q : a.C = b.C) => h7 (by rw [show a.gs = b.gs from congrArg StC.gs q]))]; rfl
  refine wpM.skip ?_
  refine QM.block_normal ?_
  refine QM.then (wpM.region ?_)
  refine LM.mv rfl ?_
  refine LM.val (ov_add64 rfl rfl (by omega)) ?_
  refine LM.as rfl ?_
  refine LM.nil (QM.sub (e' := [(2, _), (3, _), (5, _)]) au9 ?_)
  refine QM.againK (i + 1) ⟨au2, rfl, rfl, trivial⟩ au1 (fun _ h => h) ?_ ?_
  · exact ⟨by omega, eq_atD 0 (by omega) (by omega) hg (Classical.not_not.1 h7)⟩
  · omega
 refine wpM.exit ?_
 refine QM.then_exit ?_
 refine QM.then_exit ?_
 refine QM.block_hit ?_
 refine QM.then ?_
 refine wpM.seq ?_
 refine wpM.seq (wpM.region ?_)
 refine LM.as rfl ?_
 refine LM.nil (QM.sub (e' := [(2, _), (3, _), (6, _)]) au9 (QM.then ?_))
 refine wpM.block ?_
 refine wpM.loopK0 (α := Nat) (fun j => [(6, .int .i64 (j : Nat))]) [(2, _), (3, _)] (fun j => stB b2 a :: stB b3 b :: []) (fun j => j ≤ a.ls.length ∧ a.ls.take j = b.ls.take j) (fun j => a.ls.length - j) (0) ⟨au2, rfl, rfl, trivial⟩ au1 ⟨Nat.zero_le _, rfl⟩ ?_
 rintro j ⟨hj, hl⟩
 change wpM _ _ _ _ _ _ _ (stB b2 a :: stB b3 b :: []) _ _ _
 refine wpM.seq ?_
 refine wpM.seq (wpM.region ?_)
 refine LM.mv rfl (LM.val (ov_field Tryz.underlying30 rfl Tryz.sizeOf27 rfl (k := 3) rfl rfl) ?_)
 refine LM.rd (om_ld Tryz.isAgg27 rfl rfl) ?_
 refine LM.val (ov_len Tryz.underlying27 rfl) ?_
 refine LM.val (ov_lss rfl rfl) ?_
 refine LM.nil (QM.sub (e' := [(2, _), (3, _), (6, _), (69, _)]) au9 (QM.then ?_))
 refine wpM.condD rfl (fun h8 => ?_) (fun h8 => ?_)
 ·
  refine wpM.skip ?_
  refine QM.then ?_
  refine wpM.seq ?_
  refine wpM.block ?_
  refine wpM.seq ?_
  refine wpM.draw [(0, 0), (1, 1), (2, 0), (3, 0), (4, 1), (5, 0), (6, 1), (7, 0), (8, 0), (9, 1), (10, 0)] (by kernel_rfl) (by kernel_rfl) ?_
  refine LD.val rfl rfl (ov_field Tryz.underlying30 rfl Tryz.sizeOf27 rfl (k := 3) rfl rfl) ?_
  refine LD.rd rfl rfl (om_ld Tryz.isAgg27 rfl rfl) ?_
  refine LD.val rfl rfl (ov_move rfl) ?_
  refine LD.val rfl rfl (ov_idxSN au6 Tryz.underlying27 Tryz.sizeOf63 rfl rfl (by omega)) ?_
  first | refine LD.rd rfl rfl (om_slA (by assumption) (by intro _; rfl) Tryz.isAgg63 Tryz.sizeOf63 rfl au3) ?_ | refine LD.rdC rfl rfl (om_srEA (by assumption) (by intro _; rfl) Tryz.isAgg63 Tryz.sizeOf63 rfl au3 id) ?_ | refine LD.rd rfl rfl (om_ldW Tryz.isAgg63 Tryz.sizeOf63 rfl rfl) ?_ | refine LD.rd rfl rfl (om_ldA Tryz.isAgg63 Tryz.sizeOf63 rfl (vs := [_, _, _, _, _]) rfl ⟨rfl, rfl, rfl, rfl, rfl, trivial⟩) ?_
  refine LD.val rfl rfl (ov_field Tryz.underlying30 rfl Tryz.sizeOf27 rfl (k := 3) rfl rfl) ?_
  refine LD.rd rfl rfl (om_ld Tryz.isAgg27 rfl rfl) ?_
  refine LD.val rfl rfl (ov_move rfl) ?_
  refine LD.val rfl rfl (ov_idxSN au6 Tryz.underlying27 Tryz.sizeOf63 rfl rfl (by omega)) ?_
  first | refine LD.rd rfl rfl (om_slA (by assumption) (by intro _; rfl) Tryz.isAgg63 Tryz.sizeOf63 rfl au3) ?_ | refine LD.rdC rfl rfl (om_srEA (by assumption) (by intro _; rfl) Tryz.isAgg63 Tryz.sizeOf63 rfl au3 id) ?_ | refine LD.rd rfl rfl (om_ldW Tryz.isAgg63 Tryz.sizeOf63 rfl rfl) ?_ | refine LD.rd rfl rfl (om_ldA Tryz.isAgg63 Tryz.sizeOf63 rfl (vs := [_, _, _, _, _]) rfl ⟨rfl, rfl, rfl, rfl, rfl, trivial⟩) ?_
  refine LD.val rfl rfl (ov_aneq Tryz.underlying63 (by kernel_rfl) (by kernel_rfl) (by decide) rfl rfl (by rfl) ⟨(by first | rfl | trivial), (by first | rfl | trivial), (by first | rfl | trivial), (by first | rfl | trivial), (by first | rfl | trivial), trivial⟩) ?_
  refine LD.nil ?_
  refine QM.sub (e' := [(2, _), (3, _), (6, _), (82, _)]) au9 (QM.then ?_)
  first | refine wpM.condD rfl (fun h9 => ?_) (fun h9 => ?_) | refine wpM.condB rfl (fun h9 => ?_) (fun h9 => ?_)
  ·
   refine wpM.seq (wpM.region ?_)
   refine LM.as rfl ?_
   refine LM.nil (QM.sub (e' := [(4, _)]) ⟨rfl, trivial⟩ (QM.then ?_))
   refine wpM.ret ?_
   refine QM.block_ret ?_
   refine QM.then_ret ?_
   refine QM.then_ret ?_
   refine QM.block_ret ?_
   refine QM.then_ret ?_
   refine QM.leave (.inl rfl) [.tmp 4] Tryz.results13 rfl ?_
   intro w' hm' hc' hg'
   refine ⟨?_, hc'⟩; rw [decide_eq_false (fun (q : a.C = b.C) => by rw [fL_veqs, show a.ls = b.ls from congrArg StC.ls q] at h9; simp at h9)]; rfl
  refine wpM.skip ?_
  refine QM.block_normal ?_
  refine QM.then (wpM.region ?_)
  refine LM.mv rfl ?_
  refine LM.val (ov_add64 rfl rfl (by omega)) ?_
  refine LM.as rfl ?_
  refine LM.nil (QM.sub (e' := [(2, _), (3, _), (6, _)]) au9 ?_)
  refine QM.againK (j + 1) ⟨au2, rfl, rfl, trivial⟩ au1 (fun _ h => h) ?_ ?_
  · exact ⟨by omega, eq_atD default (by omega) (by omega) hl (by rw [fL_veqs] at h9; simpa using h9)⟩
  · omega
 refine wpM.exit ?_
 refine QM.then_exit ?_
 refine QM.then_exit ?_
 refine QM.block_hit ?_
 refine QM.then ?_
 refine wpM.seq ?_
 refine wpM.seq (wpM.region ?_)
 refine LM.as rfl ?_
 refine LM.nil (QM.sub (e' := [(2, _), (3, _), (7, _)]) au9 (QM.then ?_))
 refine wpM.block ?_
 refine wpM.loopK0 (α := Nat) (fun k => [(7, .int .i64 (k : Nat))]) [(2, _), (3, _)] (fun k => stB b2 a :: stB b3 b :: []) (fun k => k ≤ a.ps.length ∧ (a.ps.map PgV.c).take k = (b.ps.map PgV.c).take k) (fun k => a.ps.length - k) (0) ⟨au2, rfl, rfl, trivial⟩ au1 ⟨Nat.zero_le _, rfl⟩ ?_
 rintro k ⟨hk, hp⟩
 change wpM _ _ _ _ _ _ _ (stB b2 a :: stB b3 b :: []) _ _ _
 refine wpM.seq ?_
 refine wpM.seq (wpM.region ?_)
 refine LM.mv rfl (LM.val (ov_field Tryz.underlying30 rfl Tryz.sizeOf28 rfl (k := 4) rfl rfl) ?_)
 refine LM.rd (om_ld Tryz.isAgg28 rfl rfl) ?_
 refine LM.val (ov_len Tryz.underlying28 rfl) ?_
 refine LM.val (ov_lss rfl rfl) ?_
 refine LM.nil (QM.sub (e' := [(2, _), (3, _), (7, _), (87, _)]) au9 (QM.then ?_))
 refine wpM.condD rfl (fun h10 => ?_) (fun h10 => ?_)
 ·
  have hx1 : a.ps.getD k default ∈ a.ps := List.mem_of_getElem? (getq default (by omega)); have hx2 : b.ps.getD k default ∈ b.ps := List.mem_of_getElem? (getq default (by omega))
  refine wpM.skip ?_
  refine QM.then ?_
  refine wpM.seq ?_
  refine wpM.block ?_
  refine wpM.seq ?_
  refine wpM.draw [(0, 0), (1, 1), (2, 0), (3, 0), (4, 1), (5, 0), (6, 1), (7, 0), (8, 0), (9, 1), (10, 2), (11, 0)] (by kernel_rfl) (by kernel_rfl) ?_
  refine LD.val rfl rfl (ov_field Tryz.underlying30 rfl Tryz.sizeOf28 rfl (k := 4) rfl rfl) ?_
  refine LD.rd rfl rfl (om_ld Tryz.isAgg28 rfl rfl) ?_
  refine LD.val rfl rfl (ov_move rfl) ?_
  refine LD.val rfl rfl (ov_idxSN au6 Tryz.underlying28 Tryz.sizeOf87 rfl rfl (by omega)) ?_
  first | refine LD.rd rfl rfl (om_slA (by assumption) (by intro _; rfl) Tryz.isAgg87 Tryz.sizeOf87 rfl au3) ?_ | refine LD.rdC rfl rfl (om_srEA (by assumption) (by intro _; rfl) Tryz.isAgg87 Tryz.sizeOf87 rfl au3 id) ?_ | refine LD.rd rfl rfl (om_ldW Tryz.isAgg87 Tryz.sizeOf87 rfl rfl) ?_ | refine LD.rd rfl rfl (om_ldA Tryz.isAgg87 Tryz.sizeOf87 rfl (vs := [_, _]) rfl ⟨rfl, rfl, trivial⟩) ?_
  refine LD.val rfl rfl (ov_field Tryz.underlying30 rfl Tryz.sizeOf28 rfl (k := 4) rfl rfl) ?_
  refine LD.rd rfl rfl (om_ld Tryz.isAgg28 rfl rfl) ?_
  refine LD.val rfl rfl (ov_move rfl) ?_
  refine LD.val rfl rfl (ov_idxSN au6 Tryz.underlying28 Tryz.sizeOf87 rfl rfl (by omega)) ?_
  first | refine LD.rd rfl rfl (om_slA (by assumption) (by intro _; rfl) Tryz.isAgg87 Tryz.sizeOf87 rfl au3) ?_ | refine LD.rdC rfl rfl (om_srEA (by assumption) (by intro _; rfl) Tryz.isAgg87 Tryz.sizeOf87 rfl au3 id) ?_ | refine LD.rd rfl rfl (om_ldW Tryz.isAgg87 Tryz.sizeOf87 rfl rfl) ?_ | refine LD.rd rfl rfl (om_ldA Tryz.isAgg87 Tryz.sizeOf87 rfl (vs := [_, _]) rfl ⟨rfl, rfl, trivial⟩) ?_
  refine LD.callE rfl rfl (oc_call (enters_fn Tryz.func47 (by kernel_rfl) rfl) rfl) (fun w hm hc hg => rsame_spec w (hA.ops _ hx1).1 ((hA.ops _ hx1).2.ext hc) (hB.ops _ hx2).1 ((hB.ops _ hx2).2.ext hc) (by have := hb.o _ hx1; omega)) ?_
  first | refine LD.val rfl rfl (ov_notD rfl) ?_ | refine LD.val rfl rfl (ov_not rfl) ?_
  refine LD.nil ?_
  refine QM.sub (e' := [(2, _), (3, _), (7, _), (101, _)]) au9 (QM.then ?_)
  first | refine wpM.condD rfl (fun h11 => ?_) (fun h11 => ?_) | refine wpM.condB rfl (fun h11 => ?_) (fun h11 => ?_)
  ·
   refine wpM.seq (wpM.region ?_)
   refine LM.as rfl ?_
   refine LM.nil (QM.sub (e' := [(4, _)]) ⟨rfl, trivial⟩ (QM.then ?_))
   refine wpM.ret ?_
   refine QM.block_ret ?_
   refine QM.then_ret ?_
   refine QM.then_ret ?_
   refine QM.block_ret ?_
   refine QM.then_ret ?_
   refine QM.leave (.inl rfl) [.tmp 4] Tryz.results13 rfl ?_
   intro w' hm' hc' hg'
   refine ⟨?_, hc'⟩; rw [decide_eq_false (fun (q : a.C = b.C) => by rw [pgc_eq, ← map_getD, ← map_getD, show a.ps.map PgV.c = b.ps.map PgV.c from congrArg StC.ps q] at h11; simp at h11)]; rfl
  refine wpM.skip ?_
  refine QM.block_normal ?_
  refine QM.then (wpM.region ?_)
  refine LM.mv rfl ?_
  refine LM.val (ov_add64 rfl rfl (by omega)) ?_
  refine LM.as rfl ?_
  refine LM.nil (QM.sub (e' := [(2, _), (3, _), (7, _)]) au9 ?_)
  refine QM.againK (k + 1) ⟨au2, rfl, rfl, trivial⟩ au1 (fun _ h => h) ?_ ?_
  · exact ⟨by omega, eq_atD default (by simp; omega) (by simp; omega) hp (by rw [map_getD, map_getD]; rw [pgc_eq] at h11; simpa using h11)⟩
  · omega
 refine wpM.exit ?_
 refine QM.then_exit ?_
 refine QM.then_exit ?_
 refine QM.block_hit ?_
 refine QM.then (wpM.seq (wpM.region ?_))
 refine LM.as rfl ?_
 refine LM.nil (QM.sub (e' := [(4, _)]) ⟨rfl, trivial⟩ (QM.then ?_))
 refine wpM.ret ?_
 refine QM.leave (.inl rfl) [.tmp 4] Tryz.results13 rfl ?_
 intro w' hm' hc' hg'
 refine ⟨?_, hc'⟩; rw [decide_eq_true (show a.C = b.C by unfold StV.C; rw [e1, e2, eq_all (by omega) (by omega) hg, eq_all (by omega) (by omega) hl, eq_all (by simp; omega) (by simp; omega) hp])]; rfl
end Go.Eng
namespace Go.Eng
open Go Go.Proofs Go.RowKit
abbrev wrB (b : Nat) (ad : Option Addr) (n cap : Nat) : Nat × Obj := (b, .cells #[.slice ad n cap] 101 (0, 0))
def WrM (n0 b : Nat) (ws : List Wrd) (m : Mem0) : Prop := ∃ ad n cap ml, n = ws.length ∧ Sl fW 65 4 n0 ws (.slice ad n cap) ml ∧ n0 ≤ b ∧ m = wrB b ad n cap :: (ml ++ [])
def WrT (n0 b : Nat) (ws : List Wrd) (u : Value) (m : Mem0) : Prop := u = .tuple #[] ∧ WrM n0 b ws m
theorem fldW_len (t : List UInt8) (k : Int) : (fldW t k).length = 2 := rfl
theorem linW_len (t : List UInt8) (k : Int) : (linW t k).length = 3 := rfl
theorem lin_snoc {gs : List Int} {i : Nat} {t : List UInt8} (h : i < gs.length) : (gs.take (i + 1)).flatMap (linW t) = (gs.take i).flatMap (linW t) ++ linW t (gs.getD i 0) := by
  rw [take_snoc 0 h, List.flatMap_append]; simp
theorem lck_snoc {ls : List CLk} {i : Nat} (h : i < ls.length) : (ls.take (i + 1)).flatMap lckW = (ls.take i).flatMap lckW ++ lckW (ls.getD i default) := by
  rw [take_snoc default h, List.flatMap_append]; simp
def pgW (ps : List PgC) : List Wrd := ps.flatMap (fun p => wordsF p.fv p.xs)
theorem pgW_snoc {ps : List PgC} {i : Nat} (h : i < ps.length) : pgW (ps.take (i + 1)) = pgW (ps.take i) ++ wordsF (ps.getD i default).fv (ps.getD i default).xs := by
  unfold pgW; rw [take_snoc default h, List.flatMap_append]; simp
theorem lin_flen {gs : List Int} {t : List UInt8} : (gs.flatMap (linW t)).length = 3 * gs.length := by
  induction gs with
  | nil => rfl
  | cons a l ih => rw [List.flatMap_cons, List.length_append, ih, linW_len, List.length_cons]; omega
theorem lck_flen {ls : List CLk} : (ls.flatMap lckW).length ≤ 10 * ls.length := by
  induction ls with
  | nil => exact Nat.zero_le _
  | cons a l ih => rw [List.flatMap_cons, List.length_append, lckW_len, List.length_cons]; split <;> omega
theorem pg_flen {ps : List PgC} (h : ∀ p ∈ ps, p.xs.length ≤ 12) : (pgW ps).length ≤ 60 * ps.length := by
  unfold pgW
  induction ps with
  | nil => exact Nat.zero_le _
  | cons a l ih =>
    have h1 := words_len a.fv a.xs
    have h2 := h a (List.mem_cons_self ..)
    have h3 := ih (fun p hp => h p (List.mem_cons_of_mem _ hp))
    rw [List.flatMap_cons, List.length_append, List.length_cons]; omega
theorem setW_eq (s : StC) : setW s = linW wCores s.cr ++ linW wGrain s.gr ++ s.gs.flatMap (linW wGroup) ++ s.ls.flatMap lckW ++ pgW s.ps := rfl
theorem progs12 {s : StC} (h : mayS s = true) : ∀ p ∈ s.ps, p.xs.length ≤ 12 := fun p hp => (mayB_inv (List.all_eq_true.1 (mayS_progs h) p hp)).2.1
theorem setW_len {s : StC} (h : mayS s = true) : (setW s).length ≤ 600 := by
  obtain ⟨_, _, h1, _, h2, _, h3, _⟩ := mayS_inv h
  have a := lin_flen (gs := s.gs) (t := wGroup)
  have b := lck_flen (ls := s.ls)
  have c := pg_flen (progs12 h)
  rw [setW_eq]; simp only [List.length_append, linW_len]; omega
set_option maxRecDepth 100000 in
theorem wfield_spec {n0 : Nat} {ws : List Wrd} {m : Mem0} (b : Nat) (t : List UInt8) (k : Int) (w : World) (hW : WrM n0 b ws m) (hM : Mem w m) (hn0 : n0 ≤ w.heap.size) (hlx : ws.length ≤ 300000) : Ret Tryz.prog 101 #[.pointer (some ⟨b, 0, none⟩), vS t, .int .i64 k] w (Upd m (WrT n0 b (ws ++ fldW t k)) w) := by
 obtain ⟨ad, n, cap, ml, hn, hsl, hbw, rfl⟩ := hW
 refine Ret.enterM (l := [.pointer (some ⟨b, 0, none⟩), vS t, .int .i64 k]) Tryz.func101 rfl Tryz.ntmps101 rfl (wrB b ad n cap :: (ml ++ [])) ((fun x => ∃ q ∈ wrB b ad n cap :: (ml ++ []), q.1 = x)) hM ?_
 refine wpM.region ?_
 refine LM.mv rfl (LM.mv rfl ?_)
 refine LM.val (ov_nilCheck rfl) ?_
 refine LM.val (ov_field Tryz.underlying101 rfl Tryz.sizeOf23 rfl (k := 0) rfl rfl) ?_
 refine LM.rd (om_ld Tryz.isAgg23 rfl rfl) ?_
 refine LM.mv rfl ?_
 refine LM.val (ov_build (cs := #[_, _, _, _]) rfl (by first | rfl | kernel_rfl)) ?_
 refine LM.mv rfl ?_
 refine LM.val (ov_build (cs := #[_, _, _, _]) rfl (by first | rfl | kernel_rfl)) ?_
 refine LM.row (vs := [_, _]) Tryz.underlying23 Tryz.sizeOf65 Tryz.zeroValue65 rfl rfl rfl rfl rfl rfl (fun b15 hb15 => ?_)
 refine LM.appN (ys := fldW t k) Tryz.underlying23 Tryz.typeInfo65 rfl rfl rfl rfl rfl rfl rfl hsl (fun w hm hc hg => row_sr 2 (hm.at b15) rfl rfl (fun _ => rfl)) (by intro _; rfl) (by intro _ u hu; simp [fW] at hu; (repeat (first | (rcases hu with rfl | hu) | subst hu | rfl))) (by first | exact Nat.le_refl _ | omega) (fun p hp _ => ⟨p, List.mem_cons_of_mem _ (List.mem_append_left _ hp), rfl⟩) (by first | omega | (unfold maxLen; simp only [fldW_len, List.length_cons, List.length_nil]; omega) | (unfold maxLen; omega)) (by simp only [Tryz.t65, fldW_len, List.length_cons, List.length_nil]; omega) (fun ad16 n16 cap16 m16 hn16 hs16 hin16 => ?_)
 refine LM.val (ov_nilCheck rfl) ?_
 refine LM.val (ov_field Tryz.underlying101 rfl Tryz.sizeOf23 rfl (k := 0) rfl rfl) ?_
 refine LM.st Tryz.sizeOf23 rfl rfl rfl au5 rfl (fun hlt => by first | exact ⟨_, List.mem_cons_self .., rfl⟩ | exact absurd hlt (by omega)) ?_
 refine LM.nil (QM.sub (e' := []) trivial ?_)
 refine QM.leave (.inr rfl) [] Tryz.results101 rfl ?_
 intro w' hm' hc' hg'
 refine ⟨hc', wrB b ad16 n16 cap16 :: (m16 ++ []), ⟨rfl, ad16, n16, cap16, m16, by rw [hn16]; simp, hs16, hbw, rfl⟩, SubM.mem au1 w' hm', fun p hp => ?_⟩; rcases List.mem_cons.1 hp with rfl | hp; exact .inr ⟨_, List.mem_cons_self .., rfl⟩; rw [List.append_nil] at hp; rcases hin16 p hp with h | ⟨q, hq, hqp⟩; exact .inl h; exact .inr ⟨q, List.mem_cons_of_mem _ (List.mem_append_left _ hq), hqp⟩
set_option maxRecDepth 100000 in
theorem wend_spec {n0 : Nat} {ws : List Wrd} {m : Mem0} (b : Nat) (w : World) (hW : WrM n0 b ws m) (hM : Mem w m) (hn0 : n0 ≤ w.heap.size) (hlx : ws.length ≤ 300000) : Ret Tryz.prog 102 #[.pointer (some ⟨b, 0, none⟩)] w (Upd m (WrT n0 b (ws ++ [mk3 [59]])) w) := by
 obtain ⟨ad, n, cap, ml, hn, hsl, hbw, rfl⟩ := hW
 refine Ret.enterM (l := [.pointer (some ⟨b, 0, none⟩)]) Tryz.func102 rfl Tryz.ntmps102 rfl (wrB b ad n cap :: (ml ++ [])) ((fun x => ∃ q ∈ wrB b ad n cap :: (ml ++ []), q.1 = x)) hM ?_
 refine wpM.region ?_
 refine LM.mv rfl (LM.mv rfl ?_)
 refine LM.val (ov_nilCheck rfl) ?_
 refine LM.val (ov_field Tryz.underlying101 rfl Tryz.sizeOf23 rfl (k := 0) rfl rfl) ?_
 refine LM.rd (om_ld Tryz.isAgg23 rfl rfl) ?_
 refine LM.val (ov_build (cs := #[_, _, _, _]) rfl (by first | rfl | kernel_rfl)) ?_
 refine LM.single Tryz.underlying23 Tryz.sizeOf65 Tryz.zeroValue65 rfl rfl rfl rfl rfl (fun b8 hb8 => ?_)
 refine LM.appN (ys := [mk3 [59]]) Tryz.underlying23 Tryz.typeInfo65 rfl rfl rfl rfl rfl rfl rfl hsl (fun w hm hc hg => row_sr 1 (hm.at b8) rfl rfl (fun _ => rfl)) (by intro _; rfl) (by intro _ u hu; simp [fW] at hu; (repeat (first | (rcases hu with rfl | hu) | subst hu | rfl))) (by first | exact Nat.le_refl _ | omega) (fun p hp _ => ⟨p, List.mem_cons_of_mem _ (List.mem_append_left _ hp), rfl⟩) (by first | omega | (unfold maxLen; simp only [fldW_len, List.length_cons, List.length_nil]; omega) | (unfold maxLen; omega)) (by simp only [Tryz.t65, fldW_len, List.length_cons, List.length_nil]; omega) (fun ad9 n9 cap9 m9 hn9 hs9 hin9 => ?_)
 refine LM.val (ov_nilCheck rfl) ?_
 refine LM.val (ov_field Tryz.underlying101 rfl Tryz.sizeOf23 rfl (k := 0) rfl rfl) ?_
 refine LM.st Tryz.sizeOf23 rfl rfl rfl au5 rfl (fun hlt => by first | exact ⟨_, List.mem_cons_self .., rfl⟩ | exact absurd hlt (by omega)) ?_
 refine LM.nil (QM.sub (e' := []) trivial ?_)
 refine QM.leave (.inr rfl) [] Tryz.results102 rfl ?_
 intro w' hm' hc' hg'
 refine ⟨hc', wrB b ad9 n9 cap9 :: (m9 ++ []), ⟨rfl, ad9, n9, cap9, m9, by rw [hn9]; simp, hs9, hbw, rfl⟩, SubM.mem au1 w' hm', fun p hp => ?_⟩; rcases List.mem_cons.1 hp with rfl | hp; exact .inr ⟨_, List.mem_cons_self .., rfl⟩; rw [List.append_nil] at hp; rcases hin9 p hp with h | ⟨q, hq, hqp⟩; exact .inl h; exact .inr ⟨q, List.mem_cons_of_mem _ (List.mem_append_left _ hq), hqp⟩
theorem wr_cells {n0 b : Nat} {ws : List Wrd} {m : Mem0} (h : WrM n0 b ws m) : ∀ p ∈ m, wlk p.2 = false := by
  obtain ⟨ad, n, cap, ml, hn, hsl, hbw, rfl⟩ := h
  intro p hp
  rcases List.mem_cons.1 hp with rfl | hp
  · rfl
  · rw [List.append_nil] at hp; exact hsl.wlk p hp
theorem wr_ge {n0 b : Nat} {ws : List Wrd} {m : Mem0} (h : WrM n0 b ws m) : ∀ p ∈ m, n0 ≤ p.1 := by
  obtain ⟨ad, n, cap, ml, hn, hsl, hbw, rfl⟩ := h
  intro p hp
  rcases List.mem_cons.1 hp with rfl | hp
  · exact hbw
  · rw [List.append_nil] at hp; exact Sl.ge hsl p hp
theorem in_S {A B : Mem0} {k : Nat} (h : ∀ p ∈ B, k ≤ p.1 ∨ ∃ q ∈ A, q.1 = p.1) : ∀ p ∈ B, p.1 < k → ∃ q ∈ A, q.1 = p.1 := fun p hp hlt => (h p hp).resolve_left (by omega)
theorem in_tr {A B C : Mem0} {k : Nat} (h1 : ∀ p ∈ B, k ≤ p.1 ∨ ∃ q ∈ A, q.1 = p.1) (h2 : ∀ p ∈ C, k ≤ p.1 ∨ ∃ q ∈ B, q.1 = p.1) : ∀ p ∈ C, k ≤ p.1 ∨ ∃ q ∈ A, q.1 = p.1 := fun p hp => by
  rcases h2 p hp with h | ⟨q, hq, e⟩
  · exact .inl h
  · rcases h1 q hq with h | ⟨r, hr, e2⟩
    · exact .inl (by omega)
    · exact .inr ⟨r, hr, e2.trans e⟩
theorem in_wr {b : Nat} {ad ad' : Option Addr} {n n' cap cap' k : Nat} {ml m' : Mem0} (h : ∀ p ∈ m', k ≤ p.1 ∨ ∃ q ∈ ml, q.1 = p.1) : ∀ p ∈ wrB b ad' n' cap' :: (m' ++ []), k ≤ p.1 ∨ ∃ q ∈ wrB b ad n cap :: (ml ++ []), q.1 = p.1 := fun p hp => by
  rcases List.mem_cons.1 hp with rfl | hp
  · exact .inr ⟨_, List.mem_cons_self .., rfl⟩
  · rw [List.append_nil] at hp
    rcases h p hp with h | ⟨q, hq, hqp⟩
    · exact .inl h
    · exact .inr ⟨q, List.mem_cons_of_mem _ (List.mem_append_left _ hq), hqp⟩
set_option maxRecDepth 100000 in
theorem wline_spec {n0 : Nat} {ws : List Wrd} {m : Mem0} (b : Nat) (t : List UInt8) (k : Int) (w : World) (hW : WrM n0 b ws m) (hM : Mem w m) (hn0 : n0 ≤ w.heap.size) (hlx : ws.length ≤ 200000) : Ret Tryz.prog 56 #[.pointer (some ⟨b, 0, none⟩), vS t, .int .i64 k] w (Upd m (WrT n0 b (ws ++ linW t k)) w) := by
 refine Ret.enterM (l := [.pointer (some ⟨b, 0, none⟩), vS t, .int .i64 k]) Tryz.func56 rfl Tryz.ntmps56 rfl (m ++ []) ((fun x => ∃ q ∈ m, q.1 = x)) (by rw [List.append_nil]; exact hM) ?_
 refine wpM.seq (wpM.region ?_)
 refine LM.mv rfl (LM.mv rfl (LM.mv rfl ?_))
 refine LM.cU (oc_call (enters_fn Tryz.func101 (by kernel_rfl) rfl) rfl) (fun w hm hc hg => wfield_spec b t k w hW (hm.pick _) (Nat.le_trans hn0 hc.size) (by first | omega | (simp only [List.length_append, List.length_cons, List.length_nil, fldW_len, linW_len]; omega))) (wr_cells hW) (fun p hp _ => ⟨p, hp, rfl⟩) ?_
 rintro u9 m9 ⟨rfl, hW9⟩ hin9
 refine LM.nil (QM.sub (e' := [(0, _)]) ⟨rfl, trivial⟩ (QM.then (wpM.region ?_)))
 refine LM.mv rfl ?_
 refine LM.cU (oc_call (enters_fn Tryz.func102 (by kernel_rfl) rfl) rfl) (fun w hm hc hg => wend_spec b w hW9 (hm.pick _) (Nat.le_trans hn0 hc.size) (by first | omega | (simp only [List.length_append, List.length_cons, List.length_nil, fldW_len, linW_len]; omega))) (wr_cells hW9) (in_S hin9) ?_
 rintro u11 m11 ⟨rfl, hW11⟩ hin11
 refine LM.nil (QM.sub (e' := []) trivial ?_)
 refine QM.leave (.inr rfl) [] Tryz.results56 rfl ?_
 intro w' hm' hc' hg'
 refine ⟨hc', m11, ⟨rfl, by have e : ws ++ linW t k = ws ++ fldW t k ++ [mk3 [59]] := (by simp [linW]); rw [e]; exact hW11⟩, hm'.pick _, in_tr hin9 hin11⟩
set_option maxRecDepth 100000 in
set_option maxHeartbeats 1000000 in
theorem wlock_spec {n0 : Nat} {ws : List Wrd} {m : Mem0} (b : Nat) (x : CLk) (w : World) (hW : WrM n0 b ws m) (hM : Mem w m) (hn0 : n0 ≤ w.heap.size) (hlx : ws.length ≤ 200000) : Ret Tryz.prog 57 #[.pointer (some ⟨b, 0, none⟩), .agg (fL x).toArray] w (Upd m (WrT n0 b (ws ++ lckW x)) w) := by
 obtain ⟨ad, n, cap, ml, hn, hsl, hbw, rfl⟩ := hW
 refine Ret.enterM (l := [.pointer (some ⟨b, 0, none⟩), .agg (fL x).toArray]) Tryz.func57 rfl Tryz.ntmps57 rfl (wrB b ad n cap :: (ml ++ [])) ((fun x => ∃ q ∈ wrB b ad n cap :: (ml ++ []), q.1 = x)) hM ?_
 refine wpM.seq (wpM.region ?_)
 refine LM.box rfl rfl (fun b3 hb3 => ?_)
 refine LM.nil (QM.sub (e' := [(0, _), (3, _)]) au9 (QM.then (wpM.seq (wpM.region ?_))))
 refine LM.as rfl ?_
 refine LM.nil (QM.sub (e' := [(0, _), (3, _), (4, _)]) au9 (QM.then ?_))
 refine wpM.seq ?_
 refine wpM.seq (wpM.region ?_)
 refine LM.val (ov_field Tryz.underlying63 rfl Tryz.sizeOf4 rfl (k := 0) rfl rfl) ?_
 refine LM.rd (om_ld Tryz.isAgg4 rfl rfl) ?_
 refine LM.nil (QM.sub (e' := [(0, _), (3, _), (4, _), (6, _)]) au9 (QM.then ?_))
 refine wpM.joinK (α := List UInt8) (fun t => [(4, vS t)]) [(0, _), (3, _)] (fun t => wrB b ad n cap :: (ml ++ ((b3, .cells (fL x).toArray 63 (0, 0)) :: []))) (fun t => t = (if x.sh then wShared else wLock)) ⟨rfl, rfl, trivial⟩ ?_ ?_
 ·
  first | refine wpM.condD rfl (fun h1 => ?_) (fun h1 => ?_) | refine wpM.condB rfl (fun h1 => ?_) (fun h1 => ?_)
  ·
   refine wpM.region ?_
   refine LM.as rfl ?_
   refine LM.nil (QM.sub (e' := [(0, _), (3, _), (4, _)]) au9 ?_)
   refine QM.meetK (wShared) ⟨au2, rfl, rfl, trivial⟩ au1 ?_
   · rw [if_pos h1]
  refine wpM.skip ?_
  refine QM.meetK (wLock) ⟨au2, rfl, rfl, trivial⟩ au1 ?_
  · rw [if_neg (by rw [h1]; simp)]
 rintro t ht
 change QM _ _ _ _ _ (wrB b ad n cap :: (ml ++ ((b3, .cells (fL x).toArray 63 (0, 0)) :: []))) _ _ _
 refine QM.then (wpM.seq (wpM.region ?_))
 refine LM.mv rfl (LM.mv rfl ?_)
 refine LM.val (ov_nilCheck rfl) ?_
 refine LM.val (ov_field Tryz.underlying101 rfl Tryz.sizeOf23 rfl (k := 0) rfl rfl) ?_
 refine LM.rd (om_ld Tryz.isAgg23 rfl rfl) ?_
 refine LM.mv rfl ?_
 refine LM.val (ov_build (cs := #[_, _, _, _]) rfl (by first | rfl | kernel_rfl)) ?_
 refine LM.single Tryz.underlying23 Tryz.sizeOf65 Tryz.zeroValue65 rfl rfl rfl rfl rfl (fun b14 hb14 => ?_)
 refine LM.appN (ys := [nmE t]) Tryz.underlying23 Tryz.typeInfo65 rfl rfl rfl rfl rfl rfl rfl hsl (fun w hm hc hg => row_sr 1 (hm.at b14) rfl rfl (fun _ => rfl)) (by intro _; rfl) (by intro _ u hu; simp [fW] at hu; (repeat (first | (rcases hu with rfl | hu) | subst hu | rfl))) (by first | exact Nat.le_refl _ | omega) (fun p hp _ => ⟨p, List.mem_cons_of_mem _ (List.mem_append_left _ hp), rfl⟩) (by first | omega | (unfold maxLen; simp only [fldW_len, List.length_cons, List.length_nil]; omega) | (unfold maxLen; omega)) (by simp only [Tryz.t65, fldW_len, List.length_cons, List.length_nil]; omega) (fun ad15 n15 cap15 m15 hn15 hs15 hin15 => ?_); have hWa : WrM n0 b (ws ++ [nmE t]) (wrB b ad15 n15 cap15 :: (m15 ++ [])) := ⟨ad15, n15, cap15, m15, by rw [hn15]; simp, hs15, hbw, rfl⟩; have hina := in_wr (b := b) (ad := ad) (ad' := ad15) (n := n) (n' := n15) (cap := cap) (cap' := cap15) hin15
 refine LM.val (ov_nilCheck rfl) ?_
 refine LM.val (ov_field Tryz.underlying101 rfl Tryz.sizeOf23 rfl (k := 0) rfl rfl) ?_
 refine LM.st Tryz.sizeOf23 rfl rfl rfl au5 rfl (fun hlt => by first | exact ⟨_, List.mem_cons_self .., rfl⟩ | exact absurd hlt (by omega)) ?_
 refine LM.nil (QM.sub (e' := [(0, _), (3, _)]) au9 (QM.then (wpM.seq (wpM.region ?_))))
 change LM _ _ _ _ _ _ _ _ (wrB b ad15 n15 cap15 :: _) _ _ _
 refine LM.mv rfl (LM.val (ov_field Tryz.underlying63 rfl Tryz.sizeOf3 rfl (k := 1) rfl rfl) ?_)
 refine LM.rd (om_ld Tryz.isAgg3 rfl rfl) ?_
 refine LM.cU (oc_call (enters_fn Tryz.func101 (by kernel_rfl) rfl) rfl) (fun w hm hc hg => wfield_spec b wSlice x.sl w hWa (hm.pick _) (Nat.le_trans hn0 hc.size) (by first | omega | (simp only [List.length_append, List.length_cons, List.length_nil, fldW_len, linW_len]; omega))) (wr_cells hWa) (in_S hina) ?_
 rintro u21 m21 ⟨rfl, hW21⟩ hin21
 refine LM.nil (QM.sub (e' := [(0, _), (3, _)]) au9 (QM.then (wpM.seq (wpM.region ?_))))
 refine LM.mv rfl (LM.val (ov_field Tryz.underlying63 rfl Tryz.sizeOf3 rfl (k := 2) rfl rfl) ?_)
 refine LM.rd (om_ld Tryz.isAgg3 rfl rfl) ?_
 refine LM.cU (oc_call (enters_fn Tryz.func101 (by kernel_rfl) rfl) rfl) (fun w hm hc hg => wfield_spec b wCrit x.cr w hW21 (hm.pick _) (Nat.le_trans hn0 hc.size) (by first | omega | (simp only [List.length_append, List.length_cons, List.length_nil, fldW_len, linW_len]; omega))) (wr_cells hW21) (in_S (in_tr hina hin21)) ?_
 rintro u25 m25 ⟨rfl, hW25⟩ hin25
 refine LM.nil (QM.sub (e' := [(0, _), (3, _)]) au9 (QM.then ?_))
 refine wpM.seq ?_
 refine wpM.seq (wpM.region ?_)
 refine LM.val (ov_field Tryz.underlying63 rfl Tryz.sizeOf4 rfl (k := 0) rfl rfl) ?_
 refine LM.rd (om_ld Tryz.isAgg4 rfl rfl) ?_
 refine LM.nil (QM.sub (e' := [(0, _), (3, _), (27, _)]) au9 (QM.then ?_))
 first | refine wpM.condD rfl (fun h2 => ?_) (fun h2 => ?_) | refine wpM.condB rfl (fun h2 => ?_) (fun h2 => ?_)
 ·
  refine wpM.seq (wpM.region ?_)
  refine LM.mv rfl (LM.val (ov_field Tryz.underlying63 rfl Tryz.sizeOf3 rfl (k := 3) rfl rfl) ?_)
  refine LM.rd (om_ld Tryz.isAgg3 rfl rfl) ?_
  refine LM.cU (oc_call (enters_fn Tryz.func101 (by kernel_rfl) rfl) rfl) (fun w hm hc hg => wfield_spec b wRead x.rd w hW25 (hm.pick _) (Nat.le_trans hn0 hc.size) (by first | omega | (simp only [List.length_append, List.length_cons, List.length_nil, fldW_len, linW_len]; omega))) (wr_cells hW25) (in_S (in_tr hina (in_tr hin21 hin25))) ?_
  rintro u31 m31 ⟨rfl, hW31⟩ hin31
  refine LM.nil (QM.sub (e' := [(0, _), (3, _)]) au9 (QM.then (wpM.region ?_)))
  refine LM.mv rfl (LM.val (ov_field Tryz.underlying63 rfl Tryz.sizeOf3 rfl (k := 4) rfl rfl) ?_)
  refine LM.rd (om_ld Tryz.isAgg3 rfl rfl) ?_
  refine LM.cU (oc_call (enters_fn Tryz.func101 (by kernel_rfl) rfl) rfl) (fun w hm hc hg => wfield_spec b wWrite x.wr w hW31 (hm.pick _) (Nat.le_trans hn0 hc.size) (by first | omega | (simp only [List.length_append, List.length_cons, List.length_nil, fldW_len, linW_len]; omega))) (wr_cells hW31) (in_S (in_tr hina (in_tr hin21 (in_tr hin25 hin31)))) ?_
  rintro u35 m35 ⟨rfl, hW35⟩ hin35; have hWe := hW35; have hine := in_tr hina (in_tr hin21 (in_tr hin25 (in_tr hin31 hin35)))
  refine LM.nil (QM.sub (e' := [(0, _)]) ⟨rfl, trivial⟩ (QM.then (wpM.region ?_)))
  refine LM.mv rfl ?_
  refine LM.cU (oc_call (enters_fn Tryz.func102 (by kernel_rfl) rfl) rfl) (fun w hm hc hg => wend_spec b w hWe (hm.pick _) (Nat.le_trans hn0 hc.size) (by first | omega | (simp only [List.length_append, List.length_cons, List.length_nil, fldW_len, linW_len]; omega))) (wr_cells hWe) (in_S hine) ?_
  rintro u37 m37 ⟨rfl, hW37⟩ hin37
  refine LM.nil (QM.sub (e' := []) trivial ?_)
  refine QM.leave (.inr rfl) [] Tryz.results57 rfl ?_
  intro w' hm' hc' hg'
  refine ⟨hc', m37, ⟨rfl, by have e : ws ++ lckW x = ws ++ [nmE t] ++ fldW wSlice x.sl ++ fldW wCrit x.cr ++ fldW wRead x.rd ++ fldW wWrite x.wr ++ [mk3 [59]] := (by unfold lckW; rw [ht]; simp [h2]); rw [e]; exact hW37⟩, hm'.pick _, in_tr hine hin37⟩
 have hWe := hW25; have hine := in_tr hina (in_tr hin21 hin25)
 refine wpM.skip ?_
 refine QM.then (wpM.region ?_)
 refine LM.mv rfl ?_
 refine LM.cU (oc_call (enters_fn Tryz.func102 (by kernel_rfl) rfl) rfl) (fun w hm hc hg => wend_spec b w hWe (hm.pick _) (Nat.le_trans hn0 hc.size) (by first | omega | (simp only [List.length_append, List.length_cons, List.length_nil, fldW_len, linW_len]; omega))) (wr_cells hWe) (in_S hine) ?_
 rintro u37 m37 ⟨rfl, hW37⟩ hin37
 refine LM.nil (QM.sub (e' := []) trivial ?_)
 refine QM.leave (.inr rfl) [] Tryz.results57 rfl ?_
 intro w' hm' hc' hg'
 refine ⟨hc', m37, ⟨rfl, by have e : ws ++ lckW x = ws ++ [nmE t] ++ fldW wSlice x.sl ++ fldW wCrit x.cr ++ [mk3 [59]] := (by unfold lckW; rw [ht]; simp [h2]); rw [e]; exact hW37⟩, hm'.pick _, in_tr hine hin37⟩
set_option maxRecDepth 100000 in
set_option maxHeartbeats 2000000 in
theorem swords_spec {s : StV} (w : World) (hI : s.In w) : Ret Tryz.prog 18 #[s.val] w (fun v w' => Ext w w' ∧ ∃ m, WoT (wordsS s.C) w.heap.size v m ∧ Mem w' m ∧ ∀ p ∈ m, w.heap.size ≤ p.1) := by
 have hgn := hI.hgn; have hln := hI.hln; have hpn := hI.hpn; have hpS := hI.hp; have hgS := hI.hg; have hlS := hI.hl
 refine Ret.enterM (l := [s.val]) Tryz.func18 rfl Tryz.ntmps18 rfl ([]) (no) (Mem.nil w) ?_
 refine wpM.seq (wpM.region ?_)
 refine LM.box rfl rfl (fun b1 hb1 => ?_)
 refine LM.as rfl (LM.as rfl ?_)
 refine LM.nil (QM.sub (e' := [(1, _)]) ⟨rfl, trivial⟩ (QM.then ?_))
 refine wpM.seq ?_
 refine wpM.seq (wpM.region ?_)
 refine LM.rd (om_ldW Tryz.isAgg30 Tryz.sizeOf30 rfl rfl) ?_
 refine LM.callE (oc_call (enters_fn Tryz.func14 (by kernel_rfl) rfl) rfl) (fun w hm hc hg => mayS_spec w (hI.ext hc)) ?_
 first | refine LM.val (ov_notD rfl) ?_ | refine LM.val (ov_not rfl) ?_
 refine LM.nil (QM.sub (e' := [(1, _), (15, _)]) au9 (QM.then ?_))
 first | refine wpM.condD rfl (fun h1 => ?_) (fun h1 => ?_) | refine wpM.condB rfl (fun h1 => ?_) (fun h1 => ?_)
 ·
  refine wpM.seq (wpM.region ?_)
  refine LM.as rfl (LM.as rfl ?_)
  refine LM.nil (QM.sub (e' := [(2, _), (3, _)]) au9 (QM.then ?_))
  refine wpM.ret ?_
  refine QM.then_ret ?_
  refine QM.leave (.inl rfl) [.tmp 2, .tmp 3] Tryz.results18 rfl ?_
  intro w' hm' hc' hg'
  have hm0 : mayS s.C = false := (by simpa using h1); have hw : wordsS s.C = ([], 1) := (by unfold wordsS; rw [if_neg (by rw [hm0]; simp)]); rw [hw]; exact ⟨hc', [], ⟨none, 0, 0, rfl, rfl, .nil _ _ _ _⟩, Mem.nil _, fun p hp => by cases hp⟩
 have hmS : mayS s.C = true := (by simpa using h1); obtain ⟨_, _, hg4, _, hl8, _, hp8, _⟩ := mayS_inv hmS; have hg4 : 1 ≤ s.gs.length ∧ s.gs.length ≤ 4 := hg4; have hl8 : s.ls.length ≤ 8 := hl8; have hcl : (s.ps.map PgV.c).length = s.ps.length := List.length_map ..; have hp8 : 1 ≤ s.ps.length ∧ s.ps.length ≤ 8 := (by have h9 : 1 ≤ (s.ps.map PgV.c).length ∧ (s.ps.map PgV.c).length ≤ 8 := hp8; omega); have hp12 : ∀ p ∈ s.ps.map PgV.c, p.xs.length ≤ 12 := progs12 hmS
 refine wpM.skip ?_
 refine QM.then (wpM.seq (wpM.region ?_))
 refine LM.val (ov_build (cs := #[_]) rfl (by first | rfl | kernel_rfl)) ?_
 refine LM.box rfl rfl (fun b17 hb17 => ?_)
 refine LM.as rfl ?_
 refine LM.nil (QM.sub (e' := [(1, _), (4, _)]) au9 (QM.then (wpM.seq (wpM.region ?_))))
 change LM _ _ _ _ _ _ _ _ (wrB b17 none 0 0 :: _) _ _ _; have hW17 : WrM w.heap.size b17 [] (wrB b17 none 0 0 :: []) := ⟨none, 0, 0, [], rfl, .nil _ _ _ _, hb17, rfl⟩
 refine LM.mv rfl (LM.val (ov_field Tryz.underlying30 rfl Tryz.sizeOf3 rfl (k := 0) rfl rfl) ?_)
 refine LM.rd (om_ld Tryz.isAgg3 rfl rfl) ?_
 refine LM.cU (oc_call (enters_fn Tryz.func56 (by kernel_rfl) rfl) rfl) (fun w hm hc hg => wline_spec b17 wCores s.cr w hW17 (hm.pick _) hc.size (by simp)) (wr_cells hW17) (fun p hp hlt => absurd hlt (Nat.not_lt_of_le (wr_ge hW17 p hp))) ?_
 rintro u21 m21 ⟨rfl, hW21⟩ hin21
 refine LM.nil (QM.sub (e' := [(1, _), (4, _)]) au9 (QM.then (wpM.seq (wpM.region ?_))))
 refine LM.mv rfl (LM.val (ov_field Tryz.underlying30 rfl Tryz.sizeOf3 rfl (k := 1) rfl rfl) ?_)
 refine LM.rd (om_ld Tryz.isAgg3 rfl rfl) ?_
 refine LM.cU (oc_call (enters_fn Tryz.func56 (by kernel_rfl) rfl) rfl) (fun w hm hc hg => wline_spec b17 wGrain s.gr w hW21 (hm.pick _) hc.size (by simp [linW_len])) (wr_cells hW21) (fun p hp hlt => absurd hlt (Nat.not_lt_of_le (wr_ge hW21 p hp))) ?_
 rintro u25 m25 ⟨rfl, hW25⟩ hin25
 refine LM.nil (QM.sub (e' := [(1, _), (4, _)]) au9 (QM.then ?_))
 refine wpM.seq ?_
 refine wpM.seq (wpM.region ?_)
 refine LM.val (ov_field Tryz.underlying30 rfl Tryz.sizeOf26 rfl (k := 2) rfl rfl) ?_
 refine LM.rd (om_ld Tryz.isAgg26 rfl rfl) ?_
 refine LM.val (ov_len Tryz.underlying26 rfl) ?_
 refine LM.mv rfl ?_
 refine LM.nil (QM.sub (e' := [(1, _), (4, _), (27, _), (28, _), (29, _)]) au9 (QM.then ?_))
 refine wpM.block ?_
 refine wpM.loopK0 (α := Nat × Mem0) (fun ⟨i, mw⟩ => [(29, .int .i64 (i : Nat))]) [(1, _), (4, _), (27, _), (28, _)] (fun ⟨i, mw⟩ => mw ++ (stB b1 s :: [])) (fun ⟨i, mw⟩ => i ≤ s.gs.length ∧ WrM w.heap.size b17 (linW wCores s.cr ++ linW wGrain s.gr ++ (s.gs.take i).flatMap (linW wGroup)) mw) (fun ⟨i, mw⟩ => s.gs.length - i) ((0, m25)) ⟨au2, rfl, rfl, rfl, rfl, trivial⟩ au1 ⟨Nat.zero_le _, by simpa using hW25⟩ ?_
 rintro ⟨i, mw⟩ ⟨hi, hW0⟩
 change wpM _ _ _ _ _ _ _ (mw ++ (stB b1 s :: [])) _ _ _
 refine wpM.seq (wpM.region ?_)
 refine LM.val (ov_lss rfl rfl) ?_
 refine LM.nil (QM.sub (e' := [(1, _), (4, _), (27, _), (28, _), (29, _), (30, _)]) au9 (QM.then ?_))
 refine wpM.seq ?_
 refine wpM.condD rfl (fun h2 => ?_) (fun h2 => ?_)
 ·
  refine wpM.skip ?_
  refine QM.then ?_
  refine wpM.seq ?_
  refine wpM.block ?_
  refine wpM.seq (wpM.region ?_)
  refine LM.val (ov_idxSN au6 Tryz.underlying26 Tryz.sizeOf3 rfl rfl (by omega)) ?_
  first | refine LM.rd (om_sl1 (by assumption) (by intro _; rfl) Tryz.isAgg3 rfl rfl (by exact getq 0 au4) (by rfl)) ?_ | refine LM.rdC (om_sr1 (by assumption) Tryz.isAgg3 rfl rfl (by exact getq 0 au4) (by rfl) id) ?_ | refine LM.rd (om_ld Tryz.isAgg3 rfl rfl) ?_
  refine LM.as rfl ?_
  refine LM.nil (QM.sub (e' := [(1, _), (4, _), (6, _), (27, _), (28, _), (29, _)]) au9 (QM.then (wpM.region ?_)))
  refine LM.mv rfl (LM.mv rfl ?_)
  refine LM.cU (oc_call (enters_fn Tryz.func56 (by kernel_rfl) rfl) rfl) (fun w hm hc hg => wline_spec b17 wGroup (s.gs.getD i 0) w hW0 (hm.pick _) hc.size (by have h9 := lin_flen (gs := s.gs.take i) (t := wGroup); have h8 := List.length_take_le i s.gs; simp only [List.length_append, linW_len]; omega)) (wr_cells hW0) (fun p hp hlt => absurd hlt (Nat.not_lt_of_le (wr_ge hW0 p hp))) ?_
  rintro u35 m35 ⟨rfl, hW35⟩ hin35
  refine LM.nil (QM.sub (e' := [(1, _), (4, _), (27, _), (28, _), (29, _)]) au9 ?_)
  refine QM.block_normal ?_
  refine QM.then (wpM.region ?_)
  refine LM.val (ov_add64 rfl rfl (by omega)) ?_
  refine LM.mv rfl ?_
  refine LM.nil (QM.sub (e' := [(1, _), (4, _), (27, _), (28, _), (29, _)]) au9 ?_)
  refine QM.againK ((i + 1, m35)) ⟨au2, rfl, rfl, rfl, rfl, trivial⟩ au1 (fun _ h => h) ?_ ?_
  · exact ⟨by omega, by rw [lin_snoc (by omega), ← List.append_assoc]; exact hW35⟩
  · first | omega | (dsimp only; omega)
 refine wpM.exit ?_
 refine QM.then_exit ?_
 refine QM.then_exit ?_
 refine QM.block_hit ?_
 refine QM.then ?_
 refine wpM.seq ?_
 refine wpM.seq (wpM.region ?_)
 refine LM.val (ov_field Tryz.underlying30 rfl Tryz.sizeOf27 rfl (k := 3) rfl rfl) ?_
 refine LM.rd (om_ld Tryz.isAgg27 rfl rfl) ?_
 refine LM.val (ov_len Tryz.underlying27 rfl) ?_
 refine LM.mv rfl ?_
 refine LM.nil (QM.sub (e' := [(1, _), (4, _), (38, _), (39, _), (40, _)]) au9 (QM.then ?_))
 refine wpM.block ?_
 refine wpM.loopK0 (α := Nat × Mem0) (fun ⟨j, mw⟩ => [(40, .int .i64 (j : Nat))]) [(1, _), (4, _), (38, _), (39, _)] (fun ⟨j, mw⟩ => mw ++ (stB b1 s :: [])) (fun ⟨j, mw⟩ => j ≤ s.ls.length ∧ WrM w.heap.size b17 (linW wCores s.cr ++ linW wGrain s.gr ++ s.gs.flatMap (linW wGroup) ++ (s.ls.take j).flatMap lckW) mw) (fun ⟨j, mw⟩ => s.ls.length - j) ((0, mw)) ⟨au2, rfl, rfl, rfl, rfl, trivial⟩ au1 ⟨Nat.zero_le _, by have hil : i = s.gs.length := (by omega); rw [hil, List.take_length] at hW0; simpa using hW0⟩ ?_
 rintro ⟨j, mw⟩ ⟨hj, hW1⟩
 change wpM _ _ _ _ _ _ _ (mw ++ (stB b1 s :: [])) _ _ _
 refine wpM.seq (wpM.region ?_)
 refine LM.val (ov_lss rfl rfl) ?_
 refine LM.nil (QM.sub (e' := [(1, _), (4, _), (38, _), (39, _), (40, _), (41, _)]) au9 (QM.then ?_))
 refine wpM.seq ?_
 refine wpM.condD rfl (fun h3 => ?_) (fun h3 => ?_)
 ·
  refine wpM.skip ?_
  refine QM.then ?_
  refine wpM.seq ?_
  refine wpM.block ?_
  refine wpM.seq (wpM.region ?_)
  refine LM.val (ov_idxSN au6 Tryz.underlying27 Tryz.sizeOf63 rfl rfl (by omega)) ?_
  first | refine LM.rd (om_slA (by assumption) (by intro _; rfl) Tryz.isAgg63 Tryz.sizeOf63 rfl au3) ?_ | refine LM.rdC (om_srEA (by assumption) (by intro _; rfl) Tryz.isAgg63 Tryz.sizeOf63 rfl au3 id) ?_ | refine LM.rd (om_ldW Tryz.isAgg63 Tryz.sizeOf63 rfl rfl) ?_ | refine LM.rd (om_ldA Tryz.isAgg63 Tryz.sizeOf63 rfl (vs := [_, _, _, _, _]) rfl ⟨rfl, rfl, rfl, rfl, rfl, trivial⟩) ?_
  refine LM.alloc Tryz.zeroValue63 rfl (fun b8 hb8 => ?_)
  refine LM.stW Tryz.sizeOf63 rfl rfl rfl rfl au7 au8 ?_
  refine LM.nil (QM.sub (e' := [(1, _), (4, _), (8, _), (38, _), (39, _), (40, _)]) au9 (QM.then (wpM.region ?_)))
  refine LM.mv rfl ?_
  refine LM.rd (om_ldW Tryz.isAgg63 Tryz.sizeOf63 rfl rfl) ?_
  refine LM.cU (oc_call (enters_fn Tryz.func57 (by kernel_rfl) rfl) rfl) (fun w hm hc hg => wlock_spec b17 (s.ls.getD j default) w hW1 (hm.pick _) hc.size (by have h9 := lin_flen (gs := s.gs) (t := wGroup); have h7 := lck_flen (ls := s.ls.take j); have h8 := List.length_take_le j s.ls; simp only [List.length_append, linW_len]; omega)) (wr_cells hW1) (fun p hp hlt => absurd hlt (Nat.not_lt_of_le (wr_ge hW1 p hp))) ?_
  rintro u46 m46 ⟨rfl, hW46⟩ hin46
  refine LM.nil (QM.sub (e' := [(1, _), (4, _), (38, _), (39, _), (40, _)]) au9 ?_)
  refine QM.block_normal ?_
  refine QM.then (wpM.region ?_)
  refine LM.val (ov_add64 rfl rfl (by omega)) ?_
  refine LM.mv rfl ?_
  refine LM.nil (QM.sub (e' := [(1, _), (4, _), (38, _), (39, _), (40, _)]) au9 ?_)
  refine QM.againK ((j + 1, m46)) ⟨au2, rfl, rfl, rfl, rfl, trivial⟩ au1 (fun _ h => h) ?_ ?_
  · exact ⟨by omega, by rw [lck_snoc (by omega), ← List.append_assoc]; exact hW46⟩
  · first | omega | (dsimp only; omega)
 refine wpM.exit ?_
 refine QM.then_exit ?_
 refine QM.then_exit ?_
 refine QM.block_hit ?_
 refine QM.then ?_
 refine wpM.seq ?_
 refine wpM.seq (wpM.region ?_)
 refine LM.val (ov_field Tryz.underlying30 rfl Tryz.sizeOf28 rfl (k := 4) rfl rfl) ?_
 refine LM.rd (om_ld Tryz.isAgg28 rfl rfl) ?_
 refine LM.val (ov_len Tryz.underlying28 rfl) ?_
 refine LM.mv rfl ?_
 refine LM.nil (QM.sub (e' := [(4, _), (49, _), (50, _), (51, _)]) au9 (QM.then ?_))
 refine wpM.block ?_
 refine wpM.loopK0 (α := Nat × Mem0) (fun ⟨k, mw⟩ => [(51, .int .i64 (k : Nat))]) [(4, _), (49, _), (50, _)] (fun ⟨k, mw⟩ => mw ++ (stB b1 s :: [])) (fun ⟨k, mw⟩ => k ≤ s.ps.length ∧ WrM w.heap.size b17 (linW wCores s.cr ++ linW wGrain s.gr ++ s.gs.flatMap (linW wGroup) ++ s.ls.flatMap lckW ++ pgW ((s.ps.map PgV.c).take k)) mw) (fun ⟨k, mw⟩ => s.ps.length - k) ((0, mw)) ⟨au2, rfl, rfl, rfl, trivial⟩ au1 ⟨Nat.zero_le _, by have hjl : j = s.ls.length := (by omega); rw [hjl, List.take_length] at hW1; simpa [pgW] using hW1⟩ ?_
 rintro ⟨k, mw⟩ ⟨hk, hW2⟩
 change wpM _ _ _ _ _ _ _ (mw ++ (stB b1 s :: [])) _ _ _
 refine wpM.seq (wpM.region ?_)
 refine LM.val (ov_lss rfl rfl) ?_
 refine LM.nil (QM.sub (e' := [(4, _), (49, _), (50, _), (51, _), (52, _)]) au9 (QM.then ?_))
 refine wpM.seq ?_
 refine wpM.condD rfl (fun h4 => ?_) (fun h4 => ?_)
 ·
  have hpm : s.ps.getD k default ∈ s.ps := List.mem_of_getElem? (getq default (by omega))
  refine wpM.skip ?_
  refine QM.then ?_
  refine wpM.seq ?_
  refine wpM.block ?_
  refine wpM.seq (wpM.region ?_)
  refine LM.val (ov_idxSN au6 Tryz.underlying28 Tryz.sizeOf87 rfl rfl (by omega)) ?_
  first | refine LM.rd (om_slA (by assumption) (by intro _; rfl) Tryz.isAgg87 Tryz.sizeOf87 rfl au3) ?_ | refine LM.rdC (om_srEA (by assumption) (by intro _; rfl) Tryz.isAgg87 Tryz.sizeOf87 rfl au3 id) ?_ | refine LM.rd (om_ldW Tryz.isAgg87 Tryz.sizeOf87 rfl rfl) ?_ | refine LM.rd (om_ldA Tryz.isAgg87 Tryz.sizeOf87 rfl (vs := [_, _]) rfl ⟨rfl, rfl, trivial⟩) ?_
  refine LM.alloc Tryz.zeroValue87 rfl (fun b10 hb10 => ?_)
  refine LM.stW Tryz.sizeOf87 rfl rfl rfl rfl au7 au8 ?_
  refine LM.nil (QM.sub (e' := [(4, _), (10, _), (49, _), (50, _), (51, _)]) au9 (QM.then (wpM.seq (wpM.region ?_))))
  refine LM.rd (om_ldW Tryz.isAgg87 Tryz.sizeOf87 rfl rfl) ?_
  refine LM.callT (oc_call (enters_fn Tryz.func58 (by kernel_rfl) rfl) rfl) WoT.mono (fun w hm hc hg => words_spec w (hI.ops _ hpm).1 ((hI.ops _ hpm).2.ext hc)) ?_
  rintro u57 m57 ⟨ad57, n57, cap57, rfl, hn57, hs57⟩ -; obtain ⟨adz, nz, cz, mz, hnz, hsz, hbz, rfl⟩ := hW2
  refine LM.mv rfl ?_
  refine LM.val (ov_extract rfl rfl) ?_
  refine LM.val (ov_extract rfl rfl) ?_
  refine LM.as rfl (LM.as rfl ?_)
  refine LM.nil (QM.sub (e' := [(4, _), (11, _), (49, _), (50, _), (51, _)]) au9 (QM.then (wpM.region ?_)))
  have h9 := lin_flen (gs := s.gs) (t := wGroup); have h7 := lck_flen (ls := s.ls); have h8 := pg_flen (ps := (s.ps.map PgV.c).take k) (fun p hp => hp12 p (List.mem_of_mem_take hp)); have h6 := List.length_take_le k (s.ps.map PgV.c); have h5 := words_len (s.ps.getD k default).c.fv (s.ps.getD k default).c.xs; have h4 := hp12 _ (List.mem_map_of_mem hpm); have hw57 : (wordsO (s.ps.getD k default).c.fv (s.ps.getD k default).c.xs).1 = wordsF (s.ps.getD k default).c.fv (s.ps.getD k default).c.xs := (by unfold wordsO; rw [if_pos (List.all_eq_true.1 (mayS_progs hmS) _ (List.mem_map_of_mem hpm))])
  refine LM.mv rfl (LM.mv rfl ?_)
  refine LM.val (ov_nilCheck rfl) ?_
  refine LM.val (ov_field Tryz.underlying101 rfl Tryz.sizeOf23 rfl (k := 0) rfl rfl) ?_
  refine LM.rd (om_ld Tryz.isAgg23 rfl rfl) ?_
  refine LM.mv rfl ?_
  refine LM.appN (ys := wordsF (s.ps.getD k default).c.fv (s.ps.getD k default).c.xs) Tryz.underlying23 Tryz.typeInfo65 rfl rfl rfl rfl rfl rfl rfl hsz (fun w hm hc hg => (hw57 ▸ hs57.srM (by intro _; rfl) hm)) (by intro _; rfl) (by intro _ u hu; simp [fW] at hu; (repeat (first | (rcases hu with rfl | hu) | subst hu | rfl))) (by first | exact Nat.le_refl _ | omega) (fun p hp hlt => absurd hlt (Nat.not_lt_of_le (Sl.ge hsz p hp))) (by first | (simp only [List.length_append, linW_len]; unfold maxLen; omega) | omega | (unfold maxLen; simp only [fldW_len, List.length_cons, List.length_nil]; omega) | (unfold maxLen; omega)) (by simp only [Tryz.t65, List.length_append, linW_len]; omega) (fun ad66 n66 cap66 m66 hn66 hs66 hin66 => ?_)
  refine LM.val (ov_nilCheck rfl) ?_
  refine LM.val (ov_field Tryz.underlying101 rfl Tryz.sizeOf23 rfl (k := 0) rfl rfl) ?_
  refine LM.st Tryz.sizeOf23 rfl rfl rfl au5 rfl au8 ?_
  refine LM.nil (QM.sub (e' := [(4, _), (49, _), (50, _), (51, _)]) au9 ?_)
  refine QM.block_normal ?_
  refine QM.then (wpM.region ?_)
  refine LM.val (ov_add64 rfl rfl (by omega)) ?_
  refine LM.mv rfl ?_
  refine LM.nil (QM.sub (e' := [(4, _), (49, _), (50, _), (51, _)]) au9 ?_)
  refine QM.againK ((k + 1, wrB b17 ad66 n66 cap66 :: (m66 ++ []))) ⟨au2, rfl, rfl, rfl, trivial⟩ au1 (fun _ h => h) ?_ ?_
  · exact ⟨by omega, by rw [pgW_snoc (by simp; omega), map_getD, ← List.append_assoc]; exact ⟨ad66, n66, cap66, m66, by simp only [hn66, List.length_append], hs66, hbz, rfl⟩⟩
  · first | omega | (dsimp only; omega)
 refine wpM.exit ?_
 refine QM.then_exit ?_
 refine QM.then_exit ?_
 refine QM.block_hit ?_
 refine QM.then (wpM.seq (wpM.region ?_))
 obtain ⟨adz, nz, cz, mz, hnz, hsz, hbz, rfl⟩ := hW2
 refine LM.mv rfl ?_
 refine LM.val (ov_nilCheck rfl) ?_
 refine LM.val (ov_field Tryz.underlying101 rfl Tryz.sizeOf23 rfl (k := 0) rfl rfl) ?_
 refine LM.rd (om_ld Tryz.isAgg23 rfl rfl) ?_
 refine LM.as rfl (LM.as rfl ?_)
 refine LM.nil (QM.sub (e' := [(2, _), (3, _)]) au9 (QM.then ?_))
 refine wpM.ret ?_
 refine QM.leave (.inl rfl) [.tmp 2, .tmp 3] Tryz.results18 rfl ?_
 intro w' hm' hc' hg'
 have hkl : k = s.ps.length := (by omega); have hw : wordsS s.C = (linW wCores s.cr ++ linW wGrain s.gr ++ s.gs.flatMap (linW wGroup) ++ s.ls.flatMap lckW ++ pgW ((s.ps.map PgV.c).take k), 0) := (by unfold wordsS; rw [if_pos hmS, setW_eq, hkl, List.take_of_length_le (by omega)]; rfl); rw [hw]; exact ⟨hc', mz ++ [], ⟨adz, nz, cz, rfl, hnz, by rw [List.append_nil]; exact hsz⟩, SubM.mem (by (repeat' (first | exact SubM.nil _ | refine SubM.app ?_))) w' hm', fun p hp => by rw [List.append_nil] at hp; exact Sl.ge hsz p hp⟩
end Go.Eng
namespace Go.Eng
open Go Go.Proofs Go.RowKit
def FlT (n0 : Nat) (ws : List Wrd) (u : Value) (m : Mem0) : Prop := ∃ ad n cap, u = .slice ad n cap ∧ n = ws.length ∧ Sl fW 65 4 n0 ws (.slice ad n cap) m
abbrev eBk (b : Nat) : Nat × Obj := (b, .cells #[.int .i64 3, vS [59], .int .i64 0, .int .i64 0] 65 (0, 0))
set_option maxRecDepth 100000 in
theorem rfield_spec {n0 : Nat} {ws : List Wrd} {ad : Option Addr} {n cap : Nat} {m : Mem0} (t : List UInt8) (k : Int) (w : World) (hsl : Sl fW 65 4 n0 ws (.slice ad n cap) m) (hM : Mem w m) (hn0 : n0 ≤ w.heap.size) (hlx : ws.length ≤ 100000) : Ret Tryz.prog 60 #[.slice ad n cap, vS t, .int .i64 k] w (Upd m (FlT n0 (ws ++ fldW t k)) w) := by
 refine Ret.enterM (l := [.slice ad n cap, vS t, .int .i64 k]) Tryz.func60 rfl Tryz.ntmps60 rfl (m ++ []) ((fun x => ∃ q ∈ m, q.1 = x)) (by rw [List.append_nil]; exact hM) ?_
 refine wpM.seq (wpM.region ?_)
 refine LM.as rfl ?_
 refine LM.nil (QM.sub (e' := [(0, _), (1, _), (2, _)]) au9 (QM.then (wpM.seq (wpM.region ?_))))
 refine LM.mv rfl (LM.mv rfl ?_)
 refine LM.val (ov_build (cs := #[_, _, _, _]) rfl (by first | rfl | kernel_rfl)) ?_
 refine LM.mv rfl ?_
 refine LM.val (ov_build (cs := #[_, _, _, _]) rfl (by first | rfl | kernel_rfl)) ?_
 refine LM.row (vs := [_, _]) Tryz.underlying23 Tryz.sizeOf65 Tryz.zeroValue65 rfl rfl rfl rfl rfl rfl (fun b12 hb12 => ?_)
 refine LM.appN (ys := fldW t k) Tryz.underlying23 Tryz.typeInfo65 rfl rfl rfl rfl rfl rfl rfl hsl (fun w hm hc hg => row_sr 2 (hm.at b12) rfl rfl (fun _ => rfl)) (by intro _; rfl) (by intro _ u hu; simp [fW] at hu; (repeat (first | (rcases hu with rfl | hu) | subst hu | rfl))) (by first | exact Nat.le_refl _ | omega) (fun p hp _ => ⟨p, hp, rfl⟩) (by first | omega | (unfold maxLen; omega) | (simp only [fldW_len, linW_len, List.length_append, List.length_cons, List.length_nil]; unfold maxLen; omega)) (by simp only [Tryz.t65, fldW_len, linW_len, List.length_append, List.length_cons, List.length_nil]; omega) (fun ad13 n13 cap13 m13 hn13 hs13 hin13 => ?_)
 refine LM.as rfl ?_
 refine LM.nil (QM.sub (e' := [(6, _)]) ⟨rfl, trivial⟩ (QM.then ?_))
 refine wpM.ret ?_
 refine QM.leave (.inl rfl) [.tmp 6] Tryz.results60 rfl ?_
 intro w' hm' hc' hg'
 exact ⟨hc', m13, ⟨ad13, n13, cap13, rfl, by rw [hn13]; simp, hs13⟩, hm'.pick _, hin13⟩
set_option maxRecDepth 100000 in
set_option maxHeartbeats 3000000 in
theorem rswords_spec {s : StV} (w : World) (hI : s.In w) (hmS : mayS s.C = true) : Ret Tryz.prog 21 #[s.val] w (New fW 65 4 (setW s.C) w) := by
 have hgn := hI.hgn; have hln := hI.hln; have hpn := hI.hpn; have hpS := hI.hp; have hgS := hI.hg; have hlS := hI.hl; obtain ⟨_, _, hg4, _, hl8, _, hp8, _⟩ := mayS_inv hmS; have hg4 : 1 ≤ s.gs.length ∧ s.gs.length ≤ 4 := hg4; have hl8 : s.ls.length ≤ 8 := hl8; have hcl : (s.ps.map PgV.c).length = s.ps.length := List.length_map ..; have hp8 : 1 ≤ s.ps.length ∧ s.ps.length ≤ 8 := (by have h9 : 1 ≤ (s.ps.map PgV.c).length ∧ (s.ps.map PgV.c).length ≤ 8 := hp8; omega); have hp12 : ∀ p ∈ s.ps.map PgV.c, p.xs.length ≤ 12 := progs12 hmS; have hnl : Sl fW 65 4 w.heap.size [] (.slice none 0 0) [] := .nil _ _ _ _; have h9g := lin_flen (gs := s.gs) (t := wGroup); have h9l := lck_flen (ls := s.ls)
 refine Ret.enterM (l := [s.val]) Tryz.func21 rfl Tryz.ntmps21 rfl ([]) (no) (Mem.nil w) ?_
 refine wpM.seq (wpM.region ?_)
 refine LM.box rfl rfl (fun b1 hb1 => ?_)
 refine LM.as rfl ?_
 refine LM.nil (QM.sub (e' := [(1, _)]) ⟨rfl, trivial⟩ (QM.then (wpM.seq (wpM.region ?_))))
 refine LM.val (ov_build (cs := #[_, _, _, _]) rfl (by first | rfl | kernel_rfl)) ?_
 refine LM.alloc Tryz.zeroValue65 rfl (fun b3 hb3 => ?_)
 refine LM.stW Tryz.sizeOf65 rfl rfl rfl rfl au7 au8 ?_
 refine LM.nil (QM.sub (e' := [(1, _), (3, _)]) au9 (QM.then ?_))
 refine wpM.seq ?_
 refine wpM.joinK (α := Option Addr × Nat × Nat × Mem0) (fun ⟨ad, n, cap, m⟩ => [(4, .slice ad n cap)]) [(1, _), (3, _)] (fun ⟨ad, n, cap, m⟩ => m ++ (eBk b3 :: stB b1 s :: [])) (fun ⟨ad, n, cap, m⟩ => n = 3 ∧ Sl fW 65 4 w.heap.size (linW wCores s.cr) (.slice ad n cap) m) ⟨rfl, rfl, trivial⟩ ?_ ?_
 ·
  refine wpM.keep ((b1, _) :: (b3, _) :: []) (fun _ => True) (.one 0 0 (.one 1 1 (.one 3 1 (.fork 2 (.one 4 2 (.one 5 2 (.one 6 0 .nil))) 4 (.one 2 2 (.one 5 2 (.one 6 0 .nil))))))) (by kernel_rfl) (by kernel_rfl) au1 (fun _ _ => trivial) ?_
  refine KD.val rfl rfl (ov_field Tryz.underlying30 rfl Tryz.sizeOf3 rfl (k := 0) rfl rfl) ?_
  refine KD.rd rfl rfl (om_ld Tryz.isAgg3 rfl rfl) ?_
  refine KD.rd rfl rfl (om_ldW Tryz.isAgg65 Tryz.sizeOf65 rfl rfl) ?_
  refine KD.fork rfl rfl ?_ ?_
  ·
   refine LM.cU (oc_call (enters_fn Tryz.func60 (by kernel_rfl) rfl) rfl) (fun w hm hc hg => rfield_spec wCores s.cr w hnl (hm.pick _) hc.size (by first | omega | (simp only [fldW_len, linW_len, List.length_append, List.length_cons, List.length_nil]; omega))) hnl.wlk (fun p hp hlt => absurd hlt (Nat.not_lt_of_le (Sl.ge hnl p hp))) ?_
   rintro u13 m13 ⟨ad13, n13, cap13, rfl, hn13, hs13⟩ hin13
   refine LM.nil ?_
   refine QM.one au1 (fun _ _ => trivial) ?_
   refine KD.one rfl ?_
   refine LM.single Tryz.underlying23 Tryz.sizeOf65 Tryz.zeroValue65 rfl rfl rfl rfl rfl (fun b15 hb15 => ?_)
   refine LM.nil ?_
   refine QM.one au1 (fun _ _ => trivial) ?_
   refine KD.one rfl ?_
   refine LM.appN (ys := [mk3 [59]]) Tryz.underlying23 Tryz.typeInfo65 rfl rfl rfl rfl rfl rfl rfl hs13 (fun w hm hc hg => row_sr 1 (hm.at b15) rfl rfl (fun _ => rfl)) (by intro _; rfl) (by intro _ u hu; simp [fW] at hu; (repeat (first | (rcases hu with rfl | hu) | subst hu | rfl))) (by first | exact Nat.le_refl _ | omega) (fun p hp hlt => absurd hlt (Nat.not_lt_of_le (Sl.ge hs13 p hp))) (by first | omega | (unfold maxLen; omega) | (simp only [fldW_len, linW_len, List.length_append, List.length_cons, List.length_nil]; unfold maxLen; omega)) (by simp only [Tryz.t65, fldW_len, linW_len, List.length_append, List.length_cons, List.length_nil]; omega) (fun ad16 n16 cap16 m16 hn16 hs16 hin16 => ?_)
   refine LM.nil ?_
   refine QM.one au1 (fun _ _ => trivial) ?_
   refine KD.val rfl rfl (ov_assign rfl) ?_
   refine KD.nil ?_
   refine QM.sub (e' := [(1, _), (3, _), (4, _)]) au9 ?_
   refine QM.meetK ((ad16, n16, cap16, m16)) ⟨au2, rfl, rfl, trivial⟩ au1 ?_
   · exact ⟨by rw [hn16]; rfl, hs16⟩
  refine LM.single Tryz.underlying23 Tryz.sizeOf65 Tryz.zeroValue65 rfl rfl rfl rfl rfl (fun b15 hb15 => ?_)
  refine LM.nil ?_
  refine QM.one au1 (fun _ _ => trivial) ?_
  refine KD.one rfl ?_
  refine LM.cU (oc_call (enters_fn Tryz.func60 (by kernel_rfl) rfl) rfl) (fun w hm hc hg => rfield_spec wCores s.cr w hnl (hm.pick _) hc.size (by first | omega | (simp only [fldW_len, linW_len, List.length_append, List.length_cons, List.length_nil]; omega))) hnl.wlk (fun p hp hlt => absurd hlt (Nat.not_lt_of_le (Sl.ge hnl p hp))) ?_
  rintro u13 m13 ⟨ad13, n13, cap13, rfl, hn13, hs13⟩ hin13
  refine LM.nil ?_
  refine QM.one au1 (fun _ _ => trivial) ?_
  refine KD.one rfl ?_
  refine LM.appN (ys := [mk3 [59]]) Tryz.underlying23 Tryz.typeInfo65 rfl rfl rfl rfl rfl rfl rfl hs13 (fun w hm hc hg => row_sr 1 (hm.at b15) rfl rfl (fun _ => rfl)) (by intro _; rfl) (by intro _ u hu; simp [fW] at hu; (repeat (first | (rcases hu with rfl | hu) | subst hu | rfl))) (by first | exact Nat.le_refl _ | omega) (fun p hp hlt => absurd hlt (Nat.not_lt_of_le (Sl.ge hs13 p hp))) (by first | omega | (unfold maxLen; omega) | (simp only [fldW_len, linW_len, List.length_append, List.length_cons, List.length_nil]; unfold maxLen; omega)) (by simp only [Tryz.t65, fldW_len, linW_len, List.length_append, List.length_cons, List.length_nil]; omega) (fun ad16 n16 cap16 m16 hn16 hs16 hin16 => ?_)
  refine LM.nil ?_
  refine QM.one au1 (fun _ _ => trivial) ?_
  refine KD.val rfl rfl (ov_assign rfl) ?_
  refine KD.nil ?_
  refine QM.sub (e' := [(1, _), (3, _), (4, _)]) au9 ?_
  refine QM.meetK ((ad16, n16, cap16, m16)) ⟨au2, rfl, rfl, trivial⟩ au1 ?_
  · exact ⟨by rw [hn16]; rfl, hs16⟩
 rintro ⟨ad, n, cap, m⟩ ⟨hnA, hsA⟩
 change QM _ _ _ _ _ (m ++ (eBk b3 :: stB b1 s :: [])) _ _ _
 refine QM.then ?_
 refine wpM.seq ?_
 refine wpM.joinK (α := Option Addr × Nat × Nat × Mem0) (fun ⟨ad, n, cap, m⟩ => [(4, .slice ad n cap)]) [(1, _), (3, _)] (fun ⟨ad, n, cap, m⟩ => m ++ (eBk b3 :: stB b1 s :: [])) (fun ⟨ad, n, cap, m⟩ => n = 6 ∧ Sl fW 65 4 w.heap.size (linW wCores s.cr ++ linW wGrain s.gr) (.slice ad n cap) m) ⟨rfl, rfl, trivial⟩ ?_ ?_
 ·
  refine wpM.keep ((b1, _) :: (b3, _) :: []) (fun _ => True) (.one 0 0 (.one 1 0 (.one 2 1 (.one 4 1 (.fork 3 (.one 5 2 (.one 6 2 (.one 7 0 .nil))) 5 (.one 3 2 (.one 6 2 (.one 7 0 .nil)))))))) (by kernel_rfl) (by kernel_rfl) au1 (fun _ _ => trivial) ?_
  refine KD.val rfl rfl (ov_move rfl) ?_
  refine KD.val rfl rfl (ov_field Tryz.underlying30 rfl Tryz.sizeOf3 rfl (k := 1) rfl rfl) ?_
  refine KD.rd rfl rfl (om_ld Tryz.isAgg3 rfl rfl) ?_
  refine KD.rd rfl rfl (om_ldW Tryz.isAgg65 Tryz.sizeOf65 rfl rfl) ?_
  refine KD.fork rfl rfl ?_ ?_
  ·
   refine LM.cU (oc_call (enters_fn Tryz.func60 (by kernel_rfl) rfl) rfl) (fun w hm hc hg => rfield_spec wGrain s.gr w hsA (hm.pick _) hc.size (by first | omega | (simp only [fldW_len, linW_len, List.length_append, List.length_cons, List.length_nil]; omega))) hsA.wlk (fun p hp hlt => absurd hlt (Nat.not_lt_of_le (Sl.ge hsA p hp))) ?_
   rintro u20 m20 ⟨ad20, n20, cap20, rfl, hn20, hs20⟩ hin20
   refine LM.nil ?_
   refine QM.one au1 (fun _ _ => trivial) ?_
   refine KD.one rfl ?_
   refine LM.single Tryz.underlying23 Tryz.sizeOf65 Tryz.zeroValue65 rfl rfl rfl rfl rfl (fun b22 hb22 => ?_)
   refine LM.nil ?_
   refine QM.one au1 (fun _ _ => trivial) ?_
   refine KD.one rfl ?_
   refine LM.appN (ys := [mk3 [59]]) Tryz.underlying23 Tryz.typeInfo65 rfl rfl rfl rfl rfl rfl rfl hs20 (fun w hm hc hg => row_sr 1 (hm.at b22) rfl rfl (fun _ => rfl)) (by intro _; rfl) (by intro _ u hu; simp [fW] at hu; (repeat (first | (rcases hu with rfl | hu) | subst hu | rfl))) (by first | exact Nat.le_refl _ | omega) (fun p hp hlt => absurd hlt (Nat.not_lt_of_le (Sl.ge hs20 p hp))) (by first | omega | (unfold maxLen; omega) | (simp only [fldW_len, linW_len, List.length_append, List.length_cons, List.length_nil]; unfold maxLen; omega)) (by simp only [Tryz.t65, fldW_len, linW_len, List.length_append, List.length_cons, List.length_nil]; omega) (fun ad23 n23 cap23 m23 hn23 hs23 hin23 => ?_)
   refine LM.nil ?_
   refine QM.one au1 (fun _ _ => trivial) ?_
   refine KD.val rfl rfl (ov_assign rfl) ?_
   refine KD.nil ?_
   refine QM.sub (e' := [(1, _), (3, _), (4, _)]) au9 ?_
   refine QM.meetK ((ad23, n23, cap23, m23)) ⟨au2, rfl, rfl, trivial⟩ au1 ?_
   · exact ⟨by rw [hn23]; rfl, by have e : linW wCores s.cr ++ linW wGrain s.gr = linW wCores s.cr ++ fldW wGrain s.gr ++ [mk3 [59]] := (by simp [linW]); rw [e]; exact hs23⟩
  refine LM.single Tryz.underlying23 Tryz.sizeOf65 Tryz.zeroValue65 rfl rfl rfl rfl rfl (fun b22 hb22 => ?_)
  refine LM.nil ?_
  refine QM.one au1 (fun _ _ => trivial) ?_
  refine KD.one rfl ?_
  refine LM.cU (oc_call (enters_fn Tryz.func60 (by kernel_rfl) rfl) rfl) (fun w hm hc hg => rfield_spec wGrain s.gr w hsA (hm.pick _) hc.size (by first | omega | (simp only [fldW_len, linW_len, List.length_append, List.length_cons, List.length_nil]; omega))) hsA.wlk (fun p hp hlt => absurd hlt (Nat.not_lt_of_le (Sl.ge hsA p hp))) ?_
  rintro u20 m20 ⟨ad20, n20, cap20, rfl, hn20, hs20⟩ hin20
  refine LM.nil ?_
  refine QM.one au1 (fun _ _ => trivial) ?_
  refine KD.one rfl ?_
  refine LM.appN (ys := [mk3 [59]]) Tryz.underlying23 Tryz.typeInfo65 rfl rfl rfl rfl rfl rfl rfl hs20 (fun w hm hc hg => row_sr 1 (hm.at b22) rfl rfl (fun _ => rfl)) (by intro _; rfl) (by intro _ u hu; simp [fW] at hu; (repeat (first | (rcases hu with rfl | hu) | subst hu | rfl))) (by first | exact Nat.le_refl _ | omega) (fun p hp hlt => absurd hlt (Nat.not_lt_of_le (Sl.ge hs20 p hp))) (by first | omega | (unfold maxLen; omega) | (simp only [fldW_len, linW_len, List.length_append, List.length_cons, List.length_nil]; unfold maxLen; omega)) (by simp only [Tryz.t65, fldW_len, linW_len, List.length_append, List.length_cons, List.length_nil]; omega) (fun ad23 n23 cap23 m23 hn23 hs23 hin23 => ?_)
  refine LM.nil ?_
  refine QM.one au1 (fun _ _ => trivial) ?_
  refine KD.val rfl rfl (ov_assign rfl) ?_
  refine KD.nil ?_
  refine QM.sub (e' := [(1, _), (3, _), (4, _)]) au9 ?_
  refine QM.meetK ((ad23, n23, cap23, m23)) ⟨au2, rfl, rfl, trivial⟩ au1 ?_
  · exact ⟨by rw [hn23]; rfl, by have e : linW wCores s.cr ++ linW wGrain s.gr = linW wCores s.cr ++ fldW wGrain s.gr ++ [mk3 [59]] := (by simp [linW]); rw [e]; exact hs23⟩
 rintro ⟨ad, n, cap, m⟩ ⟨hnB, hsB⟩
 change QM _ _ _ _ _ (m ++ (eBk b3 :: stB b1 s :: [])) _ _ _
 refine QM.then ?_
 refine wpM.seq ?_
 refine wpM.seq (wpM.region ?_)
 refine LM.as rfl ?_
 refine LM.nil (QM.sub (e' := [(1, _), (3, _), (4, _), (5, _)]) au9 (QM.then ?_))
 refine wpM.block ?_
 refine wpM.loopK0 (α := Nat × List Wrd × Option Addr × Nat × Nat × Mem0) (fun ⟨i, l, ad, n, cap, m⟩ => [(4, .slice ad n cap), (5, .int .i64 (i : Nat))]) [(1, _), (3, _)] (fun ⟨i, l, ad, n, cap, m⟩ => m ++ (eBk b3 :: stB b1 s :: [])) (fun ⟨i, l, ad, n, cap, m⟩ => i ≤ s.gs.length ∧ l = linW wCores s.cr ++ linW wGrain s.gr ++ (s.gs.take i).flatMap (linW wGroup) ∧ l.length ≤ 100 ∧ n = l.length ∧ Sl fW 65 4 w.heap.size l (.slice ad n cap) m) (fun ⟨i, l, ad, n, cap, m⟩ => s.gs.length - i) ((0, linW wCores s.cr ++ linW wGrain s.gr, ad, n, cap, m)) ⟨au2, au2, rfl, rfl, trivial⟩ au1 ⟨Nat.zero_le _, by simp, by simp [linW_len], hnB, hsB⟩ ?_
 rintro ⟨i, l, ad, n, cap, m⟩ ⟨hi, hl, hlx, hn, hs⟩
 change wpM _ _ _ _ _ _ _ (m ++ (eBk b3 :: stB b1 s :: [])) _ _ _
 refine wpM.seq ?_
 refine wpM.seq (wpM.region ?_)
 refine LM.mv rfl (LM.val (ov_field Tryz.underlying30 rfl Tryz.sizeOf26 rfl (k := 2) rfl rfl) ?_)
 refine LM.rd (om_ld Tryz.isAgg26 rfl rfl) ?_
 refine LM.val (ov_len Tryz.underlying26 rfl) ?_
 refine LM.val (ov_lss rfl rfl) ?_
 refine LM.nil (QM.sub (e' := [(1, _), (3, _), (4, _), (5, _), (28, _)]) au9 (QM.then ?_))
 refine wpM.condD rfl (fun h1 => ?_) (fun h1 => ?_)
 ·
  refine wpM.skip ?_
  refine QM.then ?_
  refine wpM.seq ?_
  refine wpM.block ?_
  refine wpM.keep ((b1, _) :: (b3, _) :: []) (fun _ => True) (.one 0 0 (.one 1 0 (.one 2 1 (.one 3 0 (.one 4 0 (.one 5 1 (.one 7 1 (.fork 6 (.one 8 2 (.one 9 2 (.one 10 0 .nil))) 8 (.one 6 2 (.one 9 2 (.one 10 0 .nil))))))))))) (by kernel_rfl) (by kernel_rfl) au1 (fun _ _ => trivial) ?_
  refine KD.val rfl rfl (ov_move rfl) ?_
  refine KD.val rfl rfl (ov_field Tryz.underlying30 rfl Tryz.sizeOf26 rfl (k := 2) rfl rfl) ?_
  refine KD.rd rfl rfl (om_ld Tryz.isAgg26 rfl rfl) ?_
  refine KD.val rfl rfl (ov_move rfl) ?_
  refine KD.val rfl rfl (ov_idxSN au6 Tryz.underlying26 Tryz.sizeOf3 rfl rfl (by omega)) ?_
  first | refine KD.rd rfl rfl (om_sl1 (by assumption) (by intro _; rfl) Tryz.isAgg3 rfl rfl (by exact getq 0 au4) (by rfl)) ?_ | refine KD.rdC rfl rfl (om_sr1 (by assumption) Tryz.isAgg3 rfl rfl (by exact getq 0 au4) (by rfl) id) ?_ | refine KD.rd rfl rfl (om_ld Tryz.isAgg3 rfl rfl) ?_
  refine KD.rd rfl rfl (om_ldW Tryz.isAgg65 Tryz.sizeOf65 rfl rfl) ?_
  refine KD.fork rfl rfl ?_ ?_
  ·
   refine LM.cU (oc_call (enters_fn Tryz.func60 (by kernel_rfl) rfl) rfl) (fun w hm hc hg => rfield_spec wGroup (s.gs.getD i 0) w hs (hm.pick _) hc.size (by first | omega | (simp only [fldW_len, linW_len, List.length_append, List.length_cons, List.length_nil]; omega))) hs.wlk (fun p hp hlt => absurd hlt (Nat.not_lt_of_le (Sl.ge hs p hp))) ?_
   rintro u37 m37 ⟨ad37, n37, cap37, rfl, hn37, hs37⟩ hin37
   refine LM.nil ?_
   refine QM.one au1 (fun _ _ => trivial) ?_
   refine KD.one rfl ?_
   refine LM.single Tryz.underlying23 Tryz.sizeOf65 Tryz.zeroValue65 rfl rfl rfl rfl rfl (fun b39 hb39 => ?_)
   refine LM.nil ?_
   refine QM.one au1 (fun _ _ => trivial) ?_
   refine KD.one rfl ?_
   refine LM.appN (ys := [mk3 [59]]) Tryz.underlying23 Tryz.typeInfo65 rfl rfl rfl rfl rfl rfl rfl hs37 (fun w hm hc hg => row_sr 1 (hm.at b39) rfl rfl (fun _ => rfl)) (by intro _; rfl) (by intro _ u hu; simp [fW] at hu; (repeat (first | (rcases hu with rfl | hu) | subst hu | rfl))) (by first | exact Nat.le_refl _ | omega) (fun p hp hlt => absurd hlt (Nat.not_lt_of_le (Sl.ge hs37 p hp))) (by first | omega | (unfold maxLen; omega) | (simp only [fldW_len, linW_len, List.length_append, List.length_cons, List.length_nil]; unfold maxLen; omega)) (by simp only [Tryz.t65, fldW_len, linW_len, List.length_append, List.length_cons, List.length_nil]; omega) (fun ad40 n40 cap40 m40 hn40 hs40 hin40 => ?_)
   refine LM.nil ?_
   refine QM.one au1 (fun _ _ => trivial) ?_
   refine KD.val rfl rfl (ov_assign rfl) ?_
   refine KD.nil ?_
   refine QM.sub (e' := [(1, _), (3, _), (4, _), (5, _)]) au9 ?_
   refine QM.block_normal ?_
   refine QM.then (wpM.region ?_)
   refine LM.mv rfl ?_
   refine LM.val (ov_add64 rfl rfl (by omega)) ?_
   refine LM.as rfl ?_
   refine LM.nil (QM.sub (e' := [(1, _), (3, _), (4, _), (5, _)]) au9 ?_)
   refine QM.againK ((i + 1, l ++ fldW wGroup (s.gs.getD i 0) ++ [mk3 [59]], ad40, n40, cap40, m40)) ⟨au2, au2, rfl, rfl, trivial⟩ au1 (fun _ h => h) ?_ ?_
   · exact ⟨by omega, by rw [lin_snoc (by omega), hl]; simp [linW], by have h8 := lin_flen (gs := s.gs.take i) (t := wGroup); have h7 := List.length_take_le i s.gs; rw [hl]; simp only [List.length_append, linW_len, fldW_len, List.length_cons, List.length_nil]; omega, by rw [hn40]; simp [Nat.add_assoc], hs40⟩
   · first | omega | (dsimp only; omega)
  refine LM.single Tryz.underlying23 Tryz.sizeOf65 Tryz.zeroValue65 rfl rfl rfl rfl rfl (fun b39 hb39 => ?_)
  refine LM.nil ?_
  refine QM.one au1 (fun _ _ => trivial) ?_
  refine KD.one rfl ?_
  refine LM.cU (oc_call (enters_fn Tryz.func60 (by kernel_rfl) rfl) rfl) (fun w hm hc hg => rfield_spec wGroup (s.gs.getD i 0) w hs (hm.pick _) hc.size (by first | omega | (simp only [fldW_len, linW_len, List.length_append, List.length_cons, List.length_nil]; omega))) hs.wlk (fun p hp hlt => absurd hlt (Nat.not_lt_of_le (Sl.ge hs p hp))) ?_
  rintro u37 m37 ⟨ad37, n37, cap37, rfl, hn37, hs37⟩ hin37
  refine LM.nil ?_
  refine QM.one au1 (fun _ _ => trivial) ?_
  refine KD.one rfl ?_
  refine LM.appN (ys := [mk3 [59]]) Tryz.underlying23 Tryz.typeInfo65 rfl rfl rfl rfl rfl rfl rfl hs37 (fun w hm hc hg => row_sr 1 (hm.at b39) rfl rfl (fun _ => rfl)) (by intro _; rfl) (by intro _ u hu; simp [fW] at hu; (repeat (first | (rcases hu with rfl | hu) | subst hu | rfl))) (by first | exact Nat.le_refl _ | omega) (fun p hp hlt => absurd hlt (Nat.not_lt_of_le (Sl.ge hs37 p hp))) (by first | omega | (unfold maxLen; omega) | (simp only [fldW_len, linW_len, List.length_append, List.length_cons, List.length_nil]; unfold maxLen; omega)) (by simp only [Tryz.t65, fldW_len, linW_len, List.length_append, List.length_cons, List.length_nil]; omega) (fun ad40 n40 cap40 m40 hn40 hs40 hin40 => ?_)
  refine LM.nil ?_
  refine QM.one au1 (fun _ _ => trivial) ?_
  refine KD.val rfl rfl (ov_assign rfl) ?_
  refine KD.nil ?_
  refine QM.sub (e' := [(1, _), (3, _), (4, _), (5, _)]) au9 ?_
  refine QM.block_normal ?_
  refine QM.then (wpM.region ?_)
  refine LM.mv rfl ?_
  refine LM.val (ov_add64 rfl rfl (by omega)) ?_
  refine LM.as rfl ?_
  refine LM.nil (QM.sub (e' := [(1, _), (3, _), (4, _), (5, _)]) au9 ?_)
  refine QM.againK ((i + 1, l ++ fldW wGroup (s.gs.getD i 0) ++ [mk3 [59]], ad40, n40, cap40, m40)) ⟨au2, au2, rfl, rfl, trivial⟩ au1 (fun _ h => h) ?_ ?_
  · exact ⟨by omega, by rw [lin_snoc (by omega), hl]; simp [linW], by have h8 := lin_flen (gs := s.gs.take i) (t := wGroup); have h7 := List.length_take_le i s.gs; rw [hl]; simp only [List.length_append, linW_len, fldW_len, List.length_cons, List.length_nil]; omega, by rw [hn40]; simp [Nat.add_assoc], hs40⟩
  · first | omega | (dsimp only; omega)
 refine wpM.exit ?_
 refine QM.then_exit ?_
 refine QM.then_exit ?_
 refine QM.block_hit ?_
 refine QM.then ?_
 refine wpM.seq ?_
 refine wpM.seq (wpM.region ?_)
 refine LM.as rfl ?_
 refine LM.nil (QM.sub (e' := [(1, _), (3, _), (4, _), (6, _)]) au9 (QM.then ?_))
 refine wpM.block ?_
 refine wpM.loopK0 (α := Nat × List Wrd × Option Addr × Nat × Nat × Mem0) (fun ⟨j, l, ad, n, cap, m⟩ => [(4, .slice ad n cap), (6, .int .i64 (j : Nat))]) [(1, _), (3, _)] (fun ⟨j, l, ad, n, cap, m⟩ => m ++ (eBk b3 :: stB b1 s :: [])) (fun ⟨j, l, ad, n, cap, m⟩ => j ≤ s.ls.length ∧ l = linW wCores s.cr ++ linW wGrain s.gr ++ s.gs.flatMap (linW wGroup) ++ (s.ls.take j).flatMap lckW ∧ l.length ≤ 1000 ∧ n = l.length ∧ Sl fW 65 4 w.heap.size l (.slice ad n cap) m) (fun ⟨j, l, ad, n, cap, m⟩ => s.ls.length - j) ((0, l, ad, n, cap, m)) ⟨au2, au2, rfl, rfl, trivial⟩ au1 ⟨Nat.zero_le _, by have hil : i = s.gs.length := (by omega); rw [hil, List.take_length] at hl; rw [hl]; simp, by omega, hn, hs⟩ ?_
 rintro ⟨j, l, ad, n, cap, m⟩ ⟨hj, hl, hlx, hn, hs⟩
 change wpM _ _ _ _ _ _ _ (m ++ (eBk b3 :: stB b1 s :: [])) _ _ _
 refine wpM.seq ?_
 refine wpM.seq (wpM.region ?_)
 refine LM.mv rfl (LM.val (ov_field Tryz.underlying30 rfl Tryz.sizeOf27 rfl (k := 3) rfl rfl) ?_)
 refine LM.rd (om_ld Tryz.isAgg27 rfl rfl) ?_
 refine LM.val (ov_len Tryz.underlying27 rfl) ?_
 refine LM.val (ov_lss rfl rfl) ?_
 refine LM.nil (QM.sub (e' := [(1, _), (3, _), (4, _), (6, _), (45, _)]) au9 (QM.then ?_))
 refine wpM.condD rfl (fun h2 => ?_) (fun h2 => ?_)
 ·
  refine wpM.skip ?_
  refine QM.then ?_
  refine wpM.seq ?_
  refine wpM.block ?_
  refine wpM.seq (wpM.region ?_)
  refine LM.val (ov_field Tryz.underlying30 rfl Tryz.sizeOf27 rfl (k := 3) rfl rfl) ?_
  refine LM.rd (om_ld Tryz.isAgg27 rfl rfl) ?_
  refine LM.mv rfl ?_
  refine LM.val (ov_idxSN au6 Tryz.underlying27 Tryz.sizeOf63 rfl rfl (by omega)) ?_
  first | refine LM.rd (om_slA (by assumption) (by intro _; rfl) Tryz.isAgg63 Tryz.sizeOf63 rfl au3) ?_ | refine LM.rdC (om_srEA (by assumption) (by intro _; rfl) Tryz.isAgg63 Tryz.sizeOf63 rfl au3 id) ?_ | refine LM.rd (om_ldW Tryz.isAgg63 Tryz.sizeOf63 rfl rfl) ?_ | refine LM.rd (om_ldA Tryz.isAgg63 Tryz.sizeOf63 rfl (vs := [_, _, _, _, _]) rfl ⟨rfl, rfl, rfl, rfl, rfl, trivial⟩) ?_
  refine LM.alloc Tryz.zeroValue63 rfl (fun b7 hb7 => ?_)
  refine LM.stW Tryz.sizeOf63 rfl rfl rfl rfl au7 au8 ?_
  refine LM.nil (QM.sub (e' := [(1, _), (3, _), (4, _), (6, _), (7, _)]) au9 (QM.then (wpM.seq (wpM.region ?_))))
  refine LM.as rfl ?_
  refine LM.nil (QM.sub (e' := [(1, _), (3, _), (4, _), (6, _), (7, _), (8, _)]) au9 (QM.then ?_))
  refine wpM.seq ?_
  refine wpM.seq (wpM.region ?_)
  refine LM.val (ov_field Tryz.underlying63 rfl Tryz.sizeOf4 rfl (k := 0) rfl rfl) ?_
  refine LM.rd (om_ld Tryz.isAgg4 rfl rfl) ?_
  refine LM.nil (QM.sub (e' := [(1, _), (3, _), (4, _), (6, _), (7, _), (8, _), (54, _)]) au9 (QM.then ?_))
  refine wpM.joinK (α := List UInt8) (fun tt => [(8, vS tt)]) [(1, _), (3, _), (4, _), (6, _), (7, _)] (fun tt => m ++ ((b7, .cells (fL (s.ls.getD j default)).toArray 63 (0, 0)) :: eBk b3 :: stB b1 s :: [])) (fun tt => tt = (if (s.ls.getD j default).sh then wShared else wLock)) ⟨rfl, rfl, rfl, rfl, rfl, trivial⟩ ?_ ?_
  ·
   first | refine wpM.condD rfl (fun h3 => ?_) (fun h3 => ?_) | refine wpM.condB rfl (fun h3 => ?_) (fun h3 => ?_)
   ·
    refine wpM.region ?_
    refine LM.as rfl ?_
    refine LM.nil (QM.sub (e' := [(1, _), (3, _), (4, _), (6, _), (7, _), (8, _)]) au9 ?_)
    refine QM.meetK (wShared) ⟨au2, rfl, rfl, rfl, rfl, rfl, trivial⟩ au1 ?_
    · rw [if_pos h3]
   refine wpM.skip ?_
   refine QM.meetK (wLock) ⟨au2, rfl, rfl, rfl, rfl, rfl, trivial⟩ au1 ?_
   · rw [if_neg (by rw [h3]; simp)]
  rintro tt htt
  change QM _ _ _ _ _ (m ++ ((b7, .cells (fL (s.ls.getD j default)).toArray 63 (0, 0)) :: eBk b3 :: stB b1 s :: [])) _ _ _
  refine QM.then (wpM.seq (wpM.region ?_))
  refine LM.mv rfl (LM.mv rfl ?_)
  refine LM.val (ov_build (cs := #[_, _, _, _]) rfl (by first | rfl | kernel_rfl)) ?_
  refine LM.single Tryz.underlying23 Tryz.sizeOf65 Tryz.zeroValue65 rfl rfl rfl rfl rfl (fun b58 hb58 => ?_)
  refine LM.appN (ys := [nmE tt]) Tryz.underlying23 Tryz.typeInfo65 rfl rfl rfl rfl rfl rfl rfl hs (fun w hm hc hg => row_sr 1 (hm.at b58) rfl rfl (fun _ => rfl)) (by intro _; rfl) (by intro _ u hu; simp [fW] at hu; (repeat (first | (rcases hu with rfl | hu) | subst hu | rfl))) (by first | exact Nat.le_refl _ | omega) (fun p hp hlt => absurd hlt (Nat.not_lt_of_le (Sl.ge hs p hp))) (by first | omega | (unfold maxLen; omega) | (simp only [fldW_len, linW_len, List.length_append, List.length_cons, List.length_nil]; unfold maxLen; omega)) (by simp only [Tryz.t65, fldW_len, linW_len, List.length_append, List.length_cons, List.length_nil]; omega) (fun ad59 n59 cap59 m59 hn59 hs59 hin59 => ?_)
  refine LM.as rfl ?_
  refine LM.nil (QM.sub (e' := [(1, _), (3, _), (4, _), (6, _), (7, _)]) au9 (QM.then ?_))
  refine wpM.seq ?_
  refine wpM.keep ((b7, _) :: []) (fun _ => True) (.one 0 0 (.one 1 0 (.one 2 1 (.one 4 0 (.one 5 1 (.one 3 2 (.one 6 2 (.one 7 0 .nil)))))))) (by kernel_rfl) (by kernel_rfl) au1 (fun _ _ => trivial) ?_
  refine KD.val rfl rfl (ov_move rfl) ?_
  refine KD.val rfl rfl (ov_field Tryz.underlying63 rfl Tryz.sizeOf3 rfl (k := 1) rfl rfl) ?_
  refine KD.rd rfl rfl (om_ld Tryz.isAgg3 rfl rfl) ?_
  refine KD.val rfl rfl (ov_field Tryz.underlying63 rfl Tryz.sizeOf3 rfl (k := 2) rfl rfl) ?_
  refine KD.rd rfl rfl (om_ld Tryz.isAgg3 rfl rfl) ?_
  refine KD.one rfl ?_
  refine LM.cU (oc_call (enters_fn Tryz.func60 (by kernel_rfl) rfl) rfl) (fun w hm hc hg => rfield_spec wSlice (s.ls.getD j default).sl w hs59 (hm.pick _) hc.size (by first | omega | (simp only [fldW_len, linW_len, List.length_append, List.length_cons, List.length_nil]; omega))) hs59.wlk (fun p hp hlt => absurd hlt (Nat.not_lt_of_le (Sl.ge hs59 p hp))) ?_
  rintro u63 m63 ⟨ad63, n63, cap63, rfl, hn63, hs63⟩ hin63
  refine LM.nil ?_
  refine QM.one au1 (fun _ _ => trivial) ?_
  refine KD.one rfl ?_
  refine LM.cU (oc_call (enters_fn Tryz.func60 (by kernel_rfl) rfl) rfl) (fun w hm hc hg => rfield_spec wCrit (s.ls.getD j default).cr w hs63 (hm.pick _) hc.size (by first | omega | (simp only [fldW_len, linW_len, List.length_append, List.length_cons, List.length_nil]; omega))) hs63.wlk (fun p hp hlt => absurd hlt (Nat.not_lt_of_le (Sl.ge hs63 p hp))) ?_
  rintro u66 m66 ⟨ad66, n66, cap66, rfl, hn66, hs66⟩ hin66
  refine LM.nil ?_
  refine QM.one au1 (fun _ _ => trivial) ?_
  refine KD.val rfl rfl (ov_assign rfl) ?_
  refine KD.nil ?_
  refine QM.sub (e' := [(1, _), (3, _), (4, _), (6, _), (7, _)]) au9 (QM.then ?_)
  refine wpM.seq ?_
  refine wpM.seq (wpM.region ?_)
  refine LM.val (ov_field Tryz.underlying63 rfl Tryz.sizeOf4 rfl (k := 0) rfl rfl) ?_
  refine LM.rd (om_ld Tryz.isAgg4 rfl rfl) ?_
  refine LM.nil (QM.sub (e' := [(1, _), (3, _), (4, _), (6, _), (7, _), (68, _)]) au9 (QM.then ?_))
  refine wpM.joinK (α := List Wrd × Option Addr × Nat × Nat × Mem0) (fun ⟨ld, add, nd, capd, md⟩ => [(4, .slice add nd capd)]) [(1, _), (3, _), (6, _)] (fun ⟨ld, add, nd, capd, md⟩ => md ++ (eBk b3 :: stB b1 s :: [])) (fun ⟨ld, add, nd, capd, md⟩ => ld = l ++ [nmE tt] ++ fldW wSlice (s.ls.getD j default).sl ++ fldW wCrit (s.ls.getD j default).cr ++ (if (s.ls.getD j default).sh then fldW wRead (s.ls.getD j default).rd ++ fldW wWrite (s.ls.getD j default).wr else []) ∧ ld.length ≤ l.length + 9 ∧ nd = ld.length ∧ Sl fW 65 4 w.heap.size ld (.slice add nd capd) md) ⟨rfl, rfl, rfl, trivial⟩ ?_ ?_
  ·
   first | refine wpM.condD rfl (fun h4 => ?_) (fun h4 => ?_) | refine wpM.condB rfl (fun h4 => ?_) (fun h4 => ?_)
   ·
    refine wpM.keep ((b7, _) :: []) (fun _ => True) (.one 0 0 (.one 1 0 (.one 2 1 (.one 4 0 (.one 5 1 (.one 3 2 (.one 6 2 (.one 7 0 .nil)))))))) (by kernel_rfl) (by kernel_rfl) au1 (fun _ _ => trivial) ?_
    refine KD.val rfl rfl (ov_move rfl) ?_
    refine KD.val rfl rfl (ov_field Tryz.underlying63 rfl Tryz.sizeOf3 rfl (k := 3) rfl rfl) ?_
    refine KD.rd rfl rfl (om_ld Tryz.isAgg3 rfl rfl) ?_
    refine KD.val rfl rfl (ov_field Tryz.underlying63 rfl Tryz.sizeOf3 rfl (k := 4) rfl rfl) ?_
    refine KD.rd rfl rfl (om_ld Tryz.isAgg3 rfl rfl) ?_
    refine KD.one rfl ?_
    refine LM.cU (oc_call (enters_fn Tryz.func60 (by kernel_rfl) rfl) rfl) (fun w hm hc hg => rfield_spec wRead (s.ls.getD j default).rd w hs66 (hm.pick _) hc.size (by first | omega | (simp only [fldW_len, linW_len, List.length_append, List.length_cons, List.length_nil]; omega))) hs66.wlk (fun p hp hlt => absurd hlt (Nat.not_lt_of_le (Sl.ge hs66 p hp))) ?_
    rintro u72 m72 ⟨ad72, n72, cap72, rfl, hn72, hs72⟩ hin72
    refine LM.nil ?_
    refine QM.one au1 (fun _ _ => trivial) ?_
    refine KD.one rfl ?_
    refine LM.cU (oc_call (enters_fn Tryz.func60 (by kernel_rfl) rfl) rfl) (fun w hm hc hg => rfield_spec wWrite (s.ls.getD j default).wr w hs72 (hm.pick _) hc.size (by first | omega | (simp only [fldW_len, linW_len, List.length_append, List.length_cons, List.length_nil]; omega))) hs72.wlk (fun p hp hlt => absurd hlt (Nat.not_lt_of_le (Sl.ge hs72 p hp))) ?_
    rintro u75 m75 ⟨ad75, n75, cap75, rfl, hn75, hs75⟩ hin75
    refine LM.nil ?_
    refine QM.one au1 (fun _ _ => trivial) ?_
    refine KD.val rfl rfl (ov_assign rfl) ?_
    refine KD.nil ?_
    refine QM.sub (e' := [(1, _), (3, _), (4, _), (6, _)]) au9 ?_
    refine QM.meetK ((l ++ [nmE tt] ++ fldW wSlice (s.ls.getD j default).sl ++ fldW wCrit (s.ls.getD j default).cr ++ fldW wRead (s.ls.getD j default).rd ++ fldW wWrite (s.ls.getD j default).wr, ad75, n75, cap75, m75)) ⟨au2, rfl, rfl, rfl, trivial⟩ au1 ?_
    · exact ⟨by rw [if_pos h4]; simp, by simp [fldW_len], by rw [hn75], hs75⟩
   refine wpM.skip ?_
   refine QM.meetK ((l ++ [nmE tt] ++ fldW wSlice (s.ls.getD j default).sl ++ fldW wCrit (s.ls.getD j default).cr, ad66, n66, cap66, m66)) ⟨au2, rfl, rfl, rfl, trivial⟩ au1 ?_
   · exact ⟨by rw [if_neg (by rw [h4]; simp)]; simp, by simp [fldW_len], by rw [hn66], hs66⟩
  rintro ⟨ld, add, nd, capd, md⟩ ⟨hld, hldx, hnd, hsd⟩
  change QM _ _ _ _ _ (md ++ (eBk b3 :: stB b1 s :: [])) _ _ _
  refine QM.then (wpM.region ?_)
  refine LM.mv rfl ?_
  refine LM.rd (om_ldW Tryz.isAgg65 Tryz.sizeOf65 rfl rfl) ?_
  refine LM.single Tryz.underlying23 Tryz.sizeOf65 Tryz.zeroValue65 rfl rfl rfl rfl rfl (fun b78 hb78 => ?_)
  refine LM.appN (ys := [mk3 [59]]) Tryz.underlying23 Tryz.typeInfo65 rfl rfl rfl rfl rfl rfl rfl hsd (fun w hm hc hg => row_sr 1 (hm.at b78) rfl rfl (fun _ => rfl)) (by intro _; rfl) (by intro _ u hu; simp [fW] at hu; (repeat (first | (rcases hu with rfl | hu) | subst hu | rfl))) (by first | exact Nat.le_refl _ | omega) (fun p hp hlt => absurd hlt (Nat.not_lt_of_le (Sl.ge hsd p hp))) (by first | omega | (unfold maxLen; omega) | (simp only [fldW_len, linW_len, List.length_append, List.length_cons, List.length_nil]; unfold maxLen; omega)) (by simp only [Tryz.t65, fldW_len, linW_len, List.length_append, List.length_cons, List.length_nil]; omega) (fun ad79 n79 cap79 m79 hn79 hs79 hin79 => ?_)
  refine LM.as rfl ?_
  refine LM.nil (QM.sub (e' := [(1, _), (3, _), (4, _), (6, _)]) au9 ?_)
  refine QM.block_normal ?_
  refine QM.then (wpM.region ?_)
  refine LM.mv rfl ?_
  refine LM.val (ov_add64 rfl rfl (by omega)) ?_
  refine LM.as rfl ?_
  refine LM.nil (QM.sub (e' := [(1, _), (3, _), (4, _), (6, _)]) au9 ?_)
  refine QM.againK ((j + 1, ld ++ [mk3 [59]], ad79, n79, cap79, m79)) ⟨au2, au2, rfl, rfl, trivial⟩ au1 (fun _ h => h) ?_ ?_
  · exact ⟨by omega, by rw [lck_snoc (by omega), hld, hl, htt]; unfold lckW; cases (s.ls.getD j default).sh <;> simp, by have h8 := lck_flen (ls := s.ls.take j); have h7 := List.length_take_le j s.ls; rw [hl] at hldx; simp only [List.length_append, linW_len, List.length_cons, List.length_nil] at hldx ⊢; omega, by rw [hn79]; simp, hs79⟩
  · first | omega | (dsimp only; omega)
 refine wpM.exit ?_
 refine QM.then_exit ?_
 refine QM.then_exit ?_
 refine QM.block_hit ?_
 refine QM.then ?_
 refine wpM.seq ?_
 refine wpM.seq (wpM.region ?_)
 refine LM.as rfl ?_
 refine LM.nil (QM.sub (e' := [(1, _), (4, _), (9, _)]) au9 (QM.then ?_))
 refine wpM.block ?_
 refine wpM.loopK0 (α := Nat × List Wrd × Option Addr × Nat × Nat × Mem0) (fun ⟨k, l, ad, n, cap, m⟩ => [(4, .slice ad n cap), (9, .int .i64 (k : Nat))]) [(1, _)] (fun ⟨k, l, ad, n, cap, m⟩ => m ++ (stB b1 s :: [])) (fun ⟨k, l, ad, n, cap, m⟩ => k ≤ s.ps.length ∧ l = linW wCores s.cr ++ linW wGrain s.gr ++ s.gs.flatMap (linW wGroup) ++ s.ls.flatMap lckW ++ pgW ((s.ps.map PgV.c).take k) ∧ l.length ≤ 10000 ∧ n = l.length ∧ Sl fW 65 4 w.heap.size l (.slice ad n cap) m) (fun ⟨k, l, ad, n, cap, m⟩ => s.ps.length - k) ((0, l, ad, n, cap, m)) ⟨au2, au2, rfl, trivial⟩ au1 ⟨Nat.zero_le _, by have hjl : j = s.ls.length := (by omega); rw [hjl, List.take_length] at hl; rw [hl]; simp [pgW], by omega, hn, hs⟩ ?_
 rintro ⟨k, l, ad, n, cap, m⟩ ⟨hk, hl, hlx, hn, hs⟩
 change wpM _ _ _ _ _ _ _ (m ++ (stB b1 s :: [])) _ _ _
 refine wpM.seq ?_
 refine wpM.seq (wpM.region ?_)
 refine LM.mv rfl (LM.val (ov_field Tryz.underlying30 rfl Tryz.sizeOf28 rfl (k := 4) rfl rfl) ?_)
 refine LM.rd (om_ld Tryz.isAgg28 rfl rfl) ?_
 refine LM.val (ov_len Tryz.underlying28 rfl) ?_
 refine LM.val (ov_lss rfl rfl) ?_
 refine LM.nil (QM.sub (e' := [(1, _), (4, _), (9, _), (84, _)]) au9 (QM.then ?_))
 refine wpM.condD rfl (fun h5 => ?_) (fun h5 => ?_)
 ·
  have hpm : s.ps.getD k default ∈ s.ps := List.mem_of_getElem? (getq default (by omega))
  refine wpM.skip ?_
  refine QM.then ?_
  refine wpM.seq ?_
  refine wpM.block ?_
  refine wpM.region ?_
  have h5 := words_len (s.ps.getD k default).c.fv (s.ps.getD k default).c.xs; have h4 := hp12 _ (List.mem_map_of_mem hpm)
  refine LM.mv rfl (LM.val (ov_field Tryz.underlying30 rfl Tryz.sizeOf28 rfl (k := 4) rfl rfl) ?_)
  refine LM.rd (om_ld Tryz.isAgg28 rfl rfl) ?_
  refine LM.mv rfl ?_
  refine LM.val (ov_idxSN au6 Tryz.underlying28 Tryz.sizeOf87 rfl rfl (by omega)) ?_
  first | refine LM.rd (om_slA (by assumption) (by intro _; rfl) Tryz.isAgg87 Tryz.sizeOf87 rfl au3) ?_ | refine LM.rdC (om_srEA (by assumption) (by intro _; rfl) Tryz.isAgg87 Tryz.sizeOf87 rfl au3 id) ?_ | refine LM.rd (om_ldW Tryz.isAgg87 Tryz.sizeOf87 rfl rfl) ?_ | refine LM.rd (om_ldA Tryz.isAgg87 Tryz.sizeOf87 rfl (vs := [_, _]) rfl ⟨rfl, rfl, trivial⟩) ?_
  refine LM.cS (oc_call (enters_fn Tryz.func61 (by kernel_rfl) rfl) rfl) (fun w hm hc hg => rwords_spec w (hI.ops _ hpm).1 ((hI.ops _ hpm).2.ext hc) (by have := hp12 _ (List.mem_map_of_mem hpm); omega)) (fun ad93 n93 cap93 m93 hn93 hs93 => ?_)
  refine LM.appN (ys := wordsF (s.ps.getD k default).c.fv (s.ps.getD k default).c.xs) Tryz.underlying23 Tryz.typeInfo65 rfl rfl rfl rfl rfl rfl rfl hs (fun w hm hc hg => hs93.srM (by intro _; rfl) hm) (by intro _; rfl) (by intro _ u hu; simp [fW] at hu; (repeat (first | (rcases hu with rfl | hu) | subst hu | rfl))) (by first | exact Nat.le_refl _ | omega) (fun p hp hlt => absurd hlt (Nat.not_lt_of_le (Sl.ge hs p hp))) (by first | omega | (unfold maxLen; omega) | (simp only [fldW_len, linW_len, List.length_append, List.length_cons, List.length_nil]; unfold maxLen; omega)) (by simp only [Tryz.t65, fldW_len, linW_len, List.length_append, List.length_cons, List.length_nil]; omega) (fun ad94 n94 cap94 m94 hn94 hs94 hin94 => ?_)
  refine LM.as rfl ?_
  refine LM.nil (QM.sub (e' := [(1, _), (4, _), (9, _)]) au9 ?_)
  refine QM.block_normal ?_
  refine QM.then (wpM.region ?_)
  refine LM.mv rfl ?_
  refine LM.val (ov_add64 rfl rfl (by omega)) ?_
  refine LM.as rfl ?_
  refine LM.nil (QM.sub (e' := [(1, _), (4, _), (9, _)]) au9 ?_)
  refine QM.againK ((k + 1, l ++ wordsF (s.ps.getD k default).c.fv (s.ps.getD k default).c.xs, ad94, n94, cap94, m94)) ⟨au2, au2, rfl, trivial⟩ au1 (fun _ h => h) ?_ ?_
  · exact ⟨by omega, by rw [pgW_snoc (by simp; omega), map_getD, hl]; simp, by have h8 := pg_flen (ps := (s.ps.map PgV.c).take k) (fun p hp => hp12 p (List.mem_of_mem_take hp)); have h6 := List.length_take_le k (s.ps.map PgV.c); rw [hl]; simp only [List.length_append, linW_len]; omega, by first | (rw [hn94, List.length_append]; done) | omega, hs94⟩
  · first | omega | (dsimp only; omega)
 refine wpM.exit ?_
 refine QM.then_exit ?_
 refine QM.then_exit ?_
 refine QM.block_hit ?_
 refine QM.then (wpM.seq (wpM.region ?_))
 refine LM.mv rfl (LM.as rfl ?_)
 refine LM.nil (QM.sub (e' := [(2, _)]) ⟨rfl, trivial⟩ (QM.then ?_))
 refine wpM.ret ?_
 refine QM.leave (.inl rfl) [.tmp 2] Tryz.results21 rfl ?_
 intro w' hm' hc' hg'
 have hkl : k = s.ps.length := (by omega); have hw : setW s.C = l := (by rw [hl, setW_eq, hkl, List.take_of_length_le (by omega)]; rfl); rw [hw]; exact ⟨hc', m, hs, hm'.pick m⟩
end Go.Eng
