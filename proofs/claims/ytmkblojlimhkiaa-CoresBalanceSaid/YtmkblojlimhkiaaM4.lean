/- The walks of run queues: units, and how a queue lies. No condition. -/
import Derived.Test.YtmkblojlimhkiaaM3
import Derived.Test.YtmkblojlimhkiaaM2
import Derived.Laws.Externs
set_option linter.unusedVariables false
set_option linter.unusedSimpArgs false
namespace Go.Eng
open Go Go.Proofs Go.RowKit
theorem ov_callX {P : Program} {e : Env} {f : FuncId} {l : List Operand} {vs : List Value} {ats : Array TypeId} {ty : TypeId} {v : Value} (h : evs e l = some vs) (hx : ∀ w, (callFunc f vs.toArray).run P w = .ok (.value v) w) : OpP P (.call { callee := .value (.func f), args := l.toArray, argTypes := ats }) ty e v := fun w ρ hρ _ _ _ _ => by
  simp [execOp, resolve, hρ (.func f) _ rfl, Deferred.ofValue, invoke, evs_map hρ h]
  exact hx w
theorem add64_run (a b : BitVec 64) (w : World) : (callFunc 101 #[U a, U b, U 0#64]).run Try.prog w = .ok (.value (.tuple #[U (a + b), U (if a.toNat + b.toNat < 18446744073709551616 then 0#64 else 1#64)])) w := by
  have h := run_callFunc_extern (P := Try.prog) (e := add64Entry) (f := 101) Try.func101 (by kernel_rfl) (by kernel_rfl) (by kernel_rfl) (by kernel_rfl) #[U a, U b, U 0#64] w
  rw [h, show (#[U a, U b, U 0#64] : Array Value) = #[.int .u64 (a.toNat : Int), .int .u64 (b.toNat : Int), .int .u64 0] from rfl, run_add64 a.toNat b.toNat 0 (by omega) (by omega) (by omega) (by omega)]
  have e1 : ((a.toNat : Int) + b.toNat + 0) % 18446744073709551616 = ((a + b).toNat : Int) := by rw [BitVec.toNat_add]; omega
  have ha := a.isLt
  have hb := b.isLt
  have e2 : ((a.toNat : Int) + b.toNat + 0) / 18446744073709551616 = ((if a.toNat + b.toNat < 18446744073709551616 then 0#64 else 1#64 : BitVec 64).toNat : Int) := by
    split
    · show _ = (0 : Int); omega
    · show _ = (1 : Int); omega
  simp only [Result.andThen]
  rw [e1, e2]
set_option maxRecDepth 100000 in
theorem fadd_spec (a b : BitVec 64) (w : World) : Ret Try.prog 75 #[U a, U b] w (fun v w' => v = .tuple #[U (addO a b), .int .i64 (if a.toNat + b.toNat < 18446744073709551616 then 0 else 2)] ∧ Ext w w') := by
 refine Ret.enterM (l := [U a, U b]) Try.func75 rfl Try.ntmps75 rfl ([]) (no) (Mem.nil w) ?_
 refine wpM.seq (wpM.region ?_)
 refine LM.as rfl (LM.as rfl ?_)
 refine LM.nil (QM.sub (e' := [(0, _), (1, _)]) au9 (QM.then (wpM.seq (wpM.region ?_))))
 refine LM.mv rfl (LM.mv rfl ?_)
 refine LM.val (ov_callX rfl (add64_run a b)) ?_
 refine LM.mv rfl ?_
 refine LM.val (ov_extract rfl rfl) ?_
 refine LM.val (ov_extract rfl rfl) ?_
 refine LM.as rfl (LM.as rfl ?_)
 refine LM.nil (QM.sub (e' := [(6, _), (7, _)]) au9 (QM.then ?_))
 refine wpM.seq ?_
 refine wpM.seq (wpM.region ?_)
 refine LM.mv rfl ?_
 refine LM.val (ov_uneq (b := 0#64) rfl rfl) ?_
 refine LM.nil (QM.sub (e' := [(6, _), (15, _)]) au9 (QM.then ?_))
 refine wpM.condD rfl (fun h1 => ?_) (fun h1 => ?_)
 ·
  refine wpM.seq (wpM.region ?_)
  refine LM.as rfl (LM.as rfl ?_)
  refine LM.nil (QM.sub (e' := [(4, _), (5, _)]) au9 (QM.then ?_))
  refine wpM.ret ?_
  refine QM.then_ret ?_
  refine QM.leave (.inl rfl) [.tmp 4, .tmp 5] Try.results75 rfl ?_
  intro w' hm' hc' hg'
  have hlt : ¬ a.toNat + b.toNat < 18446744073709551616 := (by intro q; rw [if_pos q] at h1; exact h1 rfl); refine ⟨?_, hc'⟩; unfold addO; rw [if_neg hlt, if_neg hlt]; rfl
 refine wpM.skip ?_
 refine QM.then (wpM.seq (wpM.region ?_))
 refine LM.mv rfl (LM.as rfl (LM.as rfl ?_))
 refine LM.nil (QM.sub (e' := [(4, _), (5, _)]) au9 (QM.then ?_))
 refine wpM.ret ?_
 refine QM.leave (.inl rfl) [.tmp 4, .tmp 5] Try.results75 rfl ?_
 intro w' hm' hc' hg'
 have hlt : a.toNat + b.toNat < 18446744073709551616 := (by rcases Nat.lt_or_ge (a.toNat + b.toNat) 18446744073709551616 with q | q; exact q; rw [if_neg (by omega)] at h1; exact absurd (fun z => by cases z) h1); refine ⟨?_, hc'⟩; rw [show addO a b = a + b from if_pos hlt]; simp only [if_pos hlt]; rfl
set_option maxRecDepth 100000 in
theorem fsub_spec (a b : BitVec 64) (w : World) : Ret Try.prog 107 #[U a, U b] w (fun v w' => v = .tuple #[U (if a.toNat < b.toNat then 0#64 else a - b), .int .i64 (if a.toNat < b.toNat then 2 else 0)] ∧ Ext w w') := by
 refine Ret.enterM (l := [U a, U b]) Try.func107 rfl Try.ntmps107 rfl ([]) (no) (Mem.nil w) ?_
 refine wpM.seq (wpM.region ?_)
 refine LM.as rfl (LM.as rfl ?_)
 refine LM.nil (QM.sub (e' := [(0, _), (1, _)]) au9 (QM.then ?_))
 refine wpM.seq ?_
 refine wpM.seq (wpM.region ?_)
 refine LM.mv rfl (LM.mv rfl ?_)
 refine LM.val (ov_ulss rfl rfl) ?_
 refine LM.nil (QM.sub (e' := [(0, _), (1, _), (8, _)]) au9 (QM.then ?_))
 refine wpM.condD rfl (fun h1 => ?_) (fun h1 => ?_)
 ·
  refine wpM.seq (wpM.region ?_)
  refine LM.as rfl (LM.as rfl ?_)
  refine LM.nil (QM.sub (e' := [(4, _), (5, _)]) au9 (QM.then ?_))
  refine wpM.ret ?_
  refine QM.then_ret ?_
  refine QM.leave (.inl rfl) [.tmp 4, .tmp 5] Try.results107 rfl ?_
  intro w' hm' hc' hg'
  refine ⟨?_, hc'⟩; rw [if_pos h1, if_pos h1]; rfl
 refine wpM.skip ?_
 refine QM.then (wpM.seq (wpM.region ?_))
 refine LM.mv rfl (LM.mv rfl ?_)
 refine LM.val (ov_usub rfl rfl) ?_
 refine LM.as rfl (LM.as rfl ?_)
 refine LM.nil (QM.sub (e' := [(4, _), (5, _)]) au9 (QM.then ?_))
 refine wpM.ret ?_
 refine QM.leave (.inl rfl) [.tmp 4, .tmp 5] Try.results107 rfl ?_
 intro w' hm' hc' hg'
 refine ⟨?_, hc'⟩; rw [if_neg h1, if_neg h1]; rfl
theorem bring_eq {n lo hi : Int} (h : lo ≤ hi) : (if hi < (if lo > n then lo else n) then hi else (if lo > n then lo else n)) = bringO n lo hi := by
  unfold bringO; (repeat' split) <;> omega
set_option maxRecDepth 100000 in
theorem ubring_spec (n lo hi : Int) (w : World) (h : lo ≤ hi) : Ret Try.prog 66 #[.int .i64 n, .int .i64 lo, .int .i64 hi] w (fun v w' => v = U (BitVec.ofInt 64 (bringO n lo hi)) ∧ Ext w w') := by
 refine Ret.enterM (l := [.int .i64 n, .int .i64 lo, .int .i64 hi]) Try.func66 rfl Try.ntmps66 rfl ([]) (no) (Mem.nil w) ?_
 refine wpM.seq (wpM.region ?_)
 refine LM.as rfl ?_
 refine LM.nil (QM.sub (e' := [(0, _), (1, _), (2, _)]) au9 (QM.then (wpM.seq (wpM.region ?_))))
 refine LM.mv rfl (LM.mv rfl ?_)
 refine LM.val (ov_max rfl rfl) ?_
 refine LM.mv rfl ?_
 refine LM.val (ov_min rfl rfl) ?_
 refine LM.val (ov_toU Try.underlying3 Try.underlying26 rfl) ?_
 refine LM.as rfl ?_
 refine LM.nil (QM.sub (e' := [(6, _)]) ⟨rfl, trivial⟩ (QM.then ?_))
 refine wpM.ret ?_
 refine QM.leave (.inl rfl) [.tmp 6] Try.results66 rfl ?_
 intro w' hm' hc' hg'
 refine ⟨?_, hc'⟩; show U (BitVec.ofInt 64 _) = _; rw [bring_eq h]
theorem bring_nz {n hi : Int} (h : 1 ≤ hi) (hh : hi ≤ 100000) : BitVec.ofInt 64 (bringO n 1 hi) ≠ 0#64 := by
  have := bring_in (n := n) h
  intro e
  have e2 := congrArg BitVec.toNat e
  rw [BitVec.toNat_ofInt] at e2
  simp at e2
  omega
set_option maxRecDepth 100000 in
theorem ucore_spec (n : Int) (w : World) : Ret Try.prog 16 #[.int .i64 n] w (fun v w' => v = U (coreO n) ∧ Ext w w') := by
 have hz := bring_nz (n := n) (hi := 4096) (by decide) (by decide)
 refine Ret.enterM (l := [.int .i64 n]) Try.func16 rfl Try.ntmps16 rfl ([]) (no) (Mem.nil w) ?_
 refine wpM.seq (wpM.region ?_)
 refine LM.as rfl ?_
 refine LM.nil (QM.sub (e' := [(0, _)]) ⟨rfl, trivial⟩ (QM.then (wpM.seq (wpM.region ?_))))
 refine LM.mv rfl ?_
 refine LM.callE (oc_call (enters_fn Try.func66 (by kernel_rfl) rfl) rfl) (fun w hm hc hg => ubring_spec _ 1 4096 w (by decide)) ?_
 refine LM.val (ov_uquo (a := 1099511627776#64) rfl rfl (by first | decide | assumption)) ?_
 refine LM.as rfl ?_
 refine LM.nil (QM.sub (e' := [(2, _)]) ⟨rfl, trivial⟩ (QM.then ?_))
 refine wpM.ret ?_
 refine QM.leave (.inl rfl) [.tmp 2] Try.results16 rfl ?_
 intro w' hm' hc' hg'
 exact ⟨rfl, hc'⟩
set_option maxRecDepth 100000 in
theorem ureach_spec (n g : Int) (w : World) : Ret Try.prog 20 #[.int .i64 n, .int .i64 g] w (fun v w' => v = U (reachO n g) ∧ Ext w w') := by
 refine Ret.enterM (l := [.int .i64 n, .int .i64 g]) Try.func20 rfl Try.ntmps20 rfl ([]) (no) (Mem.nil w) ?_
 refine wpM.seq (wpM.region ?_)
 refine LM.as rfl ?_
 refine LM.nil (QM.sub (e' := [(0, _), (1, _)]) au9 (QM.then (wpM.seq (wpM.region ?_))))
 refine LM.mv rfl ?_
 refine LM.callE (oc_call (enters_fn Try.func16 (by kernel_rfl) rfl) rfl) (fun w hm hc hg => ucore_spec _ w) ?_
 refine LM.mv rfl ?_
 refine LM.callE (oc_call (enters_fn Try.func66 (by kernel_rfl) rfl) rfl) (fun w hm hc hg => ubring_spec _ 1 8 w (by decide)) ?_
 refine LM.val (ov_umul rfl rfl) ?_
 refine LM.as rfl ?_
 refine LM.nil (QM.sub (e' := [(4, _)]) ⟨rfl, trivial⟩ (QM.then ?_))
 refine wpM.ret ?_
 refine QM.leave (.inl rfl) [.tmp 4] Try.results20 rfl ?_
 intro w' hm' hc' hg'
 exact ⟨rfl, hc'⟩
theorem clamp_eq (v fl r : BitVec 64) : (if (addO fl r).toNat < (if v.toNat < fl.toNat then fl else v).toNat then addO fl r else (if v.toNat < fl.toNat then fl else v)) = clampO v fl r := by
  have ha : fl.toNat ≤ (addO fl r).toNat := by
    unfold addO; split
    · rw [BitVec.toNat_add]; rw [Nat.mod_eq_of_lt (by omega)]; omega
    · have := fl.isLt; show _ ≤ 18446744073709551615; omega
  unfold clampO
  by_cases h : v.toNat < fl.toNat
  · rw [if_pos h, if_pos h, if_neg (by omega)]
  · rw [if_neg h, if_neg h]
set_option maxRecDepth 100000 in
theorem uclamp_spec (v fl r : BitVec 64) (w : World) : Ret Try.prog 88 #[U v, U fl, U r] w (fun u w' => u = U (clampO v fl r) ∧ Ext w w') := by
 refine Ret.enterM (l := [U v, U fl, U r]) Try.func88 rfl Try.ntmps88 rfl ([]) (no) (Mem.nil w) ?_
 refine wpM.seq (wpM.region ?_)
 refine LM.as rfl ?_
 refine LM.nil (QM.sub (e' := [(0, _), (1, _), (2, _)]) au9 (QM.then (wpM.seq (wpM.region ?_))))
 refine LM.mv rfl (LM.mv rfl ?_)
 refine LM.callE (oc_call (enters_fn Try.func75 (by kernel_rfl) rfl) rfl) (fun w hm hc hg => fadd_spec _ _ w) ?_
 refine LM.mv rfl ?_
 refine LM.val (ov_extract rfl rfl) ?_
 refine LM.val (ov_extract rfl rfl) ?_
 refine LM.as rfl (LM.as rfl ?_)
 refine LM.nil (QM.sub (e' := [(0, _), (1, _), (7, _)]) au9 (QM.then (wpM.seq (wpM.region ?_))))
 refine LM.mv rfl (LM.mv rfl ?_)
 refine LM.val (ov_umax rfl rfl) ?_
 refine LM.mv rfl ?_
 refine LM.val (ov_umin rfl rfl) ?_
 refine LM.as rfl ?_
 refine LM.nil (QM.sub (e' := [(6, _)]) ⟨rfl, trivial⟩ (QM.then ?_))
 refine wpM.ret ?_
 refine QM.leave (.inl rfl) [.tmp 6] Try.results88 rfl ?_
 intro w' hm' hc' hg'
 refine ⟨?_, hc'⟩; rw [← clamp_eq]; rfl
end Go.Eng
namespace Go.Eng
open Go Go.Proofs Go.RowKit
abbrev gQ (l : List Kv) (a : Int) : Kv := l.getD (ixO l a) default
def entQ (l : List Kv) : List (Int × Value) := l.map (fun t => (t.id, .agg #[U t.V, .int .i64 t.x]))
theorem entQ_len (l : List Kv) : (entQ l).length = l.length := by simp [entQ]
theorem ent_find : ∀ (l : List Kv) (a : Int) (i : Nat), afind (entQ l) a i = if ixO l a < l.length then some (i + ixO l a, .agg #[U (gQ l a).V, .int .i64 (gQ l a).x]) else none
  | [], a, i => rfl
  | t :: l, a, i => by
    have ih := ent_find l a (i + 1)
    show (if a = t.id then some (i, Value.agg #[U t.V, .int .i64 t.x]) else afind (entQ l) a (i + 1)) = _
    unfold gQ
    rw [ixO_cons]
    by_cases h : t.id = a
    · rw [if_pos h.symm, if_pos h, if_pos (by simp)]; rfl
    · rw [if_neg (fun q => h q.symm), if_neg h, ih]
      by_cases h2 : ixO l a < l.length
      · rw [if_pos h2, if_pos (by simpa using h2)]
        simp only [List.getD_cons_succ]
        congr 2; omega
      · rw [if_neg h2, if_neg (by simpa using h2)]
theorem ent_has (l : List Kv) (a : Int) : (aget (entQ l) a).isSome = decide (ixO l a < l.length) := by
  unfold aget; rw [ent_find]
  by_cases h : ixO l a < l.length
  · rw [if_pos h, decide_eq_true h]; rfl
  · rw [if_neg h, decide_eq_false h]; rfl
theorem gQ_none {l : List Kv} {a : Int} (h : ¬ ixO l a < l.length) : gQ l a = default := by
  unfold gQ; rw [List.getD_eq_getElem?_getD, List.getElem?_eq_none (by omega)]; rfl
theorem ent_get (l : List Kv) (a : Int) : (aget (entQ l) a).getD (.agg #[.int .u64 0, .int .i64 0]) = .agg #[U (gQ l a).V, .int .i64 (gQ l a).x] := by
  unfold aget; rw [ent_find]
  by_cases h : ixO l a < l.length
  · rw [if_pos h]; rfl
  · rw [if_neg h, gQ_none h]; rfl
theorem ent_new {l : List Kv} {a : Int} (h : ¬ ixO l a < l.length) (v : BitVec 64) (x : Int) : aput (entQ l) a (.agg #[U v, .int .i64 x]) = entQ (l ++ [⟨v, a, x⟩]) := by
  unfold aput; rw [ent_find, if_neg h]; simp [entQ]
theorem ent_del {l : List Kv} {a : Int} (h : ixO l a < l.length) : adel (entQ l) a = entQ (l.eraseIdx (ixO l a)) := by
  unfold adel; rw [ent_find, if_pos h]
  simp only [Nat.zero_add]
  unfold entQ; rw [map_erase]
abbrev rqC (b : Nat) (g : Int) (fl : BitVec 64) (bm bt : Nat) (cur ran ld : Int) : Nat × Obj := (b, .cells #[.int .i64 g, U fl, .map (some bm), .pointer (some ⟨bt, 0, none⟩), .int .i64 cur, .int .i64 ran, .int .i64 ld] 93 (0, 0))
def RqM (n0 b : Nat) (x : Qm) (m : Mem0) : Prop := QWf x ∧ ∃ (bm bt : Nat) (es : Array MapEntry) (cl : Nat) (mt : Mem0), m = rqC b x.g x.fl bm bt x.cur x.ran (loadO x.l) :: (bm, .map es cl) :: mt ∧ Ens .i64 es.toList (entQ x.l) ∧ RbT n0 bt 16 (rdyO x) mt ∧ n0 ≤ b ∧ n0 ≤ bm
theorem RqM.ge {n0 b : Nat} {x : Qm} {m : Mem0} (h : RqM n0 b x m) : ∀ p ∈ m, n0 ≤ p.1 := by
  obtain ⟨hq, bm, bt, es, cl, mt, rfl, he, ht, hb, hbm⟩ := h
  intro p hp
  rcases List.mem_cons.1 hp with rfl | hp
  · exact hb
  · rcases List.mem_cons.1 hp with rfl | hp
    · exact hbm
    · exact ht.ge p hp
theorem RqM.wlk {n0 b : Nat} {x : Qm} {m : Mem0} (h : RqM n0 b x m) : ∀ p ∈ m, wlk p.2 = false := by
  obtain ⟨hq, bm, bt, es, cl, mt, rfl, he, ht, hb, hbm⟩ := h
  intro p hp
  rcases List.mem_cons.1 hp with rfl | hp
  · rfl
  · rcases List.mem_cons.1 hp with rfl | hp
    · rfl
    · exact ht.wlk p hp
theorem RqM.mono {n0 n1 b : Nat} {x : Qm} {m : Mem0} (h : RqM n0 b x m) (hn : n1 ≤ n0) : RqM n1 b x m := by
  obtain ⟨hq, bm, bt, es, cl, mt, rfl, he, ht, hb, hbm⟩ := h
  exact ⟨hq, bm, bt, es, cl, mt, rfl, he, ht.mono hn, Nat.le_trans hn hb, Nat.le_trans hn hbm⟩
abbrev inn (m : Mem0) (k : Nat) (x : Mem0) : Prop := ∀ p ∈ x, k ≤ p.1 ∨ ∃ q ∈ m, q.1 = p.1
theorem inn_refl (m : Mem0) (k : Nat) : inn m k m := fun p hp => .inr ⟨p, hp, rfl⟩
theorem inn_trans {m x y : Mem0} {k : Nat} (h : inn m k x) (h2 : inn x k y) : inn m k y := fun p hp => by
  rcases h2 p hp with q | ⟨q, hq, e⟩
  · exact .inl q
  · rw [← e]; exact h q hq
theorem inn_S {m x y : Mem0} {k : Nat} (h : inn x k y) (hs : ∀ p ∈ x, inM m p.1) : ∀ p ∈ y, p.1 < k → inM m p.1 := fun p hp hlt => by
  rcases h p hp with q | ⟨q, hq, e⟩
  · omega
  · rw [← e]; exact hs q hq
theorem inM_0 {b : Nat} {o : Obj} {m : Mem0} : inM ((b, o) :: m) b := ⟨_, List.mem_cons_self .., rfl⟩
theorem inM_1 {b : Nat} {o : Obj} {p : Nat × Obj} {m : Mem0} : inM (p :: (b, o) :: m) b := ⟨_, List.mem_cons_of_mem _ (List.mem_cons_self ..), rfl⟩
theorem inM_2 {p p' : Nat × Obj} {m : Mem0} : ∀ q ∈ m, inM (p :: p' :: m) q.1 := fun q hq => ⟨_, List.mem_cons_of_mem _ (List.mem_cons_of_mem _ hq), rfl⟩
theorem rq_leaf {mt mt' M : Mem0} {p0 p1 p0' p1' : Nat × Obj} {T : Value → Mem0 → Prop} {u : Value} {w w' : World} (hT : T u (p0 :: p1 :: mt')) (hm : Mem w' M) (hs : SubM M (p0 :: p1 :: (mt' ++ []))) (hc : Chg (inM (p0' :: p1' :: mt)) w w') (h0 : p0'.1 = p0.1) (h1 : p1'.1 = p1.1)
    (hin : inn mt w.heap.size mt') : Upd (p0' :: p1' :: mt) T w u w' := by
  rw [List.append_nil] at hs
  refine ⟨hc, _, hT, hs.mem w' hm, fun p hp => ?_⟩
  rcases List.mem_cons.1 hp with rfl | hp
  · exact .inr ⟨_, List.mem_cons_self .., h0⟩
  · rcases List.mem_cons.1 hp with rfl | hp
    · exact .inr ⟨_, List.mem_cons_of_mem _ (List.mem_cons_self ..), h1⟩
    · rcases hin p hp with q | ⟨q, hq, e⟩
      · exact .inl q
      · exact .inr ⟨q, List.mem_cons_of_mem _ (List.mem_cons_of_mem _ hq), e⟩
theorem rq_same {mt M : Mem0} {p0 p1 : Nat × Obj} {T : Value → Mem0 → Prop} {u : Value} {w w' : World} (hT : T u (p0 :: p1 :: mt)) (hm : Mem w' M) (hs : SubM M (p0 :: p1 :: (mt ++ []))) (hc : Chg (inM (p0 :: p1 :: mt)) w w') : Upd (p0 :: p1 :: mt) T w u w' := rq_leaf hT hm hs hc rfl rfl (inn_refl mt _)
set_option maxRecDepth 100000 in
theorem place_spec {b bm bt : Nat} {g cur ran ld : Int} {fl : BitVec 64} (v : BitVec 64) (wt : Int) (w : World) (hM : Mem w [rqC b g fl bm bt cur ran ld]) : Ret Try.prog 63 #[.pointer (some ⟨b, 0, none⟩), U v, .int .i64 wt] w (fun u w' => u = U (clampO v fl (reachO wt g)) ∧ Ext w w') := by
 refine Ret.enterM (l := [.pointer (some ⟨b, 0, none⟩), U v, .int .i64 wt]) Try.func63 rfl Try.ntmps63 rfl (rqC b g fl bm bt cur ran ld :: []) (no) hM ?_
 refine wpM.seq (wpM.region ?_)
 refine LM.as rfl ?_
 refine LM.nil (QM.sub (e' := [(0, _), (1, _), (2, _)]) au9 (QM.then ?_))
 refine wpM.seq ?_
 refine wpM.draw [(0, 0), (1, 0), (2, 0), (3, 0), (4, 1), (5, 0), (6, 0), (7, 0), (8, 0), (9, 1), (10, 2), (11, 2), (12, 0)] (by kernel_rfl) (by kernel_rfl) ?_
 refine LD.val rfl rfl (ov_move rfl) ?_
 refine LD.val rfl rfl (ov_move rfl) ?_
 refine LD.val rfl rfl (ov_nilCheck rfl) ?_
 refine LD.val rfl rfl (ov_field Try.underlying93 rfl Try.sizeOf26 rfl (k := 1) rfl rfl) ?_
 refine LD.rd rfl rfl (om_ld Try.isAgg26 rfl rfl) ?_
 refine LD.val rfl rfl (ov_move rfl) ?_
 refine LD.val rfl rfl (ov_move rfl) ?_
 refine LD.val rfl rfl (ov_nilCheck rfl) ?_
 refine LD.val rfl rfl (ov_field Try.underlying93 rfl Try.sizeOf3 rfl (k := 0) rfl rfl) ?_
 refine LD.rd rfl rfl (om_ld Try.isAgg3 rfl rfl) ?_
 refine LD.callE rfl rfl (oc_call (enters_fn Try.func20 (by kernel_rfl) rfl) rfl) (fun w hm hc hg => ureach_spec _ _ w) ?_
 refine LD.callE rfl rfl (oc_call (enters_fn Try.func88 (by kernel_rfl) rfl) rfl) (fun w hm hc hg => uclamp_spec _ _ _ w) ?_
 refine LD.val rfl rfl (ov_assign rfl) ?_
 refine LD.nil ?_
 refine QM.sub (e' := [(6, _)]) ⟨rfl, trivial⟩ (QM.then ?_)
 refine wpM.ret ?_
 refine QM.leave (.inl rfl) [.tmp 6] Try.results63 rfl ?_
 intro w' hm' hc' hg'
 exact ⟨rfl, hc'⟩
set_option maxRecDepth 100000 in
theorem key_spec {b bm bt : Nat} {g cur ran ld : Int} {fl : BitVec 64} {es : Array MapEntry} {cl : Nat} {l : List Kv} (a : Int) (w : World) (hes : Ens .i64 es.toList (entQ l)) (hM : Mem w [rqC b g fl bm bt cur ran ld, (bm, .map es cl)]) : Ret Try.prog 65 #[.pointer (some ⟨b, 0, none⟩), .int .i64 a] w (fun u w' => u = .agg #[U (gQ l a).V, .int .i64 a] ∧ Ext w w') := by
 refine Ret.enterM (l := [.pointer (some ⟨b, 0, none⟩), .int .i64 a]) Try.func65 rfl Try.ntmps65 rfl (rqC b g fl bm bt cur ran ld :: (bm, .map es cl) :: []) (no) hM ?_
 refine wpM.seq (wpM.region ?_)
 refine LM.alloc Try.zeroValue100 rfl (fun b4 hb4 => ?_)
 refine LM.nil (QM.sub (e' := [(0, _), (1, _), (4, _)]) au9 (QM.then (wpM.seq (wpM.region ?_))))
 refine LM.mv rfl ?_
 refine LM.val (ov_nilCheck rfl) ?_
 refine LM.val (ov_field Try.underlying93 rfl Try.sizeOf89 rfl (k := 2) rfl rfl) ?_
 refine LM.rd (om_ld Try.isAgg89 rfl rfl) ?_
 refine LM.mv rfl ?_
 refine LM.rd (om_lk Try.underlying89 Try.underlying3 Try.zeroValue95 rfl rfl (by assumption) (ent_get _ _)) ?_
 refine LM.val (ov_fieldV Try.underlying95 rfl Try.isAgg26 rfl rfl) ?_
 refine LM.mv rfl ?_
 refine LM.val (ov_build (cs := #[_, _]) rfl (by first | rfl | kernel_rfl)) ?_
 refine LM.stW Try.sizeOf100 rfl rfl rfl rfl au7 (fun hlt => by first | exact inM_0 | exact inM_1 | exact absurd hlt (by omega)) ?_
 refine LM.nil (QM.sub (e' := [(4, _)]) ⟨rfl, trivial⟩ (QM.then ?_))
 refine wpM.ret ?_
 refine QM.leaveCs (ds := ([])) (.inl rfl) [.cell 4 100] Try.results65 hd_nil (rc_w rfl Try.isAgg100 Try.sizeOf100 rfl rc_nil) ?_
 intro w' hm' hc'
 exact ⟨rfl, hc'⟩
set_option maxRecDepth 100000 in
theorem rqV_spec {n0 b : Nat} {x : Qm} {m : Mem0} (a : Int) (w : World) (h : RqM n0 b x m) (hM : Mem w m) : Ret Try.prog 14 #[.pointer (some ⟨b, 0, none⟩), .int .i64 a] w (fun u w' => u = .tuple #[U (gQ x.l a).V, .bool (decide (ixO x.l a < x.l.length))] ∧ Ext w w') := by
 obtain ⟨hq, bm, bt, es, cl, mt, rfl, he, ht, hb, hbm⟩ := h
 refine Ret.enterM (l := [.pointer (some ⟨b, 0, none⟩), .int .i64 a]) Try.func14 rfl Try.ntmps14 rfl (rqC b x.g x.fl bm bt x.cur x.ran (loadO x.l) :: (bm, .map es cl) :: (mt ++ [])) (no) (by rw [List.append_nil]; exact hM) ?_
 refine wpM.seq (wpM.region ?_)
 refine LM.as rfl (LM.as rfl ?_)
 refine LM.nil (QM.sub (e' := [(0, _), (1, _)]) au9 (QM.then ?_))
 refine wpM.seq ?_
 refine wpM.seq (wpM.region ?_)
 refine LM.mv rfl ?_
 refine LM.val (ov_peql (by kernel_rfl) rfl rfl) ?_
 refine LM.nil (QM.sub (e' := [(0, _), (1, _), (9, _)]) au9 (QM.then ?_))
 refine wpM.condF rfl ?_
 refine wpM.skip ?_
 refine QM.then (wpM.seq (wpM.region ?_))
 refine LM.mv rfl ?_
 refine LM.val (ov_nilCheck rfl) ?_
 refine LM.val (ov_field Try.underlying93 rfl Try.sizeOf89 rfl (k := 2) rfl rfl) ?_
 refine LM.rd (om_ld Try.isAgg89 rfl rfl) ?_
 refine LM.mv rfl ?_
 refine LM.rd (om_lkOk Try.underlying89 Try.underlying3 Try.zeroValue95 rfl rfl (by assumption) (ent_get _ _) (ent_has _ _)) ?_
 refine LM.mv rfl ?_
 refine LM.val (ov_extract rfl rfl) ?_
 refine LM.val (ov_extract rfl rfl) ?_
 refine LM.alloc Try.zeroValue95 rfl (fun b6 hb6 => ?_)
 refine LM.stW Try.sizeOf95 rfl rfl rfl rfl au7 (fun hlt => by first | exact inM_0 | exact inM_1 | exact absurd hlt (by omega)) ?_
 refine LM.as rfl ?_
 refine LM.nil (QM.sub (e' := [(6, _), (7, _)]) au9 (QM.then (wpM.seq (wpM.region ?_))))
 refine LM.val (ov_field Try.underlying95 rfl Try.sizeOf26 rfl (k := 0) rfl rfl) ?_
 refine LM.rd (om_ld Try.isAgg26 rfl rfl) ?_
 refine LM.mv rfl (LM.as rfl (LM.as rfl ?_))
 refine LM.nil (QM.sub (e' := [(4, _), (5, _)]) au9 (QM.then ?_))
 refine wpM.ret ?_
 refine QM.leave (.inl rfl) [.tmp 4, .tmp 5] Try.results14 rfl ?_
 intro w' hm' hc' hg'
 exact ⟨rfl, hc'⟩
set_option maxRecDepth 100000 in
theorem rqCur_spec {n0 b : Nat} {x : Qm} {m : Mem0} (w : World) (h : RqM n0 b x m) (hM : Mem w m) : Ret Try.prog 37 #[.pointer (some ⟨b, 0, none⟩)] w (fun u w' => u = .tuple #[.int .i64 x.cur, .int .i64 x.ran, .bool (decide (x.cur ≠ -1))] ∧ Ext w w') := by
 obtain ⟨hq, bm, bt, es, cl, mt, rfl, he, ht, hb, hbm⟩ := h
 refine Ret.enterM (l := [.pointer (some ⟨b, 0, none⟩)]) Try.func37 rfl Try.ntmps37 rfl (rqC b x.g x.fl bm bt x.cur x.ran (loadO x.l) :: (bm, .map es cl) :: (mt ++ [])) (no) (by rw [List.append_nil]; exact hM) ?_
 refine wpM.seq (wpM.region ?_)
 refine LM.as rfl (LM.as rfl (LM.as rfl ?_))
 refine LM.nil (QM.sub (e' := [(0, _)]) ⟨rfl, trivial⟩ (QM.then ?_))
 refine wpM.seq ?_
 refine wpM.seq (wpM.region ?_)
 refine LM.mv rfl ?_
 refine LM.val (ov_peql (by kernel_rfl) rfl rfl) ?_
 refine LM.nil (QM.sub (e' := [(0, _), (6, _)]) au9 (QM.then ?_))
 refine wpM.condF rfl ?_
 refine wpM.skip ?_
 refine QM.then ?_
 refine wpM.seq ?_
 refine wpM.draw [(0, 0), (1, 0), (2, 0), (3, 1), (4, 0), (5, 0), (6, 0), (7, 1), (8, 0), (9, 0), (10, 0), (11, 1), (12, 0), (13, 0), (14, 0), (15, 0)] (by kernel_rfl) (by kernel_rfl) ?_
 refine LD.val rfl rfl (ov_move rfl) ?_
 refine LD.val rfl rfl (ov_nilCheck rfl) ?_
 refine LD.val rfl rfl (ov_field Try.underlying93 rfl Try.sizeOf3 rfl (k := 4) rfl rfl) ?_
 refine LD.rd rfl rfl (om_ld Try.isAgg3 rfl rfl) ?_
 refine LD.val rfl rfl (ov_move rfl) ?_
 refine LD.val rfl rfl (ov_nilCheck rfl) ?_
 refine LD.val rfl rfl (ov_field Try.underlying93 rfl Try.sizeOf3 rfl (k := 5) rfl rfl) ?_
 refine LD.rd rfl rfl (om_ld Try.isAgg3 rfl rfl) ?_
 refine LD.val rfl rfl (ov_move rfl) ?_
 refine LD.val rfl rfl (ov_nilCheck rfl) ?_
 refine LD.val rfl rfl (ov_field Try.underlying93 rfl Try.sizeOf3 rfl (k := 4) rfl rfl) ?_
 refine LD.rd rfl rfl (om_ld Try.isAgg3 rfl rfl) ?_
 refine LD.val rfl rfl (ov_neq rfl rfl) ?_
 refine LD.val rfl rfl (ov_assign rfl) ?_
 refine LD.val rfl rfl (ov_assign rfl) ?_
 refine LD.val rfl rfl (ov_assign rfl) ?_
 refine LD.nil ?_
 refine QM.sub (e' := [(2, _), (3, _), (4, _)]) au9 (QM.then ?_)
 refine wpM.ret ?_
 refine QM.leave (.inl rfl) [.tmp 2, .tmp 3, .tmp 4] Try.results37 rfl ?_
 intro w' hm' hc' hg'
 exact ⟨rfl, hc'⟩
set_option maxRecDepth 100000 in
theorem rqFlo_spec {n0 b : Nat} {x : Qm} {m : Mem0} (w : World) (h : RqM n0 b x m) (hM : Mem w m) : Ret Try.prog 19 #[.pointer (some ⟨b, 0, none⟩)] w (fun u w' => u = U x.fl ∧ Ext w w') := by
 obtain ⟨hq, bm, bt, es, cl, mt, rfl, he, ht, hb, hbm⟩ := h
 refine Ret.enterM (l := [.pointer (some ⟨b, 0, none⟩)]) Try.func19 rfl Try.ntmps19 rfl (rqC b x.g x.fl bm bt x.cur x.ran (loadO x.l) :: (bm, .map es cl) :: (mt ++ [])) (no) (by rw [List.append_nil]; exact hM) ?_
 refine wpM.seq (wpM.region ?_)
 refine LM.as rfl ?_
 refine LM.nil (QM.sub (e' := [(0, _)]) ⟨rfl, trivial⟩ (QM.then ?_))
 refine wpM.seq ?_
 refine wpM.seq (wpM.region ?_)
 refine LM.mv rfl ?_
 refine LM.val (ov_peql (by kernel_rfl) rfl rfl) ?_
 refine LM.nil (QM.sub (e' := [(0, _), (4, _)]) au9 (QM.then ?_))
 refine wpM.condF rfl ?_
 refine wpM.skip ?_
 refine QM.then (wpM.seq (wpM.region ?_))
 refine LM.mv rfl ?_
 refine LM.val (ov_nilCheck rfl) ?_
 refine LM.val (ov_field Try.underlying93 rfl Try.sizeOf26 rfl (k := 1) rfl rfl) ?_
 refine LM.rd (om_ld Try.isAgg26 rfl rfl) ?_
 refine LM.as rfl ?_
 refine LM.nil (QM.sub (e' := [(2, _)]) ⟨rfl, trivial⟩ (QM.then ?_))
 refine wpM.ret ?_
 refine QM.leave (.inl rfl) [.tmp 2] Try.results19 rfl ?_
 intro w' hm' hc' hg'
 exact ⟨rfl, hc'⟩
set_option maxRecDepth 100000 in
theorem rqLoad_spec {n0 b : Nat} {x : Qm} {m : Mem0} (w : World) (h : RqM n0 b x m) (hM : Mem w m) : Ret Try.prog 41 #[.pointer (some ⟨b, 0, none⟩)] w (fun u w' => u = .int .i64 (loadO x.l) ∧ Ext w w') := by
 obtain ⟨hq, bm, bt, es, cl, mt, rfl, he, ht, hb, hbm⟩ := h
 refine Ret.enterM (l := [.pointer (some ⟨b, 0, none⟩)]) Try.func41 rfl Try.ntmps41 rfl (rqC b x.g x.fl bm bt x.cur x.ran (loadO x.l) :: (bm, .map es cl) :: (mt ++ [])) (no) (by rw [List.append_nil]; exact hM) ?_
 refine wpM.seq (wpM.region ?_)
 refine LM.as rfl ?_
 refine LM.nil (QM.sub (e' := [(0, _)]) ⟨rfl, trivial⟩ (QM.then ?_))
 refine wpM.seq ?_
 refine wpM.seq (wpM.region ?_)
 refine LM.mv rfl ?_
 refine LM.val (ov_peql (by kernel_rfl) rfl rfl) ?_
 refine LM.nil (QM.sub (e' := [(0, _), (4, _)]) au9 (QM.then ?_))
 refine wpM.condF rfl ?_
 refine wpM.skip ?_
 refine QM.then (wpM.seq (wpM.region ?_))
 refine LM.mv rfl ?_
 refine LM.val (ov_nilCheck rfl) ?_
 refine LM.val (ov_field Try.underlying93 rfl Try.sizeOf3 rfl (k := 6) rfl rfl) ?_
 refine LM.rd (om_ld Try.isAgg3 rfl rfl) ?_
 refine LM.as rfl ?_
 refine LM.nil (QM.sub (e' := [(2, _)]) ⟨rfl, trivial⟩ (QM.then ?_))
 refine wpM.ret ?_
 refine QM.leave (.inl rfl) [.tmp 2] Try.results41 rfl ?_
 intro w' hm' hc' hg'
 exact ⟨rfl, hc'⟩
end Go.Eng
namespace Go.Eng
open Go Go.Proofs Go.RowKit
def addV (x : Qm) (a : Int) (v : BitVec 64) (w : Int) : BitVec 64 := if addE x a = 0 then plcO x v (bringO w 1 4096) else 0#64
def addX (x : Qm) (a : Int) (v : BitVec 64) (w : Int) : Qm := if addE x a = 0 then addQ x a v w else x
def remX (x : Qm) (a : Int) : Qm := if ixO x.l a < x.l.length then remQ x a else x
def RqN (g : Int) (n0 : Nat) (v : Value) (m : Mem0) : Prop := ∃ b, v = .pointer (some ⟨b, 0, none⟩) ∧ RqM n0 b (newQ g) m
theorem RqN.mono {g : Int} : ∀ (n n' : Nat) (v : Value) (m : Mem0), n' ≤ n → RqN g n v m → RqN g n' v m := fun n n' v m hn ⟨b, h1, h⟩ => ⟨b, h1, h.mono hn⟩
theorem addE_neg {x : Qm} {a : Int} (h : a < 0) : addE x a = 1 := if_pos h
theorem addE_met {x : Qm} {a : Int} (h : ¬ a < 0) (h2 : ixO x.l a < x.l.length) : addE x a = 12 := by unfold addE; rw [if_neg h, if_pos h2]
theorem addE_full {x : Qm} {a : Int} (h : ¬ a < 0) (h2 : ¬ ixO x.l a < x.l.length) (h3 : 16 ≤ x.l.length) : addE x a = 3 := by unfold addE; rw [if_neg h, if_neg h2, if_pos h3]
theorem addE_ok {x : Qm} {a : Int} (h : ¬ a < 0) (h2 : ¬ ixO x.l a < x.l.length) (h3 : ¬ 16 ≤ x.l.length) : addE x a = 0 := by unfold addE; rw [if_neg h, if_neg h2, if_neg h3]
theorem addV_no {x : Qm} {a : Int} {v : BitVec 64} {w : Int} (h : addE x a ≠ 0) : addV x a v w = 0#64 := if_neg h
theorem addX_no {x : Qm} {a : Int} {v : BitVec 64} {w : Int} (h : addE x a ≠ 0) : addX x a v w = x := if_neg h
theorem gQ_new {l : List Kv} {a : Int} (h : ¬ ixO l a < l.length) (v : BitVec 64) (w : Int) : gQ (l ++ [⟨v, a, w⟩]) a = ⟨v, a, w⟩ := by
  unfold gQ
  have e : ixO (l ++ [⟨v, a, w⟩]) a = l.length := by rw [ixO_app h, ixO_cons, if_pos rfl]; rfl
  rw [e, List.getD_eq_getElem?_getD, List.getElem?_append_right (Nat.le_refl _)]; simp
theorem load_new (l : List Kv) (v : BitVec 64) (a w : Int) : loadO l + w = loadO (l ++ [⟨v, a, w⟩]) := by rw [load_app]; simp [loadO]
theorem RbN.mn {most : Nat} : ∀ (k k' : Nat) (u : Value) (m : Mem0), k' ≤ k → RbN most k u m → RbN most k' u m := fun k k' u m hn h => h.mono hn
theorem rdy_id {x : Qm} (h : QWf x) {y : Kv} (hy : y ∈ rdyO x) : y ∈ x.l ∧ y.id ≠ x.cur := (rdy_mem h.nd y).1 hy
theorem rqm_leaf {n0 b bm bt cl cl' : Nat} {x' : Qm} {g cur ran ld : Int} {fl : BitVec 64} {es es' : Array MapEntry} {mt mt' M : Mem0} {u0 : Value} {w w' : World} (hq : QWf x') (he : Ens .i64 es'.toList (entQ x'.l)) (ht : RbT n0 bt 16 (rdyO x') mt') (hb : n0 ≤ b) (hbm : n0 ≤ bm) (hm : Mem w' M)
    (hs : SubM M (rqC b x'.g x'.fl bm bt x'.cur x'.ran (loadO x'.l) :: (bm, .map es' cl') :: (mt' ++ []))) (hc : Chg (inM (rqC b g fl bm bt cur ran ld :: (bm, .map es cl) :: mt)) w w') (hin : inn mt w.heap.size mt') :
    Upd (rqC b g fl bm bt cur ran ld :: (bm, .map es cl) :: mt) (fun u m' => u = u0 ∧ RqM n0 b x' m') w u0 w' :=
  rq_leaf (p0 := rqC b x'.g x'.fl bm bt x'.cur x'.ran (loadO x'.l)) (p1 := (bm, .map es' cl')) (mt' := mt') ⟨rfl, hq, bm, bt, es', cl', mt', rfl, he, ht, hb, hbm⟩ hm hs hc rfl rfl hin
set_option maxRecDepth 100000 in
theorem rqnew_spec (g : Int) (w : World) : Ret Try.prog 12 #[.int .i64 g] w (fun v w' => Ext w w' ∧ ∃ m, RqN g w.heap.size v m ∧ Mem w' m ∧ ∀ p ∈ m, w.heap.size ≤ p.1) := by
 refine Ret.enterM (l := [.int .i64 g]) Try.func12 rfl Try.ntmps12 rfl ([]) (no) (Mem.nil w) ?_
 refine wpM.seq (wpM.region ?_)
 refine LM.as rfl ?_
 refine LM.nil (QM.sub (e' := [(0, _)]) ⟨rfl, trivial⟩ (QM.then (wpM.seq (wpM.region ?_))))
 refine LM.mv rfl ?_
 refine LM.val (ov_max rfl rfl) ?_
 rw [show (if 1 > g then 1 else g) = (if (1 : Int) > g then 1 else g) from rfl]
 refine LM.val (ov_min rfl rfl) ?_
 rw [bring_eq (by decide)]
 refine LM.makeMap rfl (fun b6 hb6 => ?_)
 refine LM.callT (oc_call (enters_fn Try.func62 (by kernel_rfl) rfl) rfl) RbN.mn (fun w hm hc hg => rbnew_spec w) ?_
 rintro u7 m7 ⟨bt, rfl, ht⟩ hge7
 refine LM.val (ov_build (cs := #[_, _, _, _, _, _, _]) rfl (by first | rfl | kernel_rfl)) ?_
 refine LM.box rfl rfl (fun b9 hb9 => ?_)
 refine LM.as rfl ?_
 refine LM.nil (QM.sub (e' := [(2, _)]) ⟨rfl, trivial⟩ (QM.then ?_))
 refine wpM.ret ?_
 refine QM.leave (.inl rfl) [.tmp 2] Try.results12 rfl ?_
 intro w' hm' hc' hg'
 have hwf := new_wf g; exact ⟨hc', _, ⟨b9, rfl, hwf, b6, bt, #[], 0, m7, rfl, rfl, ht, hb9, hb6⟩, (SubM.mem (by (repeat' (first | (rw [List.append_nil]; exact SubM.all _) | exact SubM.all _ | refine SubM.cons rfl ?_ | exact SubM.nil _)))) w' hm', fun p hp => by simp only [List.mem_cons] at hp; rcases hp with rfl | rfl | hp; exact hb9; exact hb6; exact hge7 p hp⟩
set_option maxRecDepth 100000 in
theorem rqAdd_spec {n0 b : Nat} {x : Qm} {m : Mem0} (a : Int) (v : BitVec 64) (wt : Int) (w : World) (h : RqM n0 b x m) (hn0 : n0 ≤ w.heap.size) (hM : Mem w m) : Ret Try.prog 13 #[.pointer (some ⟨b, 0, none⟩), .int .i64 a, U v, .int .i64 wt] w (Upd m (fun u m' => u = .tuple #[U (addV x a v wt), .int .i64 (addE x a)] ∧ RqM n0 b (addX x a v wt) m') w) := by
 obtain ⟨hq, bm, bt, es, cl, mt, rfl, he, ht, hb, hbm⟩ := h; have hll := hq.load; have hlen := hq.len; have hbr := bring_in (n := wt) (lo := 1) (hi := 4096) (by decide)
 refine Ret.enterM (l := [.pointer (some ⟨b, 0, none⟩), .int .i64 a, U v, .int .i64 wt]) Try.func13 rfl Try.ntmps13 rfl (rqC b x.g x.fl bm bt x.cur x.ran (loadO x.l) :: (bm, .map es cl) :: (mt ++ [])) ((inM (rqC b x.g x.fl bm bt x.cur x.ran (loadO x.l) :: (bm, .map es cl) :: mt))) (by rw [List.append_nil]; exact hM) ?_
 refine wpM.seq (wpM.region ?_)
 refine LM.as rfl (LM.as rfl ?_)
 refine LM.nil (QM.sub (e' := [(0, _), (1, _), (2, _), (3, _)]) au9 (QM.then ?_))
 refine wpM.seq ?_
 refine wpM.seq (wpM.region ?_)
 refine LM.mv rfl ?_
 refine LM.val (ov_peql (by kernel_rfl) rfl rfl) ?_
 refine LM.mv rfl (LM.sp 14 rfl rfl rfl (LM.mv rfl (LM.sp 14 rfl rfl rfl ?_)))
 refine LM.val (ov_lss rfl rfl) ?_
 refine LM.val (ov_pickF rfl rfl) ?_
 refine LM.nil (QM.sub (e' := [(0, _), (1, _), (2, _), (3, _), (17, _)]) au9 (QM.then ?_))
 refine wpM.condD rfl (fun h1 => ?_) (fun h1 => ?_)
 ·
  refine wpM.seq (wpM.region ?_)
  refine LM.as rfl (LM.as rfl ?_)
  refine LM.nil (QM.sub (e' := [(8, _), (9, _)]) au9 (QM.then ?_))
  refine wpM.ret ?_
  refine QM.then_ret ?_
  refine QM.leave (.inl rfl) [.tmp 8, .tmp 9] Try.results13 rfl ?_
  intro w' hm' hc' hg'
  have hE := addE_neg (x := x) h1; exact rq_same ⟨by rw [addV_no (by rw [hE]; decide), hE]; rfl, by rw [addX_no (by rw [hE]; decide)]; exact ⟨hq, bm, bt, es, cl, mt, rfl, he, ht, hb, hbm⟩⟩ hm' au1 hc'
 refine wpM.skip ?_
 refine QM.then ?_
 refine wpM.seq ?_
 refine wpM.seq (wpM.region ?_)
 refine LM.mv rfl ?_
 refine LM.val (ov_nilCheck rfl) ?_
 refine LM.val (ov_field Try.underlying93 rfl Try.sizeOf89 rfl (k := 2) rfl rfl) ?_
 refine LM.rd (om_ld Try.isAgg89 rfl rfl) ?_
 refine LM.mv rfl ?_
 refine LM.rd (om_lkOk Try.underlying89 Try.underlying3 Try.zeroValue95 rfl rfl (by assumption) (ent_get _ _) (ent_has _ _)) ?_
 refine LM.mv rfl ?_
 refine LM.val (ov_extract rfl rfl) ?_
 refine LM.val (ov_extract rfl rfl) ?_
 refine LM.alloc Try.zeroValue95 rfl (fun b10 hb10 => ?_)
 refine LM.stW Try.sizeOf95 rfl rfl rfl rfl au7 (fun hlt => by first | exact inM_0 | exact inM_1 | exact absurd hlt (by omega)) ?_
 refine LM.as rfl ?_
 refine LM.nil (QM.sub (e' := [(0, _), (1, _), (2, _), (3, _), (11, _)]) au9 (QM.then (wpM.seq (wpM.region ?_))))
 refine LM.mv rfl ?_
 refine LM.nil (QM.sub (e' := [(0, _), (1, _), (2, _), (3, _), (27, _)]) au9 (QM.then ?_))
 refine wpM.condD rfl (fun h2 => ?_) (fun h2 => ?_)
 ·
  refine wpM.seq (wpM.region ?_)
  refine LM.as rfl (LM.as rfl ?_)
  refine LM.nil (QM.sub (e' := [(8, _), (9, _)]) au9 (QM.then ?_))
  refine wpM.ret ?_
  refine QM.then_ret ?_
  refine QM.leave (.inl rfl) [.tmp 8, .tmp 9] Try.results13 rfl ?_
  intro w' hm' hc' hg'
  have hE := addE_met (x := x) h1 h2; exact rq_same ⟨by rw [addV_no (by rw [hE]; decide), hE]; rfl, by rw [addX_no (by rw [hE]; decide)]; exact ⟨hq, bm, bt, es, cl, mt, rfl, he, ht, hb, hbm⟩⟩ hm' au1 hc'
 refine wpM.skip ?_
 refine QM.then ?_
 refine wpM.seq ?_
 refine wpM.seq (wpM.region ?_)
 refine LM.mv rfl ?_
 refine LM.val (ov_nilCheck rfl) ?_
 refine LM.val (ov_field Try.underlying93 rfl Try.sizeOf89 rfl (k := 2) rfl rfl) ?_
 refine LM.rd (om_ld Try.isAgg89 rfl rfl) ?_
 refine LM.rd (om_mlen Try.underlying89 rfl (by assumption) rfl) ?_
 refine LM.val (ov_geq rfl rfl) ?_
 refine LM.nil (QM.sub (e' := [(0, _), (1, _), (2, _), (3, _), (33, _)]) au9 (QM.then ?_))
 refine wpM.condD rfl (fun h3 => ?_) (fun h3 => ?_)
 ·
  rw [entQ_len] at h3
  refine wpM.seq (wpM.region ?_)
  refine LM.as rfl (LM.as rfl ?_)
  refine LM.nil (QM.sub (e' := [(8, _), (9, _)]) au9 (QM.then ?_))
  refine wpM.ret ?_
  refine QM.then_ret ?_
  refine QM.leave (.inl rfl) [.tmp 8, .tmp 9] Try.results13 rfl ?_
  intro w' hm' hc' hg'
  have hE := addE_full (x := x) h1 h2 (by omega); exact rq_same ⟨by rw [addV_no (by rw [hE]; decide), hE]; rfl, by rw [addX_no (by rw [hE]; decide)]; exact ⟨hq, bm, bt, es, cl, mt, rfl, he, ht, hb, hbm⟩⟩ hm' au1 hc'
 rw [entQ_len] at h3; have hE := addE_ok h1 h2 (by omega); have hwf := add_wf (v := v) (w := wt) hq hE; have hrd := add_rdy (v := v) (w := wt) hq hE; have hld : loadO x.l + bringO wt 1 4096 = loadO (addQ x a v wt).l := load_new x.l (plcO x v (bringO wt 1 4096)) a (bringO wt 1 4096)
 refine wpM.skip ?_
 refine QM.then (wpM.seq (wpM.region ?_))
 refine LM.mv rfl ?_
 refine LM.val (ov_max rfl rfl) ?_
 refine LM.val (ov_min rfl rfl) ?_
 refine LM.as rfl ?_
 refine LM.nil (QM.sub (e' := [(0, _), (1, _), (2, _), (3, _)]) au9 (QM.then (wpM.seq (wpM.region ?_))))
 rw [bring_eq (by decide)]
 refine LM.mv rfl (LM.mv rfl (LM.mv rfl ?_))
 refine LM.callE (oc_call (enters_fn Try.func63 (by kernel_rfl) rfl) rfl) (fun w hm hc hg => place_spec v (bringO wt 1 4096) w (hm.pick (rqC b x.g x.fl bm bt x.cur x.ran (loadO x.l) :: []))) ?_
 refine LM.as rfl ?_
 refine LM.nil (QM.sub (e' := [(0, _), (1, _), (2, _), (3, _)]) au9 (QM.then (wpM.seq (wpM.region ?_))))
 refine LM.mv rfl ?_
 refine LM.val (ov_nilCheck rfl) ?_
 refine LM.val (ov_field Try.underlying93 rfl Try.sizeOf89 rfl (k := 2) rfl rfl) ?_
 refine LM.rd (om_ld Try.isAgg89 rfl rfl) ?_
 refine LM.mv rfl (LM.mv rfl (LM.mv rfl ?_))
 refine LM.val (ov_build (cs := #[U (plcO x v (bringO wt 1 4096)), .int .i64 (bringO wt 1 4096)]) rfl (by first | rfl | kernel_rfl)) ?_
 refine LM.mU Try.underlying89 Try.underlying3 rfl rfl rfl (by assumption) (fun hlt => by first | exact inM_0 | exact inM_1 | exact absurd hlt (by omega)) (fun esu1 clu1 hesu1 => ?_)
 refine LM.nil (QM.sub (e' := [(0, _), (1, _), (2, _), (3, _)]) au9 (QM.then (wpM.seq (wpM.region ?_))))
 rw [ent_new h2] at hesu1
 refine LM.mv rfl ?_
 refine LM.val (ov_nilCheck rfl) ?_
 refine LM.val (ov_field Try.underlying93 rfl Try.sizeOf3 rfl (k := 6) rfl rfl) ?_
 refine LM.rd (om_ld Try.isAgg3 rfl rfl) ?_
 refine LM.mv rfl ?_
 refine LM.val (ov_add64 rfl rfl (by omega)) ?_
 refine LM.val (ov_nilCheck rfl) ?_
 refine LM.val (ov_field Try.underlying93 rfl Try.sizeOf3 rfl (k := 6) rfl rfl) ?_
 refine LM.st Try.sizeOf3 rfl rfl rfl au5 rfl (fun hlt => by first | exact inM_0 | exact inM_1 | exact absurd hlt (by omega)) ?_
 refine LM.mem (SubM.mem (M' := rqC b x.g x.fl bm bt x.cur x.ran (loadO x.l + bringO wt 1 4096) :: (bm, .map esu1 clu1) :: (mt ++ [])) au1) ?_
 refine LM.nil (QM.sub (e' := [(0, _), (1, _), (2, _), (3, _)]) au9 (QM.then ?_))
 refine wpM.seq ?_
 refine wpM.draw [(0, 0), (1, 0), (2, 0), (3, 1), (4, 0), (5, 0), (7, 0), (6, 2), (8, 3)] (by kernel_rfl) (by kernel_rfl) ?_
 refine LD.val rfl rfl (ov_move rfl) ?_
 refine LD.val rfl rfl (ov_nilCheck rfl) ?_
 refine LD.val rfl rfl (ov_field Try.underlying93 rfl Try.sizeOf90 rfl (k := 3) rfl rfl) ?_
 refine LD.rd rfl rfl (om_ld Try.isAgg90 rfl rfl) ?_
 refine LD.val rfl rfl (ov_move rfl) ?_
 refine LD.val rfl rfl (ov_move rfl) ?_
 refine LD.val rfl rfl (ov_move rfl) ?_
 refine LD.callE rfl rfl (oc_call (enters_fn Try.func65 (by kernel_rfl) rfl) rfl) (fun w hm hc hg => (show Ret _ _ _ _ (fun u w' => u = .agg #[U (plcO x v (bringO wt 1 4096)), .int .i64 a] ∧ Ext _ w') from by have hk := key_spec a w hesu1 (hm.pick (rqC b x.g x.fl bm bt x.cur x.ran (loadO x.l + bringO wt 1 4096) :: (bm, .map esu1 clu1) :: [])); rw [gQ_new h2] at hk; exact hk)) ?_
 refine LD.tail rfl rfl ?_
 refine LM.cU (oc_call (enters_fn Try.func64 (by kernel_rfl) rfl) rfl) (fun w hm hc hg => ins_spec ⟨plcO x v (bringO wt 1 4096), a, bringO wt 1 4096⟩ w (fun y hy e => h2 (ixO_lt.2 ⟨y, (rdy_id hq hy).1, e.2⟩)) (Nat.lt_of_le_of_lt (rdy_len hq.nd) (by omega)) (by decide) ht (Nat.le_trans hn0 hc.size) (hm.pick mt)) ht.wlk (fun p hp _ => inM_2 p hp) ?_
 rintro u65 mt1 ⟨rfl, ht1⟩ hin1; rw [hrd] at ht1
 refine LM.nil ?_
 refine QM.qn ?_
 refine QM.sub (e' := [(2, _)]) ⟨rfl, trivial⟩ (QM.then (wpM.seq (wpM.region ?_)))
 refine LM.mv rfl (LM.as rfl (LM.as rfl ?_))
 refine LM.nil (QM.sub (e' := [(8, _), (9, _)]) au9 (QM.then ?_))
 refine wpM.ret ?_
 refine QM.leave (.inl rfl) [.tmp 8, .tmp 9] Try.results13 rfl ?_
 intro w' hm' hc' hg'
 rw [show addV x a v wt = plcO x v (bringO wt 1 4096) from if_pos hE, hE, show addX x a v wt = addQ x a v wt from if_pos hE]; exact rqm_leaf (x' := addQ x a v wt) hwf hesu1 ht1 hb hbm hm' (by (repeat' (first | exact SubM.nil _ | refine SubM.cons (by first | rfl | (rw [← hld]; rfl)) ?_ | refine SubM.app ?_))) hc' hin1
end Go.Eng
namespace Go.Eng
open Go Go.Proofs Go.RowKit
theorem remQ_l (x : Qm) (a : Int) : (remQ x a).l = x.l.eraseIdx (ixO x.l a) := by unfold remQ; split <;> rfl
theorem remQ_g (x : Qm) (a : Int) : (remQ x a).g = x.g ∧ (remQ x a).fl = x.fl := by unfold remQ; split <;> exact ⟨rfl, rfl⟩
theorem rdy_of {x : Qm} (h : QWf x) {a : Int} (ha : ixO x.l a < x.l.length) (hc : ¬ x.cur = a) : gQ x.l a ∈ rdyO x := (rdy_mem h.nd _).2 ⟨(ixO_hit ha).2, fun q => hc (q.symm.trans (ixO_hit ha).1)⟩
set_option maxRecDepth 100000 in
theorem rqRem_spec {n0 b : Nat} {x : Qm} {m : Mem0} (a : Int) (w : World) (h : RqM n0 b x m) (hM : Mem w m) : Ret Try.prog 17 #[.pointer (some ⟨b, 0, none⟩), .int .i64 a] w (Upd m (fun u m' => u = .tuple #[U (gQ x.l a).V, .bool (decide (ixO x.l a < x.l.length))] ∧ RqM n0 b (remX x a) m') w) := by
 obtain ⟨hq, bm, bt, es, cl, mt, rfl, he, ht, hb, hbm⟩ := h; have h0 : RqM n0 b x (rqC b x.g x.fl bm bt x.cur x.ran (loadO x.l) :: (bm, .map es cl) :: mt) := ⟨hq, bm, bt, es, cl, mt, rfl, he, ht, hb, hbm⟩; have hll := hq.load; have hlen := hq.len
 refine Ret.enterM (l := [.pointer (some ⟨b, 0, none⟩), .int .i64 a]) Try.func17 rfl Try.ntmps17 rfl (rqC b x.g x.fl bm bt x.cur x.ran (loadO x.l) :: (bm, .map es cl) :: (mt ++ [])) ((inM (rqC b x.g x.fl bm bt x.cur x.ran (loadO x.l) :: (bm, .map es cl) :: mt))) (by rw [List.append_nil]; exact hM) ?_
 refine wpM.seq (wpM.region ?_)
 refine LM.as rfl (LM.as rfl ?_)
 refine LM.nil (QM.sub (e' := [(0, _), (1, _)]) au9 (QM.then (wpM.seq (wpM.region ?_))))
 refine LM.mv rfl (LM.mv rfl ?_)
 refine LM.callE (oc_call (enters_fn Try.func14 (by kernel_rfl) rfl) rfl) (fun w hm hc hg => rqV_spec a w h0 (hm.pick (rqC b x.g x.fl bm bt x.cur x.ran (loadO x.l) :: (bm, .map es cl) :: mt))) ?_
 refine LM.mv rfl ?_
 refine LM.val (ov_extract rfl rfl) ?_
 refine LM.val (ov_extract rfl rfl) ?_
 refine LM.as rfl (LM.as rfl ?_)
 refine LM.nil (QM.sub (e' := [(0, _), (1, _), (6, _), (7, _)]) au9 (QM.then ?_))
 refine wpM.seq ?_
 refine wpM.seq (wpM.region ?_)
 refine LM.mv rfl ?_
 refine LM.val (ov_notD rfl) ?_
 refine LM.nil (QM.sub (e' := [(0, _), (1, _), (6, _), (15, _)]) au9 (QM.then ?_))
 refine wpM.condD rfl (fun h1 => ?_) (fun h1 => ?_)
 ·
  refine wpM.seq (wpM.region ?_)
  refine LM.as rfl (LM.as rfl ?_)
  refine LM.nil (QM.sub (e' := [(4, _), (5, _)]) au9 (QM.then ?_))
  refine wpM.ret ?_
  refine QM.then_ret ?_
  refine QM.leave (.inl rfl) [.tmp 4, .tmp 5] Try.results17 rfl ?_
  intro w' hm' hc' hg'
  rw [show remX x a = x from if_neg h1, show (gQ x.l a).V = 0#64 by rw [gQ_none h1]; rfl, decide_eq_false h1]; exact rqm_leaf (x' := x) hq he ht hb hbm hm' au1 hc' (inn_refl _ _)
 replace h1 := Classical.not_not.1 h1; have hwf := rem_wf hq h1; have hit := ixO_hit h1; have hwt : 1 ≤ (gQ x.l a).x ∧ (gQ x.l a).x ≤ 4096 := hq.wt _ hit.2
 refine wpM.skip ?_
 refine QM.then ?_
 refine wpM.seq ?_
 refine wpM.seq (wpM.region ?_)
 refine LM.mv rfl ?_
 refine LM.val (ov_nilCheck rfl) ?_
 refine LM.val (ov_field Try.underlying93 rfl Try.sizeOf3 rfl (k := 4) rfl rfl) ?_
 refine LM.rd (om_ld Try.isAgg3 rfl rfl) ?_
 refine LM.mv rfl ?_
 refine LM.val (ov_eql rfl rfl) ?_
 refine LM.nil (QM.sub (e' := [(0, _), (1, _), (6, _), (21, _)]) au9 (QM.then ?_))
 refine wpM.joinK (α := Int × Int × Mem0) (fun ⟨c1, r1, mt1⟩ => []) [(0, _), (1, _), (6, _)] (fun ⟨c1, r1, mt1⟩ => rqC b x.g x.fl bm bt c1 r1 (loadO x.l) :: (bm, .map es cl) :: (mt1 ++ [])) (fun ⟨c1, r1, mt1⟩ => (remQ x a).cur = c1 ∧ (remQ x a).ran = r1 ∧ RbT n0 bt 16 (rdyO (remQ x a)) mt1 ∧ inn mt w.heap.size mt1) ⟨rfl, rfl, rfl, trivial⟩ ?_ ?_
 ·
  refine wpM.condD rfl (fun h2 => ?_) (fun h2 => ?_)
  ·
   refine wpM.region ?_
   refine LM.mv rfl (LM.mv rfl ?_)
   refine LM.val (ov_nilCheck rfl) ?_
   refine LM.val (ov_field Try.underlying93 rfl Try.sizeOf3 rfl (k := 4) rfl rfl) ?_
   refine LM.st Try.sizeOf3 rfl rfl rfl au5 rfl (fun hlt => by first | exact inM_0 | exact inM_1 | exact absurd hlt (by omega)) ?_
   refine LM.val (ov_nilCheck rfl) ?_
   refine LM.val (ov_field Try.underlying93 rfl Try.sizeOf3 rfl (k := 5) rfl rfl) ?_
   refine LM.st Try.sizeOf3 rfl rfl rfl au5 rfl (fun hlt => by first | exact inM_0 | exact inM_1 | exact absurd hlt (by omega)) ?_
   refine LM.mem (SubM.mem (M' := rqC b x.g x.fl bm bt (-1) 0 (loadO x.l) :: (bm, .map es cl) :: (mt ++ [])) au1) ?_
   refine LM.nil (QM.sub (e' := [(0, _), (1, _), (6, _)]) au9 ?_)
   refine QM.meetK (-1, 0, mt) ⟨rfl, rfl, rfl, trivial⟩ au1 ?_
   · exact ⟨by unfold remQ; rw [if_pos h2], by unfold remQ; rw [if_pos h2], by rw [← rem_rdyC hq h1 h2]; exact ht, inn_refl _ _⟩
  refine wpM.draw [(0, 0), (1, 0), (2, 0), (3, 1), (4, 0), (5, 0), (6, 2), (7, 3)] (by kernel_rfl) (by kernel_rfl) ?_
  refine LD.val rfl rfl (ov_move rfl) ?_
  refine LD.val rfl rfl (ov_nilCheck rfl) ?_
  refine LD.val rfl rfl (ov_field Try.underlying93 rfl Try.sizeOf90 rfl (k := 3) rfl rfl) ?_
  refine LD.rd rfl rfl (om_ld Try.isAgg90 rfl rfl) ?_
  refine LD.val rfl rfl (ov_move rfl) ?_
  refine LD.val rfl rfl (ov_move rfl) ?_
  refine LD.callE rfl rfl (oc_call (enters_fn Try.func65 (by kernel_rfl) rfl) rfl) (fun w hm hc hg => key_spec a w he (hm.pick (rqC b x.g x.fl bm bt x.cur x.ran (loadO x.l) :: (bm, .map es cl) :: []))) ?_
  refine LD.tail rfl rfl ?_
  refine LM.cU (oc_call (enters_fn Try.func67 (by kernel_rfl) rfl) rfl) (fun w hm hc hg => del_spec (⟨(gQ x.l a).V, a, 0⟩ : Kv) (gQ x.l a) w (rdy_of hq h1 h2) ⟨rfl, hit.1.symm⟩ (by decide) ht (hm.pick mt)) ht.wlk (fun p hp _ => inM_2 p hp) ?_
  rintro u35 mt1 ⟨rfl, ht1⟩ hin1; rw [rem_rdy (k := ⟨(gQ x.l a).V, a, 0⟩) hq h1 h2 ⟨rfl, hit.1.symm⟩] at ht1
  refine LM.nil ?_
  refine QM.qn ?_
  refine QM.sub (e' := [(0, _), (1, _), (6, _)]) au9 ?_
  refine QM.meetK (x.cur, x.ran, mt1) ⟨rfl, rfl, rfl, trivial⟩ au1 ?_
  · exact ⟨by unfold remQ; rw [if_neg h2], by unfold remQ; rw [if_neg h2], ht1, hin1⟩
 rintro ⟨c1, r1, mt1⟩ ⟨hc1, hr1, ht1, hin1⟩
 change QM _ _ _ _ _ (rqC b x.g x.fl bm bt c1 r1 (loadO x.l) :: (bm, .map es cl) :: (mt1 ++ [])) _ _ _
 refine QM.then ?_
 refine wpM.seq ?_
 refine wpM.draw [(0, 0), (1, 0), (2, 0), (3, 1), (4, 0), (5, 0), (6, 0), (7, 1), (8, 0), (9, 1), (10, 0), (11, 0), (12, 0), (13, 0), (14, 3)] (by kernel_rfl) (by kernel_rfl) ?_
 refine LD.val rfl rfl (ov_move rfl) ?_
 refine LD.val rfl rfl (ov_nilCheck rfl) ?_
 refine LD.val rfl rfl (ov_field Try.underlying93 rfl Try.sizeOf3 rfl (k := 6) rfl rfl) ?_
 refine LD.rd rfl rfl (om_ld Try.isAgg3 rfl rfl) ?_
 refine LD.val rfl rfl (ov_move rfl) ?_
 refine LD.val rfl rfl (ov_nilCheck rfl) ?_
 refine LD.val rfl rfl (ov_field Try.underlying93 rfl Try.sizeOf89 rfl (k := 2) rfl rfl) ?_
 refine LD.rd rfl rfl (om_ld Try.isAgg89 rfl rfl) ?_
 refine LD.val rfl rfl (ov_move rfl) ?_
 refine LD.rd rfl rfl (om_lk Try.underlying89 Try.underlying3 Try.zeroValue95 rfl rfl (by assumption) (ent_get _ _)) ?_
 refine LD.val rfl rfl (ov_fieldV Try.underlying95 rfl Try.isAgg3 rfl rfl) ?_
 refine LD.val rfl rfl (ov_sub64 rfl rfl (by omega)) ?_
 refine LD.val rfl rfl (ov_nilCheck rfl) ?_
 refine LD.val rfl rfl (ov_field Try.underlying93 rfl Try.sizeOf3 rfl (k := 6) rfl rfl) ?_
 refine LD.tail rfl rfl ?_
 refine LM.st Try.sizeOf3 rfl rfl rfl au5 rfl (fun hlt => by first | exact inM_0 | exact inM_1 | exact absurd hlt (by omega)) ?_
 refine LM.mem (SubM.mem (M' := rqC b x.g x.fl bm bt c1 r1 (loadO x.l - (gQ x.l a).x) :: (bm, .map es cl) :: (mt1 ++ [])) au1) ?_
 refine LM.nil ?_
 refine QM.qn ?_
 refine QM.sub (e' := [(0, _), (1, _), (6, _)]) au9 (QM.then (wpM.seq (wpM.region ?_)))
 refine LM.mv rfl ?_
 refine LM.val (ov_nilCheck rfl) ?_
 refine LM.val (ov_field Try.underlying93 rfl Try.sizeOf89 rfl (k := 2) rfl rfl) ?_
 refine LM.rd (om_ld Try.isAgg89 rfl rfl) ?_
 refine LM.mv rfl ?_
 refine LM.mD Try.underlying89 Try.underlying3 rfl rfl (by assumption) (fun hlt => by first | exact inM_0 | exact inM_1 | exact absurd hlt (by omega)) (fun esu1 clu1 hesu1 => ?_)
 refine LM.nil (QM.sub (e' := [(6, _)]) ⟨rfl, trivial⟩ (QM.then (wpM.seq (wpM.region ?_))))
 refine LM.mv rfl (LM.as rfl (LM.as rfl ?_))
 refine LM.nil (QM.sub (e' := [(4, _), (5, _)]) au9 (QM.then ?_))
 refine wpM.ret ?_
 refine QM.leave (.inl rfl) [.tmp 4, .tmp 5] Try.results17 rfl ?_
 intro w' hm' hc' hg'
 rw [ent_del h1, ← remQ_l x a] at hesu1; have hld : loadO x.l - (gQ x.l a).x = loadO (remQ x a).l := (by rw [remQ_l, load_erase h1]); rw [show remX x a = remQ x a from if_pos h1, decide_eq_true h1]; subst hc1; subst hr1; rw [← (remQ_g x a).1, ← (remQ_g x a).2] at hm'; exact rqm_leaf (x' := remQ x a) hwf hesu1 ht1 hb hbm hm' (by (repeat' (first | exact SubM.nil _ | refine SubM.cons (by first | rfl | (rw [← hld]; done) | (rw [← hld]; rfl)) ?_ | refine SubM.app ?_))) hc' hin1
end Go.Eng
namespace Go.Eng
open Go Go.Proofs Go.RowKit
abbrev qP (c b : Nat) : Nat × Obj := (c, .cells #[.pointer (some ⟨b, 0, none⟩)] 24 (0, 0))
abbrev yQ (c l : Nat) : Nat × Obj := (c, .cells #[.func (.yield l) #[] #[]] 64 (0, 0))
def RqA (b n0 : Nat) (v : Value) (m : Mem0) : Prop := ∃ c1, v = .func (.func 81) #[] #[.pointer (some ⟨c1, 0, none⟩)] ∧ m = [qP c1 b] ∧ n0 ≤ c1
theorem RqA.mono {b : Nat} : ∀ (k k' : Nat) u m, k' ≤ k → RqA b k u m → RqA b k' u m := fun k k' u m h ⟨b1, h1, h2, h3⟩ => ⟨b1, h1, h2, by omega⟩
def rdyA (L : List Kv) : List (Array Value) := L.map (fun t => #[.int .i64 t.id, U t.V])
theorem rdyA_len (L : List Kv) : (rdyA L).length = L.length := by simp [rdyA]
theorem rdyA_get {L : List Kv} {k : Nat} (h : k < L.length) : (rdyA L)[k]? = some #[.int .i64 (L.getD k default).id, U (L.getD k default).V] := by
  unfold rdyA; rw [List.getElem?_map, getq default h]; rfl
theorem rdyA_inv {L : List Kv} {k : Nat} {av : Array Value} (h : (rdyA L)[k]? = some av) : k < L.length ∧ av = #[.int .i64 (L.getD k default).id, U (L.getD k default).V] := by
  have hk : k < L.length := by have := (List.getElem?_eq_some_iff.1 h).1; rwa [rdyA_len] at this
  rw [rdyA_get hk] at h
  exact ⟨hk, (Option.some.inj h).symm⟩
set_option maxRecDepth 100000 in
theorem rqReady_spec (b : Nat) (w : World) : Ret Try.prog 38 #[.pointer (some ⟨b, 0, none⟩)] w (fun v w' => Ext w w' ∧ ∃ m, RqA b w.heap.size v m ∧ Mem w' m ∧ ∀ p ∈ m, w.heap.size ≤ p.1) := by
 refine Ret.enterM (l := [.pointer (some ⟨b, 0, none⟩)]) Try.func38 rfl Try.ntmps38 rfl ([]) (no) (Mem.nil w) ?_
 refine wpM.seq (wpM.region ?_)
 refine LM.box rfl rfl (fun b1 hb1 => ?_)
 refine LM.as rfl ?_
 refine LM.nil (QM.sub (e' := [(1, _)]) ⟨rfl, trivial⟩ (QM.then (wpM.seq (wpM.region ?_))))
 refine LM.val (ov_makeFunc rfl) ?_
 refine LM.as rfl ?_
 refine LM.nil (QM.sub (e' := [(2, _)]) ⟨rfl, trivial⟩ (QM.then ?_))
 refine wpM.ret ?_
 refine QM.leave (.inl rfl) [.tmp 2] Try.results38 rfl ?_
 intro w' hm' hc' hg'
 exact ⟨hc', _, ⟨b1, rfl, rfl, hb1⟩, SubM.mem au1 _ hm', fun p hp => by simp only [List.mem_cons, List.not_mem_nil, or_false] at hp; subst hp; assumption⟩
set_option maxRecDepth 100000 in
theorem rqReady_seq {n0' b c1 : Nat} {x : Qm} {m : Mem0} (h : RqM n0' b x m) : SeqCP Try.prog 81 #[.pointer (some ⟨c1, 0, none⟩)] (rdyA (rdyO x)) (fun w => Mem w (qP c1 b :: m)) (True) := by
 obtain ⟨hq, bm, bt, es, cl, mt, rfl, he, ht, hb, hbm⟩ := h
 refine SeqCP.enter (lb := [.pointer (some ⟨c1, 0, none⟩)]) Try.func81 rfl Try.ntmps81 rfl ?_
 intro l0 n0 J Jx w0 hn0 hfin hJr hL hy
 refine wpM.openJ (n := n0) (fun wj1 hmj1 hCj1 hjj1 hkj1 => ?_)
 refine wpM.seq (wpM.region ?_)
 refine LM.box rfl rfl (fun b2 hb2 => ?_)
 refine LM.nil (QM.sub (e' := [(1, _), (2, _)]) au9 (QM.then ?_))
 refine wpM.seq ?_
 refine wpM.seq (wpM.region ?_)
 refine LM.rdC (fun w hm hc hg => om_ld (M := qP c1 b :: rqC b x.g x.fl bm bt x.cur x.ran (loadO x.l) :: (bm, .map es cl) :: mt) Try.isAgg24 rfl rfl w ((hL.rd hJr hjj1 hc))) ?_
 refine LM.val (ov_peql (by kernel_rfl) rfl rfl) ?_
 refine LM.nil (QM.sub (e' := [(1, _), (2, _), (5, _)]) au9 (QM.then ?_))
 refine wpM.condF rfl ?_
 refine wpM.skip ?_
 refine QM.then (wpM.seq (wpM.region ?_))
 refine LM.rdC (fun w hm hc hg => om_ld (M := qP c1 b :: rqC b x.g x.fl bm bt x.cur x.ran (loadO x.l) :: (bm, .map es cl) :: mt) Try.isAgg24 rfl rfl w ((hL.rd hJr hjj1 hc))) ?_
 refine LM.val (ov_nilCheck rfl) ?_
 refine LM.val (ov_field Try.underlying93 rfl Try.sizeOf90 rfl (k := 3) rfl rfl) ?_
 refine LM.rdC (fun w hm hc hg => om_ld (M := qP c1 b :: rqC b x.g x.fl bm bt x.cur x.ran (loadO x.l) :: (bm, .map es cl) :: mt) Try.isAgg90 rfl rfl w ((hL.rd hJr hjj1 hc))) ?_
 refine LM.callT (oc_call (enters_fn Try.func82 (by kernel_rfl) rfl) rfl) RbA.mono (fun w hm hc hg => rball_spec bt w) ?_
 rintro u10 m10 ⟨c10, rfl, rfl, hc10⟩ -; have hne : ∀ p ∈ mt, p.1 ≠ c10 := fun p hp e => (by have := Mem.lt (hJr _ _ _ hjj1) (p := p) (by simp [hp]); omega)
 refine LM.nil (QM.sub (e' := [(2, _), (10, _)]) au9 (QM.then ?_))
 refine wpM.block ?_
 refine wpM.closeJ hL hCj1 hjj1 hkj1 (kk_top _) (yQ b2 l0 :: tP c10 bt :: []) (SubM.mem (by (try dsimp only); (repeat' (first | exact SubM.nil _ | refine SubM.cons rfl ?_ | refine SubM.app ?_)))) (by (try dsimp only); (repeat' (first | exact pn_nil | refine pn_cons (by first | (left; omega) | (right; simp; done)) rfl ?_))) ?_
 refine wpM.toRange (α := Unit) (fun k ⟨⟩ => yQ b2 l0 :: tP c10 bt :: []) (⟨⟩) au1 ?_
 refine wpM.rangeJ (α := Unit) (β := Unit) (enters_fn Try.func105 (by kernel_rfl) rfl) rfl (rball_seq ht) (fun k ⟨⟩ => yQ b2 l0 :: tP c10 bt :: []) (fun k ⟨⟩ => (fun w => J (k) (yQ b2 l0 :: tP c10 bt :: []) w ∧ top w)) (fun k ⟨⟩ => True) (fun ⟨⟩ => []) (fun _ => (fun w => Jx w ∧ top w)) (fun c ⟨⟩ => c = .ret ∧ True) ⟨⟩ rfl (fun _ h => h) trivial (by kernel_rfl) (by intro k av hav; obtain ⟨hkl, rfl⟩ := allK_inv hav; rfl) (.inl trivial) (fun k a w hm hc hg _ => Mem.cons (hJr _ _ _ hg.1).tail.tail.tail (hm.at c10) hne) (fun w hg _ _ => gl_j hL (hL.le _ _ _ hg.1) (gl_top _)) (fun w hg _ => gl_x hL (hL.le _ _ _ hg.1) (gl_top _)) (fun k x _ => by ((repeat (refine mm_cons rfl ?_)); exact fun p hp => .inl (by first | exact hp | (simp at hp; done) | (simp [hp]; done) | (simp at hp ⊢; first | exact .inl hp | exact hp | (simp [hp]; done))))) (fun c z _ => by ((repeat (refine mm_cons rfl ?_)); exact fun p hp => .inl (by first | exact hp | (simp at hp; done) | (simp [hp]; done) | (simp at hp ⊢; first | exact .inl hp | exact hp | (simp [hp]; done))))) ?_ ?_ ?_ ?_
 ·
  rintro k av ⟨⟩ l D rc n1 W1 hnn hD hll hput hrc hav -
  have hnn1 : n0 ≤ n1 := (by obtain ⟨w, hg, hw⟩ := hnn; exact Nat.le_trans (hL.le _ _ _ hg.1) hw)
  change wpM _ _ _ _ _ _ _ ((l, Obj.loop rc) :: ([(D, Obj.deferred (some []))] ++ (yQ b2 l0 :: tP c10 bt :: []))) _ _ _
  obtain ⟨hkl, rfl⟩ := allK_inv hav
  refine wpM.openJ2 (n := n0) (fun wj2 hmj2 hCj2 hjj2 hkj2 => ?_)
  refine wpM.region ?_
  refine LM.alloc Try.zeroValue100 rfl (fun b3 hb3 => ?_)
  refine LM.stW Try.sizeOf100 rfl rfl rfl rfl au7 (fun hlt => by first | exact inM_0 | exact inM_1 | exact absurd hlt (by omega)) ?_
  refine LM.nil (QM.sub (e' := [(2, _), (3, _)]) au9 ?_)
  refine QM.closeJ2 hL hCj2 hjj2 hkj2 (kk_and (kk_top _) hnn1) (yQ b2 l0 :: tP c10 bt :: []) (SubM.mem (by (try dsimp only); (repeat' (first | exact SubM.nil _ | refine SubM.cons rfl ?_ | refine SubM.app ?_)))) (by (try dsimp only); (repeat' (first | exact pn_nil | refine pn_cons (by first | (left; omega) | (right; simp; done)) rfl ?_))) ?_
  refine QM.toBodyF (hput k ⟨⟩) hll ?_
  refine wpM.openJ2 (n := n0) (fun wj3 hmj3 hCj3 hjj3 hkj3 => ?_)
  refine wpM.block ?_
  refine wpM.seq (wpM.region ?_)
  refine LM.rd (om_ld Try.isAgg64 rfl rfl) ?_
  refine LM.val (ov_field Try.underlying100 rfl Try.sizeOf3 rfl (k := 1) rfl rfl) ?_
  refine LM.rd (om_ld Try.isAgg3 rfl rfl) ?_
  refine LM.val (ov_field Try.underlying100 rfl Try.sizeOf26 rfl (k := 0) rfl rfl) ?_
  refine LM.rd (om_ld Try.isAgg26 rfl rfl) ?_
  refine LM.yieldJ (n := n0) (k := k) hL rfl rfl (fun m w hj => hy (k) _ m w (rdyA_get hkl) hj) hCj3 hjj3 hkj3 (kk_and (kk_top _) hnn1) ((l, Obj.loop (busyOf rc)) :: (D, Obj.deferred (some [])) :: ([])) (yQ b2 l0 :: tP c10 bt :: []) ((l, Obj.loop (busyOf rc)) :: (D, Obj.deferred (some [])) :: (yQ b2 l0 :: tP c10 bt :: [])) (by simp only [List.append_assoc, List.cons_append, List.nil_append]) (SubM.mem au1) (by (repeat' (first | exact pn_nil | refine lo_cons (by omega) rfl ?_ | refine lo_dm (by intro D hD; first | (have := hds1 D hD; omega) | (have := hds2 D hD; omega)) ?_))) (by (try dsimp only); (repeat' (first | exact pn_nil | refine pn_cons (by first | (left; omega) | (right; simp; done)) rfl ?_))) (fun wj4 hmj4 hCj4 hjj4 hkj4 => ?_) (fun wj4 hmj4 hCj4 hjj4 hkj4 => ?_)
  ·
   change LM _ _ _ _ _ _ _ _ ((l, Obj.loop (busyOf rc)) :: (D, Obj.deferred (some [])) :: (yQ b2 l0 :: tP c10 bt :: [])) _ _ _
   first | refine LM.val (ov_notD rfl) ?_ | refine LM.val (ov_not rfl) ?_
   refine LM.nil (QM.sub (e' := [(19, _)]) ⟨rfl, trivial⟩ (QM.then ?_))
   refine wpM.condF rfl ?_
   refine wpM.skip ?_
   refine QM.block_normal ?_
   refine QM.closeJ2 hL hCj4 hjj4 hkj4 (kk_and (kk_top _) hnn1) ((fun (k : Nat) => ((fun ⟨⟩ => yQ b2 l0 :: tP c10 bt :: []) : Unit → Mem0)) (k + 1) (⟨⟩)) (SubM.mem (by (try dsimp only); (repeat' (first | exact SubM.nil _ | refine SubM.cons rfl ?_ | refine SubM.app ?_)))) (by (try dsimp only); (repeat' (first | exact pn_nil | refine pn_cons (by first | (left; omega) | (right; simp; done)) rfl ?_))) ?_
   refine QM.next (⟨⟩) (SubM.mem au1) (fun _ h => h) ?_
   · trivial
  change LM _ _ _ _ _ _ _ _ ((l, Obj.loop (busyOf rc)) :: (D, Obj.deferred (some [])) :: ([])) _ _ _
  first | refine LM.val (ov_notD rfl) ?_ | refine LM.val (ov_not rfl) ?_
  refine LM.nil (QM.sub (e' := [(19, _)]) ⟨rfl, trivial⟩ (QM.then ?_))
  refine wpM.condT rfl ?_
  refine wpM.ret ?_
  refine QM.block_ret ?_
  refine QM.closeX2 hL hCj4 hjj4 hkj4 (kk_and (kk_top _) hnn1) ?_
  refine QM.rret (⟨⟩) (SubM.mem au1) (fun _ h => h) ?_
  · exact ⟨rfl, trivial⟩
 ·
  rintro ⟨⟩ D0 hD0 -
  refine QM.openJ (n := n0) (fun wj5 hmj5 hCj5 hjj5 hkj5 => ?_)
  refine QM.sub (e' := []) trivial ?_
  refine QM.block_normal ?_
  refine QM.closeJ hL hCj5 hjj5 hkj5 (kk_top _) ([]) (SubM.mem (by (try dsimp only); (repeat' (first | exact SubM.nil _ | refine SubM.cons rfl ?_ | refine SubM.app ?_)))) (by (try dsimp only); (repeat' (first | exact pn_nil | refine pn_cons (by first | (left; omega) | (right; simp; done)) rfl ?_))) ?_
  refine QM.leaveDJ (ds := (D0 :: [])) (.inr rfl) [] Try.results81 rfl hn0 (hd_cons hD0 hd_nil) (gl_j hL (Nat.le_refl _) (gl_top _)) ?_
  intro w' hm' hg'
  exact .inl (by rw [rdyA_len, ← allK_len]; exact hg'.1)
 ·
  rintro ⟨⟩ D0 hD0 hx
  obtain ⟨-, hx⟩ := hx
  refine QM.openX (n := n0) (fun wj6 hmj6 hCj6 hjj6 hkj6 => ?_)
  refine QM.block_ret ?_
  refine QM.closeX hL hCj6 hjj6 hkj6 (kk_top _) ?_
  refine QM.leaveDJ (ds := (D0 :: [])) (.inl rfl) [] Try.results81 rfl hn0 (hd_cons hD0 hd_nil) (gl_x hL (Nat.le_refl _) (gl_top _)) ?_
  intro w' hm' hg'
  exact .inr hg'.1
 rintro id ⟨⟩ D0 hD0 hx
 first | exact hx.elim | cases hx.1 | cases hx
end Go.Eng
namespace Go.Eng
open Go Go.RowKit
instance : Inhabited Qm := ⟨newQ 0⟩
abbrev hasK (x : Qm) (a : Int) : Prop := ixO x.l a < x.l.length
abbrev qg (qs : List Qm) (i : Nat) : Qm := qs.getD i default
def ofN (qs : List Qm) (a : Int) : Nat := qs.findIdx (fun x => decide (hasK x a))
def ofO (qs : List Qm) (a : Int) : Int := if ofN qs a < qs.length then (ofN qs a : Nat) else -1
def allO (qs : List Qm) : Nat := (qs.map (fun x => x.l.length)).sum
structure CWf (qs : List Qm) : Prop where
  len : 1 ≤ qs.length ∧ qs.length ≤ 4
  wf : ∀ i, i < qs.length → QWf (qg qs i)
  one : ∀ i j a, i < qs.length → j < qs.length → hasK (qg qs i) a → hasK (qg qs j) a → i = j
  all : allO qs ≤ 16
theorem qg_eq {qs : List Qm} {i : Nat} (h : i < qs.length) : qg qs i = qs[i] := by unfold qg; rw [List.getD_eq_getElem?_getD, List.getElem?_eq_getElem h]; rfl
theorem qg_set {qs : List Qm} {i : Nat} (h : i < qs.length) (x : Qm) (j : Nat) : qg (qs.set i x) j = if i = j then x else qg qs j := by
  unfold qg
  rw [List.getD_eq_getElem?_getD, List.getD_eq_getElem?_getD, List.getElem?_set]
  by_cases e : i = j
  · subst e; rw [if_pos rfl, if_pos rfl, if_pos h]; rfl
  · rw [if_neg e, if_neg e]
theorem qg_snoc (qs : List Qm) (x : Qm) (j : Nat) (h : j ≤ qs.length) : qg (qs ++ [x]) j = if j = qs.length then x else qg qs j := by
  unfold qg
  rw [List.getD_eq_getElem?_getD, List.getD_eq_getElem?_getD]
  by_cases e : j = qs.length
  · subst e; rw [if_pos rfl]; simp
  · rw [if_neg e, List.getElem?_append_left (by omega)]
theorem of_hit {qs : List Qm} {a : Int} (h : ofN qs a < qs.length) : hasK (qg qs (ofN qs a)) a := by
  have := List.findIdx_getElem (xs := qs) (p := fun x => decide (hasK x a)) (w := h)
  simp only [decide_eq_true_eq] at this
  rw [qg_eq h]; exact this
theorem of_no {qs : List Qm} {a : Int} (h : ¬ ofN qs a < qs.length) {i : Nat} (hi : i < qs.length) : ¬ hasK (qg qs i) a := fun q => by
  rw [qg_eq hi] at q
  exact h (List.findIdx_lt_length_of_exists ⟨qs[i], List.getElem_mem hi, by simpa using q⟩)
theorem of_at {qs : List Qm} {a : Int} {i : Nat} (hi : i < qs.length) (hk : hasK (qg qs i) a) (hu : ∀ j, j < qs.length → hasK (qg qs j) a → j = i) : ofN qs a = i := by
  have h1 : ofN qs a < qs.length := Classical.byContradiction fun q => of_no q hi hk
  exact hu _ h1 (of_hit h1)
theorem of_none {qs : List Qm} {a : Int} (h : ∀ j, j < qs.length → ¬ hasK (qg qs j) a) : ¬ ofN qs a < qs.length := fun q => h _ q (of_hit q)
theorem CWf.at {qs : List Qm} (h : CWf qs) {a : Int} {i : Nat} (hi : i < qs.length) (hk : hasK (qg qs i) a) : ofN qs a = i := of_at hi hk (fun j hj hkj => h.one j i a hj hi hkj hk)
theorem ofO_hit {qs : List Qm} {a : Int} (h : ofN qs a < qs.length) : ofO qs a = (ofN qs a : Nat) := if_pos h
theorem CWf.pos {qs : List Qm} (h : CWf qs) {a : Int} (ha : ofN qs a < qs.length) : 0 ≤ a := by
  obtain ⟨t, ht, e⟩ := ixO_lt.1 (of_hit ha)
  have := (h.wf _ ha).pos t ht
  omega
/-! ### what a queue has -/
theorem gQ_eq {x : Qm} (h : QWf x) {t : Kv} (ht : t ∈ x.l) : gQ x.l t.id = t := by
  have h1 : ixO x.l t.id < x.l.length := ixO_lt.2 ⟨t, ht, rfl⟩
  obtain ⟨h2, h3⟩ := ixO_hit h1
  exact uniq_id h.nd h3 ht h2
theorem has_get {x : Qm} {a : Int} (h : hasK x a) : gQ x.l a ∈ x.l ∧ (gQ x.l a).id = a := ⟨(ixO_hit h).2, (ixO_hit h).1⟩
theorem has_add {x : Qm} {a w : Int} {v : BitVec 64} {b : Int} : hasK (addQ x a v w) b ↔ hasK x b ∨ b = a := by
  unfold hasK; rw [ixO_lt, ixO_lt]
  show (∃ t ∈ x.l ++ [(⟨_, a, _⟩ : Kv)], t.id = b) ↔ _
  simp only [List.mem_append, List.mem_singleton]
  constructor
  · rintro ⟨t, ht | rfl, e⟩
    · exact .inl ⟨t, ht, e⟩
    · exact .inr e.symm
  · rintro (⟨t, ht, e⟩ | rfl)
    · exact ⟨t, .inl ht, e⟩
    · exact ⟨_, .inr rfl, rfl⟩
theorem get_add {x : Qm} (h : QWf x) {a w : Int} {v : BitVec 64} (ha : addE x a = 0) {b : Int} : (hasK x b → gQ (addQ x a v w).l b = gQ x.l b) ∧ gQ (addQ x a v w).l a = ⟨plcO x v (bringO w 1 4096), a, bringO w 1 4096⟩ := by
  have hwf := add_wf (v := v) (w := w) h ha
  constructor
  · intro hb
    obtain ⟨h1, h2⟩ := has_get hb
    have := gQ_eq hwf (t := gQ x.l b) (List.mem_append_left _ h1)
    rw [h2] at this; exact this
  · exact gQ_eq hwf (t := ⟨plcO x v (bringO w 1 4096), a, bringO w 1 4096⟩) (List.mem_append_right _ (List.mem_singleton.2 rfl))
theorem rem_l (x : Qm) (a : Int) : (remQ x a).l = x.l.eraseIdx (ixO x.l a) := by unfold remQ; split <;> rfl
theorem has_rem {x : Qm} (h : QWf x) {a b : Int} (ha : hasK x a) : hasK (remQ x a) b ↔ hasK x b ∧ b ≠ a := by
  unfold hasK; rw [ixO_lt, ixO_lt, rem_l]
  constructor
  · rintro ⟨t, ht, rfl⟩
    have := (mem_erase_at h.nd ha t).1 ht
    exact ⟨⟨t, this.1, rfl⟩, this.2⟩
  · rintro ⟨⟨t, ht, rfl⟩, hne⟩
    exact ⟨t, (mem_erase_at h.nd ha t).2 ⟨ht, hne⟩, rfl⟩
theorem get_rem {x : Qm} (h : QWf x) {a b : Int} (ha : hasK x a) (hb : hasK x b) (hne : b ≠ a) : gQ (remQ x a).l b = gQ x.l b := by
  obtain ⟨h1, h2⟩ := has_get hb
  have hm : gQ x.l b ∈ (remQ x a).l := by rw [rem_l]; exact (mem_erase_at h.nd ha _).2 ⟨h1, by rw [h2]; exact hne⟩
  have := gQ_eq (rem_wf h ha) hm
  rw [h2] at this; exact this
theorem len_add (x : Qm) (a : Int) (v : BitVec 64) (w : Int) : (addQ x a v w).l.length = x.l.length + 1 := by simp [addQ]
theorem len_rem {x : Qm} {a : Int} (ha : hasK x a) : (remQ x a).l.length + 1 = x.l.length := by
  rw [rem_l, List.length_eraseIdx, if_pos ha]; have := ha; unfold hasK at this; omega
/-! ### how many there are -/
theorem all_set : ∀ {qs : List Qm} {i : Nat} (h : i < qs.length) (x : Qm), allO (qs.set i x) + (qg qs i).l.length = allO qs + x.l.length
  | [], i, h, x => by cases h
  | q :: qs, 0, h, x => by show (x.l.length + allO qs) + q.l.length = (q.l.length + allO qs) + x.l.length; omega
  | q :: qs, i + 1, h, x => by
    have := all_set (qs := qs) (Nat.lt_of_succ_lt_succ h) x
    show (q.l.length + allO (qs.set i x)) + (qg qs i).l.length = (q.l.length + allO qs) + x.l.length
    omega
theorem all_ge : ∀ {qs : List Qm} {i : Nat} (h : i < qs.length), (qg qs i).l.length ≤ allO qs
  | [], i, h => by cases h
  | q :: qs, 0, h => by show q.l.length ≤ q.l.length + allO qs; omega
  | q :: qs, i + 1, h => by
    have := all_ge (qs := qs) (Nat.lt_of_succ_lt_succ h)
    show (qg qs i).l.length ≤ q.l.length + allO qs
    omega
/-! ### what the two maps have -/
def Wh (lw : List (Int × Value)) (qs : List Qm) : Prop := (lw.map (·.1)).Nodup ∧ lw.length = allO qs ∧ ∀ a, aget lw a = if ofN qs a < qs.length then some (.int .i64 (ofN qs a : Nat)) else none
def Wg (lg : List (Int × Value)) (qs : List Qm) : Prop := (lg.map (·.1)).Nodup ∧ ∀ a, ofN qs a < qs.length → ∃ w : Int, aget lg a = some (.int .i64 w) ∧ bringO w 1 4096 = (gQ (qg qs (ofN qs a)).l a).x
theorem aget_none : ∀ {l : List (Int × Value)} {a : Int}, aget l a = none ↔ a ∉ l.map (·.1)
  | [], a => by simp [aget_nil]
  | (b, u) :: l, a => by
    rw [aget_cons]
    by_cases e : a = b
    · subst e; simp
    · rw [if_neg e, aget_none]; simp [e]
theorem aput_lenN : ∀ {l : List (Int × Value)} {a : Int} {v : Value}, (aput l a v).length = if aget l a = none then l.length + 1 else l.length
  | [], a, v => by rw [aput_nil, aget_nil, if_pos rfl]; rfl
  | (b, u) :: l, a, v => by
    rw [aput_cons, aget_cons]
    by_cases e : a = b
    · rw [if_pos e, if_pos e, if_neg (by simp)]; rfl
    · rw [if_neg e, if_neg e, List.length_cons, aput_lenN]; split <;> rfl
theorem adel_lenN : ∀ {l : List (Int × Value)} {a : Int}, aget l a ≠ none → (adel l a).length + 1 = l.length
  | [], a, h => absurd (aget_nil a) h
  | (b, u) :: l, a, h => by
    rw [adel_cons]
    rw [aget_cons] at h
    by_cases e : a = b
    · rw [if_pos e]; rfl
    · rw [if_neg e] at h ⊢; have := adel_lenN h; simp only [List.length_cons]; omega
theorem aget_adel : ∀ {l : List (Int × Value)} {a : Int}, (l.map (·.1)).Nodup → ∀ b, aget (adel l a) b = if b = a then none else aget l b
  | [], a, h, b => by rw [adel_nil, aget_nil]; split <;> rfl
  | (c, u) :: l, a, h, b => by
    simp only [List.map_cons, List.nodup_cons] at h
    rw [adel_cons]
    by_cases e : a = c
    · subst e
      rw [if_pos rfl, aget_cons]
      by_cases e2 : b = a
      · subst e2; rw [if_pos rfl]; exact aget_none.2 h.1
      · rw [if_neg e2, if_neg e2]
    · rw [if_neg e, aget_cons, aget_cons, aget_adel h.2]
      by_cases e2 : b = c
      · subst e2; rw [if_pos rfl, if_pos rfl, if_neg (fun q => e q.symm)]
      · rw [if_neg e2, if_neg e2]
theorem aputK : ∀ {m : List (Int × Value)} {a : Int} {v : Value} {b : Int}, b ∈ (aput m a v).map (·.1) → b = a ∨ b ∈ m.map (·.1)
  | [], a, v, b, h => by rw [aput_nil] at h; simp at h; exact .inl h
  | (c, u) :: m, a, v, b, h => by
    rw [aput_cons] at h
    by_cases e : a = c
    · rw [if_pos e] at h; simp only [List.map_cons, List.mem_cons] at h ⊢; rcases h with h | h; exact .inl h; exact .inr (.inr h)
    · rw [if_neg e] at h
      simp only [List.map_cons, List.mem_cons] at h ⊢
      rcases h with h | h
      · exact .inr (.inl h)
      · rcases aputK h with q | q
        · exact .inl q
        · exact .inr (.inr q)
theorem aputN : ∀ {m : List (Int × Value)} {a : Int} {v : Value}, (m.map (·.1)).Nodup → ((aput m a v).map (·.1)).Nodup
  | [], a, v, _ => by rw [aput_nil]; simp
  | (c, u) :: m, a, v, h => by
    simp only [List.map_cons, List.nodup_cons] at h
    rw [aput_cons]
    by_cases e : a = c
    · rw [if_pos e]; subst e; simp only [List.map_cons, List.nodup_cons]; exact h
    · rw [if_neg e]; simp only [List.map_cons, List.nodup_cons]
      refine ⟨fun q => ?_, aputN h.2⟩
      rcases aputK q with z | z
      · exact e z.symm
      · exact h.1 z
theorem adelK : ∀ {m : List (Int × Value)} {a b : Int}, b ∈ (adel m a).map (·.1) → b ∈ m.map (·.1)
  | [], a, b, h => h
  | (c, u) :: m, a, b, h => by
    rw [adel_cons] at h
    by_cases e : a = c
    · rw [if_pos e] at h; exact List.mem_cons_of_mem _ h
    · rw [if_neg e] at h
      simp only [List.map_cons, List.mem_cons] at h ⊢
      rcases h with h | h
      · exact .inl h
      · exact .inr (adelK h)
theorem adelN : ∀ {m : List (Int × Value)} {a : Int}, (m.map (·.1)).Nodup → ((adel m a).map (·.1)).Nodup
  | [], a, h => h
  | (c, u) :: m, a, h => by
    simp only [List.map_cons, List.nodup_cons] at h
    rw [adel_cons]
    by_cases e : a = c
    · rw [if_pos e]; exact h.2
    · rw [if_neg e]; simp only [List.map_cons, List.nodup_cons]; exact ⟨fun q => h.1 (adelK q), adelN h.2⟩
end Go.Eng
namespace Go.Eng
open Go Go.RowKit
theorem of_cong {qs qs' : List Qm} {b : Int} (hl : qs'.length = qs.length) (h : ∀ j, j < qs.length → (hasK (qg qs' j) b ↔ hasK (qg qs j) b)) : ofN qs' b = ofN qs b := by
  have e : qs'.map (fun x => decide (hasK x b)) = qs.map (fun x => decide (hasK x b)) := by
    apply List.ext_getElem (by simp [hl])
    intro j h1 h2
    rw [List.length_map] at h1 h2
    rw [List.getElem_map, List.getElem_map]
    have := h j h2
    rw [qg_eq h1, qg_eq h2] at this
    exact decide_eq_decide.2 this
  unfold ofN
  have h1 := List.findIdx_map (p := id) (f := fun x => decide (hasK x b)) (xs := qs)
  have h2 := List.findIdx_map (p := id) (f := fun x => decide (hasK x b)) (xs := qs')
  rw [e, h1] at h2
  exact h2.symm
theorem CWf.set {qs : List Qm} (h : CWf qs) {i : Nat} (hi : i < qs.length) {x' : Qm} (hx : QWf x') (hk : ∀ j b, j < qs.length → j ≠ i → hasK x' b → ¬ hasK (qg qs j) b) (hl : allO qs + x'.l.length ≤ 16 + (qg qs i).l.length) : CWf (qs.set i x') := by
  refine ⟨by rw [List.length_set]; exact h.len, fun j hj => ?_, fun j k a hj hk' h1 h2 => ?_, ?_⟩
  · rw [List.length_set] at hj
    rw [qg_set hi]; split
    · exact hx
    · exact h.wf j hj
  · rw [List.length_set] at hj hk'
    rw [qg_set hi] at h1 h2
    by_cases e1 : i = j
    · by_cases e2 : i = k
      · omega
      · rw [if_pos e1] at h1; rw [if_neg e2] at h2
        exact absurd h2 (hk k a hk' (fun q => e2 q.symm) h1)
    · rw [if_neg e1] at h1
      by_cases e2 : i = k
      · rw [if_pos e2] at h2
        exact absurd h1 (hk j a hj (fun q => e1 q.symm) h2)
      · rw [if_neg e2] at h2
        exact h.one j k a hj hk' h1 h2
  · have := all_set hi x'; omega
theorem of_set {qs : List Qm} {i : Nat} (hi : i < qs.length) {x' : Qm} {b : Int} (h : hasK x' b ↔ hasK (qg qs i) b) : ofN (qs.set i x') b = ofN qs b :=
  of_cong (by rw [List.length_set]) (fun j hj => by
    rw [qg_set hi]
    by_cases e : i = j
    · rw [if_pos e, ← e]; exact h
    · rw [if_neg e])
theorem of_set_at {qs : List Qm} {i : Nat} (hi : i < qs.length) {x' : Qm} (hw : CWf (qs.set i x')) {b : Int} (h : hasK x' b) : ofN (qs.set i x') b = i :=
  hw.at (by rw [List.length_set]; exact hi) (by rw [qg_set hi, if_pos rfl]; exact h)
def SameT (x x' : Qm) : Prop := x'.l.length = x.l.length ∧ (∀ b, hasK x' b ↔ hasK x b) ∧ ∀ b, hasK x b → (gQ x'.l b).x = (gQ x.l b).x
theorem SameT.refl (x : Qm) : SameT x x := ⟨rfl, fun b => Iff.rfl, fun b _ => rfl⟩
/-! ### one more -/
def cAddE (qs : List Qm) (core a : Int) : Int := if core < 0 ∨ (qs.length : Int) ≤ core ∨ a < 0 then 1 else if ofN qs a < qs.length then 12 else if 16 ≤ allO qs then 3 else 0
def cAddV (qs : List Qm) (core a : Int) (v : BitVec 64) (w : Int) : BitVec 64 := if cAddE qs core a = 0 then plcO (qg qs core.toNat) v (bringO w 1 4096) else 0#64
def cAddX (qs : List Qm) (core a : Int) (v : BitVec 64) (w : Int) : List Qm := if cAddE qs core a = 0 then qs.set core.toNat (addQ (qg qs core.toNat) a v w) else qs
theorem cadd_E {qs : List Qm} (h : CWf qs) {i : Nat} (hi : i < qs.length) {a : Int} (ha : 0 ≤ a) (hn : ¬ ofN qs a < qs.length) (hf : allO qs < 16) : addE (qg qs i) a = 0 :=
  addE_ok (by omega) (of_no hn hi) (by have := all_ge hi; omega)
theorem cadd_wf {qs : List Qm} (h : CWf qs) {i : Nat} (hi : i < qs.length) {a : Int} (ha : 0 ≤ a) (hn : ¬ ofN qs a < qs.length) (hf : allO qs < 16) (v : BitVec 64) (w : Int) : CWf (qs.set i (addQ (qg qs i) a v w)) :=
  h.set hi (add_wf (h.wf i hi) (cadd_E h hi ha hn hf)) (fun j b hj hji hb q => by
    rcases has_add.1 hb with z | rfl
    · exact hji (h.one j i b hj hi q z)
    · exact of_no hn hj q) (by rw [len_add]; omega)
theorem cadd_wh {qs : List Qm} (h : CWf qs) {i : Nat} (hi : i < qs.length) {a : Int} (ha : 0 ≤ a) (hn : ¬ ofN qs a < qs.length) (hf : allO qs < 16) (v : BitVec 64) (w : Int) {lw : List (Int × Value)} (hw : Wh lw qs) :
    Wh (aput lw a (.int .i64 (i : Nat))) (qs.set i (addQ (qg qs i) a v w)) := by
  have hwf := cadd_wf h hi ha hn hf v w
  have hno : aget lw a = none := by rw [hw.2.2 a, if_neg hn]
  refine ⟨aputN hw.1, ?_, fun b => ?_⟩
  · rw [aput_lenN, if_pos hno, hw.2.1]
    have := all_set hi (addQ (qg qs i) a v w); rw [len_add] at this; omega
  · rw [aget_aput, List.length_set]
    by_cases e : b = a
    · subst e
      rw [if_pos rfl, of_set_at hi hwf (has_add.2 (.inr rfl)), if_pos hi]
    · rw [if_neg e, of_set hi (by rw [has_add]; exact ⟨fun q => q.resolve_right e, .inl⟩)]
      exact hw.2.2 b
theorem cadd_wg {qs : List Qm} (h : CWf qs) {i : Nat} (hi : i < qs.length) {a : Int} (ha : 0 ≤ a) (hn : ¬ ofN qs a < qs.length) (hf : allO qs < 16) (v : BitVec 64) (w : Int) {lg : List (Int × Value)} (hw : Wg lg qs) :
    Wg (aput lg a (.int .i64 w)) (qs.set i (addQ (qg qs i) a v w)) := by
  have hwf := cadd_wf h hi ha hn hf v w
  have hE := cadd_E h hi ha hn hf
  have hg := fun b => get_add (v := v) (w := w) (h.wf i hi) hE (b := b)
  refine ⟨aputN hw.1, fun b hb => ?_⟩
  rw [List.length_set] at hb
  rw [aget_aput]
  by_cases e : b = a
  · subst e
    rw [if_pos rfl, of_set_at hi hwf (has_add.2 (.inr rfl)), qg_set hi, if_pos rfl, (hg b).2]
    exact ⟨w, rfl, rfl⟩
  · have hs : hasK (addQ (qg qs i) a v w) b ↔ hasK (qg qs i) b := by rw [has_add]; exact ⟨fun q => q.resolve_right e, .inl⟩
    rw [of_set hi hs] at hb ⊢
    obtain ⟨u, h1, h2⟩ := hw.2 b hb
    rw [if_neg e]
    refine ⟨u, h1, ?_⟩
    rw [h2, qg_set hi]
    by_cases e2 : i = ofN qs b
    · rw [if_pos e2, ← e2]
      have hh := of_hit hb; rw [← e2] at hh
      rw [(hg b).1 hh]
    · rw [if_neg e2]
/-! ### one less -/
theorem crem_wf {qs : List Qm} (h : CWf qs) {a : Int} (ha : ofN qs a < qs.length) : CWf (qs.set (ofN qs a) (remQ (qg qs (ofN qs a)) a)) := by
  have hh := of_hit ha
  refine h.set ha (rem_wf (h.wf _ ha) hh) (fun j b hj hji hb q => hji (h.one j _ b hj ha q ((has_rem (h.wf _ ha) hh).1 hb).1)) ?_
  have := len_rem hh; have := h.all; omega
theorem crem_no {qs : List Qm} (h : CWf qs) {a : Int} (ha : ofN qs a < qs.length) : ¬ ofN (qs.set (ofN qs a) (remQ (qg qs (ofN qs a)) a)) a < (qs.set (ofN qs a) (remQ (qg qs (ofN qs a)) a)).length := of_none (fun j hj q => by
  rw [List.length_set] at hj
  rw [qg_set ha] at q
  by_cases e : ofN qs a = j
  · rw [if_pos e] at q; exact ((has_rem (h.wf _ ha) (of_hit ha)).1 q).2 rfl
  · rw [if_neg e] at q; exact e (h.at hj q))
theorem crem_all {qs : List Qm} {a : Int} (ha : ofN qs a < qs.length) : allO (qs.set (ofN qs a) (remQ (qg qs (ofN qs a)) a)) + 1 = allO qs := by
  have h1 := all_set ha (remQ (qg qs (ofN qs a)) a)
  have h2 := len_rem (of_hit ha)
  omega
theorem crem_wh {qs : List Qm} (h : CWf qs) {a : Int} (ha : ofN qs a < qs.length) {lw : List (Int × Value)} (hw : Wh lw qs) : Wh (adel lw a) (qs.set (ofN qs a) (remQ (qg qs (ofN qs a)) a)) := by
  have hh := of_hit ha
  have hsome : aget lw a ≠ none := by rw [hw.2.2 a, if_pos ha]; exact fun q => by cases q
  refine ⟨adelN hw.1, ?_, fun b => ?_⟩
  · have h1 := adel_lenN hsome
    have h2 := crem_all ha
    have h3 := hw.2.1
    omega
  · rw [aget_adel hw.1]
    by_cases e : b = a
    · subst e; rw [if_pos rfl, if_neg (crem_no h ha)]
    · rw [if_neg e, List.length_set, of_set ha (by rw [has_rem (h.wf _ ha) hh]; exact ⟨fun q => q.1, fun q => ⟨q, e⟩⟩)]
      exact hw.2.2 b
theorem crem_wg {qs : List Qm} (h : CWf qs) {a : Int} (ha : ofN qs a < qs.length) {lg : List (Int × Value)} (hw : Wg lg qs) : Wg (adel lg a) (qs.set (ofN qs a) (remQ (qg qs (ofN qs a)) a)) := by
  have hh := of_hit ha
  refine ⟨adelN hw.1, fun b hb => ?_⟩
  rw [aget_adel hw.1]
  by_cases e : b = a
  · subst e; exact absurd hb (crem_no h ha)
  · have hs : hasK (remQ (qg qs (ofN qs a)) a) b ↔ hasK (qg qs (ofN qs a)) b := by rw [has_rem (h.wf _ ha) hh]; exact ⟨fun q => q.1, fun q => ⟨q, e⟩⟩
    rw [List.length_set] at hb
    rw [of_set ha hs] at hb ⊢
    obtain ⟨u, h1, h2⟩ := hw.2 b hb
    rw [if_neg e]
    refine ⟨u, h1, ?_⟩
    rw [h2, qg_set ha]
    by_cases e2 : ofN qs a = ofN qs b
    · rw [if_pos e2]
      have hh2 := of_hit hb
      rw [← e2] at hh2 ⊢
      rw [get_rem (h.wf _ ha) hh hh2 e]
    · rw [if_neg e2]
/-! ### another weight -/
/-! ### to another core -/
def subO (a b : BitVec 64) : BitVec 64 := if a.toNat < b.toNat then 0#64 else a - b
def carX1 (qs : List Qm) (a : Int) : List Qm := qs.set (ofN qs a) (remQ (qg qs (ofN qs a)) a)
def carV (qs : List Qm) (a : Int) (to : Nat) : BitVec 64 := addO (qg qs to).fl (subO (gQ (qg qs (ofN qs a)).l a).V (qg qs (ofN qs a)).fl)
def carX (qs : List Qm) (a : Int) (to : Nat) : List Qm := (carX1 qs a).set to (addQ (qg qs to) a (carV qs a to) (gQ (qg qs (ofN qs a)).l a).x)
theorem addQ_cong (x : Qm) (a : Int) (v : BitVec 64) {w w' : Int} (h : bringO w 1 4096 = bringO w' 1 4096) : addQ x a v w = addQ x a v w' := by unfold addQ; rw [h]
theorem bring_id {w : Int} (h : 1 ≤ w ∧ w ≤ 4096) : bringO w 1 4096 = w := by unfold bringO; rw [if_neg (by omega), if_neg (by omega)]
theorem car1_at {qs : List Qm} (_ : CWf qs) {a : Int} (ha : ofN qs a < qs.length) {to : Nat} (_ : to < qs.length) (hne : to ≠ ofN qs a) : qg (carX1 qs a) to = qg qs to := by unfold carX1; rw [qg_set ha, if_neg (fun q => hne q.symm)]
theorem car1_wf {qs : List Qm} (h : CWf qs) {a : Int} (ha : ofN qs a < qs.length) {to : Nat} (ht : to < qs.length) (_ : to ≠ ofN qs a) : CWf (carX1 qs a) ∧ to < (carX1 qs a).length ∧ 0 ≤ a ∧ ¬ ofN (carX1 qs a) a < (carX1 qs a).length ∧ allO (carX1 qs a) < 16 :=
  ⟨crem_wf h ha, by unfold carX1; rw [List.length_set]; exact ht, h.pos ha, crem_no h ha, by have h1 := crem_all ha; have h2 := h.all; unfold carX1; omega⟩
section
variable {qs : List Qm} (h : CWf qs) {a : Int} (ha : ofN qs a < qs.length) {to : Nat} (ht : to < qs.length) (hne : to ≠ ofN qs a)
include h ha ht hne
theorem car_eq : carX qs a to = (carX1 qs a).set to (addQ (qg (carX1 qs a) to) a (carV qs a to) (gQ (qg qs (ofN qs a)).l a).x) := by rw [car1_at h ha ht hne]; rfl
theorem car_wf : CWf (carX qs a to) := by
  obtain ⟨h1, h2, h3, h4, h5⟩ := car1_wf h ha ht hne
  rw [car_eq h ha ht hne]; exact cadd_wf h1 h2 h3 h4 h5 _ _
theorem car_E : addE (qg qs to) a = 0 := by
  obtain ⟨h1, h2, h3, h4, h5⟩ := car1_wf h ha ht hne
  rw [← car1_at h ha ht hne]; exact cadd_E h1 h2 h3 h4 h5
theorem car_wh {lw : List (Int × Value)} (hw : Wh lw qs) : Wh (aput lw a (.int .i64 (to : Nat))) (carX qs a to) := by
  obtain ⟨h1, h2, h3, h4, h5⟩ := car1_wf h ha ht hne
  have k := cadd_wh h1 h2 h3 h4 h5 (carV qs a to) (gQ (qg qs (ofN qs a)).l a).x (crem_wh h ha hw)
  rw [car_eq h ha ht hne]
  have hsome : aget lw a ≠ none := by rw [hw.2.2 a, if_pos ha]; exact fun q => by cases q
  refine ⟨aputN hw.1, ?_, fun b => ?_⟩
  · rw [← k.2.1, aput_lenN, aput_lenN, if_neg hsome, if_pos (by rw [aget_adel hw.1, if_pos rfl])]
    exact (adel_lenN hsome).symm
  · rw [← k.2.2 b, aget_aput, aget_aput, aget_adel hw.1]
    by_cases e : b = a
    · rw [if_pos e, if_pos e]
    · rw [if_neg e, if_neg e, if_neg e]
theorem car_wg {lg : List (Int × Value)} (hw : Wg lg qs) : Wg lg (carX qs a to) := by
  obtain ⟨h1, h2, h3, h4, h5⟩ := car1_wf h ha ht hne
  obtain ⟨u, hu1, hu2⟩ := hw.2 a ha
  have hx := (h.wf _ ha).wt _ (has_get (of_hit ha)).1
  have k := cadd_wg h1 h2 h3 h4 h5 (carV qs a to) u (crem_wg h ha hw)
  rw [addQ_cong _ a _ (w' := (gQ (qg qs (ofN qs a)).l a).x) (by rw [hu2, bring_id hx]), ← car_eq h ha ht hne] at k
  refine ⟨hw.1, fun b hb => ?_⟩
  obtain ⟨y, hy1, hy2⟩ := k.2 b hb
  refine ⟨y, ?_, hy2⟩
  rw [aget_aput, aget_adel hw.1] at hy1
  by_cases e : b = a
  · rw [if_pos e] at hy1; rw [e, hu1]; exact hy1
  · rw [if_neg e, if_neg e] at hy1; exact hy1
theorem car_of : ofN (carX qs a to) a = to := by
  have hw := car_wf h ha ht hne
  obtain ⟨h1, h2, h3, h4, h5⟩ := car1_wf h ha ht hne
  rw [car_eq h ha ht hne] at hw ⊢
  exact of_set_at h2 hw (has_add.2 (.inr rfl))
end
/-! ### the heaviest and the lightest -/
abbrev ldN (qs : List Qm) (i : Nat) : Int := loadO (qg qs i).l
def mostN (qs : List Qm) : Nat → Nat
  | 0 => 0
  | i + 1 => if ldN qs (mostN qs i) < ldN qs i then i else mostN qs i
def leastN (qs : List Qm) : Nat → Nat
  | 0 => 0
  | i + 1 => if ldN qs i < ldN qs (leastN qs i) then i else leastN qs i
theorem most_lt {qs : List Qm} (h : 1 ≤ qs.length) : ∀ i, i ≤ qs.length → mostN qs i < qs.length
  | 0, _ => h
  | i + 1, hi => by have := most_lt h i (by omega); unfold mostN; split <;> omega
theorem least_lt {qs : List Qm} (h : 1 ≤ qs.length) : ∀ i, i ≤ qs.length → leastN qs i < qs.length
  | 0, _ => h
  | i + 1, hi => by have := least_lt h i (by omega); unfold leastN; split <;> omega
theorem most_ge {qs : List Qm} : ∀ i j, j < i → ldN qs j ≤ ldN qs (mostN qs i)
  | 0, j, h => by omega
  | i + 1, j, h => by
    unfold mostN
    by_cases e : j = i
    · subst e; split <;> omega
    · have := most_ge (qs := qs) i j (by omega); split <;> omega
theorem least_le {qs : List Qm} : ∀ i j, j < i → ldN qs (leastN qs i) ≤ ldN qs j
  | 0, j, h => by omega
  | i + 1, j, h => by
    unfold leastN
    by_cases e : j = i
    · subst e; split <;> omega
    · have := least_le (qs := qs) i j (by omega); split <;> omega
abbrev mo (qs : List Qm) : Nat := mostN qs qs.length
abbrev le (qs : List Qm) : Nat := leastN qs qs.length
def difO (qs : List Qm) : Int := ldN qs (mo qs) - ldN qs (le qs)
def balF (qs : List Qm) : Option Kv := (rdyO (qg qs (mo qs))).find? (fun t => decide (t.x < difO qs))
def balX (qs : List Qm) : List Qm := match balF qs with | none => qs | some t => carX qs t.id (le qs)
def balI (qs : List Qm) : Int := match balF qs with | none => -1 | some t => t.id
def balA (qs : List Qm) : Int := match balF qs with | none => -1 | some _ => (mo qs : Nat)
def balB (qs : List Qm) : Int := match balF qs with | none => -1 | some _ => (le qs : Nat)
theorem findK_at {L : List Kv} {p : Kv → Bool} : ∀ {k : Nat}, (∀ j, j < k → p (L.getD j default) = false) → k < L.length → p (L.getD k default) = true → L.find? p = some (L.getD k default) := by
  induction L with
  | nil => intro k _ h; cases h
  | cons x L ih =>
    intro k h1 h2 h3
    cases k with
    | zero => simp only [List.getD_cons_zero] at h3 ⊢; rw [List.find?_cons, h3]
    | succ k =>
      have h0 := h1 0 (by omega)
      simp only [List.getD_cons_zero] at h0
      simp only [List.getD_cons_succ] at h3 ⊢
      rw [List.find?_cons, h0]
      exact ih (fun j hj => by have := h1 (j + 1) (by omega); rwa [List.getD_cons_succ] at this) (by simpa using h2) h3
theorem findK_no {L : List Kv} {p : Kv → Bool} (h : ∀ j, j < L.length → p (L.getD j default) = false) : L.find? p = none := by
  rw [List.find?_eq_none]
  intro x hx
  obtain ⟨j, hj, rfl⟩ := List.getElem_of_mem hx
  have := h j hj
  rw [List.getD_eq_getElem?_getD, List.getElem?_eq_getElem hj] at this
  simpa using this
theorem bal_some {qs : List Qm} (h : CWf qs) {t : Kv} (hb : balF qs = some t) : t ∈ (qg qs (mo qs)).l ∧ t.id ≠ (qg qs (mo qs)).cur ∧ t.x < difO qs ∧ ofN qs t.id = mo qs ∧ mo qs < qs.length ∧ le qs < qs.length ∧ le qs ≠ ofN qs t.id := by
  have hm := most_lt h.len.1 qs.length (Nat.le_refl _)
  have hl := least_lt h.len.1 qs.length (Nat.le_refl _)
  have h1 := List.mem_of_find?_eq_some hb
  have h2 := List.find?_some hb
  simp only [decide_eq_true_eq] at h2
  obtain ⟨h3, h4⟩ := (rdy_mem (h.wf _ hm).nd t).1 h1
  have h5 : ofN qs t.id = mo qs := h.at hm (ixO_lt.2 ⟨t, h3, rfl⟩)
  refine ⟨h3, h4, h2, h5, hm, hl, fun e => ?_⟩
  rw [h5] at e
  have h6 := ((h.wf _ hm).wt t h3).1
  unfold difO at h2
  rw [e] at h2
  omega
theorem most_succ (qs : List Qm) (i : Nat) : mostN qs (i + 1) = if ldN qs (mostN qs i) < ldN qs i then i else mostN qs i := rfl
theorem least_succ (qs : List Qm) (i : Nat) : leastN qs (i + 1) = if ldN qs i < ldN qs (leastN qs i) then i else leastN qs i := rfl
theorem most_zero (qs : List Qm) : mostN qs 0 = 0 := rfl
theorem least_zero (qs : List Qm) : leastN qs 0 = 0 := rfl
attribute [irreducible] mostN leastN
end Go.Eng
namespace Go.Eng
open Go Go.RowKit
theorem fl_perm : ∀ (M : List Mem0) (i : Nat), i < M.length → M.flatten.Perm (M.getD i [] ++ (M.eraseIdx i).flatten)
  | [], i, h => by cases h
  | m :: M, 0, h => by simp
  | m :: M, i + 1, h => by
    have ih := fl_perm M i (Nat.lt_of_succ_lt_succ h)
    simp only [List.flatten_cons, List.getD_cons_succ, List.eraseIdx_cons_succ]
    refine (ih.append_left m).trans ?_
    rw [← List.append_assoc, ← List.append_assoc]
    exact List.perm_append_comm.append_right _
theorem fl_permS {M : List Mem0} {i : Nat} (h : i < M.length) (m' : Mem0) : (M.set i m').flatten.Perm (m' ++ (M.eraseIdx i).flatten) := by
  have h1 := fl_perm (M.set i m') i (by rw [List.length_set]; exact h)
  rw [List.getD_eq_getElem?_getD, List.getElem?_set, if_pos rfl, if_pos h, Option.getD_some] at h1
  have h2 : (M.set i m').eraseIdx i = M.eraseIdx i := by
    apply List.ext_getElem?
    intro j
    rw [List.getElem?_eraseIdx, List.getElem?_eraseIdx]
    split
    · rw [List.getElem?_set_ne (by omega)]
    · rw [List.getElem?_set_ne (by omega)]
  rw [h2] at h1; exact h1
theorem fl_mem {M : List Mem0} {i : Nat} (h : i < M.length) {p : Nat × Obj} (hp : p ∈ M.getD i []) : p ∈ M.flatten :=
  (fl_perm M i h).mem_iff.2 (List.mem_append_left _ hp)
theorem fl_get {M : List Mem0} {i : Nat} (h : i < M.length) {w : World} (hm : Mem w M.flatten) : Mem w (M.getD i []) :=
  (hm.perm (fl_perm M i h)).sub (List.sublist_append_left ..)
structure QKd (R : Nat → Nat → Qm → Mem0 → Prop) : Prop where
  ge : ∀ {n0 b x m}, R n0 b x m → ∀ p ∈ m, n0 ≤ p.1
  wlk : ∀ {n0 b x m}, R n0 b x m → ∀ p ∈ m, wlk p.2 = false
  mono : ∀ {n0 n1 b x m}, R n0 b x m → n1 ≤ n0 → R n1 b x m
theorem rqK : QKd RqM := ⟨RqM.ge, RqM.wlk, RqM.mono⟩
def QqM (R : Nat → Nat → Qm → Mem0 → Prop) (n0 : Nat) (bs : List Nat) (qs : List Qm) (mm : Mem0) : Prop :=
  ∃ M : List Mem0, mm = M.flatten ∧ bs.length = qs.length ∧ M.length = qs.length ∧ ∀ i, i < qs.length → R n0 (bs.getD i default) (qg qs i) (M.getD i [])
section
variable {R : Nat → Nat → Qm → Mem0 → Prop} (hR : QKd R) {n0 : Nat} {bs : List Nat} {qs : List Qm} {mm : Mem0}
theorem QqM.nil : QqM R n0 [] [] [] := ⟨[], rfl, rfl, rfl, fun i h => by cases h⟩
theorem QqM.len (h : QqM R n0 bs qs mm) : bs.length = qs.length := by obtain ⟨M, _, h, _⟩ := h; exact h
include hR in
theorem QqM.ge (h : QqM R n0 bs qs mm) : ∀ p ∈ mm, n0 ≤ p.1 := by
  obtain ⟨M, rfl, h1, h2, h3⟩ := h
  intro p hp
  obtain ⟨m, hm, hpm⟩ := List.mem_flatten.1 hp
  obtain ⟨i, hi, rfl⟩ := List.getElem_of_mem hm
  refine hR.ge (h3 i (by omega)) p ?_
  rw [List.getD_eq_getElem?_getD, List.getElem?_eq_getElem hi]; exact hpm
include hR in
theorem QqM.wlk (h : QqM R n0 bs qs mm) : ∀ p ∈ mm, wlk p.2 = false := by
  obtain ⟨M, rfl, h1, h2, h3⟩ := h
  intro p hp
  obtain ⟨m, hm, hpm⟩ := List.mem_flatten.1 hp
  obtain ⟨i, hi, rfl⟩ := List.getElem_of_mem hm
  refine hR.wlk (h3 i (by omega)) p ?_
  rw [List.getD_eq_getElem?_getD, List.getElem?_eq_getElem hi]; exact hpm
include hR in
theorem QqM.mono (h : QqM R n0 bs qs mm) {n1 : Nat} (hn : n1 ≤ n0) : QqM R n1 bs qs mm := by
  obtain ⟨M, rfl, h1, h2, h3⟩ := h
  exact ⟨M, rfl, h1, h2, fun i hi => hR.mono (h3 i hi) hn⟩
theorem QqM.snoc (h : QqM R n0 bs qs mm) {b : Nat} {x : Qm} {m : Mem0} (hx : R n0 b x m) : QqM R n0 (bs ++ [b]) (qs ++ [x]) (mm ++ m) := by
  obtain ⟨M, rfl, h1, h2, h3⟩ := h
  refine ⟨M ++ [m], by simp, by simp [h1], by simp [h2], fun i hi => ?_⟩
  rw [List.length_append, List.length_singleton] at hi
  rw [qg_snoc qs x i (by omega)]
  rw [List.getD_eq_getElem?_getD, List.getD_eq_getElem?_getD]
  by_cases e : i = qs.length
  · rw [if_pos e, List.getElem?_append_right (by omega), List.getElem?_append_right (by omega), h1, h2, e]; simpa using hx
  · rw [if_neg e, List.getElem?_append_left (by omega), List.getElem?_append_left (by omega)]
    have := h3 i (by omega)
    rw [List.getD_eq_getElem?_getD, List.getD_eq_getElem?_getD] at this; exact this
theorem QqM.read {P : Program} {f : FuncId} {args : Array Value} {w : World} {Q : Value → World → Prop} {i : Nat} (h : QqM R n0 bs qs mm) (hi : i < qs.length) (hm : Mem w mm)
    (hs : ∀ m, R n0 (bs.getD i default) (qg qs i) m → Mem w m → Ret P f args w Q) : Ret P f args w Q := by
  obtain ⟨M, rfl, h1, h2, h3⟩ := h
  exact hs _ (h3 i hi) (fl_get (by omega) hm)
include hR in
theorem QqM.upd {P : Program} {f : FuncId} {args : Array Value} {w : World} {u0 : Value} {x' : Qm} {i : Nat} (h : QqM R n0 bs qs mm) (hi : i < qs.length) (hm : Mem w mm)
    (hs : ∀ m, R n0 (bs.getD i default) (qg qs i) m → Mem w m → Ret P f args w (Upd m (fun u m' => u = u0 ∧ R n0 (bs.getD i default) x' m') w)) :
    Ret P f args w (Upd mm (fun u m' => u = u0 ∧ QqM R n0 bs (qs.set i x') m') w) := by
  obtain ⟨M, rfl, h1, h2, h3⟩ := h
  have hiM : i < M.length := by omega
  refine (hs _ (h3 i hi) (fl_get hiM hm)).mono (fun u w' hU => ?_)
  have hin := fun p hp => fl_mem (M := M) (i := i) hiM (p := p) hp
  obtain ⟨m', ⟨hu, hr⟩, hnew, hM, hC, _⟩ := upd_step (G := top) (S := fun b => ∃ q ∈ M.flatten, q.1 = b) (w0 := w) (hm.perm (fl_perm M i hiM)) (hR.wlk (h3 i hi)) (fun p hp _ => ⟨p, hin p hp, rfl⟩) (Chg.refl _ _) trivial hU
  refine ⟨hC, (M.set i m').flatten, ⟨hu, M.set i m', rfl, by rw [List.length_set]; exact h1, by rw [List.length_set, List.length_set]; exact h2, fun j hj => ?_⟩, hM.perm (fl_permS hiM m').symm, fun p hp => ?_⟩
  · rw [List.length_set] at hj
    rw [qg_set hi, List.getD_eq_getElem?_getD (l := M.set i m'), List.getElem?_set]
    by_cases e : i = j
    · subst e; rw [if_pos rfl, if_pos rfl, if_pos hiM]; exact hr
    · rw [if_neg e, if_neg e]
      have := h3 j hj
      rw [List.getD_eq_getElem?_getD (l := M)] at this; exact this
  · rcases List.mem_append.1 ((fl_permS hiM m').mem_iff.1 hp) with q | q
    · rcases hnew p q with z | ⟨q', hq', e⟩
      · exact .inl z
      · exact .inr ⟨q', hin q' hq', e⟩
    · exact .inr ⟨p, (fl_perm M i hiM).mem_iff.2 (List.mem_append_right _ q), rfl⟩
end
end Go.Eng
namespace Go.Eng
open Go Go.RowKit
end Go.Eng
namespace Go.Eng
open Go Go.Proofs Go.RowKit
end Go.Eng
namespace Go.Eng
open Go Go.Proofs Go.RowKit
def fTk (t : Kv) : List Value := [.int .i64 t.id, U t.V, .int .i64 t.x]
abbrev rfC (b : Nat) (g : Int) (fl : BitVec 64) (ad : Option Addr) (n cap : Nat) (cur ran : Int) : Nat × Obj := (b, .cells #[.int .i64 g, U fl, .slice ad n cap, .int .i64 cur, .int .i64 ran] 110 (0, 0))
def RfM (n0 b : Nat) (x : Qm) (m : Mem0) : Prop := QWf x ∧ ∃ (ad : Option Addr) (n cap : Nat) (ms : Mem0), m = rfC b x.g x.fl ad n cap x.cur x.ran :: ms ∧ n = x.l.length ∧ Sl fTk 112 3 n0 x.l (.slice ad n cap) ms ∧ n0 ≤ b
theorem RfM.ge {n0 b : Nat} {x : Qm} {m : Mem0} (h : RfM n0 b x m) : ∀ p ∈ m, n0 ≤ p.1 := by
  obtain ⟨hq, ad, n, cap, ms, rfl, hn, hs, hb⟩ := h
  intro p hp
  rcases List.mem_cons.1 hp with rfl | hp
  · exact hb
  · exact hs.ge p hp
theorem RfM.wlk {n0 b : Nat} {x : Qm} {m : Mem0} (h : RfM n0 b x m) : ∀ p ∈ m, wlk p.2 = false := by
  obtain ⟨hq, ad, n, cap, ms, rfl, hn, hs, hb⟩ := h
  intro p hp
  rcases List.mem_cons.1 hp with rfl | hp
  · rfl
  · exact hs.wlk p hp
theorem RfM.mono {n0 n1 b : Nat} {x : Qm} {m : Mem0} (h : RfM n0 b x m) (hn : n1 ≤ n0) : RfM n1 b x m := by
  obtain ⟨hq, ad, n, cap, ms, rfl, hn', hs, hb⟩ := h
  exact ⟨hq, ad, n, cap, ms, rfl, hn', hs.mono hn, Nat.le_trans hn hb⟩
def RfN (g : Int) (n0 : Nat) (v : Value) (m : Mem0) : Prop := ∃ b, v = .pointer (some ⟨b, 0, none⟩) ∧ RfM n0 b (newQ g) m
theorem RfN.mono {g : Int} : ∀ (n n' : Nat) (v : Value) (m : Mem0), n' ≤ n → RfN g n v m → RfN g n' v m := fun n n' v m hn ⟨b, h1, h⟩ => ⟨b, h1, h.mono hn⟩
end Go.Eng
namespace Go.Eng
open Go Go.Proofs Go.RowKit
end Go.Eng
namespace Go.Eng
open Go Go.Proofs Go.RowKit
theorem upd_m {m m' M : Mem0} {T : Value → Mem0 → Prop} {u : Value} {w w' : World} (hT : T u m') (hm : Mem w' M) (hs : SubM M (m' ++ [])) (hc : Chg (inM m) w w') (hin : inn m w.heap.size m') : Upd m T w u w' := by
  rw [List.append_nil] at hs
  exact ⟨hc, m', hT, hs.mem w' hm, hin⟩
end Go.Eng
namespace Go.Eng
open Go Go.Proofs Go.RowKit
abbrev qN (c : Nat) : Nat × Obj := (c, .cells #[.pointer none] 24 (0, 0))
def RqA0 (n0 : Nat) (v : Value) (m : Mem0) : Prop := ∃ c1, v = .func (.func 81) #[] #[.pointer (some ⟨c1, 0, none⟩)] ∧ m = [qN c1] ∧ n0 ≤ c1
theorem RqA0.mono : ∀ (k k' : Nat) u m, k' ≤ k → RqA0 k u m → RqA0 k' u m := fun k k' u m h ⟨b1, h1, h2, h3⟩ => ⟨b1, h1, h2, by omega⟩
end Go.Eng
namespace Go.Eng
open Go Go.Proofs Go.RowKit
def fP (b : Nat) : List Value := [.pointer (some ⟨b, 0, none⟩)]
abbrev coC (b : Nat) (ad : Option Addr) (n cap bw bg : Nat) : Nat × Obj := (b, .cells #[.slice ad n cap, .map (some bw), .map (some bg)] 124 (0, 0))
def CrM (n0 b : Nat) (qs : List Qm) (m : Mem0) : Prop := CWf qs ∧ ∃ (ad : Option Addr) (n cap bw bg : Nat) (esw : Array MapEntry) (clw : Nat) (esg : Array MapEntry) (clg : Nat) (lw lg : List (Int × Value)) (ms mm : Mem0) (bs : List Nat),
  m = coC b ad n cap bw bg :: (bw, .map esw clw) :: (bg, .map esg clg) :: (ms ++ mm) ∧ n = qs.length ∧ Sl fP 24 1 n0 bs (.slice ad n cap) ms ∧ QqM RqM n0 bs qs mm ∧ EnsS .i64 esw clw lw ∧ EnsS .i64 esg clg lg ∧ Wh lw qs ∧ Wg lg qs ∧ n0 ≤ b ∧ n0 ≤ bw ∧ n0 ≤ bg
theorem CrM.ge {n0 b : Nat} {qs : List Qm} {m : Mem0} (h : CrM n0 b qs m) : ∀ p ∈ m, n0 ≤ p.1 := by
  obtain ⟨hw, ad, n, cap, bw, bg, esw, clw, esg, clg, lw, lg, ms, mm, bs, rfl, hn, hs, hq, hew, heg, hwh, hwg, hb, hbw, hbg⟩ := h
  intro p hp
  simp only [List.mem_cons, List.mem_append] at hp
  rcases hp with rfl | rfl | rfl | hp | hp
  · exact hb
  · exact hbw
  · exact hbg
  · exact hs.ge p hp
  · exact hq.ge rqK p hp
theorem CrM.wlk {n0 b : Nat} {qs : List Qm} {m : Mem0} (h : CrM n0 b qs m) : ∀ p ∈ m, wlk p.2 = false := by
  obtain ⟨hw, ad, n, cap, bw, bg, esw, clw, esg, clg, lw, lg, ms, mm, bs, rfl, hn, hs, hq, hew, heg, hwh, hwg, hb, hbw, hbg⟩ := h
  intro p hp
  simp only [List.mem_cons, List.mem_append] at hp
  rcases hp with rfl | rfl | rfl | hp | hp
  · rfl
  · rfl
  · rfl
  · exact hs.wlk p hp
  · exact hq.wlk rqK p hp
theorem CrM.mono {n0 n1 b : Nat} {qs : List Qm} {m : Mem0} (h : CrM n0 b qs m) (hn1 : n1 ≤ n0) : CrM n1 b qs m := by
  obtain ⟨hw, ad, n, cap, bw, bg, esw, clw, esg, clg, lw, lg, ms, mm, bs, rfl, hn, hs, hq, hew, heg, hwh, hwg, hb, hbw, hbg⟩ := h
  exact ⟨hw, ad, n, cap, bw, bg, esw, clw, esg, clg, lw, lg, ms, mm, bs, rfl, hn, hs.mono hn1, hq.mono rqK hn1, hew, heg, hwh, hwg, Nat.le_trans hn1 hb, Nat.le_trans hn1 hbw, Nat.le_trans hn1 hbg⟩
theorem wh_get {lw : List (Int × Value)} {qs : List Qm} (h : Wh lw qs) (a : Int) : (aget lw a).getD (.int .i64 0) = .int .i64 (if ofN qs a < qs.length then ((ofN qs a : Nat) : Int) else 0) := by
  rw [h.2.2 a]; split <;> rfl
theorem wh_has {lw : List (Int × Value)} {qs : List Qm} (h : Wh lw qs) (a : Int) : (aget lw a).isSome = decide (ofN qs a < qs.length) := by
  rw [h.2.2 a]
  by_cases e : ofN qs a < qs.length
  · rw [if_pos e, decide_eq_true e]; rfl
  · rw [if_neg e, decide_eq_false e]; rfl
def lds (qs : List Qm) : List Int := qs.map (fun x => loadO x.l)
theorem lds_len (qs : List Qm) : (lds qs).length = qs.length := by simp [lds]
theorem lds_get {qs : List Qm} {i : Nat} (h : i < qs.length) : (lds qs).getD i 0 = ldN qs i := by
  unfold lds ldN
  rw [qg_eq h, List.getD_eq_getElem?_getD, List.getElem?_map, List.getElem?_eq_getElem h]; rfl
theorem lds_snoc {qs : List Qm} {i : Nat} (h : i < qs.length) : (lds qs).take (i + 1) = (lds qs).take i ++ [ldN qs i] := by
  rw [take_snoc 0 (by rw [lds_len]; exact h), lds_get h]
theorem most_pos {qs : List Qm} {i : Nat} (h : i < qs.length) (h2 : loadO (qg qs (mostN qs i)).l < (lds qs).getD i 0) : ((i : Nat) : Int) = ((mostN qs (i + 1) : Nat) : Int) := by
  rw [lds_get h] at h2; rw [most_succ, if_pos h2]
theorem most_neg {qs : List Qm} {i : Nat} (h : i < qs.length) (h2 : ¬ loadO (qg qs (mostN qs i)).l < (lds qs).getD i 0) : ((mostN qs i : Nat) : Int) = ((mostN qs (i + 1) : Nat) : Int) := by
  rw [lds_get h] at h2; rw [most_succ, if_neg h2]
theorem least_pos {qs : List Qm} {i : Nat} (h : i < qs.length) (h2 : (lds qs).getD i 0 < loadO (qg qs (leastN qs i)).l) : ((i : Nat) : Int) = ((leastN qs (i + 1) : Nat) : Int) := by
  rw [lds_get h] at h2; rw [least_succ, if_pos h2]
theorem least_neg {qs : List Qm} {i : Nat} (h : i < qs.length) (h2 : ¬ (lds qs).getD i 0 < loadO (qg qs (leastN qs i)).l) : ((leastN qs i : Nat) : Int) = ((leastN qs (i + 1) : Nat) : Int) := by
  rw [lds_get h] at h2; rw [least_succ, if_neg h2]
set_option maxRecDepth 100000 in
theorem cLen_spec {b n cap bw bg : Nat} {ad : Option Addr} (w : World) (hM : Mem w [coC b ad n cap bw bg]) : Ret Try.prog 44 #[.pointer (some ⟨b, 0, none⟩)] w (fun u w' => u = .int .i64 (n : Nat) ∧ Ext w w') := by
 refine Ret.enterM (l := [.pointer (some ⟨b, 0, none⟩)]) Try.func44 rfl Try.ntmps44 rfl (coC b ad n cap bw bg :: []) (no) hM ?_
 refine wpM.seq (wpM.region ?_)
 refine LM.as rfl ?_
 refine LM.nil (QM.sub (e' := [(0, _)]) ⟨rfl, trivial⟩ (QM.then ?_))
 refine wpM.seq ?_
 refine wpM.seq (wpM.region ?_)
 refine LM.mv rfl ?_
 refine LM.val (ov_peql (by kernel_rfl) rfl rfl) ?_
 refine LM.nil (QM.sub (e' := [(0, _), (4, _)]) au9 (QM.then ?_))
 refine wpM.condF rfl ?_
 refine wpM.skip ?_
 refine QM.then (wpM.seq (wpM.region ?_))
 refine LM.mv rfl ?_
 refine LM.val (ov_nilCheck rfl) ?_
 refine LM.val (ov_field Try.underlying124 rfl Try.sizeOf122 rfl (k := 0) rfl rfl) ?_
 refine LM.rd (om_ld Try.isAgg122 rfl rfl) ?_
 refine LM.val (ov_len Try.underlying122 rfl) ?_
 refine LM.as rfl ?_
 refine LM.nil (QM.sub (e' := [(2, _)]) ⟨rfl, trivial⟩ (QM.then ?_))
 refine wpM.ret ?_
 refine QM.leave (.inl rfl) [.tmp 2] Try.results44 rfl ?_
 intro w' hm' hc' hg'
 exact ⟨rfl, hc'⟩
set_option maxRecDepth 100000 in
theorem cQu_in {n0 b n cap bw bg : Nat} {ad : Option Addr} {bs : List Nat} {ms : Mem0} (i : Nat) (w : World) (hn : n = bs.length) (hs : Sl fP 24 1 n0 bs (.slice ad n cap) ms) (hi : i < bs.length) (hM : Mem w (coC b ad n cap bw bg :: ms)) : Ret Try.prog 54 #[.pointer (some ⟨b, 0, none⟩), .int .i64 (i : Nat)] w (fun u w' => u = .pointer (some ⟨bs.getD i default, 0, none⟩) ∧ Ext w w') := by
 refine Ret.enterM (l := [.pointer (some ⟨b, 0, none⟩), .int .i64 (i : Nat)]) Try.func54 rfl Try.ntmps54 rfl (coC b ad n cap bw bg :: (ms ++ [])) (no) (by rw [List.append_nil]; exact hM) ?_
 refine wpM.seq (wpM.region ?_)
 refine LM.as rfl ?_
 refine LM.nil (QM.sub (e' := [(0, _), (1, _)]) au9 (QM.then ?_))
 refine wpM.seq ?_
 refine wpM.seq (wpM.region ?_)
 refine LM.mv rfl ?_
 refine LM.val (ov_lss rfl rfl) ?_
 refine LM.mv rfl ?_
 refine LM.splitD (t := 7) rfl (fun h1 => ?_) (fun h1 => ?_)
 ·
  omega
 refine LM.sp 7 rfl rfl rfl (LM.mv rfl (LM.sp 7 rfl rfl rfl (LM.mv rfl (LM.sp 7 rfl rfl rfl ?_))))
 refine LM.callE (oc_call (enters_fn Try.func44 (by kernel_rfl) rfl) rfl) (fun w hm hc hg => cLen_spec w (hm.pick (coC b ad n cap bw bg :: []))) ?_
 refine LM.sp 7 rfl rfl rfl ?_
 refine LM.val (ov_geq rfl rfl) ?_
 refine LM.val (ov_pickF rfl rfl) ?_
 refine LM.nil (QM.sub (e' := [(0, _), (1, _), (12, _)]) au9 (QM.then ?_))
 refine wpM.condD rfl (fun h2 => ?_) (fun h2 => ?_)
 ·
  omega
 refine wpM.skip ?_
 refine QM.then (wpM.seq (wpM.region ?_))
 refine LM.mv rfl ?_
 refine LM.val (ov_nilCheck rfl) ?_
 refine LM.val (ov_field Try.underlying124 rfl Try.sizeOf122 rfl (k := 0) rfl rfl) ?_
 refine LM.rd (om_ld Try.isAgg122 rfl rfl) ?_
 refine LM.mv rfl ?_
 refine LM.val (ov_idxSN au6 Try.underlying122 Try.sizeOf24 rfl rfl (by omega)) ?_
 refine LM.rd (om_sl1 (by assumption) (by intro _; rfl) Try.isAgg24 rfl rfl au3 (by rfl)) ?_
 refine LM.as rfl ?_
 refine LM.nil (QM.sub (e' := [(4, _)]) ⟨rfl, trivial⟩ (QM.then ?_))
 refine wpM.ret ?_
 refine QM.leave (.inl rfl) [.tmp 4] Try.results54 rfl ?_
 intro w' hm' hc' hg'
 exact ⟨rfl, hc'⟩
set_option maxRecDepth 100000 in
theorem cOf_spec {b n cap bw bg : Nat} {ad : Option Addr} {esw : Array MapEntry} {clw : Nat} {lw : List (Int × Value)} {qs : List Qm} (a : Int) (w : World) (hes : EnsS .i64 esw clw lw) (hwh : Wh lw qs) (hM : Mem w [coC b ad n cap bw bg, (bw, .map esw clw)]) : Ret Try.prog 49 #[.pointer (some ⟨b, 0, none⟩), .int .i64 a] w (fun u w' => u = .int .i64 (ofO qs a) ∧ Ext w w') := by
 have hes1 := hes.1
 refine Ret.enterM (l := [.pointer (some ⟨b, 0, none⟩), .int .i64 a]) Try.func49 rfl Try.ntmps49 rfl (coC b ad n cap bw bg :: (bw, .map esw clw) :: []) (no) hM ?_
 refine wpM.seq (wpM.region ?_)
 refine LM.as rfl ?_
 refine LM.nil (QM.sub (e' := [(0, _), (1, _)]) au9 (QM.then ?_))
 refine wpM.seq ?_
 refine wpM.seq (wpM.region ?_)
 refine LM.mv rfl ?_
 refine LM.val (ov_pneq (by kernel_rfl) rfl rfl) ?_
 refine LM.nil (QM.sub (e' := [(0, _), (1, _), (8, _)]) au9 (QM.then ?_))
 refine wpM.condT rfl ?_
 refine wpM.seq (wpM.region ?_)
 refine LM.mv rfl ?_
 refine LM.val (ov_nilCheck rfl) ?_
 refine LM.val (ov_field Try.underlying124 rfl Try.sizeOf38 rfl (k := 1) rfl rfl) ?_
 refine LM.rd (om_ld Try.isAgg38 rfl rfl) ?_
 refine LM.mv rfl ?_
 refine LM.rd (om_lkOk Try.underlying38 Try.underlying3 Try.zeroValue3 rfl rfl (by assumption) (wh_get hwh _) (wh_has hwh _)) ?_
 refine LM.mv rfl ?_
 refine LM.val (ov_extract rfl rfl) ?_
 refine LM.val (ov_extract rfl rfl) ?_
 refine LM.as rfl (LM.as rfl ?_)
 refine LM.nil (QM.sub (e' := [(5, _), (6, _)]) au9 (QM.then (wpM.seq (wpM.region ?_))))
 refine LM.mv rfl ?_
 refine LM.nil (QM.sub (e' := [(5, _), (18, _)]) au9 (QM.then ?_))
 refine wpM.condD rfl (fun h1 => ?_) (fun h1 => ?_)
 ·
  refine wpM.seq (wpM.region ?_)
  refine LM.mv rfl (LM.as rfl ?_)
  refine LM.nil (QM.sub (e' := [(4, _)]) ⟨rfl, trivial⟩ (QM.then ?_))
  refine wpM.ret ?_
  refine QM.then_ret ?_
  refine QM.leave (.inl rfl) [.tmp 4] Try.results49 rfl ?_
  intro w' hm' hc' hg'
  refine ⟨?_, hc'⟩; unfold ofO; first | (rw [if_pos (by assumption), if_pos (by assumption)]; rfl) | (rw [if_neg (by assumption)]; rfl)
 refine wpM.skip ?_
 refine QM.then (wpM.seq (wpM.region ?_))
 refine LM.as rfl ?_
 refine LM.nil (QM.sub (e' := [(4, _)]) ⟨rfl, trivial⟩ (QM.then ?_))
 refine wpM.ret ?_
 refine QM.leave (.inl rfl) [.tmp 4] Try.results49 rfl ?_
 intro w' hm' hc' hg'
 refine ⟨?_, hc'⟩; unfold ofO; first | (rw [if_pos (by assumption), if_pos (by assumption)]; rfl) | (rw [if_neg (by assumption)]; rfl)
set_option maxRecDepth 100000 in
theorem cLoads_spec {n0 b n cap bw bg : Nat} {ad : Option Addr} {bs : List Nat} {qs : List Qm} {ms mm : Mem0} (w : World) (hn : n = qs.length) (hn4 : n ≤ 4) (hs : Sl fP 24 1 n0 bs (.slice ad n cap) ms) (hq : QqM RqM n0 bs qs mm) (hM : Mem w (coC b ad n cap bw bg :: (ms ++ mm))) : Ret Try.prog 47 #[.pointer (some ⟨b, 0, none⟩)] w (New fI 3 1 (lds qs) w) := by
 have hbl := hq.len; have hll := lds_len qs
 refine Ret.enterM (l := [.pointer (some ⟨b, 0, none⟩)]) Try.func47 rfl Try.ntmps47 rfl (coC b ad n cap bw bg :: (ms ++ (mm ++ []))) (no) (by rw [List.append_nil]; exact hM) ?_
 refine wpM.seq (wpM.region ?_)
 refine LM.as rfl ?_
 refine LM.nil (QM.sub (e' := [(0, _)]) ⟨rfl, trivial⟩ (QM.then (wpM.seq (wpM.region ?_))))
 refine LM.as rfl ?_
 refine LM.nil (QM.sub (e' := [(0, _), (3, _)]) au9 (QM.then ?_))
 refine wpM.seq ?_
 refine wpM.seq (wpM.region ?_)
 refine LM.mv rfl ?_
 refine LM.callE (oc_call (enters_fn Try.func44 (by kernel_rfl) rfl) rfl) (fun w hm hc hg => cLen_spec w (hm.pick (coC b ad n cap bw bg :: []))) ?_
 refine LM.mv rfl ?_
 refine LM.nil (QM.sub (e' := [(0, _), (3, _), (6, _), (7, _)]) au9 (QM.then ?_))
 refine wpM.block ?_
 refine wpM.loopK0 (α := Nat × Option Addr × Nat × Nat × Mem0) (fun ⟨i, ado, no, capo, mo⟩ => [(3, .slice ado no capo), (7, .int .i64 (i : Nat))]) [(0, _), (6, _)] (fun ⟨i, ado, no, capo, mo⟩ => coC b ad n cap bw bg :: (ms ++ (mm ++ (mo ++ [])))) (fun ⟨i, ado, no, capo, mo⟩ => i ≤ n ∧ no = ((lds qs).take i).length ∧ Sl fI 3 1 w.heap.size ((lds qs).take i) (.slice ado no capo) mo) (fun ⟨i, ado, no, capo, mo⟩ => n - i) ((0, none, 0, 0, [])) ⟨au2, au2, rfl, rfl, trivial⟩ au1 ⟨Nat.zero_le _, rfl, .nil _ _ _ _⟩ ?_
 rintro ⟨i, ado, no, capo, mo⟩ ⟨hi, hno, hso⟩
 change wpM _ _ _ _ _ _ _ (coC b ad n cap bw bg :: (ms ++ (mm ++ (mo ++ [])))) _ _ _
 have htl : ((lds qs).take i).length = i := (by rw [List.length_take]; omega)
 refine wpM.seq (wpM.region ?_)
 refine LM.val (ov_lss rfl rfl) ?_
 refine LM.nil (QM.sub (e' := [(0, _), (3, _), (6, _), (7, _), (8, _)]) au9 (QM.then ?_))
 refine wpM.seq ?_
 refine wpM.condD rfl (fun h1 => ?_) (fun h1 => ?_)
 ·
  refine wpM.skip ?_
  refine QM.then ?_
  refine wpM.seq ?_
  refine wpM.block ?_
  refine wpM.seq (wpM.region ?_)
  refine LM.mv rfl (LM.as rfl ?_)
  refine LM.nil (QM.sub (e' := [(0, _), (3, _), (4, _), (6, _), (7, _)]) au9 (QM.then (wpM.region ?_)))
  refine LM.mv rfl (LM.mv rfl ?_)
  refine LM.val (ov_nilCheck rfl) ?_
  refine LM.val (ov_field Try.underlying124 rfl Try.sizeOf122 rfl (k := 0) rfl rfl) ?_
  refine LM.rd (om_ld Try.isAgg122 rfl rfl) ?_
  refine LM.mv rfl ?_
  refine LM.val (ov_idxSN au6 Try.underlying122 Try.sizeOf24 rfl rfl (by omega)) ?_
  refine LM.rd (om_sl1 (by assumption) (by intro _; rfl) Try.isAgg24 rfl rfl au3 (by rfl)) ?_
  refine LM.callE (oc_call (enters_fn Try.func41 (by kernel_rfl) rfl) rfl) (fun w hm hc hg => hq.read (by omega) (hm.pick mm) (fun m hr hM => rqLoad_spec w hr hM)) ?_
  refine LM.single Try.underlying47 Try.sizeOf3 Try.zeroValue3 rfl rfl rfl rfl rfl (fun b19 hb19 => ?_)
  refine LM.app (a := ldN qs i) Try.underlying47 Try.typeInfo3 rfl rfl rfl rfl rfl rfl rfl (by assumption) (by rfl) (by intro _; rfl) (by intro _ u hu; simp [fI] at hu; (repeat (first | (rcases hu with rfl | hu) | subst hu | rfl))) (by first | exact Nat.le_refl _ | omega) au10 (by first | omega | (unfold maxLen; omega)) (by simp only [Try.t3]; omega) (fun ad20 n20 cap20 m20 hn20 hs20 hin20 => ?_)
  refine LM.as rfl ?_
  refine LM.nil (QM.sub (e' := [(0, _), (3, _), (6, _), (7, _)]) au9 ?_)
  refine QM.block_normal ?_
  refine QM.then (wpM.region ?_)
  refine LM.val (ov_add64 rfl rfl (by omega)) ?_
  refine LM.mv rfl ?_
  refine LM.nil (QM.sub (e' := [(0, _), (3, _), (6, _), (7, _)]) au9 ?_)
  refine QM.againK (i + 1, ad20, n20, cap20, m20) ⟨au2, au2, rfl, rfl, trivial⟩ au1 (fun _ h => h) ?_ ?_
  · dsimp only; rw [lds_snoc (by omega)]; exact ⟨by omega, by rw [hn20]; simp, hs20⟩
  · first | omega | (dsimp only; omega)
 refine wpM.exit ?_
 refine QM.then_exit ?_
 refine QM.then_exit ?_
 refine QM.block_hit ?_
 refine QM.then (wpM.seq (wpM.region ?_))
 refine LM.mv rfl (LM.as rfl ?_)
 refine LM.nil (QM.sub (e' := [(2, _)]) ⟨rfl, trivial⟩ (QM.then ?_))
 refine wpM.ret ?_
 refine QM.leave (.inl rfl) [.tmp 2] Try.results47 rfl ?_
 intro w' hm' hc' hg'
 have hil : i = n := (by omega); rw [hil, hn, ← hll, List.take_length] at hso; exact ⟨hc', mo, hso, hm'.pick mo⟩
set_option maxRecDepth 100000 in
theorem cEnds_spec {n0 b n cap bw bg : Nat} {ad : Option Addr} {bs : List Nat} {qs : List Qm} {ms mm : Mem0} (w : World) (hw : CWf qs) (hn : n = qs.length) (hs : Sl fP 24 1 n0 bs (.slice ad n cap) ms) (hq : QqM RqM n0 bs qs mm) (hM : Mem w (coC b ad n cap bw bg :: (ms ++ mm))) : Ret Try.prog 83 #[.pointer (some ⟨b, 0, none⟩)] w (fun u w' => u = .tuple #[.int .i64 (mo qs : Nat), .int .i64 (le qs : Nat)] ∧ Ext w w') := by
 have hbl := hq.len; have hll := lds_len qs; have hlen := hw.len
 refine Ret.enterM (l := [.pointer (some ⟨b, 0, none⟩)]) Try.func83 rfl Try.ntmps83 rfl (coC b ad n cap bw bg :: (ms ++ (mm ++ []))) (no) (by rw [List.append_nil]; exact hM) ?_
 refine wpM.seq (wpM.region ?_)
 refine LM.as rfl (LM.as rfl ?_)
 refine LM.nil (QM.sub (e' := [(0, _)]) ⟨rfl, trivial⟩ (QM.then (wpM.seq (wpM.region ?_))))
 refine LM.as rfl (LM.as rfl ?_)
 refine LM.nil (QM.sub (e' := [(0, _), (4, _), (5, _)]) au9 (QM.then ?_))
 refine wpM.seq ?_
 refine wpM.seq (wpM.region ?_)
 refine LM.mv rfl ?_
 refine LM.cS (oc_call (enters_fn Try.func47 (by kernel_rfl) rfl) rfl) (fun w hm hc hg => cLoads_spec w hn (by omega) hs hq (by have h9 := hm.pick (coC b ad n cap bw bg :: (ms ++ (mm ++ []))); rw [List.append_nil] at h9; exact h9)) (fun ad9 n9 cap9 m9 hn9 hs9 => ?_)
 refine LM.val (ov_len Try.underlying47 rfl) ?_
 refine LM.mv rfl ?_
 refine LM.nil (QM.sub (e' := [(0, _), (4, _), (5, _), (9, _), (10, _), (11, _)]) au9 (QM.then ?_))
 refine wpM.block ?_
 refine wpM.loopK0 (α := Nat) (fun i => [(4, .int .i64 (mostN qs i : Nat)), (5, .int .i64 (leastN qs i : Nat)), (11, .int .i64 (i : Nat))]) [(0, _), (9, _), (10, _)] (fun i => coC b ad n cap bw bg :: (ms ++ (mm ++ (m9 ++ [])))) (fun i => i ≤ qs.length) (fun i => qs.length - i) (0) ⟨(by first | exact lk rfl (by rw [most_zero]; rfl) | exact lk rfl (congrArg (Value.int .i64) (most_pos (by omega) (by assumption))) | exact lk rfl (congrArg (Value.int .i64) (most_neg (by omega) (by assumption))) | rfl), (by first | exact lk rfl (by rw [least_zero]; rfl) | exact lk rfl (congrArg (Value.int .i64) (least_pos (by omega) (by assumption))) | exact lk rfl (congrArg (Value.int .i64) (least_neg (by omega) (by assumption))) | rfl), au2, rfl, rfl, rfl, trivial⟩ au1 (Nat.zero_le _) ?_
 rintro i hi
 change wpM _ _ _ _ _ _ _ (coC b ad n cap bw bg :: (ms ++ (mm ++ (m9 ++ [])))) _ _ _
 have hmo := most_lt hlen.1 i hi; have hle := least_lt hlen.1 i hi
 refine wpM.seq (wpM.region ?_)
 refine LM.val (ov_lss rfl rfl) ?_
 refine LM.nil (QM.sub (e' := [(0, _), (4, _), (5, _), (9, _), (10, _), (11, _), (12, _)]) au9 (QM.then ?_))
 refine wpM.seq ?_
 refine wpM.condD rfl (fun h1 => ?_) (fun h1 => ?_)
 ·
  refine wpM.skip ?_
  refine QM.then ?_
  refine wpM.seq ?_
  refine wpM.block ?_
  refine wpM.seq (wpM.region ?_)
  refine LM.mv rfl ?_
  refine LM.val (ov_idxSN au6 Try.underlying47 Try.sizeOf3 rfl rfl (by omega)) ?_
  refine LM.rd (om_sl1 (by assumption) (by intro _; rfl) Try.isAgg3 rfl rfl (by exact getq 0 au4) (by rfl)) ?_
  refine LM.as rfl (LM.as rfl ?_)
  refine LM.nil (QM.sub (e' := [(0, _), (4, _), (5, _), (6, _), (7, _), (9, _), (10, _), (11, _)]) au9 (QM.then ?_))
  refine wpM.seq ?_
  refine wpM.seq (wpM.region ?_)
  refine LM.mv rfl (LM.mv rfl ?_)
  refine LM.val (ov_nilCheck rfl) ?_
  refine LM.val (ov_field Try.underlying124 rfl Try.sizeOf122 rfl (k := 0) rfl rfl) ?_
  refine LM.rd (om_ld Try.isAgg122 rfl rfl) ?_
  refine LM.mv rfl ?_
  refine LM.val (ov_idxSN au6 Try.underlying122 Try.sizeOf24 rfl rfl (by omega)) ?_
  refine LM.rd (om_sl1 (by assumption) (by intro _; rfl) Try.isAgg24 rfl rfl au3 (by rfl)) ?_
  refine LM.callE (oc_call (enters_fn Try.func41 (by kernel_rfl) rfl) rfl) (fun w hm hc hg => hq.read hmo (hm.pick mm) (fun m hr hM => rqLoad_spec w hr hM)) ?_
  refine LM.val (ov_gtr rfl rfl) ?_
  refine LM.nil (QM.sub (e' := [(0, _), (4, _), (5, _), (6, _), (7, _), (9, _), (10, _), (11, _), (25, _)]) au9 (QM.then ?_))
  refine wpM.condD rfl (fun h2 => ?_) (fun h2 => ?_)
  ·
   refine wpM.region ?_
   refine LM.mv rfl (LM.as rfl ?_)
   refine LM.nil (QM.sub (e' := [(0, _), (4, _), (5, _), (6, _), (7, _), (9, _), (10, _), (11, _)]) au9 (QM.then (wpM.seq (wpM.region ?_))))
   refine LM.mv rfl (LM.mv rfl ?_)
   refine LM.val (ov_nilCheck rfl) ?_
   refine LM.val (ov_field Try.underlying124 rfl Try.sizeOf122 rfl (k := 0) rfl rfl) ?_
   refine LM.rd (om_ld Try.isAgg122 rfl rfl) ?_
   refine LM.mv rfl ?_
   refine LM.val (ov_idxSN au6 Try.underlying122 Try.sizeOf24 rfl rfl (by omega)) ?_
   refine LM.rd (om_sl1 (by assumption) (by intro _; rfl) Try.isAgg24 rfl rfl au3 (by rfl)) ?_
   refine LM.callE (oc_call (enters_fn Try.func41 (by kernel_rfl) rfl) rfl) (fun w hm hc hg => hq.read hle (hm.pick mm) (fun m hr hM => rqLoad_spec w hr hM)) ?_
   refine LM.val (ov_lss rfl rfl) ?_
   refine LM.nil (QM.sub (e' := [(0, _), (4, _), (5, _), (6, _), (9, _), (10, _), (11, _), (36, _)]) au9 (QM.then ?_))
   refine wpM.condD rfl (fun h3 => ?_) (fun h3 => ?_)
   ·
    refine wpM.region ?_
    refine LM.mv rfl (LM.as rfl ?_)
    refine LM.nil (QM.sub (e' := [(0, _), (4, _), (5, _), (9, _), (10, _), (11, _)]) au9 ?_)
    refine QM.block_normal ?_
    refine QM.then (wpM.region ?_)
    refine LM.val (ov_add64 rfl rfl (by omega)) ?_
    refine LM.mv rfl ?_
    refine LM.nil (QM.sub (e' := [(0, _), (4, _), (5, _), (9, _), (10, _), (11, _)]) au9 ?_)
    refine QM.againK (i + 1) ⟨(by first | exact lk rfl (by rw [most_zero]; rfl) | exact lk rfl (congrArg (Value.int .i64) (most_pos (by omega) (by assumption))) | exact lk rfl (congrArg (Value.int .i64) (most_neg (by omega) (by assumption))) | rfl), (by first | exact lk rfl (by rw [least_zero]; rfl) | exact lk rfl (congrArg (Value.int .i64) (least_pos (by omega) (by assumption))) | exact lk rfl (congrArg (Value.int .i64) (least_neg (by omega) (by assumption))) | rfl), au2, rfl, rfl, rfl, trivial⟩ au1 (fun _ h => h) ?_ ?_
    · omega
    · omega
   refine wpM.skip ?_
   refine QM.block_normal ?_
   refine QM.then (wpM.region ?_)
   refine LM.val (ov_add64 rfl rfl (by omega)) ?_
   refine LM.mv rfl ?_
   refine LM.nil (QM.sub (e' := [(0, _), (4, _), (5, _), (9, _), (10, _), (11, _)]) au9 ?_)
   refine QM.againK (i + 1) ⟨(by first | exact lk rfl (by rw [most_zero]; rfl) | exact lk rfl (congrArg (Value.int .i64) (most_pos (by omega) (by assumption))) | exact lk rfl (congrArg (Value.int .i64) (most_neg (by omega) (by assumption))) | rfl), (by first | exact lk rfl (by rw [least_zero]; rfl) | exact lk rfl (congrArg (Value.int .i64) (least_pos (by omega) (by assumption))) | exact lk rfl (congrArg (Value.int .i64) (least_neg (by omega) (by assumption))) | rfl), au2, rfl, rfl, rfl, trivial⟩ au1 (fun _ h => h) ?_ ?_
   · omega
   · omega
  refine wpM.skip ?_
  refine QM.then (wpM.seq (wpM.region ?_))
  refine LM.mv rfl (LM.mv rfl ?_)
  refine LM.val (ov_nilCheck rfl) ?_
  refine LM.val (ov_field Try.underlying124 rfl Try.sizeOf122 rfl (k := 0) rfl rfl) ?_
  refine LM.rd (om_ld Try.isAgg122 rfl rfl) ?_
  refine LM.mv rfl ?_
  refine LM.val (ov_idxSN au6 Try.underlying122 Try.sizeOf24 rfl rfl (by omega)) ?_
  refine LM.rd (om_sl1 (by assumption) (by intro _; rfl) Try.isAgg24 rfl rfl au3 (by rfl)) ?_
  refine LM.callE (oc_call (enters_fn Try.func41 (by kernel_rfl) rfl) rfl) (fun w hm hc hg => hq.read hle (hm.pick mm) (fun m hr hM => rqLoad_spec w hr hM)) ?_
  refine LM.val (ov_lss rfl rfl) ?_
  refine LM.nil (QM.sub (e' := [(0, _), (4, _), (5, _), (6, _), (9, _), (10, _), (11, _), (36, _)]) au9 (QM.then ?_))
  refine wpM.condD rfl (fun h4 => ?_) (fun h4 => ?_)
  ·
   refine wpM.region ?_
   refine LM.mv rfl (LM.as rfl ?_)
   refine LM.nil (QM.sub (e' := [(0, _), (4, _), (5, _), (9, _), (10, _), (11, _)]) au9 ?_)
   refine QM.block_normal ?_
   refine QM.then (wpM.region ?_)
   refine LM.val (ov_add64 rfl rfl (by omega)) ?_
   refine LM.mv rfl ?_
   refine LM.nil (QM.sub (e' := [(0, _), (4, _), (5, _), (9, _), (10, _), (11, _)]) au9 ?_)
   refine QM.againK (i + 1) ⟨(by first | exact lk rfl (by rw [most_zero]; rfl) | exact lk rfl (congrArg (Value.int .i64) (most_pos (by omega) (by assumption))) | exact lk rfl (congrArg (Value.int .i64) (most_neg (by omega) (by assumption))) | rfl), (by first | exact lk rfl (by rw [least_zero]; rfl) | exact lk rfl (congrArg (Value.int .i64) (least_pos (by omega) (by assumption))) | exact lk rfl (congrArg (Value.int .i64) (least_neg (by omega) (by assumption))) | rfl), au2, rfl, rfl, rfl, trivial⟩ au1 (fun _ h => h) ?_ ?_
   · omega
   · omega
  refine wpM.skip ?_
  refine QM.block_normal ?_
  refine QM.then (wpM.region ?_)
  refine LM.val (ov_add64 rfl rfl (by omega)) ?_
  refine LM.mv rfl ?_
  refine LM.nil (QM.sub (e' := [(0, _), (4, _), (5, _), (9, _), (10, _), (11, _)]) au9 ?_)
  refine QM.againK (i + 1) ⟨(by first | exact lk rfl (by rw [most_zero]; rfl) | exact lk rfl (congrArg (Value.int .i64) (most_pos (by omega) (by assumption))) | exact lk rfl (congrArg (Value.int .i64) (most_neg (by omega) (by assumption))) | rfl), (by first | exact lk rfl (by rw [least_zero]; rfl) | exact lk rfl (congrArg (Value.int .i64) (least_pos (by omega) (by assumption))) | exact lk rfl (congrArg (Value.int .i64) (least_neg (by omega) (by assumption))) | rfl), au2, rfl, rfl, rfl, trivial⟩ au1 (fun _ h => h) ?_ ?_
  · omega
  · omega
 refine wpM.exit ?_
 refine QM.then_exit ?_
 refine QM.then_exit ?_
 refine QM.block_hit ?_
 refine QM.then (wpM.seq (wpM.region ?_))
 refine LM.mv rfl (LM.mv rfl (LM.as rfl (LM.as rfl ?_)))
 refine LM.nil (QM.sub (e' := [(2, _), (3, _)]) au9 (QM.then ?_))
 refine wpM.ret ?_
 refine QM.leave (.inl rfl) [.tmp 2, .tmp 3] Try.results83 rfl ?_
 intro w' hm' hc' hg'
 have hil : i = qs.length := (by omega); subst hil; exact ⟨rfl, hc'⟩
end Go.Eng
namespace Go.Eng
open Go Go.Proofs Go.RowKit
theorem inM_2' {b : Nat} {o : Obj} {p p' : Nat × Obj} {m : Mem0} : inM (p :: p' :: (b, o) :: m) b := ⟨_, List.mem_cons_of_mem _ (List.mem_cons_of_mem _ (List.mem_cons_self ..)), rfl⟩
theorem inM_mm {a b c : Nat × Obj} {ms mm : Mem0} : ∀ p ∈ mm, inM (a :: b :: c :: (ms ++ mm)) p.1 := fun p hp => ⟨p, List.mem_cons_of_mem _ (List.mem_cons_of_mem _ (List.mem_cons_of_mem _ (List.mem_append_right _ hp))), rfl⟩
theorem getD_some {l : List (Int × Value)} {a u : Int} (h : aget l a = some (.int .i64 u)) : (aget l a).getD (.int .i64 0) = .int .i64 u := by rw [h]; rfl
theorem crm_leaf {n0 b n cap bw bg clw clw' clg clg' : Nat} {ad : Option Addr} {esw esw' esg esg' : Array MapEntry} {lw lg : List (Int × Value)} {ms mm mm' M : Mem0} {bs : List Nat} {qs' : List Qm} {u0 : Value} {w w' : World} (hw' : CWf qs') (hn : n = qs'.length) (hs : Sl fP 24 1 n0 bs (.slice ad n cap) ms) (hq' : QqM RqM n0 bs qs' mm') (hew : EnsS .i64 esw' clw' lw) (heg : EnsS .i64 esg' clg' lg) (hwh : Wh lw qs') (hwg : Wg lg qs') (hb : n0 ≤ b) (hbw : n0 ≤ bw) (hbg : n0 ≤ bg)
    (hm : Mem w' M) (hsub : SubM M (coC b ad n cap bw bg :: (bw, .map esw' clw') :: (bg, .map esg' clg') :: (ms ++ (mm' ++ [])))) (hc : Chg (inM (coC b ad n cap bw bg :: (bw, .map esw clw) :: (bg, .map esg clg) :: (ms ++ mm))) w w') (hin : inn mm w.heap.size mm') :
    Upd (coC b ad n cap bw bg :: (bw, .map esw clw) :: (bg, .map esg clg) :: (ms ++ mm)) (fun u m' => u = u0 ∧ CrM n0 b qs' m') w u0 w' := by
  rw [List.append_nil] at hsub
  refine ⟨hc, _, ⟨rfl, hw', ad, n, cap, bw, bg, esw', clw', esg', clg', lw, lg, ms, mm', bs, rfl, hn, hs, hq', hew, heg, hwh, hwg, hb, hbw, hbg⟩, hsub.mem w' hm, fun p hp => ?_⟩
  simp only [List.mem_cons, List.mem_append] at hp
  rcases hp with rfl | rfl | rfl | hp | hp
  · exact .inr ⟨_, by simp only [List.mem_cons, true_or], rfl⟩
  · exact .inr ⟨(bw, .map esw clw), by simp only [List.mem_cons, true_or, or_true], rfl⟩
  · exact .inr ⟨(bg, .map esg clg), by simp only [List.mem_cons, true_or, or_true], rfl⟩
  · exact .inr ⟨p, by simp only [List.mem_cons, List.mem_append, hp, true_or, or_true], rfl⟩
  · rcases hin p hp with q | ⟨q, hq, e⟩
    · exact .inl q
    · exact .inr ⟨q, by simp only [List.mem_cons, List.mem_append, hq, or_true], e⟩
def newQs (k g : Int) : List Qm := List.replicate (bringO k 1 4).toNat (newQ g)
theorem qg_rep {n i : Nat} {x : Qm} (h : i < n) : qg (List.replicate n x) i = x := by unfold qg; rw [List.getD_eq_getElem?_getD, List.getElem?_replicate, if_pos h]; rfl
theorem newQs_len (k g : Int) : (newQs k g).length = (bringO k 1 4).toNat := List.length_replicate
theorem new_has (g a : Int) : ¬ hasK (newQ g) a := by unfold hasK newQ; simp
theorem newQs_no (k g a : Int) : ¬ ofN (newQs k g) a < (newQs k g).length := of_none (fun j hj => by rw [newQs_len] at hj; rw [newQs, qg_rep hj]; exact new_has g a)
theorem newQs_all (k g : Int) : allO (newQs k g) = 0 := by
  have : ∀ n, allO (List.replicate n (newQ g)) = 0 := fun n => by
    induction n with
    | zero => rfl
    | succ n ih => show (newQ g).l.length + allO (List.replicate n (newQ g)) = 0; rw [ih]; rfl
  exact this _
theorem newQs_wf (k g : Int) : CWf (newQs k g) := by
  have hb := bring_in (n := k) (lo := 1) (hi := 4) (by decide)
  refine ⟨by rw [newQs_len]; omega, fun i hi => ?_, fun i j a hi hj h1 h2 => ?_, by rw [newQs_all]; omega⟩
  · rw [newQs_len] at hi; rw [newQs, qg_rep hi]; exact new_wf g
  · rw [newQs_len] at hi; rw [newQs, qg_rep hi] at h1; exact absurd h1 (new_has g a)
theorem newQs_wh (k g : Int) : Wh [] (newQs k g) := ⟨List.nodup_nil, (newQs_all k g).symm, fun a => by rw [if_neg (newQs_no k g a)]; rfl⟩
theorem newQs_wg (k g : Int) : Wg [] (newQs k g) := ⟨List.nodup_nil, fun a ha => absurd ha (newQs_no k g a)⟩
theorem rep_snoc (n : Nat) (x : Qm) : List.replicate n x ++ [x] = List.replicate (n + 1) x := (List.replicate_succ' ..).symm
def CrN (k g : Int) (n0 : Nat) (v : Value) (m : Mem0) : Prop := ∃ b, v = .pointer (some ⟨b, 0, none⟩) ∧ CrM n0 b (newQs k g) m
theorem CrN.mono {k g : Int} : ∀ (n n' : Nat) (v : Value) (m : Mem0), n' ≤ n → CrN k g n v m → CrN k g n' v m := fun n n' v m hn ⟨b, h1, h⟩ => ⟨b, h1, h.mono hn⟩
theorem crn_leaf {k g : Int} {b n cap bw bg : Nat} {ad : Option Addr} {ms mm M : Mem0} {bs : List Nat} {w w' : World} (hn : n = (newQs k g).length) (hs : Sl fP 24 1 w.heap.size bs (.slice ad n cap) ms) (hq : QqM RqM w.heap.size bs (newQs k g) mm) (hb : w.heap.size ≤ b) (hbw : w.heap.size ≤ bw) (hbg : w.heap.size ≤ bg)
    (hm : Mem w' M) (hsub : SubM M (coC b ad n cap bw bg :: (bw, .map #[] 0) :: (bg, .map #[] 0) :: (ms ++ (mm ++ [])))) (hc : Ext w w') : Ext w w' ∧ ∃ m, CrN k g w.heap.size (.pointer (some ⟨b, 0, none⟩)) m ∧ Mem w' m ∧ ∀ p ∈ m, w.heap.size ≤ p.1 := by
  rw [List.append_nil] at hsub
  have h : CrM w.heap.size b (newQs k g) (coC b ad n cap bw bg :: (bw, .map #[] 0) :: (bg, .map #[] 0) :: (ms ++ mm)) := ⟨newQs_wf k g, ad, n, cap, bw, bg, #[], 0, #[], 0, [], [], ms, mm, bs, rfl, hn, hs, hq, ensS_nil _, ensS_nil _, newQs_wh k g, newQs_wg k g, hb, hbw, hbg⟩
  exact ⟨hc, _, ⟨b, rfl, h⟩, hsub.mem w' hm, h.ge⟩
set_option maxRecDepth 100000 in
theorem cNew_spec (k g : Int) (w : World) : Ret Try.prog 43 #[.int .i64 k, .int .i64 g] w (fun v w' => Ext w w' ∧ ∃ m, CrN k g w.heap.size v m ∧ Mem w' m ∧ ∀ p ∈ m, w.heap.size ≤ p.1) := by
 have hbr := bring_in (n := k) (lo := 1) (hi := 4) (by decide); have hnl := newQs_len k g
 refine Ret.enterM (l := [.int .i64 k, .int .i64 g]) Try.func43 rfl Try.ntmps43 rfl ([]) (no) (Mem.nil w) ?_
 refine wpM.seq (wpM.region ?_)
 refine LM.as rfl ?_
 refine LM.nil (QM.sub (e' := [(0, _), (1, _)]) au9 (QM.then (wpM.seq (wpM.region ?_))))
 refine LM.makeMap rfl (fun b6 hb6 => ?_)
 refine LM.makeMap rfl (fun b7 hb7 => ?_)
 refine LM.val (ov_build (cs := #[_, _, _]) rfl (by first | rfl | kernel_rfl)) ?_
 refine LM.box rfl rfl (fun b9 hb9 => ?_)
 refine LM.as rfl ?_
 refine LM.nil (QM.sub (e' := [(0, _), (1, _), (5, _)]) au9 (QM.then ?_))
 refine wpM.seq ?_
 refine wpM.seq (wpM.region ?_)
 refine LM.mv rfl ?_
 refine LM.val (ov_max rfl rfl) ?_
 refine LM.val (ov_min rfl rfl) ?_
 try rw [bring_eq (by decide)]
 refine LM.mv rfl ?_
 refine LM.nil (QM.sub (e' := [(1, _), (5, _), (12, _), (13, _)]) au9 (QM.then ?_))
 refine wpM.block ?_
 refine wpM.loopK0 (α := Nat × Option Addr × Nat × Nat × List Nat × Mem0 × Mem0) (fun ⟨i, ado, no, capo, bs, ms, mm⟩ => [(13, .int .i64 (i : Nat))]) [(1, _), (5, _), (12, _)] (fun ⟨i, ado, no, capo, bs, ms, mm⟩ => coC b9 ado no capo b6 b7 :: (b6, .map #[] 0) :: (b7, .map #[] 0) :: (ms ++ (mm ++ []))) (fun ⟨i, ado, no, capo, bs, ms, mm⟩ => i ≤ (bringO k 1 4).toNat ∧ no = i ∧ Sl fP 24 1 w.heap.size bs (.slice ado no capo) ms ∧ QqM RqM w.heap.size bs (List.replicate i (newQ g)) mm ∧ bs.length = i) (fun ⟨i, ado, no, capo, bs, ms, mm⟩ => (bringO k 1 4).toNat - i) ((0, none, 0, 0, [], [], [])) ⟨au2, rfl, rfl, rfl, trivial⟩ au1 ⟨Nat.zero_le _, rfl, .nil _ _ _ _, QqM.nil, rfl⟩ ?_
 rintro ⟨i, ado, no, capo, bs, ms, mm⟩ ⟨hi, hno, hs, hq, hbl⟩
 change wpM _ _ _ _ _ _ _ (coC b9 ado no capo b6 b7 :: (b6, .map #[] 0) :: (b7, .map #[] 0) :: (ms ++ (mm ++ []))) _ _ _
 refine wpM.seq (wpM.region ?_)
 refine LM.val (ov_lss rfl rfl) ?_
 refine LM.nil (QM.sub (e' := [(1, _), (5, _), (12, _), (13, _), (14, _)]) au9 (QM.then ?_))
 refine wpM.seq ?_
 refine wpM.condD rfl (fun h1 => ?_) (fun h1 => ?_)
 ·
  refine wpM.skip ?_
  refine QM.then ?_
  refine wpM.seq ?_
  refine wpM.block ?_
  refine wpM.keep (coC b9 ado no capo b6 b7 :: []) (fun _ => True) (.one 0 0 (.one 1 0 (.one 2 0 (.one 3 0 (.one 4 1 (.one 5 0 (.one 6 2 (.one 7 2 (.one 8 2 (.one 9 0 (.one 10 0 (.last 11)))))))))))) (by kernel_rfl) (by kernel_rfl) au1 (fun _ _ => trivial) ?_
  refine KD.val rfl rfl (ov_move rfl) ?_
  refine KD.val rfl rfl (ov_move rfl) ?_
  refine KD.val rfl rfl (ov_nilCheck rfl) ?_
  refine KD.val rfl rfl (ov_field Try.underlying124 rfl Try.sizeOf122 rfl (k := 0) rfl rfl) ?_
  refine KD.rd rfl rfl (om_ld Try.isAgg122 rfl rfl) ?_
  refine KD.val rfl rfl (ov_move rfl) ?_
  refine KD.one rfl ?_
  refine LM.callT (oc_call (enters_fn Try.func12 (by kernel_rfl) rfl) rfl) RqN.mono (fun w hm hc hg => rqnew_spec g w) ?_
  rintro u21 m21 ⟨bq, rfl, h21⟩ hge21
  refine LM.nil ?_
  refine QM.one au1 (fun _ _ => trivial) ?_
  refine KD.one rfl ?_
  refine LM.single Try.underlying122 Try.sizeOf24 Try.zeroValue24 rfl rfl rfl rfl rfl (fun b22 hb22 => ?_)
  refine LM.nil ?_
  refine QM.one au1 (fun _ _ => trivial) ?_
  refine KD.one rfl ?_
  refine LM.app (a := bq) Try.underlying122 Try.typeInfo24 rfl rfl rfl rfl rfl rfl rfl (by assumption) (by rfl) (by intro _; rfl) (by intro _ u hu; simp [fP] at hu; (repeat (first | (rcases hu with rfl | hu) | subst hu | rfl))) (by first | exact Nat.le_refl _ | omega) au10 (by first | omega | (unfold maxLen; omega)) (by simp only [Try.t24]; omega) (fun ad23 n23 cap23 m23 hn23 hs23 hin23 => ?_)
  refine LM.nil ?_
  refine QM.one au1 (fun _ _ => trivial) ?_
  refine KD.val rfl rfl (ov_nilCheck rfl) ?_
  refine KD.val rfl rfl (ov_field Try.underlying124 rfl Try.sizeOf122 rfl (k := 0) rfl rfl) ?_
  refine KD.last rfl ?_
  refine LM.st Try.sizeOf122 rfl rfl rfl au5 rfl (fun hlt => by first | exact inM_0 | exact inM_1 | exact inM_2' | exact absurd hlt (by omega)) ?_
  refine LM.mem (SubM.mem (M' := coC b9 ad23 n23 cap23 b6 b7 :: (b6, .map #[] 0) :: (b7, .map #[] 0) :: (m23 ++ ((mm ++ m21) ++ []))) au1) ?_
  refine LM.nil ?_
  refine QM.qn ?_
  refine QM.sub (e' := [(1, _), (5, _), (12, _), (13, _)]) au9 ?_
  refine QM.block_normal ?_
  refine QM.then (wpM.region ?_)
  refine LM.val (ov_add64 rfl rfl (by omega)) ?_
  try rw [bring_eq (by decide)]
  refine LM.mv rfl ?_
  refine LM.nil (QM.sub (e' := [(1, _), (5, _), (12, _), (13, _)]) au9 ?_)
  refine QM.againK (i + 1, ad23, n23, cap23, bs ++ [bq], m23, mm ++ m21) ⟨au2, rfl, rfl, rfl, trivial⟩ au1 (fun _ h => h) ?_ ?_
  · exact ⟨by omega, by omega, hs23, (by rw [← rep_snoc]; exact hq.snoc h21), by simp [hbl]⟩
  · first | omega | (dsimp only; omega)
 refine wpM.exit ?_
 refine QM.then_exit ?_
 refine QM.then_exit ?_
 refine QM.block_hit ?_
 refine QM.then (wpM.seq (wpM.region ?_))
 refine LM.mv rfl (LM.as rfl ?_)
 refine LM.nil (QM.sub (e' := [(4, _)]) ⟨rfl, trivial⟩ (QM.then ?_))
 refine wpM.ret ?_
 refine QM.leave (.inl rfl) [.tmp 4] Try.results43 rfl ?_
 intro w' hm' hc' hg'
 have hik : no = (newQs k g).length := (by omega); exact crn_leaf hik hs (by rw [newQs, ← newQs_len k g, ← hik, hno]; exact hq) hb9 hb6 hb7 hm' (by (repeat' (first | exact SubM.nil _ | refine SubM.cons (by rfl) ?_ | refine SubM.app ?_))) hc'
theorem addE0 {x : Qm} {a : Int} (hE : addE x a = 0) (v : BitVec 64) (w : Int) : addX x a v w = addQ x a v w ∧ addV x a v w = plcO x v (bringO w 1 4096) := ⟨if_pos hE, if_pos hE⟩
set_option maxRecDepth 100000 in
theorem cAdd_in {n0 b : Nat} {qs : List Qm} {m : Mem0} (i : Nat) (a : Int) (v : BitVec 64) (wt : Int) (w : World) (h : CrM n0 b qs m) (hi : i < qs.length) (hn0 : n0 ≤ w.heap.size) (hM : Mem w m) : Ret Try.prog 45 #[.pointer (some ⟨b, 0, none⟩), .int .i64 (i : Nat), .int .i64 a, U v, .int .i64 wt] w (Upd m (fun u m' => u = .tuple #[U (cAddV qs i a v wt), .int .i64 (cAddE qs i a)] ∧ CrM n0 b (cAddX qs i a v wt) m') w) := by
 obtain ⟨hw, ad, n, cap, bw, bg, esw, clw, esg, clg, lw, lg, ms, mm, bs, rfl, hn, hs, hq, hew, heg, hwh, hwg, hb, hbw, hbg⟩ := h; have hbl := hq.len; have hew1 := hew.1; have hcn := hwh.2.1; have hcn0 : ¬ ((i : Int) < 0 ∨ (qs.length : Int) ≤ i) := by omega
 refine Ret.enterM (l := [.pointer (some ⟨b, 0, none⟩), .int .i64 (i : Nat), .int .i64 a, U v, .int .i64 wt]) Try.func45 rfl Try.ntmps45 rfl (coC b ad n cap bw bg :: (bw, .map esw clw) :: (bg, .map esg clg) :: (ms ++ (mm ++ []))) ((inM (coC b ad n cap bw bg :: (bw, .map esw clw) :: (bg, .map esg clg) :: (ms ++ mm)))) (by rw [List.append_nil]; exact hM) ?_
 refine wpM.seq (wpM.region ?_)
 refine LM.as rfl (LM.as rfl ?_)
 refine LM.nil (QM.sub (e' := [(0, _), (1, _), (2, _), (3, _), (4, _)]) au9 (QM.then (wpM.seq (wpM.region ?_))))
 refine LM.mv rfl (LM.mv rfl ?_)
 refine LM.callE (oc_call (enters_fn Try.func54 (by kernel_rfl) rfl) rfl) (fun w hm hc hg => cQu_in i w (by omega) hs (by omega) (by have h9 := hm.pick (coC b ad n cap bw bg :: (ms ++ [])); rw [List.append_nil] at h9; exact h9)) ?_
 refine LM.as rfl ?_
 refine LM.nil (QM.sub (e' := [(0, _), (1, _), (2, _), (3, _), (4, _), (12, _)]) au9 (QM.then ?_))
 refine wpM.seq ?_
 refine wpM.block ?_
 refine wpM.seq (wpM.region ?_)
 refine LM.mv rfl ?_
 refine LM.val (ov_peql (by kernel_rfl) rfl rfl) ?_
 refine LM.mv rfl (LM.sp 20 rfl rfl rfl (LM.mv rfl (LM.sp 20 rfl rfl rfl ?_)))
 refine LM.val (ov_lss rfl rfl) ?_
 refine LM.val (ov_pickF rfl rfl) ?_
 refine LM.as rfl ?_
 refine LM.nil (QM.sub (e' := [(0, _), (1, _), (2, _), (3, _), (4, _), (12, _), (17, _)]) au9 (QM.then ?_))
 refine wpM.condD rfl (fun h1 => ?_) (fun h1 => ?_)
 ·
  have hE : cAddE qs i a = 1 := if_pos (by omega)
  refine wpM.seq (wpM.region ?_)
  refine LM.as rfl (LM.as rfl ?_)
  refine LM.nil (QM.sub (e' := [(10, _), (11, _)]) au9 (QM.then ?_))
  refine wpM.ret ?_
  refine QM.block_ret ?_
  refine QM.then_ret ?_
  refine QM.leave (.inl rfl) [.tmp 10, .tmp 11] Try.results45 rfl ?_
  intro w' hm' hc' hg'
  rw [show cAddV qs i a v wt = 0#64 from if_neg (by rw [hE]; decide), hE, show cAddX qs i a v wt = qs from if_neg (by rw [hE]; decide)]; exact crm_leaf hw hn hs hq hew heg hwh hwg hb hbw hbg hm' (by (repeat' (first | exact SubM.nil _ | refine SubM.cons (by rfl) ?_ | refine SubM.app ?_))) hc' (inn_refl _ _)
 refine wpM.seq (wpM.region ?_)
 refine LM.mv rfl (LM.mv rfl ?_)
 refine LM.callE (oc_call (enters_fn Try.func49 (by kernel_rfl) rfl) rfl) (fun w hm hc hg => cOf_spec a w hew hwh (hm.pick (coC b ad n cap bw bg :: (bw, .map esw clw) :: []))) ?_
 refine LM.val (ov_geq rfl rfl) ?_
 refine LM.as rfl ?_
 refine LM.nil (QM.sub (e' := [(0, _), (1, _), (2, _), (3, _), (4, _), (12, _), (24, _)]) au9 (QM.then ?_))
 refine wpM.condD rfl (fun h2 => ?_) (fun h2 => ?_)
 ·
  have hof : ofN qs a < qs.length := (by unfold ofO at h2; split at h2 <;> omega); have hE : cAddE qs i a = 12 := (by unfold cAddE; rw [if_neg (by omega), if_pos hof])
  refine wpM.seq (wpM.region ?_)
  refine LM.as rfl (LM.as rfl ?_)
  refine LM.nil (QM.sub (e' := [(10, _), (11, _)]) au9 (QM.then ?_))
  refine wpM.ret ?_
  refine QM.block_ret ?_
  refine QM.then_ret ?_
  refine QM.leave (.inl rfl) [.tmp 10, .tmp 11] Try.results45 rfl ?_
  intro w' hm' hc' hg'
  rw [show cAddV qs i a v wt = 0#64 from if_neg (by rw [hE]; decide), hE, show cAddX qs i a v wt = qs from if_neg (by rw [hE]; decide)]; exact crm_leaf hw hn hs hq hew heg hwh hwg hb hbw hbg hm' (by (repeat' (first | exact SubM.nil _ | refine SubM.cons (by rfl) ?_ | refine SubM.app ?_))) hc' (inn_refl _ _)
 have hof : ¬ ofN qs a < qs.length := (by unfold ofO at h2; split at h2 <;> omega)
 refine wpM.seq (wpM.region ?_)
 refine LM.mv rfl ?_
 refine LM.val (ov_nilCheck rfl) ?_
 refine LM.val (ov_field Try.underlying124 rfl Try.sizeOf38 rfl (k := 1) rfl rfl) ?_
 refine LM.rd (om_ld Try.isAgg38 rfl rfl) ?_
 refine LM.rd (om_mlen Try.underlying38 rfl (by assumption) rfl) ?_
 refine LM.val (ov_geq rfl rfl) ?_
 refine LM.as rfl ?_
 refine LM.nil (QM.sub (e' := [(0, _), (1, _), (2, _), (3, _), (4, _), (12, _), (29, _)]) au9 (QM.then ?_))
 refine wpM.condD rfl (fun h3 => ?_) (fun h3 => ?_)
 ·
  have hE : cAddE qs i a = 3 := (by unfold cAddE; rw [if_neg (by omega), if_neg hof, if_pos (by omega)])
  refine wpM.seq (wpM.region ?_)
  refine LM.as rfl (LM.as rfl ?_)
  refine LM.nil (QM.sub (e' := [(10, _), (11, _)]) au9 (QM.then ?_))
  refine wpM.ret ?_
  refine QM.block_ret ?_
  refine QM.then_ret ?_
  refine QM.leave (.inl rfl) [.tmp 10, .tmp 11] Try.results45 rfl ?_
  intro w' hm' hc' hg'
  rw [show cAddV qs i a v wt = 0#64 from if_neg (by rw [hE]; decide), hE, show cAddX qs i a v wt = qs from if_neg (by rw [hE]; decide)]; exact crm_leaf hw hn hs hq hew heg hwh hwg hb hbw hbg hm' (by (repeat' (first | exact SubM.nil _ | refine SubM.cons (by rfl) ?_ | refine SubM.app ?_))) hc' (inn_refl _ _)
 have hE : cAddE qs i a = 0 := (by unfold cAddE; rw [if_neg (by omega), if_neg hof, if_neg (by omega)]); have hq0 := cadd_E hw hi (by omega) hof (by omega); obtain ⟨hq1, hq2⟩ := addE0 hq0 v wt
 refine wpM.skip ?_
 refine QM.block_normal ?_
 refine QM.then (wpM.seq (wpM.region ?_))
 refine LM.mv rfl (LM.mv rfl (LM.mv rfl (LM.mv rfl ?_)))
 refine LM.cU (oc_call (enters_fn Try.func13 (by kernel_rfl) rfl) rfl) (fun w hm hc hg => hq.upd rqK hi (hm.pick mm) (fun m hr hM => rqAdd_spec a v wt w hr (Nat.le_trans hn0 hc.size) hM)) (hq.wlk rqK) (fun p hp _ => inM_mm p hp) ?_
 rintro u41 m41 ⟨rfl, hq41⟩ hin41; rw [hq1] at hq41; rw [hq2, hq0]
 refine LM.mv rfl ?_
 refine LM.val (ov_extract rfl rfl) ?_
 refine LM.val (ov_extract rfl rfl) ?_
 refine LM.as rfl (LM.as rfl ?_)
 refine LM.nil (QM.sub (e' := [(0, _), (1, _), (2, _), (3, _), (4, _), (13, _)]) au9 (QM.then ?_))
 refine wpM.seq ?_
 refine wpM.seq (wpM.region ?_)
 refine LM.mv rfl ?_
 refine LM.val (ov_eql rfl rfl) ?_
 refine LM.nil (QM.sub (e' := [(0, _), (1, _), (2, _), (3, _), (4, _), (13, _), (45, _)]) au9 (QM.then ?_))
 refine wpM.condD rfl (fun h4 => ?_) (fun h4 => ?_)
 ·
  refine wpM.keep (coC b ad n cap bw bg :: []) (fun _ => True) (.one 0 0 (.one 1 0 (.one 2 0 (.one 3 1 (.one 4 0 (.one 5 0 (.one 6 0 (.one 7 0 (.one 8 1 (.one 9 0 (.one 10 0 (.one 11 0 (.one 12 2 (.one 13 0 (.one 14 2 (.one 15 2 (.one 16 0 (.one 17 2 .nil)))))))))))))))))) (by kernel_rfl) (by kernel_rfl) au1 (fun _ _ => trivial) ?_
  refine KD.val rfl rfl (ov_move rfl) ?_
  refine KD.val rfl rfl (ov_nilCheck rfl) ?_
  refine KD.val rfl rfl (ov_field Try.underlying124 rfl Try.sizeOf38 rfl (k := 1) rfl rfl) ?_
  refine KD.rd rfl rfl (om_ld Try.isAgg38 rfl rfl) ?_
  refine KD.val rfl rfl (ov_move rfl) ?_
  refine KD.val rfl rfl (ov_move rfl) ?_
  refine KD.val rfl rfl (ov_nilCheck rfl) ?_
  refine KD.val rfl rfl (ov_field Try.underlying124 rfl Try.sizeOf38 rfl (k := 2) rfl rfl) ?_
  refine KD.rd rfl rfl (om_ld Try.isAgg38 rfl rfl) ?_
  refine KD.val rfl rfl (ov_move rfl) ?_
  refine KD.val rfl rfl (ov_move rfl) ?_
  refine KD.val rfl rfl (ov_move rfl) ?_
  refine KD.one rfl ?_
  refine LM.mEntry Try.underlying38 Try.underlying3 Try.zeroValue3 rfl rfl hew (fun hlt => by first | exact inM_0 | exact inM_1 | exact inM_2' | exact absurd hlt (by omega)) rfl (fun ew1 cw1 uw1 β1 hew1 hA1 => ?_)
  refine LM.nil ?_
  refine QM.one au1 (fun _ _ => trivial) ?_
  refine KD.val rfl rfl (ov_extract rfl rfl) ?_
  refine KD.one rfl ?_
  refine LM.eStore rfl rfl rfl hew1 hA1 (fun hlt => by first | exact inM_0 | exact inM_1 | exact inM_2' | exact absurd hlt (by omega)) (fun ew2 hew2 => ?_)
  refine LM.nil ?_
  refine QM.one au1 (fun _ _ => trivial) ?_
  refine KD.one rfl ?_
  refine LM.mEntry Try.underlying38 Try.underlying3 Try.zeroValue3 rfl rfl heg (fun hlt => by first | exact inM_0 | exact inM_1 | exact inM_2' | exact absurd hlt (by omega)) rfl (fun eg1 cg1 ug1 β2 heg1 hA2 => ?_)
  refine LM.nil ?_
  refine QM.one au1 (fun _ _ => trivial) ?_
  refine KD.val rfl rfl (ov_extract rfl rfl) ?_
  refine KD.one rfl ?_
  refine LM.eStore rfl rfl rfl heg1 hA2 (fun hlt => by first | exact inM_0 | exact inM_1 | exact inM_2' | exact absurd hlt (by omega)) (fun eg2 heg2 => ?_)
  refine LM.nil ?_
  refine QM.one au1 (fun _ _ => trivial) ?_
  refine KD.nil ?_
  refine QM.sub (e' := [(3, _), (13, _)]) au9 (QM.then (wpM.seq (wpM.region ?_)))
  refine LM.mv rfl (LM.mv rfl (LM.as rfl (LM.as rfl ?_)))
  refine LM.nil (QM.sub (e' := [(10, _), (11, _)]) au9 (QM.then ?_))
  refine wpM.ret ?_
  refine QM.leave (.inl rfl) [.tmp 10, .tmp 11] Try.results45 rfl ?_
  intro w' hm' hc' hg'
  rw [show cAddV qs i a v wt = plcO (qg qs i) v (bringO wt 1 4096) from if_pos hE, hE, show cAddX qs i a v wt = qs.set i (addQ (qg qs i) a v wt) from if_pos hE]; exact crm_leaf (cadd_wf hw hi (by omega) hof (by omega) v wt) (by rw [List.length_set]; exact hn) hs hq41 hew2 heg2 (cadd_wh hw hi (by omega) hof (by omega) v wt hwh) (cadd_wg hw hi (by omega) hof (by omega) v wt hwg) hb hbw hbg hm' (by (repeat' (first | exact SubM.nil _ | refine SubM.cons (by rfl) ?_ | refine SubM.app ?_))) hc' hin41
 omega
end Go.Eng
namespace Go.Eng
open Go Go.Proofs Go.RowKit
theorem qg_len (qs : List Qm) (i : Nat) (x : Qm) : (qs.set i x).length = qs.length := List.length_set
def cMovE (qs : List Qm) (core a : Int) : Int := if ¬ ofN qs a < qs.length then 4 else if core < 0 ∨ (qs.length : Int) ≤ core then 1 else if (ofN qs a : Int) = core then 12 else if (qg qs (ofN qs a)).cur = a then 8 else 0
def cMovX (qs : List Qm) (core a : Int) : List Qm := if cMovE qs core a = 0 then carX qs a core.toNat else qs
set_option maxRecDepth 100000 in
theorem carry_spec {n0 b : Nat} {qs : List Qm} {m : Mem0} (a : Int) (to : Nat) (w : World) (h : CrM n0 b qs m) (ha : ofN qs a < qs.length) (ht : to < qs.length) (hne : to ≠ ofN qs a) (hn0 : n0 ≤ w.heap.size) (hM : Mem w m) : Ret Try.prog 84 #[.pointer (some ⟨b, 0, none⟩), .int .i64 a, .int .i64 (to : Nat)] w (Upd m (fun u m' => u = .tuple #[] ∧ CrM n0 b (carX qs a to) m') w) := by
 obtain ⟨hw, ad, n, cap, bw, bg, esw, clw, esg, clg, lw, lg, ms, mm, bs, rfl, hn, hs, hq, hew, heg, hwh, hwg, hb, hbw, hbg⟩ := h; have hbl := hq.len; have hew1 := hew.1; have heg1 := heg.1; obtain ⟨wr, hu1, hu2⟩ := hwg.2 a ha; have hE := car_E hw ha ht hne; have hx := (hw.wf _ ha).wt _ (has_get (of_hit ha)).1; have hrx : remX (qg qs (ofN qs a)) a = remQ (qg qs (ofN qs a)) a := if_pos (of_hit ha); have hl1 : (carX1 qs a).length = qs.length := qg_len _ _ _; have hat := car1_at hw ha ht hne; obtain ⟨hq1, hq2⟩ := addE0 hE (carV qs a to) wr; have hcg := addQ_cong (qg qs to) a (carV qs a to) (w := wr) (w' := (gQ (qg qs (ofN qs a)).l a).x) (by rw [hu2, bring_id hx])
 refine Ret.enterM (l := [.pointer (some ⟨b, 0, none⟩), .int .i64 a, .int .i64 (to : Nat)]) Try.func84 rfl Try.ntmps84 rfl (coC b ad n cap bw bg :: (bw, .map esw clw) :: (bg, .map esg clg) :: (ms ++ (mm ++ []))) ((inM (coC b ad n cap bw bg :: (bw, .map esw clw) :: (bg, .map esg clg) :: (ms ++ mm)))) (by rw [List.append_nil]; exact hM) ?_
 refine wpM.seq ?_
 refine wpM.draw [(0, 0), (1, 0), (2, 0), (3, 1), (4, 0), (5, 0), (9, 0), (10, 0), (11, 0), (12, 1), (13, 0), (14, 0), (15, 1), (6, 2), (7, 0), (8, 1), (16, 0), (17, 0)] (by kernel_rfl) (by kernel_rfl) ?_
 refine LD.val rfl rfl (ov_move rfl) ?_
 refine LD.val rfl rfl (ov_nilCheck rfl) ?_
 refine LD.val rfl rfl (ov_field Try.underlying124 rfl Try.sizeOf122 rfl (k := 0) rfl rfl) ?_
 refine LD.rd rfl rfl (om_ld Try.isAgg122 rfl rfl) ?_
 refine LD.val rfl rfl (ov_move rfl) ?_
 refine LD.val rfl rfl (ov_move rfl) ?_
 refine LD.val rfl rfl (ov_move rfl) ?_
 refine LD.val rfl rfl (ov_nilCheck rfl) ?_
 refine LD.val rfl rfl (ov_field Try.underlying124 rfl Try.sizeOf122 rfl (k := 0) rfl rfl) ?_
 refine LD.rd rfl rfl (om_ld Try.isAgg122 rfl rfl) ?_
 refine LD.val rfl rfl (ov_move rfl) ?_
 refine LD.val rfl rfl (ov_idxSN au6 Try.underlying122 Try.sizeOf24 rfl rfl (by omega)) ?_
 refine LD.rd rfl rfl (om_sl1 (by assumption) (by intro _; rfl) Try.isAgg24 rfl rfl au3 (by rfl)) ?_
 refine LD.callE rfl rfl (oc_call (enters_fn Try.func49 (by kernel_rfl) rfl) rfl) (fun w hm hc hg => (by have k := cOf_spec a w hew hwh (hm.pick (coC b ad n cap bw bg :: (bw, .map esw clw) :: [])); rw [ofO_hit ha] at k; exact k)) ?_
 refine LD.val rfl rfl (ov_idxSN au6 Try.underlying122 Try.sizeOf24 rfl rfl (by omega)) ?_
 refine LD.rd rfl rfl (om_sl1 (by assumption) (by intro _; rfl) Try.isAgg24 rfl rfl au3 (by rfl)) ?_
 refine LD.val rfl rfl (ov_assign rfl) ?_
 refine LD.val rfl rfl (ov_assign rfl) ?_
 refine LD.nil ?_
 refine QM.sub (e' := [(0, _), (1, _), (2, _), (6, _), (7, _)]) au9 (QM.then (wpM.seq (wpM.region ?_)))
 refine LM.mv rfl (LM.mv rfl ?_)
 refine LM.callE (oc_call (enters_fn Try.func14 (by kernel_rfl) rfl) rfl) (fun w hm hc hg => hq.read ha (hm.pick mm) (fun m hr hM => rqV_spec a w hr hM)) ?_
 refine LM.mv rfl ?_
 refine LM.val (ov_extract rfl rfl) ?_
 refine LM.val (ov_extract rfl rfl) ?_
 refine LM.as rfl (LM.as rfl ?_)
 refine LM.nil (QM.sub (e' := [(0, _), (1, _), (2, _), (6, _), (7, _), (8, _)]) au9 (QM.then (wpM.seq (wpM.region ?_))))
 refine LM.mv rfl (LM.mv rfl ?_)
 refine LM.callE (oc_call (enters_fn Try.func19 (by kernel_rfl) rfl) rfl) (fun w hm hc hg => hq.read ha (hm.pick mm) (fun m hr hM => rqFlo_spec w hr hM)) ?_
 refine LM.callE (oc_call (enters_fn Try.func107 (by kernel_rfl) rfl) rfl) (fun w hm hc hg => fsub_spec _ _ w) ?_
 refine LM.mv rfl ?_
 refine LM.val (ov_extract rfl rfl) ?_
 refine LM.val (ov_extract rfl rfl) ?_
 refine LM.as rfl (LM.as rfl ?_)
 refine LM.nil (QM.sub (e' := [(0, _), (1, _), (2, _), (6, _), (7, _), (10, _)]) au9 (QM.then (wpM.seq (wpM.region ?_))))
 refine LM.mv rfl (LM.mv rfl ?_)
 refine LM.cU (oc_call (enters_fn Try.func17 (by kernel_rfl) rfl) rfl) (fun w hm hc hg => hq.upd rqK ha (hm.pick mm) (fun m hr hM => rqRem_spec a w hr hM)) (hq.wlk rqK) (fun p hp _ => inM_mm p hp) ?_
 rintro u43 m43 ⟨rfl, hq43⟩ hin43; rw [hrx] at hq43; change QqM RqM n0 bs (carX1 qs a) m43 at hq43
 refine LM.nil (QM.sub (e' := [(0, _), (1, _), (2, _), (7, _), (10, _)]) au9 (QM.then (wpM.seq (wpM.region ?_))))
 refine LM.mv rfl ?_
 refine LM.callE (oc_call (enters_fn Try.func19 (by kernel_rfl) rfl) rfl) (fun w hm hc hg => hq43.read (i := to) (by omega) (hm.pick m43) (fun m hr hM => (show Ret _ _ _ _ (fun u w' => u = U (qg qs to).fl ∧ Ext _ w') from by have k := rqFlo_spec w hr hM; rw [hat] at k; exact k))) ?_
 refine LM.mv rfl ?_
 refine LM.callE (oc_call (enters_fn Try.func75 (by kernel_rfl) rfl) rfl) (fun w hm hc hg => fadd_spec _ _ w) ?_
 refine LM.mv rfl ?_
 refine LM.val (ov_extract rfl rfl) ?_
 refine LM.val (ov_extract rfl rfl) ?_
 refine LM.as rfl ?_
 refine LM.nil (QM.sub (e' := [(0, _), (1, _), (2, _), (7, _), (8, _)]) au9 (QM.then (wpM.seq (wpM.region ?_))))
 refine LM.mv rfl (LM.mv rfl (LM.mv rfl (LM.mv rfl ?_)))
 refine LM.val (ov_nilCheck rfl) ?_
 refine LM.val (ov_field Try.underlying124 rfl Try.sizeOf38 rfl (k := 2) rfl rfl) ?_
 refine LM.rd (om_ld Try.isAgg38 rfl rfl) ?_
 refine LM.mv rfl ?_
 refine LM.rd (om_lk Try.underlying38 Try.underlying3 Try.zeroValue3 rfl rfl (by assumption) (getD_some hu1)) ?_
 refine LM.cU (oc_call (enters_fn Try.func13 (by kernel_rfl) rfl) rfl) (fun w hm hc hg => hq43.upd rqK (i := to) (by omega) (hm.pick m43) (fun m hr hM => (show Ret _ _ _ _ (Upd m (fun u m' => u = .tuple #[U (addV (qg qs to) a (carV qs a to) wr), .int .i64 (addE (qg qs to) a)] ∧ RqM n0 (bs.getD to default) (addX (qg qs to) a (carV qs a to) wr) m') _) from by have k := rqAdd_spec a (carV qs a to) wr w hr (Nat.le_trans hn0 hc.size) hM; rw [hat] at k; exact k))) (hq43.wlk rqK) (inn_S hin43 inM_mm) ?_
 rintro u60 m60 ⟨rfl, hq60⟩ hin60; rw [hq1, hcg] at hq60; change QqM RqM n0 bs (carX qs a to) m60 at hq60
 refine LM.nil (QM.sub (e' := [(0, _), (1, _), (2, _)]) au9 (QM.then (wpM.region ?_)))
 refine LM.mv rfl ?_
 refine LM.val (ov_nilCheck rfl) ?_
 refine LM.val (ov_field Try.underlying124 rfl Try.sizeOf38 rfl (k := 1) rfl rfl) ?_
 refine LM.rd (om_ld Try.isAgg38 rfl rfl) ?_
 refine LM.mv rfl (LM.mv rfl ?_)
 refine LM.mUS Try.underlying38 Try.underlying3 rfl rfl rfl (by assumption) (fun hlt => by first | exact inM_0 | exact inM_1 | exact inM_2' | exact absurd hlt (by omega)) (fun esu1 clu1 hesu1 => ?_)
 refine LM.nil (QM.sub (e' := []) trivial ?_)
 refine QM.leave (.inr rfl) [] Try.results84 rfl ?_
 intro w' hm' hc' hg'
 exact crm_leaf (car_wf hw ha ht hne) (by rw [carX, qg_len, hl1]; exact hn) hs hq60 hesu1 heg (car_wh hw ha ht hne hwh) (car_wg hw ha ht hne hwg) hb hbw hbg hm' (by (repeat' (first | exact SubM.nil _ | refine SubM.cons (by rfl) ?_ | refine SubM.app ?_))) hc' (inn_trans hin43 hin60)
theorem ofO_neg {qs : List Qm} {a : Int} (h : ofO qs a < 0) : ¬ ofN qs a < qs.length := fun q => by unfold ofO at h; rw [if_pos q] at h; omega
theorem ofO_pos {qs : List Qm} {a : Int} (h : ¬ ofO qs a < 0) : ofN qs a < qs.length := Classical.byContradiction fun q => by unfold ofO at h; rw [if_neg q] at h; omega
theorem mov_same {qs : List Qm} {core a : Int} (h : cMovE qs core a ≠ 0) : cMovX qs core a = qs := if_neg h
set_option maxRecDepth 100000 in
theorem cMove_in {n0 b : Nat} {qs : List Qm} {m : Mem0} (a : Int) (i : Nat) (w : World) (h : CrM n0 b qs m) (hi : i < qs.length) (hn0 : n0 ≤ w.heap.size) (hM : Mem w m) : Ret Try.prog 52 #[.pointer (some ⟨b, 0, none⟩), .int .i64 a, .int .i64 (i : Nat)] w (Upd m (fun u m' => u = .int .i64 (cMovE qs i a) ∧ CrM n0 b (cMovX qs i a) m') w) := by
 have hC := h; obtain ⟨hw, ad, n, cap, bw, bg, esw, clw, esg, clg, lw, lg, ms, mm, bs, rfl, hn, hs, hq, hew, heg, hwh, hwg, hb, hbw, hbg⟩ := h; have hbl := hq.len; have hi0 : ¬ ((i : Int) < 0 ∨ (qs.length : Int) ≤ i) := by omega
 refine Ret.enterM (l := [.pointer (some ⟨b, 0, none⟩), .int .i64 a, .int .i64 (i : Nat)]) Try.func52 rfl Try.ntmps52 rfl (coC b ad n cap bw bg :: (bw, .map esw clw) :: (bg, .map esg clg) :: (ms ++ (mm ++ []))) ((inM (coC b ad n cap bw bg :: (bw, .map esw clw) :: (bg, .map esg clg) :: (ms ++ mm)))) (by rw [List.append_nil]; exact hM) ?_
 refine wpM.seq (wpM.region ?_)
 refine LM.as rfl ?_
 refine LM.nil (QM.sub (e' := [(0, _), (1, _), (2, _)]) au9 (QM.then ?_))
 refine wpM.seq ?_
 refine wpM.seq (wpM.region ?_)
 refine LM.mv rfl ?_
 refine LM.val (ov_peql (by kernel_rfl) rfl rfl) ?_
 refine LM.nil (QM.sub (e' := [(0, _), (1, _), (2, _), (12, _)]) au9 (QM.then ?_))
 refine wpM.condF rfl ?_
 refine wpM.skip ?_
 refine QM.then (wpM.seq (wpM.region ?_))
 refine LM.mv rfl (LM.mv rfl ?_)
 refine LM.callE (oc_call (enters_fn Try.func49 (by kernel_rfl) rfl) rfl) (fun w hm hc hg => cOf_spec a w hew hwh (hm.pick (coC b ad n cap bw bg :: (bw, .map esw clw) :: []))) ?_
 refine LM.as rfl ?_
 refine LM.nil (QM.sub (e' := [(0, _), (1, _), (2, _), (7, _)]) au9 (QM.then ?_))
 refine wpM.seq ?_
 refine wpM.block ?_
 refine wpM.seq (wpM.region ?_)
 refine LM.mv rfl ?_
 refine LM.val (ov_lss rfl rfl) ?_
 refine LM.as rfl ?_
 refine LM.nil (QM.sub (e' := [(0, _), (1, _), (2, _), (7, _), (16, _)]) au9 (QM.then ?_))
 refine wpM.condD rfl (fun h1 => ?_) (fun h1 => ?_)
 ·
  have hE : cMovE qs i a = 4 := if_pos (ofO_neg h1)
  refine wpM.seq (wpM.region ?_)
  refine LM.as rfl ?_
  refine LM.nil (QM.sub (e' := [(6, _)]) ⟨rfl, trivial⟩ (QM.then ?_))
  refine wpM.ret ?_
  refine QM.block_ret ?_
  refine QM.then_ret ?_
  refine QM.leave (.inl rfl) [.tmp 6] Try.results52 rfl ?_
  intro w' hm' hc' hg'
  rw [hE, mov_same (by rw [hE]; decide)]; exact crm_leaf hw hn hs hq hew heg hwh hwg hb hbw hbg hm' (by (repeat' (first | exact SubM.nil _ | refine SubM.cons (by rfl) ?_ | refine SubM.app ?_))) hc' (inn_refl _ _)
 have hof := ofO_pos h1; have hof2 : ¬ ¬ ofN qs a < qs.length := fun q => q hof; rw [ofO_hit hof]
 refine wpM.seq (wpM.region ?_)
 refine LM.mv rfl (LM.mv rfl ?_)
 refine LM.callE (oc_call (enters_fn Try.func54 (by kernel_rfl) rfl) rfl) (fun w hm hc hg => cQu_in i w (by omega) hs (by omega) (by have h9 := hm.pick (coC b ad n cap bw bg :: (ms ++ [])); rw [List.append_nil] at h9; exact h9)) ?_
 refine LM.val (ov_peql (by kernel_rfl) rfl rfl) ?_
 refine LM.as rfl ?_
 refine LM.nil (QM.sub (e' := [(0, _), (1, _), (2, _), (7, _), (19, _)]) au9 (QM.then ?_))
 refine wpM.condF rfl ?_
 refine wpM.seq (wpM.region ?_)
 refine LM.mv rfl (LM.mv rfl ?_)
 refine LM.val (ov_eql rfl rfl) ?_
 refine LM.as rfl ?_
 refine LM.nil (QM.sub (e' := [(0, _), (1, _), (2, _), (7, _), (24, _)]) au9 (QM.then ?_))
 refine wpM.condD rfl (fun h2 => ?_) (fun h2 => ?_)
 ·
  have hE : cMovE qs i a = 12 := (by unfold cMovE; rw [if_neg hof2, if_neg hi0, if_pos (by first | exact h2 | omega)])
  refine wpM.seq (wpM.region ?_)
  refine LM.as rfl ?_
  refine LM.nil (QM.sub (e' := [(6, _)]) ⟨rfl, trivial⟩ (QM.then ?_))
  refine wpM.ret ?_
  refine QM.block_ret ?_
  refine QM.then_ret ?_
  refine QM.leave (.inl rfl) [.tmp 6] Try.results52 rfl ?_
  intro w' hm' hc' hg'
  rw [hE, mov_same (by rw [hE]; decide)]; exact crm_leaf hw hn hs hq hew heg hwh hwg hb hbw hbg hm' (by (repeat' (first | exact SubM.nil _ | refine SubM.cons (by rfl) ?_ | refine SubM.app ?_))) hc' (inn_refl _ _)
 refine wpM.skip ?_
 refine QM.block_normal ?_
 refine QM.then ?_
 refine wpM.seq ?_
 refine wpM.seq (wpM.region ?_)
 refine LM.mv rfl ?_
 refine LM.val (ov_nilCheck rfl) ?_
 refine LM.val (ov_field Try.underlying124 rfl Try.sizeOf122 rfl (k := 0) rfl rfl) ?_
 refine LM.rd (om_ld Try.isAgg122 rfl rfl) ?_
 refine LM.mv rfl ?_
 refine LM.val (ov_idxSN au6 Try.underlying122 Try.sizeOf24 rfl rfl (by omega)) ?_
 refine LM.rd (om_sl1 (by assumption) (by intro _; rfl) Try.isAgg24 rfl rfl au3 (by rfl)) ?_
 refine LM.callE (oc_call (enters_fn Try.func37 (by kernel_rfl) rfl) rfl) (fun w hm hc hg => hq.read hof (hm.pick mm) (fun m hr hM => rqCur_spec w hr hM)) ?_
 refine LM.mv rfl ?_
 refine LM.val (ov_extract rfl rfl) ?_
 refine LM.val (ov_extract rfl rfl) ?_
 refine LM.val (ov_extract rfl rfl) ?_
 refine LM.as rfl (LM.as rfl (LM.as rfl ?_))
 refine LM.nil (QM.sub (e' := [(0, _), (1, _), (2, _), (8, _)]) au9 (QM.then (wpM.seq (wpM.region ?_))))
 refine LM.mv rfl (LM.mv rfl ?_)
 refine LM.val (ov_eql rfl rfl) ?_
 refine LM.nil (QM.sub (e' := [(0, _), (1, _), (2, _), (42, _)]) au9 (QM.then ?_))
 refine wpM.condD rfl (fun h3 => ?_) (fun h3 => ?_)
 ·
  have hE : cMovE qs i a = 8 := (by unfold cMovE; rw [if_neg hof2, if_neg hi0, if_neg (by omega), if_pos h3])
  refine wpM.seq (wpM.region ?_)
  refine LM.as rfl ?_
  refine LM.nil (QM.sub (e' := [(6, _)]) ⟨rfl, trivial⟩ (QM.then ?_))
  refine wpM.ret ?_
  refine QM.then_ret ?_
  refine QM.leave (.inl rfl) [.tmp 6] Try.results52 rfl ?_
  intro w' hm' hc' hg'
  rw [hE, mov_same (by rw [hE]; decide)]; exact crm_leaf hw hn hs hq hew heg hwh hwg hb hbw hbg hm' (by (repeat' (first | exact SubM.nil _ | refine SubM.cons (by rfl) ?_ | refine SubM.app ?_))) hc' (inn_refl _ _)
 have hE : cMovE qs i a = 0 := (by unfold cMovE; rw [if_neg hof2, if_neg hi0, if_neg (by omega), if_neg h3])
 refine wpM.skip ?_
 refine QM.then (wpM.seq (wpM.region ?_))
 refine LM.mv rfl (LM.mv rfl (LM.mv rfl ?_))
 refine LM.cU (oc_call (enters_fn Try.func84 (by kernel_rfl) rfl) rfl) (fun w hm hc hg => carry_spec a i w hC hof hi (by omega) (Nat.le_trans hn0 hc.size) (by have h9 := hm.pick (coC b ad n cap bw bg :: (bw, .map esw clw) :: (bg, .map esg clg) :: (ms ++ (mm ++ []))); rw [List.append_nil] at h9; exact h9)) hC.wlk (fun p hp _ => ⟨p, hp, rfl⟩) ?_
 rintro u46 m46 ⟨rfl, hq46⟩ hin46
 refine LM.nil (QM.sub (e' := []) trivial (QM.then (wpM.seq (wpM.region ?_))))
 refine LM.as rfl ?_
 refine LM.nil (QM.sub (e' := [(6, _)]) ⟨rfl, trivial⟩ (QM.then ?_))
 refine wpM.ret ?_
 refine QM.leave (.inl rfl) [.tmp 6] Try.results52 rfl ?_
 intro w' hm' hc' hg'
 rw [hE, show cMovX qs i a = carX qs a i from if_pos hE]; exact upd_m ⟨rfl, hq46⟩ hm' (by (repeat' (first | exact SubM.nil _ | refine SubM.cons (by rfl) ?_ | refine SubM.app ?_))) hc' hin46
end Go.Eng
namespace Go.Eng
open Go Go.Proofs Go.RowKit
theorem QqM.pull {R : Nat → Nat → Qm → Mem0 → Prop} {n0 : Nat} {bs : List Nat} {qs : List Qm} {mm : Mem0} (h : QqM R n0 bs qs mm) {i : Nat} (hi : i < qs.length) : ∃ mq rest, R n0 (bs.getD i default) (qg qs i) mq ∧ mm.Perm (mq ++ rest) := by
  obtain ⟨M, rfl, h1, h2, h3⟩ := h
  exact ⟨_, _, h3 i hi, fl_perm M i (by omega)⟩
theorem rd_pull {p : Nat × Obj} {mm mq rest : Mem0} {w : World} (hp : mm.Perm (mq ++ rest)) (h : Mem w (p :: (mm ++ []))) : Mem w (p :: mq) := by
  rw [List.append_nil] at h
  exact (h.perm (hp.cons p)).sub ((List.sublist_append_left mq rest).cons_cons p)
abbrev pC (c b : Nat) : Nat × Obj := (c, .cells #[.pointer (some ⟨b, 0, none⟩)] 65 (0, 0))
abbrev iC (c : Nat) (x : Int) : Nat × Obj := (c, .cells #[.int .i64 x] 3 (0, 0))
theorem bal_no {qs : List Qm} (h : ∀ j, j < (rdyO (qg qs (mo qs))).length → ¬ ((rdyO (qg qs (mo qs))).getD j default).x < difO qs) : balF qs = none := findK_no (fun j hj => decide_eq_false (h j hj))
theorem bal_at {qs : List Qm} {k : Nat} (h : ∀ j, j < k → ¬ ((rdyO (qg qs (mo qs))).getD j default).x < difO qs) (hk : k < (rdyO (qg qs (mo qs))).length) (h2 : ((rdyO (qg qs (mo qs))).getD k default).x < difO qs) : balF qs = some ((rdyO (qg qs (mo qs))).getD k default) := findK_at (fun j hj => decide_eq_false (h j hj)) hk (decide_eq_true h2)
theorem rdy_raw {qs : List Qm} (hw : CWf qs) {lg : List (Int × Value)} (hg : Wg lg qs) {k : Nat} (hk : k < (rdyO (qg qs (mo qs))).length) : ∃ u : Int, aget lg ((rdyO (qg qs (mo qs))).getD k default).id = some (.int .i64 u) ∧ bringO u 1 4096 = ((rdyO (qg qs (mo qs))).getD k default).x ∧ 0 ≤ ((rdyO (qg qs (mo qs))).getD k default).id := by
  have hm := most_lt hw.len.1 qs.length (Nat.le_refl _)
  have hmem : (rdyO (qg qs (mo qs))).getD k default ∈ rdyO (qg qs (mo qs)) := by rw [List.getD_eq_getElem?_getD, List.getElem?_eq_getElem hk]; exact List.getElem_mem _
  have h1 := rdy_id (hw.wf _ hm) hmem
  have h2 : ofN qs ((rdyO (qg qs (mo qs))).getD k default).id = mo qs := hw.at hm (ixO_lt.2 ⟨_, h1.1, rfl⟩)
  obtain ⟨u, h3, h4⟩ := hg.2 ((rdyO (qg qs (mo qs))).getD k default).id (by rw [h2]; exact hm)
  refine ⟨u, h3, ?_, (hw.wf _ hm).pos _ h1.1⟩
  rw [h4, h2, gQ_eq (hw.wf _ hm) h1.1]
set_option maxRecDepth 100000 in
theorem bal_spec {n0 b : Nat} {qs : List Qm} {m : Mem0} (w : World) (h : CrM n0 b qs m) (hn0 : n0 ≤ w.heap.size) (hM : Mem w m) : Ret Try.prog 48 #[.pointer (some ⟨b, 0, none⟩)] w (Upd m (fun u m' => u = .tuple #[.int .i64 (balI qs), .int .i64 (balA qs), .int .i64 (balB qs), .bool (balF qs).isSome] ∧ CrM n0 b (balX qs) m') w) := by
 have hC := h; obtain ⟨hw, ad, n, cap, bw, bg, esw, clw, esg, clg, lw, lg, ms, mm, bs, rfl, hn, hs, hq, hew, heg, hwh, hwg, hb, hbw, hbg⟩ := h; have hbl := hq.len; have heg1 := heg.1; have hmo : mo qs < qs.length := most_lt hw.len.1 qs.length (Nat.le_refl _); have hle : le qs < qs.length := least_lt hw.len.1 qs.length (Nat.le_refl _); have hl1 := (hw.wf _ hmo).load; have hl2 := (hw.wf _ hle).load; obtain ⟨mq, rest, hr, hpl⟩ := hq.pull hmo; have hrl := rdyA_len (rdyO (qg qs (mo qs)))
 refine Ret.enterM (l := [.pointer (some ⟨b, 0, none⟩)]) Try.func48 rfl Try.ntmps48 rfl (coC b ad n cap bw bg :: (bw, .map esw clw) :: (bg, .map esg clg) :: (ms ++ (mm ++ []))) ((inM (coC b ad n cap bw bg :: (bw, .map esw clw) :: (bg, .map esg clg) :: (ms ++ mm)))) (by rw [List.append_nil]; exact hM) ?_
 refine wpM.seq (wpM.region ?_)
 refine LM.box rfl rfl (fun b1 hb1 => ?_)
 refine LM.as rfl (LM.as rfl (LM.as rfl (LM.as rfl ?_)))
 refine LM.nil (QM.sub (e' := [(1, _)]) ⟨rfl, trivial⟩ (QM.then ?_))
 refine wpM.seq ?_
 refine wpM.seq (wpM.region ?_)
 refine LM.rd (om_ld Try.isAgg65 rfl rfl) ?_
 refine LM.val (ov_peql (by kernel_rfl) rfl rfl) ?_
 refine LM.nil (QM.sub (e' := [(1, _), (12, _)]) au9 (QM.then ?_))
 refine wpM.condF rfl ?_
 refine wpM.skip ?_
 refine QM.then (wpM.seq (wpM.region ?_))
 refine LM.rd (om_ld Try.isAgg65 rfl rfl) ?_
 refine LM.callE (oc_call (enters_fn Try.func83 (by kernel_rfl) rfl) rfl) (fun w hm hc hg => cEnds_spec w hw hn hs hq (by have h9 := hm.pick (coC b ad n cap bw bg :: (ms ++ (mm ++ []))); rw [List.append_nil] at h9; exact h9)) ?_
 refine LM.mv rfl ?_
 refine LM.val (ov_extract rfl rfl) ?_
 refine LM.val (ov_extract rfl rfl) ?_
 refine LM.as rfl (LM.as rfl ?_)
 refine LM.nil (QM.sub (e' := [(1, _), (6, _), (7, _)]) au9 (QM.then ?_))
 refine wpM.seq ?_
 refine wpM.joinK (α := Nat) (fun b8 => [(8, .pointer (some ⟨b8, 0, none⟩))]) [(1, _), (6, _), (7, _)] (fun b8 => pC b1 b :: iC b8 (difO qs) :: coC b ad n cap bw bg :: (bw, .map esw clw) :: (bg, .map esg clg) :: (ms ++ (mm ++ []))) (fun b8 => w.heap.size ≤ b8) ⟨rfl, rfl, rfl, trivial⟩ ?_ ?_
 ·
  refine wpM.keep (pC b1 b :: coC b ad n cap bw bg :: (ms ++ [])) (fun _ => True) (.one 0 1 (.one 1 0 (.one 2 0 (.one 3 1 (.one 4 0 (.one 5 0 (.one 6 1 (.one 8 1 (.one 9 0 (.one 10 0 (.one 11 1 (.one 12 0 (.one 13 0 (.one 14 1 (.fork 7 (.fork 15 (.one 16 0 (.one 17 2 (.one 18 2 .nil))) 17 (.one 15 2 (.one 16 0 (.one 18 2 .nil)))) 17 (.one 7 2 (.one 15 2 (.one 16 0 (.one 18 2 .nil))))))))))))))))))) (by kernel_rfl) (by kernel_rfl) au1 (fun _ _ => trivial) ?_
  refine KD.rd rfl rfl (om_ld Try.isAgg65 rfl rfl) ?_
  refine KD.val rfl rfl (ov_nilCheck rfl) ?_
  refine KD.val rfl rfl (ov_field Try.underlying124 rfl Try.sizeOf122 rfl (k := 0) rfl rfl) ?_
  refine KD.rd rfl rfl (om_ld Try.isAgg122 rfl rfl) ?_
  refine KD.val rfl rfl (ov_move rfl) ?_
  refine KD.val rfl rfl (ov_idxSN au6 Try.underlying122 Try.sizeOf24 rfl rfl (by omega)) ?_
  refine KD.rd rfl rfl (om_sl1 (by assumption) (by intro _; rfl) Try.isAgg24 rfl rfl au3 (by rfl)) ?_
  refine KD.rd rfl rfl (om_ld Try.isAgg65 rfl rfl) ?_
  refine KD.val rfl rfl (ov_nilCheck rfl) ?_
  refine KD.val rfl rfl (ov_field Try.underlying124 rfl Try.sizeOf122 rfl (k := 0) rfl rfl) ?_
  refine KD.rd rfl rfl (om_ld Try.isAgg122 rfl rfl) ?_
  refine KD.val rfl rfl (ov_move rfl) ?_
  refine KD.val rfl rfl (ov_idxSN au6 Try.underlying122 Try.sizeOf24 rfl rfl (by omega)) ?_
  refine KD.rd rfl rfl (om_sl1 (by assumption) (by intro _; rfl) Try.isAgg24 rfl rfl au3 (by rfl)) ?_
  refine KD.fork rfl rfl ?_ ?_
  ·
   refine LM.callE (oc_call (enters_fn Try.func41 (by kernel_rfl) rfl) rfl) (fun w hm hc hg => hq.read hmo (hm.pick mm) (fun m hr hM => rqLoad_spec w hr hM)) ?_
   refine LM.nil ?_
   refine QM.one au1 (fun _ _ => trivial) ?_
   refine KD.fork rfl rfl ?_ ?_
   ·
    refine LM.callE (oc_call (enters_fn Try.func41 (by kernel_rfl) rfl) rfl) (fun w hm hc hg => hq.read hle (hm.pick mm) (fun m hr hM => rqLoad_spec w hr hM)) ?_
    refine LM.nil ?_
    refine QM.one au1 (fun _ _ => trivial) ?_
    refine KD.val rfl rfl (ov_sub64 rfl rfl (by omega)) ?_
    refine KD.one rfl ?_
    refine LM.alloc Try.zeroValue3 rfl (fun b8 hb8 => ?_)
    refine LM.nil ?_
    refine QM.one au1 (fun _ _ => trivial) ?_
    refine KD.one rfl ?_
    refine LM.st Try.sizeOf3 rfl rfl rfl au5 rfl (fun hlt => by first | exact inM_0 | exact inM_1 | exact inM_2' | exact absurd hlt (by omega)) ?_
    refine LM.nil ?_
    refine QM.one au1 (fun _ _ => trivial) ?_
    refine KD.nil ?_
    refine QM.sub (e' := [(1, _), (6, _), (7, _), (8, _)]) au9 ?_
    refine QM.meetK (b8) ⟨au2, rfl, rfl, rfl, trivial⟩ au1 ?_
    · assumption
   refine LM.alloc Try.zeroValue3 rfl (fun b8 hb8 => ?_)
   refine LM.nil ?_
   refine QM.one au1 (fun _ _ => trivial) ?_
   refine KD.one rfl ?_
   refine LM.callE (oc_call (enters_fn Try.func41 (by kernel_rfl) rfl) rfl) (fun w hm hc hg => hq.read hle (hm.pick mm) (fun m hr hM => rqLoad_spec w hr hM)) ?_
   refine LM.nil ?_
   refine QM.one au1 (fun _ _ => trivial) ?_
   refine KD.val rfl rfl (ov_sub64 rfl rfl (by omega)) ?_
   refine KD.one rfl ?_
   refine LM.st Try.sizeOf3 rfl rfl rfl au5 rfl (fun hlt => by first | exact inM_0 | exact inM_1 | exact inM_2' | exact absurd hlt (by omega)) ?_
   refine LM.nil ?_
   refine QM.one au1 (fun _ _ => trivial) ?_
   refine KD.nil ?_
   refine QM.sub (e' := [(1, _), (6, _), (7, _), (8, _)]) au9 ?_
   refine QM.meetK (b8) ⟨au2, rfl, rfl, rfl, trivial⟩ au1 ?_
   · assumption
  refine LM.alloc Try.zeroValue3 rfl (fun b8 hb8 => ?_)
  refine LM.nil ?_
  refine QM.one au1 (fun _ _ => trivial) ?_
  refine KD.one rfl ?_
  refine LM.callE (oc_call (enters_fn Try.func41 (by kernel_rfl) rfl) rfl) (fun w hm hc hg => hq.read hmo (hm.pick mm) (fun m hr hM => rqLoad_spec w hr hM)) ?_
  refine LM.nil ?_
  refine QM.one au1 (fun _ _ => trivial) ?_
  refine KD.one rfl ?_
  refine LM.callE (oc_call (enters_fn Try.func41 (by kernel_rfl) rfl) rfl) (fun w hm hc hg => hq.read hle (hm.pick mm) (fun m hr hM => rqLoad_spec w hr hM)) ?_
  refine LM.nil ?_
  refine QM.one au1 (fun _ _ => trivial) ?_
  refine KD.val rfl rfl (ov_sub64 rfl rfl (by omega)) ?_
  refine KD.one rfl ?_
  refine LM.st Try.sizeOf3 rfl rfl rfl au5 rfl (fun hlt => by first | exact inM_0 | exact inM_1 | exact inM_2' | exact absurd hlt (by omega)) ?_
  refine LM.nil ?_
  refine QM.one au1 (fun _ _ => trivial) ?_
  refine KD.nil ?_
  refine QM.sub (e' := [(1, _), (6, _), (7, _), (8, _)]) au9 ?_
  refine QM.meetK (b8) ⟨au2, rfl, rfl, rfl, trivial⟩ au1 ?_
  · assumption
 rintro b8 hb8
 change QM _ _ _ _ _ (pC b1 b :: iC b8 (difO qs) :: coC b ad n cap bw bg :: (bw, .map esw clw) :: (bg, .map esg clg) :: (ms ++ (mm ++ []))) _ _ _
 refine QM.then (wpM.seq (wpM.region ?_))
 refine LM.alloc Try.zeroValue3 rfl (fun b9 hb9 => ?_)
 refine LM.st Try.sizeOf3 rfl rfl rfl au5 rfl (fun hlt => by first | exact inM_0 | exact inM_1 | exact inM_2' | exact absurd hlt (by omega)) ?_
 refine LM.nil (QM.sub (e' := [(1, _), (6, _), (7, _), (8, _), (9, _)]) au9 (QM.then ?_))
 refine wpM.seq ?_
 refine wpM.seq (wpM.region ?_)
 refine LM.rd (om_ld Try.isAgg65 rfl rfl) ?_
 refine LM.val (ov_nilCheck rfl) ?_
 refine LM.val (ov_field Try.underlying124 rfl Try.sizeOf122 rfl (k := 0) rfl rfl) ?_
 refine LM.rd (om_ld Try.isAgg122 rfl rfl) ?_
 refine LM.mv rfl ?_
 refine LM.val (ov_idxSN au6 Try.underlying122 Try.sizeOf24 rfl rfl (by omega)) ?_
 refine LM.rd (om_sl1 (by assumption) (by intro _; rfl) Try.isAgg24 rfl rfl au3 (by rfl)) ?_
 refine LM.callT (oc_call (enters_fn Try.func38 (by kernel_rfl) rfl) rfl) RqA.mono (fun w hm hc hg => rqReady_spec (bs.getD (mo qs) default) w) ?_
 rintro u42 m42 ⟨c1, rfl, rfl, hc1⟩ -
 refine LM.nil (QM.sub (e' := [(1, _), (6, _), (7, _), (8, _), (9, _), (42, _)]) au9 (QM.then ?_))
 refine wpM.block ?_
 refine wpM.toRange (α := Unit) (fun k ⟨⟩ => qP c1 (bs.getD (mo qs) default) :: pC b1 b :: iC b8 (difO qs) :: iC b9 (-1) :: coC b ad n cap bw bg :: (bw, .map esw clw) :: (bg, .map esg clg) :: (ms ++ (mm ++ []))) (⟨⟩) au1 ?_
 refine wpM.rangeP (α := Unit) (β := Nat) (enters_fn Try.func81 (by kernel_rfl) rfl) rfl (rqReady_seq hr) (fun k ⟨⟩ Mp => qP c1 (bs.getD (mo qs) default) :: pC b1 b :: iC b8 (difO qs) :: iC b9 (-1) :: coC b ad n cap bw bg :: (bw, .map esw clw) :: (bg, .map esg clg) :: (ms ++ (mm ++ (Mp ++ [])))) (by rintro k ⟨⟩ Mp; first | rfl | simp) (fun _ _ => top) (fun k ⟨⟩ => ∀ j, j < k → ¬ ((rdyO (qg qs (mo qs))).getD j default).x < difO qs) (fun kx => pC b1 b :: iC b9 ((rdyO (qg qs (mo qs))).getD kx default).id :: coC b ad n cap bw bg :: (bw, .map esw clw) :: (bg, .map esg clg) :: (ms ++ (mm ++ []))) (fun _ => top) (fun c kx => c = .exit 0 ∧ kx < (rdyO (qg qs (mo qs))).length ∧ balF qs = some ((rdyO (qg qs (mo qs))).getD kx default)) ⟨⟩ rfl (fun _ h => h) (fun j hj => absurd hj (Nat.not_lt_zero j)) (by kernel_rfl) (by intro k av hav; obtain ⟨hkl, rfl⟩ := rdyA_inv hav; rfl) (.inl trivial) (fun k a w hm hc _ _ => rd_pull hpl ((SubM.mem au1) w hm)) (fun _ _ _ _ => gl_top _) (fun _ _ _ => gl_top _) (fun k x hk2 => mm_cons rfl (mm_cons rfl (mm_cons rfl (mm_cons rfl (mm_cons rfl (mm_cons rfl (mm_cons rfl (mm_app hs.wlk (mm_app (hq.wlk rqK) mm_nil))))))))) (fun c z hk2 => mm_cons rfl (mm_cons rfl (mm_cons rfl (mm_cons rfl (mm_cons rfl (mm_app hs.wlk (mm_app (hq.wlk rqK) mm_nil))))))) ?_ ?_ ?_ ?_
 ·
  rintro k av ⟨⟩ l D rc n1 W1 Mp hD hll hput hrc hav hnb
  change wpM _ _ _ _ _ _ _ ((l, Obj.loop rc) :: ([(D, Obj.deferred (some []))] ++ (qP c1 (bs.getD (mo qs) default) :: pC b1 b :: iC b8 (difO qs) :: iC b9 (-1) :: coC b ad n cap bw bg :: (bw, .map esw clw) :: (bg, .map esg clg) :: (ms ++ (mm ++ (Mp ++ [])))))) _ _ _
  obtain ⟨hkl, rfl⟩ := rdyA_inv hav
  obtain ⟨wr, hu1, hu2, hid0⟩ := rdy_raw hw hwg hkl
  refine wpM.region ?_
  refine LM.as rfl ?_
  refine LM.nil (QM.sub (e' := [(1, _), (6, _), (7, _), (8, _), (9, _), (10, _)]) au9 ?_)
  refine QM.toBodyF (hput k ⟨⟩) hll ?_
  refine wpM.block ?_
  refine wpM.seq ?_
  refine wpM.draw [(0, 1), (1, 0), (2, 0), (3, 1), (4, 0), (5, 1), (6, 0), (7, 0), (8, 1), (9, 0)] (by kernel_rfl) (by kernel_rfl) ?_
  refine LD.rd rfl rfl (om_ld Try.isAgg65 rfl rfl) ?_
  refine LD.val rfl rfl (ov_nilCheck rfl) ?_
  refine LD.val rfl rfl (ov_field Try.underlying124 rfl Try.sizeOf38 rfl (k := 2) rfl rfl) ?_
  refine LD.rd rfl rfl (om_ld Try.isAgg38 rfl rfl) ?_
  refine LD.val rfl rfl (ov_move rfl) ?_
  refine LD.rd rfl rfl (om_lk Try.underlying38 Try.underlying3 Try.zeroValue3 rfl rfl (by assumption) (getD_some hu1)) ?_
  refine LD.val rfl rfl (ov_max rfl rfl) ?_
  refine LD.val rfl rfl (ov_min rfl rfl) ?_
  refine LD.rd rfl rfl (om_ld Try.isAgg3 rfl rfl) ?_
  rw [bring_eq (by decide), hu2]
  refine LD.val rfl rfl (ov_lss rfl rfl) ?_
  refine LD.nil ?_
  refine QM.sub (e' := [(1, _), (6, _), (7, _), (9, _), (10, _), (54, _)]) au9 (QM.then ?_)
  refine wpM.condD rfl (fun h1 => ?_) (fun h1 => ?_)
  ·
   refine wpM.seq (wpM.region ?_)
   refine LM.mv rfl ?_
   refine LM.st Try.sizeOf3 rfl rfl rfl au5 rfl (fun hlt => by first | exact inM_0 | exact inM_1 | exact inM_2' | exact absurd hlt (by omega)) ?_
   refine LM.nil (QM.sub (e' := [(1, _), (6, _), (7, _), (9, _)]) au9 (QM.then ?_))
   refine wpM.exit ?_
   refine QM.block_miss rfl ?_
   refine QM.rexit (k) (SubM.mem au1) (fun _ h => h) ?_
   · exact ⟨rfl, hkl, bal_at hnb hkl (by assumption)⟩
  refine wpM.skip ?_
  refine QM.block_normal ?_
  refine QM.next (⟨⟩) (SubM.mem au1) (fun _ h => h) ?_
  · exact fun j hj => by rcases Nat.lt_or_ge j k with q | q; exact hnb j q; rw [show j = k by omega]; assumption
 ·
  rintro ⟨⟩ D0 hD0 hnb
  rw [hrl] at hnb; have hbf := bal_no hnb
  refine QM.sub (e' := [(1, _), (6, _), (7, _), (9, _)]) au9 ?_
  refine QM.block_normal ?_
  refine QM.then ?_
  refine wpM.seq ?_
  refine wpM.seq (wpM.region ?_)
  refine LM.rd (om_ld Try.isAgg3 rfl rfl) ?_
  refine LM.val (ov_eql rfl rfl) ?_
  refine LM.nil (QM.sub (e' := [(1, _), (6, _), (7, _), (9, _), (57, _)]) au9 (QM.then ?_))
  refine wpM.condD rfl (fun h2 => ?_) (fun h2 => ?_)
  ·
   refine wpM.seq (wpM.region ?_)
   refine LM.as rfl (LM.as rfl (LM.as rfl (LM.as rfl ?_)))
   refine LM.nil (QM.sub (e' := [(2, _), (3, _), (4, _), (5, _)]) au9 (QM.then ?_))
   refine wpM.ret ?_
   refine QM.then_ret ?_
   refine QM.leaveDF (ds := [D0]) (.inl rfl) [.tmp 2, .tmp 3, .tmp 4, .tmp 5] Try.results48 rfl (fun D h => by simp only [List.mem_cons, List.not_mem_nil, or_false] at h; omega) ?_
   intro w' hm' hc'
   rw [show balI qs = -1 by unfold balI; rw [hbf], show balA qs = -1 by unfold balA; rw [hbf], show balB qs = -1 by unfold balB; rw [hbf], show balX qs = qs by unfold balX; rw [hbf], hbf]; exact crm_leaf hw hn hs hq hew heg hwh hwg hb hbw hbg hm' (by (repeat' (first | exact SubM.nil _ | refine SubM.cons (by rfl) ?_ | refine SubM.app ?_))) hc' (inn_refl _ _)
  exact absurd rfl h2
 ·
  rintro kx D0 hD0 hx
  first | exact hx.elim | cases hx.1
 rintro id kx D0 hD0 hx
 obtain ⟨he, hkx, hbf⟩ := hx; cases he; obtain ⟨hb1, hb2, hb3, hb4, hb5, hb6, hb7⟩ := bal_some hw hbf
 refine QM.block_hit ?_
 refine QM.then ?_
 refine wpM.seq ?_
 refine wpM.seq (wpM.region ?_)
 refine LM.rd (om_ld Try.isAgg3 rfl rfl) ?_
 refine LM.val (ov_eql rfl rfl) ?_
 refine LM.nil (QM.sub (e' := [(1, _), (6, _), (7, _), (9, _), (57, _)]) au9 (QM.then ?_))
 refine wpM.condD rfl (fun h3 => ?_) (fun h3 => ?_)
 ·
  (have := (hw.wf _ hmo).pos _ hb1; omega)
 refine wpM.skip ?_
 refine QM.then (wpM.seq (wpM.region ?_))
 refine LM.rd (om_ld Try.isAgg65 rfl rfl) ?_
 refine LM.rd (om_ld Try.isAgg3 rfl rfl) ?_
 refine LM.mv rfl ?_
 refine LM.cU (oc_call (enters_fn Try.func84 (by kernel_rfl) rfl) rfl) (fun w hm hc hg => carry_spec _ (le qs) w hC (by rw [hb4]; exact hb5) hb6 hb7 (Nat.le_trans hn0 hc.size) (by have h9 := hm.pick (coC b ad n cap bw bg :: (bw, .map esw clw) :: (bg, .map esg clg) :: (ms ++ (mm ++ []))); rw [List.append_nil] at h9; exact h9)) hC.wlk (fun p hp _ => ⟨p, hp, rfl⟩) ?_
 rintro u61 m61 ⟨rfl, hq61⟩ hin61
 refine LM.nil (QM.sub (e' := [(6, _), (7, _), (9, _)]) au9 (QM.then (wpM.seq (wpM.region ?_))))
 refine LM.rd (om_ld Try.isAgg3 rfl rfl) ?_
 refine LM.mv rfl (LM.mv rfl (LM.as rfl (LM.as rfl (LM.as rfl (LM.as rfl ?_)))))
 refine LM.nil (QM.sub (e' := [(2, _), (3, _), (4, _), (5, _)]) au9 (QM.then ?_))
 refine wpM.ret ?_
 refine QM.leaveDF (ds := [D0]) (.inl rfl) [.tmp 2, .tmp 3, .tmp 4, .tmp 5] Try.results48 rfl (fun D h => by simp only [List.mem_cons, List.not_mem_nil, or_false] at h; omega) ?_
 intro w' hm' hc'
 rw [show balI qs = ((rdyO (qg qs (mo qs))).getD kx default).id by unfold balI; rw [hbf], show balA qs = (mo qs : Nat) by unfold balA; rw [hbf], show balB qs = (le qs : Nat) by unfold balB; rw [hbf], show balX qs = carX qs ((rdyO (qg qs (mo qs))).getD kx default).id (le qs) by unfold balX; rw [hbf], hbf]; exact upd_m ⟨rfl, hq61⟩ hm' (by (repeat' (first | exact SubM.nil _ | refine SubM.cons (by rfl) ?_ | refine SubM.app ?_))) hc' hin61
end Go.Eng
namespace Go.Eng
open Go Go.Proofs Go.RowKit
section
variable {n0 b : Nat} {qs : List Qm} {m : Mem0} {w : World} (h : CrM n0 b qs m) (hM : Mem w m)
include h hM
theorem cOf_r (a : Int) : Ret Try.prog 49 #[.pointer (some ⟨b, 0, none⟩), .int .i64 a] w (fun u w' => u = .int .i64 (ofO qs a) ∧ Ext w w') := by
  obtain ⟨hw, ad, n, cap, bw, bg, esw, clw, esg, clg, lw, lg, ms, mm, bs, rfl, hn, hs, hq, hew, heg, hwh, hwg, hb, hbw, hbg⟩ := h
  exact cOf_spec a w hew hwh (hM.pick (coC b ad n cap bw bg :: (bw, .map esw clw) :: []))
theorem cLen_r : Ret Try.prog 44 #[.pointer (some ⟨b, 0, none⟩)] w (fun u w' => u = .int .i64 (qs.length : Nat) ∧ Ext w w') := by
  obtain ⟨hw, ad, n, cap, bw, bg, esw, clw, esg, clg, lw, lg, ms, mm, bs, rfl, hn, hs, hq, hew, heg, hwh, hwg, hb, hbw, hbg⟩ := h
  rw [← hn]
  exact cLen_spec w (hM.pick (coC b ad n cap bw bg :: []))
theorem cLoads_r : Ret Try.prog 47 #[.pointer (some ⟨b, 0, none⟩)] w (New fI 3 1 (lds qs) w) := by
  obtain ⟨hw, ad, n, cap, bw, bg, esw, clw, esg, clg, lw, lg, ms, mm, bs, rfl, hn, hs, hq, hew, heg, hwh, hwg, hb, hbw, hbg⟩ := h
  exact cLoads_spec w hn (by have := hw.len; omega) hs hq (hM.pick (coC b ad n cap bw bg :: (ms ++ mm)))
end
theorem cadd_len (qs : List Qm) (core a : Int) (v : BitVec 64) (w : Int) : (cAddX qs core a v w).length = qs.length := by unfold cAddX; split; exact List.length_set; rfl
theorem car_len (qs : List Qm) (a : Int) (to : Nat) : (carX qs a to).length = qs.length := by unfold carX carX1; rw [List.length_set, List.length_set]
theorem bal_len (qs : List Qm) : (balX qs).length = qs.length := by unfold balX; split; rfl; exact car_len ..
def aw1 : List Qm := cAddX (newQs 2 1) ((0 : Nat) : Int) 1 0#64 3
def aw2 : List Qm := cAddX aw1 ((0 : Nat) : Int) 2 0#64 2
def aw3 : List Qm := cAddX aw2 ((1 : Nat) : Int) 3 0#64 1
theorem aw_len : (newQs 2 1).length = 2 ∧ aw1.length = 2 ∧ aw2.length = 2 ∧ aw3.length = 2 := by
  have h0 : (newQs 2 1).length = 2 := by rw [newQs_len]; decide
  exact ⟨h0, by rw [aw1, cadd_len, h0], by rw [aw2, cadd_len, aw1, cadd_len, h0], by rw [aw3, cadd_len, aw2, cadd_len, aw1, cadd_len, h0]⟩
theorem aw_facts : balI aw3 = 1 ∧ balA aw3 = 0 ∧ balB aw3 = 1 ∧ (balF aw3).isSome = true ∧ lds (balX aw3) = [2, 4] ∧ ofO (balX aw3) 1 = 1 ∧ cMovE (balX aw3) ((0 : Nat) : Int) 2 = 12 := by
  refine ⟨?_, ?_, ?_, ?_, ?_, ?_, ?_⟩ <;> kernel_rfl
set_option maxRecDepth 100000 in
theorem awake17_spec (w : World) : Ret Try.prog 42 #[] w (fun v w' => v = .bool true ∧ Ext w w') := by
 obtain ⟨e0, e1, e2, e3⟩ := aw_len; obtain ⟨f1, f2, f3, f4, f5, f6, f7⟩ := aw_facts
 refine Ret.enterM (l := []) Try.func42 rfl Try.ntmps42 rfl ([]) (no) (Mem.nil w) ?_
 refine wpM.seq (wpM.region ?_)
 refine LM.as rfl ?_
 refine LM.nil (QM.sub (e' := []) trivial (QM.then (wpM.seq (wpM.region ?_))))
 refine LM.callT (oc_call (enters_fn Try.func43 (by kernel_rfl) rfl) rfl) CrN.mono (fun w hm hc hg => cNew_spec 2 1 w) ?_
 rintro u7 m7 ⟨b, rfl, h7⟩ hge7
 refine LM.as rfl ?_
 refine LM.nil (QM.sub (e' := [(1, _)]) ⟨rfl, trivial⟩ (QM.then (wpM.seq (wpM.region ?_))))
 refine LM.mv rfl ?_
 refine LM.cU (oc_call (enters_fn Try.func45 (by kernel_rfl) rfl) rfl) (fun w hm hc hg => cAdd_in 0 1 0#64 3 w h7 (by omega) hc.size (hm.pick m7)) h7.wlk (fun p hp hlt => absurd hlt (Nat.not_lt_of_le (h7.ge p hp))) ?_
 rintro u9 m9 ⟨rfl, h9⟩ hin9; change CrM w.heap.size b aw1 m9 at h9
 refine LM.nil (QM.sub (e' := [(1, _)]) ⟨rfl, trivial⟩ (QM.then (wpM.seq (wpM.region ?_))))
 refine LM.mv rfl ?_
 refine LM.cU (oc_call (enters_fn Try.func45 (by kernel_rfl) rfl) rfl) (fun w hm hc hg => cAdd_in 0 2 0#64 2 w h9 (by omega) hc.size (hm.pick m9)) h9.wlk (fun p hp hlt => absurd hlt (Nat.not_lt_of_le (h9.ge p hp))) ?_
 rintro u11 m11 ⟨rfl, h11⟩ hin11; change CrM w.heap.size b aw2 m11 at h11
 refine LM.nil (QM.sub (e' := [(1, _)]) ⟨rfl, trivial⟩ (QM.then (wpM.seq (wpM.region ?_))))
 refine LM.mv rfl ?_
 refine LM.cU (oc_call (enters_fn Try.func45 (by kernel_rfl) rfl) rfl) (fun w hm hc hg => cAdd_in 1 3 0#64 1 w h11 (by omega) hc.size (hm.pick m11)) h11.wlk (fun p hp hlt => absurd hlt (Nat.not_lt_of_le (h11.ge p hp))) ?_
 rintro u13 m13 ⟨rfl, h13⟩ hin13; change CrM w.heap.size b aw3 m13 at h13
 refine LM.nil (QM.sub (e' := [(1, _)]) ⟨rfl, trivial⟩ (QM.then (wpM.seq (wpM.region ?_))))
 refine LM.mv rfl ?_
 refine LM.cU (oc_call (enters_fn Try.func48 (by kernel_rfl) rfl) rfl) (fun w hm hc hg => bal_spec w h13 hc.size (hm.pick m13)) h13.wlk (fun p hp hlt => absurd hlt (Nat.not_lt_of_le (h13.ge p hp))) ?_
 rintro u16 m16 ⟨rfl, h16⟩ hin16; rw [f1, f2, f3, f4]
 refine LM.mv rfl ?_
 refine LM.val (ov_extract rfl rfl) ?_
 refine LM.val (ov_extract rfl rfl) ?_
 refine LM.val (ov_extract rfl rfl) ?_
 refine LM.val (ov_extract rfl rfl) ?_
 refine LM.as rfl (LM.as rfl (LM.as rfl (LM.as rfl ?_)))
 refine LM.nil (QM.sub (e' := [(1, _), (2, _), (3, _), (4, _), (5, _)]) au9 (QM.then (wpM.seq (wpM.region ?_))))
 refine LM.mv rfl ?_
 refine LM.cS (oc_call (enters_fn Try.func47 (by kernel_rfl) rfl) rfl) (fun w hm hc hg => (by have k := cLoads_r h16 (hm.pick m16); rw [f5] at k; exact k)) (fun ad22 n22 cap22 m22 hn22 hs22 => ?_)
 refine LM.as rfl ?_
 refine LM.nil (QM.sub (e' := [(1, _), (2, _), (3, _), (4, _), (5, _), (6, _)]) au9 (QM.then (wpM.seq (wpM.region ?_))))
 refine LM.mv rfl ?_
 refine LM.val (ov_eql rfl rfl) ?_
 refine LM.mv rfl ?_
 refine LM.splitD (t := 25) rfl (fun h1 => ?_) (fun h1 => ?_)
 ·
  refine LM.sp 25 rfl rfl rfl (LM.mv rfl (LM.sp 25 rfl rfl rfl ?_))
  refine LM.val (ov_eql rfl rfl) ?_
  refine LM.val (ov_pickT rfl rfl) ?_
  refine LM.mv rfl ?_
  refine LM.splitD (t := 29) rfl (fun h2 => ?_) (fun h2 => ?_)
  ·
   refine LM.sp 29 rfl rfl rfl (LM.mv rfl (LM.sp 29 rfl rfl rfl ?_))
   refine LM.val (ov_eql rfl rfl) ?_
   refine LM.val (ov_pickT rfl rfl) ?_
   refine LM.mv rfl ?_
   refine LM.splitD (t := 33) rfl (fun h3 => ?_) (fun h3 => ?_)
   ·
    refine LM.sp 33 rfl rfl rfl (LM.mv rfl ?_)
    refine LM.val (ov_pickT rfl rfl) ?_
    refine LM.mv rfl ?_
    first | refine LM.splitD (t := 36) rfl (fun h4 => ?_) (fun h4 => ?_) | refine LM.splitB (t := 36) rfl (fun h4 => ?_) (fun h4 => ?_)
    ·
     refine LM.sp 36 rfl rfl rfl (LM.mv rfl (LM.sp 36 rfl rfl rfl ?_))
     refine LM.val (ov_len Try.underlying47 rfl) ?_
     refine LM.sp 36 rfl rfl rfl ?_
     refine LM.val (ov_eql rfl rfl) ?_
     refine LM.val (ov_pickT rfl rfl) ?_
     refine LM.mv rfl ?_
     refine LM.splitD (t := 41) rfl (fun h5 => ?_) (fun h5 => ?_)
     ·
      refine LM.sp 41 rfl rfl rfl (LM.mv rfl (LM.sp 41 rfl rfl rfl ?_))
      refine LM.val (ov_idxSN (i := 0) au6 Try.underlying47 Try.sizeOf3 rfl rfl (by omega)) ?_
      refine LM.sp 41 rfl rfl rfl ?_
      refine LM.rd (om_sl1 (i := 0) (by assumption) (by intro _; rfl) Try.isAgg3 rfl rfl (by exact getq 0 au4) (by rfl)) ?_
      refine LM.sp 41 rfl rfl rfl ?_
      refine LM.val (ov_eql rfl rfl) ?_
      refine LM.val (ov_pickT rfl rfl) ?_
      refine LM.mv rfl ?_
      refine LM.splitD (t := 47) rfl (fun h6 => ?_) (fun h6 => ?_)
      ·
       refine LM.sp 47 rfl rfl rfl (LM.mv rfl (LM.sp 47 rfl rfl rfl ?_))
       refine LM.val (ov_idxSN (i := 1) au6 Try.underlying47 Try.sizeOf3 rfl rfl (by omega)) ?_
       refine LM.sp 47 rfl rfl rfl ?_
       refine LM.rd (om_sl1 (i := 1) (by assumption) (by intro _; rfl) Try.isAgg3 rfl rfl (by exact getq 0 au4) (by rfl)) ?_
       refine LM.sp 47 rfl rfl rfl ?_
       refine LM.val (ov_eql rfl rfl) ?_
       refine LM.val (ov_pickT rfl rfl) ?_
       refine LM.mv rfl ?_
       refine LM.splitD (t := 53) rfl (fun h7 => ?_) (fun h7 => ?_)
       ·
        refine LM.sp 53 rfl rfl rfl (LM.mv rfl (LM.sp 53 rfl rfl rfl ?_))
        refine LM.callE (oc_call (enters_fn Try.func49 (by kernel_rfl) rfl) rfl) (fun w hm hc hg => (by have k := cOf_r h16 (hm.pick m16) 1; rw [f6] at k; exact k)) ?_
        refine LM.sp 53 rfl rfl rfl ?_
        refine LM.val (ov_eql rfl rfl) ?_
        refine LM.val (ov_pickT rfl rfl) ?_
        refine LM.mv rfl ?_
        refine LM.splitD (t := 58) rfl (fun h8 => ?_) (fun h8 => ?_)
        ·
         refine LM.sp 58 rfl rfl rfl (LM.mv rfl (LM.sp 58 rfl rfl rfl ?_))
         refine LM.callE (oc_call (enters_fn Try.func44 (by kernel_rfl) rfl) rfl) (fun w hm hc hg => (by have k := cLen_r h16 (hm.pick m16); rw [bal_len, e3] at k; exact k)) ?_
         refine LM.sp 58 rfl rfl rfl ?_
         refine LM.val (ov_eql rfl rfl) ?_
         refine LM.val (ov_pickT rfl rfl) ?_
         refine LM.mv rfl ?_
         refine LM.splitD (t := 63) rfl (fun h9 => ?_) (fun h9 => ?_)
         ·
          refine LM.sp 63 rfl rfl rfl (LM.mv rfl (LM.sp 63 rfl rfl rfl ?_))
          refine LM.cU (oc_call (enters_fn Try.func52 (by kernel_rfl) rfl) rfl) (fun w hm hc hg => cMove_in 2 0 w h16 (by rw [bal_len]; omega) hc.size (hm.pick m16)) h16.wlk (fun p hp hlt => absurd hlt (Nat.not_lt_of_le (h16.ge p hp))) ?_
          rintro u65 m65 ⟨rfl, h65⟩ hin65; rw [f7]
          refine LM.sp 63 rfl rfl rfl ?_
          refine LM.val (ov_eql rfl rfl) ?_
          refine LM.val (ov_pickT rfl rfl) ?_
          refine LM.as rfl ?_
          refine LM.nil (QM.sub (e' := [(0, _)]) ⟨rfl, trivial⟩ (QM.then ?_))
          refine wpM.ret ?_
          refine QM.leave (.inl rfl) [.tmp 0] Try.results42 rfl ?_
          intro w' hm' hc' hg'
          exact ⟨rfl, hc'⟩
         refine LM.dr 63 rfl rfl rfl (LM.dr 63 rfl rfl rfl (LM.dr 63 rfl rfl rfl ?_))
         refine LM.val (ov_pickF rfl rfl) ?_
         refine LM.as rfl ?_
         refine LM.nil (QM.sub (e' := [(0, _)]) ⟨rfl, trivial⟩ (QM.then ?_))
         refine wpM.ret ?_
         refine QM.leave (.inl rfl) [.tmp 0] Try.results42 rfl ?_
         intro w' hm' hc' hg'
         first | exact ⟨rfl, hc'⟩ | (exfalso; first | omega | (simp at *; done) | (simp_all; done))
        refine LM.dr 58 rfl rfl rfl (LM.dr 58 rfl rfl rfl (LM.dr 58 rfl rfl rfl ?_))
        refine LM.val (ov_pickF rfl rfl) ?_
        refine LM.mv rfl (LM.dr 63 rfl rfl rfl (LM.dr 63 rfl rfl rfl (LM.dr 63 rfl rfl rfl ?_)))
        refine LM.val (ov_pickF rfl rfl) ?_
        refine LM.as rfl ?_
        refine LM.nil (QM.sub (e' := [(0, _)]) ⟨rfl, trivial⟩ (QM.then ?_))
        refine wpM.ret ?_
        refine QM.leave (.inl rfl) [.tmp 0] Try.results42 rfl ?_
        intro w' hm' hc' hg'
        first | exact ⟨rfl, hc'⟩ | (exfalso; first | omega | (simp at *; done) | (simp_all; done))
       refine LM.dr 53 rfl rfl rfl (LM.dr 53 rfl rfl rfl (LM.dr 53 rfl rfl rfl ?_))
       refine LM.val (ov_pickF rfl rfl) ?_
       refine LM.mv rfl (LM.dr 58 rfl rfl rfl (LM.dr 58 rfl rfl rfl (LM.dr 58 rfl rfl rfl ?_)))
       refine LM.val (ov_pickF rfl rfl) ?_
       refine LM.mv rfl (LM.dr 63 rfl rfl rfl (LM.dr 63 rfl rfl rfl (LM.dr 63 rfl rfl rfl ?_)))
       refine LM.val (ov_pickF rfl rfl) ?_
       refine LM.as rfl ?_
       refine LM.nil (QM.sub (e' := [(0, _)]) ⟨rfl, trivial⟩ (QM.then ?_))
       refine wpM.ret ?_
       refine QM.leave (.inl rfl) [.tmp 0] Try.results42 rfl ?_
       intro w' hm' hc' hg'
       first | exact ⟨rfl, hc'⟩ | (exfalso; first | omega | (simp at *; done) | (simp_all; done))
      refine LM.dr 47 rfl rfl rfl (LM.dr 47 rfl rfl rfl (LM.dr 47 rfl rfl rfl (LM.dr 47 rfl rfl rfl ?_)))
      refine LM.val (ov_pickF rfl rfl) ?_
      refine LM.mv rfl (LM.dr 53 rfl rfl rfl (LM.dr 53 rfl rfl rfl (LM.dr 53 rfl rfl rfl ?_)))
      refine LM.val (ov_pickF rfl rfl) ?_
      refine LM.mv rfl (LM.dr 58 rfl rfl rfl (LM.dr 58 rfl rfl rfl (LM.dr 58 rfl rfl rfl ?_)))
      refine LM.val (ov_pickF rfl rfl) ?_
      refine LM.mv rfl (LM.dr 63 rfl rfl rfl (LM.dr 63 rfl rfl rfl (LM.dr 63 rfl rfl rfl ?_)))
      refine LM.val (ov_pickF rfl rfl) ?_
      refine LM.as rfl ?_
      refine LM.nil (QM.sub (e' := [(0, _)]) ⟨rfl, trivial⟩ (QM.then ?_))
      refine wpM.ret ?_
      refine QM.leave (.inl rfl) [.tmp 0] Try.results42 rfl ?_
      intro w' hm' hc' hg'
      first | exact ⟨rfl, hc'⟩ | (exfalso; first | omega | (simp at *; done) | (simp_all; done))
     refine LM.dr 41 rfl rfl rfl (LM.dr 41 rfl rfl rfl (LM.dr 41 rfl rfl rfl (LM.dr 41 rfl rfl rfl ?_)))
     refine LM.val (ov_pickF rfl rfl) ?_
     refine LM.mv rfl (LM.dr 47 rfl rfl rfl (LM.dr 47 rfl rfl rfl (LM.dr 47 rfl rfl rfl (LM.dr 47 rfl rfl rfl ?_))))
     refine LM.val (ov_pickF rfl rfl) ?_
     refine LM.mv rfl (LM.dr 53 rfl rfl rfl (LM.dr 53 rfl rfl rfl (LM.dr 53 rfl rfl rfl ?_)))
     refine LM.val (ov_pickF rfl rfl) ?_
     refine LM.mv rfl (LM.dr 58 rfl rfl rfl (LM.dr 58 rfl rfl rfl (LM.dr 58 rfl rfl rfl ?_)))
     refine LM.val (ov_pickF rfl rfl) ?_
     refine LM.mv rfl (LM.dr 63 rfl rfl rfl (LM.dr 63 rfl rfl rfl (LM.dr 63 rfl rfl rfl ?_)))
     refine LM.val (ov_pickF rfl rfl) ?_
     refine LM.as rfl ?_
     refine LM.nil (QM.sub (e' := [(0, _)]) ⟨rfl, trivial⟩ (QM.then ?_))
     refine wpM.ret ?_
     refine QM.leave (.inl rfl) [.tmp 0] Try.results42 rfl ?_
     intro w' hm' hc' hg'
     first | exact ⟨rfl, hc'⟩ | (exfalso; first | omega | (simp at *; done) | (simp_all; done))
    refine LM.dr 36 rfl rfl rfl (LM.dr 36 rfl rfl rfl (LM.dr 36 rfl rfl rfl ?_))
    refine LM.val (ov_pickF rfl rfl) ?_
    refine LM.mv rfl (LM.dr 41 rfl rfl rfl (LM.dr 41 rfl rfl rfl (LM.dr 41 rfl rfl rfl (LM.dr 41 rfl rfl rfl ?_))))
    refine LM.val (ov_pickF rfl rfl) ?_
    refine LM.mv rfl (LM.dr 47 rfl rfl rfl (LM.dr 47 rfl rfl rfl (LM.dr 47 rfl rfl rfl (LM.dr 47 rfl rfl rfl ?_))))
    refine LM.val (ov_pickF rfl rfl) ?_
    refine LM.mv rfl (LM.dr 53 rfl rfl rfl (LM.dr 53 rfl rfl rfl (LM.dr 53 rfl rfl rfl ?_)))
    refine LM.val (ov_pickF rfl rfl) ?_
    refine LM.mv rfl (LM.dr 58 rfl rfl rfl (LM.dr 58 rfl rfl rfl (LM.dr 58 rfl rfl rfl ?_)))
    refine LM.val (ov_pickF rfl rfl) ?_
    refine LM.mv rfl (LM.dr 63 rfl rfl rfl (LM.dr 63 rfl rfl rfl (LM.dr 63 rfl rfl rfl ?_)))
    refine LM.val (ov_pickF rfl rfl) ?_
    refine LM.as rfl ?_
    refine LM.nil (QM.sub (e' := [(0, _)]) ⟨rfl, trivial⟩ (QM.then ?_))
    refine wpM.ret ?_
    refine QM.leave (.inl rfl) [.tmp 0] Try.results42 rfl ?_
    intro w' hm' hc' hg'
    first | exact ⟨rfl, hc'⟩ | (exfalso; first | omega | (simp at *; done) | (simp_all; done))
   refine LM.dr 33 rfl rfl rfl ?_
   refine LM.val (ov_pickF rfl rfl) ?_
   refine LM.mv rfl (LM.dr 36 rfl rfl rfl (LM.dr 36 rfl rfl rfl (LM.dr 36 rfl rfl rfl ?_)))
   refine LM.val (ov_pickF rfl rfl) ?_
   refine LM.mv rfl (LM.dr 41 rfl rfl rfl (LM.dr 41 rfl rfl rfl (LM.dr 41 rfl rfl rfl (LM.dr 41 rfl rfl rfl ?_))))
   refine LM.val (ov_pickF rfl rfl) ?_
   refine LM.mv rfl (LM.dr 47 rfl rfl rfl (LM.dr 47 rfl rfl rfl (LM.dr 47 rfl rfl rfl (LM.dr 47 rfl rfl rfl ?_))))
   refine LM.val (ov_pickF rfl rfl) ?_
   refine LM.mv rfl (LM.dr 53 rfl rfl rfl (LM.dr 53 rfl rfl rfl (LM.dr 53 rfl rfl rfl ?_)))
   refine LM.val (ov_pickF rfl rfl) ?_
   refine LM.mv rfl (LM.dr 58 rfl rfl rfl (LM.dr 58 rfl rfl rfl (LM.dr 58 rfl rfl rfl ?_)))
   refine LM.val (ov_pickF rfl rfl) ?_
   refine LM.mv rfl (LM.dr 63 rfl rfl rfl (LM.dr 63 rfl rfl rfl (LM.dr 63 rfl rfl rfl ?_)))
   refine LM.val (ov_pickF rfl rfl) ?_
   refine LM.as rfl ?_
   refine LM.nil (QM.sub (e' := [(0, _)]) ⟨rfl, trivial⟩ (QM.then ?_))
   refine wpM.ret ?_
   refine QM.leave (.inl rfl) [.tmp 0] Try.results42 rfl ?_
   intro w' hm' hc' hg'
   first | exact ⟨rfl, hc'⟩ | (exfalso; first | omega | (simp at *; done) | (simp_all; done))
  refine LM.dr 29 rfl rfl rfl (LM.dr 29 rfl rfl rfl ?_)
  refine LM.val (ov_pickF rfl rfl) ?_
  refine LM.mv rfl (LM.dr 33 rfl rfl rfl ?_)
  refine LM.val (ov_pickF rfl rfl) ?_
  refine LM.mv rfl (LM.dr 36 rfl rfl rfl (LM.dr 36 rfl rfl rfl (LM.dr 36 rfl rfl rfl ?_)))
  refine LM.val (ov_pickF rfl rfl) ?_
  refine LM.mv rfl (LM.dr 41 rfl rfl rfl (LM.dr 41 rfl rfl rfl (LM.dr 41 rfl rfl rfl (LM.dr 41 rfl rfl rfl ?_))))
  refine LM.val (ov_pickF rfl rfl) ?_
  refine LM.mv rfl (LM.dr 47 rfl rfl rfl (LM.dr 47 rfl rfl rfl (LM.dr 47 rfl rfl rfl (LM.dr 47 rfl rfl rfl ?_))))
  refine LM.val (ov_pickF rfl rfl) ?_
  refine LM.mv rfl (LM.dr 53 rfl rfl rfl (LM.dr 53 rfl rfl rfl (LM.dr 53 rfl rfl rfl ?_)))
  refine LM.val (ov_pickF rfl rfl) ?_
  refine LM.mv rfl (LM.dr 58 rfl rfl rfl (LM.dr 58 rfl rfl rfl (LM.dr 58 rfl rfl rfl ?_)))
  refine LM.val (ov_pickF rfl rfl) ?_
  refine LM.mv rfl (LM.dr 63 rfl rfl rfl (LM.dr 63 rfl rfl rfl (LM.dr 63 rfl rfl rfl ?_)))
  refine LM.val (ov_pickF rfl rfl) ?_
  refine LM.as rfl ?_
  refine LM.nil (QM.sub (e' := [(0, _)]) ⟨rfl, trivial⟩ (QM.then ?_))
  refine wpM.ret ?_
  refine QM.leave (.inl rfl) [.tmp 0] Try.results42 rfl ?_
  intro w' hm' hc' hg'
  first | exact ⟨rfl, hc'⟩ | (exfalso; first | omega | (simp at *; done) | (simp_all; done))
 refine LM.dr 25 rfl rfl rfl (LM.dr 25 rfl rfl rfl ?_)
 refine LM.val (ov_pickF rfl rfl) ?_
 refine LM.mv rfl (LM.dr 29 rfl rfl rfl (LM.dr 29 rfl rfl rfl ?_))
 refine LM.val (ov_pickF rfl rfl) ?_
 refine LM.mv rfl (LM.dr 33 rfl rfl rfl ?_)
 refine LM.val (ov_pickF rfl rfl) ?_
 refine LM.mv rfl (LM.dr 36 rfl rfl rfl (LM.dr 36 rfl rfl rfl (LM.dr 36 rfl rfl rfl ?_)))
 refine LM.val (ov_pickF rfl rfl) ?_
 refine LM.mv rfl (LM.dr 41 rfl rfl rfl (LM.dr 41 rfl rfl rfl (LM.dr 41 rfl rfl rfl (LM.dr 41 rfl rfl rfl ?_))))
 refine LM.val (ov_pickF rfl rfl) ?_
 refine LM.mv rfl (LM.dr 47 rfl rfl rfl (LM.dr 47 rfl rfl rfl (LM.dr 47 rfl rfl rfl (LM.dr 47 rfl rfl rfl ?_))))
 refine LM.val (ov_pickF rfl rfl) ?_
 refine LM.mv rfl (LM.dr 53 rfl rfl rfl (LM.dr 53 rfl rfl rfl (LM.dr 53 rfl rfl rfl ?_)))
 refine LM.val (ov_pickF rfl rfl) ?_
 refine LM.mv rfl (LM.dr 58 rfl rfl rfl (LM.dr 58 rfl rfl rfl (LM.dr 58 rfl rfl rfl ?_)))
 refine LM.val (ov_pickF rfl rfl) ?_
 refine LM.mv rfl (LM.dr 63 rfl rfl rfl (LM.dr 63 rfl rfl rfl (LM.dr 63 rfl rfl rfl ?_)))
 refine LM.val (ov_pickF rfl rfl) ?_
 refine LM.as rfl ?_
 refine LM.nil (QM.sub (e' := [(0, _)]) ⟨rfl, trivial⟩ (QM.then ?_))
 refine wpM.ret ?_
 refine QM.leave (.inl rfl) [.tmp 0] Try.results42 rfl ?_
 intro w' hm' hc' hg'
 first | exact ⟨rfl, hc'⟩ | (exfalso; first | omega | (simp at *; done) | (simp_all; done))
end Go.Eng
namespace Go.Eng
open Go Go.RowKit
def ldl (qs : List Qm) : List Int := qs.map (fun x => loadO x.l)
def sqL : List Int → Int
  | [] => 0
  | x :: l => x * x + sqL l
def smL : List Int → Int
  | [] => 0
  | x :: l => x + smL l
def phi (l : List Int) : Int := l.length * sqL l - smL l * smL l
theorem sq_nn (x : Int) : 0 ≤ x * x := by
  rcases Int.le_total 0 x with h | h
  · exact Int.mul_nonneg h h
  · have := Int.mul_nonneg (a := -x) (b := -x) (by omega) (by omega)
    rwa [Int.neg_mul_neg] at this
theorem sq_le {u d : Int} (h1 : -d ≤ u) (h2 : u ≤ d) : u * u ≤ d * d := by
  have h := Int.mul_nonneg (a := d - u) (b := d + u) (by omega) (by omega)
  have e : (d - u) * (d + u) = d * d - u * u := by grind
  omega
theorem phi_bd {l : List Int} (hl : l.length ≤ 4) {a b : Int} (h : ∀ x ∈ l, b ≤ x ∧ x ≤ a) (hd : 0 ≤ a - b) : 0 ≤ phi l ∧ phi l ≤ 6 * ((a - b) * (a - b)) := by
  have hdd := sq_nn (a - b)
  have hp : ∀ x ∈ l, ∀ y ∈ l, 0 ≤ (x - y) * (x - y) ∧ (x - y) * (x - y) ≤ (a - b) * (a - b) := fun x hx y hy =>
    ⟨sq_nn _, sq_le (by have := h x hx; have := h y hy; omega) (by have := h x hx; have := h y hy; omega)⟩
  match l, hl, hp with
  | [], _, _ => exact ⟨by decide, by show (0 : Int) ≤ _; omega⟩
  | [x], _, _ =>
    have e : phi [x] = 0 := by simp only [phi, sqL, smL, List.length_cons, List.length_nil]; grind
    rw [e]; omega
  | [x, y], _, hp =>
    have e : phi [x, y] = (x - y) * (x - y) := by simp only [phi, sqL, smL, List.length_cons, List.length_nil]; grind
    have h1 := hp x (by simp) y (by simp)
    rw [e]; omega
  | [x, y, z], _, hp =>
    have e : phi [x, y, z] = (x - y) * (x - y) + (x - z) * (x - z) + (y - z) * (y - z) := by simp only [phi, sqL, smL, List.length_cons, List.length_nil]; grind
    have h1 := hp x (by simp) y (by simp)
    have h2 := hp x (by simp) z (by simp)
    have h3 := hp y (by simp) z (by simp)
    rw [e]; omega
  | [x, y, z, t], _, hp =>
    have e : phi [x, y, z, t] = (x - y) * (x - y) + (x - z) * (x - z) + (x - t) * (x - t) + (y - z) * (y - z) + (y - t) * (y - t) + (z - t) * (z - t) := by simp only [phi, sqL, smL, List.length_cons, List.length_nil]; grind
    have h1 := hp x (by simp) y (by simp)
    have h2 := hp x (by simp) z (by simp)
    have h3 := hp x (by simp) t (by simp)
    have h4 := hp y (by simp) z (by simp)
    have h5 := hp y (by simp) t (by simp)
    have h6 := hp z (by simp) t (by simp)
    rw [e]; omega
  | _ :: _ :: _ :: _ :: _ :: _, hl, _ => exact absurd hl (by simp only [List.length_cons]; omega)
theorem sm_set : ∀ {l : List Int} {i : Nat} (h : i < l.length) (x : Int), smL (l.set i x) = smL l + (x - l.getD i 0)
  | [], i, h, x => by cases h
  | y :: l, 0, h, x => by show x + smL l = y + smL l + (x - y); omega
  | y :: l, i + 1, h, x => by
    have := sm_set (l := l) (Nat.lt_of_succ_lt_succ h) x
    show y + smL (l.set i x) = y + smL l + (x - l.getD i 0); omega
theorem sq_set : ∀ {l : List Int} {i : Nat} (h : i < l.length) (x : Int), sqL (l.set i x) = sqL l + (x * x - l.getD i 0 * l.getD i 0)
  | [], i, h, x => by cases h
  | y :: l, 0, h, x => by show x * x + sqL l = y * y + sqL l + (x * x - y * y); omega
  | y :: l, i + 1, h, x => by
    have := sq_set (l := l) (Nat.lt_of_succ_lt_succ h) x
    show y * y + sqL (l.set i x) = y * y + sqL l + (x * x - l.getD i 0 * l.getD i 0); omega
theorem sq_sm : ∀ {l : List Int}, (∀ x ∈ l, 0 ≤ x) → 0 ≤ smL l ∧ sqL l ≤ smL l * smL l
  | [], _ => ⟨Int.le_refl _, Int.le_refl _⟩
  | x :: l, h => by
    obtain ⟨h1, h2⟩ := sq_sm (l := l) (fun y hy => h y (List.mem_cons_of_mem _ hy))
    have hx := h x (List.mem_cons_self ..)
    have h3 := Int.mul_nonneg hx h1
    refine ⟨by show 0 ≤ x + smL l; omega, ?_⟩
    show x * x + sqL l ≤ (x + smL l) * (x + smL l)
    have e : (x + smL l) * (x + smL l) = x * x + 2 * (x * smL l) + smL l * smL l := by grind
    omega
theorem phi_move {l : List Int} {i j : Nat} (hi : i < l.length) (hj : j < l.length) (hne : i ≠ j) (w : Int) :
    sqL ((l.set i (l.getD i 0 - w)).set j (l.getD j 0 + w)) = sqL l - 2 * (w * (l.getD i 0 - l.getD j 0 - w)) ∧ smL ((l.set i (l.getD i 0 - w)).set j (l.getD j 0 + w)) = smL l := by
  have hj2 : j < (l.set i (l.getD i 0 - w)).length := by rw [List.length_set]; exact hj
  have hg : (l.set i (l.getD i 0 - w)).getD j 0 = l.getD j 0 := by
    rw [List.getD_eq_getElem?_getD, List.getElem?_set_ne hne, ← List.getD_eq_getElem?_getD]
  refine ⟨?_, ?_⟩
  · rw [sq_set hj2, sq_set hi, hg]; grind
  · rw [sm_set hj2, sm_set hi, hg]; omega
theorem round_less {p p' d k w r : Int} (hk : 2 ≤ k) (hw : 1 ≤ w) (hd : w < d) (hp : p' = p - k * (2 * (w * (d - w)))) (h0 : 0 ≤ p') (h6 : p ≤ 6 * (d * d)) (hr : 0 ≤ r) (h : 9 * p ≤ r * r) : 6 ≤ r ∧ 9 * p' ≤ (r - 1) * (r - 1) := by
  -- w (d - w) ≥ d - 1
  have h1 := Int.mul_nonneg (a := w - 1) (b := d - w - 1) (by omega) (by omega)
  have e1 : (w - 1) * (d - w - 1) = w * (d - w) - (d - 1) := by grind
  have h2 := Int.mul_nonneg (a := k - 2) (b := w * (d - w)) (by omega) (by omega)
  have e2 : (k - 2) * (w * (d - w)) = k * (w * (d - w)) - 2 * (w * (d - w)) := by grind
  have e3 : k * (2 * (w * (d - w))) = 2 * (k * (w * (d - w))) := by grind
  have h3 : p' ≤ p - 4 * (d - 1) := by omega
  have hp4 : 36 ≤ r * r := by omega
  have h6r : 6 ≤ r := by
    apply Classical.byContradiction
    intro q
    have := sq_le (u := r) (d := 5) (by omega) (by omega)
    omega
  refine ⟨h6r, ?_⟩
  have e4 : (r - 1) * (r - 1) = r * r - 2 * r + 1 := by grind
  rcases Int.lt_or_le (18 * d) (2 * r - 1) with q | q
  · have h7 := sq_le (u := 18 * d) (d := 2 * r - 1) (by omega) (by omega)
    have e5 : 18 * d * (18 * d) = 324 * (d * d) := by grind
    have e6 : (2 * r - 1) * (2 * r - 1) = 4 * (r * r) - 4 * r + 1 := by grind
    have h8 := Int.mul_nonneg (a := r - 6) (b := r - 6) (by omega) (by omega)
    have e7 : (r - 6) * (r - 6) = r * r - 12 * r + 36 := by grind
    omega
  · omega
/-! ### what is balanced -/
theorem ldl_len (qs : List Qm) : (ldl qs).length = qs.length := by simp [ldl]
theorem ldl_get {qs : List Qm} {i : Nat} (h : i < qs.length) : (ldl qs).getD i 0 = ldN qs i := by
  unfold ldl ldN
  rw [qg_eq h, List.getD_eq_getElem?_getD, List.getElem?_map, List.getElem?_eq_getElem h]; rfl
theorem ldl_car {qs : List Qm} (h : CWf qs) {a : Int} (ha : ofN qs a < qs.length) {to : Nat} (ht : to < qs.length) (hne : to ≠ ofN qs a) :
    ldl (carX qs a to) = ((ldl qs).set (ofN qs a) ((ldl qs).getD (ofN qs a) 0 - (gQ (qg qs (ofN qs a)).l a).x)).set to ((ldl qs).getD to 0 + (gQ (qg qs (ofN qs a)).l a).x) := by
  have hx := (h.wf _ ha).wt _ (has_get (of_hit ha)).1
  rw [ldl_get ha, ldl_get ht]
  unfold carX carX1 ldl
  rw [List.map_set, List.map_set, rem_l, load_erase (of_hit ha)]
  congr 1
  show loadO ((qg qs to).l ++ [(⟨_, a, bringO (gQ (qg qs (ofN qs a)).l a).x 1 4096⟩ : Kv)]) = _
  rw [← load_new, bring_id hx]
theorem ldl_mem {qs : List Qm} {x : Int} (hx : x ∈ ldl qs) : ∃ i, i < qs.length ∧ x = ldN qs i := by
  obtain ⟨i, hi, rfl⟩ := List.getElem_of_mem hx
  rw [ldl_len] at hi
  refine ⟨i, hi, ?_⟩
  rw [← ldl_get hi, List.getD_eq_getElem?_getD, List.getElem?_eq_getElem (by rw [ldl_len]; exact hi)]; rfl
theorem phi_nn {qs : List Qm} (h : CWf qs) : 0 ≤ phi (ldl qs) ∧ phi (ldl qs) ≤ 6 * (difO qs * difO qs) := by
  have hm := least_le (qs := qs) qs.length (mo qs) (most_lt h.len.1 _ (Nat.le_refl _))
  refine phi_bd (by rw [ldl_len]; exact h.len.2) (fun x hx => ?_) (by have hm2 : ldN qs (le qs) ≤ ldN qs (mo qs) := hm; omega)
  obtain ⟨i, hi, rfl⟩ := ldl_mem hx
  exact ⟨least_le _ _ hi, most_ge _ _ hi⟩
theorem bal_less {qs : List Qm} (h : CWf qs) {t : Kv} (hb : balF qs = some t) {r : Int} (hr : 0 ≤ r) (h9 : 9 * phi (ldl qs) ≤ r * r) :
    CWf (balX qs) ∧ 6 ≤ r ∧ 9 * phi (ldl (balX qs)) ≤ (r - 1) * (r - 1) ∧ sqL (ldl (balX qs)) < sqL (ldl qs) ∧ ofN (balX qs) t.id = le qs ∧ mo qs ≠ le qs ∧ (balX qs).length = qs.length := by
  obtain ⟨h1, h2, h3, h4, h5, h6, h7⟩ := bal_some h hb
  have hX : balX qs = carX qs t.id (le qs) := by unfold balX; rw [hb]
  have hof : ofN qs t.id < qs.length := by rw [h4]; exact h5
  have hw := car_wf h hof h6 h7
  have hg : gQ (qg qs (ofN qs t.id)).l t.id = t := by rw [h4]; exact gQ_eq (h.wf _ h5) h1
  have hl := ldl_car h hof h6 h7
  rw [hg, h4] at hl
  have hne : mo qs ≠ le qs := fun e => h7 (by rw [h4, e])
  have hm := phi_move (l := ldl qs) (i := mo qs) (j := le qs) (by rw [ldl_len]; exact h5) (by rw [ldl_len]; exact h6) hne t.x
  rw [← hl, ldl_get h5, ldl_get h6] at hm
  have htx := ((h.wf _ h5).wt t h1).1
  have hdif : difO qs = ldN qs (mo qs) - ldN qs (le qs) := rfl
  rw [← hdif] at hm
  have hlen : (carX qs t.id (le qs)).length = qs.length := by unfold carX carX1; rw [List.length_set, List.length_set]
  have hp : phi (ldl (carX qs t.id (le qs))) = phi (ldl qs) - ((ldl qs).length : Int) * (2 * (t.x * (difO qs - t.x))) := by
    unfold phi
    rw [hm.1, hm.2, ldl_len, ldl_len, hlen]
    grind
  have hk : (2 : Int) ≤ ((ldl qs).length : Int) := by rw [ldl_len]; omega
  obtain ⟨k1, k2⟩ := round_less hk htx h3 hp (phi_nn hw).1 (phi_nn h).2 hr h9
  have hpos := Int.mul_nonneg (a := t.x - 1) (b := difO qs - t.x - 1) (by omega) (by omega)
  have e1 : (t.x - 1) * (difO qs - t.x - 1) = t.x * (difO qs - t.x) - (difO qs - 1) := by grind
  rw [hX]
  exact ⟨hw, k1, k2, by rw [hm.1]; omega, car_of h hof h6 h7, hne, hlen⟩
end Go.Eng
namespace Go.Eng
open Go Go.Proofs Go.RowKit
def fW (n : Int) : List Value := [.int .u8 n]
theorem sqL_app : ∀ (a b : List Int), sqL (a ++ b) = sqL a + sqL b
  | [], b => by show sqL b = 0 + sqL b; omega
  | x :: a, b => by have := sqL_app a b; show x * x + sqL (a ++ b) = x * x + sqL a + sqL b; omega
theorem sqL_bd : ∀ {l : List Int}, (∀ x ∈ l, 0 ≤ x ∧ x ≤ 65536) → 0 ≤ sqL l ∧ sqL l ≤ 4294967296 * l.length
  | [], _ => ⟨Int.le_refl _, Int.le_refl _⟩
  | x :: l, h => by
    obtain ⟨h1, h2⟩ := sqL_bd (l := l) (fun y hy => h y (List.mem_cons_of_mem _ hy))
    have hx := h x (List.mem_cons_self ..)
    have h3 := sq_nn x
    have h4 := sq_le (u := x) (d := 65536) (by omega) hx.2
    refine ⟨by show 0 ≤ x * x + sqL l; omega, ?_⟩
    show x * x + sqL l ≤ 4294967296 * ((l.length + 1 : Nat) : Int)
    omega
theorem ldl_bd {qs : List Qm} (h : CWf qs) : ∀ x ∈ ldl qs, 0 ≤ x ∧ x ≤ 65536 := fun x hx => by
  obtain ⟨i, hi, rfl⟩ := ldl_mem hx
  exact (h.wf i hi).load
theorem sqL_snoc {l : List Int} {i : Nat} (h : i < l.length) : sqL (l.take i) + l.getD i 0 * l.getD i 0 = sqL (l.take (i + 1)) := by
  rw [take_snoc 0 h, sqL_app]; show _ = _ + (l.getD i 0 * l.getD i 0 + 0); omega
def BalI (qs : List Qm) (i : Nat) : Prop := allO qs = i ∧ (∀ a, ofN qs a < qs.length → a < i) ∧ smL (ldl qs) ≤ 255 * i
theorem bal_new (k g : Int) : BalI (newQs k g) 0 := by
  refine ⟨newQs_all k g, fun a ha => absurd ha (newQs_no k g a), ?_⟩
  have : ∀ n, smL (ldl (List.replicate n (newQ g))) = 0 := fun n => by
    induction n with
    | zero => rfl
    | succ n ih => show loadO (newQ g).l + smL (ldl (List.replicate n (newQ g))) = 0; rw [ih]; rfl
  rw [newQs, this]; decide
theorem bal_add {qs : List Qm} (h : CWf qs) {c i : Nat} (hc : c < qs.length) (hi : BalI qs i) (h16 : i < 16) {w : Int} (hw : 0 ≤ w ∧ w ≤ 255) (v : BitVec 64) :
    cAddE qs (c : Nat) (i : Nat) = 0 ∧ BalI (cAddX qs (c : Nat) (i : Nat) v w) (i + 1) := by
  obtain ⟨h1, h2, h3⟩ := hi
  have hno : ¬ ofN qs (i : Nat) < qs.length := fun q => by have := h2 _ q; omega
  have hE : cAddE qs (c : Nat) (i : Nat) = 0 := by unfold cAddE; rw [if_neg (by omega), if_neg hno, if_neg (by omega)]
  have hwf := cadd_wf h hc (a := (i : Nat)) (by omega) hno (by omega) v w
  have hbr : bringO w 1 4096 ≤ 255 := by unfold bringO; split; omega; split <;> omega
  have hld := load_new (qg qs c).l (plcO (qg qs c) v (bringO w 1 4096)) (i : Nat) (bringO w 1 4096)
  refine ⟨hE, ?_⟩
  rw [show cAddX qs (c : Nat) (i : Nat) v w = qs.set c (addQ (qg qs c) (i : Nat) v w) from if_pos hE]
  refine ⟨?_, fun a ha => ?_, ?_⟩
  · have := all_set hc (addQ (qg qs c) (i : Nat) v w); rw [len_add] at this; omega
  · by_cases e : a = (i : Nat)
    · omega
    · rw [List.length_set, of_set hc (by rw [has_add]; exact ⟨fun q => q.resolve_right e, .inl⟩)] at ha
      have := h2 a ha; omega
  · have e : ldl (qs.set c (addQ (qg qs c) (i : Nat) v w)) = (ldl qs).set c (loadO (addQ (qg qs c) (i : Nat) v w).l) := by unfold ldl; rw [List.map_set]
    rw [e, sm_set (by rw [ldl_len]; exact hc), ldl_get hc]
    have : loadO (addQ (qg qs c) (i : Nat) v w).l = loadO (qg qs c).l + bringO w 1 4096 := hld.symm
    rw [this]; unfold ldN; omega
theorem bal_start {qs : List Qm} (h : CWf qs) {i : Nat} (hi : BalI qs i) (h16 : i ≤ 16) : 9 * phi (ldl qs) ≤ (24480 - ((0 : Nat) : Int)) * (24480 - ((0 : Nat) : Int)) := by
  obtain ⟨h1, h2⟩ := sq_sm (l := ldl qs) (fun x hx => (ldl_bd h x hx).1)
  have h3 := sq_le (u := smL (ldl qs)) (d := 4080) (by omega) (by have := hi.2.2; omega)
  have h4 := sq_nn (smL (ldl qs))
  have hsq : 0 ≤ sqL (ldl qs) := (sqL_bd (ldl_bd h)).1
  have h5 := Int.mul_nonneg (a := 4 - ((ldl qs).length : Int)) (b := sqL (ldl qs)) (by rw [ldl_len]; have := h.len; omega) hsq
  have e : (4 - ((ldl qs).length : Int)) * sqL (ldl qs) = 4 * sqL (ldl qs) - ((ldl qs).length : Int) * sqL (ldl qs) := by grind
  unfold phi
  have e2 : (24480 - ((0 : Nat) : Int)) * (24480 - ((0 : Nat) : Int)) = 599270400 := by decide
  omega
theorem bal_none {qs : List Qm} (hb : balF qs = none) : balI qs = -1 ∧ balA qs = -1 ∧ balB qs = -1 ∧ balX qs = qs := by
  refine ⟨?_, ?_, ?_, ?_⟩
  · unfold balI; rw [hb]
  · unfold balA; rw [hb]
  · unfold balB; rw [hb]
  · unfold balX; rw [hb]
theorem bal_hit {qs : List Qm} {t : Kv} (hb : balF qs = some t) : balI qs = t.id ∧ balA qs = (mo qs : Nat) ∧ balB qs = (le qs : Nat) := by
  refine ⟨?_, ?_, ?_⟩
  · unfold balI; rw [hb]
  · unfold balA; rw [hb]
  · unfold balB; rw [hb]
set_option maxRecDepth 100000 in
theorem squares_spec {l : List Int} {ad : Option Addr} {n cap : Nat} (w : World) (hn : n = l.length) (hl : Sr fI 1 l (.slice ad n cap) w) (h4 : l.length ≤ 4) (hbd : ∀ x ∈ l, 0 ≤ x ∧ x ≤ 65536) : Ret Try.prog 46 #[.slice ad n cap] w (fun v w' => v = .int .i64 (sqL l) ∧ Ext w w') := by
 refine Ret.enterM (l := [.slice ad n cap]) Try.func46 rfl Try.ntmps46 rfl ([]) (no) (Mem.nil w) ?_
 refine wpM.seq (wpM.region ?_)
 refine LM.as rfl ?_
 refine LM.nil (QM.sub (e' := [(0, _)]) ⟨rfl, trivial⟩ (QM.then (wpM.seq (wpM.region ?_))))
 refine LM.as rfl ?_
 refine LM.nil (QM.sub (e' := [(0, _), (3, _)]) au9 (QM.then ?_))
 refine wpM.seq ?_
 refine wpM.seq (wpM.region ?_)
 refine LM.mv rfl ?_
 refine LM.val (ov_len Try.underlying47 rfl) ?_
 refine LM.mv rfl ?_
 refine LM.nil (QM.sub (e' := [(3, _), (6, _), (7, _), (8, _)]) au9 (QM.then ?_))
 refine wpM.block ?_
 refine wpM.loopK0 (α := Nat) (fun i => [(3, .int .i64 (sqL (l.take i))), (8, .int .i64 (i : Nat))]) [(6, _), (7, _)] (fun i => []) (fun i => i ≤ l.length) (fun i => l.length - i) (0) ⟨(by first | rfl | exact lk rfl (congrArg (Value.int .i64) (sqL_snoc (by omega)))), au2, rfl, rfl, trivial⟩ au1 (Nat.zero_le _) ?_
 rintro i hi
 change wpM _ _ _ _ _ _ _ ([]) _ _ _
 have hsb := sqL_bd (l := l.take i) (fun x hx => hbd x (List.mem_of_mem_take hx)); rw [List.length_take] at hsb
 refine wpM.seq (wpM.region ?_)
 refine LM.val (ov_lss rfl rfl) ?_
 refine LM.nil (QM.sub (e' := [(3, _), (6, _), (7, _), (8, _), (9, _)]) au9 (QM.then ?_))
 refine wpM.seq ?_
 refine wpM.condD rfl (fun h1 => ?_) (fun h1 => ?_)
 ·
  have hx := hbd (l.getD i 0) (by rw [List.getD_eq_getElem?_getD, List.getElem?_eq_getElem (by omega : i < l.length)]; exact List.getElem_mem _); have hxx := sq_nn (l.getD i 0); have hxy := sq_le (u := l.getD i 0) (d := 65536) (by omega) hx.2
  refine wpM.skip ?_
  refine QM.then ?_
  refine wpM.seq ?_
  refine wpM.block ?_
  refine wpM.seq (wpM.region ?_)
  refine LM.val (ov_idxSN au6 Try.underlying47 Try.sizeOf3 rfl rfl (by omega)) ?_
  first | refine LM.rd (om_sl1 (by assumption) (by intro _; rfl) Try.isAgg3 rfl rfl (by exact getq 0 au4) (by rfl)) ?_ | refine LM.rdC (om_sr1 (by assumption) Try.isAgg3 rfl rfl (by exact getq 0 au4) (by rfl) id) ?_ | refine LM.rd (om_ld Try.isAgg3 rfl rfl) ?_
  refine LM.as rfl ?_
  refine LM.nil (QM.sub (e' := [(3, _), (5, _), (6, _), (7, _), (8, _)]) au9 (QM.then (wpM.region ?_)))
  refine LM.mv rfl (LM.mv rfl (LM.mv rfl ?_))
  refine LM.val (ov_mul64 rfl rfl (by omega)) ?_
  refine LM.val (ov_add64 rfl rfl (by omega)) ?_
  refine LM.as rfl ?_
  refine LM.nil (QM.sub (e' := [(3, _), (6, _), (7, _), (8, _)]) au9 ?_)
  refine QM.block_normal ?_
  refine QM.then (wpM.region ?_)
  refine LM.val (ov_add64 rfl rfl (by omega)) ?_
  refine LM.mv rfl ?_
  refine LM.nil (QM.sub (e' := [(3, _), (6, _), (7, _), (8, _)]) au9 ?_)
  refine QM.againK (i + 1) ⟨(by first | rfl | exact lk rfl (congrArg (Value.int .i64) (sqL_snoc (by omega)))), au2, rfl, rfl, trivial⟩ au1 (fun _ h => h) ?_ ?_
  · omega
  · omega
 refine wpM.exit ?_
 refine QM.then_exit ?_
 refine QM.then_exit ?_
 refine QM.block_hit ?_
 refine QM.then (wpM.seq (wpM.region ?_))
 refine LM.mv rfl (LM.as rfl ?_)
 refine LM.nil (QM.sub (e' := [(2, _)]) ⟨rfl, trivial⟩ (QM.then ?_))
 refine wpM.ret ?_
 refine QM.leave (.inl rfl) [.tmp 2] Try.results46 rfl ?_
 intro w' hm' hc' hg'
 have hil : i = l.length := (by omega); subst hil; refine ⟨?_, hc'⟩; show Value.int .i64 (sqL (l.take l.length)) = _; rw [List.take_length]
set_option maxRecDepth 100000 in
theorem coresBalance {xs : List Int} {ad : Option Addr} {n cap : Nat} (k each : Int) (w : World) (hn : n = xs.length) (hl : Sr fW 1 xs (.slice ad n cap) w) (hk : ∀ x ∈ xs, 0 ≤ x ∧ x ≤ 255) (he : 0 ≤ each ∧ each ≤ 255) : Ret Try.prog 8 #[.int .i64 k, .slice ad n cap, .int .u8 each] w (fun v w' => v = .bool true ∧ Ext w w') := by
 refine Ret.enterM (l := [.int .i64 k, .slice ad n cap, .int .u8 each]) Try.func8 rfl Try.ntmps8 rfl ([]) (no) (Mem.nil w) ?_
 refine wpM.seq (wpM.region ?_)
 refine LM.as rfl ?_
 refine LM.nil (QM.sub (e' := [(0, _), (1, _), (2, _)]) au9 (QM.then ?_))
 refine wpM.seq ?_
 refine wpM.seq (wpM.region ?_)
 refine LM.callE (oc_call (enters_fn Try.func42 (by kernel_rfl) rfl) rfl) (fun w hm hc hg => awake17_spec w) ?_
 first | refine LM.val (ov_notD rfl) ?_ | refine LM.val (ov_not rfl) ?_
 refine LM.nil (QM.sub (e' := [(0, _), (1, _), (2, _), (20, _)]) au9 (QM.then ?_))
 first | refine wpM.condD rfl (fun h1 => ?_) (fun h1 => ?_) | refine wpM.condB rfl (fun h1 => ?_) (fun h1 => ?_)
 ·
  cases h1
 refine wpM.skip ?_
 refine QM.then ?_
 refine wpM.seq ?_
 refine wpM.seq (wpM.region ?_)
 refine LM.mv rfl ?_
 refine LM.val (ov_len Try.underlying22 rfl) ?_
 refine LM.val (ov_gtr rfl rfl) ?_
 refine LM.nil (QM.sub (e' := [(0, _), (1, _), (2, _), (23, _)]) au9 (QM.then ?_))
 refine wpM.condD rfl (fun h2 => ?_) (fun h2 => ?_)
 ·
  refine wpM.seq (wpM.region ?_)
  refine LM.as rfl ?_
  refine LM.nil (QM.sub (e' := [(6, _)]) ⟨rfl, trivial⟩ (QM.then ?_))
  refine wpM.ret ?_
  refine QM.then_ret ?_
  refine QM.leave (.inl rfl) [.tmp 6] Try.results8 rfl ?_
  intro w' hm' hc' hg'
  exact ⟨rfl, hc'⟩
 refine wpM.skip ?_
 refine QM.then (wpM.seq (wpM.region ?_))
 refine LM.mv rfl ?_
 refine LM.callT (oc_call (enters_fn Try.func43 (by kernel_rfl) rfl) rfl) CrN.mono (fun w hm hc hg => cNew_spec k 1 w) ?_
 rintro u25 m25 ⟨b, rfl, h25⟩ hge25
 refine LM.as rfl ?_
 refine LM.nil (QM.sub (e' := [(1, _), (2, _), (7, _)]) au9 (QM.then ?_))
 refine wpM.seq ?_
 refine wpM.seq (wpM.region ?_)
 refine LM.mv rfl ?_
 refine LM.val (ov_len Try.underlying22 rfl) ?_
 refine LM.mv rfl ?_
 refine LM.nil (QM.sub (e' := [(2, _), (7, _), (26, _), (27, _), (28, _)]) au9 (QM.then ?_))
 refine wpM.block ?_
 refine wpM.loopK0 (α := Nat × List Qm × Mem0) (fun ⟨i, qs, mq⟩ => [(28, .int .i64 (i : Nat))]) [(2, _), (7, _), (26, _), (27, _)] (fun ⟨i, qs, mq⟩ => mq ++ []) (fun ⟨i, qs, mq⟩ => i ≤ xs.length ∧ CrM w.heap.size b qs mq ∧ BalI qs i) (fun ⟨i, qs, mq⟩ => xs.length - i) ((0, newQs k 1, m25)) ⟨au2, rfl, rfl, rfl, rfl, trivial⟩ au1 ⟨Nat.zero_le _, h25, bal_new k 1⟩ ?_
 rintro ⟨i, qs, mq⟩ ⟨hi, hq, hbi⟩
 change wpM _ _ _ _ _ _ _ (mq ++ []) _ _ _
 have hcw := hq.1; have hcl := hcw.len
 refine wpM.seq (wpM.region ?_)
 refine LM.val (ov_lss rfl rfl) ?_
 refine LM.nil (QM.sub (e' := [(2, _), (7, _), (26, _), (27, _), (28, _), (29, _)]) au9 (QM.then ?_))
 refine wpM.seq ?_
 refine wpM.condD rfl (fun h3 => ?_) (fun h3 => ?_)
 ·
  have hx := hk (xs.getD i 0) (by rw [List.getD_eq_getElem?_getD, List.getElem?_eq_getElem (by omega : i < xs.length)]; exact List.getElem_mem _)
  refine wpM.skip ?_
  refine QM.then ?_
  refine wpM.seq ?_
  refine wpM.block ?_
  refine wpM.seq (wpM.region ?_)
  refine LM.mv rfl ?_
  refine LM.val (ov_idxSN au6 Try.underlying22 Try.sizeOf5 rfl rfl (by omega)) ?_
  first | refine LM.rd (om_sl1 (by assumption) (by intro _; rfl) Try.isAgg5 rfl rfl (by exact getq 0 au4) (by rfl)) ?_ | refine LM.rdC (om_sr1 (by assumption) Try.isAgg5 rfl rfl (by exact getq 0 au4) (by rfl) id) ?_ | refine LM.rd (om_ld Try.isAgg5 rfl rfl) ?_
  refine LM.as rfl (LM.as rfl ?_)
  refine LM.nil (QM.sub (e' := [(2, _), (7, _), (8, _), (9, _), (26, _), (27, _), (28, _)]) au9 (QM.then (wpM.seq (wpM.region ?_))))
  try rw [show (i : Int) % (qs.length : Int) = ((i % qs.length : Nat) : Int) from (Int.natCast_emod ..).symm]
  refine LM.as rfl ?_
  refine LM.nil (QM.sub (e' := [(2, _), (7, _), (8, _), (9, _), (10, _), (26, _), (27, _), (28, _)]) au9 (QM.then ?_))
  refine wpM.seq ?_
  refine wpM.seq (wpM.region ?_)
  refine LM.mv rfl (LM.mv rfl ?_)
  first | refine LM.val (ov_remK rfl rfl (by omega) (by omega)) ?_ | refine LM.val (ov_remJ rfl rfl (by omega) (by omega)) ?_
  refine LM.val (ov_to64 Try.underlying5 Try.underlying3 rfl (by omega)) ?_
  refine LM.val (ov_add64 rfl rfl (by omega)) ?_
  refine LM.val (ov_rem64 rfl rfl (by omega) (by omega)) ?_
  refine LM.val (ov_neq rfl rfl) ?_
  refine LM.nil (QM.sub (e' := [(2, _), (7, _), (8, _), (9, _), (10, _), (26, _), (27, _), (28, _), (39, _)]) au9 (QM.then ?_))
  refine wpM.joinK (α := Nat) (fun c => [(10, .int .i64 (c : Nat))]) [(2, _), (7, _), (8, _), (9, _), (26, _), (27, _), (28, _)] (fun c => mq ++ []) (fun c => c < qs.length) ⟨rfl, rfl, rfl, rfl, rfl, rfl, rfl, trivial⟩ ?_ ?_
  ·
   refine wpM.condD rfl (fun h4 => ?_) (fun h4 => ?_)
   ·
    refine wpM.region ?_
    refine LM.mv rfl (LM.mv rfl ?_)
    refine LM.callE (oc_call (enters_fn Try.func44 (by kernel_rfl) rfl) rfl) (fun w hm hc hg => cLen_r hq (hm.pick mq)) ?_
    refine LM.val (ov_rem64 rfl rfl (by omega) (by omega)) ?_
    try rw [show (i : Int) % (qs.length : Int) = ((i % qs.length : Nat) : Int) from (Int.natCast_emod ..).symm]
    refine LM.as rfl ?_
    refine LM.nil (QM.sub (e' := [(2, _), (7, _), (8, _), (9, _), (10, _), (26, _), (27, _), (28, _)]) au9 ?_)
    refine QM.meetK ((i % qs.length)) ⟨au2, rfl, rfl, rfl, rfl, rfl, rfl, rfl, trivial⟩ au1 ?_
    · exact Nat.mod_lt _ (by omega)
   refine wpM.skip ?_
   refine QM.meetK (0) ⟨au2, rfl, rfl, rfl, rfl, rfl, rfl, rfl, trivial⟩ au1 ?_
   · omega
  rintro c hcq
  change QM _ _ _ _ _ (mq ++ []) _ _ _
  obtain ⟨hE, hbi2⟩ := bal_add hcw hcq hbi (by omega) hx (BitVec.ofInt 64 (i : Nat))
  refine QM.then (wpM.seq (wpM.region ?_))
  refine LM.mv rfl (LM.mv rfl (LM.mv rfl (LM.mv rfl ?_)))
  refine LM.val (ov_toU Try.underlying3 Try.underlying26 rfl) ?_
  refine LM.mv rfl ?_
  refine LM.val (ov_to64 Try.underlying5 Try.underlying3 rfl (by omega)) ?_
  refine LM.cU (oc_call (enters_fn Try.func45 (by kernel_rfl) rfl) rfl) (fun w hm hc hg => cAdd_in c (i : Nat) (BitVec.ofInt 64 (i : Nat)) (xs.getD i 0) w hq hcq hc.size (hm.pick mq)) hq.wlk (fun p hp hlt => absurd hlt (Nat.not_lt_of_le (hq.ge p hp))) ?_
  rintro u52 m52 ⟨rfl, h52⟩ hin52; rw [hE]
  refine LM.mv rfl ?_
  refine LM.val (ov_extract rfl rfl) ?_
  refine LM.val (ov_extract rfl rfl) ?_
  refine LM.as rfl (LM.as rfl ?_)
  refine LM.nil (QM.sub (e' := [(2, _), (7, _), (12, _), (26, _), (27, _), (28, _)]) au9 (QM.then (wpM.seq (wpM.region ?_))))
  refine LM.mv rfl ?_
  refine LM.val (ov_neq rfl rfl) ?_
  refine LM.nil (QM.sub (e' := [(2, _), (7, _), (26, _), (27, _), (28, _), (56, _)]) au9 (QM.then ?_))
  refine wpM.condD rfl (fun h5 => ?_) (fun h5 => ?_)
  ·
   exact absurd rfl h5
  refine wpM.skip ?_
  refine QM.block_normal ?_
  refine QM.then (wpM.region ?_)
  refine LM.val (ov_add64 rfl rfl (by omega)) ?_
  refine LM.mv rfl ?_
  refine LM.nil (QM.sub (e' := [(2, _), (7, _), (26, _), (27, _), (28, _)]) au9 ?_)
  refine QM.againK (i + 1, cAddX qs (c : Nat) (i : Nat) (BitVec.ofInt 64 (i : Nat)) (xs.getD i 0), m52) ⟨au2, rfl, rfl, rfl, rfl, trivial⟩ au1 (fun _ h => h) ?_ ?_
  · exact ⟨by omega, h52, hbi2⟩
  · first | omega | (dsimp only; omega)
 refine wpM.exit ?_
 refine QM.then_exit ?_
 refine QM.then_exit ?_
 refine QM.block_hit ?_
 refine QM.then (wpM.seq (wpM.region ?_))
 refine LM.mv rfl ?_
 refine LM.cS (oc_call (enters_fn Try.func47 (by kernel_rfl) rfl) rfl) (fun w hm hc hg => cLoads_r hq (hm.pick mq)) (fun ad59 n59 cap59 m59 hn59 hs59 => ?_)
 refine LM.callE (oc_call (enters_fn Try.func46 (by kernel_rfl) rfl) rfl) (fun w hm hc hg => squares_spec (l := ldl qs) w hn59 (hs59.srM (by intro _; rfl) hm) (by rw [ldl_len]; omega) (ldl_bd hcw)) ?_
 refine LM.as rfl ?_
 refine LM.nil (QM.sub (e' := [(7, _), (13, _)]) au9 (QM.then ?_))
 refine wpM.seq ?_
 refine wpM.seq (wpM.region ?_)
 refine LM.mv rfl ?_
 refine LM.nil (QM.sub (e' := [(7, _), (13, _), (61, _)]) au9 (QM.then ?_))
 refine wpM.block ?_
 refine wpM.loopK0 (α := Nat × List Qm × Mem0) (fun ⟨i, qs, mq⟩ => [(13, .int .i64 (sqL (ldl qs))), (61, .int .i64 (i : Nat))]) [(7, _)] (fun ⟨i, qs, mq⟩ => mq ++ []) (fun ⟨i, qs, mq⟩ => CrM w.heap.size b qs mq ∧ i ≤ 24480 ∧ 9 * phi (ldl qs) ≤ (24480 - (i : Int)) * (24480 - (i : Int))) (fun ⟨i, qs, mq⟩ => 24480 - i) ((0, qs, mq)) ⟨au2, au2, rfl, trivial⟩ au1 ⟨hq, Nat.zero_le _, bal_start hcw hbi (by omega)⟩ ?_
 rintro ⟨i, qs, mq⟩ ⟨hq, hi, hph⟩
 change wpM _ _ _ _ _ _ _ (mq ++ []) _ _ _
 have hcw := hq.1; have hcl := hcw.len
 refine wpM.seq (wpM.region ?_)
 refine LM.val (ov_lss rfl rfl) ?_
 refine LM.nil (QM.sub (e' := [(7, _), (13, _), (61, _), (62, _)]) au9 (QM.then ?_))
 refine wpM.seq ?_
 refine wpM.condD rfl (fun h6 => ?_) (fun h6 => ?_)
 ·
  refine wpM.skip ?_
  refine QM.then ?_
  refine wpM.seq ?_
  refine wpM.block ?_
  refine wpM.seq (wpM.region ?_)
  refine LM.mv rfl ?_
  refine LM.cU (oc_call (enters_fn Try.func48 (by kernel_rfl) rfl) rfl) (fun w hm hc hg => bal_spec w hq hc.size (hm.pick mq)) hq.wlk (fun p hp hlt => absurd hlt (Nat.not_lt_of_le (hq.ge p hp))) ?_
  rintro u65 m65 ⟨rfl, h65⟩ hin65
  refine LM.mv rfl ?_
  refine LM.val (ov_extract rfl rfl) ?_
  refine LM.val (ov_extract rfl rfl) ?_
  refine LM.val (ov_extract rfl rfl) ?_
  refine LM.val (ov_extract rfl rfl) ?_
  refine LM.as rfl (LM.as rfl (LM.as rfl (LM.as rfl ?_)))
  refine LM.nil (QM.sub (e' := [(7, _), (13, _), (14, _), (15, _), (16, _), (17, _), (61, _)]) au9 (QM.then ?_))
  refine wpM.seq ?_
  refine wpM.seq (wpM.region ?_)
  refine LM.mv rfl ?_
  first | refine LM.val (ov_notD rfl) ?_ | refine LM.val (ov_not rfl) ?_
  refine LM.nil (QM.sub (e' := [(7, _), (13, _), (14, _), (15, _), (16, _), (61, _), (71, _)]) au9 (QM.then ?_))
  first | refine wpM.condD rfl (fun h7 => ?_) (fun h7 => ?_) | refine wpM.condB rfl (fun h7 => ?_) (fun h7 => ?_)
  ·
   have hbf : balF qs = none := (by simpa using h7); obtain ⟨q1, q2, q3, q4⟩ := bal_none hbf; rw [q1, q2, q3]
   refine wpM.seq (wpM.region ?_)
   refine LM.mv rfl ?_
   refine LM.val (ov_eql rfl rfl) ?_
   refine LM.mv rfl ?_
   refine LM.splitD (t := 74) rfl (fun h8 => ?_) (fun h8 => ?_)
   ·
    refine LM.sp 74 rfl rfl rfl (LM.mv rfl (LM.sp 74 rfl rfl rfl ?_))
    refine LM.val (ov_eql rfl rfl) ?_
    refine LM.val (ov_pickT rfl rfl) ?_
    refine LM.mv rfl ?_
    refine LM.splitD (t := 78) rfl (fun h9 => ?_) (fun h9 => ?_)
    ·
     refine LM.sp 78 rfl rfl rfl (LM.mv rfl (LM.sp 78 rfl rfl rfl ?_))
     refine LM.val (ov_eql rfl rfl) ?_
     refine LM.val (ov_pickT rfl rfl) ?_
     refine LM.mv rfl ?_
     refine LM.splitD (t := 82) rfl (fun h10 => ?_) (fun h10 => ?_)
     ·
      refine LM.sp 82 rfl rfl rfl (LM.mv rfl (LM.sp 82 rfl rfl rfl ?_))
      refine LM.cS (oc_call (enters_fn Try.func47 (by kernel_rfl) rfl) rfl) (fun w hm hc hg => cLoads_r h65 (hm.pick m65)) (fun ad84 n84 cap84 m84 hn84 hs84 => ?_)
      refine LM.sp 82 rfl rfl rfl ?_
      refine LM.callE (oc_call (enters_fn Try.func46 (by kernel_rfl) rfl) rfl) (fun w hm hc hg => squares_spec (l := ldl (balX qs)) w hn84 (hs84.srM (by intro _; rfl) hm) (by rw [ldl_len, bal_len]; omega) (ldl_bd h65.1)) ?_
      refine LM.sp 82 rfl rfl rfl (LM.mv rfl (LM.sp 82 rfl rfl rfl ?_))
      refine LM.val (ov_eql rfl rfl) ?_
      refine LM.val (ov_pickT rfl rfl) ?_
      refine LM.as rfl ?_
      refine LM.nil (QM.sub (e' := [(6, _)]) ⟨rfl, trivial⟩ (QM.then ?_))
      refine wpM.ret ?_
      refine QM.then_ret ?_
      refine QM.block_ret ?_
      refine QM.then_ret ?_
      refine QM.then_ret ?_
      refine QM.block_ret ?_
      refine QM.then_ret ?_
      refine QM.leave (.inl rfl) [.tmp 6] Try.results8 rfl ?_
      intro w' hm' hc' hg'
      refine ⟨?_, hc'⟩; show Value.bool (decide (sqL (ldl (balX qs)) = sqL (ldl qs))) = _; rw [q4, decide_eq_true rfl]
     exact absurd rfl h10
    exact absurd rfl h9
   exact absurd rfl h8
  obtain ⟨t, hbf⟩ := Option.isSome_iff_exists.1 (by simpa using h7 : (balF qs).isSome = true); obtain ⟨r1, r2, r3⟩ := bal_hit hbf; obtain ⟨hb1, hb2, hb3, hb4, hb5, hb6, hb7⟩ := bal_less hcw hbf (r := 24480 - (i : Int)) (by omega) hph; have hble : le qs < qs.length := least_lt hcl.1 _ (Nat.le_refl _); rw [r1, r2, r3]
  refine wpM.skip ?_
  refine QM.then (wpM.seq (wpM.region ?_))
  refine LM.mv rfl ?_
  refine LM.cS (oc_call (enters_fn Try.func47 (by kernel_rfl) rfl) rfl) (fun w hm hc hg => cLoads_r h65 (hm.pick m65)) (fun ad90 n90 cap90 m90 hn90 hs90 => ?_)
  refine LM.callE (oc_call (enters_fn Try.func46 (by kernel_rfl) rfl) rfl) (fun w hm hc hg => squares_spec (l := ldl (balX qs)) w hn90 (hs90.srM (by intro _; rfl) hm) (by rw [ldl_len, bal_len]; omega) (ldl_bd h65.1)) ?_
  refine LM.as rfl ?_
  refine LM.nil (QM.sub (e' := [(7, _), (13, _), (14, _), (15, _), (16, _), (18, _), (61, _)]) au9 (QM.then ?_))
  refine wpM.seq ?_
  refine wpM.seq (wpM.region ?_)
  refine LM.mv rfl (LM.mv rfl ?_)
  refine LM.val (ov_geq rfl rfl) ?_
  refine LM.mv rfl ?_
  refine LM.splitD (t := 95) rfl (fun h11 => ?_) (fun h11 => ?_)
  ·
   omega
  refine LM.sp 95 rfl rfl rfl (LM.mv rfl (LM.sp 95 rfl rfl rfl (LM.mv rfl (LM.sp 95 rfl rfl rfl ?_))))
  refine LM.callE (oc_call (enters_fn Try.func49 (by kernel_rfl) rfl) rfl) (fun w hm hc hg => (by have k := cOf_r h65 (hm.pick m65) t.id; rw [ofO_hit (by rw [hb5, hb7]; exact hble), hb5] at k; exact k)) ?_
  refine LM.sp 95 rfl rfl rfl (LM.mv rfl (LM.sp 95 rfl rfl rfl ?_))
  refine LM.val (ov_neq rfl rfl) ?_
  refine LM.val (ov_pickF rfl rfl) ?_
  refine LM.mv rfl ?_
  refine LM.splitD (t := 102) rfl (fun h12 => ?_) (fun h12 => ?_)
  ·
   exact absurd rfl h12
  refine LM.sp 102 rfl rfl rfl (LM.mv rfl (LM.sp 102 rfl rfl rfl (LM.mv rfl (LM.sp 102 rfl rfl rfl ?_))))
  refine LM.val (ov_eql rfl rfl) ?_
  refine LM.val (ov_pickF rfl rfl) ?_
  refine LM.nil (QM.sub (e' := [(7, _), (18, _), (61, _), (106, _)]) au9 (QM.then ?_))
  refine wpM.condD rfl (fun h13 => ?_) (fun h13 => ?_)
  ·
   omega
  refine wpM.skip ?_
  refine QM.then (wpM.region ?_)
  refine LM.mv rfl (LM.as rfl ?_)
  refine LM.nil (QM.sub (e' := [(7, _), (13, _), (61, _)]) au9 ?_)
  refine QM.block_normal ?_
  refine QM.then (wpM.region ?_)
  refine LM.val (ov_add64 rfl rfl (by omega)) ?_
  refine LM.mv rfl ?_
  refine LM.nil (QM.sub (e' := [(7, _), (13, _), (61, _)]) au9 ?_)
  refine QM.againK (i + 1, balX qs, m65) ⟨au2, au2, rfl, trivial⟩ au1 (fun _ h => h) ?_ ?_
  · exact ⟨h65, by omega, by rw [show (24480 : Int) - ((i + 1 : Nat) : Int) = 24480 - (i : Int) - 1 by omega]; exact hb3⟩
  · first | omega | (dsimp only; omega)
 omega
end Go.Eng
