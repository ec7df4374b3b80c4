/- The walks of red and black trees: keys against each other, a node is turned. No condition. -/
import Derived.Test.YtmkblojlimhkiaaM2
import Derived.Test.YtmkblojlimhkiaaRows
set_option linter.unusedVariables false
set_option linter.unusedSimpArgs false
namespace Go.Eng
open Go Go.Proofs Go.RowKit
def fNd (x : Nd) : List Value := [U x.e.V, .int .i64 x.e.id, .int .i64 x.e.x, .int .i64 (x.l : Nat), .int .i64 (x.r : Nat), .int .i64 (x.up : Nat), .bool x.red]
abbrev rtB (b most bn n cap root first free cnt : Nat) : Nat × Obj := (b, .cells #[.int .i64 (most : Nat), .slice (some ⟨bn, 0, none⟩) n cap, .int .i64 (root : Nat), .int .i64 (first : Nat), .int .i64 (free : Nat), .int .i64 (cnt : Nat)] 131 (0, 0))
abbrev NdS (n0 bn n cap : Nat) (N : List Nd) (m : Mem0) : Prop := Sl fNd 136 7 n0 N (.slice (some ⟨bn, 0, none⟩) n cap) m
def RtT (n0 b most bn n cap root first free cnt : Nat) (N : List Nd) (u : Value) (m' : Mem0) : Prop := u = .tuple #[] ∧ ∃ ms, m' = rtB b most bn n cap root first free cnt :: ms ∧ NdS n0 bn n cap N ms
theorem rt_leaf {n0 b most bn n cap root first free cnt root' first' free' cnt' : Nat} {N N' : List Nd} {ms ms' M : Mem0} {w w' : World} (h : NdS n0 bn n cap N ms) (h' : NdS n0 bn n cap N' ms') (hm : Mem w' M) (hs : SubM M (rtB b most bn n cap root' first' free' cnt' :: (ms' ++ []))) (hc : Chg (fun x => x = b ∨ x = bn) w w') :
    Upd (rtB b most bn n cap root first free cnt :: ms) (RtT n0 b most bn n cap root' first' free' cnt' N') w (.tuple #[]) w' := by
  rw [List.append_nil] at hs
  obtain ⟨o, rfl⟩ := h.has_bn
  refine ⟨hc.mono (fun x _ hx => ?_), _, ⟨rfl, ms', rfl, h'⟩, hs.mem w' hm, fun p hp => .inr ?_⟩
  · rcases hx with rfl | rfl
    · exact ⟨_, List.mem_cons_self .., rfl⟩
    · exact ⟨_, List.mem_cons_of_mem _ (List.mem_cons_self ..), rfl⟩
  · rcases List.mem_cons.1 hp with rfl | hp
    · exact ⟨_, List.mem_cons_self .., rfl⟩
    · exact ⟨_, List.mem_cons_of_mem _ (List.mem_cons_self ..), (h'.at_bn p hp).symm⟩
theorem rt_wlk {n0 b most bn n cap root first free cnt : Nat} {N : List Nd} {ms : Mem0} (h : NdS n0 bn n cap N ms) : ∀ p ∈ rtB b most bn n cap root first free cnt :: ms, wlk p.2 = false := fun p hp => by
  rcases List.mem_cons.1 hp with rfl | hp
  · rfl
  · exact h.wlk p hp
theorem rt_hS {n0 b most bn n cap root first free cnt : Nat} {N : List Nd} {ms : Mem0} {k : Nat} (h : NdS n0 bn n cap N ms) : ∀ p ∈ rtB b most bn n cap root first free cnt :: ms, p.1 < k → (fun x => x = b ∨ x = bn) p.1 := fun p hp _ => by
  rcases List.mem_cons.1 hp with rfl | hp
  · exact .inl rfl
  · exact .inr (h.at_bn p hp)
set_option maxRecDepth 100000 in
theorem nanU_spec (x : BitVec 64) (w : World) : Ret Try.prog 121 #[U x] w (fun v w' => v = .bool false ∧ Ext w w') := by
 refine Ret.enterM (l := [U x]) Try.func121 rfl Try.ntmps121 rfl ([]) (no) (Mem.nil w) ?_
 refine wpM.seq (wpM.region ?_)
 refine LM.as rfl ?_
 refine LM.nil (QM.sub (e' := [(0, _)]) ⟨rfl, trivial⟩ (QM.then (wpM.seq (wpM.region ?_))))
 refine LM.mv rfl (LM.mv rfl ?_)
 refine LM.val (ov_uneq rfl rfl) ?_
 refine LM.as rfl ?_
 refine LM.nil (QM.sub (e' := [(2, _)]) ⟨rfl, trivial⟩ (QM.then ?_))
 refine wpM.ret ?_
 refine QM.leave (.inl rfl) [.tmp 2] Try.results121 rfl ?_
 intro w' hm' hc' hg'
 refine ⟨?_, hc'⟩; show Value.bool (decide (x ≠ x)) = _; rw [decide_eq_false (fun h => h rfl)]
set_option maxRecDepth 100000 in
theorem nanI_spec (x : Int) (w : World) : Ret Try.prog 122 #[.int .i64 x] w (fun v w' => v = .bool false ∧ Ext w w') := by
 refine Ret.enterM (l := [.int .i64 x]) Try.func122 rfl Try.ntmps122 rfl ([]) (no) (Mem.nil w) ?_
 refine wpM.seq (wpM.region ?_)
 refine LM.as rfl ?_
 refine LM.nil (QM.sub (e' := [(0, _)]) ⟨rfl, trivial⟩ (QM.then (wpM.seq (wpM.region ?_))))
 refine LM.mv rfl (LM.mv rfl ?_)
 refine LM.val (ov_neq rfl rfl) ?_
 refine LM.as rfl ?_
 refine LM.nil (QM.sub (e' := [(2, _)]) ⟨rfl, trivial⟩ (QM.then ?_))
 refine wpM.ret ?_
 refine QM.leave (.inl rfl) [.tmp 2] Try.results122 rfl ?_
 intro w' hm' hc' hg'
 refine ⟨?_, hc'⟩; show Value.bool (decide (x ≠ x)) = _; rw [decide_eq_false (fun h => h rfl)]
def cmpU (x y : BitVec 64) : Int := if x.toNat < y.toNat then -1 else if y.toNat < x.toNat then 1 else 0
def cmpI (x y : Int) : Int := if x < y then -1 else if y < x then 1 else 0
set_option maxRecDepth 100000 in
theorem cmpU_spec (x y : BitVec 64) (w : World) : Ret Try.prog 110 #[U x, U y] w (fun v w' => v = .int .i64 (cmpU x y) ∧ Ext w w') := by
 refine Ret.enterM (l := [U x, U y]) Try.func110 rfl Try.ntmps110 rfl ([]) (no) (Mem.nil w) ?_
 refine wpM.seq (wpM.region ?_)
 refine LM.as rfl ?_
 refine LM.nil (QM.sub (e' := [(0, _), (1, _)]) au9 (QM.then (wpM.seq (wpM.region ?_))))
 refine LM.mv rfl ?_
 refine LM.callE (oc_call (enters_fn Try.func121 (by kernel_rfl) rfl) rfl) (fun w hm hc hg => nanU_spec _ w) ?_
 refine LM.as rfl ?_
 refine LM.nil (QM.sub (e' := [(0, _), (1, _), (5, _)]) au9 (QM.then (wpM.seq (wpM.region ?_))))
 refine LM.mv rfl ?_
 refine LM.callE (oc_call (enters_fn Try.func121 (by kernel_rfl) rfl) rfl) (fun w hm hc hg => nanU_spec _ w) ?_
 refine LM.as rfl ?_
 refine LM.nil (QM.sub (e' := [(0, _), (1, _), (5, _), (6, _)]) au9 (QM.then ?_))
 refine wpM.seq ?_
 refine wpM.seq (wpM.region ?_)
 refine LM.mv rfl ?_
 refine LM.nil (QM.sub (e' := [(0, _), (1, _), (6, _), (11, _)]) au9 (QM.then ?_))
 first | refine wpM.condD rfl (fun h1 => ?_) (fun h1 => ?_) | refine wpM.condB rfl (fun h1 => ?_) (fun h1 => ?_)
 ·
  cases h1
 refine wpM.skip ?_
 refine QM.then ?_
 refine wpM.seq ?_
 refine wpM.seq (wpM.region ?_)
 refine LM.mv rfl ?_
 refine LM.nil (QM.sub (e' := [(0, _), (1, _), (13, _)]) au9 (QM.then ?_))
 first | refine wpM.condD rfl (fun h2 => ?_) (fun h2 => ?_) | refine wpM.condB rfl (fun h2 => ?_) (fun h2 => ?_)
 ·
  cases h2
 refine wpM.skip ?_
 refine QM.then ?_
 refine wpM.seq ?_
 refine wpM.seq (wpM.region ?_)
 refine LM.mv rfl (LM.mv rfl ?_)
 refine LM.val (ov_ulss rfl rfl) ?_
 refine LM.nil (QM.sub (e' := [(0, _), (1, _), (16, _)]) au9 (QM.then ?_))
 refine wpM.condD rfl (fun h3 => ?_) (fun h3 => ?_)
 ·
  refine wpM.seq (wpM.region ?_)
  refine LM.as rfl ?_
  refine LM.nil (QM.sub (e' := [(4, _)]) ⟨rfl, trivial⟩ (QM.then ?_))
  refine wpM.ret ?_
  refine QM.then_ret ?_
  refine QM.leave (.inl rfl) [.tmp 4] Try.results110 rfl ?_
  intro w' hm' hc' hg'
  refine ⟨?_, hc'⟩; unfold cmpU; rw [if_pos h3]; rfl
 refine wpM.skip ?_
 refine QM.then ?_
 refine wpM.seq ?_
 refine wpM.seq (wpM.region ?_)
 refine LM.mv rfl (LM.mv rfl ?_)
 refine LM.val (ov_ugtr rfl rfl) ?_
 refine LM.nil (QM.sub (e' := [(19, _)]) ⟨rfl, trivial⟩ (QM.then ?_))
 refine wpM.condD rfl (fun h4 => ?_) (fun h4 => ?_)
 ·
  refine wpM.seq (wpM.region ?_)
  refine LM.as rfl ?_
  refine LM.nil (QM.sub (e' := [(4, _)]) ⟨rfl, trivial⟩ (QM.then ?_))
  refine wpM.ret ?_
  refine QM.then_ret ?_
  refine QM.leave (.inl rfl) [.tmp 4] Try.results110 rfl ?_
  intro w' hm' hc' hg'
  refine ⟨?_, hc'⟩; unfold cmpU; rw [if_neg h3, if_pos h4]; rfl
 refine wpM.skip ?_
 refine QM.then (wpM.seq (wpM.region ?_))
 refine LM.as rfl ?_
 refine LM.nil (QM.sub (e' := [(4, _)]) ⟨rfl, trivial⟩ (QM.then ?_))
 refine wpM.ret ?_
 refine QM.leave (.inl rfl) [.tmp 4] Try.results110 rfl ?_
 intro w' hm' hc' hg'
 refine ⟨?_, hc'⟩; unfold cmpU; rw [if_neg h3, if_neg h4]; rfl
set_option maxRecDepth 100000 in
theorem cmpI_spec (x y : Int) (w : World) : Ret Try.prog 111 #[.int .i64 x, .int .i64 y] w (fun v w' => v = .int .i64 (cmpI x y) ∧ Ext w w') := by
 refine Ret.enterM (l := [.int .i64 x, .int .i64 y]) Try.func111 rfl Try.ntmps111 rfl ([]) (no) (Mem.nil w) ?_
 refine wpM.seq (wpM.region ?_)
 refine LM.as rfl ?_
 refine LM.nil (QM.sub (e' := [(0, _), (1, _)]) au9 (QM.then (wpM.seq (wpM.region ?_))))
 refine LM.mv rfl ?_
 refine LM.callE (oc_call (enters_fn Try.func122 (by kernel_rfl) rfl) rfl) (fun w hm hc hg => nanI_spec _ w) ?_
 refine LM.as rfl ?_
 refine LM.nil (QM.sub (e' := [(0, _), (1, _), (5, _)]) au9 (QM.then (wpM.seq (wpM.region ?_))))
 refine LM.mv rfl ?_
 refine LM.callE (oc_call (enters_fn Try.func122 (by kernel_rfl) rfl) rfl) (fun w hm hc hg => nanI_spec _ w) ?_
 refine LM.as rfl ?_
 refine LM.nil (QM.sub (e' := [(0, _), (1, _), (5, _), (6, _)]) au9 (QM.then ?_))
 refine wpM.seq ?_
 refine wpM.seq (wpM.region ?_)
 refine LM.mv rfl ?_
 refine LM.nil (QM.sub (e' := [(0, _), (1, _), (6, _), (11, _)]) au9 (QM.then ?_))
 first | refine wpM.condD rfl (fun h1 => ?_) (fun h1 => ?_) | refine wpM.condB rfl (fun h1 => ?_) (fun h1 => ?_)
 ·
  cases h1
 refine wpM.skip ?_
 refine QM.then ?_
 refine wpM.seq ?_
 refine wpM.seq (wpM.region ?_)
 refine LM.mv rfl ?_
 refine LM.nil (QM.sub (e' := [(0, _), (1, _), (13, _)]) au9 (QM.then ?_))
 first | refine wpM.condD rfl (fun h2 => ?_) (fun h2 => ?_) | refine wpM.condB rfl (fun h2 => ?_) (fun h2 => ?_)
 ·
  cases h2
 refine wpM.skip ?_
 refine QM.then ?_
 refine wpM.seq ?_
 refine wpM.seq (wpM.region ?_)
 refine LM.mv rfl (LM.mv rfl ?_)
 refine LM.val (ov_lss rfl rfl) ?_
 refine LM.nil (QM.sub (e' := [(0, _), (1, _), (16, _)]) au9 (QM.then ?_))
 refine wpM.condD rfl (fun h3 => ?_) (fun h3 => ?_)
 ·
  refine wpM.seq (wpM.region ?_)
  refine LM.as rfl ?_
  refine LM.nil (QM.sub (e' := [(4, _)]) ⟨rfl, trivial⟩ (QM.then ?_))
  refine wpM.ret ?_
  refine QM.then_ret ?_
  refine QM.leave (.inl rfl) [.tmp 4] Try.results111 rfl ?_
  intro w' hm' hc' hg'
  refine ⟨?_, hc'⟩; unfold cmpI; rw [if_pos h3]; rfl
 refine wpM.skip ?_
 refine QM.then ?_
 refine wpM.seq ?_
 refine wpM.seq (wpM.region ?_)
 refine LM.mv rfl (LM.mv rfl ?_)
 refine LM.val (ov_gtr rfl rfl) ?_
 refine LM.nil (QM.sub (e' := [(19, _)]) ⟨rfl, trivial⟩ (QM.then ?_))
 refine wpM.condD rfl (fun h4 => ?_) (fun h4 => ?_)
 ·
  refine wpM.seq (wpM.region ?_)
  refine LM.as rfl ?_
  refine LM.nil (QM.sub (e' := [(4, _)]) ⟨rfl, trivial⟩ (QM.then ?_))
  refine wpM.ret ?_
  refine QM.then_ret ?_
  refine QM.leave (.inl rfl) [.tmp 4] Try.results111 rfl ?_
  intro w' hm' hc' hg'
  refine ⟨?_, hc'⟩; unfold cmpI; rw [if_neg h3, if_pos h4]; rfl
 refine wpM.skip ?_
 refine QM.then (wpM.seq (wpM.region ?_))
 refine LM.as rfl ?_
 refine LM.nil (QM.sub (e' := [(4, _)]) ⟨rfl, trivial⟩ (QM.then ?_))
 refine wpM.ret ?_
 refine QM.leave (.inl rfl) [.tmp 4] Try.results111 rfl ?_
 intro w' hm' hc' hg'
 refine ⟨?_, hc'⟩; unfold cmpI; rw [if_neg h3, if_neg h4]; rfl
theorem find_at {p : Int → Bool} {xs : List Int} {i : Nat} (h0 : (xs.take i).find? p = none) (h : i < xs.length) (hp : p (xs.getD i 0) = true) : xs.find? p = some (xs.getD i 0) := by
  have e : xs.find? p = (xs.take i ++ xs.drop i).find? p := by rw [List.take_append_drop]
  have hg : xs.getD i 0 = xs[i] := by rw [List.getD_eq_getElem?_getD, List.getElem?_eq_getElem h]; rfl
  rw [e, List.find?_append, h0, Option.none_or, List.drop_eq_getElem_cons h, List.find?_cons, ← hg, hp]
set_option maxRecDepth 100000 in
theorem cmpOr_spec {xs : List Int} {ad : Option Addr} {n cap : Nat} (w : World) (hn : n = xs.length) (hl : Sr fI 1 xs (.slice ad n cap) w) (hx : xs.length ≤ 1000) : Ret Try.prog 109 #[.slice ad n cap] w (fun v w' => v = .int .i64 ((xs.find? (fun x => decide (x ≠ 0))).getD 0) ∧ Ext w w') := by
 refine Ret.enterM (l := [.slice ad n cap]) Try.func109 rfl Try.ntmps109 rfl ([]) (no) (Mem.nil w) ?_
 refine wpM.seq (wpM.region ?_)
 refine LM.as rfl ?_
 refine LM.nil (QM.sub (e' := [(0, _)]) ⟨rfl, trivial⟩ (QM.then (wpM.seq (wpM.region ?_))))
 refine LM.as rfl ?_
 refine LM.nil (QM.sub (e' := [(0, _), (3, _)]) au9 (QM.then ?_))
 refine wpM.seq ?_
 refine wpM.seq (wpM.region ?_)
 refine LM.mv rfl ?_
 refine LM.val (ov_len Try.underlying47 rfl) ?_
 refine LM.mv rfl ?_
 refine LM.nil (QM.sub (e' := [(3, _), (6, _), (7, _), (8, _)]) au9 (QM.then ?_))
 refine wpM.block ?_
 refine wpM.loopK0 (α := Nat) (fun i => [(8, .int .i64 (i : Nat))]) [(3, _), (6, _), (7, _)] (fun i => []) (fun i => i ≤ xs.length ∧ (xs.take i).find? (fun x => decide (x ≠ 0)) = none) (fun i => xs.length - i) (0) ⟨au2, rfl, rfl, rfl, trivial⟩ au1 ⟨Nat.zero_le _, rfl⟩ ?_
 rintro i ⟨hi, ha⟩
 change wpM _ _ _ _ _ _ _ ([]) _ _ _
 refine wpM.seq (wpM.region ?_)
 refine LM.val (ov_lss rfl rfl) ?_
 refine LM.nil (QM.sub (e' := [(3, _), (6, _), (7, _), (8, _), (9, _)]) au9 (QM.then ?_))
 refine wpM.seq ?_
 refine wpM.condD rfl (fun h1 => ?_) (fun h1 => ?_)
 ·
  refine wpM.skip ?_
  refine QM.then ?_
  refine wpM.seq ?_
  refine wpM.block ?_
  refine wpM.seq (wpM.region ?_)
  refine LM.val (ov_idxSN au6 Try.underlying47 Try.sizeOf3 rfl rfl (by omega)) ?_
  first | refine LM.rd (om_sl1 (by assumption) (by intro _; rfl) Try.isAgg3 rfl rfl (by exact getq 0 (by first | omega | (simp only [nL_len, nR_len, nU_len, nC_len, List.length_set, List.length_append, List.length_cons, List.length_nil]; omega))) (by rfl)) ?_ | refine LM.rdC (om_sr1 (by assumption) Try.isAgg3 rfl rfl (by exact getq 0 (by first | omega | (simp only [nL_len, nR_len, nU_len, nC_len, List.length_set, List.length_append, List.length_cons, List.length_nil]; omega))) (by rfl) id) ?_ | refine LM.rd (om_ld Try.isAgg3 rfl rfl) ?_
  refine LM.as rfl ?_
  refine LM.nil (QM.sub (e' := [(3, _), (5, _), (6, _), (7, _), (8, _)]) au9 (QM.then (wpM.seq (wpM.region ?_))))
  refine LM.mv rfl (LM.mv rfl ?_)
  refine LM.val (ov_neq rfl rfl) ?_
  refine LM.nil (QM.sub (e' := [(3, _), (5, _), (6, _), (7, _), (8, _), (14, _)]) au9 (QM.then ?_))
  refine wpM.condD rfl (fun h2 => ?_) (fun h2 => ?_)
  ·
   refine wpM.seq (wpM.region ?_)
   refine LM.mv rfl (LM.as rfl ?_)
   refine LM.nil (QM.sub (e' := [(2, _)]) ⟨rfl, trivial⟩ (QM.then ?_))
   refine wpM.ret ?_
   refine QM.block_ret ?_
   refine QM.then_ret ?_
   refine QM.then_ret ?_
   refine QM.block_ret ?_
   refine QM.then_ret ?_
   refine QM.leave (.inl rfl) [.tmp 2] Try.results109 rfl ?_
   intro w' hm' hc' hg'
   refine ⟨?_, hc'⟩; have e : xs.find? (fun x => decide (x ≠ 0)) = some (xs.getD i 0) := (find_at ha (by omega) (decide_eq_true h2)); rw [e]; rfl
  refine wpM.skip ?_
  refine QM.block_normal ?_
  refine QM.then (wpM.region ?_)
  refine LM.val (ov_add64 rfl rfl (by omega)) ?_
  refine LM.mv rfl ?_
  refine LM.nil (QM.sub (e' := [(3, _), (6, _), (7, _), (8, _)]) au9 ?_)
  refine QM.againK (i + 1) ⟨au2, rfl, rfl, rfl, trivial⟩ au1 (fun _ h => h) ?_ ?_
  · exact ⟨by omega, by rw [take_snoc 0 (by omega), List.find?_append, ha]; simp only [Option.none_or, List.find?_cons]; rw [decide_eq_false h2]; rfl⟩
  · omega
 refine wpM.exit ?_
 refine QM.then_exit ?_
 refine QM.then_exit ?_
 refine QM.block_hit ?_
 refine QM.then (wpM.seq (wpM.region ?_))
 refine LM.mv rfl (LM.as rfl ?_)
 refine LM.nil (QM.sub (e' := [(2, _)]) ⟨rfl, trivial⟩ (QM.then ?_))
 refine wpM.ret ?_
 refine QM.leave (.inl rfl) [.tmp 2] Try.results109 rfl ?_
 intro w' hm' hc' hg'
 have hil : i = xs.length := (by omega); subst hil; rw [List.take_length] at ha; rw [ha]; exact ⟨rfl, hc'⟩
theorem agn_find (a b : Kv) : ([cmpU a.V b.V, cmpI a.id b.id].find? (fun x => decide (x ≠ 0))).getD 0 = agnO a b := by
  have hV : a.V.toNat = b.V.toNat → a.V = b.V := fun h => BitVec.eq_of_toNat_eq h
  rcases k_tri a b with h | h | h
  · rw [agn_zero.2 h]
    have e1 : cmpU a.V b.V = 0 := by unfold cmpU; rw [h.1]; simp
    have e2 : cmpI a.id b.id = 0 := by unfold cmpI; rw [h.2]; simp
    rw [e1, e2]; rfl
  · have e : agnO a b = -1 := by unfold agnO; rw [if_neg h.ne, if_pos h]
    rw [e]
    rcases h with h | ⟨h1, h2⟩
    · rw [show cmpU a.V b.V = -1 from if_pos h]; rfl
    · have e1 : cmpU a.V b.V = 0 := by unfold cmpU; rw [h1]; simp
      rw [e1, show cmpI a.id b.id = -1 from if_pos h2]; rfl
  · have e : agnO a b = 1 := by unfold agnO; rw [if_neg (fun q => h.ne q.symm), if_neg h.asym]
    rw [e]
    rcases h with h | ⟨h1, h2⟩
    · have e1 : cmpU a.V b.V = 1 := by unfold cmpU; rw [if_neg (by omega), if_pos h]
      rw [e1]; rfl
    · have e1 : cmpU a.V b.V = 0 := by unfold cmpU; rw [h1]; simp
      have e2 : cmpI a.id b.id = 1 := by unfold cmpI; rw [if_neg (by omega), if_pos h2]
      rw [e1, e2]; rfl
set_option maxRecDepth 100000 in
theorem against_spec (a b : Kv) (w : World) : Ret Try.prog 91 #[.agg #[U a.V, .int .i64 a.id], .agg #[U b.V, .int .i64 b.id]] w (fun v w' => v = .int .i64 (agnO a b) ∧ Ext w w') := by
 refine Ret.enterM (l := [.agg #[U a.V, .int .i64 a.id], .agg #[U b.V, .int .i64 b.id]]) Try.func91 rfl Try.ntmps91 rfl ([]) (no) (Mem.nil w) ?_
 refine wpM.seq (wpM.region ?_)
 refine LM.box rfl rfl (fun b2 hb2 => ?_)
 refine LM.box rfl rfl (fun b3 hb3 => ?_)
 refine LM.as rfl ?_
 refine LM.nil (QM.sub (e' := [(2, _), (3, _)]) au9 (QM.then ?_))
 refine wpM.seq ?_
 refine wpM.draw [(0, 0), (1, 1), (2, 0), (3, 1), (5, 0), (6, 1), (7, 0), (8, 1), (4, 2), (9, 2), (10, 3), (11, 3), (12, 3)] (by kernel_rfl) (by kernel_rfl) ?_
 refine LD.val rfl rfl (ov_field Try.underlying100 rfl Try.sizeOf26 rfl (k := 0) rfl rfl) ?_
 refine LD.rd rfl rfl (om_ld Try.isAgg26 rfl rfl) ?_
 refine LD.val rfl rfl (ov_field Try.underlying100 rfl Try.sizeOf26 rfl (k := 0) rfl rfl) ?_
 refine LD.rd rfl rfl (om_ld Try.isAgg26 rfl rfl) ?_
 refine LD.val rfl rfl (ov_field Try.underlying100 rfl Try.sizeOf3 rfl (k := 1) rfl rfl) ?_
 refine LD.rd rfl rfl (om_ld Try.isAgg3 rfl rfl) ?_
 refine LD.val rfl rfl (ov_field Try.underlying100 rfl Try.sizeOf3 rfl (k := 1) rfl rfl) ?_
 refine LD.rd rfl rfl (om_ld Try.isAgg3 rfl rfl) ?_
 refine LD.callE rfl rfl (oc_call (enters_fn Try.func110 (by kernel_rfl) rfl) rfl) (fun w hm hc hg => cmpU_spec _ _ w) ?_
 refine LD.callE rfl rfl (oc_call (enters_fn Try.func111 (by kernel_rfl) rfl) rfl) (fun w hm hc hg => cmpI_spec _ _ w) ?_
 refine LD.tail rfl rfl ?_
 refine LM.row (vs := [_, _]) Try.underlying47 Try.sizeOf3 Try.zeroValue3 rfl rfl rfl rfl rfl rfl (fun b15 hb15 => ?_)
 refine LM.callE (oc_call (enters_fn Try.func109 (by kernel_rfl) rfl) rfl) (fun w hm hc hg => agn_find a b ▸ cmpOr_spec (xs := [cmpU a.V b.V, cmpI a.id b.id]) w rfl (Sr.row (hm.at b15) rfl rfl (Nat.le_refl _) (fun _ => rfl)) (by simp)) ?_
 refine LM.as rfl ?_
 refine LM.nil ?_
 refine QM.qn ?_
 refine QM.sub (e' := [(4, _)]) ⟨rfl, trivial⟩ (QM.then ?_)
 refine wpM.ret ?_
 refine QM.leave (.inl rfl) [.tmp 4] Try.results91 rfl ?_
 intro w' hm' hc' hg'
 exact ⟨rfl, hc'⟩
set_option maxRecDepth 100000 in
theorem below_spec {n0 b most bn n cap root first free cnt : Nat} {N : List Nd} {ms : Mem0} (i : Nat) (s : Bool) (w : World) (hn : n = N.length) (hs : NdS n0 bn n cap N ms) (hi : i < N.length) (hM : Mem w (rtB b most bn n cap root first free cnt :: ms)) : Ret Try.prog 112 #[.pointer (some ⟨b, 0, none⟩), .int .i64 (i : Nat), .bool s] w (fun v w' => v = .int .i64 ((N.getD i default).ch s : Nat) ∧ Ext w w') := by
 refine Ret.enterM (l := [.pointer (some ⟨b, 0, none⟩), .int .i64 (i : Nat), .bool s]) Try.func112 rfl Try.ntmps112 rfl (rtB b most bn n cap root first free cnt :: ms) (no) hM ?_
 refine wpM.seq (wpM.region ?_)
 refine LM.as rfl ?_
 refine LM.nil (QM.sub (e' := [(0, _), (1, _), (2, _)]) au9 (QM.then ?_))
 refine wpM.seq ?_
 refine wpM.seq (wpM.region ?_)
 refine LM.mv rfl ?_
 refine LM.nil (QM.sub (e' := [(0, _), (1, _), (7, _)]) au9 (QM.then ?_))
 first | refine wpM.condD rfl (fun h1 => ?_) (fun h1 => ?_) | refine wpM.condB rfl (fun h1 => ?_) (fun h1 => ?_)
 ·
  refine wpM.seq (wpM.region ?_)
  refine LM.mv rfl ?_
  refine LM.val (ov_nilCheck rfl) ?_
  refine LM.val (ov_field Try.underlying131 rfl Try.sizeOf129 rfl (k := 1) rfl rfl) ?_
  refine LM.rd (om_ld Try.isAgg129 rfl rfl) ?_
  refine LM.mv rfl ?_
  refine LM.val (ov_idxSN au6 Try.underlying129 Try.sizeOf136 rfl rfl (by omega)) ?_
  refine LM.val (ov_field Try.underlying136 rfl Try.sizeOf3 rfl (k := 3) rfl rfl) ?_
  refine LM.rd (om_slE (j := 3) (by assumption) (by intro _; rfl) Try.isAgg3 rfl rfl (by exact getq default (by first | omega | (simp only [nL_len, nR_len, nU_len, nC_len, List.length_set, List.length_append, List.length_cons, List.length_nil]; omega))) rfl (by rfl)) ?_
  refine LM.as rfl ?_
  refine LM.nil (QM.sub (e' := [(6, _)]) ⟨rfl, trivial⟩ (QM.then ?_))
  refine wpM.ret ?_
  refine QM.then_ret ?_
  refine QM.leave (.inl rfl) [.tmp 6] Try.results112 rfl ?_
  intro w' hm' hc' hg'
  subst h1; exact ⟨rfl, hc'⟩
 refine wpM.skip ?_
 refine QM.then (wpM.seq (wpM.region ?_))
 refine LM.mv rfl ?_
 refine LM.val (ov_nilCheck rfl) ?_
 refine LM.val (ov_field Try.underlying131 rfl Try.sizeOf129 rfl (k := 1) rfl rfl) ?_
 refine LM.rd (om_ld Try.isAgg129 rfl rfl) ?_
 refine LM.mv rfl ?_
 refine LM.val (ov_idxSN au6 Try.underlying129 Try.sizeOf136 rfl rfl (by omega)) ?_
 refine LM.val (ov_field Try.underlying136 rfl Try.sizeOf3 rfl (k := 4) rfl rfl) ?_
 refine LM.rd (om_slE (j := 4) (by assumption) (by intro _; rfl) Try.isAgg3 rfl rfl (by exact getq default (by first | omega | (simp only [nL_len, nR_len, nU_len, nC_len, List.length_set, List.length_append, List.length_cons, List.length_nil]; omega))) rfl (by rfl)) ?_
 refine LM.as rfl ?_
 refine LM.nil (QM.sub (e' := [(6, _)]) ⟨rfl, trivial⟩ (QM.then ?_))
 refine wpM.ret ?_
 refine QM.leave (.inl rfl) [.tmp 6] Try.results112 rfl ?_
 intro w' hm' hc' hg'
 subst h1; exact ⟨rfl, hc'⟩
theorem swp_l {N : List Nd} {root up was is : Nat} (h : up ≠ 0) (hl : (gN N up).l = was) : swpF (N, root) up was is = (nU (nL N up is) is up, root) := by unfold swpF; rw [if_neg h, if_pos hl]
theorem swp_r {N : List Nd} {root up was is : Nat} (h : up ≠ 0) (hl : ¬ (gN N up).l = was) : swpF (N, root) up was is = (nU (nR N up is) is up, root) := by unfold swpF; rw [if_neg h, if_neg hl]
set_option maxRecDepth 100000 in
theorem swap_spec {n0 b most bn n cap root first free cnt : Nat} {N : List Nd} {ms : Mem0} (up was is : Nat) (w : World) (hn : n = N.length) (hs : NdS n0 bn n cap N ms) (hu : up < N.length) (hi : is < N.length) (hM : Mem w (rtB b most bn n cap root first free cnt :: ms)) : Ret Try.prog 115 #[.pointer (some ⟨b, 0, none⟩), .int .i64 (up : Nat), .int .i64 (was : Nat), .int .i64 (is : Nat)] w (Upd (rtB b most bn n cap root first free cnt :: ms) (RtT n0 b most bn n cap (swpF (N, root) up was is).2 first free cnt (swpF (N, root) up was is).1) w) := by
 refine Ret.enterM (l := [.pointer (some ⟨b, 0, none⟩), .int .i64 (up : Nat), .int .i64 (was : Nat), .int .i64 (is : Nat)]) Try.func115 rfl Try.ntmps115 rfl (rtB b most bn n cap root first free cnt :: ms) ((fun x => x = b ∨ x = bn)) hM ?_
 refine wpM.seq ?_
 refine wpM.joinK (α := List Nd × Nat × Mem0) (fun ⟨N1, root1, m1⟩ => []) [(0, _), (1, _), (3, _)] (fun ⟨N1, root1, m1⟩ => rtB b most bn n cap root1 first free cnt :: (m1 ++ [])) (fun ⟨N1, root1, m1⟩ => NdS n0 bn n cap N1 m1 ∧ N1.length = N.length ∧ swpF (N, root) up was is = (nU N1 is up, root1)) ⟨rfl, rfl, rfl, trivial⟩ ?_ ?_
 ·
  refine wpM.block ?_
  refine wpM.seq (wpM.region ?_)
  refine LM.mv rfl ?_
  refine LM.val (ov_eql rfl rfl) ?_
  refine LM.as rfl ?_
  refine LM.nil (QM.sub (e' := [(0, _), (1, _), (2, _), (3, _), (16, _)]) au9 (QM.then ?_))
  refine wpM.condD rfl (fun h1 => ?_) (fun h1 => ?_)
  ·
   refine wpM.region ?_
   refine LM.mv rfl (LM.mv rfl ?_)
   refine LM.val (ov_nilCheck rfl) ?_
   refine LM.val (ov_field Try.underlying131 rfl Try.sizeOf3 rfl (k := 2) rfl rfl) ?_
   refine LM.st Try.sizeOf3 rfl rfl rfl au5 rfl (fun _ => .inl rfl) ?_
   refine LM.nil (QM.sub (e' := [(0, _), (1, _), (3, _)]) au9 ?_)
   refine QM.block_normal ?_
   refine QM.meetK (N, is, ms) ⟨rfl, rfl, rfl, trivial⟩ au1 ?_
   · exact ⟨hs, rfl, by rw [show up = 0 by omega]; rfl⟩
  refine wpM.seq (wpM.region ?_)
  refine LM.mv rfl ?_
  refine LM.val (ov_nilCheck rfl) ?_
  refine LM.val (ov_field Try.underlying131 rfl Try.sizeOf129 rfl (k := 1) rfl rfl) ?_
  refine LM.rd (om_ld Try.isAgg129 rfl rfl) ?_
  refine LM.mv rfl ?_
  refine LM.val (ov_idxSN au6 Try.underlying129 Try.sizeOf136 rfl rfl (by omega)) ?_
  refine LM.val (ov_field Try.underlying136 rfl Try.sizeOf3 rfl (k := 3) rfl rfl) ?_
  refine LM.rd (om_slE (j := 3) (by assumption) (by intro _; rfl) Try.isAgg3 rfl rfl (by exact getq default (by first | omega | (simp only [nL_len, nR_len, nU_len, nC_len, List.length_set, List.length_append, List.length_cons, List.length_nil]; omega))) rfl (by rfl)) ?_
  refine LM.mv rfl ?_
  refine LM.val (ov_eql rfl rfl) ?_
  refine LM.as rfl ?_
  refine LM.nil (QM.sub (e' := [(0, _), (1, _), (3, _), (23, _)]) au9 (QM.then ?_))
  refine wpM.condD rfl (fun h2 => ?_) (fun h2 => ?_)
  ·
   refine wpM.region ?_
   refine LM.mv rfl ?_
   refine LM.val (ov_nilCheck rfl) ?_
   refine LM.val (ov_field Try.underlying131 rfl Try.sizeOf129 rfl (k := 1) rfl rfl) ?_
   refine LM.rd (om_ld Try.isAgg129 rfl rfl) ?_
   refine LM.mv rfl (LM.mv rfl ?_)
   refine LM.val (ov_idxSN au6 Try.underlying129 Try.sizeOf136 rfl rfl (by omega)) ?_
   refine LM.val (ov_field Try.underlying136 rfl Try.sizeOf3 rfl (k := 3) rfl rfl) ?_
   refine LM.stS ({ gN (N) ( up) with l :=  is }) (j := 3) (by assumption) (by intro _; rfl) Try.sizeOf3 rfl rfl rfl (by exact getq default (by first | omega | (simp only [nL_len, nR_len, nU_len, nC_len, List.length_set, List.length_append, List.length_cons, List.length_nil]; omega))) rfl (by decide) (by rfl) rfl (fun p hp _ => .inr (Sl.at_bn (by assumption) p hp)) (fun ms1 hss1 hmm1 => ?_)
   change Sl _ _ _ _ (nL (N) ( up) ( is)) _ _ at hss1
   refine LM.nil (QM.sub (e' := [(0, _), (1, _), (3, _)]) au9 ?_)
   refine QM.block_normal ?_
   refine QM.meetK (nL N up is, root, ms1) ⟨rfl, rfl, rfl, trivial⟩ au1 ?_
   · exact ⟨by assumption, nL_len .., swp_l (by omega) (Int.natCast_inj.1 h2)⟩
  refine wpM.region ?_
  refine LM.mv rfl ?_
  refine LM.val (ov_nilCheck rfl) ?_
  refine LM.val (ov_field Try.underlying131 rfl Try.sizeOf129 rfl (k := 1) rfl rfl) ?_
  refine LM.rd (om_ld Try.isAgg129 rfl rfl) ?_
  refine LM.mv rfl (LM.mv rfl ?_)
  refine LM.val (ov_idxSN au6 Try.underlying129 Try.sizeOf136 rfl rfl (by omega)) ?_
  refine LM.val (ov_field Try.underlying136 rfl Try.sizeOf3 rfl (k := 4) rfl rfl) ?_
  refine LM.stS ({ gN (N) ( up) with r :=  is }) (j := 4) (by assumption) (by intro _; rfl) Try.sizeOf3 rfl rfl rfl (by exact getq default (by first | omega | (simp only [nL_len, nR_len, nU_len, nC_len, List.length_set, List.length_append, List.length_cons, List.length_nil]; omega))) rfl (by decide) (by rfl) rfl (fun p hp _ => .inr (Sl.at_bn (by assumption) p hp)) (fun ms1 hss1 hmm1 => ?_)
  change Sl _ _ _ _ (nR (N) ( up) ( is)) _ _ at hss1
  refine LM.nil (QM.sub (e' := [(0, _), (1, _), (3, _)]) au9 ?_)
  refine QM.block_normal ?_
  refine QM.meetK (nR N up is, root, ms1) ⟨rfl, rfl, rfl, trivial⟩ au1 ?_
  · exact ⟨by assumption, nR_len .., swp_r (by omega) (fun q => h2 (Int.natCast_inj.2 q))⟩
 rintro ⟨N1, root1, m1⟩ ⟨hs1, hl1, he⟩
 change QM _ _ _ _ _ (rtB b most bn n cap root1 first free cnt :: (m1 ++ [])) _ _ _
 refine QM.then (wpM.region ?_)
 refine LM.mv rfl ?_
 refine LM.val (ov_nilCheck rfl) ?_
 refine LM.val (ov_field Try.underlying131 rfl Try.sizeOf129 rfl (k := 1) rfl rfl) ?_
 refine LM.rd (om_ld Try.isAgg129 rfl rfl) ?_
 refine LM.mv rfl (LM.mv rfl ?_)
 refine LM.val (ov_idxSN au6 Try.underlying129 Try.sizeOf136 rfl rfl (by omega)) ?_
 refine LM.val (ov_field Try.underlying136 rfl Try.sizeOf3 rfl (k := 5) rfl rfl) ?_
 refine LM.stS ({ gN (N1) ( is) with up :=  up }) (j := 5) (by assumption) (by intro _; rfl) Try.sizeOf3 rfl rfl rfl (by exact getq default (by first | omega | (simp only [nL_len, nR_len, nU_len, nC_len, List.length_set, List.length_append, List.length_cons, List.length_nil]; omega))) rfl (by decide) (by rfl) rfl (fun p hp _ => .inr (Sl.at_bn (by assumption) p hp)) (fun ms2 hss2 hmm2 => ?_)
 change Sl _ _ _ _ (nU (N1) ( is) ( up)) _ _ at hss2
 refine LM.nil (QM.sub (e' := []) trivial ?_)
 refine QM.leave (.inr rfl) [] Try.results115 rfl ?_
 intro w' hm' hc' hg'
 rw [he]; exact rt_leaf hs (by assumption) hm' au1 hc'
theorem rd_nRL (N : List Nd) (i v j : Nat) : ((nR N i v).getD j default).l = (N.getD j default).l := by
  show (gN (N.set i { gN N i with r := v }) j).l = (gN N j).l
  rw [gN_set]; split
  · rename_i h; rw [h.1]
  · rfl
theorem rd_nLR (N : List Nd) (i v j : Nat) : ((nL N i v).getD j default).r = (N.getD j default).r := by
  show (gN (N.set i { gN N i with l := v }) j).r = (gN N j).r
  rw [gN_set]; split
  · rename_i h; rw [h.1]
  · rfl
set_option maxRecDepth 100000 in
theorem turnL_spec {n0 b most bn n cap root first free cnt : Nat} {N : List Nd} {ms : Mem0} (i : Nat) (w : World) (hn : n = N.length) (hs : NdS n0 bn n cap N ms) (hw : WfS (N, root) N.length) (hi : i < N.length) (hM : Mem w (rtB b most bn n cap root first free cnt :: ms)) : Ret Try.prog 123 #[.pointer (some ⟨b, 0, none⟩), .int .i64 (i : Nat)] w (Upd (rtB b most bn n cap root first free cnt :: ms) (RtT n0 b most bn n cap (trnF (N, root) i true).2 first free cnt (trnF (N, root) i true).1) w) := by
 have hr : (N.getD i default).r < N.length := r_wf hw i; have hl : (N.getD (N.getD i default).r default).l < N.length := l_wf hw _; have hw1 : WfS (nR N i (N.getD (N.getD i default).r default).l, root) N.length := ⟨wf_sR hw.wf i hl, by rw [nR_len], hw.rt⟩; obtain ⟨r, hre⟩ : ∃ r, r = (N.getD i default).r := ⟨_, rfl⟩; obtain ⟨l, hle⟩ : ∃ l, l = (N.getD (N.getD i default).r default).l := ⟨_, rfl⟩
 refine Ret.enterM (l := [.pointer (some ⟨b, 0, none⟩), .int .i64 (i : Nat)]) Try.func123 rfl Try.ntmps123 rfl (rtB b most bn n cap root first free cnt :: ms) ((fun x => x = b ∨ x = bn)) hM ?_
 refine wpM.seq (wpM.region ?_)
 refine LM.mv rfl ?_
 refine LM.val (ov_nilCheck rfl) ?_
 refine LM.val (ov_field Try.underlying131 rfl Try.sizeOf129 rfl (k := 1) rfl rfl) ?_
 refine LM.rd (om_ld Try.isAgg129 rfl rfl) ?_
 refine LM.mv rfl ?_
 refine LM.val (ov_idxSN au6 Try.underlying129 Try.sizeOf136 rfl rfl (by omega)) ?_
 refine LM.val (ov_field Try.underlying136 rfl Try.sizeOf3 rfl (k := 4) rfl rfl) ?_
 refine LM.rd (om_slE (j := 4) (by assumption) (by intro _; rfl) Try.isAgg3 rfl rfl (by exact getq default (by first | omega | (simp only [nL_len, nR_len, nU_len, nC_len, List.length_set, List.length_append, List.length_cons, List.length_nil]; omega))) rfl (by rfl)) ?_
 refine LM.as rfl ?_
 refine LM.nil (QM.sub (e' := [(0, _), (1, _), (4, _)]) au9 (QM.then ?_))
 refine wpM.seq ?_
 refine wpM.draw [(0, 0), (1, 0), (2, 0), (3, 1), (4, 0), (5, 0), (6, 0), (7, 0), (8, 1), (9, 0), (10, 0), (11, 0), (12, 1), (13, 0), (14, 0), (15, 3)] (by kernel_rfl) (by kernel_rfl) ?_
 refine LD.val rfl rfl (ov_move rfl) ?_
 refine LD.val rfl rfl (ov_nilCheck rfl) ?_
 refine LD.val rfl rfl (ov_field Try.underlying131 rfl Try.sizeOf129 rfl (k := 1) rfl rfl) ?_
 refine LD.rd rfl rfl (om_ld Try.isAgg129 rfl rfl) ?_
 refine LD.val rfl rfl (ov_move rfl) ?_
 refine LD.val rfl rfl (ov_move rfl) ?_
 refine LD.val rfl rfl (ov_nilCheck rfl) ?_
 refine LD.val rfl rfl (ov_field Try.underlying131 rfl Try.sizeOf129 rfl (k := 1) rfl rfl) ?_
 refine LD.rd rfl rfl (om_ld Try.isAgg129 rfl rfl) ?_
 refine LD.val rfl rfl (ov_move rfl) ?_
 refine LD.val rfl rfl (ov_idxSN au6 Try.underlying129 Try.sizeOf136 rfl rfl (by omega)) ?_
 refine LD.val rfl rfl (ov_field Try.underlying136 rfl Try.sizeOf3 rfl (k := 3) rfl rfl) ?_
 refine LD.rd rfl rfl (om_slE (j := 3) (by assumption) (by intro _; rfl) Try.isAgg3 rfl rfl (by exact getq default (by first | omega | (simp only [nL_len, nR_len, nU_len, nC_len, List.length_set, List.length_append, List.length_cons, List.length_nil]; omega))) rfl (by rfl)) ?_
 refine LD.val rfl rfl (ov_idxSN au6 Try.underlying129 Try.sizeOf136 rfl rfl (by omega)) ?_
 refine LD.val rfl rfl (ov_field Try.underlying136 rfl Try.sizeOf3 rfl (k := 4) rfl rfl) ?_
 refine LD.tail rfl rfl ?_
 refine LM.stS ({ gN (N) ( i) with r :=  (N.getD (N.getD i default).r default).l }) (j := 4) (by assumption) (by intro _; rfl) Try.sizeOf3 rfl rfl rfl (by exact getq default (by first | omega | (simp only [nL_len, nR_len, nU_len, nC_len, List.length_set, List.length_append, List.length_cons, List.length_nil]; omega))) rfl (by decide) (by rfl) rfl (fun p hp _ => .inr (Sl.at_bn (by assumption) p hp)) (fun ms1 hss1 hmm1 => ?_)
 change Sl _ _ _ _ (nR (N) ( i) ( (N.getD (N.getD i default).r default).l)) _ _ at hss1
 refine LM.nil ?_
 refine QM.qn ?_
 refine QM.sub (e' := [(0, _), (1, _), (4, _)]) au9 (QM.then ?_)
 refine wpM.seq ?_
 refine wpM.seq (wpM.region ?_)
 refine LM.mv rfl ?_
 refine LM.val (ov_nilCheck rfl) ?_
 refine LM.val (ov_field Try.underlying131 rfl Try.sizeOf129 rfl (k := 1) rfl rfl) ?_
 refine LM.rd (om_ld Try.isAgg129 rfl rfl) ?_
 refine LM.mv rfl ?_
 refine LM.val (ov_idxSN au6 Try.underlying129 Try.sizeOf136 rfl rfl (by omega)) ?_
 refine LM.val (ov_field Try.underlying136 rfl Try.sizeOf3 rfl (k := 3) rfl rfl) ?_
 refine LM.rd (om_slE (j := 3) (by assumption) (by intro _; rfl) Try.isAgg3 rfl rfl (by exact getq default (by first | omega | (simp only [nL_len, nR_len, nU_len, nC_len, List.length_set, List.length_append, List.length_cons, List.length_nil]; omega))) rfl (by rfl)) ?_
 refine LM.as rfl ?_
 refine LM.nil (QM.sub (e' := [(0, _), (1, _), (4, _), (5, _)]) au9 (QM.then (wpM.seq (wpM.region ?_))))
 rw [rd_nRL]
 refine LM.mv rfl ?_
 refine LM.val (ov_neq rfl rfl) ?_
 refine LM.nil (QM.sub (e' := [(0, _), (1, _), (4, _), (5, _), (38, _)]) au9 (QM.then ?_))
 refine wpM.joinK (α := List Nd × Mem0) (fun ⟨N2, m2⟩ => []) [(0, _), (1, _), (4, _)] (fun ⟨N2, m2⟩ => rtB b most bn n cap root first free cnt :: (m2 ++ [])) (fun ⟨N2, m2⟩ => NdS n0 bn n cap N2 m2 ∧ WfS (N2, root) N.length ∧ N2 = (if (N.getD (N.getD i default).r default).l = 0 then nR N i (N.getD (N.getD i default).r default).l else nU (nR N i (N.getD (N.getD i default).r default).l) (N.getD (N.getD i default).r default).l i)) ⟨rfl, rfl, rfl, trivial⟩ ?_ ?_
 ·
  refine wpM.condD rfl (fun h1 => ?_) (fun h1 => ?_)
  ·
   refine wpM.region ?_
   refine LM.mv rfl ?_
   refine LM.val (ov_nilCheck rfl) ?_
   refine LM.val (ov_field Try.underlying131 rfl Try.sizeOf129 rfl (k := 1) rfl rfl) ?_
   refine LM.rd (om_ld Try.isAgg129 rfl rfl) ?_
   refine LM.mv rfl (LM.mv rfl ?_)
   refine LM.val (ov_idxSN au6 Try.underlying129 Try.sizeOf136 rfl rfl (by omega)) ?_
   refine LM.val (ov_field Try.underlying136 rfl Try.sizeOf3 rfl (k := 5) rfl rfl) ?_
   refine LM.stS ({ gN (nR N i (N.getD (N.getD i default).r default).l) ( (N.getD (N.getD i default).r default).l) with up :=  i }) (j := 5) (by assumption) (by intro _; rfl) Try.sizeOf3 rfl rfl rfl (by exact getq default (by first | omega | (simp only [nL_len, nR_len, nU_len, nC_len, List.length_set, List.length_append, List.length_cons, List.length_nil]; omega))) rfl (by decide) (by rfl) rfl (fun p hp _ => .inr (Sl.at_bn (by assumption) p hp)) (fun ms2 hss2 hmm2 => ?_)
   change Sl _ _ _ _ (nU (nR N i (N.getD (N.getD i default).r default).l) ( (N.getD (N.getD i default).r default).l) ( i)) _ _ at hss2
   refine LM.nil (QM.sub (e' := [(0, _), (1, _), (4, _)]) au9 ?_)
   refine QM.meetK (nU (nR N i (N.getD (N.getD i default).r default).l) (N.getD (N.getD i default).r default).l i, ms2) ⟨rfl, rfl, rfl, trivial⟩ au1 ?_
   · exact ⟨by assumption, ⟨wf_sU hw1.wf _ (by rw [hw1.len]; exact hi), by rw [nU_len]; exact hw1.len, hw.rt⟩, (if_neg (fun q => h1 (Int.natCast_inj.2 q))).symm⟩
  refine wpM.skip ?_
  refine QM.meetK (nR N i (N.getD (N.getD i default).r default).l, ms1) ⟨rfl, rfl, rfl, trivial⟩ au1 ?_
  · exact ⟨by assumption, hw1, (if_pos (Int.natCast_inj.1 (Classical.not_not.1 h1))).symm⟩
 rintro ⟨N2, m2⟩ ⟨hs2, hw2, he⟩
 change QM _ _ _ _ _ (rtB b most bn n cap root first free cnt :: (m2 ++ [])) _ _ _
 have hl2 := hw2.len; simp only at hl2; have hu2 : (N2.getD i default).up < N.length := up_wf hw2 i
 refine QM.then (wpM.seq (wpM.region ?_))
 refine LM.mv rfl (LM.mv rfl ?_)
 refine LM.val (ov_nilCheck rfl) ?_
 refine LM.val (ov_field Try.underlying131 rfl Try.sizeOf129 rfl (k := 1) rfl rfl) ?_
 refine LM.rd (om_ld Try.isAgg129 rfl rfl) ?_
 refine LM.mv rfl ?_
 refine LM.val (ov_idxSN au6 Try.underlying129 Try.sizeOf136 rfl rfl (by omega)) ?_
 refine LM.val (ov_field Try.underlying136 rfl Try.sizeOf3 rfl (k := 5) rfl rfl) ?_
 refine LM.rd (om_slE (j := 5) (by assumption) (by intro _; rfl) Try.isAgg3 rfl rfl (by exact getq default (by first | omega | (simp only [nL_len, nR_len, nU_len, nC_len, List.length_set, List.length_append, List.length_cons, List.length_nil]; omega))) rfl (by rfl)) ?_
 refine LM.mv rfl (LM.mv rfl ?_)
 refine LM.cU (oc_call (enters_fn Try.func115 (by kernel_rfl) rfl) rfl) (fun w hm hc hg => swap_spec (N := N2) (N2.getD i default).up i (N.getD i default).r w (hn.trans hl2.symm) hs2 (by rw [hl2]; exact hu2) (by rw [hl2]; exact hr) (hm.pick (rtB b most bn n cap root first free cnt :: m2))) (rt_wlk hs2) (rt_hS hs2) ?_
 rintro u58 m58 ⟨rfl, m3, rfl, hs3⟩ -; have hw3 := swp_wf hw2 hu2 (was := i) hr; have hl3 := hw3.len; generalize hS3 : swpF (N2, root) (N2.getD i default).up i (N.getD i default).r = S3 at *
 refine LM.nil (QM.sub (e' := [(0, _), (1, _), (4, _)]) au9 (QM.then (wpM.seq (wpM.region ?_))))
 refine LM.mv rfl ?_
 refine LM.val (ov_nilCheck rfl) ?_
 refine LM.val (ov_field Try.underlying131 rfl Try.sizeOf129 rfl (k := 1) rfl rfl) ?_
 refine LM.rd (om_ld Try.isAgg129 rfl rfl) ?_
 refine LM.mv rfl (LM.mv rfl ?_)
 refine LM.val (ov_idxSN au6 Try.underlying129 Try.sizeOf136 rfl rfl (by omega)) ?_
 refine LM.val (ov_field Try.underlying136 rfl Try.sizeOf3 rfl (k := 3) rfl rfl) ?_
 refine LM.stS ({ gN (S3.1) ( (N.getD i default).r) with l :=  i }) (j := 3) (by assumption) (by intro _; rfl) Try.sizeOf3 rfl rfl rfl (by exact getq default (by first | omega | (simp only [nL_len, nR_len, nU_len, nC_len, List.length_set, List.length_append, List.length_cons, List.length_nil]; omega))) rfl (by decide) (by rfl) rfl (fun p hp _ => .inr (Sl.at_bn (by assumption) p hp)) (fun ms2 hss2 hmm2 => ?_)
 change Sl _ _ _ _ (nL (S3.1) ( (N.getD i default).r) ( i)) _ _ at hss2
 refine LM.nil (QM.sub (e' := [(0, _), (1, _), (4, _)]) au9 (QM.then (wpM.region ?_)))
 refine LM.mv rfl ?_
 refine LM.val (ov_nilCheck rfl) ?_
 refine LM.val (ov_field Try.underlying131 rfl Try.sizeOf129 rfl (k := 1) rfl rfl) ?_
 refine LM.rd (om_ld Try.isAgg129 rfl rfl) ?_
 refine LM.mv rfl (LM.mv rfl ?_)
 refine LM.val (ov_idxSN au6 Try.underlying129 Try.sizeOf136 rfl rfl (by omega)) ?_
 refine LM.val (ov_field Try.underlying136 rfl Try.sizeOf3 rfl (k := 5) rfl rfl) ?_
 refine LM.stS ({ gN (nL S3.1 (N.getD i default).r i) ( i) with up :=  (N.getD i default).r }) (j := 5) (by assumption) (by intro _; rfl) Try.sizeOf3 rfl rfl rfl (by exact getq default (by first | omega | (simp only [nL_len, nR_len, nU_len, nC_len, List.length_set, List.length_append, List.length_cons, List.length_nil]; omega))) rfl (by decide) (by rfl) rfl (fun p hp _ => .inr (Sl.at_bn (by assumption) p hp)) (fun ms3 hss3 hmm3 => ?_)
 change Sl _ _ _ _ (nU (nL S3.1 (N.getD i default).r i) ( i) ( (N.getD i default).r)) _ _ at hss3
 refine LM.nil (QM.sub (e' := []) trivial ?_)
 refine QM.leave (.inr rfl) [] Try.results123 rfl ?_
 intro w' hm' hc' hg'
 have e : trnF (N, root) i true = (nU (nL S3.1 (N.getD i default).r i) i (N.getD i default).r, S3.2) := (by rw [← hS3, he]; rfl)
 rw [e]; exact rt_leaf hs (by assumption) hm' au1 hc'
set_option maxRecDepth 100000 in
theorem turnR_spec {n0 b most bn n cap root first free cnt : Nat} {N : List Nd} {ms : Mem0} (i : Nat) (w : World) (hn : n = N.length) (hs : NdS n0 bn n cap N ms) (hw : WfS (N, root) N.length) (hi : i < N.length) (hM : Mem w (rtB b most bn n cap root first free cnt :: ms)) : Ret Try.prog 124 #[.pointer (some ⟨b, 0, none⟩), .int .i64 (i : Nat)] w (Upd (rtB b most bn n cap root first free cnt :: ms) (RtT n0 b most bn n cap (trnF (N, root) i false).2 first free cnt (trnF (N, root) i false).1) w) := by
 have hr : (N.getD i default).l < N.length := l_wf hw i; have hl : (N.getD (N.getD i default).l default).r < N.length := r_wf hw _; have hw1 : WfS (nL N i (N.getD (N.getD i default).l default).r, root) N.length := ⟨wf_sL hw.wf i hl, by rw [nL_len], hw.rt⟩; obtain ⟨r, hre⟩ : ∃ r, r = (N.getD i default).l := ⟨_, rfl⟩; obtain ⟨l, hle⟩ : ∃ l, l = (N.getD (N.getD i default).l default).r := ⟨_, rfl⟩
 refine Ret.enterM (l := [.pointer (some ⟨b, 0, none⟩), .int .i64 (i : Nat)]) Try.func124 rfl Try.ntmps124 rfl (rtB b most bn n cap root first free cnt :: ms) ((fun x => x = b ∨ x = bn)) hM ?_
 refine wpM.seq (wpM.region ?_)
 refine LM.mv rfl ?_
 refine LM.val (ov_nilCheck rfl) ?_
 refine LM.val (ov_field Try.underlying131 rfl Try.sizeOf129 rfl (k := 1) rfl rfl) ?_
 refine LM.rd (om_ld Try.isAgg129 rfl rfl) ?_
 refine LM.mv rfl ?_
 refine LM.val (ov_idxSN au6 Try.underlying129 Try.sizeOf136 rfl rfl (by omega)) ?_
 refine LM.val (ov_field Try.underlying136 rfl Try.sizeOf3 rfl (k := 3) rfl rfl) ?_
 refine LM.rd (om_slE (j := 3) (by assumption) (by intro _; rfl) Try.isAgg3 rfl rfl (by exact getq default (by first | omega | (simp only [nL_len, nR_len, nU_len, nC_len, List.length_set, List.length_append, List.length_cons, List.length_nil]; omega))) rfl (by rfl)) ?_
 refine LM.as rfl ?_
 refine LM.nil (QM.sub (e' := [(0, _), (1, _), (4, _)]) au9 (QM.then ?_))
 refine wpM.seq ?_
 refine wpM.draw [(0, 0), (1, 0), (2, 0), (3, 1), (4, 0), (5, 0), (6, 0), (7, 0), (8, 1), (9, 0), (10, 0), (11, 0), (12, 1), (13, 0), (14, 0), (15, 3)] (by kernel_rfl) (by kernel_rfl) ?_
 refine LD.val rfl rfl (ov_move rfl) ?_
 refine LD.val rfl rfl (ov_nilCheck rfl) ?_
 refine LD.val rfl rfl (ov_field Try.underlying131 rfl Try.sizeOf129 rfl (k := 1) rfl rfl) ?_
 refine LD.rd rfl rfl (om_ld Try.isAgg129 rfl rfl) ?_
 refine LD.val rfl rfl (ov_move rfl) ?_
 refine LD.val rfl rfl (ov_move rfl) ?_
 refine LD.val rfl rfl (ov_nilCheck rfl) ?_
 refine LD.val rfl rfl (ov_field Try.underlying131 rfl Try.sizeOf129 rfl (k := 1) rfl rfl) ?_
 refine LD.rd rfl rfl (om_ld Try.isAgg129 rfl rfl) ?_
 refine LD.val rfl rfl (ov_move rfl) ?_
 refine LD.val rfl rfl (ov_idxSN au6 Try.underlying129 Try.sizeOf136 rfl rfl (by omega)) ?_
 refine LD.val rfl rfl (ov_field Try.underlying136 rfl Try.sizeOf3 rfl (k := 4) rfl rfl) ?_
 refine LD.rd rfl rfl (om_slE (j := 4) (by assumption) (by intro _; rfl) Try.isAgg3 rfl rfl (by exact getq default (by first | omega | (simp only [nL_len, nR_len, nU_len, nC_len, List.length_set, List.length_append, List.length_cons, List.length_nil]; omega))) rfl (by rfl)) ?_
 refine LD.val rfl rfl (ov_idxSN au6 Try.underlying129 Try.sizeOf136 rfl rfl (by omega)) ?_
 refine LD.val rfl rfl (ov_field Try.underlying136 rfl Try.sizeOf3 rfl (k := 3) rfl rfl) ?_
 refine LD.tail rfl rfl ?_
 refine LM.stS ({ gN (N) ( i) with l :=  (N.getD (N.getD i default).l default).r }) (j := 3) (by assumption) (by intro _; rfl) Try.sizeOf3 rfl rfl rfl (by exact getq default (by first | omega | (simp only [nL_len, nR_len, nU_len, nC_len, List.length_set, List.length_append, List.length_cons, List.length_nil]; omega))) rfl (by decide) (by rfl) rfl (fun p hp _ => .inr (Sl.at_bn (by assumption) p hp)) (fun ms1 hss1 hmm1 => ?_)
 change Sl _ _ _ _ (nL (N) ( i) ( (N.getD (N.getD i default).l default).r)) _ _ at hss1
 refine LM.nil ?_
 refine QM.qn ?_
 refine QM.sub (e' := [(0, _), (1, _), (4, _)]) au9 (QM.then ?_)
 refine wpM.seq ?_
 refine wpM.seq (wpM.region ?_)
 refine LM.mv rfl ?_
 refine LM.val (ov_nilCheck rfl) ?_
 refine LM.val (ov_field Try.underlying131 rfl Try.sizeOf129 rfl (k := 1) rfl rfl) ?_
 refine LM.rd (om_ld Try.isAgg129 rfl rfl) ?_
 refine LM.mv rfl ?_
 refine LM.val (ov_idxSN au6 Try.underlying129 Try.sizeOf136 rfl rfl (by omega)) ?_
 refine LM.val (ov_field Try.underlying136 rfl Try.sizeOf3 rfl (k := 4) rfl rfl) ?_
 refine LM.rd (om_slE (j := 4) (by assumption) (by intro _; rfl) Try.isAgg3 rfl rfl (by exact getq default (by first | omega | (simp only [nL_len, nR_len, nU_len, nC_len, List.length_set, List.length_append, List.length_cons, List.length_nil]; omega))) rfl (by rfl)) ?_
 refine LM.as rfl ?_
 refine LM.nil (QM.sub (e' := [(0, _), (1, _), (4, _), (5, _)]) au9 (QM.then (wpM.seq (wpM.region ?_))))
 rw [rd_nLR]
 refine LM.mv rfl ?_
 refine LM.val (ov_neq rfl rfl) ?_
 refine LM.nil (QM.sub (e' := [(0, _), (1, _), (4, _), (5, _), (38, _)]) au9 (QM.then ?_))
 refine wpM.joinK (α := List Nd × Mem0) (fun ⟨N2, m2⟩ => []) [(0, _), (1, _), (4, _)] (fun ⟨N2, m2⟩ => rtB b most bn n cap root first free cnt :: (m2 ++ [])) (fun ⟨N2, m2⟩ => NdS n0 bn n cap N2 m2 ∧ WfS (N2, root) N.length ∧ N2 = (if (N.getD (N.getD i default).l default).r = 0 then nL N i (N.getD (N.getD i default).l default).r else nU (nL N i (N.getD (N.getD i default).l default).r) (N.getD (N.getD i default).l default).r i)) ⟨rfl, rfl, rfl, trivial⟩ ?_ ?_
 ·
  refine wpM.condD rfl (fun h1 => ?_) (fun h1 => ?_)
  ·
   refine wpM.region ?_
   refine LM.mv rfl ?_
   refine LM.val (ov_nilCheck rfl) ?_
   refine LM.val (ov_field Try.underlying131 rfl Try.sizeOf129 rfl (k := 1) rfl rfl) ?_
   refine LM.rd (om_ld Try.isAgg129 rfl rfl) ?_
   refine LM.mv rfl (LM.mv rfl ?_)
   refine LM.val (ov_idxSN au6 Try.underlying129 Try.sizeOf136 rfl rfl (by omega)) ?_
   refine LM.val (ov_field Try.underlying136 rfl Try.sizeOf3 rfl (k := 5) rfl rfl) ?_
   refine LM.stS ({ gN (nL N i (N.getD (N.getD i default).l default).r) ( (N.getD (N.getD i default).l default).r) with up :=  i }) (j := 5) (by assumption) (by intro _; rfl) Try.sizeOf3 rfl rfl rfl (by exact getq default (by first | omega | (simp only [nL_len, nR_len, nU_len, nC_len, List.length_set, List.length_append, List.length_cons, List.length_nil]; omega))) rfl (by decide) (by rfl) rfl (fun p hp _ => .inr (Sl.at_bn (by assumption) p hp)) (fun ms2 hss2 hmm2 => ?_)
   change Sl _ _ _ _ (nU (nL N i (N.getD (N.getD i default).l default).r) ( (N.getD (N.getD i default).l default).r) ( i)) _ _ at hss2
   refine LM.nil (QM.sub (e' := [(0, _), (1, _), (4, _)]) au9 ?_)
   refine QM.meetK (nU (nL N i (N.getD (N.getD i default).l default).r) (N.getD (N.getD i default).l default).r i, ms2) ⟨rfl, rfl, rfl, trivial⟩ au1 ?_
   · exact ⟨by assumption, ⟨wf_sU hw1.wf _ (by rw [hw1.len]; exact hi), by rw [nU_len]; exact hw1.len, hw.rt⟩, (if_neg (fun q => h1 (Int.natCast_inj.2 q))).symm⟩
  refine wpM.skip ?_
  refine QM.meetK (nL N i (N.getD (N.getD i default).l default).r, ms1) ⟨rfl, rfl, rfl, trivial⟩ au1 ?_
  · exact ⟨by assumption, hw1, (if_pos (Int.natCast_inj.1 (Classical.not_not.1 h1))).symm⟩
 rintro ⟨N2, m2⟩ ⟨hs2, hw2, he⟩
 change QM _ _ _ _ _ (rtB b most bn n cap root first free cnt :: (m2 ++ [])) _ _ _
 have hl2 := hw2.len; simp only at hl2; have hu2 : (N2.getD i default).up < N.length := up_wf hw2 i
 refine QM.then (wpM.seq (wpM.region ?_))
 refine LM.mv rfl (LM.mv rfl ?_)
 refine LM.val (ov_nilCheck rfl) ?_
 refine LM.val (ov_field Try.underlying131 rfl Try.sizeOf129 rfl (k := 1) rfl rfl) ?_
 refine LM.rd (om_ld Try.isAgg129 rfl rfl) ?_
 refine LM.mv rfl ?_
 refine LM.val (ov_idxSN au6 Try.underlying129 Try.sizeOf136 rfl rfl (by omega)) ?_
 refine LM.val (ov_field Try.underlying136 rfl Try.sizeOf3 rfl (k := 5) rfl rfl) ?_
 refine LM.rd (om_slE (j := 5) (by assumption) (by intro _; rfl) Try.isAgg3 rfl rfl (by exact getq default (by first | omega | (simp only [nL_len, nR_len, nU_len, nC_len, List.length_set, List.length_append, List.length_cons, List.length_nil]; omega))) rfl (by rfl)) ?_
 refine LM.mv rfl (LM.mv rfl ?_)
 refine LM.cU (oc_call (enters_fn Try.func115 (by kernel_rfl) rfl) rfl) (fun w hm hc hg => swap_spec (N := N2) (N2.getD i default).up i (N.getD i default).l w (hn.trans hl2.symm) hs2 (by rw [hl2]; exact hu2) (by rw [hl2]; exact hr) (hm.pick (rtB b most bn n cap root first free cnt :: m2))) (rt_wlk hs2) (rt_hS hs2) ?_
 rintro u58 m58 ⟨rfl, m3, rfl, hs3⟩ -; have hw3 := swp_wf hw2 hu2 (was := i) hr; have hl3 := hw3.len; generalize hS3 : swpF (N2, root) (N2.getD i default).up i (N.getD i default).l = S3 at *
 refine LM.nil (QM.sub (e' := [(0, _), (1, _), (4, _)]) au9 (QM.then (wpM.seq (wpM.region ?_))))
 refine LM.mv rfl ?_
 refine LM.val (ov_nilCheck rfl) ?_
 refine LM.val (ov_field Try.underlying131 rfl Try.sizeOf129 rfl (k := 1) rfl rfl) ?_
 refine LM.rd (om_ld Try.isAgg129 rfl rfl) ?_
 refine LM.mv rfl (LM.mv rfl ?_)
 refine LM.val (ov_idxSN au6 Try.underlying129 Try.sizeOf136 rfl rfl (by omega)) ?_
 refine LM.val (ov_field Try.underlying136 rfl Try.sizeOf3 rfl (k := 4) rfl rfl) ?_
 refine LM.stS ({ gN (S3.1) ( (N.getD i default).l) with r :=  i }) (j := 4) (by assumption) (by intro _; rfl) Try.sizeOf3 rfl rfl rfl (by exact getq default (by first | omega | (simp only [nL_len, nR_len, nU_len, nC_len, List.length_set, List.length_append, List.length_cons, List.length_nil]; omega))) rfl (by decide) (by rfl) rfl (fun p hp _ => .inr (Sl.at_bn (by assumption) p hp)) (fun ms2 hss2 hmm2 => ?_)
 change Sl _ _ _ _ (nR (S3.1) ( (N.getD i default).l) ( i)) _ _ at hss2
 refine LM.nil (QM.sub (e' := [(0, _), (1, _), (4, _)]) au9 (QM.then (wpM.region ?_)))
 refine LM.mv rfl ?_
 refine LM.val (ov_nilCheck rfl) ?_
 refine LM.val (ov_field Try.underlying131 rfl Try.sizeOf129 rfl (k := 1) rfl rfl) ?_
 refine LM.rd (om_ld Try.isAgg129 rfl rfl) ?_
 refine LM.mv rfl (LM.mv rfl ?_)
 refine LM.val (ov_idxSN au6 Try.underlying129 Try.sizeOf136 rfl rfl (by omega)) ?_
 refine LM.val (ov_field Try.underlying136 rfl Try.sizeOf3 rfl (k := 5) rfl rfl) ?_
 refine LM.stS ({ gN (nR S3.1 (N.getD i default).l i) ( i) with up :=  (N.getD i default).l }) (j := 5) (by assumption) (by intro _; rfl) Try.sizeOf3 rfl rfl rfl (by exact getq default (by first | omega | (simp only [nL_len, nR_len, nU_len, nC_len, List.length_set, List.length_append, List.length_cons, List.length_nil]; omega))) rfl (by decide) (by rfl) rfl (fun p hp _ => .inr (Sl.at_bn (by assumption) p hp)) (fun ms3 hss3 hmm3 => ?_)
 change Sl _ _ _ _ (nU (nR S3.1 (N.getD i default).l i) ( i) ( (N.getD i default).l)) _ _ at hss3
 refine LM.nil (QM.sub (e' := []) trivial ?_)
 refine QM.leave (.inr rfl) [] Try.results124 rfl ?_
 intro w' hm' hc' hg'
 have e : trnF (N, root) i false = (nU (nR S3.1 (N.getD i default).l i) i (N.getD i default).l, S3.2) := (by rw [← hS3, he]; rfl)
 rw [e]; exact rt_leaf hs (by assumption) hm' au1 hc'
set_option maxRecDepth 100000 in
theorem turn_spec {n0 b most bn n cap root first free cnt : Nat} {N : List Nd} {ms : Mem0} (i : Nat) (s : Bool) (w : World) (hn : n = N.length) (hs : NdS n0 bn n cap N ms) (hw : WfS (N, root) N.length) (hi : i < N.length) (hM : Mem w (rtB b most bn n cap root first free cnt :: ms)) : Ret Try.prog 113 #[.pointer (some ⟨b, 0, none⟩), .int .i64 (i : Nat), .bool s] w (Upd (rtB b most bn n cap root first free cnt :: ms) (RtT n0 b most bn n cap (trnF (N, root) i s).2 first free cnt (trnF (N, root) i s).1) w) := by
 refine Ret.enterM (l := [.pointer (some ⟨b, 0, none⟩), .int .i64 (i : Nat), .bool s]) Try.func113 rfl Try.ntmps113 rfl (rtB b most bn n cap root first free cnt :: ms) ((fun x => x = b ∨ x = bn)) hM ?_
 refine wpM.seq ?_
 refine wpM.seq (wpM.region ?_)
 refine LM.mv rfl ?_
 refine LM.nil (QM.sub (e' := [(0, _), (1, _), (6, _)]) au9 (QM.then ?_))
 first | refine wpM.condD rfl (fun h1 => ?_) (fun h1 => ?_) | refine wpM.condB rfl (fun h1 => ?_) (fun h1 => ?_)
 ·
  refine wpM.seq (wpM.region ?_)
  refine LM.mv rfl (LM.mv rfl ?_)
  refine LM.cU (oc_call (enters_fn Try.func123 (by kernel_rfl) rfl) rfl) (fun w hm hc hg => turnL_spec i w hn hs hw hi (hm.pick (rtB b most bn n cap root first free cnt :: ms))) (rt_wlk hs) (rt_hS hs) ?_
  rintro u9 m9 ⟨rfl, m3, rfl, hs3⟩ -
  refine LM.nil (QM.sub (e' := []) trivial (QM.then ?_))
  refine wpM.ret ?_
  refine QM.then_ret ?_
  refine QM.leave (.inl rfl) [] Try.results113 rfl ?_
  intro w' hm' hc' hg'
  subst h1; exact rt_leaf hs hs3 hm' au1 hc'
 refine wpM.skip ?_
 refine QM.then (wpM.region ?_)
 refine LM.mv rfl (LM.mv rfl ?_)
 refine LM.cU (oc_call (enters_fn Try.func124 (by kernel_rfl) rfl) rfl) (fun w hm hc hg => turnR_spec i w hn hs hw hi (hm.pick (rtB b most bn n cap root first free cnt :: ms))) (rt_wlk hs) (rt_hS hs) ?_
 rintro u9 m9 ⟨rfl, m3, rfl, hs3⟩ -
 refine LM.nil (QM.sub (e' := []) trivial ?_)
 refine QM.leave (.inr rfl) [] Try.results113 rfl ?_
 intro w' hm' hc' hg'
 subst h1; exact rt_leaf hs hs3 hm' au1 hc'
end Go.Eng
namespace Go.Eng
open Go Go.Proofs Go.RowKit
theorem dec_nat (a b : Nat) : decide ((a : Int) = (b : Int)) = decide (a = b) := decide_eq_decide.2 Int.natCast_inj
set_option maxRecDepth 100000 in
set_option maxHeartbeats 1000000 in
theorem grown_spec {n0 b most bn n cap root first free cnt : Nat} {N : List Nd} {ms : Mem0} {S' : Ns} (f i : Nat) (w : World) (hg : grwF f (N, root) i = some S') (hn : n = N.length) (hs : NdS n0 bn n cap N ms) (hw : WfS (N, root) N.length) (hi : i < N.length) (hM : Mem w (rtB b most bn n cap root first free cnt :: ms)) : Ret Try.prog 92 #[.pointer (some ⟨b, 0, none⟩), .int .i64 (i : Nat)] w (Upd (rtB b most bn n cap root first free cnt :: ms) (RtT n0 b most bn n cap S'.2 first free cnt S'.1) w) := by
 refine Ret.enterM (l := [.pointer (some ⟨b, 0, none⟩), .int .i64 (i : Nat)]) Try.func92 rfl Try.ntmps92 rfl (rtB b most bn n cap root first free cnt :: ms) ((fun x => x = b ∨ x = bn)) hM ?_
 refine wpM.seq ?_
 refine wpM.block ?_
 refine wpM.loopK0 (α := Nat × List Nd × Nat × Nat × Mem0) (fun ⟨k, N1, root1, i1, m1⟩ => [(1, .int .i64 (i1 : Nat))]) [(0, _)] (fun ⟨k, N1, root1, i1, m1⟩ => rtB b most bn n cap root1 first free cnt :: (m1 ++ [])) (fun ⟨k, N1, root1, i1, m1⟩ => NdS n0 bn n cap N1 m1 ∧ WfS (N1, root1) N.length ∧ i1 < N.length ∧ grwF k (N1, root1) i1 = some S') (fun ⟨k, N1, root1, i1, m1⟩ => k) ((f, N, root, i, ms)) ⟨au2, rfl, trivial⟩ au1 ⟨hs, hw, hi, hg⟩ ?_
 rintro ⟨k, N1, root1, i1, m1⟩ ⟨hs1, hw1, hi1, hgr⟩
 change wpM _ _ _ _ _ _ _ (rtB b most bn n cap root1 first free cnt :: (m1 ++ [])) _ _ _
 obtain ⟨k, rfl⟩ : ∃ k', k = k' + 1 := (by cases k with | zero => cases hgr | succ k => exact ⟨k, rfl⟩); rw [grwF] at hgr; have hl1 : N1.length = N.length := hw1.len; have hu1 : (N1.getD i1 default).up < N.length := up_wf hw1 i1; have ht1 : (N1.getD (N1.getD i1 default).up default).up < N.length := up_wf hw1 _; have hr1 : root1 < N.length := hw1.rt
 refine wpM.seq ?_
 refine wpM.seq ?_
 refine wpM.draw [(0, 0), (1, 0), (2, 0), (3, 1), (4, 0), (5, 0), (6, 0), (7, 1), (8, 0), (9, 0), (10, 0), (11, 1), (12, 0), (13, 0), (14, 1)] (by kernel_rfl) (by kernel_rfl) ?_
 refine LD.val rfl rfl (ov_move rfl) ?_
 refine LD.val rfl rfl (ov_nilCheck rfl) ?_
 refine LD.val rfl rfl (ov_field Try.underlying131 rfl Try.sizeOf129 rfl (k := 1) rfl rfl) ?_
 refine LD.rd rfl rfl (om_ld Try.isAgg129 rfl rfl) ?_
 refine LD.val rfl rfl (ov_move rfl) ?_
 refine LD.val rfl rfl (ov_nilCheck rfl) ?_
 refine LD.val rfl rfl (ov_field Try.underlying131 rfl Try.sizeOf129 rfl (k := 1) rfl rfl) ?_
 refine LD.rd rfl rfl (om_ld Try.isAgg129 rfl rfl) ?_
 refine LD.val rfl rfl (ov_move rfl) ?_
 refine LD.val rfl rfl (ov_idxSN au6 Try.underlying129 Try.sizeOf136 rfl rfl (by omega)) ?_
 refine LD.val rfl rfl (ov_field Try.underlying136 rfl Try.sizeOf3 rfl (k := 5) rfl rfl) ?_
 refine LD.rd rfl rfl (om_slE (j := 5) (by assumption) (by intro _; rfl) Try.isAgg3 rfl rfl (by exact getq default (by first | omega | (simp only [nL_len, nR_len, nU_len, nC_len, List.length_set, List.length_append, List.length_cons, List.length_nil]; omega))) rfl (by rfl)) ?_
 refine LD.val rfl rfl (ov_idxSN au6 Try.underlying129 Try.sizeOf136 rfl rfl (by omega)) ?_
 refine LD.val rfl rfl (ov_field Try.underlying136 rfl Try.sizeOf4 rfl (k := 6) rfl rfl) ?_
 refine LD.rd rfl rfl (om_slE (j := 6) (by assumption) (by intro _; rfl) Try.isAgg4 rfl rfl (by exact getq default (by first | omega | (simp only [nL_len, nR_len, nU_len, nC_len, List.length_set, List.length_append, List.length_cons, List.length_nil]; omega))) rfl (by rfl)) ?_
 refine LD.nil ?_
 refine QM.sub (e' := [(0, _), (1, _), (22, _)]) au9 (QM.then ?_)
 first | refine wpM.condD rfl (fun h1 => ?_) (fun h1 => ?_) | refine wpM.condB rfl (fun h1 => ?_) (fun h1 => ?_)
 ·
  rw [if_pos h1] at hgr; dsimp only at hgr; obtain ⟨s, hse⟩ : ∃ s, s = decide ((gN N1 (gN N1 (gN N1 i1).up).up).l = (gN N1 i1).up) := ⟨_, rfl⟩; have hc1 : (N1.getD (N1.getD (N1.getD i1 default).up default).up default).ch (!s) < N.length := ch_wf hw1 _ _
  refine wpM.skip ?_
  refine QM.then ?_
  refine wpM.block ?_
  refine wpM.seq (wpM.region ?_)
  refine LM.mv rfl ?_
  refine LM.val (ov_nilCheck rfl) ?_
  refine LM.val (ov_field Try.underlying131 rfl Try.sizeOf129 rfl (k := 1) rfl rfl) ?_
  refine LM.rd (om_ld Try.isAgg129 rfl rfl) ?_
  refine LM.mv rfl ?_
  refine LM.val (ov_idxSN au6 Try.underlying129 Try.sizeOf136 rfl rfl (by omega)) ?_
  refine LM.val (ov_field Try.underlying136 rfl Try.sizeOf3 rfl (k := 5) rfl rfl) ?_
  refine LM.rd (om_slE (j := 5) (by assumption) (by intro _; rfl) Try.isAgg3 rfl rfl (by exact getq default (by first | omega | (simp only [nL_len, nR_len, nU_len, nC_len, List.length_set, List.length_append, List.length_cons, List.length_nil]; omega))) rfl (by rfl)) ?_
  refine LM.as rfl ?_
  refine LM.nil (QM.sub (e' := [(0, _), (1, _), (4, _)]) au9 (QM.then (wpM.seq (wpM.region ?_))))
  refine LM.mv rfl ?_
  refine LM.val (ov_nilCheck rfl) ?_
  refine LM.val (ov_field Try.underlying131 rfl Try.sizeOf129 rfl (k := 1) rfl rfl) ?_
  refine LM.rd (om_ld Try.isAgg129 rfl rfl) ?_
  refine LM.mv rfl ?_
  refine LM.val (ov_idxSN au6 Try.underlying129 Try.sizeOf136 rfl rfl (by omega)) ?_
  refine LM.val (ov_field Try.underlying136 rfl Try.sizeOf3 rfl (k := 5) rfl rfl) ?_
  refine LM.rd (om_slE (j := 5) (by assumption) (by intro _; rfl) Try.isAgg3 rfl rfl (by exact getq default (by first | omega | (simp only [nL_len, nR_len, nU_len, nC_len, List.length_set, List.length_append, List.length_cons, List.length_nil]; omega))) rfl (by rfl)) ?_
  refine LM.as rfl ?_
  refine LM.nil (QM.sub (e' := [(0, _), (1, _), (4, _), (5, _)]) au9 (QM.then (wpM.seq (wpM.region ?_))))
  refine LM.mv rfl ?_
  refine LM.val (ov_nilCheck rfl) ?_
  refine LM.val (ov_field Try.underlying131 rfl Try.sizeOf129 rfl (k := 1) rfl rfl) ?_
  refine LM.rd (om_ld Try.isAgg129 rfl rfl) ?_
  refine LM.mv rfl ?_
  refine LM.val (ov_idxSN au6 Try.underlying129 Try.sizeOf136 rfl rfl (by omega)) ?_
  refine LM.val (ov_field Try.underlying136 rfl Try.sizeOf3 rfl (k := 3) rfl rfl) ?_
  refine LM.rd (om_slE (j := 3) (by assumption) (by intro _; rfl) Try.isAgg3 rfl rfl (by exact getq default (by first | omega | (simp only [nL_len, nR_len, nU_len, nC_len, List.length_set, List.length_append, List.length_cons, List.length_nil]; omega))) rfl (by rfl)) ?_
  refine LM.mv rfl ?_
  refine LM.val (ov_eql rfl rfl) ?_
  refine LM.as rfl ?_
  refine LM.nil (QM.sub (e' := [(0, _), (1, _), (4, _), (5, _), (6, _)]) au9 (QM.then ?_))
  refine wpM.seq ?_
  refine wpM.seq (wpM.region ?_)
  rw [dec_nat, ← hse]; rw [← hse] at hgr
  refine LM.mv rfl (LM.mv rfl (LM.mv rfl ?_))
  first | refine LM.val (ov_notD rfl) ?_ | refine LM.val (ov_not rfl) ?_
  refine LM.callE (oc_call (enters_fn Try.func112 (by kernel_rfl) rfl) rfl) (fun w hm hc hg => below_spec (N := N1) (N1.getD (N1.getD i1 default).up default).up (!s) w (hn.trans hl1.symm) hs1 (by rw [hl1]; exact ht1) (hm.pick (rtB b most bn n cap root1 first free cnt :: m1))) ?_
  refine LM.as rfl ?_
  refine LM.nil (QM.sub (e' := [(0, _), (1, _), (4, _), (5, _), (6, _), (7, _)]) au9 (QM.then (wpM.seq (wpM.region ?_))))
  refine LM.mv rfl ?_
  refine LM.val (ov_nilCheck rfl) ?_
  refine LM.val (ov_field Try.underlying131 rfl Try.sizeOf129 rfl (k := 1) rfl rfl) ?_
  refine LM.rd (om_ld Try.isAgg129 rfl rfl) ?_
  refine LM.mv rfl ?_
  refine LM.val (ov_idxSN au6 Try.underlying129 Try.sizeOf136 rfl rfl (by omega)) ?_
  refine LM.val (ov_field Try.underlying136 rfl Try.sizeOf4 rfl (k := 6) rfl rfl) ?_
  refine LM.rd (om_slE (j := 6) (by assumption) (by intro _; rfl) Try.isAgg4 rfl rfl (by exact getq default (by first | omega | (simp only [nL_len, nR_len, nU_len, nC_len, List.length_set, List.length_append, List.length_cons, List.length_nil]; omega))) rfl (by rfl)) ?_
  refine LM.nil (QM.sub (e' := [(0, _), (1, _), (4, _), (5, _), (6, _), (7, _), (61, _)]) au9 (QM.then ?_))
  first | refine wpM.condD rfl (fun h2 => ?_) (fun h2 => ?_) | refine wpM.condB rfl (fun h2 => ?_) (fun h2 => ?_)
  ·
   rw [if_pos h2] at hgr
   refine wpM.seq ?_
   refine wpM.draw [(0, 0), (1, 0), (2, 0), (3, 1), (4, 0), (5, 0), (6, 0), (7, 0), (8, 1), (9, 0), (10, 0), (11, 0), (12, 0), (13, 1), (14, 0), (15, 0), (16, 0), (17, 3), (18, 3), (19, 3), (20, 3), (21, 3), (22, 3), (23, 3)] (by kernel_rfl) (by kernel_rfl) ?_
   refine LD.val rfl rfl (ov_move rfl) ?_
   refine LD.val rfl rfl (ov_nilCheck rfl) ?_
   refine LD.val rfl rfl (ov_field Try.underlying131 rfl Try.sizeOf129 rfl (k := 1) rfl rfl) ?_
   refine LD.rd rfl rfl (om_ld Try.isAgg129 rfl rfl) ?_
   refine LD.val rfl rfl (ov_move rfl) ?_
   refine LD.val rfl rfl (ov_move rfl) ?_
   refine LD.val rfl rfl (ov_nilCheck rfl) ?_
   refine LD.val rfl rfl (ov_field Try.underlying131 rfl Try.sizeOf129 rfl (k := 1) rfl rfl) ?_
   refine LD.rd rfl rfl (om_ld Try.isAgg129 rfl rfl) ?_
   refine LD.val rfl rfl (ov_move rfl) ?_
   refine LD.val rfl rfl (ov_move rfl) ?_
   refine LD.val rfl rfl (ov_nilCheck rfl) ?_
   refine LD.val rfl rfl (ov_field Try.underlying131 rfl Try.sizeOf129 rfl (k := 1) rfl rfl) ?_
   refine LD.rd rfl rfl (om_ld Try.isAgg129 rfl rfl) ?_
   refine LD.val rfl rfl (ov_move rfl) ?_
   refine LD.val rfl rfl (ov_idxSN au6 Try.underlying129 Try.sizeOf136 rfl rfl (by omega)) ?_
   refine LD.val rfl rfl (ov_field Try.underlying136 rfl Try.sizeOf4 rfl (k := 6) rfl rfl) ?_
   refine LD.tail rfl rfl ?_
   refine LM.stS ({ gN (N1) ( (N1.getD i1 default).up) with red :=  false }) (j := 6) (by assumption) (by intro _; rfl) Try.sizeOf4 rfl rfl rfl (by exact getq default (by first | omega | (simp only [nL_len, nR_len, nU_len, nC_len, List.length_set, List.length_append, List.length_cons, List.length_nil]; omega))) rfl (by decide) (by rfl) rfl (fun p hp _ => .inr (Sl.at_bn (by assumption) p hp)) (fun ms1 hss1 hmm1 => ?_)
   change Sl _ _ _ _ (nC (N1) ( (N1.getD i1 default).up) ( false)) _ _ at hss1
   refine LM.val (ov_idxSN au6 Try.underlying129 Try.sizeOf136 rfl rfl (by omega)) ?_
   refine LM.val (ov_field Try.underlying136 rfl Try.sizeOf4 rfl (k := 6) rfl rfl) ?_
   refine LM.stS ({ gN (nC N1 (N1.getD i1 default).up false) ( (N1.getD (N1.getD (N1.getD i1 default).up default).up default).ch (!s)) with red :=  false }) (j := 6) (by assumption) (by intro _; rfl) Try.sizeOf4 rfl rfl rfl (by exact getq default (by first | omega | (simp only [nL_len, nR_len, nU_len, nC_len, List.length_set, List.length_append, List.length_cons, List.length_nil]; omega))) rfl (by decide) (by rfl) rfl (fun p hp _ => .inr (Sl.at_bn (by assumption) p hp)) (fun ms2 hss2 hmm2 => ?_)
   change Sl _ _ _ _ (nC (nC N1 (N1.getD i1 default).up false) ( (N1.getD (N1.getD (N1.getD i1 default).up default).up default).ch (!s)) ( false)) _ _ at hss2
   refine LM.val (ov_idxSN au6 Try.underlying129 Try.sizeOf136 rfl rfl (by omega)) ?_
   refine LM.val (ov_field Try.underlying136 rfl Try.sizeOf4 rfl (k := 6) rfl rfl) ?_
   refine LM.stS ({ gN (nC (nC N1 (N1.getD i1 default).up false) ((N1.getD (N1.getD (N1.getD i1 default).up default).up default).ch (!s)) false) ( (N1.getD (N1.getD i1 default).up default).up) with red :=  true }) (j := 6) (by assumption) (by intro _; rfl) Try.sizeOf4 rfl rfl rfl (by exact getq default (by first | omega | (simp only [nL_len, nR_len, nU_len, nC_len, List.length_set, List.length_append, List.length_cons, List.length_nil]; omega))) rfl (by decide) (by rfl) rfl (fun p hp _ => .inr (Sl.at_bn (by assumption) p hp)) (fun ms3 hss3 hmm3 => ?_)
   change Sl _ _ _ _ (nC (nC (nC N1 (N1.getD i1 default).up false) ((N1.getD (N1.getD (N1.getD i1 default).up default).up default).ch (!s)) false) ( (N1.getD (N1.getD i1 default).up default).up) ( true)) _ _ at hss3
   refine LM.nil ?_
   refine QM.qn ?_
   refine QM.sub (e' := [(0, _), (5, _)]) au9 (QM.then (wpM.seq (wpM.region ?_)))
   refine LM.mv rfl (LM.as rfl ?_)
   refine LM.nil (QM.sub (e' := [(0, _), (1, _)]) au9 (QM.then ?_))
   refine wpM.exit ?_
   refine QM.then_exit ?_
   refine QM.block_hit ?_
   refine QM.againK (k, nC (nC (nC N1 (N1.getD i1 default).up false) ((N1.getD (N1.getD (N1.getD i1 default).up default).up default).ch (!s)) false) (N1.getD (N1.getD i1 default).up default).up true, root1, (N1.getD (N1.getD i1 default).up default).up, ms3) ⟨au2, rfl, trivial⟩ au1 (fun _ h => h) ?_ ?_
   · exact ⟨by assumption, nC_wf (nC_wf (nC_wf hw1 _ _) _ _) _ _, ht1, hgr⟩
   · first | omega | (dsimp only; omega)
  rw [if_neg (by rw [h2]; simp)] at hgr
  refine wpM.skip ?_
  refine QM.then ?_
  refine wpM.seq ?_
  refine wpM.seq (wpM.region ?_)
  refine LM.mv rfl (LM.mv rfl (LM.mv rfl ?_))
  first | refine LM.val (ov_notD rfl) ?_ | refine LM.val (ov_not rfl) ?_
  refine LM.callE (oc_call (enters_fn Try.func112 (by kernel_rfl) rfl) rfl) (fun w hm hc hg => below_spec (N := N1) (N1.getD i1 default).up (!s) w (hn.trans hl1.symm) hs1 (by rw [hl1]; exact hu1) (hm.pick (rtB b most bn n cap root1 first free cnt :: m1))) ?_
  refine LM.mv rfl ?_
  refine LM.val (ov_eql rfl rfl) ?_
  refine LM.nil (QM.sub (e' := [(0, _), (1, _), (4, _), (5, _), (6, _), (90, _)]) au9 (QM.then ?_))
  refine wpM.joinK (α := List Nd × Nat × Nat × Nat × Mem0) (fun ⟨N2, root2, i2, up2, m2⟩ => [(1, .int .i64 (i2 : Nat)), (4, .int .i64 (up2 : Nat))]) [(0, _), (5, _), (6, _)] (fun ⟨N2, root2, i2, up2, m2⟩ => rtB b most bn n cap root2 first free cnt :: (m2 ++ [])) (fun ⟨N2, root2, i2, up2, m2⟩ => NdS n0 bn n cap N2 m2 ∧ WfS (N2, root2) N.length ∧ i2 < N.length ∧ up2 < N.length ∧ grwF k (trnF (nC (nC N2 up2 false) (N1.getD (N1.getD i1 default).up default).up true, root2) (N1.getD (N1.getD i1 default).up default).up (!s)) i2 = some S') ⟨rfl, rfl, rfl, trivial⟩ ?_ ?_
  ·
   refine wpM.condD rfl (fun h3 => ?_) (fun h3 => ?_)
   ·
    refine wpM.seq (wpM.region ?_)
    refine LM.mv rfl (LM.mv rfl (LM.mv rfl ?_))
    refine LM.cU (oc_call (enters_fn Try.func113 (by kernel_rfl) rfl) rfl) (fun w hm hc hg => turn_spec (N := N1) (N1.getD i1 default).up s w (hn.trans hl1.symm) hs1 (by rw [hl1]; exact hw1) (by rw [hl1]; exact hu1) (hm.pick (rtB b most bn n cap root1 first free cnt :: m1))) (rt_wlk hs1) (rt_hS hs1) ?_
    rintro u94 m94 ⟨rfl, m3, rfl, hs3⟩ -
    refine LM.nil (QM.sub (e' := [(0, _), (1, _), (4, _), (5, _), (6, _)]) au9 (QM.then (wpM.region ?_)))
    refine LM.mv rfl (LM.mv rfl (LM.as rfl (LM.as rfl ?_)))
    refine LM.nil (QM.sub (e' := [(0, _), (1, _), (4, _), (5, _), (6, _)]) au9 ?_)
    refine QM.meetK ((trnF (N1, root1) (N1.getD i1 default).up s).1, (trnF (N1, root1) (N1.getD i1 default).up s).2, (N1.getD i1 default).up, i1, m3) ⟨au2, au2, rfl, rfl, rfl, trivial⟩ au1 ?_
    · exact ⟨hs3, trn_wf hw1 hu1 _, hu1, hi1, by rw [if_pos (Int.natCast_inj.1 h3)] at hgr; exact hgr⟩
   refine wpM.skip ?_
   refine QM.meetK (N1, root1, i1, (N1.getD i1 default).up, m1) ⟨au2, au2, rfl, rfl, rfl, trivial⟩ au1 ?_
   · exact ⟨hs1, hw1, hi1, hu1, by rw [if_neg (fun q => h3 (Int.natCast_inj.2 q))] at hgr; exact hgr⟩
  rintro ⟨N2, root2, i2, up2, m2⟩ ⟨hs2, hw2, hi2, hu2, hgr⟩
  change QM _ _ _ _ _ (rtB b most bn n cap root2 first free cnt :: (m2 ++ [])) _ _ _
  have hl2 : N2.length = N.length := hw2.len
  refine QM.then ?_
  refine wpM.seq ?_
  refine wpM.draw [(0, 0), (1, 0), (2, 0), (3, 1), (4, 0), (5, 0), (6, 0), (7, 0), (8, 1), (9, 0), (10, 0), (11, 0), (12, 3), (13, 3), (14, 3), (15, 3)] (by kernel_rfl) (by kernel_rfl) ?_
  refine LD.val rfl rfl (ov_move rfl) ?_
  refine LD.val rfl rfl (ov_nilCheck rfl) ?_
  refine LD.val rfl rfl (ov_field Try.underlying131 rfl Try.sizeOf129 rfl (k := 1) rfl rfl) ?_
  refine LD.rd rfl rfl (om_ld Try.isAgg129 rfl rfl) ?_
  refine LD.val rfl rfl (ov_move rfl) ?_
  refine LD.val rfl rfl (ov_move rfl) ?_
  refine LD.val rfl rfl (ov_nilCheck rfl) ?_
  refine LD.val rfl rfl (ov_field Try.underlying131 rfl Try.sizeOf129 rfl (k := 1) rfl rfl) ?_
  refine LD.rd rfl rfl (om_ld Try.isAgg129 rfl rfl) ?_
  refine LD.val rfl rfl (ov_move rfl) ?_
  refine LD.val rfl rfl (ov_idxSN au6 Try.underlying129 Try.sizeOf136 rfl rfl (by omega)) ?_
  refine LD.val rfl rfl (ov_field Try.underlying136 rfl Try.sizeOf4 rfl (k := 6) rfl rfl) ?_
  refine LD.tail rfl rfl ?_
  refine LM.stS ({ gN (N2) ( up2) with red :=  false }) (j := 6) (by assumption) (by intro _; rfl) Try.sizeOf4 rfl rfl rfl (by exact getq default (by first | omega | (simp only [nL_len, nR_len, nU_len, nC_len, List.length_set, List.length_append, List.length_cons, List.length_nil]; omega))) rfl (by decide) (by rfl) rfl (fun p hp _ => .inr (Sl.at_bn (by assumption) p hp)) (fun ms1 hss1 hmm1 => ?_)
  change Sl _ _ _ _ (nC (N2) ( up2) ( false)) _ _ at hss1
  refine LM.val (ov_idxSN au6 Try.underlying129 Try.sizeOf136 rfl rfl (by omega)) ?_
  refine LM.val (ov_field Try.underlying136 rfl Try.sizeOf4 rfl (k := 6) rfl rfl) ?_
  refine LM.stS ({ gN (nC N2 up2 false) ( (N1.getD (N1.getD i1 default).up default).up) with red :=  true }) (j := 6) (by assumption) (by intro _; rfl) Try.sizeOf4 rfl rfl rfl (by exact getq default (by first | omega | (simp only [nL_len, nR_len, nU_len, nC_len, List.length_set, List.length_append, List.length_cons, List.length_nil]; omega))) rfl (by decide) (by rfl) rfl (fun p hp _ => .inr (Sl.at_bn (by assumption) p hp)) (fun ms2 hss2 hmm2 => ?_)
  change Sl _ _ _ _ (nC (nC N2 up2 false) ( (N1.getD (N1.getD i1 default).up default).up) ( true)) _ _ at hss2
  refine LM.nil ?_
  refine QM.qn ?_
  refine QM.sub (e' := [(0, _), (1, _), (5, _), (6, _)]) au9 (QM.then (wpM.region ?_))
  refine LM.mv rfl (LM.mv rfl (LM.mv rfl ?_))
  first | refine LM.val (ov_notD rfl) ?_ | refine LM.val (ov_not rfl) ?_
  refine LM.cU (oc_call (enters_fn Try.func113 (by kernel_rfl) rfl) rfl) (fun w hm hc hg => turn_spec (N := nC (nC N2 up2 false) (N1.getD (N1.getD i1 default).up default).up true) (N1.getD (N1.getD i1 default).up default).up (!s) w (by rw [nC_len, nC_len, hl2]; exact hn) hss2 (by rw [nC_len, nC_len, hl2]; exact nC_wf (nC_wf hw2 _ _) _ _) (by rw [nC_len, nC_len, hl2]; exact ht1) (hm.pick (rtB b most bn n cap root2 first free cnt :: ms2))) (rt_wlk hss2) (rt_hS hss2) ?_
  rintro u115 m115 ⟨rfl, m9, rfl, hs9⟩ -
  refine LM.nil (QM.sub (e' := [(0, _), (1, _)]) au9 ?_)
  refine QM.block_normal ?_
  refine QM.againK (k, (trnF (nC (nC N2 up2 false) (N1.getD (N1.getD i1 default).up default).up true, root2) (N1.getD (N1.getD i1 default).up default).up (!s)).1, (trnF (nC (nC N2 up2 false) (N1.getD (N1.getD i1 default).up default).up true, root2) (N1.getD (N1.getD i1 default).up default).up (!s)).2, i2, m9) ⟨au2, rfl, trivial⟩ au1 (fun _ h => h) ?_ ?_
  · exact ⟨hs9, trn_wf (nC_wf (nC_wf hw2 _ _) _ _) ht1 _, hi2, hgr⟩
  · first | omega | (dsimp only; omega)
 rw [if_neg (by rw [h1]; simp)] at hgr; cases hgr
 refine wpM.exit ?_
 refine QM.then_exit ?_
 refine QM.then_exit ?_
 refine QM.block_hit ?_
 refine QM.then ?_
 refine wpM.draw [(0, 0), (1, 0), (2, 0), (3, 1), (4, 0), (5, 0), (6, 0), (7, 1), (8, 0), (9, 0), (10, 3)] (by kernel_rfl) (by kernel_rfl) ?_
 refine LD.val rfl rfl (ov_move rfl) ?_
 refine LD.val rfl rfl (ov_nilCheck rfl) ?_
 refine LD.val rfl rfl (ov_field Try.underlying131 rfl Try.sizeOf129 rfl (k := 1) rfl rfl) ?_
 refine LD.rd rfl rfl (om_ld Try.isAgg129 rfl rfl) ?_
 refine LD.val rfl rfl (ov_move rfl) ?_
 refine LD.val rfl rfl (ov_nilCheck rfl) ?_
 refine LD.val rfl rfl (ov_field Try.underlying131 rfl Try.sizeOf3 rfl (k := 2) rfl rfl) ?_
 refine LD.rd rfl rfl (om_ld Try.isAgg3 rfl rfl) ?_
 refine LD.val rfl rfl (ov_idxSN au6 Try.underlying129 Try.sizeOf136 rfl rfl (by omega)) ?_
 refine LD.val rfl rfl (ov_field Try.underlying136 rfl Try.sizeOf4 rfl (k := 6) rfl rfl) ?_
 refine LD.tail rfl rfl ?_
 refine LM.stS ({ gN (N1) ( root1) with red :=  false }) (j := 6) (by assumption) (by intro _; rfl) Try.sizeOf4 rfl rfl rfl (by exact getq default (by first | omega | (simp only [nL_len, nR_len, nU_len, nC_len, List.length_set, List.length_append, List.length_cons, List.length_nil]; omega))) rfl (by decide) (by rfl) rfl (fun p hp _ => .inr (Sl.at_bn (by assumption) p hp)) (fun ms1 hss1 hmm1 => ?_)
 change Sl _ _ _ _ (nC (N1) ( root1) ( false)) _ _ at hss1
 refine LM.nil ?_
 refine QM.qn ?_
 refine QM.sub (e' := []) trivial ?_
 refine QM.leave (.inr rfl) [] Try.results92 rfl ?_
 intro w' hm' hc' hg'
 exact rt_leaf hs (by assumption) hm' au1 hc'
end Go.Eng
namespace Go.Eng
open Go Go.Proofs Go.RowKit
theorem bnot {b : Bool} (h : (!b) = true) : b = false := by cases b; rfl; cases h
theorem bnotF {b : Bool} (h : (!b) = false) : b = true := by cases b; cases h; rfl
theorem shS_eq {N : List Nd} {root i : Nat} {s : Bool} (h : s = decide ((gN N (gN N i).up).l = i)) : shS (N, root) i = shD (shA (N, root) (gN N i).up s ((gN N (gN N i).up).ch (!s))).1 (gN N i).up s (shA (N, root) (gN N i).up s ((gN N (gN N i).up).ch (!s))).2 := by subst h; rfl
theorem shA_pos {N : List Nd} {root up o : Nat} {s : Bool} (h : (gN N o).red = true) : shA (N, root) up s o = (trnF (nC (nC N o false) up true, root) up s, (gN (trnF (nC (nC N o false) up true, root) up s).1 up).ch (!s)) := if_pos h
theorem shA_neg {N : List Nd} {root up o : Nat} {s : Bool} (h : (gN N o).red = false) : shA (N, root) up s o = ((N, root), o) := if_neg (by show ¬ (gN N o).red = true; rw [h]; simp)
theorem shD_pos {N : List Nd} {root up o : Nat} {s : Bool} (h1 : (gN N ((gN N o).ch s)).red = false) (h2 : (gN N ((gN N o).ch (!s))).red = false) : shD (N, root) up s o = ((nC N o true, root), up) := if_pos ⟨h1, h2⟩
theorem shD_neg {N : List Nd} {root up o : Nat} {s : Bool} (h : ¬ ((gN N ((gN N o).ch s)).red = false ∧ (gN N ((gN N o).ch (!s))).red = false)) : shD (N, root) up s o = (shC (shB (N, root) s o ((gN N o).ch s) ((gN N o).ch (!s))).1 up s (shB (N, root) s o ((gN N o).ch s) ((gN N o).ch (!s))).2.1 (shB (N, root) s o ((gN N o).ch s) ((gN N o).ch (!s))).2.2, (shC (shB (N, root) s o ((gN N o).ch s) ((gN N o).ch (!s))).1 up s (shB (N, root) s o ((gN N o).ch s) ((gN N o).ch (!s))).2.1 (shB (N, root) s o ((gN N o).ch s) ((gN N o).ch (!s))).2.2).2) := if_neg h
theorem shB_pos {N : List Nd} {root o near far : Nat} {s : Bool} (h : (gN N far).red = false) : shB (N, root) s o near far = (trnF (nC (nC N near false) o true, root) o (!s), near, (gN (trnF (nC (nC N near false) o true, root) o (!s)).1 near).ch (!s)) := if_pos h
theorem shB_neg {N : List Nd} {root o near far : Nat} {s : Bool} (h : (gN N far).red = true) : shB (N, root) s o near far = ((N, root), o, far) := if_neg (by show ¬ (gN N far).red = false; rw [h]; simp)
set_option maxRecDepth 100000 in
set_option maxHeartbeats 2000000 in
theorem shrunk_spec {n0 b most bn n cap root first free cnt : Nat} {N : List Nd} {ms : Mem0} {S' : Ns} (f i : Nat) (w : World) (hg : shrF f (N, root) i = some S') (hn : n = N.length) (hs : NdS n0 bn n cap N ms) (hw : WfS (N, root) N.length) (hi : i < N.length) (hM : Mem w (rtB b most bn n cap root first free cnt :: ms)) : Ret Try.prog 116 #[.pointer (some ⟨b, 0, none⟩), .int .i64 (i : Nat)] w (Upd (rtB b most bn n cap root first free cnt :: ms) (RtT n0 b most bn n cap S'.2 first free cnt S'.1) w) := by
 refine Ret.enterM (l := [.pointer (some ⟨b, 0, none⟩), .int .i64 (i : Nat)]) Try.func116 rfl Try.ntmps116 rfl (rtB b most bn n cap root first free cnt :: ms) ((fun x => x = b ∨ x = bn)) hM ?_
 refine wpM.seq ?_
 refine wpM.block ?_
 refine wpM.loopK0 (α := Nat × List Nd × Nat × Nat × Mem0) (fun ⟨k, N1, root1, i1, m1⟩ => [(1, .int .i64 (i1 : Nat))]) [(0, _)] (fun ⟨k, N1, root1, i1, m1⟩ => rtB b most bn n cap root1 first free cnt :: (m1 ++ [])) (fun ⟨k, N1, root1, i1, m1⟩ => NdS n0 bn n cap N1 m1 ∧ WfS (N1, root1) N.length ∧ i1 < N.length ∧ shrF k (N1, root1) i1 = some S') (fun ⟨k, N1, root1, i1, m1⟩ => k) ((f, N, root, i, ms)) ⟨au2, rfl, trivial⟩ au1 ⟨hs, hw, hi, hg⟩ ?_
 rintro ⟨k, N1, root1, i1, m1⟩ ⟨hs1, hw1, hi1, hgr⟩
 change wpM _ _ _ _ _ _ _ (rtB b most bn n cap root1 first free cnt :: (m1 ++ [])) _ _ _
 obtain ⟨k, rfl⟩ : ∃ k', k = k' + 1 := (by cases k with | zero => cases hgr | succ k => exact ⟨k, rfl⟩); rw [shrF] at hgr; have hl1 : N1.length = N.length := hw1.len; have hu1 : (N1.getD i1 default).up < N.length := up_wf hw1 i1; have hr1 : root1 < N.length := hw1.rt
 refine wpM.seq ?_
 refine wpM.seq (wpM.region ?_)
 refine LM.mv rfl (LM.mv rfl ?_)
 refine LM.val (ov_nilCheck rfl) ?_
 refine LM.val (ov_field Try.underlying131 rfl Try.sizeOf3 rfl (k := 2) rfl rfl) ?_
 refine LM.rd (om_ld Try.isAgg3 rfl rfl) ?_
 refine LM.val (ov_neq rfl rfl) ?_
 refine LM.mv rfl ?_
 refine LM.splitD (t := 15) rfl (fun h1 => ?_) (fun h1 => ?_)
 ·
  refine LM.sp 15 rfl rfl rfl (LM.mv rfl (LM.sp 15 rfl rfl rfl ?_))
  refine LM.val (ov_nilCheck rfl) ?_
  refine LM.sp 15 rfl rfl rfl (LM.val (ov_field Try.underlying131 rfl Try.sizeOf129 rfl (k := 1) rfl rfl) (LM.sp 15 rfl rfl rfl ?_))
  refine LM.rd (om_ld Try.isAgg129 rfl rfl) ?_
  refine LM.sp 15 rfl rfl rfl (LM.mv rfl (LM.sp 15 rfl rfl rfl ?_))
  refine LM.val (ov_idxSN au6 Try.underlying129 Try.sizeOf136 rfl rfl (by omega)) ?_
  refine LM.sp 15 rfl rfl rfl (LM.val (ov_field Try.underlying136 rfl Try.sizeOf4 rfl (k := 6) rfl rfl) (LM.sp 15 rfl rfl rfl ?_))
  refine LM.rd (om_slE (j := 6) (by assumption) (by intro _; rfl) Try.isAgg4 rfl rfl (by exact getq default (by first | omega | (simp only [nL_len, nR_len, nU_len, nC_len, List.length_set, List.length_append, List.length_cons, List.length_nil]; omega))) rfl (by rfl)) ?_
  refine LM.sp 15 rfl rfl rfl ?_
  first | refine LM.val (ov_notD rfl) ?_ | refine LM.val (ov_not rfl) ?_
  refine LM.val (ov_pickT rfl rfl) ?_
  refine LM.nil (QM.sub (e' := [(0, _), (1, _), (25, _)]) au9 (QM.then ?_))
  first | refine wpM.condD rfl (fun h2 => ?_) (fun h2 => ?_) | refine wpM.condB rfl (fun h2 => ?_) (fun h2 => ?_)
  ·
   rw [if_pos ⟨fun q => h1 (Int.natCast_inj.2 q), bnot h2⟩] at hgr; obtain ⟨s, hse⟩ : ∃ s, s = decide ((gN N1 (gN N1 i1).up).l = i1) := ⟨_, rfl⟩; rw [shS_eq hse] at hgr; have hc1 : (N1.getD (N1.getD i1 default).up default).ch (!s) < N.length := ch_wf hw1 _ _
   refine wpM.skip ?_
   refine QM.then ?_
   refine wpM.block ?_
   refine wpM.seq (wpM.region ?_)
   refine LM.mv rfl ?_
   refine LM.val (ov_nilCheck rfl) ?_
   refine LM.val (ov_field Try.underlying131 rfl Try.sizeOf129 rfl (k := 1) rfl rfl) ?_
   refine LM.rd (om_ld Try.isAgg129 rfl rfl) ?_
   refine LM.mv rfl ?_
   refine LM.val (ov_idxSN au6 Try.underlying129 Try.sizeOf136 rfl rfl (by omega)) ?_
   refine LM.val (ov_field Try.underlying136 rfl Try.sizeOf3 rfl (k := 5) rfl rfl) ?_
   refine LM.rd (om_slE (j := 5) (by assumption) (by intro _; rfl) Try.isAgg3 rfl rfl (by exact getq default (by first | omega | (simp only [nL_len, nR_len, nU_len, nC_len, List.length_set, List.length_append, List.length_cons, List.length_nil]; omega))) rfl (by rfl)) ?_
   refine LM.as rfl ?_
   refine LM.nil (QM.sub (e' := [(0, _), (1, _), (4, _)]) au9 (QM.then (wpM.seq (wpM.region ?_))))
   refine LM.mv rfl ?_
   refine LM.val (ov_nilCheck rfl) ?_
   refine LM.val (ov_field Try.underlying131 rfl Try.sizeOf129 rfl (k := 1) rfl rfl) ?_
   refine LM.rd (om_ld Try.isAgg129 rfl rfl) ?_
   refine LM.mv rfl ?_
   refine LM.val (ov_idxSN au6 Try.underlying129 Try.sizeOf136 rfl rfl (by omega)) ?_
   refine LM.val (ov_field Try.underlying136 rfl Try.sizeOf3 rfl (k := 3) rfl rfl) ?_
   refine LM.rd (om_slE (j := 3) (by assumption) (by intro _; rfl) Try.isAgg3 rfl rfl (by exact getq default (by first | omega | (simp only [nL_len, nR_len, nU_len, nC_len, List.length_set, List.length_append, List.length_cons, List.length_nil]; omega))) rfl (by rfl)) ?_
   refine LM.mv rfl ?_
   refine LM.val (ov_eql rfl rfl) ?_
   refine LM.as rfl ?_
   refine LM.nil (QM.sub (e' := [(0, _), (4, _), (5, _)]) au9 (QM.then (wpM.seq (wpM.region ?_))))
   rw [dec_nat, show decide ((N1.getD (N1.getD i1 default).up default).l = i1) = s from hse.symm]
   refine LM.mv rfl (LM.mv rfl (LM.mv rfl ?_))
   first | refine LM.val (ov_notD rfl) ?_ | refine LM.val (ov_not rfl) ?_
   refine LM.callE (oc_call (enters_fn Try.func112 (by kernel_rfl) rfl) rfl) (fun w hm hc hg => below_spec (N := N1) (N1.getD i1 default).up (!s) w (hn.trans hl1.symm) hs1 (by rw [hl1]; exact hu1) (hm.pick (rtB b most bn n cap root1 first free cnt :: m1))) ?_
   refine LM.as rfl ?_
   refine LM.nil (QM.sub (e' := [(0, _), (4, _), (5, _), (6, _)]) au9 (QM.then ?_))
   refine wpM.seq ?_
   refine wpM.seq (wpM.region ?_)
   refine LM.mv rfl ?_
   refine LM.val (ov_nilCheck rfl) ?_
   refine LM.val (ov_field Try.underlying131 rfl Try.sizeOf129 rfl (k := 1) rfl rfl) ?_
   refine LM.rd (om_ld Try.isAgg129 rfl rfl) ?_
   refine LM.mv rfl ?_
   refine LM.val (ov_idxSN au6 Try.underlying129 Try.sizeOf136 rfl rfl (by omega)) ?_
   refine LM.val (ov_field Try.underlying136 rfl Try.sizeOf4 rfl (k := 6) rfl rfl) ?_
   refine LM.rd (om_slE (j := 6) (by assumption) (by intro _; rfl) Try.isAgg4 rfl rfl (by exact getq default (by first | omega | (simp only [nL_len, nR_len, nU_len, nC_len, List.length_set, List.length_append, List.length_cons, List.length_nil]; omega))) rfl (by rfl)) ?_
   refine LM.nil (QM.sub (e' := [(0, _), (4, _), (5, _), (6, _), (56, _)]) au9 (QM.then ?_))
   refine wpM.joinK (α := List Nd × Nat × Nat × Mem0) (fun ⟨N2, root2, o2, m2⟩ => [(6, .int .i64 (o2 : Nat))]) [(0, _), (4, _), (5, _)] (fun ⟨N2, root2, o2, m2⟩ => rtB b most bn n cap root2 first free cnt :: (m2 ++ [])) (fun ⟨N2, root2, o2, m2⟩ => NdS n0 bn n cap N2 m2 ∧ WfS (N2, root2) N.length ∧ o2 < N.length ∧ shrF k (shD (N2, root2) (N1.getD i1 default).up s o2).1 (shD (N2, root2) (N1.getD i1 default).up s o2).2 = some S') ⟨rfl, rfl, rfl, trivial⟩ ?_ ?_
   ·
    first | refine wpM.condD rfl (fun h3 => ?_) (fun h3 => ?_) | refine wpM.condB rfl (fun h3 => ?_) (fun h3 => ?_)
    ·
     refine wpM.seq ?_
     refine wpM.draw [(0, 0), (1, 0), (2, 0), (3, 1), (4, 0), (5, 0), (6, 0), (7, 0), (8, 1), (9, 0), (10, 0), (11, 0), (12, 3), (13, 3), (14, 3), (15, 3)] (by kernel_rfl) (by kernel_rfl) ?_
     refine LD.val rfl rfl (ov_move rfl) ?_
     refine LD.val rfl rfl (ov_nilCheck rfl) ?_
     refine LD.val rfl rfl (ov_field Try.underlying131 rfl Try.sizeOf129 rfl (k := 1) rfl rfl) ?_
     refine LD.rd rfl rfl (om_ld Try.isAgg129 rfl rfl) ?_
     refine LD.val rfl rfl (ov_move rfl) ?_
     refine LD.val rfl rfl (ov_move rfl) ?_
     refine LD.val rfl rfl (ov_nilCheck rfl) ?_
     refine LD.val rfl rfl (ov_field Try.underlying131 rfl Try.sizeOf129 rfl (k := 1) rfl rfl) ?_
     refine LD.rd rfl rfl (om_ld Try.isAgg129 rfl rfl) ?_
     refine LD.val rfl rfl (ov_move rfl) ?_
     refine LD.val rfl rfl (ov_idxSN au6 Try.underlying129 Try.sizeOf136 rfl rfl (by omega)) ?_
     refine LD.val rfl rfl (ov_field Try.underlying136 rfl Try.sizeOf4 rfl (k := 6) rfl rfl) ?_
     refine LD.tail rfl rfl ?_
     refine LM.stS ({ gN (N1) ( (N1.getD (N1.getD i1 default).up default).ch (!s)) with red :=  false }) (j := 6) (by assumption) (by intro _; rfl) Try.sizeOf4 rfl rfl rfl (by exact getq default (by first | omega | (simp only [nL_len, nR_len, nU_len, nC_len, List.length_set, List.length_append, List.length_cons, List.length_nil]; omega))) rfl (by decide) (by rfl) rfl (fun p hp _ => .inr (Sl.at_bn (by assumption) p hp)) (fun ms1 hss1 hmm1 => ?_)
     change Sl _ _ _ _ (nC (N1) ( (N1.getD (N1.getD i1 default).up default).ch (!s)) ( false)) _ _ at hss1
     refine LM.val (ov_idxSN au6 Try.underlying129 Try.sizeOf136 rfl rfl (by omega)) ?_
     refine LM.val (ov_field Try.underlying136 rfl Try.sizeOf4 rfl (k := 6) rfl rfl) ?_
     refine LM.stS ({ gN (nC N1 ((N1.getD (N1.getD i1 default).up default).ch (!s)) false) ( (N1.getD i1 default).up) with red :=  true }) (j := 6) (by assumption) (by intro _; rfl) Try.sizeOf4 rfl rfl rfl (by exact getq default (by first | omega | (simp only [nL_len, nR_len, nU_len, nC_len, List.length_set, List.length_append, List.length_cons, List.length_nil]; omega))) rfl (by decide) (by rfl) rfl (fun p hp _ => .inr (Sl.at_bn (by assumption) p hp)) (fun ms2 hss2 hmm2 => ?_)
     change Sl _ _ _ _ (nC (nC N1 ((N1.getD (N1.getD i1 default).up default).ch (!s)) false) ( (N1.getD i1 default).up) ( true)) _ _ at hss2
     refine LM.nil ?_
     refine QM.qn ?_
     refine QM.sub (e' := [(0, _), (4, _), (5, _)]) au9 (QM.then (wpM.seq (wpM.region ?_)))
     refine LM.mv rfl (LM.mv rfl (LM.mv rfl ?_))
     refine LM.cU (oc_call (enters_fn Try.func113 (by kernel_rfl) rfl) rfl) (fun w hm hc hg => turn_spec (N := nC (nC N1 ((N1.getD (N1.getD i1 default).up default).ch (!s)) false) (N1.getD i1 default).up true) (N1.getD i1 default).up s w (by rw [nC_len, nC_len, hl1]; exact hn) hss2 (by rw [nC_len, nC_len, hl1]; exact nC_wf (nC_wf hw1 _ _) _ _) (by rw [nC_len, nC_len, hl1]; exact hu1) (hm.pick (rtB b most bn n cap root1 first free cnt :: ms2))) (rt_wlk hss2) (rt_hS hss2) ?_
     rintro u74 m74 ⟨rfl, m5, rfl, hs5⟩ -; have hw5 := trn_wf (nC_wf (nC_wf hw1 ((N1.getD (N1.getD i1 default).up default).ch (!s)) false) (N1.getD i1 default).up true) hu1 s; have hl5 := hw5.len
     refine LM.nil (QM.sub (e' := [(0, _), (4, _), (5, _)]) au9 (QM.then (wpM.region ?_)))
     refine LM.mv rfl (LM.mv rfl (LM.mv rfl ?_))
     first | refine LM.val (ov_notD rfl) ?_ | refine LM.val (ov_not rfl) ?_
     refine LM.callE (oc_call (enters_fn Try.func112 (by kernel_rfl) rfl) rfl) (fun w hm hc hg => below_spec (N := (trnF (nC (nC N1 ((N1.getD (N1.getD i1 default).up default).ch (!s)) false) (N1.getD i1 default).up true, root1) (N1.getD i1 default).up s).1) (N1.getD i1 default).up (!s) w (hn.trans hl5.symm) hs5 (by rw [hl5]; exact hu1) (hm.pick (rtB b most bn n cap (trnF (nC (nC N1 ((N1.getD (N1.getD i1 default).up default).ch (!s)) false) (N1.getD i1 default).up true, root1) (N1.getD i1 default).up s).2 first free cnt :: m5))) ?_
     refine LM.as rfl ?_
     refine LM.nil (QM.sub (e' := [(0, _), (4, _), (5, _), (6, _)]) au9 ?_)
     refine QM.meetK ((trnF (nC (nC N1 ((N1.getD (N1.getD i1 default).up default).ch (!s)) false) (N1.getD i1 default).up true, root1) (N1.getD i1 default).up s).1, (trnF (nC (nC N1 ((N1.getD (N1.getD i1 default).up default).ch (!s)) false) (N1.getD i1 default).up true, root1) (N1.getD i1 default).up s).2, _, m5) ⟨au2, rfl, rfl, rfl, trivial⟩ au1 ?_
     · exact ⟨hs5, hw5, ch_wf hw5 _ _, by rw [shA_pos h3] at hgr; exact hgr⟩
    refine wpM.skip ?_
    refine QM.meetK (N1, root1, _, m1) ⟨au2, rfl, rfl, rfl, trivial⟩ au1 ?_
    · exact ⟨hs1, hw1, hc1, by rw [shA_neg h3] at hgr; exact hgr⟩
   rintro ⟨N2, root2, o2, m2⟩ ⟨hs2, hw2, ho2, hgr⟩
   change QM _ _ _ _ _ (rtB b most bn n cap root2 first free cnt :: (m2 ++ [])) _ _ _
   have hl2 : N2.length = N.length := hw2.len; have hna : (N2.getD o2 default).ch s < N.length := ch_wf hw2 _ _; have hfa : (N2.getD o2 default).ch (!s) < N.length := ch_wf hw2 _ _
   refine QM.then (wpM.seq (wpM.region ?_))
   refine LM.mv rfl (LM.mv rfl (LM.mv rfl ?_))
   refine LM.callE (oc_call (enters_fn Try.func112 (by kernel_rfl) rfl) rfl) (fun w hm hc hg => below_spec (N := N2) o2 s w (hn.trans hl2.symm) hs2 (by rw [hl2]; exact ho2) (hm.pick (rtB b most bn n cap root2 first free cnt :: m2))) ?_
   refine LM.mv rfl (LM.mv rfl (LM.mv rfl ?_))
   first | refine LM.val (ov_notD rfl) ?_ | refine LM.val (ov_not rfl) ?_
   refine LM.callE (oc_call (enters_fn Try.func112 (by kernel_rfl) rfl) rfl) (fun w hm hc hg => below_spec (N := N2) o2 (!s) w (hn.trans hl2.symm) hs2 (by rw [hl2]; exact ho2) (hm.pick (rtB b most bn n cap root2 first free cnt :: m2))) ?_
   refine LM.as rfl (LM.as rfl ?_)
   refine LM.nil (QM.sub (e' := [(0, _), (4, _), (5, _), (6, _), (7, _), (8, _)]) au9 (QM.then ?_))
   refine wpM.seq ?_
   refine wpM.seq (wpM.region ?_)
   refine LM.mv rfl ?_
   refine LM.val (ov_nilCheck rfl) ?_
   refine LM.val (ov_field Try.underlying131 rfl Try.sizeOf129 rfl (k := 1) rfl rfl) ?_
   refine LM.rd (om_ld Try.isAgg129 rfl rfl) ?_
   refine LM.mv rfl ?_
   refine LM.val (ov_idxSN au6 Try.underlying129 Try.sizeOf136 rfl rfl (by omega)) ?_
   refine LM.val (ov_field Try.underlying136 rfl Try.sizeOf4 rfl (k := 6) rfl rfl) ?_
   refine LM.rd (om_slE (j := 6) (by assumption) (by intro _; rfl) Try.isAgg4 rfl rfl (by exact getq default (by first | omega | (simp only [nL_len, nR_len, nU_len, nC_len, List.length_set, List.length_append, List.length_cons, List.length_nil]; omega))) rfl (by rfl)) ?_
   first | refine LM.val (ov_notD rfl) ?_ | refine LM.val (ov_not rfl) ?_
   refine LM.mv rfl ?_
   first | refine LM.splitD (t := 98) rfl (fun h4 => ?_) (fun h4 => ?_) | refine LM.splitB (t := 98) rfl (fun h4 => ?_) (fun h4 => ?_)
   ·
    refine LM.sp 98 rfl rfl rfl (LM.mv rfl (LM.sp 98 rfl rfl rfl ?_))
    refine LM.val (ov_nilCheck rfl) ?_
    refine LM.sp 98 rfl rfl rfl (LM.val (ov_field Try.underlying131 rfl Try.sizeOf129 rfl (k := 1) rfl rfl) (LM.sp 98 rfl rfl rfl ?_))
    refine LM.rd (om_ld Try.isAgg129 rfl rfl) ?_
    refine LM.sp 98 rfl rfl rfl (LM.mv rfl (LM.sp 98 rfl rfl rfl ?_))
    refine LM.val (ov_idxSN au6 Try.underlying129 Try.sizeOf136 rfl rfl (by omega)) ?_
    refine LM.sp 98 rfl rfl rfl (LM.val (ov_field Try.underlying136 rfl Try.sizeOf4 rfl (k := 6) rfl rfl) (LM.sp 98 rfl rfl rfl ?_))
    refine LM.rd (om_slE (j := 6) (by assumption) (by intro _; rfl) Try.isAgg4 rfl rfl (by exact getq default (by first | omega | (simp only [nL_len, nR_len, nU_len, nC_len, List.length_set, List.length_append, List.length_cons, List.length_nil]; omega))) rfl (by rfl)) ?_
    refine LM.sp 98 rfl rfl rfl ?_
    first | refine LM.val (ov_notD rfl) ?_ | refine LM.val (ov_not rfl) ?_
    refine LM.val (ov_pickT rfl rfl) ?_
    refine LM.nil (QM.sub (e' := [(0, _), (4, _), (5, _), (6, _), (7, _), (8, _), (108, _)]) au9 (QM.then ?_))
    first | refine wpM.condD rfl (fun h5 => ?_) (fun h5 => ?_) | refine wpM.condB rfl (fun h5 => ?_) (fun h5 => ?_)
    ·
     refine wpM.seq (wpM.region ?_)
     refine LM.mv rfl ?_
     refine LM.val (ov_nilCheck rfl) ?_
     refine LM.val (ov_field Try.underlying131 rfl Try.sizeOf129 rfl (k := 1) rfl rfl) ?_
     refine LM.rd (om_ld Try.isAgg129 rfl rfl) ?_
     refine LM.mv rfl ?_
     refine LM.val (ov_idxSN au6 Try.underlying129 Try.sizeOf136 rfl rfl (by omega)) ?_
     refine LM.val (ov_field Try.underlying136 rfl Try.sizeOf4 rfl (k := 6) rfl rfl) ?_
     refine LM.stS ({ gN (N2) ( o2) with red :=  true }) (j := 6) (by assumption) (by intro _; rfl) Try.sizeOf4 rfl rfl rfl (by exact getq default (by first | omega | (simp only [nL_len, nR_len, nU_len, nC_len, List.length_set, List.length_append, List.length_cons, List.length_nil]; omega))) rfl (by decide) (by rfl) rfl (fun p hp _ => .inr (Sl.at_bn (by assumption) p hp)) (fun ms1 hss1 hmm1 => ?_)
     change Sl _ _ _ _ (nC (N2) ( o2) ( true)) _ _ at hss1
     refine LM.nil (QM.sub (e' := [(0, _), (4, _)]) au9 (QM.then (wpM.seq (wpM.region ?_))))
     refine LM.mv rfl (LM.as rfl ?_)
     refine LM.nil (QM.sub (e' := [(0, _), (1, _)]) au9 (QM.then ?_))
     refine wpM.exit ?_
     refine QM.then_exit ?_
     refine QM.block_hit ?_
     refine QM.againK (k, nC N2 o2 true, root2, (N1.getD i1 default).up, ms1) ⟨au2, rfl, trivial⟩ au1 (fun _ h => h) ?_ ?_
     · exact ⟨by assumption, nC_wf hw2 _ _, hu1, by rw [shD_pos (bnot h4) (bnot h5)] at hgr; exact hgr⟩
     · first | omega | (dsimp only; omega)
    rw [shD_neg (fun q => by have := bnotF h5; have q2 : (N2.getD ((N2.getD o2 default).ch (!s)) default).red = false := q.2; rw [this] at q2; cases q2)] at hgr
    refine wpM.skip ?_
    refine QM.then ?_
    refine wpM.seq ?_
    refine wpM.seq (wpM.region ?_)
    refine LM.mv rfl ?_
    refine LM.val (ov_nilCheck rfl) ?_
    refine LM.val (ov_field Try.underlying131 rfl Try.sizeOf129 rfl (k := 1) rfl rfl) ?_
    refine LM.rd (om_ld Try.isAgg129 rfl rfl) ?_
    refine LM.mv rfl ?_
    refine LM.val (ov_idxSN au6 Try.underlying129 Try.sizeOf136 rfl rfl (by omega)) ?_
    refine LM.val (ov_field Try.underlying136 rfl Try.sizeOf4 rfl (k := 6) rfl rfl) ?_
    refine LM.rd (om_slE (j := 6) (by assumption) (by intro _; rfl) Try.isAgg4 rfl rfl (by exact getq default (by first | omega | (simp only [nL_len, nR_len, nU_len, nC_len, List.length_set, List.length_append, List.length_cons, List.length_nil]; omega))) rfl (by rfl)) ?_
    first | refine LM.val (ov_notD rfl) ?_ | refine LM.val (ov_not rfl) ?_
    refine LM.nil (QM.sub (e' := [(0, _), (4, _), (5, _), (6, _), (7, _), (8, _), (125, _)]) au9 (QM.then ?_))
    refine wpM.joinK (α := List Nd × Nat × Nat × Nat × Mem0) (fun ⟨N3, root3, o3, far3, m3⟩ => [(6, .int .i64 (o3 : Nat)), (8, .int .i64 (far3 : Nat))]) [(0, _), (4, _), (5, _)] (fun ⟨N3, root3, o3, far3, m3⟩ => rtB b most bn n cap root3 first free cnt :: (m3 ++ [])) (fun ⟨N3, root3, o3, far3, m3⟩ => NdS n0 bn n cap N3 m3 ∧ WfS (N3, root3) N.length ∧ o3 < N.length ∧ far3 < N.length ∧ shrF k (shC (N3, root3) (N1.getD i1 default).up s o3 far3) (shC (N3, root3) (N1.getD i1 default).up s o3 far3).2 = some S') ⟨rfl, rfl, rfl, trivial⟩ ?_ ?_
    ·
     first | refine wpM.condD rfl (fun h6 => ?_) (fun h6 => ?_) | refine wpM.condB rfl (fun h6 => ?_) (fun h6 => ?_)
     ·
      refine wpM.seq ?_
      refine wpM.draw [(0, 0), (1, 0), (2, 0), (3, 1), (4, 0), (5, 0), (6, 0), (7, 0), (8, 1), (9, 0), (10, 0), (11, 0), (12, 3), (13, 3), (14, 3), (15, 3)] (by kernel_rfl) (by kernel_rfl) ?_
      refine LD.val rfl rfl (ov_move rfl) ?_
      refine LD.val rfl rfl (ov_nilCheck rfl) ?_
      refine LD.val rfl rfl (ov_field Try.underlying131 rfl Try.sizeOf129 rfl (k := 1) rfl rfl) ?_
      refine LD.rd rfl rfl (om_ld Try.isAgg129 rfl rfl) ?_
      refine LD.val rfl rfl (ov_move rfl) ?_
      refine LD.val rfl rfl (ov_move rfl) ?_
      refine LD.val rfl rfl (ov_nilCheck rfl) ?_
      refine LD.val rfl rfl (ov_field Try.underlying131 rfl Try.sizeOf129 rfl (k := 1) rfl rfl) ?_
      refine LD.rd rfl rfl (om_ld Try.isAgg129 rfl rfl) ?_
      refine LD.val rfl rfl (ov_move rfl) ?_
      refine LD.val rfl rfl (ov_idxSN au6 Try.underlying129 Try.sizeOf136 rfl rfl (by omega)) ?_
      refine LD.val rfl rfl (ov_field Try.underlying136 rfl Try.sizeOf4 rfl (k := 6) rfl rfl) ?_
      refine LD.tail rfl rfl ?_
      refine LM.stS ({ gN (N2) ( (N2.getD o2 default).ch s) with red :=  false }) (j := 6) (by assumption) (by intro _; rfl) Try.sizeOf4 rfl rfl rfl (by exact getq default (by first | omega | (simp only [nL_len, nR_len, nU_len, nC_len, List.length_set, List.length_append, List.length_cons, List.length_nil]; omega))) rfl (by decide) (by rfl) rfl (fun p hp _ => .inr (Sl.at_bn (by assumption) p hp)) (fun ms1 hss1 hmm1 => ?_)
      change Sl _ _ _ _ (nC (N2) ( (N2.getD o2 default).ch s) ( false)) _ _ at hss1
      refine LM.val (ov_idxSN au6 Try.underlying129 Try.sizeOf136 rfl rfl (by omega)) ?_
      refine LM.val (ov_field Try.underlying136 rfl Try.sizeOf4 rfl (k := 6) rfl rfl) ?_
      refine LM.stS ({ gN (nC N2 ((N2.getD o2 default).ch s) false) ( o2) with red :=  true }) (j := 6) (by assumption) (by intro _; rfl) Try.sizeOf4 rfl rfl rfl (by exact getq default (by first | omega | (simp only [nL_len, nR_len, nU_len, nC_len, List.length_set, List.length_append, List.length_cons, List.length_nil]; omega))) rfl (by decide) (by rfl) rfl (fun p hp _ => .inr (Sl.at_bn (by assumption) p hp)) (fun ms2 hss2 hmm2 => ?_)
      change Sl _ _ _ _ (nC (nC N2 ((N2.getD o2 default).ch s) false) ( o2) ( true)) _ _ at hss2
      refine LM.nil ?_
      refine QM.qn ?_
      refine QM.sub (e' := [(0, _), (4, _), (5, _), (6, _), (7, _)]) au9 (QM.then (wpM.seq (wpM.region ?_)))
      refine LM.mv rfl (LM.mv rfl (LM.mv rfl ?_))
      first | refine LM.val (ov_notD rfl) ?_ | refine LM.val (ov_not rfl) ?_
      refine LM.cU (oc_call (enters_fn Try.func113 (by kernel_rfl) rfl) rfl) (fun w hm hc hg => turn_spec (N := nC (nC N2 ((N2.getD o2 default).ch s) false) o2 true) o2 (!s) w (by rw [nC_len, nC_len, hl2]; exact hn) hss2 (by rw [nC_len, nC_len, hl2]; exact nC_wf (nC_wf hw2 _ _) _ _) (by rw [nC_len, nC_len, hl2]; exact ho2) (hm.pick (rtB b most bn n cap root2 first free cnt :: ms2))) (rt_wlk hss2) (rt_hS hss2) ?_
      rintro u144 m144 ⟨rfl, m6, rfl, hs6⟩ -; have hw6 := trn_wf (nC_wf (nC_wf hw2 ((N2.getD o2 default).ch s) false) o2 true) ho2 (!s); have hl6 := hw6.len
      refine LM.nil (QM.sub (e' := [(0, _), (4, _), (5, _), (7, _)]) au9 (QM.then (wpM.seq (wpM.region ?_))))
      refine LM.mv rfl (LM.as rfl ?_)
      refine LM.nil (QM.sub (e' := [(0, _), (4, _), (5, _), (6, _)]) au9 (QM.then (wpM.region ?_)))
      refine LM.mv rfl (LM.mv rfl (LM.mv rfl ?_))
      first | refine LM.val (ov_notD rfl) ?_ | refine LM.val (ov_not rfl) ?_
      refine LM.callE (oc_call (enters_fn Try.func112 (by kernel_rfl) rfl) rfl) (fun w hm hc hg => below_spec (N := (trnF (nC (nC N2 ((N2.getD o2 default).ch s) false) o2 true, root2) o2 (!s)).1) ((N2.getD o2 default).ch s) (!s) w (hn.trans hl6.symm) hs6 (by rw [hl6]; exact hna) (hm.pick (rtB b most bn n cap (trnF (nC (nC N2 ((N2.getD o2 default).ch s) false) o2 true, root2) o2 (!s)).2 first free cnt :: m6))) ?_
      refine LM.as rfl ?_
      refine LM.nil (QM.sub (e' := [(0, _), (4, _), (5, _), (6, _), (8, _)]) au9 ?_)
      refine QM.meetK ((trnF (nC (nC N2 ((N2.getD o2 default).ch s) false) o2 true, root2) o2 (!s)).1, (trnF (nC (nC N2 ((N2.getD o2 default).ch s) false) o2 true, root2) o2 (!s)).2, (N2.getD o2 default).ch s, _, m6) ⟨au2, au2, rfl, rfl, rfl, trivial⟩ au1 ?_
      · exact ⟨hs6, hw6, hna, ch_wf hw6 _ _, by rw [shB_pos (bnot h6)] at hgr; exact hgr⟩
     refine wpM.skip ?_
     refine QM.meetK (N2, root2, o2, (N2.getD o2 default).ch (!s), m2) ⟨au2, au2, rfl, rfl, rfl, trivial⟩ au1 ?_
     · exact ⟨hs2, hw2, ho2, hfa, by rw [shB_neg (bnotF h6)] at hgr; exact hgr⟩
    rintro ⟨N3, root3, o3, far3, m3⟩ ⟨hs3, hw3, ho3, hf3, hgr⟩
    change QM _ _ _ _ _ (rtB b most bn n cap root3 first free cnt :: (m3 ++ [])) _ _ _
    have hl3 : N3.length = N.length := hw3.len
    refine QM.then ?_
    refine wpM.seq ?_
    refine wpM.draw [(0, 0), (1, 0), (2, 0), (3, 1), (4, 0), (5, 0), (6, 0), (7, 0), (8, 1), (9, 0), (10, 0), (11, 0), (12, 1), (13, 0), (14, 0), (15, 3)] (by kernel_rfl) (by kernel_rfl) ?_
    refine LD.val rfl rfl (ov_move rfl) ?_
    refine LD.val rfl rfl (ov_nilCheck rfl) ?_
    refine LD.val rfl rfl (ov_field Try.underlying131 rfl Try.sizeOf129 rfl (k := 1) rfl rfl) ?_
    refine LD.rd rfl rfl (om_ld Try.isAgg129 rfl rfl) ?_
    refine LD.val rfl rfl (ov_move rfl) ?_
    refine LD.val rfl rfl (ov_move rfl) ?_
    refine LD.val rfl rfl (ov_nilCheck rfl) ?_
    refine LD.val rfl rfl (ov_field Try.underlying131 rfl Try.sizeOf129 rfl (k := 1) rfl rfl) ?_
    refine LD.rd rfl rfl (om_ld Try.isAgg129 rfl rfl) ?_
    refine LD.val rfl rfl (ov_move rfl) ?_
    refine LD.val rfl rfl (ov_idxSN au6 Try.underlying129 Try.sizeOf136 rfl rfl (by omega)) ?_
    refine LD.val rfl rfl (ov_field Try.underlying136 rfl Try.sizeOf4 rfl (k := 6) rfl rfl) ?_
    refine LD.rd rfl rfl (om_slE (j := 6) (by assumption) (by intro _; rfl) Try.isAgg4 rfl rfl (by exact getq default (by first | omega | (simp only [nL_len, nR_len, nU_len, nC_len, List.length_set, List.length_append, List.length_cons, List.length_nil]; omega))) rfl (by rfl)) ?_
    refine LD.val rfl rfl (ov_idxSN au6 Try.underlying129 Try.sizeOf136 rfl rfl (by omega)) ?_
    refine LD.val rfl rfl (ov_field Try.underlying136 rfl Try.sizeOf4 rfl (k := 6) rfl rfl) ?_
    refine LD.tail rfl rfl ?_
    refine LM.stS ({ gN (N3) ( o3) with red :=  (N3.getD (N1.getD i1 default).up default).red }) (j := 6) (by assumption) (by intro _; rfl) Try.sizeOf4 rfl rfl rfl (by exact getq default (by first | omega | (simp only [nL_len, nR_len, nU_len, nC_len, List.length_set, List.length_append, List.length_cons, List.length_nil]; omega))) rfl (by decide) (by rfl) rfl (fun p hp _ => .inr (Sl.at_bn (by assumption) p hp)) (fun ms1 hss1 hmm1 => ?_)
    change Sl _ _ _ _ (nC (N3) ( o3) ( (N3.getD (N1.getD i1 default).up default).red)) _ _ at hss1
    refine LM.nil ?_
    refine QM.qn ?_
    refine QM.sub (e' := [(0, _), (4, _), (5, _), (8, _)]) au9 (QM.then ?_)
    refine wpM.seq ?_
    refine wpM.draw [(0, 0), (1, 0), (2, 0), (3, 1), (4, 0), (5, 0), (6, 0), (7, 0), (8, 1), (9, 0), (10, 0), (11, 0), (12, 3), (13, 3), (14, 3), (15, 3)] (by kernel_rfl) (by kernel_rfl) ?_
    refine LD.val rfl rfl (ov_move rfl) ?_
    refine LD.val rfl rfl (ov_nilCheck rfl) ?_
    refine LD.val rfl rfl (ov_field Try.underlying131 rfl Try.sizeOf129 rfl (k := 1) rfl rfl) ?_
    refine LD.rd rfl rfl (om_ld Try.isAgg129 rfl rfl) ?_
    refine LD.val rfl rfl (ov_move rfl) ?_
    refine LD.val rfl rfl (ov_move rfl) ?_
    refine LD.val rfl rfl (ov_nilCheck rfl) ?_
    refine LD.val rfl rfl (ov_field Try.underlying131 rfl Try.sizeOf129 rfl (k := 1) rfl rfl) ?_
    refine LD.rd rfl rfl (om_ld Try.isAgg129 rfl rfl) ?_
    refine LD.val rfl rfl (ov_move rfl) ?_
    refine LD.val rfl rfl (ov_idxSN au6 Try.underlying129 Try.sizeOf136 rfl rfl (by omega)) ?_
    refine LD.val rfl rfl (ov_field Try.underlying136 rfl Try.sizeOf4 rfl (k := 6) rfl rfl) ?_
    refine LD.tail rfl rfl ?_
    refine LM.stS ({ gN (nC N3 o3 (N3.getD (N1.getD i1 default).up default).red) ( (N1.getD i1 default).up) with red :=  false }) (j := 6) (by assumption) (by intro _; rfl) Try.sizeOf4 rfl rfl rfl (by exact getq default (by first | omega | (simp only [nL_len, nR_len, nU_len, nC_len, List.length_set, List.length_append, List.length_cons, List.length_nil]; omega))) rfl (by decide) (by rfl) rfl (fun p hp _ => .inr (Sl.at_bn (by assumption) p hp)) (fun ms2 hss2 hmm2 => ?_)
    change Sl _ _ _ _ (nC (nC N3 o3 (N3.getD (N1.getD i1 default).up default).red) ( (N1.getD i1 default).up) ( false)) _ _ at hss2
    refine LM.val (ov_idxSN au6 Try.underlying129 Try.sizeOf136 rfl rfl (by omega)) ?_
    refine LM.val (ov_field Try.underlying136 rfl Try.sizeOf4 rfl (k := 6) rfl rfl) ?_
    refine LM.stS ({ gN (nC (nC N3 o3 (N3.getD (N1.getD i1 default).up default).red) (N1.getD i1 default).up false) ( far3) with red :=  false }) (j := 6) (by assumption) (by intro _; rfl) Try.sizeOf4 rfl rfl rfl (by exact getq default (by first | omega | (simp only [nL_len, nR_len, nU_len, nC_len, List.length_set, List.length_append, List.length_cons, List.length_nil]; omega))) rfl (by decide) (by rfl) rfl (fun p hp _ => .inr (Sl.at_bn (by assumption) p hp)) (fun ms3 hss3 hmm3 => ?_)
    change Sl _ _ _ _ (nC (nC (nC N3 o3 (N3.getD (N1.getD i1 default).up default).red) (N1.getD i1 default).up false) ( far3) ( false)) _ _ at hss3
    refine LM.nil ?_
    refine QM.qn ?_
    refine QM.sub (e' := [(0, _), (4, _), (5, _)]) au9 (QM.then (wpM.seq (wpM.region ?_)))
    refine LM.mv rfl (LM.mv rfl (LM.mv rfl ?_))
    refine LM.cU (oc_call (enters_fn Try.func113 (by kernel_rfl) rfl) rfl) (fun w hm hc hg => turn_spec (N := nC (nC (nC N3 o3 (N3.getD (N1.getD i1 default).up default).red) (N1.getD i1 default).up false) far3 false) (N1.getD i1 default).up s w (by rw [nC_len, nC_len, nC_len, hl3]; exact hn) hss3 (by rw [nC_len, nC_len, nC_len, hl3]; exact nC_wf (nC_wf (nC_wf hw3 _ _) _ _) _ _) (by rw [nC_len, nC_len, nC_len, hl3]; exact hu1) (hm.pick (rtB b most bn n cap root3 first free cnt :: ms3))) (rt_wlk hss3) (rt_hS hss3) ?_
    rintro u183 m183 ⟨rfl, m9, rfl, hs9⟩ -
    refine LM.nil (QM.sub (e' := [(0, _)]) ⟨rfl, trivial⟩ (QM.then (wpM.region ?_)))
    refine LM.mv rfl ?_
    refine LM.val (ov_nilCheck rfl) ?_
    refine LM.val (ov_field Try.underlying131 rfl Try.sizeOf3 rfl (k := 2) rfl rfl) ?_
    refine LM.rd (om_ld Try.isAgg3 rfl rfl) ?_
    refine LM.as rfl ?_
    refine LM.nil (QM.sub (e' := [(0, _), (1, _)]) au9 ?_)
    refine QM.block_normal ?_
    refine QM.againK (k, (shC (N3, root3) (N1.getD i1 default).up s o3 far3).1, (shC (N3, root3) (N1.getD i1 default).up s o3 far3).2, (shC (N3, root3) (N1.getD i1 default).up s o3 far3).2, m9) ⟨au2, rfl, trivial⟩ au1 (fun _ h => h) ?_ ?_
    · exact ⟨hs9, shC_wf hw3 s hu1, (shC_wf hw3 s hu1).rt, hgr⟩
    · first | omega | (dsimp only; omega)
   rw [shD_neg (fun q => by have := bnotF h4; have q2 : (N2.getD ((N2.getD o2 default).ch s) default).red = false := q.1; rw [this] at q2; cases q2)] at hgr
   refine LM.dr 98 rfl rfl rfl (LM.dr 98 rfl rfl rfl (LM.dr 98 rfl rfl rfl (LM.dr 98 rfl rfl rfl (LM.dr 98 rfl rfl rfl (LM.dr 98 rfl rfl rfl ?_)))))
   refine LM.dr 98 rfl rfl rfl (LM.dr 98 rfl rfl rfl (LM.dr 98 rfl rfl rfl ?_))
   refine LM.val (ov_pickF rfl rfl) ?_
   refine LM.nil (QM.sub (e' := [(0, _), (4, _), (5, _), (6, _), (7, _), (8, _), (108, _)]) au9 (QM.then ?_))
   refine wpM.condF rfl ?_
   refine wpM.skip ?_
   refine QM.then ?_
   refine wpM.seq ?_
   refine wpM.seq (wpM.region ?_)
   refine LM.mv rfl ?_
   refine LM.val (ov_nilCheck rfl) ?_
   refine LM.val (ov_field Try.underlying131 rfl Try.sizeOf129 rfl (k := 1) rfl rfl) ?_
   refine LM.rd (om_ld Try.isAgg129 rfl rfl) ?_
   refine LM.mv rfl ?_
   refine LM.val (ov_idxSN au6 Try.underlying129 Try.sizeOf136 rfl rfl (by omega)) ?_
   refine LM.val (ov_field Try.underlying136 rfl Try.sizeOf4 rfl (k := 6) rfl rfl) ?_
   refine LM.rd (om_slE (j := 6) (by assumption) (by intro _; rfl) Try.isAgg4 rfl rfl (by exact getq default (by first | omega | (simp only [nL_len, nR_len, nU_len, nC_len, List.length_set, List.length_append, List.length_cons, List.length_nil]; omega))) rfl (by rfl)) ?_
   first | refine LM.val (ov_notD rfl) ?_ | refine LM.val (ov_not rfl) ?_
   refine LM.nil (QM.sub (e' := [(0, _), (4, _), (5, _), (6, _), (7, _), (8, _), (125, _)]) au9 (QM.then ?_))
   refine wpM.joinK (α := List Nd × Nat × Nat × Nat × Mem0) (fun ⟨N3, root3, o3, far3, m3⟩ => [(6, .int .i64 (o3 : Nat)), (8, .int .i64 (far3 : Nat))]) [(0, _), (4, _), (5, _)] (fun ⟨N3, root3, o3, far3, m3⟩ => rtB b most bn n cap root3 first free cnt :: (m3 ++ [])) (fun ⟨N3, root3, o3, far3, m3⟩ => NdS n0 bn n cap N3 m3 ∧ WfS (N3, root3) N.length ∧ o3 < N.length ∧ far3 < N.length ∧ shrF k (shC (N3, root3) (N1.getD i1 default).up s o3 far3) (shC (N3, root3) (N1.getD i1 default).up s o3 far3).2 = some S') ⟨rfl, rfl, rfl, trivial⟩ ?_ ?_
   ·
    first | refine wpM.condD rfl (fun h7 => ?_) (fun h7 => ?_) | refine wpM.condB rfl (fun h7 => ?_) (fun h7 => ?_)
    ·
     refine wpM.seq ?_
     refine wpM.draw [(0, 0), (1, 0), (2, 0), (3, 1), (4, 0), (5, 0), (6, 0), (7, 0), (8, 1), (9, 0), (10, 0), (11, 0), (12, 3), (13, 3), (14, 3), (15, 3)] (by kernel_rfl) (by kernel_rfl) ?_
     refine LD.val rfl rfl (ov_move rfl) ?_
     refine LD.val rfl rfl (ov_nilCheck rfl) ?_
     refine LD.val rfl rfl (ov_field Try.underlying131 rfl Try.sizeOf129 rfl (k := 1) rfl rfl) ?_
     refine LD.rd rfl rfl (om_ld Try.isAgg129 rfl rfl) ?_
     refine LD.val rfl rfl (ov_move rfl) ?_
     refine LD.val rfl rfl (ov_move rfl) ?_
     refine LD.val rfl rfl (ov_nilCheck rfl) ?_
     refine LD.val rfl rfl (ov_field Try.underlying131 rfl Try.sizeOf129 rfl (k := 1) rfl rfl) ?_
     refine LD.rd rfl rfl (om_ld Try.isAgg129 rfl rfl) ?_
     refine LD.val rfl rfl (ov_move rfl) ?_
     refine LD.val rfl rfl (ov_idxSN au6 Try.underlying129 Try.sizeOf136 rfl rfl (by omega)) ?_
     refine LD.val rfl rfl (ov_field Try.underlying136 rfl Try.sizeOf4 rfl (k := 6) rfl rfl) ?_
     refine LD.tail rfl rfl ?_
     refine LM.stS ({ gN (N2) ( (N2.getD o2 default).ch s) with red :=  false }) (j := 6) (by assumption) (by intro _; rfl) Try.sizeOf4 rfl rfl rfl (by exact getq default (by first | omega | (simp only [nL_len, nR_len, nU_len, nC_len, List.length_set, List.length_append, List.length_cons, List.length_nil]; omega))) rfl (by decide) (by rfl) rfl (fun p hp _ => .inr (Sl.at_bn (by assumption) p hp)) (fun ms1 hss1 hmm1 => ?_)
     change Sl _ _ _ _ (nC (N2) ( (N2.getD o2 default).ch s) ( false)) _ _ at hss1
     refine LM.val (ov_idxSN au6 Try.underlying129 Try.sizeOf136 rfl rfl (by omega)) ?_
     refine LM.val (ov_field Try.underlying136 rfl Try.sizeOf4 rfl (k := 6) rfl rfl) ?_
     refine LM.stS ({ gN (nC N2 ((N2.getD o2 default).ch s) false) ( o2) with red :=  true }) (j := 6) (by assumption) (by intro _; rfl) Try.sizeOf4 rfl rfl rfl (by exact getq default (by first | omega | (simp only [nL_len, nR_len, nU_len, nC_len, List.length_set, List.length_append, List.length_cons, List.length_nil]; omega))) rfl (by decide) (by rfl) rfl (fun p hp _ => .inr (Sl.at_bn (by assumption) p hp)) (fun ms2 hss2 hmm2 => ?_)
     change Sl _ _ _ _ (nC (nC N2 ((N2.getD o2 default).ch s) false) ( o2) ( true)) _ _ at hss2
     refine LM.nil ?_
     refine QM.qn ?_
     refine QM.sub (e' := [(0, _), (4, _), (5, _), (6, _), (7, _)]) au9 (QM.then (wpM.seq (wpM.region ?_)))
     refine LM.mv rfl (LM.mv rfl (LM.mv rfl ?_))
     first | refine LM.val (ov_notD rfl) ?_ | refine LM.val (ov_not rfl) ?_
     refine LM.cU (oc_call (enters_fn Try.func113 (by kernel_rfl) rfl) rfl) (fun w hm hc hg => turn_spec (N := nC (nC N2 ((N2.getD o2 default).ch s) false) o2 true) o2 (!s) w (by rw [nC_len, nC_len, hl2]; exact hn) hss2 (by rw [nC_len, nC_len, hl2]; exact nC_wf (nC_wf hw2 _ _) _ _) (by rw [nC_len, nC_len, hl2]; exact ho2) (hm.pick (rtB b most bn n cap root2 first free cnt :: ms2))) (rt_wlk hss2) (rt_hS hss2) ?_
     rintro u144 m144 ⟨rfl, m6, rfl, hs6⟩ -; have hw6 := trn_wf (nC_wf (nC_wf hw2 ((N2.getD o2 default).ch s) false) o2 true) ho2 (!s); have hl6 := hw6.len
     refine LM.nil (QM.sub (e' := [(0, _), (4, _), (5, _), (7, _)]) au9 (QM.then (wpM.seq (wpM.region ?_))))
     refine LM.mv rfl (LM.as rfl ?_)
     refine LM.nil (QM.sub (e' := [(0, _), (4, _), (5, _), (6, _)]) au9 (QM.then (wpM.region ?_)))
     refine LM.mv rfl (LM.mv rfl (LM.mv rfl ?_))
     first | refine LM.val (ov_notD rfl) ?_ | refine LM.val (ov_not rfl) ?_
     refine LM.callE (oc_call (enters_fn Try.func112 (by kernel_rfl) rfl) rfl) (fun w hm hc hg => below_spec (N := (trnF (nC (nC N2 ((N2.getD o2 default).ch s) false) o2 true, root2) o2 (!s)).1) ((N2.getD o2 default).ch s) (!s) w (hn.trans hl6.symm) hs6 (by rw [hl6]; exact hna) (hm.pick (rtB b most bn n cap (trnF (nC (nC N2 ((N2.getD o2 default).ch s) false) o2 true, root2) o2 (!s)).2 first free cnt :: m6))) ?_
     refine LM.as rfl ?_
     refine LM.nil (QM.sub (e' := [(0, _), (4, _), (5, _), (6, _), (8, _)]) au9 ?_)
     refine QM.meetK ((trnF (nC (nC N2 ((N2.getD o2 default).ch s) false) o2 true, root2) o2 (!s)).1, (trnF (nC (nC N2 ((N2.getD o2 default).ch s) false) o2 true, root2) o2 (!s)).2, (N2.getD o2 default).ch s, _, m6) ⟨au2, au2, rfl, rfl, rfl, trivial⟩ au1 ?_
     · exact ⟨hs6, hw6, hna, ch_wf hw6 _ _, by rw [shB_pos (bnot h7)] at hgr; exact hgr⟩
    refine wpM.skip ?_
    refine QM.meetK (N2, root2, o2, (N2.getD o2 default).ch (!s), m2) ⟨au2, au2, rfl, rfl, rfl, trivial⟩ au1 ?_
    · exact ⟨hs2, hw2, ho2, hfa, by rw [shB_neg (bnotF h7)] at hgr; exact hgr⟩
   rintro ⟨N3, root3, o3, far3, m3⟩ ⟨hs3, hw3, ho3, hf3, hgr⟩
   change QM _ _ _ _ _ (rtB b most bn n cap root3 first free cnt :: (m3 ++ [])) _ _ _
   have hl3 : N3.length = N.length := hw3.len
   refine QM.then ?_
   refine wpM.seq ?_
   refine wpM.draw [(0, 0), (1, 0), (2, 0), (3, 1), (4, 0), (5, 0), (6, 0), (7, 0), (8, 1), (9, 0), (10, 0), (11, 0), (12, 1), (13, 0), (14, 0), (15, 3)] (by kernel_rfl) (by kernel_rfl) ?_
   refine LD.val rfl rfl (ov_move rfl) ?_
   refine LD.val rfl rfl (ov_nilCheck rfl) ?_
   refine LD.val rfl rfl (ov_field Try.underlying131 rfl Try.sizeOf129 rfl (k := 1) rfl rfl) ?_
   refine LD.rd rfl rfl (om_ld Try.isAgg129 rfl rfl) ?_
   refine LD.val rfl rfl (ov_move rfl) ?_
   refine LD.val rfl rfl (ov_move rfl) ?_
   refine LD.val rfl rfl (ov_nilCheck rfl) ?_
   refine LD.val rfl rfl (ov_field Try.underlying131 rfl Try.sizeOf129 rfl (k := 1) rfl rfl) ?_
   refine LD.rd rfl rfl (om_ld Try.isAgg129 rfl rfl) ?_
   refine LD.val rfl rfl (ov_move rfl) ?_
   refine LD.val rfl rfl (ov_idxSN au6 Try.underlying129 Try.sizeOf136 rfl rfl (by omega)) ?_
   refine LD.val rfl rfl (ov_field Try.underlying136 rfl Try.sizeOf4 rfl (k := 6) rfl rfl) ?_
   refine LD.rd rfl rfl (om_slE (j := 6) (by assumption) (by intro _; rfl) Try.isAgg4 rfl rfl (by exact getq default (by first | omega | (simp only [nL_len, nR_len, nU_len, nC_len, List.length_set, List.length_append, List.length_cons, List.length_nil]; omega))) rfl (by rfl)) ?_
   refine LD.val rfl rfl (ov_idxSN au6 Try.underlying129 Try.sizeOf136 rfl rfl (by omega)) ?_
   refine LD.val rfl rfl (ov_field Try.underlying136 rfl Try.sizeOf4 rfl (k := 6) rfl rfl) ?_
   refine LD.tail rfl rfl ?_
   refine LM.stS ({ gN (N3) ( o3) with red :=  (N3.getD (N1.getD i1 default).up default).red }) (j := 6) (by assumption) (by intro _; rfl) Try.sizeOf4 rfl rfl rfl (by exact getq default (by first | omega | (simp only [nL_len, nR_len, nU_len, nC_len, List.length_set, List.length_append, List.length_cons, List.length_nil]; omega))) rfl (by decide) (by rfl) rfl (fun p hp _ => .inr (Sl.at_bn (by assumption) p hp)) (fun ms1 hss1 hmm1 => ?_)
   change Sl _ _ _ _ (nC (N3) ( o3) ( (N3.getD (N1.getD i1 default).up default).red)) _ _ at hss1
   refine LM.nil ?_
   refine QM.qn ?_
   refine QM.sub (e' := [(0, _), (4, _), (5, _), (8, _)]) au9 (QM.then ?_)
   refine wpM.seq ?_
   refine wpM.draw [(0, 0), (1, 0), (2, 0), (3, 1), (4, 0), (5, 0), (6, 0), (7, 0), (8, 1), (9, 0), (10, 0), (11, 0), (12, 3), (13, 3), (14, 3), (15, 3)] (by kernel_rfl) (by kernel_rfl) ?_
   refine LD.val rfl rfl (ov_move rfl) ?_
   refine LD.val rfl rfl (ov_nilCheck rfl) ?_
   refine LD.val rfl rfl (ov_field Try.underlying131 rfl Try.sizeOf129 rfl (k := 1) rfl rfl) ?_
   refine LD.rd rfl rfl (om_ld Try.isAgg129 rfl rfl) ?_
   refine LD.val rfl rfl (ov_move rfl) ?_
   refine LD.val rfl rfl (ov_move rfl) ?_
   refine LD.val rfl rfl (ov_nilCheck rfl) ?_
   refine LD.val rfl rfl (ov_field Try.underlying131 rfl Try.sizeOf129 rfl (k := 1) rfl rfl) ?_
   refine LD.rd rfl rfl (om_ld Try.isAgg129 rfl rfl) ?_
   refine LD.val rfl rfl (ov_move rfl) ?_
   refine LD.val rfl rfl (ov_idxSN au6 Try.underlying129 Try.sizeOf136 rfl rfl (by omega)) ?_
   refine LD.val rfl rfl (ov_field Try.underlying136 rfl Try.sizeOf4 rfl (k := 6) rfl rfl) ?_
   refine LD.tail rfl rfl ?_
   refine LM.stS ({ gN (nC N3 o3 (N3.getD (N1.getD i1 default).up default).red) ( (N1.getD i1 default).up) with red :=  false }) (j := 6) (by assumption) (by intro _; rfl) Try.sizeOf4 rfl rfl rfl (by exact getq default (by first | omega | (simp only [nL_len, nR_len, nU_len, nC_len, List.length_set, List.length_append, List.length_cons, List.length_nil]; omega))) rfl (by decide) (by rfl) rfl (fun p hp _ => .inr (Sl.at_bn (by assumption) p hp)) (fun ms2 hss2 hmm2 => ?_)
   change Sl _ _ _ _ (nC (nC N3 o3 (N3.getD (N1.getD i1 default).up default).red) ( (N1.getD i1 default).up) ( false)) _ _ at hss2
   refine LM.val (ov_idxSN au6 Try.underlying129 Try.sizeOf136 rfl rfl (by omega)) ?_
   refine LM.val (ov_field Try.underlying136 rfl Try.sizeOf4 rfl (k := 6) rfl rfl) ?_
   refine LM.stS ({ gN (nC (nC N3 o3 (N3.getD (N1.getD i1 default).up default).red) (N1.getD i1 default).up false) ( far3) with red :=  false }) (j := 6) (by assumption) (by intro _; rfl) Try.sizeOf4 rfl rfl rfl (by exact getq default (by first | omega | (simp only [nL_len, nR_len, nU_len, nC_len, List.length_set, List.length_append, List.length_cons, List.length_nil]; omega))) rfl (by decide) (by rfl) rfl (fun p hp _ => .inr (Sl.at_bn (by assumption) p hp)) (fun ms3 hss3 hmm3 => ?_)
   change Sl _ _ _ _ (nC (nC (nC N3 o3 (N3.getD (N1.getD i1 default).up default).red) (N1.getD i1 default).up false) ( far3) ( false)) _ _ at hss3
   refine LM.nil ?_
   refine QM.qn ?_
   refine QM.sub (e' := [(0, _), (4, _), (5, _)]) au9 (QM.then (wpM.seq (wpM.region ?_)))
   refine LM.mv rfl (LM.mv rfl (LM.mv rfl ?_))
   refine LM.cU (oc_call (enters_fn Try.func113 (by kernel_rfl) rfl) rfl) (fun w hm hc hg => turn_spec (N := nC (nC (nC N3 o3 (N3.getD (N1.getD i1 default).up default).red) (N1.getD i1 default).up false) far3 false) (N1.getD i1 default).up s w (by rw [nC_len, nC_len, nC_len, hl3]; exact hn) hss3 (by rw [nC_len, nC_len, nC_len, hl3]; exact nC_wf (nC_wf (nC_wf hw3 _ _) _ _) _ _) (by rw [nC_len, nC_len, nC_len, hl3]; exact hu1) (hm.pick (rtB b most bn n cap root3 first free cnt :: ms3))) (rt_wlk hss3) (rt_hS hss3) ?_
   rintro u183 m183 ⟨rfl, m9, rfl, hs9⟩ -
   refine LM.nil (QM.sub (e' := [(0, _)]) ⟨rfl, trivial⟩ (QM.then (wpM.region ?_)))
   refine LM.mv rfl ?_
   refine LM.val (ov_nilCheck rfl) ?_
   refine LM.val (ov_field Try.underlying131 rfl Try.sizeOf3 rfl (k := 2) rfl rfl) ?_
   refine LM.rd (om_ld Try.isAgg3 rfl rfl) ?_
   refine LM.as rfl ?_
   refine LM.nil (QM.sub (e' := [(0, _), (1, _)]) au9 ?_)
   refine QM.block_normal ?_
   refine QM.againK (k, (shC (N3, root3) (N1.getD i1 default).up s o3 far3).1, (shC (N3, root3) (N1.getD i1 default).up s o3 far3).2, (shC (N3, root3) (N1.getD i1 default).up s o3 far3).2, m9) ⟨au2, rfl, trivial⟩ au1 (fun _ h => h) ?_ ?_
   · exact ⟨hs9, shC_wf hw3 s hu1, (shC_wf hw3 s hu1).rt, hgr⟩
   · first | omega | (dsimp only; omega)
  rw [if_neg (fun q => by have := bnotF h2; have q2 : (N1.getD i1 default).red = false := q.2; rw [this] at q2; cases q2)] at hgr; cases hgr
  refine wpM.exit ?_
  refine QM.then_exit ?_
  refine QM.then_exit ?_
  refine QM.block_hit ?_
  refine QM.then (wpM.region ?_)
  refine LM.mv rfl ?_
  refine LM.val (ov_nilCheck rfl) ?_
  refine LM.val (ov_field Try.underlying131 rfl Try.sizeOf129 rfl (k := 1) rfl rfl) ?_
  refine LM.rd (om_ld Try.isAgg129 rfl rfl) ?_
  refine LM.mv rfl ?_
  refine LM.val (ov_idxSN au6 Try.underlying129 Try.sizeOf136 rfl rfl (by omega)) ?_
  refine LM.val (ov_field Try.underlying136 rfl Try.sizeOf4 rfl (k := 6) rfl rfl) ?_
  refine LM.stS ({ gN (N1) ( i1) with red :=  false }) (j := 6) (by assumption) (by intro _; rfl) Try.sizeOf4 rfl rfl rfl (by exact getq default (by first | omega | (simp only [nL_len, nR_len, nU_len, nC_len, List.length_set, List.length_append, List.length_cons, List.length_nil]; omega))) rfl (by decide) (by rfl) rfl (fun p hp _ => .inr (Sl.at_bn (by assumption) p hp)) (fun ms1 hss1 hmm1 => ?_)
  change Sl _ _ _ _ (nC (N1) ( i1) ( false)) _ _ at hss1
  refine LM.nil (QM.sub (e' := []) trivial ?_)
  refine QM.leave (.inr rfl) [] Try.results116 rfl ?_
  intro w' hm' hc' hg'
  exact rt_leaf hs (by assumption) hm' au1 hc'
 rw [if_neg (fun q => q.1 (Int.natCast_inj.1 (Classical.not_not.1 h1)))] at hgr; cases hgr
 refine LM.dr 15 rfl rfl rfl (LM.dr 15 rfl rfl rfl (LM.dr 15 rfl rfl rfl (LM.dr 15 rfl rfl rfl (LM.dr 15 rfl rfl rfl (LM.dr 15 rfl rfl rfl ?_)))))
 refine LM.dr 15 rfl rfl rfl (LM.dr 15 rfl rfl rfl (LM.dr 15 rfl rfl rfl ?_))
 refine LM.val (ov_pickF rfl rfl) ?_
 refine LM.nil (QM.sub (e' := [(0, _), (1, _), (25, _)]) au9 (QM.then ?_))
 refine wpM.condF rfl ?_
 refine wpM.exit ?_
 refine QM.then_exit ?_
 refine QM.then_exit ?_
 refine QM.block_hit ?_
 refine QM.then (wpM.region ?_)
 refine LM.mv rfl ?_
 refine LM.val (ov_nilCheck rfl) ?_
 refine LM.val (ov_field Try.underlying131 rfl Try.sizeOf129 rfl (k := 1) rfl rfl) ?_
 refine LM.rd (om_ld Try.isAgg129 rfl rfl) ?_
 refine LM.mv rfl ?_
 refine LM.val (ov_idxSN au6 Try.underlying129 Try.sizeOf136 rfl rfl (by omega)) ?_
 refine LM.val (ov_field Try.underlying136 rfl Try.sizeOf4 rfl (k := 6) rfl rfl) ?_
 refine LM.stS ({ gN (N1) ( i1) with red :=  false }) (j := 6) (by assumption) (by intro _; rfl) Try.sizeOf4 rfl rfl rfl (by exact getq default (by first | omega | (simp only [nL_len, nR_len, nU_len, nC_len, List.length_set, List.length_append, List.length_cons, List.length_nil]; omega))) rfl (by decide) (by rfl) rfl (fun p hp _ => .inr (Sl.at_bn (by assumption) p hp)) (fun ms1 hss1 hmm1 => ?_)
 change Sl _ _ _ _ (nC (N1) ( i1) ( false)) _ _ at hss1
 refine LM.nil (QM.sub (e' := []) trivial ?_)
 refine QM.leave (.inr rfl) [] Try.results116 rfl ?_
 intro w' hm' hc' hg'
 exact rt_leaf hs (by assumption) hm' au1 hc'
end Go.Eng
namespace Go.Eng
open Go Go.Proofs Go.RowKit
set_option maxRecDepth 100000 in
theorem find_spec {n0 b most bn n cap root first free cnt : Nat} {N : List Nd} {ms : Mem0} {r : Nat × Nat} (f : Nat) (k : Kv) (w : World) (hF : fndF N k f root 0 = some r) (hn : n = N.length) (hs : NdS n0 bn n cap N ms) (hw : WfS (N, root) N.length) (hM : Mem w (rtB b most bn n cap root first free cnt :: ms)) : Ret Try.prog 89 #[.pointer (some ⟨b, 0, none⟩), .agg #[U k.V, .int .i64 k.id]] w (fun v w' => v = .tuple #[.int .i64 (r.1 : Nat), .int .i64 (r.2 : Nat)] ∧ Ext w w') := by
 refine Ret.enterM (l := [.pointer (some ⟨b, 0, none⟩), .agg #[U k.V, .int .i64 k.id]]) Try.func89 rfl Try.ntmps89 rfl (rtB b most bn n cap root first free cnt :: ms) (no) hM ?_
 refine wpM.seq (wpM.region ?_)
 refine LM.box rfl rfl (fun b3 hb3 => ?_)
 refine LM.as rfl (LM.as rfl ?_)
 refine LM.nil (QM.sub (e' := [(0, _), (3, _)]) au9 (QM.then (wpM.seq (wpM.region ?_))))
 refine LM.mv rfl ?_
 refine LM.val (ov_nilCheck rfl) ?_
 refine LM.val (ov_field Try.underlying131 rfl Try.sizeOf3 rfl (k := 2) rfl rfl) ?_
 refine LM.rd (om_ld Try.isAgg3 rfl rfl) ?_
 refine LM.as rfl (LM.as rfl ?_)
 refine LM.nil (QM.sub (e' := [(0, _), (3, _), (6, _), (7, _)]) au9 (QM.then ?_))
 refine wpM.seq ?_
 refine wpM.block ?_
 refine wpM.loopK0 (α := Nat × Nat × Nat) (fun ⟨j, i1, last⟩ => [(6, .int .i64 (i1 : Nat)), (7, .int .i64 (last : Nat))]) [(0, _), (3, _)] (fun ⟨j, i1, last⟩ => (b3, .cells #[U k.V, .int .i64 k.id] 100 (0, 0)) :: rtB b most bn n cap root first free cnt :: (ms ++ [])) (fun ⟨j, i1, last⟩ => i1 < N.length ∧ fndF N k j i1 last = some r) (fun ⟨j, i1, last⟩ => j) ((f, root, 0)) ⟨au2, au2, rfl, rfl, trivial⟩ au1 ⟨hw.rt, hF⟩ ?_
 rintro ⟨j, i1, last⟩ ⟨hi1, hgr⟩
 change wpM _ _ _ _ _ _ _ ((b3, .cells #[U k.V, .int .i64 k.id] 100 (0, 0)) :: rtB b most bn n cap root first free cnt :: (ms ++ [])) _ _ _
 obtain ⟨j, rfl⟩ : ∃ j', j = j' + 1 := (by cases j with | zero => cases hgr | succ j => exact ⟨j, rfl⟩); rw [fndF] at hgr; have hl1 : (N.getD i1 default).l < N.length := l_wf hw i1; have hr1 : (N.getD i1 default).r < N.length := r_wf hw i1
 refine wpM.seq ?_
 refine wpM.seq (wpM.region ?_)
 refine LM.mv rfl ?_
 refine LM.val (ov_neq rfl rfl) ?_
 refine LM.nil (QM.sub (e' := [(0, _), (3, _), (6, _), (7, _), (14, _)]) au9 (QM.then ?_))
 refine wpM.condD rfl (fun h1 => ?_) (fun h1 => ?_)
 ·
  rw [if_neg (fun q => h1 (Int.natCast_inj.2 q))] at hgr
  refine wpM.skip ?_
  refine QM.then ?_
  refine wpM.block ?_
  refine wpM.seq ?_
  refine wpM.draw [(0, 1), (1, 0), (2, 0), (3, 0), (4, 1), (5, 0), (6, 0), (7, 0), (8, 1), (9, 2), (10, 0)] (by kernel_rfl) (by kernel_rfl) ?_
  refine LD.rd rfl rfl (om_ldW Try.isAgg100 Try.sizeOf100 rfl rfl) ?_
  refine LD.val rfl rfl (ov_move rfl) ?_
  refine LD.val rfl rfl (ov_nilCheck rfl) ?_
  refine LD.val rfl rfl (ov_field Try.underlying131 rfl Try.sizeOf129 rfl (k := 1) rfl rfl) ?_
  refine LD.rd rfl rfl (om_ld Try.isAgg129 rfl rfl) ?_
  refine LD.val rfl rfl (ov_move rfl) ?_
  refine LD.val rfl rfl (ov_idxSN au6 Try.underlying129 Try.sizeOf136 rfl rfl (by omega)) ?_
  refine LD.val rfl rfl (ov_field Try.underlying136 rfl Try.sizeOf100 rfl (k := 0) rfl rfl) ?_
  refine LD.rd rfl rfl (om_slP (j := 0) (vs := [_, _]) (by assumption) (by intro _; rfl) Try.isAgg100 Try.sizeOf100 rfl rfl (by exact getq default (by first | omega | (simp only [nL_len, nR_len, nU_len, nC_len, List.length_set, List.length_append, List.length_cons, List.length_nil]; omega))) (by decide) rfl rfl) ?_
  refine LD.callE rfl rfl (oc_call (enters_fn Try.func91 (by kernel_rfl) rfl) rfl) (fun w hm hc hg => against_spec k (N.getD i1 default).e w) ?_
  refine LD.val rfl rfl (ov_assign rfl) ?_
  refine LD.nil ?_
  refine QM.sub (e' := [(0, _), (3, _), (6, _), (7, _), (8, _)]) au9 (QM.then ?_)
  refine wpM.seq ?_
  refine wpM.seq (wpM.region ?_)
  refine LM.mv rfl ?_
  refine LM.val (ov_eql rfl rfl) ?_
  refine LM.nil (QM.sub (e' := [(0, _), (3, _), (6, _), (7, _), (8, _), (26, _)]) au9 (QM.then ?_))
  refine wpM.condD rfl (fun h2 => ?_) (fun h2 => ?_)
  ·
   rw [if_pos h2] at hgr; cases hgr
   refine wpM.seq (wpM.region ?_)
   refine LM.mv rfl (LM.mv rfl (LM.as rfl (LM.as rfl ?_)))
   refine LM.nil (QM.sub (e' := [(4, _), (5, _)]) au9 (QM.then ?_))
   refine wpM.ret ?_
   refine QM.then_ret ?_
   refine QM.block_ret ?_
   refine QM.then_ret ?_
   refine QM.block_ret ?_
   refine QM.then_ret ?_
   refine QM.leave (.inl rfl) [.tmp 4, .tmp 5] Try.results89 rfl ?_
   intro w' hm' hc' hg'
   exact ⟨rfl, hc'⟩
  rw [if_neg h2] at hgr
  refine wpM.skip ?_
  refine QM.then (wpM.seq (wpM.region ?_))
  refine LM.mv rfl (LM.as rfl ?_)
  refine LM.nil (QM.sub (e' := [(0, _), (3, _), (6, _), (7, _), (8, _)]) au9 (QM.then (wpM.seq (wpM.region ?_))))
  refine LM.mv rfl ?_
  refine LM.val (ov_lss rfl rfl) ?_
  refine LM.nil (QM.sub (e' := [(0, _), (3, _), (6, _), (7, _), (31, _)]) au9 (QM.then ?_))
  refine wpM.condD rfl (fun h3 => ?_) (fun h3 => ?_)
  ·
   refine wpM.region ?_
   refine LM.mv rfl ?_
   refine LM.val (ov_nilCheck rfl) ?_
   refine LM.val (ov_field Try.underlying131 rfl Try.sizeOf129 rfl (k := 1) rfl rfl) ?_
   refine LM.rd (om_ld Try.isAgg129 rfl rfl) ?_
   refine LM.mv rfl ?_
   refine LM.val (ov_idxSN au6 Try.underlying129 Try.sizeOf136 rfl rfl (by omega)) ?_
   refine LM.val (ov_field Try.underlying136 rfl Try.sizeOf3 rfl (k := 3) rfl rfl) ?_
   refine LM.rd (om_slE (j := 3) (by assumption) (by intro _; rfl) Try.isAgg3 rfl rfl (by exact getq default (by first | omega | (simp only [nL_len, nR_len, nU_len, nC_len, List.length_set, List.length_append, List.length_cons, List.length_nil]; omega))) rfl (by rfl)) ?_
   refine LM.as rfl ?_
   refine LM.nil (QM.sub (e' := [(0, _), (3, _), (6, _), (7, _)]) au9 ?_)
   refine QM.block_normal ?_
   refine QM.againK (j, (N.getD i1 default).l, i1) ⟨au2, au2, rfl, rfl, trivial⟩ au1 (fun _ h => h) ?_ ?_
   · exact ⟨hl1, by rw [if_pos h3] at hgr; exact hgr⟩
   · first | omega | (dsimp only; omega)
  refine wpM.region ?_
  refine LM.mv rfl ?_
  refine LM.val (ov_nilCheck rfl) ?_
  refine LM.val (ov_field Try.underlying131 rfl Try.sizeOf129 rfl (k := 1) rfl rfl) ?_
  refine LM.rd (om_ld Try.isAgg129 rfl rfl) ?_
  refine LM.mv rfl ?_
  refine LM.val (ov_idxSN au6 Try.underlying129 Try.sizeOf136 rfl rfl (by omega)) ?_
  refine LM.val (ov_field Try.underlying136 rfl Try.sizeOf3 rfl (k := 4) rfl rfl) ?_
  refine LM.rd (om_slE (j := 4) (by assumption) (by intro _; rfl) Try.isAgg3 rfl rfl (by exact getq default (by first | omega | (simp only [nL_len, nR_len, nU_len, nC_len, List.length_set, List.length_append, List.length_cons, List.length_nil]; omega))) rfl (by rfl)) ?_
  refine LM.as rfl ?_
  refine LM.nil (QM.sub (e' := [(0, _), (3, _), (6, _), (7, _)]) au9 ?_)
  refine QM.block_normal ?_
  refine QM.againK (j, (N.getD i1 default).r, i1) ⟨au2, au2, rfl, rfl, trivial⟩ au1 (fun _ h => h) ?_ ?_
  · exact ⟨hr1, by rw [if_neg h3] at hgr; exact hgr⟩
  · first | omega | (dsimp only; omega)
 rw [if_pos (Int.natCast_inj.1 (Classical.not_not.1 h1))] at hgr; cases hgr
 refine wpM.exit ?_
 refine QM.then_exit ?_
 refine QM.then_exit ?_
 refine QM.block_hit ?_
 refine QM.then (wpM.seq (wpM.region ?_))
 refine LM.mv rfl (LM.as rfl (LM.as rfl ?_))
 refine LM.nil (QM.sub (e' := [(4, _), (5, _)]) au9 (QM.then ?_))
 refine wpM.ret ?_
 refine QM.leave (.inl rfl) [.tmp 4, .tmp 5] Try.results89 rfl ?_
 intro w' hm' hc' hg'
 exact ⟨rfl, hc'⟩
set_option maxRecDepth 100000 in
theorem least_spec {n0 b most bn n cap root first free cnt : Nat} {N : List Nd} {ms : Mem0} {r : Nat} (f i : Nat) (w : World) (hF : lstF N f i = some r) (hn : n = N.length) (hs : NdS n0 bn n cap N ms) (hw : WfS (N, root) N.length) (hi : i < N.length) (hM : Mem w (rtB b most bn n cap root first free cnt :: ms)) : Ret Try.prog 114 #[.pointer (some ⟨b, 0, none⟩), .int .i64 (i : Nat)] w (fun v w' => v = .int .i64 (r : Nat) ∧ Ext w w') := by
 refine Ret.enterM (l := [.pointer (some ⟨b, 0, none⟩), .int .i64 (i : Nat)]) Try.func114 rfl Try.ntmps114 rfl (rtB b most bn n cap root first free cnt :: ms) (no) hM ?_
 refine wpM.seq (wpM.region ?_)
 refine LM.as rfl ?_
 refine LM.nil (QM.sub (e' := [(0, _), (1, _)]) au9 (QM.then ?_))
 refine wpM.seq ?_
 refine wpM.block ?_
 refine wpM.loopK0 (α := Nat × Nat) (fun ⟨j, i1⟩ => [(1, .int .i64 (i1 : Nat))]) [(0, _)] (fun ⟨j, i1⟩ => rtB b most bn n cap root first free cnt :: (ms ++ [])) (fun ⟨j, i1⟩ => i1 < N.length ∧ lstF N j i1 = some r) (fun ⟨j, i1⟩ => j) ((f, i)) ⟨au2, rfl, trivial⟩ au1 ⟨hi, hF⟩ ?_
 rintro ⟨j, i1⟩ ⟨hi1, hgr⟩
 change wpM _ _ _ _ _ _ _ (rtB b most bn n cap root first free cnt :: (ms ++ [])) _ _ _
 obtain ⟨j, rfl⟩ : ∃ j', j = j' + 1 := (by cases j with | zero => cases hgr | succ j => exact ⟨j, rfl⟩); rw [lstF] at hgr; have hl1 : (N.getD i1 default).l < N.length := l_wf hw i1
 refine wpM.seq ?_
 refine wpM.seq (wpM.region ?_)
 refine LM.mv rfl ?_
 refine LM.val (ov_neq rfl rfl) ?_
 refine LM.mv rfl ?_
 refine LM.splitD (t := 7) rfl (fun h1 => ?_) (fun h1 => ?_)
 ·
  refine LM.sp 7 rfl rfl rfl (LM.mv rfl (LM.sp 7 rfl rfl rfl ?_))
  refine LM.val (ov_nilCheck rfl) ?_
  refine LM.sp 7 rfl rfl rfl (LM.val (ov_field Try.underlying131 rfl Try.sizeOf129 rfl (k := 1) rfl rfl) (LM.sp 7 rfl rfl rfl ?_))
  refine LM.rd (om_ld Try.isAgg129 rfl rfl) ?_
  refine LM.sp 7 rfl rfl rfl (LM.mv rfl (LM.sp 7 rfl rfl rfl ?_))
  refine LM.val (ov_idxSN au6 Try.underlying129 Try.sizeOf136 rfl rfl (by omega)) ?_
  refine LM.sp 7 rfl rfl rfl (LM.val (ov_field Try.underlying136 rfl Try.sizeOf3 rfl (k := 3) rfl rfl) (LM.sp 7 rfl rfl rfl ?_))
  refine LM.rd (om_slE (j := 3) (by assumption) (by intro _; rfl) Try.isAgg3 rfl rfl (by exact getq default (by first | omega | (simp only [nL_len, nR_len, nU_len, nC_len, List.length_set, List.length_append, List.length_cons, List.length_nil]; omega))) rfl (by rfl)) ?_
  refine LM.sp 7 rfl rfl rfl ?_
  refine LM.val (ov_neq rfl rfl) ?_
  refine LM.val (ov_pickT rfl rfl) ?_
  refine LM.nil (QM.sub (e' := [(0, _), (1, _), (17, _)]) au9 (QM.then ?_))
  refine wpM.condD rfl (fun h2 => ?_) (fun h2 => ?_)
  ·
   refine wpM.skip ?_
   refine QM.then ?_
   refine wpM.block ?_
   refine wpM.region ?_
   refine LM.mv rfl ?_
   refine LM.val (ov_nilCheck rfl) ?_
   refine LM.val (ov_field Try.underlying131 rfl Try.sizeOf129 rfl (k := 1) rfl rfl) ?_
   refine LM.rd (om_ld Try.isAgg129 rfl rfl) ?_
   refine LM.mv rfl ?_
   refine LM.val (ov_idxSN au6 Try.underlying129 Try.sizeOf136 rfl rfl (by omega)) ?_
   refine LM.val (ov_field Try.underlying136 rfl Try.sizeOf3 rfl (k := 3) rfl rfl) ?_
   refine LM.rd (om_slE (j := 3) (by assumption) (by intro _; rfl) Try.isAgg3 rfl rfl (by exact getq default (by first | omega | (simp only [nL_len, nR_len, nU_len, nC_len, List.length_set, List.length_append, List.length_cons, List.length_nil]; omega))) rfl (by rfl)) ?_
   refine LM.as rfl ?_
   refine LM.nil (QM.sub (e' := [(0, _), (1, _)]) au9 ?_)
   refine QM.block_normal ?_
   refine QM.againK (j, (N.getD i1 default).l) ⟨au2, rfl, trivial⟩ au1 (fun _ h => h) ?_ ?_
   · exact ⟨hl1, by rw [if_pos ⟨fun q => h1 (Int.natCast_inj.2 q), fun q => h2 (Int.natCast_inj.2 q)⟩] at hgr; exact hgr⟩
   · first | omega | (dsimp only; omega)
  refine wpM.exit ?_
  refine QM.then_exit ?_
  refine QM.then_exit ?_
  refine QM.block_hit ?_
  refine QM.then (wpM.seq (wpM.region ?_))
  refine LM.mv rfl (LM.as rfl ?_)
  refine LM.nil (QM.sub (e' := [(4, _)]) ⟨rfl, trivial⟩ (QM.then ?_))
  refine wpM.ret ?_
  refine QM.leave (.inl rfl) [.tmp 4] Try.results114 rfl ?_
  intro w' hm' hc' hg'
  rw [if_neg (fun q => q.2 (Int.natCast_inj.1 (Classical.not_not.1 h2)))] at hgr; cases hgr; exact ⟨rfl, hc'⟩
 refine LM.dr 7 rfl rfl rfl (LM.dr 7 rfl rfl rfl (LM.dr 7 rfl rfl rfl (LM.dr 7 rfl rfl rfl (LM.dr 7 rfl rfl rfl (LM.dr 7 rfl rfl rfl ?_)))))
 refine LM.dr 7 rfl rfl rfl (LM.dr 7 rfl rfl rfl (LM.dr 7 rfl rfl rfl ?_))
 refine LM.val (ov_pickF rfl rfl) ?_
 refine LM.nil (QM.sub (e' := [(0, _), (1, _), (17, _)]) au9 (QM.then ?_))
 refine wpM.condF rfl ?_
 refine wpM.exit ?_
 refine QM.then_exit ?_
 refine QM.then_exit ?_
 refine QM.block_hit ?_
 refine QM.then (wpM.seq (wpM.region ?_))
 refine LM.mv rfl (LM.as rfl ?_)
 refine LM.nil (QM.sub (e' := [(4, _)]) ⟨rfl, trivial⟩ (QM.then ?_))
 refine wpM.ret ?_
 refine QM.leave (.inl rfl) [.tmp 4] Try.results114 rfl ?_
 intro w' hm' hc' hg'
 rw [if_neg (fun q => q.1 (Int.natCast_inj.1 (Classical.not_not.1 h1)))] at hgr; cases hgr; exact ⟨rfl, hc'⟩
set_option maxRecDepth 100000 in
theorem next_spec {n0 b most bn n cap root first free cnt : Nat} {N : List Nd} {ms : Mem0} {r : Nat} (f i : Nat) (w : World) (hF : nxtF N f i = some r) (hn : n = N.length) (hs : NdS n0 bn n cap N ms) (hw : WfS (N, root) N.length) (hi : i < N.length) (hM : Mem w (rtB b most bn n cap root first free cnt :: ms)) : Ret Try.prog 93 #[.pointer (some ⟨b, 0, none⟩), .int .i64 (i : Nat)] w (fun v w' => v = .int .i64 (r : Nat) ∧ Ext w w') := by
 have hr0 : (N.getD i default).r < N.length := r_wf hw i; have hu0 : (N.getD i default).up < N.length := up_wf hw i; unfold nxtF at hF
 refine Ret.enterM (l := [.pointer (some ⟨b, 0, none⟩), .int .i64 (i : Nat)]) Try.func93 rfl Try.ntmps93 rfl (rtB b most bn n cap root first free cnt :: ms) (no) hM ?_
 refine wpM.seq (wpM.region ?_)
 refine LM.as rfl ?_
 refine LM.nil (QM.sub (e' := [(0, _), (1, _)]) au9 (QM.then ?_))
 refine wpM.seq ?_
 refine wpM.seq (wpM.region ?_)
 refine LM.mv rfl ?_
 refine LM.val (ov_nilCheck rfl) ?_
 refine LM.val (ov_field Try.underlying131 rfl Try.sizeOf129 rfl (k := 1) rfl rfl) ?_
 refine LM.rd (om_ld Try.isAgg129 rfl rfl) ?_
 refine LM.mv rfl ?_
 refine LM.val (ov_idxSN au6 Try.underlying129 Try.sizeOf136 rfl rfl (by omega)) ?_
 refine LM.val (ov_field Try.underlying136 rfl Try.sizeOf3 rfl (k := 4) rfl rfl) ?_
 refine LM.rd (om_slE (j := 4) (by assumption) (by intro _; rfl) Try.isAgg3 rfl rfl (by exact getq default (by first | omega | (simp only [nL_len, nR_len, nU_len, nC_len, List.length_set, List.length_append, List.length_cons, List.length_nil]; omega))) rfl (by rfl)) ?_
 refine LM.as rfl ?_
 refine LM.nil (QM.sub (e' := [(0, _), (1, _), (5, _)]) au9 (QM.then (wpM.seq (wpM.region ?_))))
 refine LM.mv rfl ?_
 refine LM.val (ov_neq rfl rfl) ?_
 refine LM.nil (QM.sub (e' := [(0, _), (1, _), (5, _), (16, _)]) au9 (QM.then ?_))
 refine wpM.condD rfl (fun h1 => ?_) (fun h1 => ?_)
 ·
  rw [if_pos (fun q => h1 (Int.natCast_inj.2 q))] at hF
  refine wpM.seq (wpM.region ?_)
  refine LM.mv rfl (LM.mv rfl ?_)
  refine LM.callE (oc_call (enters_fn Try.func114 (by kernel_rfl) rfl) rfl) (fun w hm hc hg => least_spec f (N.getD i default).r w hF hn hs hw hr0 (hm.pick (rtB b most bn n cap root first free cnt :: ms))) ?_
  refine LM.as rfl ?_
  refine LM.nil (QM.sub (e' := [(4, _)]) ⟨rfl, trivial⟩ (QM.then ?_))
  refine wpM.ret ?_
  refine QM.then_ret ?_
  refine QM.leave (.inl rfl) [.tmp 4] Try.results93 rfl ?_
  intro w' hm' hc' hg'
  exact ⟨rfl, hc'⟩
 rw [if_neg (fun q => q (Int.natCast_inj.1 (Classical.not_not.1 h1)))] at hF
 refine wpM.skip ?_
 refine QM.then (wpM.seq (wpM.region ?_))
 refine LM.mv rfl ?_
 refine LM.val (ov_nilCheck rfl) ?_
 refine LM.val (ov_field Try.underlying131 rfl Try.sizeOf129 rfl (k := 1) rfl rfl) ?_
 refine LM.rd (om_ld Try.isAgg129 rfl rfl) ?_
 refine LM.mv rfl ?_
 refine LM.val (ov_idxSN au6 Try.underlying129 Try.sizeOf136 rfl rfl (by omega)) ?_
 refine LM.val (ov_field Try.underlying136 rfl Try.sizeOf3 rfl (k := 5) rfl rfl) ?_
 refine LM.rd (om_slE (j := 5) (by assumption) (by intro _; rfl) Try.isAgg3 rfl rfl (by exact getq default (by first | omega | (simp only [nL_len, nR_len, nU_len, nC_len, List.length_set, List.length_append, List.length_cons, List.length_nil]; omega))) rfl (by rfl)) ?_
 refine LM.as rfl ?_
 refine LM.nil (QM.sub (e' := [(0, _), (1, _), (6, _)]) au9 (QM.then ?_))
 refine wpM.seq ?_
 refine wpM.block ?_
 refine wpM.loopK0 (α := Nat × Nat × Nat) (fun ⟨j, i1, up1⟩ => [(1, .int .i64 (i1 : Nat)), (6, .int .i64 (up1 : Nat))]) [(0, _)] (fun ⟨j, i1, up1⟩ => rtB b most bn n cap root first free cnt :: (ms ++ [])) (fun ⟨j, i1, up1⟩ => i1 < N.length ∧ up1 < N.length ∧ clmF N j i1 up1 = some r) (fun ⟨j, i1, up1⟩ => j) ((f, i, (N.getD i default).up)) ⟨au2, au2, rfl, trivial⟩ au1 ⟨hi, hu0, hF⟩ ?_
 rintro ⟨j, i1, up1⟩ ⟨hi1, hu1, hgr⟩
 change wpM _ _ _ _ _ _ _ (rtB b most bn n cap root first free cnt :: (ms ++ [])) _ _ _
 obtain ⟨j, rfl⟩ : ∃ j', j = j' + 1 := (by cases j with | zero => cases hgr | succ j => exact ⟨j, rfl⟩); rw [clmF] at hgr; have hu2 : (N.getD up1 default).up < N.length := up_wf hw up1
 refine wpM.seq ?_
 refine wpM.seq (wpM.region ?_)
 refine LM.mv rfl ?_
 refine LM.val (ov_neq rfl rfl) ?_
 refine LM.mv rfl ?_
 refine LM.splitD (t := 30) rfl (fun h2 => ?_) (fun h2 => ?_)
 ·
  refine LM.sp 30 rfl rfl rfl (LM.mv rfl (LM.sp 30 rfl rfl rfl ?_))
  refine LM.val (ov_nilCheck rfl) ?_
  refine LM.sp 30 rfl rfl rfl (LM.val (ov_field Try.underlying131 rfl Try.sizeOf129 rfl (k := 1) rfl rfl) (LM.sp 30 rfl rfl rfl ?_))
  refine LM.rd (om_ld Try.isAgg129 rfl rfl) ?_
  refine LM.sp 30 rfl rfl rfl (LM.mv rfl (LM.sp 30 rfl rfl rfl ?_))
  refine LM.val (ov_idxSN au6 Try.underlying129 Try.sizeOf136 rfl rfl (by omega)) ?_
  refine LM.sp 30 rfl rfl rfl (LM.val (ov_field Try.underlying136 rfl Try.sizeOf3 rfl (k := 4) rfl rfl) (LM.sp 30 rfl rfl rfl ?_))
  refine LM.rd (om_slE (j := 4) (by assumption) (by intro _; rfl) Try.isAgg3 rfl rfl (by exact getq default (by first | omega | (simp only [nL_len, nR_len, nU_len, nC_len, List.length_set, List.length_append, List.length_cons, List.length_nil]; omega))) rfl (by rfl)) ?_
  refine LM.sp 30 rfl rfl rfl (LM.mv rfl (LM.sp 30 rfl rfl rfl ?_))
  refine LM.val (ov_eql rfl rfl) ?_
  refine LM.val (ov_pickT rfl rfl) ?_
  refine LM.nil (QM.sub (e' := [(0, _), (6, _), (41, _)]) au9 (QM.then ?_))
  refine wpM.condD rfl (fun h3 => ?_) (fun h3 => ?_)
  ·
   refine wpM.skip ?_
   refine QM.then ?_
   refine wpM.block ?_
   refine wpM.draw [(0, 0), (1, 0), (2, 0), (3, 0), (4, 1), (5, 0), (6, 0), (7, 0), (8, 1), (9, 0), (10, 0)] (by kernel_rfl) (by kernel_rfl) ?_
   refine LD.val rfl rfl (ov_move rfl) ?_
   refine LD.val rfl rfl (ov_move rfl) ?_
   refine LD.val rfl rfl (ov_nilCheck rfl) ?_
   refine LD.val rfl rfl (ov_field Try.underlying131 rfl Try.sizeOf129 rfl (k := 1) rfl rfl) ?_
   refine LD.rd rfl rfl (om_ld Try.isAgg129 rfl rfl) ?_
   refine LD.val rfl rfl (ov_move rfl) ?_
   refine LD.val rfl rfl (ov_idxSN au6 Try.underlying129 Try.sizeOf136 rfl rfl (by omega)) ?_
   refine LD.val rfl rfl (ov_field Try.underlying136 rfl Try.sizeOf3 rfl (k := 5) rfl rfl) ?_
   refine LD.rd rfl rfl (om_slE (j := 5) (by assumption) (by intro _; rfl) Try.isAgg3 rfl rfl (by exact getq default (by first | omega | (simp only [nL_len, nR_len, nU_len, nC_len, List.length_set, List.length_append, List.length_cons, List.length_nil]; omega))) rfl (by rfl)) ?_
   refine LD.val rfl rfl (ov_assign rfl) ?_
   refine LD.val rfl rfl (ov_assign rfl) ?_
   refine LD.nil ?_
   refine QM.sub (e' := [(0, _), (1, _), (6, _)]) au9 ?_
   refine QM.block_normal ?_
   refine QM.againK (j, up1, (N.getD up1 default).up) ⟨au2, au2, rfl, trivial⟩ au1 (fun _ h => h) ?_ ?_
   · exact ⟨hu1, hu2, by rw [if_pos ⟨fun q => h2 (Int.natCast_inj.2 q), Int.natCast_inj.1 h3⟩] at hgr; exact hgr⟩
   · first | omega | (dsimp only; omega)
  refine wpM.exit ?_
  refine QM.then_exit ?_
  refine QM.then_exit ?_
  refine QM.block_hit ?_
  refine QM.then (wpM.seq (wpM.region ?_))
  refine LM.mv rfl (LM.as rfl ?_)
  refine LM.nil (QM.sub (e' := [(4, _)]) ⟨rfl, trivial⟩ (QM.then ?_))
  refine wpM.ret ?_
  refine QM.leave (.inl rfl) [.tmp 4] Try.results93 rfl ?_
  intro w' hm' hc' hg'
  rw [if_neg (fun q => h3 (Int.natCast_inj.2 q.2))] at hgr; cases hgr; exact ⟨rfl, hc'⟩
 refine LM.dr 30 rfl rfl rfl (LM.dr 30 rfl rfl rfl (LM.dr 30 rfl rfl rfl (LM.dr 30 rfl rfl rfl (LM.dr 30 rfl rfl rfl (LM.dr 30 rfl rfl rfl ?_)))))
 refine LM.dr 30 rfl rfl rfl (LM.dr 30 rfl rfl rfl (LM.dr 30 rfl rfl rfl (LM.dr 30 rfl rfl rfl ?_)))
 refine LM.val (ov_pickF rfl rfl) ?_
 refine LM.nil (QM.sub (e' := [(0, _), (6, _), (41, _)]) au9 (QM.then ?_))
 refine wpM.condF rfl ?_
 refine wpM.exit ?_
 refine QM.then_exit ?_
 refine QM.then_exit ?_
 refine QM.block_hit ?_
 refine QM.then (wpM.seq (wpM.region ?_))
 refine LM.mv rfl (LM.as rfl ?_)
 refine LM.nil (QM.sub (e' := [(4, _)]) ⟨rfl, trivial⟩ (QM.then ?_))
 refine wpM.ret ?_
 refine QM.leave (.inl rfl) [.tmp 4] Try.results93 rfl ?_
 intro w' hm' hc' hg'
 rw [if_neg (fun q => q.1 (Int.natCast_inj.1 (Classical.not_not.1 h2)))] at hgr; cases hgr; exact ⟨rfl, hc'⟩
def RtN (n0 b most root first free cnt : Nat) (N : List Nd) (u0 : Value) (u : Value) (m' : Mem0) : Prop := u = u0 ∧ ∃ bn n cap ms, m' = rtB b most bn n cap root first free cnt :: ms ∧ n = N.length ∧ NdS n0 bn n cap N ms
theorem rt_leafN {n0 b most bn n cap root first free cnt bn' n' cap' root' first' free' cnt' : Nat} {N N' : List Nd} {ms ms' M : Mem0} {w w' : World} {u0 : Value} (h : NdS n0 bn n cap N ms) (hn' : n' = N'.length) (h' : NdS n0 bn' n' cap' N' ms') (hm : Mem w' M) (hs : SubM M (rtB b most bn' n' cap' root' first' free' cnt' :: (ms' ++ []))) (hc : Chg (fun x => x = b ∨ x = bn) w w')
    (hin : ∀ p ∈ ms', w.heap.size ≤ p.1 ∨ ∃ q ∈ ms, q.1 = p.1) :
    Upd (rtB b most bn n cap root first free cnt :: ms) (RtN n0 b most root' first' free' cnt' N' u0) w u0 w' := by
  rw [List.append_nil] at hs
  obtain ⟨o, rfl⟩ := h.has_bn
  refine ⟨hc.mono (fun x _ hx => ?_), _, ⟨rfl, bn', n', cap', ms', rfl, hn', h'⟩, hs.mem w' hm, fun p hp => ?_⟩
  · rcases hx with rfl | rfl
    · exact ⟨_, List.mem_cons_self .., rfl⟩
    · exact ⟨_, List.mem_cons_of_mem _ (List.mem_cons_self ..), rfl⟩
  · rcases List.mem_cons.1 hp with rfl | hp
    · exact .inr ⟨_, List.mem_cons_self .., rfl⟩
    · rcases hin p hp with q | ⟨q, hq, e⟩
      · exact .inl q
      · exact .inr ⟨q, List.mem_cons_of_mem _ hq, e⟩
theorem takN_zero {N : List Nd} {free : Nat} {x : Nd} (h : free = 0) : takN N free x = (N ++ [x], N.length, 0) := if_pos h
theorem takN_some {N : List Nd} {free : Nat} {x : Nd} (h : ¬ free = 0) : takN N free x = (N.set free x, free, (gN N free).l) := if_neg h
set_option maxRecDepth 100000 in
theorem take_spec {n0 b most bn n cap root first free cnt : Nat} {N : List Nd} {ms : Mem0} (x : Nd) (w : World) (hn : n = N.length) (hs : NdS n0 bn n cap N ms) (hpos : 0 < N.length) (hfr : free < N.length) (hlen : N.length ≤ 1000000) (hcn : cnt ≤ 1000000) (hn0 : n0 ≤ w.heap.size) (hM : Mem w (rtB b most bn n cap root first free cnt :: ms)) : Ret Try.prog 90 #[.pointer (some ⟨b, 0, none⟩), .agg #[U x.e.V, .int .i64 x.e.id, .int .i64 x.e.x, .int .i64 (x.l : Nat), .int .i64 (x.r : Nat), .int .i64 (x.up : Nat), .bool x.red]] w (Upd (rtB b most bn n cap root first free cnt :: ms) (RtN n0 b most root first (takN N free x).2.2 (cnt + 1) (takN N free x).1 (.int .i64 ((takN N free x).2.1 : Nat))) w) := by
 refine Ret.enterM (l := [.pointer (some ⟨b, 0, none⟩), .agg #[U x.e.V, .int .i64 x.e.id, .int .i64 x.e.x, .int .i64 (x.l : Nat), .int .i64 (x.r : Nat), .int .i64 (x.up : Nat), .bool x.red]]) Try.func90 rfl Try.ntmps90 rfl (rtB b most bn n cap root first free cnt :: ms) ((fun x => x = b ∨ x = bn)) hM ?_
 refine wpM.seq (wpM.region ?_)
 refine LM.box rfl rfl (fun b3 hb3 => ?_)
 refine LM.as rfl ?_
 refine LM.nil (QM.sub (e' := [(0, _), (3, _)]) au9 (QM.then (wpM.seq (wpM.region ?_))))
 refine LM.mv rfl ?_
 refine LM.val (ov_nilCheck rfl) ?_
 refine LM.val (ov_field Try.underlying131 rfl Try.sizeOf3 rfl (k := 5) rfl rfl) ?_
 refine LM.rd (om_ld Try.isAgg3 rfl rfl) ?_
 refine LM.val (ov_add64 rfl rfl (by omega)) ?_
 refine LM.val (ov_nilCheck rfl) ?_
 refine LM.val (ov_field Try.underlying131 rfl Try.sizeOf3 rfl (k := 5) rfl rfl) ?_
 refine LM.st Try.sizeOf3 rfl rfl rfl au5 rfl (fun hlt => by first | exact .inl rfl | exact absurd hlt (by omega)) ?_
 refine LM.nil (QM.sub (e' := [(0, _), (3, _)]) au9 (QM.then ?_))
 refine wpM.seq ?_
 refine wpM.seq (wpM.region ?_)
 refine LM.mv rfl ?_
 refine LM.val (ov_nilCheck rfl) ?_
 refine LM.val (ov_field Try.underlying131 rfl Try.sizeOf3 rfl (k := 4) rfl rfl) ?_
 refine LM.rd (om_ld Try.isAgg3 rfl rfl) ?_
 refine LM.val (ov_eql rfl rfl) ?_
 refine LM.nil (QM.sub (e' := [(0, _), (3, _), (17, _)]) au9 (QM.then ?_))
 refine wpM.condD rfl (fun h1 => ?_) (fun h1 => ?_)
 ·
  refine wpM.seq ?_
  refine wpM.keep (rtB b most bn n cap root first free (cnt + 1) :: (b3, .cells (fNd x).toArray 136 (0, 0)) :: []) (fun _ => True) (.one 0 0 (.one 1 0 (.one 2 0 (.one 3 0 (.one 4 1 (.one 5 1 (.one 6 2 (.one 7 2 (.one 8 0 (.one 9 0 (.last 10))))))))))) (by kernel_rfl) (by kernel_rfl) au1 (fun _ _ => trivial) ?_
  refine KD.val rfl rfl (ov_move rfl) ?_
  refine KD.val rfl rfl (ov_move rfl) ?_
  refine KD.val rfl rfl (ov_nilCheck rfl) ?_
  refine KD.val rfl rfl (ov_field Try.underlying131 rfl Try.sizeOf129 rfl (k := 1) rfl rfl) ?_
  refine KD.rd rfl rfl (om_ld Try.isAgg129 rfl rfl) ?_
  refine KD.rd rfl rfl (om_ldW Try.isAgg136 Try.sizeOf136 rfl rfl) ?_
  refine KD.one rfl ?_
  refine LM.single Try.underlying129 Try.sizeOf136 Try.zeroValue136 rfl rfl rfl rfl rfl (fun b24 hb24 => ?_)
  refine LM.nil ?_
  refine QM.one au1 (fun _ _ => trivial) ?_
  refine KD.one rfl ?_
  refine LM.app Try.underlying129 Try.typeInfo136 rfl rfl rfl rfl rfl rfl rfl (by assumption) (by rfl) (by intro _; rfl) (by intro _ u hu; simp [fNd] at hu; (repeat (first | (rcases hu with rfl | hu) | subst hu | rfl))) (by first | exact Nat.le_refl _ | omega) (fun p hp _ => .inr (Sl.at_bn (by assumption) p hp)) (by first | omega | (unfold maxLen; omega)) (by simp only [Try.t136]; omega) (fun ad25 n25 cap25 m25 hn25 hs25 hin25 => ?_)
  refine LM.nil ?_
  refine QM.one au1 (fun _ _ => trivial) ?_
  refine KD.val rfl rfl (ov_nilCheck rfl) ?_
  refine KD.val rfl rfl (ov_field Try.underlying131 rfl Try.sizeOf129 rfl (k := 1) rfl rfl) ?_
  refine KD.last rfl ?_
  refine LM.st Try.sizeOf129 rfl rfl rfl au5 rfl (fun hlt => by first | exact .inl rfl | exact absurd hlt (by omega)) ?_
  refine LM.nil ?_
  refine QM.qn ?_
  refine QM.sub (e' := [(0, _)]) ⟨rfl, trivial⟩ (QM.then (wpM.seq (wpM.region ?_)))
  obtain ⟨bn2, rfl⟩ := hs25.bn (by simp)
  refine LM.mv rfl ?_
  refine LM.val (ov_nilCheck rfl) ?_
  refine LM.val (ov_field Try.underlying131 rfl Try.sizeOf129 rfl (k := 1) rfl rfl) ?_
  refine LM.rd (om_ld Try.isAgg129 rfl rfl) ?_
  refine LM.val (ov_len Try.underlying129 rfl) ?_
  refine LM.val (ov_sub64 rfl rfl (by omega)) ?_
  refine LM.as rfl ?_
  refine LM.nil (QM.sub (e' := [(4, _)]) ⟨rfl, trivial⟩ (QM.then ?_))
  refine wpM.ret ?_
  refine QM.then_ret ?_
  refine QM.leave (.inl rfl) [.tmp 4] Try.results90 rfl ?_
  intro w' hm' hc' hg'
  have h0 : free = 0 := Int.natCast_inj.1 h1; rw [takN_zero h0]; subst h0; have hv : (n25 : Int) - 1 = (N.length : Nat) := (by omega); show Upd _ _ _ (Value.int .i64 ((n25 : Int) - 1)) _; rw [hv]; exact rt_leafN hs (by rw [List.length_append]; exact hn25) hs25 hm' au1 hc' hin25
 refine wpM.skip ?_
 refine QM.then (wpM.seq (wpM.region ?_))
 refine LM.mv rfl ?_
 refine LM.val (ov_nilCheck rfl) ?_
 refine LM.val (ov_field Try.underlying131 rfl Try.sizeOf3 rfl (k := 4) rfl rfl) ?_
 refine LM.rd (om_ld Try.isAgg3 rfl rfl) ?_
 refine LM.as rfl ?_
 refine LM.nil (QM.sub (e' := [(0, _), (3, _), (5, _)]) au9 (QM.then (wpM.seq (wpM.region ?_))))
 refine LM.mv rfl (LM.mv rfl ?_)
 refine LM.val (ov_nilCheck rfl) ?_
 refine LM.val (ov_field Try.underlying131 rfl Try.sizeOf129 rfl (k := 1) rfl rfl) ?_
 refine LM.rd (om_ld Try.isAgg129 rfl rfl) ?_
 refine LM.mv rfl ?_
 refine LM.val (ov_idxSN au6 Try.underlying129 Try.sizeOf136 rfl rfl (by omega)) ?_
 refine LM.val (ov_field Try.underlying136 rfl Try.sizeOf3 rfl (k := 3) rfl rfl) ?_
 refine LM.rd (om_slE (j := 3) (by assumption) (by intro _; rfl) Try.isAgg3 rfl rfl (by exact getq default (by first | omega | (simp only [nL_len, nR_len, nU_len, nC_len, List.length_set, List.length_append, List.length_cons, List.length_nil]; omega))) rfl (by rfl)) ?_
 refine LM.val (ov_nilCheck rfl) ?_
 refine LM.val (ov_field Try.underlying131 rfl Try.sizeOf3 rfl (k := 4) rfl rfl) ?_
 refine LM.st Try.sizeOf3 rfl rfl rfl au5 rfl (fun hlt => by first | exact .inl rfl | exact absurd hlt (by omega)) ?_
 refine LM.nil (QM.sub (e' := [(0, _), (3, _), (5, _)]) au9 (QM.then ?_))
 refine wpM.seq ?_
 refine wpM.draw [(0, 0), (1, 0), (2, 0), (3, 1), (4, 0), (5, 1), (6, 0), (7, 3)] (by kernel_rfl) (by kernel_rfl) ?_
 refine LD.val rfl rfl (ov_move rfl) ?_
 refine LD.val rfl rfl (ov_nilCheck rfl) ?_
 refine LD.val rfl rfl (ov_field Try.underlying131 rfl Try.sizeOf129 rfl (k := 1) rfl rfl) ?_
 refine LD.rd rfl rfl (om_ld Try.isAgg129 rfl rfl) ?_
 refine LD.val rfl rfl (ov_move rfl) ?_
 refine LD.rd rfl rfl (om_ldW Try.isAgg136 Try.sizeOf136 rfl rfl) ?_
 refine LD.val rfl rfl (ov_idxSN au6 Try.underlying129 Try.sizeOf136 rfl rfl (by omega)) ?_
 refine LD.tail rfl rfl ?_
 refine LM.stS (x) (j := 0) (by assumption) (by intro _; rfl) Try.sizeOf136 rfl rfl rfl (by exact getq default (by first | omega | (simp only [nL_len, nR_len, nU_len, nC_len, List.length_set, List.length_append, List.length_cons, List.length_nil]; omega))) rfl (by decide) (by rfl) rfl (fun p hp _ => .inr (Sl.at_bn (by assumption) p hp)) (fun ms3 hss3 hmm3 => ?_)
 refine LM.nil ?_
 refine QM.qn ?_
 refine QM.sub (e' := [(5, _)]) ⟨rfl, trivial⟩ (QM.then (wpM.seq (wpM.region ?_)))
 refine LM.mv rfl (LM.as rfl ?_)
 refine LM.nil (QM.sub (e' := [(4, _)]) ⟨rfl, trivial⟩ (QM.then ?_))
 refine wpM.ret ?_
 refine QM.leave (.inl rfl) [.tmp 4] Try.results90 rfl ?_
 intro w' hm' hc' hg'
 have h0 : ¬ free = 0 := (fun q => h1 (Int.natCast_inj.2 q)); rw [takN_some h0]; exact rt_leafN (bn' := bn) (n' := n) (cap' := cap) (N' := N.set free x) hs (by rw [List.length_set]; exact hn) (by assumption) hm' au1 hc' (fun p hp => .inr (by obtain ⟨q, hq, e⟩ := (by assumption : ∀ p ∈ _, ∃ q ∈ ms, q.1 = p.1) p hp; exact ⟨q, hq, e⟩))
set_option maxRecDepth 100000 in
theorem give_spec {n0 b most bn n cap root first free cnt : Nat} {N : List Nd} {ms : Mem0} (i : Nat) (w : World) (hn : n = N.length) (hs : NdS n0 bn n cap N ms) (hi : i < N.length) (hc0 : 0 < cnt) (hcn : cnt ≤ 1000000) (hM : Mem w (rtB b most bn n cap root first free cnt :: ms)) : Ret Try.prog 95 #[.pointer (some ⟨b, 0, none⟩), .int .i64 (i : Nat)] w (Upd (rtB b most bn n cap root first free cnt :: ms) (RtT n0 b most bn n cap root first i (cnt - 1) (N.set i { (default : Nd) with l := free })) w) := by
 refine Ret.enterM (l := [.pointer (some ⟨b, 0, none⟩), .int .i64 (i : Nat)]) Try.func95 rfl Try.ntmps95 rfl (rtB b most bn n cap root first free cnt :: ms) ((fun x => x = b ∨ x = bn)) hM ?_
 refine wpM.seq ?_
 refine wpM.draw [(0, 0), (1, 0), (2, 0), (3, 1), (4, 0), (5, 0), (6, 0), (7, 0), (8, 1), (9, 0), (10, 0), (11, 3)] (by kernel_rfl) (by kernel_rfl) ?_
 refine LD.val rfl rfl (ov_move rfl) ?_
 refine LD.val rfl rfl (ov_nilCheck rfl) ?_
 refine LD.val rfl rfl (ov_field Try.underlying131 rfl Try.sizeOf129 rfl (k := 1) rfl rfl) ?_
 refine LD.rd rfl rfl (om_ld Try.isAgg129 rfl rfl) ?_
 refine LD.val rfl rfl (ov_move rfl) ?_
 refine LD.val rfl rfl (ov_move rfl) ?_
 refine LD.val rfl rfl (ov_nilCheck rfl) ?_
 refine LD.val rfl rfl (ov_field Try.underlying131 rfl Try.sizeOf3 rfl (k := 4) rfl rfl) ?_
 refine LD.rd rfl rfl (om_ld Try.isAgg3 rfl rfl) ?_
 refine LD.val rfl rfl (ov_build (cs := #[U 0#64, .int .i64 0, .int .i64 0, .int .i64 (free : Nat), .int .i64 0, .int .i64 0, .bool false]) rfl (by first | rfl | kernel_rfl)) ?_
 refine LD.val rfl rfl (ov_idxSN au6 Try.underlying129 Try.sizeOf136 rfl rfl (by omega)) ?_
 refine LD.tail rfl rfl ?_
 refine LM.stS ({ (default : Nd) with l := free }) (j := 0) (by assumption) (by intro _; rfl) Try.sizeOf136 rfl rfl rfl (by exact getq default (by first | omega | (simp only [nL_len, nR_len, nU_len, nC_len, List.length_set, List.length_append, List.length_cons, List.length_nil]; omega))) rfl (by decide) (by rfl) rfl (fun p hp _ => .inr (Sl.at_bn (by assumption) p hp)) (fun ms1 hss1 hmm1 => ?_)
 refine LM.nil ?_
 refine QM.qn ?_
 refine QM.sub (e' := [(0, _), (1, _)]) au9 (QM.then (wpM.seq (wpM.region ?_)))
 refine LM.mv rfl (LM.mv rfl ?_)
 refine LM.val (ov_nilCheck rfl) ?_
 refine LM.val (ov_field Try.underlying131 rfl Try.sizeOf3 rfl (k := 4) rfl rfl) ?_
 refine LM.st Try.sizeOf3 rfl rfl rfl au5 rfl (fun hlt => by first | exact .inl rfl | exact absurd hlt (by omega)) ?_
 refine LM.nil (QM.sub (e' := [(0, _)]) ⟨rfl, trivial⟩ (QM.then (wpM.region ?_)))
 refine LM.mv rfl ?_
 refine LM.val (ov_nilCheck rfl) ?_
 refine LM.val (ov_field Try.underlying131 rfl Try.sizeOf3 rfl (k := 5) rfl rfl) ?_
 refine LM.rd (om_ld Try.isAgg3 rfl rfl) ?_
 refine LM.val (ov_sub64 rfl rfl (by omega)) ?_
 refine LM.val (ov_nilCheck rfl) ?_
 refine LM.val (ov_field Try.underlying131 rfl Try.sizeOf3 rfl (k := 5) rfl rfl) ?_
 refine LM.st Try.sizeOf3 rfl rfl rfl au5 rfl (fun hlt => by first | exact .inl rfl | exact absurd hlt (by omega)) ?_
 refine LM.nil (QM.sub (e' := []) trivial ?_)
 refine QM.leave (.inr rfl) [] Try.results95 rfl ?_
 intro w' hm' hc' hg'
 have hv : (cnt : Int) - 1 = ((cnt - 1 : Nat) : Int) := (by omega); exact rt_leaf hs (by assumption) hm' (by (repeat' (first | exact SubM.nil _ | refine SubM.cons (by first | rfl | (rw [← hv]; rfl)) ?_ | refine SubM.app ?_))) hc'
set_option maxRecDepth 100000 in
theorem cut_spec {n0 b most bn n cap root first free cnt : Nat} {N : List Nd} {ms : Mem0} {S' : Ns} (f i : Nat) (w : World) (hF : cutF f (N, root) i = some S') (hn : n = N.length) (hs : NdS n0 bn n cap N ms) (hw : WfS (N, root) N.length) (hi : i < N.length) (hM : Mem w (rtB b most bn n cap root first free cnt :: ms)) : Ret Try.prog 94 #[.pointer (some ⟨b, 0, none⟩), .int .i64 (i : Nat)] w (Upd (rtB b most bn n cap root first free cnt :: ms) (RtT n0 b most bn n cap S'.2 first free cnt S'.1) w) := by
 have hl0 : (N.getD i default).l < N.length := l_wf hw i; have hr0 : (N.getD i default).r < N.length := r_wf hw i; have hu0 : (N.getD i default).up < N.length := up_wf hw i; unfold cutF at hF; rw [Option.map_eq_some_iff] at hF; obtain ⟨S2, hF, rfl⟩ := hF
 refine Ret.enterM (l := [.pointer (some ⟨b, 0, none⟩), .int .i64 (i : Nat)]) Try.func94 rfl Try.ntmps94 rfl (rtB b most bn n cap root first free cnt :: ms) ((fun x => x = b ∨ x = bn)) hM ?_
 refine wpM.seq (wpM.region ?_)
 refine LM.mv rfl ?_
 refine LM.val (ov_nilCheck rfl) ?_
 refine LM.val (ov_field Try.underlying131 rfl Try.sizeOf129 rfl (k := 1) rfl rfl) ?_
 refine LM.rd (om_ld Try.isAgg129 rfl rfl) ?_
 refine LM.mv rfl ?_
 refine LM.val (ov_idxSN au6 Try.underlying129 Try.sizeOf136 rfl rfl (by omega)) ?_
 refine LM.rd (om_slA (by assumption) (by intro _; rfl) Try.isAgg136 Try.sizeOf136 rfl (by exact getq default (by first | omega | (simp only [nL_len, nR_len, nU_len, nC_len, List.length_set, List.length_append, List.length_cons, List.length_nil]; omega)))) ?_
 refine LM.alloc Try.zeroValue136 rfl (fun b4 hb4 => ?_)
 refine LM.stW Try.sizeOf136 rfl rfl rfl rfl au7 (fun hlt => by first | exact .inl rfl | exact absurd hlt (by omega)) ?_
 refine LM.nil (QM.sub (e' := [(0, _), (1, _), (4, _)]) au9 (QM.then (wpM.seq (wpM.region ?_))))
 refine LM.val (ov_field Try.underlying136 rfl Try.sizeOf3 rfl (k := 3) rfl rfl) ?_
 refine LM.rd (om_ld Try.isAgg3 rfl rfl) ?_
 refine LM.as rfl ?_
 refine LM.nil (QM.sub (e' := [(0, _), (1, _), (4, _), (5, _)]) au9 (QM.then ?_))
 refine wpM.seq ?_
 refine wpM.seq (wpM.region ?_)
 refine LM.mv rfl ?_
 refine LM.val (ov_eql rfl rfl) ?_
 refine LM.nil (QM.sub (e' := [(0, _), (1, _), (4, _), (5, _), (16, _)]) au9 (QM.then ?_))
 refine wpM.joinK (α := Nat) (fun ch => [(5, .int .i64 (ch : Nat))]) [(0, _), (1, _), (4, _)] (fun ch => (b4, .cells (fNd (N.getD i default)).toArray 136 (0, 0)) :: rtB b most bn n cap root first free cnt :: (ms ++ [])) (fun ch => ch = (if (gN N i).l = 0 then (gN N i).r else (gN N i).l)) ⟨rfl, rfl, rfl, trivial⟩ ?_ ?_
 ·
  refine wpM.condD rfl (fun h1 => ?_) (fun h1 => ?_)
  ·
   refine wpM.region ?_
   refine LM.val (ov_field Try.underlying136 rfl Try.sizeOf3 rfl (k := 4) rfl rfl) ?_
   refine LM.rd (om_ld Try.isAgg3 rfl rfl) ?_
   refine LM.as rfl ?_
   refine LM.nil (QM.sub (e' := [(0, _), (1, _), (4, _), (5, _)]) au9 ?_)
   refine QM.meetK ((N.getD i default).r) ⟨au2, rfl, rfl, rfl, trivial⟩ au1 ?_
   · exact (if_pos (Int.natCast_inj.1 h1)).symm
  refine wpM.skip ?_
  refine QM.meetK ((N.getD i default).l) ⟨au2, rfl, rfl, rfl, trivial⟩ au1 ?_
  · exact (if_neg (fun q => h1 (Int.natCast_inj.2 q))).symm
 rintro ch hch
 change QM _ _ _ _ _ ((b4, .cells (fNd (N.getD i default)).toArray 136 (0, 0)) :: rtB b most bn n cap root first free cnt :: (ms ++ [])) _ _ _
 have hch2 : ch < N.length := (by rw [hch]; split; exact hr0; exact hl0); rw [← hch] at hF
 refine QM.then (wpM.seq (wpM.region ?_))
 refine LM.mv rfl (LM.val (ov_field Try.underlying136 rfl Try.sizeOf3 rfl (k := 5) rfl rfl) ?_)
 refine LM.rd (om_ld Try.isAgg3 rfl rfl) ?_
 refine LM.mv rfl (LM.mv rfl ?_)
 refine LM.cU (oc_call (enters_fn Try.func115 (by kernel_rfl) rfl) rfl) (fun w hm hc hg => swap_spec (N := N) (N.getD i default).up i ch w hn hs hu0 hch2 (hm.pick (rtB b most bn n cap root first free cnt :: ms))) (rt_wlk hs) (rt_hS hs) ?_
 rintro u24 m24 ⟨rfl, m3, rfl, hs3⟩ -; have hw3 := swp_wf hw hu0 (was := i) hch2; have hl3 := hw3.len; generalize hS3 : swpF (N, root) (N.getD i default).up i ch = S3 at hs3 hw3 hl3 ⊢; have hF3 := hF; rw [show swpF (N, root) (gN (N, root).1 i).up i ch = S3 from hS3] at hF
 refine LM.nil (QM.sub (e' := [(0, _), (4, _), (5, _)]) au9 (QM.then ?_))
 refine wpM.seq ?_
 refine wpM.seq (wpM.region ?_)
 refine LM.val (ov_field Try.underlying136 rfl Try.sizeOf4 rfl (k := 6) rfl rfl) ?_
 refine LM.rd (om_ld Try.isAgg4 rfl rfl) ?_
 first | refine LM.val (ov_notD rfl) ?_ | refine LM.val (ov_not rfl) ?_
 refine LM.nil (QM.sub (e' := [(0, _), (5, _), (27, _)]) au9 (QM.then ?_))
 first | refine wpM.condD rfl (fun h2 => ?_) (fun h2 => ?_) | refine wpM.condB rfl (fun h2 => ?_) (fun h2 => ?_)
 ·
  rw [if_neg (by show ¬ (N.getD i default).red = true; rw [bnot h2]; simp)] at hF
  refine wpM.region ?_
  refine LM.mv rfl (LM.mv rfl ?_)
  refine LM.cU (oc_call (enters_fn Try.func116 (by kernel_rfl) rfl) rfl) (fun w hm hc hg => shrunk_spec (N := S3.1) (root := S3.2) f ch w hF (hn.trans hl3.symm) hs3 (by rw [hl3]; exact hw3) (by rw [hl3]; exact hch2) (hm.pick (rtB b most bn n cap S3.2 first free cnt :: m3))) (rt_wlk hs3) (rt_hS hs3) ?_
  rintro u30 m30 ⟨rfl, m4, rfl, hs4⟩ -; have hw4 := shr_wf f _ _ _ hF hw3; have hl4 := hw4.len
  refine LM.nil (QM.sub (e' := [(0, _)]) ⟨rfl, trivial⟩ (QM.then (wpM.region ?_)))
  refine LM.mv rfl ?_
  refine LM.val (ov_nilCheck rfl) ?_
  refine LM.val (ov_field Try.underlying131 rfl Try.sizeOf129 rfl (k := 1) rfl rfl) ?_
  refine LM.rd (om_ld Try.isAgg129 rfl rfl) ?_
  refine LM.val (ov_build (cs := #[U 0#64, .int .i64 0, .int .i64 0, .int .i64 0, .int .i64 0, .int .i64 0, .bool false]) rfl (by first | rfl | kernel_rfl)) ?_
  refine LM.val (ov_idxSN (i := 0) au6 Try.underlying129 Try.sizeOf136 rfl rfl (by omega)) ?_
  refine LM.stS ((default : Nd)) (j := 0) (i := 0) (by assumption) (by intro _; rfl) Try.sizeOf136 rfl rfl rfl (by exact getq default (by first | omega | (simp only [nL_len, nR_len, nU_len, nC_len, List.length_set, List.length_append, List.length_cons, List.length_nil]; omega))) rfl (by decide) (by rfl) rfl (fun p hp _ => .inr (Sl.at_bn (by assumption) p hp)) (fun ms2 hss2 hmm2 => ?_)
  refine LM.nil (QM.sub (e' := []) trivial ?_)
  refine QM.leave (.inr rfl) [] Try.results94 rfl ?_
  intro w' hm' hc' hg'
  exact rt_leaf hs (by assumption) hm' au1 hc'
 rw [if_pos (by show (N.getD i default).red = true; exact bnotF h2)] at hF; cases hF
 refine wpM.skip ?_
 refine QM.then (wpM.region ?_)
 refine LM.mv rfl ?_
 refine LM.val (ov_nilCheck rfl) ?_
 refine LM.val (ov_field Try.underlying131 rfl Try.sizeOf129 rfl (k := 1) rfl rfl) ?_
 refine LM.rd (om_ld Try.isAgg129 rfl rfl) ?_
 refine LM.val (ov_build (cs := #[U 0#64, .int .i64 0, .int .i64 0, .int .i64 0, .int .i64 0, .int .i64 0, .bool false]) rfl (by first | rfl | kernel_rfl)) ?_
 refine LM.val (ov_idxSN (i := 0) au6 Try.underlying129 Try.sizeOf136 rfl rfl (by omega)) ?_
 refine LM.stS ((default : Nd)) (j := 0) (i := 0) (by assumption) (by intro _; rfl) Try.sizeOf136 rfl rfl rfl (by exact getq default (by first | omega | (simp only [nL_len, nR_len, nU_len, nC_len, List.length_set, List.length_append, List.length_cons, List.length_nil]; omega))) rfl (by decide) (by rfl) rfl (fun p hp _ => .inr (Sl.at_bn (by assumption) p hp)) (fun ms2 hss2 hmm2 => ?_)
 refine LM.nil (QM.sub (e' := []) trivial ?_)
 refine QM.leave (.inr rfl) [] Try.results94 rfl ?_
 intro w' hm' hc' hg'
 exact rt_leaf hs (by assumption) hm' au1 hc'
end Go.Eng
namespace Go.Eng
open Go Go.RowKit
theorem frl_lt {N : List Nd} {i : Nat} {fl : List Nat} (h : FrL N i fl) (hp : 0 < N.length) : i < N.length := by
  cases fl with
  | nil => rw [show i = 0 from h]; exact hp
  | cons j fl => obtain ⟨h1, _, h2, _⟩ := h; omega
theorem hd_lt {t : Tr} {S : Ns} (h : Ly t.ixs S t) (hp : 0 < S.1.length) : hdI t.ord < S.1.length := by
  by_cases e : t.ord = []
  · rw [e]; exact hp
  · obtain ⟨h1, k, h2, h3⟩ := hd_first (k := default) h e
    have hm : hdI t.ord ∈ t.ord.map (·.1) := List.mem_map.2 ⟨_, List.mem_of_mem_head? h2, rfl⟩
    exact h.lt ((ord_ixs t _).1 hm)
theorem srt_map {t : Tr} {L : List Kv} (ho : t.ord.map (·.2) = L) (h : Srt L) : Srt (t.ord.map (·.2)) := by rw [ho]; exact h
theorem fnd_use {s : RbS} {L : List Kv} (h : RbI s L) {t : Tr} (hL : Ly t.ixs (s.N, s.root) t) (ho : t.ord.map (·.2) = L) (hsz : t.size < s.N.length + 3) (k : Kv) : ∃ r, fndF s.N k (s.N.length + 3) s.root 0 = some r ∧ Found t k r := by
  have := fnd_ly (S := (s.N, s.root)) (k := k) t .top (s.N.length + 3) hL (srt_map ho h.srt) (fun p hp => by cases hp) (fun p hp => by cases hp) hsz
  rw [← hL.root] at this
  exact this
theorem ins_use {s : RbS} {L : List Kv} {k : Kv} (h : RbI s L) (hno : ∀ x ∈ L, ¬ yEq x k) (hlt : s.n < s.most) : ∃ u, u < s.N.length ∧ fndF s.N k (s.N.length + 3) s.root 0 = some (0, u) ∧ 0 < s.N.length ∧ s.free < s.N.length ∧ s.first < s.N.length ∧
    (takN s.N s.free ⟨k, 0, 0, u, true⟩).2.1 < (takN s.N s.free ⟨k, 0, 0, u, true⟩).1.length ∧ s.N.length ≤ (takN s.N s.free ⟨k, 0, 0, u, true⟩).1.length ∧ WfS ((takN s.N s.free ⟨k, 0, 0, u, true⟩).1, s.root) (takN s.N s.free ⟨k, 0, 0, u, true⟩).1.length ∧
    ∃ S', grwF (s.N.length + 3) (lnkF ((takN s.N s.free ⟨k, 0, 0, u, true⟩).1, s.root) u (takN s.N s.free ⟨k, 0, 0, u, true⟩).2.1 k) (takN s.N s.free ⟨k, 0, 0, u, true⟩).2.1 = some S' ∧
      RbI ⟨s.most, S'.1, S'.2, frsF (lnkF ((takN s.N s.free ⟨k, 0, 0, u, true⟩).1, s.root) u (takN s.N s.free ⟨k, 0, 0, u, true⟩).2.1 k).1 s.first (takN s.N s.free ⟨k, 0, 0, u, true⟩).2.1 k, (takN s.N s.free ⟨k, 0, 0, u, true⟩).2.2, s.n + 1⟩ (insK L k) := by
  obtain ⟨t, fl, hL, ho, hok, hb, hf, hF, hfn, hfa, hlen⟩ := h.ex
  have hpos : 0 < s.N.length := by omega
  obtain ⟨r, hr, hfd⟩ := fnd_use h hL ho (by omega) k
  cases hfd with
  | hit c i e col l r' hT hke hres =>
    refine absurd hke.symm (hno e ?_)
    rw [← ho, hT, (plug_ord c _)]
    simp [Tr.ord]
  | miss c hT h1 h2 hres =>
    subst hres
    have hc0 : c.ix < s.N.length := by
      by_cases e : c.ix = 0
      · rw [e]; exact hpos
      · exact hL.lt (by rw [hT, (plug_ixs c .lf).mem_iff]; exact List.mem_append_left _ (Cx.ix_mem e))
    obtain ⟨fl', hk⟩ := tak_spec h hlt hL ho hF hfn hfa hlen ⟨k, 0, 0, c.ix, true⟩ ⟨hpos, hpos, hc0⟩
    obtain ⟨S', hg, hI⟩ := ins_ly h hlt hT h1 h2 hL ho hok hb hf hF hfn hfa hlen (f := s.N.length + 3) (by omega) (x := ⟨k, 0, 0, c.ix, true⟩) rfl
    exact ⟨c.ix, hc0, hr, hpos, frl_lt hF hpos, by rw [hf]; exact hd_lt hL hpos, hk.lt, hk.ge, hk.wf, S', hg, hI⟩
theorem del_use {s : RbS} {L : List Kv} {k e : Kv} (h : RbI s L) (he : e ∈ L) (hk : yEq k e) : ∃ i u, fndF s.N k (s.N.length + 3) s.root 0 = some (i, u) ∧ i ≠ 0 ∧ i < s.N.length ∧ (gN s.N i).e.x = e.x ∧ 0 < s.n ∧ s.first < s.N.length ∧
    ∃ nx, nxtF s.N (s.N.length + 3) i = some nx ∧ nx < s.N.length ∧
      ∃ S', cutF (s.N.length + 3) (vicF (s.N, s.root) i nx).1 (vicF (s.N, s.root) i nx).2 = some S' ∧ (vicF (s.N, s.root) i nx).2 < s.N.length ∧ S'.1.length = s.N.length ∧
      RbI ⟨s.most, S'.1.set (vicF (s.N, s.root) i nx).2 { (default : Nd) with l := s.free }, S'.2, fstF s.N s.first i nx, (vicF (s.N, s.root) i nx).2, s.n - 1⟩ (delK L k) := by
  obtain ⟨t, fl, hL, ho, hok, hb, hf, hF, hfn, hfa, hlen⟩ := h.ex
  have hpos : 0 < s.N.length := by omega
  obtain ⟨r, hr, hfd⟩ := fnd_use h hL ho (by omega) k
  cases hfd with
  | hit c i e2 col l r' hT hke hres =>
    subst hres
    obtain ⟨nx, h1, h2, h3, S', h4, h5, h6⟩ := del_ly h hT hke hL ho hok hb hf hF hfn hfa hlen (f := s.N.length + 3) (by omega)
    have hmi : i ∈ t.ixs := by rw [hT, (plug_ixs c _).mem_iff]; exact List.mem_append_right _ (List.mem_cons_self ..)
    have hilt := hL.lt hmi
    have hmo : (i, e2) ∈ t.ord := by rw [hT, plug_ord]; simp [Tr.ord]
    have hke2 := hL.key hmo
    have he2 : e2 ∈ L := by rw [← ho]; exact List.mem_map.2 ⟨_, hmo, rfl⟩
    have hee : e2 = e := by
      have hs := h.srt
      by_cases q : e2 = e
      · exact q
      · obtain ⟨a, ha, hae⟩ := List.getElem_of_mem he2
        obtain ⟨b, hb', hbe⟩ := List.getElem_of_mem he
        have hne : a ≠ b := fun z => q (by subst z; rw [← hae, ← hbe])
        have hyy : yEq e2 e := ⟨hke.1.symm.trans hk.1, hke.2.symm.trans hk.2⟩
        have hp := List.pairwise_iff_getElem.1 hs
        rcases Nat.lt_or_gt_of_ne hne with z | z
        · have := hp a b ha hb' z
          rw [hae, hbe] at this; exact absurd hyy this.ne
        · have := hp b a hb' ha z
          rw [hae, hbe] at this; exact absurd hyy.symm this.ne
    have hnz : i ≠ 0 := fun q => hL.nz (q ▸ hmi)
    have hw5 := vic_wf (i := i) (s := nx) h.wf hilt h2
    have hlS : S'.1.length = s.N.length := (cut_wf h4 hw5.1 hw5.2).len
    refine ⟨i, c.ix, hr, hnz, hilt, by rw [← hee]; exact congrArg Kv.x hke2, ?_, by rw [hf]; exact hd_lt hL hpos, nx, h1, h2, S', h4, h5, hlS, h6⟩
    rw [h.n]; exact List.length_pos_of_mem he
  | miss c hT h1 h2 hres =>
    exfalso
    have : e ∈ (plug c .lf).ord.map (·.2) := by rw [← hT, ho]; exact he
    obtain ⟨p, hp, rfl⟩ := List.mem_map.1 this
    rw [plug_ord] at hp
    simp only [Tr.ord, List.append_nil, List.mem_append, List.not_mem_nil, or_false] at hp
    rcases hp with hp | hp
    · exact (h1 p hp).ne hk.symm
    · exact (h2 p hp).ne hk
theorem it_use {s : RbS} {L : List Kv} (h : RbI s L) : ∃ ix : Nat → Nat, ix 0 = s.first ∧ ix L.length = 0 ∧ ∀ j, j < L.length → ix j ≠ 0 ∧ ix j < s.N.length ∧ (gN s.N (ix j)).e = L.getD j default ∧ nxtF s.N (s.N.length + 3) (ix j) = some (ix (j + 1)) := by
  obtain ⟨t, fl, hL, ho, hok, hb, hf, hF, hfn, hfa, hlen⟩ := h.ex
  have hol : t.ord.length = L.length := by rw [← ho, List.length_map]
  refine ⟨fun j => hdI (t.ord.drop j), hf.symm, by show hdI (t.ord.drop L.length) = 0; rw [List.drop_eq_nil_of_le (by omega)]; rfl, fun j hj => ?_⟩
  have hj2 : j < t.ord.length := by omega
  have hd : t.ord.drop j = t.ord[j] :: t.ord.drop (j + 1) := List.drop_eq_getElem_cons hj2
  have hi : hdI (t.ord.drop j) = t.ord[j].1 := by rw [hd]; rfl
  have hmo : t.ord[j] ∈ t.ord := List.getElem_mem hj2
  have hmi : t.ord[j].1 ∈ t.ixs := (ord_ixs t _).1 (List.mem_map.2 ⟨_, hmo, rfl⟩)
  obtain ⟨c', col, l, r, hp, h1, h2⟩ := ord_split t .top (t.ord.take j) (t.ord.drop (j + 1)) t.ord[j] (by rw [← hd, List.take_append_drop])
  have hp' : t = plug c' (.nd t.ord[j].1 t.ord[j].2 col l r) := hp
  have hL' := hL
  rw [hp'] at hL'
  have hnx := nxt_ly (f := s.N.length + 3) (S := (s.N, s.root)) (c := c') (i := t.ord[j].1) (e := t.ord[j].2) (col := col) (l := l) (r := r) (I := t.ixs) (by rw [← hp']; exact hL) (by rw [← hp']; omega)
  show hdI (t.ord.drop j) ≠ 0 ∧ hdI (t.ord.drop j) < s.N.length ∧ (gN s.N (hdI (t.ord.drop j))).e = L.getD j default ∧ nxtF s.N (s.N.length + 3) (hdI (t.ord.drop j)) = some (hdI (t.ord.drop (j + 1)))
  rw [hi]
  refine ⟨fun q => hL.nz (q ▸ hmi), hL.lt hmi, ?_, ?_⟩
  · have hk := hL.key hmo
    rw [show (gN s.N t.ord[j].1).e = t.ord[j].2 from hk]
    subst ho
    rw [List.getD_eq_getElem?_getD, List.getElem?_map, List.getElem?_eq_getElem hj2]; rfl
  · rw [hnx, h2]
    show some (hdI (t.ord.drop (j + 1) ++ [])) = _
    rw [List.append_nil]
theorem rb_new (mx : Nat) : RbI ⟨mx, [default], 0, 0, 0, 0⟩ [] where
  ex := ⟨.lf, [], { has := (fun p hp => (by cases hp)), root := rfl, nd := List.nodup_nil, sub := (fun x hx => (by cases hx)), nz := (fun hx => (by cases hx)) }, rfl, ⟨0, rfl⟩, rfl, rfl, rfl, List.nodup_nil, (fun j hj => (by cases hj)), rfl⟩
  srt := List.Pairwise.nil
  zero := rfl
  wf := ⟨fun i => by
    have : gN [default] i = default := by
      cases i with
      | zero => rfl
      | succ i => rfl
    show (gN [default] i).l < 1 ∧ (gN [default] i).r < 1 ∧ (gN [default] i).up < 1
    rw [this]; exact ⟨Nat.one_pos, Nat.one_pos, Nat.one_pos⟩, rfl, Nat.one_pos⟩
  n := rfl
  most := Nat.zero_le _
  len := by show 1 ≤ mx + 1; omega
end Go.Eng
namespace Go.Eng
open Go Go.Proofs Go.RowKit
def RbT (n0 b most : Nat) (L : List Kv) (m : Mem0) : Prop := ∃ (s : RbS) (bn n cap : Nat) (ms : Mem0), m = rtB b s.most bn n cap s.root s.first s.free s.n :: ms ∧ n = s.N.length ∧ NdS n0 bn n cap s.N ms ∧ RbI s L ∧ s.most = most ∧ n0 ≤ b
theorem RbT.ge {n0 b most : Nat} {L : List Kv} {m : Mem0} (h : RbT n0 b most L m) : ∀ p ∈ m, n0 ≤ p.1 := by
  obtain ⟨s, bn, n, cap, ms, rfl, hn, hs, hI, rfl, hb⟩ := h
  intro p hp
  rcases List.mem_cons.1 hp with rfl | hp
  · exact hb
  · exact hs.ge p hp
theorem RbT.wlk {n0 b most : Nat} {L : List Kv} {m : Mem0} (h : RbT n0 b most L m) : ∀ p ∈ m, wlk p.2 = false := by
  obtain ⟨s, bn, n, cap, ms, rfl, hn, hs, hI, rfl, hb⟩ := h
  exact rt_wlk hs
theorem rb_leaf {n0 b most bn n cap root first free cnt bn' n' cap' : Nat} {s' : RbS} {L' : List Kv} {N : List Nd} {ms ms' M : Mem0} {w w' : World} {u0 : Value} (h : NdS n0 bn n cap N ms) (hI : RbI s' L') (hmo : s'.most = most) (hn' : n' = s'.N.length) (h' : NdS n0 bn' n' cap' s'.N ms') (hb : n0 ≤ b) (hm : Mem w' M)
    (hs : SubM M (rtB b most bn' n' cap' s'.root s'.first s'.free s'.n :: (ms' ++ []))) (hc : Chg (fun x => x = b ∨ x = bn) w w') (hin : bn' = b ∨ bn' = bn ∨ w.heap.size ≤ bn') :
    Upd (rtB b most bn n cap root first free cnt :: ms) (fun u m' => u = u0 ∧ RbT n0 b most L' m') w u0 w' := by
  rw [List.append_nil] at hs
  obtain ⟨o, rfl⟩ := h.has_bn
  obtain ⟨o', rfl⟩ := h'.has_bn
  subst hmo
  refine ⟨hc.mono (fun x _ hx => ?_), _, ⟨rfl, s', bn', n', cap', _, rfl, hn', h', hI, rfl, hb⟩, hs.mem w' hm, fun p hp => ?_⟩
  · rcases hx with rfl | rfl
    · exact ⟨_, List.mem_cons_self .., rfl⟩
    · exact ⟨_, List.mem_cons_of_mem _ (List.mem_cons_self ..), rfl⟩
  · rcases List.mem_cons.1 hp with rfl | hp
    · exact .inr ⟨_, List.mem_cons_self .., rfl⟩
    · rw [List.mem_singleton] at hp; subst hp
      rcases hin with q | q | q
      · exact .inr ⟨_, List.mem_cons_self .., q.symm⟩
      · exact .inr ⟨_, List.mem_cons_of_mem _ (List.mem_cons_self ..), q.symm⟩
      · exact .inl q
theorem bn_in {n0 b bn n cap k bn1 n1 cap1 most root first free cnt most1 root1 first1 free1 cnt1 : Nat} {N N1 : List Nd} {ms ms1 : Mem0} (hs : NdS n0 bn n cap N ms) (hs1 : NdS n0 bn1 n1 cap1 N1 ms1)
    (h : ∀ p ∈ rtB b most1 bn1 n1 cap1 root1 first1 free1 cnt1 :: ms1, k ≤ p.1 ∨ ∃ q ∈ rtB b most bn n cap root first free cnt :: ms, q.1 = p.1) : bn1 = b ∨ bn1 = bn ∨ k ≤ bn1 := by
  obtain ⟨o, rfl⟩ := hs.has_bn
  obtain ⟨o1, rfl⟩ := hs1.has_bn
  rcases h _ (List.mem_cons_of_mem _ (List.mem_cons_self ..)) with q | ⟨q, hq, e⟩
  · exact .inr (.inr q)
  · rcases List.mem_cons.1 hq with rfl | hq
    · exact .inl e.symm
    · rw [List.mem_singleton] at hq; subst hq; exact .inr (.inl e.symm)
theorem bn_S {b bn bn1 k : Nat} {n0 n1 cap1 : Nat} {N1 : List Nd} {ms1 : Mem0} (h : bn1 = b ∨ bn1 = bn ∨ k ≤ bn1) (hs1 : NdS n0 bn1 n1 cap1 N1 ms1) : ∀ p ∈ ms1, p.1 < k → (p.1 = b ∨ p.1 = bn) := fun p hp hlt => by
  rw [hs1.at_bn p hp] at hlt ⊢
  rcases h with q | q | q
  · exact .inl q
  · exact .inr q
  · omega
theorem rt_hS1 {b bn bn1 k : Nat} {n0 most root first free cnt n1 cap1 : Nat} {N1 : List Nd} {ms1 : Mem0} (h : bn1 = b ∨ bn1 = bn ∨ k ≤ bn1) (hs1 : NdS n0 bn1 n1 cap1 N1 ms1) : ∀ p ∈ rtB b most bn1 n1 cap1 root first free cnt :: ms1, p.1 < k → (fun x => x = b ∨ x = bn) p.1 := fun p hp hlt => by
  rcases List.mem_cons.1 hp with rfl | hp
  · exact .inl rfl
  · exact bn_S h hs1 p hp hlt
theorem RbT.mono {n0 n1 b most : Nat} {L : List Kv} {m : Mem0} (h : RbT n0 b most L m) (hn : n1 ≤ n0) : RbT n1 b most L m := by
  obtain ⟨s, bn, n, cap, ms, rfl, hn', hs, hI, rfl, hb⟩ := h
  exact ⟨s, bn, n, cap, ms, rfl, hn', hs.mono hn, hI, rfl, Nat.le_trans hn hb⟩
def RbN (most : Nat) (n0 : Nat) (v : Value) (m : Mem0) : Prop := ∃ b, v = .pointer (some ⟨b, 0, none⟩) ∧ RbT n0 b most [] m
theorem RbN.mono {most n n' : Nat} {v : Value} {m : Mem0} (hn : n' ≤ n) (h : RbN most n v m) : RbN most n' v m := by
  obtain ⟨b, rfl, h⟩ := h; exact ⟨b, rfl, h.mono hn⟩
set_option maxRecDepth 100000 in
theorem rbnew_spec (w : World) : Ret Try.prog 62 #[.int .i64 16] w (fun v w' => Ext w w' ∧ ∃ m, RbN 16 w.heap.size v m ∧ Mem w' m ∧ ∀ p ∈ m, w.heap.size ≤ p.1) := by
 refine Ret.enterM (l := [.int .i64 16]) Try.func62 rfl Try.ntmps62 rfl ([]) (no) (Mem.nil w) ?_
 refine wpM.seq (wpM.region ?_)
 refine LM.as rfl ?_
 refine LM.nil (QM.sub (e' := [(0, _)]) ⟨rfl, trivial⟩ (QM.then (wpM.seq (wpM.region ?_))))
 refine LM.mv rfl ?_
 refine LM.val (ov_max rfl rfl) ?_
 refine LM.val (ov_min rfl rfl) ?_
 refine LM.make (f := fNd) (a0 := default) Try.underlying129 Try.typeInfo136 rfl rfl rfl rfl (by intro _; rfl) rfl rfl rfl (by omega) (by simp only [Try.t136]; omega) (by omega) (fun b6 hb6 => ?_)
 refine LM.val (ov_build (cs := #[_, _, _, _, _, _]) rfl (by first | rfl | kernel_rfl)) ?_
 refine LM.box rfl rfl (fun b8 hb8 => ?_)
 refine LM.as rfl ?_
 refine LM.nil (QM.sub (e' := [(2, _)]) ⟨rfl, trivial⟩ (QM.then ?_))
 refine wpM.ret ?_
 refine QM.leave (.inl rfl) [.tmp 2] Try.results62 rfl ?_
 intro w' hm' hc' hg'
 exact ⟨hc', _, ⟨b8, rfl, ⟨16, [default], 0, 0, 0, 0⟩, b6, 1, 1, _, rfl, rfl, .inr ⟨b6, 1, [], hb6, rfl, rfl, Nat.le_refl _, by unfold maxLen; decide, rfl⟩, rb_new 16, rfl, hb8⟩, (SubM.mem (by (repeat' (first | exact SubM.all _ | refine SubM.cons rfl ?_ | exact SubM.nil _)))) w' hm', fun p hp => by simp only [List.mem_cons, List.not_mem_nil, or_false] at hp; rcases hp with rfl | rfl; exact hb8; exact hb6⟩
set_option maxRecDepth 100000 in
theorem ins_spec {n0 b most : Nat} {L : List Kv} {m : Mem0} (k : Kv) (w : World) (hno : ∀ x ∈ L, ¬ yEq x k) (hlt : L.length < most) (hmo0 : most ≤ 100000) (h : RbT n0 b most L m) (hn0 : n0 ≤ w.heap.size) (hM : Mem w m) : Ret Try.prog 64 #[.pointer (some ⟨b, 0, none⟩), .agg #[U k.V, .int .i64 k.id], .int .i64 k.x] w (Upd m (fun u m' => u = .int .i64 0 ∧ RbT n0 b most (insK L k) m') w) := by
 obtain ⟨s, bn, n, cap, ms, rfl, hn, hs, hI, rfl, hb⟩ := h; have hsn := hI.n; have hsl := hI.len; obtain ⟨u, hu, hfd, hpos, hfr, hfi, htl, htg, htw, S', hgr, hI'⟩ := ins_use hI hno (by omega); obtain ⟨T, hT⟩ : ∃ T, T = takN s.N s.free ⟨k, 0, 0, u, true⟩ := ⟨_, rfl⟩; rw [← hT] at htl htg htw hgr hI'
 refine Ret.enterM (l := [.pointer (some ⟨b, 0, none⟩), .agg #[U k.V, .int .i64 k.id], .int .i64 k.x]) Try.func64 rfl Try.ntmps64 rfl (rtB b s.most bn n cap s.root s.first s.free s.n :: ms) ((fun x => x = b ∨ x = bn)) hM ?_
 refine wpM.seq (wpM.region ?_)
 refine LM.box rfl rfl (fun b4 hb4 => ?_)
 refine LM.as rfl ?_
 refine LM.nil (QM.sub (e' := [(0, _), (2, _), (4, _)]) au9 (QM.then ?_))
 refine wpM.seq ?_
 refine wpM.seq (wpM.region ?_)
 refine LM.mv rfl ?_
 refine LM.val (ov_peql (by kernel_rfl) rfl rfl) ?_
 refine LM.nil (QM.sub (e' := [(0, _), (2, _), (4, _), (10, _)]) au9 (QM.then ?_))
 refine wpM.condF rfl ?_
 refine wpM.skip ?_
 refine QM.then (wpM.seq (wpM.region ?_))
 refine LM.mv rfl ?_
 refine LM.rd (om_ldW Try.isAgg100 Try.sizeOf100 rfl rfl) ?_
 refine LM.callE (oc_call (enters_fn Try.func89 (by kernel_rfl) rfl) rfl) (fun w hm hc hg => find_spec (N := s.N) (s.N.length + 3) k w hfd hn hs hI.wf (hm.pick (rtB b s.most bn n cap s.root s.first s.free s.n :: ms))) ?_
 refine LM.mv rfl ?_
 refine LM.val (ov_extract rfl rfl) ?_
 refine LM.val (ov_extract rfl rfl) ?_
 refine LM.as rfl (LM.as rfl ?_)
 refine LM.nil (QM.sub (e' := [(0, _), (2, _), (4, _), (7, _), (8, _)]) au9 (QM.then ?_))
 refine wpM.seq ?_
 refine wpM.block ?_
 refine wpM.seq (wpM.region ?_)
 refine LM.mv rfl ?_
 refine LM.val (ov_neq rfl rfl) ?_
 refine LM.as rfl ?_
 refine LM.nil (QM.sub (e' := [(0, _), (2, _), (4, _), (8, _), (17, _)]) au9 (QM.then ?_))
 refine wpM.condD rfl (fun h1 => ?_) (fun h1 => ?_)
 ·
  exact absurd rfl h1
 refine wpM.seq ?_
 refine wpM.draw [(0, 0), (1, 0), (2, 0), (3, 1), (4, 0), (5, 0), (6, 0), (7, 1), (8, 0), (9, 0)] (by kernel_rfl) (by kernel_rfl) ?_
 refine LD.val rfl rfl (ov_move rfl) ?_
 refine LD.val rfl rfl (ov_nilCheck rfl) ?_
 refine LD.val rfl rfl (ov_field Try.underlying131 rfl Try.sizeOf3 rfl (k := 5) rfl rfl) ?_
 refine LD.rd rfl rfl (om_ld Try.isAgg3 rfl rfl) ?_
 refine LD.val rfl rfl (ov_move rfl) ?_
 refine LD.val rfl rfl (ov_nilCheck rfl) ?_
 refine LD.val rfl rfl (ov_field Try.underlying131 rfl Try.sizeOf3 rfl (k := 0) rfl rfl) ?_
 refine LD.rd rfl rfl (om_ld Try.isAgg3 rfl rfl) ?_
 refine LD.val rfl rfl (ov_geq rfl rfl) ?_
 refine LD.val rfl rfl (ov_assign rfl) ?_
 refine LD.nil ?_
 refine QM.sub (e' := [(0, _), (2, _), (4, _), (8, _), (20, _)]) au9 (QM.then ?_)
 refine wpM.condD rfl (fun h2 => ?_) (fun h2 => ?_)
 ·
  omega
 refine wpM.skip ?_
 refine QM.block_normal ?_
 refine QM.then (wpM.seq (wpM.region ?_))
 refine LM.mv rfl ?_
 refine LM.rd (om_ldW Try.isAgg100 Try.sizeOf100 rfl rfl) ?_
 refine LM.mv rfl (LM.mv rfl ?_)
 refine LM.val (ov_build (cs := #[_, _, _, _, _, _, _]) rfl (by first | rfl | kernel_rfl)) ?_
 refine LM.cU (oc_call (enters_fn Try.func90 (by kernel_rfl) rfl) rfl) (fun w hm hc hg => take_spec (N := s.N) ⟨k, 0, 0, u, true⟩ w hn hs hpos hfr (by omega) (by omega) (Nat.le_trans hn0 hc.size) (hm.pick (rtB b s.most bn n cap s.root s.first s.free s.n :: ms))) (rt_wlk hs) (rt_hS hs) ?_
 rw [← hT]; rintro u35 m35 ⟨rfl, bn1, n1, cap1, ms1, rfl, hn1, hs1⟩ hin1; have hbn1 := bn_in hs hs1 hin1; clear hin1; have hu1 : u < T.1.length := Nat.lt_of_lt_of_le hu htg
 refine LM.as rfl ?_
 refine LM.nil (QM.sub (e' := [(0, _), (4, _), (7, _), (8, _)]) au9 (QM.then ?_))
 refine wpM.seq ?_
 refine wpM.joinK (α := List Nd × Nat × Mem0) (fun ⟨N2, root2, m2⟩ => []) [(0, _), (4, _), (7, _)] (fun ⟨N2, root2, m2⟩ => (b4, .cells #[U k.V, .int .i64 k.id] 100 (0, 0)) :: rtB b s.most bn1 n1 cap1 root2 s.first T.2.2 (s.n + 1) :: (m2 ++ [])) (fun ⟨N2, root2, m2⟩ => NdS n0 bn1 n1 cap1 N2 m2 ∧ lnkF (T.1, s.root) u T.2.1 k = (N2, root2)) ⟨rfl, rfl, rfl, trivial⟩ ?_ ?_
 ·
  refine wpM.block ?_
  refine wpM.seq (wpM.region ?_)
  refine LM.mv rfl ?_
  refine LM.val (ov_eql rfl rfl) ?_
  refine LM.as rfl ?_
  refine LM.nil (QM.sub (e' := [(0, _), (4, _), (7, _), (8, _), (44, _)]) au9 (QM.then ?_))
  refine wpM.condD rfl (fun h3 => ?_) (fun h3 => ?_)
  ·
   refine wpM.region ?_
   refine LM.mv rfl (LM.mv rfl ?_)
   refine LM.val (ov_nilCheck rfl) ?_
   refine LM.val (ov_field Try.underlying131 rfl Try.sizeOf3 rfl (k := 2) rfl rfl) ?_
   refine LM.st Try.sizeOf3 rfl rfl rfl au5 rfl (fun hlt => by first | exact .inl rfl | exact absurd hlt (by omega)) ?_
   refine LM.nil (QM.sub (e' := [(0, _), (4, _), (7, _)]) au9 ?_)
   refine QM.block_normal ?_
   refine QM.meetK (T.1, T.2.1, ms1) ⟨rfl, rfl, rfl, trivial⟩ au1 ?_
   · exact ⟨hs1, if_pos (Int.natCast_inj.1 h3)⟩
  refine wpM.seq ?_
  refine wpM.draw [(0, 1), (1, 0), (2, 0), (3, 0), (4, 1), (5, 0), (6, 0), (7, 0), (8, 1), (9, 2), (10, 0), (11, 0)] (by kernel_rfl) (by kernel_rfl) ?_
  refine LD.rd rfl rfl (om_ldW Try.isAgg100 Try.sizeOf100 rfl rfl) ?_
  refine LD.val rfl rfl (ov_move rfl) ?_
  refine LD.val rfl rfl (ov_nilCheck rfl) ?_
  refine LD.val rfl rfl (ov_field Try.underlying131 rfl Try.sizeOf129 rfl (k := 1) rfl rfl) ?_
  refine LD.rd rfl rfl (om_ld Try.isAgg129 rfl rfl) ?_
  refine LD.val rfl rfl (ov_move rfl) ?_
  refine LD.val rfl rfl (ov_idxSN au6 Try.underlying129 Try.sizeOf136 rfl rfl (by omega)) ?_
  refine LD.val rfl rfl (ov_field Try.underlying136 rfl Try.sizeOf100 rfl (k := 0) rfl rfl) ?_
  refine LD.rd rfl rfl (om_slP (j := 0) (vs := [_, _]) (by assumption) (by intro _; rfl) Try.isAgg100 Try.sizeOf100 rfl rfl (by exact getq default (by first | omega | (simp only [nL_len, nR_len, nU_len, nC_len, List.length_set, List.length_append, List.length_cons, List.length_nil]; omega))) (by decide) rfl rfl) ?_
  refine LD.callE rfl rfl (oc_call (enters_fn Try.func91 (by kernel_rfl) rfl) rfl) (fun w hm hc hg => against_spec k (T.1.getD u default).e w) ?_
  refine LD.val rfl rfl (ov_lss rfl rfl) ?_
  refine LD.val rfl rfl (ov_assign rfl) ?_
  refine LD.nil ?_
  refine QM.sub (e' := [(0, _), (4, _), (7, _), (8, _), (51, _)]) au9 (QM.then ?_)
  refine wpM.condD rfl (fun h4 => ?_) (fun h4 => ?_)
  ·
   refine wpM.region ?_
   refine LM.mv rfl ?_
   refine LM.val (ov_nilCheck rfl) ?_
   refine LM.val (ov_field Try.underlying131 rfl Try.sizeOf129 rfl (k := 1) rfl rfl) ?_
   refine LM.rd (om_ld Try.isAgg129 rfl rfl) ?_
   refine LM.mv rfl (LM.mv rfl ?_)
   refine LM.val (ov_idxSN au6 Try.underlying129 Try.sizeOf136 rfl rfl (by omega)) ?_
   refine LM.val (ov_field Try.underlying136 rfl Try.sizeOf3 rfl (k := 3) rfl rfl) ?_
   refine LM.stS ({ gN (T.1) ( u) with l :=  T.2.1 }) (j := 3) (by assumption) (by intro _; rfl) Try.sizeOf3 rfl rfl rfl (by exact getq default (by first | omega | (simp only [nL_len, nR_len, nU_len, nC_len, List.length_set, List.length_append, List.length_cons, List.length_nil]; omega))) rfl (by decide) (by rfl) rfl (bn_S hbn1 (by assumption)) (fun ms1 hss1 hmm1 => ?_)
   change Sl _ _ _ _ (nL (T.1) ( u) ( T.2.1)) _ _ at hss1
   refine LM.nil (QM.sub (e' := [(0, _), (4, _), (7, _)]) au9 ?_)
   refine QM.block_normal ?_
   refine QM.meetK (nL T.1 u T.2.1, s.root, ms1) ⟨rfl, rfl, rfl, trivial⟩ au1 ?_
   · exact ⟨by assumption, by unfold lnkF; rw [if_neg (fun q => h3 (Int.natCast_inj.2 q)), if_pos h4]⟩
  refine wpM.region ?_
  refine LM.mv rfl ?_
  refine LM.val (ov_nilCheck rfl) ?_
  refine LM.val (ov_field Try.underlying131 rfl Try.sizeOf129 rfl (k := 1) rfl rfl) ?_
  refine LM.rd (om_ld Try.isAgg129 rfl rfl) ?_
  refine LM.mv rfl (LM.mv rfl ?_)
  refine LM.val (ov_idxSN au6 Try.underlying129 Try.sizeOf136 rfl rfl (by omega)) ?_
  refine LM.val (ov_field Try.underlying136 rfl Try.sizeOf3 rfl (k := 4) rfl rfl) ?_
  refine LM.stS ({ gN (T.1) ( u) with r :=  T.2.1 }) (j := 4) (by assumption) (by intro _; rfl) Try.sizeOf3 rfl rfl rfl (by exact getq default (by first | omega | (simp only [nL_len, nR_len, nU_len, nC_len, List.length_set, List.length_append, List.length_cons, List.length_nil]; omega))) rfl (by decide) (by rfl) rfl (bn_S hbn1 (by assumption)) (fun ms1 hss1 hmm1 => ?_)
  change Sl _ _ _ _ (nR (T.1) ( u) ( T.2.1)) _ _ at hss1
  refine LM.nil (QM.sub (e' := [(0, _), (4, _), (7, _)]) au9 ?_)
  refine QM.block_normal ?_
  refine QM.meetK (nR T.1 u T.2.1, s.root, ms1) ⟨rfl, rfl, rfl, trivial⟩ au1 ?_
  · exact ⟨by assumption, by unfold lnkF; rw [if_neg (fun q => h3 (Int.natCast_inj.2 q)), if_neg h4]⟩
 rintro ⟨N2, root2, m2⟩ ⟨hs2, hl2⟩
 change QM _ _ _ _ _ ((b4, .cells #[U k.V, .int .i64 k.id] 100 (0, 0)) :: rtB b s.most bn1 n1 cap1 root2 s.first T.2.2 (s.n + 1) :: (m2 ++ [])) _ _ _
 have hw2 := lnk_wf (up := u) (k := k) htw htl; rw [hl2] at hw2 hgr hI'; have hln2 : N2.length = T.1.length := hw2.len; have hfi2 : s.first < N2.length := (by omega)
 refine QM.then ?_
 refine wpM.seq ?_
 refine wpM.seq ?_
 refine wpM.draw [(0, 0), (1, 0), (2, 0), (3, 1), (4, 0), (5, 0), (6, 1), (7, 0), (8, 0), (9, 0), (10, 1), (11, 0), (12, 0), (13, 0), (14, 1), (15, 0), (16, 0), (17, 1), (18, 2), (19, 0), (20, 0)] (by kernel_rfl) (by kernel_rfl) ?_
 refine LD.val rfl rfl (ov_move rfl) ?_
 refine LD.val rfl rfl (ov_nilCheck rfl) ?_
 refine LD.val rfl rfl (ov_field Try.underlying131 rfl Try.sizeOf3 rfl (k := 3) rfl rfl) ?_
 refine LD.rd rfl rfl (om_ld Try.isAgg3 rfl rfl) ?_
 refine LD.val rfl rfl (ov_eql rfl rfl) ?_
 refine LD.val rfl rfl (ov_move rfl) ?_
 refine LD.splitD (t := 76) rfl (fun h5 => ?_) (fun h5 => ?_)
 ·
  refine LD.drop rfl rfl ⟨76, _, rfl, rfl, rfl⟩ ?_
  refine LD.drop rfl rfl ⟨76, _, rfl, rfl, rfl⟩ ?_
  refine LD.drop rfl rfl ⟨76, _, rfl, rfl, rfl⟩ ?_
  refine LD.drop rfl rfl ⟨76, _, rfl, rfl, rfl⟩ ?_
  refine LD.drop rfl rfl ⟨76, _, rfl, rfl, rfl⟩ ?_
  refine LD.drop rfl rfl ⟨76, _, rfl, rfl, rfl⟩ ?_
  refine LD.drop rfl rfl ⟨76, _, rfl, rfl, rfl⟩ ?_
  refine LD.drop rfl rfl ⟨76, _, rfl, rfl, rfl⟩ ?_
  refine LD.drop rfl rfl ⟨76, _, rfl, rfl, rfl⟩ ?_
  refine LD.drop rfl rfl ⟨76, _, rfl, rfl, rfl⟩ ?_
  refine LD.drop rfl rfl ⟨76, _, rfl, rfl, rfl⟩ ?_
  refine LD.drop rfl rfl ⟨76, _, rfl, rfl, rfl⟩ ?_
  refine LD.drop rfl rfl ⟨76, _, rfl, rfl, rfl⟩ ?_
  refine LD.drop rfl rfl ⟨76, _, rfl, rfl, rfl⟩ ?_
  refine LD.val rfl rfl (ov_pickT rfl rfl) ?_
  refine LD.nil ?_
  refine QM.sub (e' := [(0, _), (7, _), (91, _)]) au9 (QM.then ?_)
  refine wpM.joinK (α := Nat) (fun f1 => []) [(0, _), (7, _)] (fun f1 => (b4, .cells #[U k.V, .int .i64 k.id] 100 (0, 0)) :: rtB b s.most bn1 n1 cap1 root2 f1 T.2.2 (s.n + 1) :: (m2 ++ [])) (fun f1 => frsF N2 s.first T.2.1 k = f1) ⟨rfl, rfl, trivial⟩ ?_ ?_
  ·
   refine wpM.condT rfl ?_
   refine wpM.region ?_
   refine LM.mv rfl (LM.mv rfl ?_)
   refine LM.val (ov_nilCheck rfl) ?_
   refine LM.val (ov_field Try.underlying131 rfl Try.sizeOf3 rfl (k := 3) rfl rfl) ?_
   refine LM.st Try.sizeOf3 rfl rfl rfl au5 rfl (fun hlt => by first | exact .inl rfl | exact absurd hlt (by omega)) ?_
   refine LM.nil (QM.sub (e' := [(0, _), (7, _)]) au9 ?_)
   refine QM.meetK (T.2.1) ⟨rfl, rfl, trivial⟩ au1 ?_
   · exact if_pos (.inl (Int.natCast_inj.1 h5))
  rintro f1 hf1
  change QM _ _ _ _ _ ((b4, .cells #[U k.V, .int .i64 k.id] 100 (0, 0)) :: rtB b s.most bn1 n1 cap1 root2 f1 T.2.2 (s.n + 1) :: (m2 ++ [])) _ _ _
  refine QM.then (wpM.seq (wpM.region ?_))
  refine LM.mv rfl (LM.mv rfl ?_)
  refine LM.cU (oc_call (enters_fn Try.func92 (by kernel_rfl) rfl) rfl) (fun w hm hc hg => grown_spec (N := N2) (root := root2) (s.N.length + 3) T.2.1 w hgr (hn1.trans hln2.symm) hs2 (by rw [hln2]; exact hw2) (by omega) (hm.pick (rtB b s.most bn1 n1 cap1 root2 f1 T.2.2 (s.n + 1) :: m2))) (rt_wlk hs2) (rt_hS1 hbn1 hs2) ?_
  rintro u98 m98 ⟨rfl, m3, rfl, hs3⟩ -; have hw3 := grw_wf _ _ _ _ hgr hw2 htl; rw [hf1] at hI'
  refine LM.nil (QM.sub (e' := []) trivial (QM.then (wpM.seq (wpM.region ?_))))
  refine LM.as rfl ?_
  refine LM.nil (QM.sub (e' := [(6, _)]) ⟨rfl, trivial⟩ (QM.then ?_))
  refine wpM.ret ?_
  refine QM.leave (.inl rfl) [.tmp 6] Try.results64 rfl ?_
  intro w' hm' hc' hg'
  exact rb_leaf (s' := ⟨s.most, S'.1, S'.2, f1, T.2.2, s.n + 1⟩) hs hI' rfl (hn1.trans hw3.len.symm) hs3 hb hm' au1 hc' hbn1
 refine LD.rd rfl ⟨76, _, rfl, rfl, rfl⟩ (om_ldW Try.isAgg100 Try.sizeOf100 rfl rfl) ?_
 refine LD.val rfl ⟨76, _, rfl, rfl, rfl⟩ (ov_move rfl) ?_
 refine LD.val rfl ⟨76, _, rfl, rfl, rfl⟩ (ov_nilCheck rfl) ?_
 refine LD.val rfl ⟨76, _, rfl, rfl, rfl⟩ (ov_field Try.underlying131 rfl Try.sizeOf129 rfl (k := 1) rfl rfl) ?_
 refine LD.rd rfl ⟨76, _, rfl, rfl, rfl⟩ (om_ld Try.isAgg129 rfl rfl) ?_
 refine LD.val rfl ⟨76, _, rfl, rfl, rfl⟩ (ov_move rfl) ?_
 refine LD.val rfl ⟨76, _, rfl, rfl, rfl⟩ (ov_nilCheck rfl) ?_
 refine LD.val rfl ⟨76, _, rfl, rfl, rfl⟩ (ov_field Try.underlying131 rfl Try.sizeOf3 rfl (k := 3) rfl rfl) ?_
 refine LD.rd rfl ⟨76, _, rfl, rfl, rfl⟩ (om_ld Try.isAgg3 rfl rfl) ?_
 refine LD.val rfl ⟨76, _, rfl, rfl, rfl⟩ (ov_idxSN au6 Try.underlying129 Try.sizeOf136 rfl rfl (by omega)) ?_
 refine LD.val rfl ⟨76, _, rfl, rfl, rfl⟩ (ov_field Try.underlying136 rfl Try.sizeOf100 rfl (k := 0) rfl rfl) ?_
 refine LD.rd rfl ⟨76, _, rfl, rfl, rfl⟩ (om_slP (j := 0) (vs := [_, _]) (by assumption) (by intro _; rfl) Try.isAgg100 Try.sizeOf100 rfl rfl (by exact getq default (by first | omega | (simp only [nL_len, nR_len, nU_len, nC_len, List.length_set, List.length_append, List.length_cons, List.length_nil]; omega))) (by decide) rfl rfl) ?_
 refine LD.callE rfl ⟨76, _, rfl, rfl, rfl⟩ (oc_call (enters_fn Try.func91 (by kernel_rfl) rfl) rfl) (fun w hm hc hg => against_spec k (N2.getD s.first default).e w) ?_
 refine LD.val rfl ⟨76, _, rfl, rfl, rfl⟩ (ov_lss rfl rfl) ?_
 refine LD.val rfl rfl (ov_pickF rfl rfl) ?_
 refine LD.nil ?_
 refine QM.sub (e' := [(0, _), (7, _), (91, _)]) au9 (QM.then ?_)
 refine wpM.joinK (α := Nat) (fun f1 => []) [(0, _), (7, _)] (fun f1 => (b4, .cells #[U k.V, .int .i64 k.id] 100 (0, 0)) :: rtB b s.most bn1 n1 cap1 root2 f1 T.2.2 (s.n + 1) :: (m2 ++ [])) (fun f1 => frsF N2 s.first T.2.1 k = f1) ⟨rfl, rfl, trivial⟩ ?_ ?_
 ·
  refine wpM.condD rfl (fun h6 => ?_) (fun h6 => ?_)
  ·
   refine wpM.region ?_
   refine LM.mv rfl (LM.mv rfl ?_)
   refine LM.val (ov_nilCheck rfl) ?_
   refine LM.val (ov_field Try.underlying131 rfl Try.sizeOf3 rfl (k := 3) rfl rfl) ?_
   refine LM.st Try.sizeOf3 rfl rfl rfl au5 rfl (fun hlt => by first | exact .inl rfl | exact absurd hlt (by omega)) ?_
   refine LM.nil (QM.sub (e' := [(0, _), (7, _)]) au9 ?_)
   refine QM.meetK (T.2.1) ⟨rfl, rfl, trivial⟩ au1 ?_
   · exact if_pos (.inr h6)
  refine wpM.skip ?_
  refine QM.meetK (s.first) ⟨rfl, rfl, trivial⟩ au1 ?_
  · exact if_neg (fun q => q.elim (fun q => h5 (Int.natCast_inj.2 q)) h6)
 rintro f1 hf1
 change QM _ _ _ _ _ ((b4, .cells #[U k.V, .int .i64 k.id] 100 (0, 0)) :: rtB b s.most bn1 n1 cap1 root2 f1 T.2.2 (s.n + 1) :: (m2 ++ [])) _ _ _
 refine QM.then (wpM.seq (wpM.region ?_))
 refine LM.mv rfl (LM.mv rfl ?_)
 refine LM.cU (oc_call (enters_fn Try.func92 (by kernel_rfl) rfl) rfl) (fun w hm hc hg => grown_spec (N := N2) (root := root2) (s.N.length + 3) T.2.1 w hgr (hn1.trans hln2.symm) hs2 (by rw [hln2]; exact hw2) (by omega) (hm.pick (rtB b s.most bn1 n1 cap1 root2 f1 T.2.2 (s.n + 1) :: m2))) (rt_wlk hs2) (rt_hS1 hbn1 hs2) ?_
 rintro u98 m98 ⟨rfl, m3, rfl, hs3⟩ -; have hw3 := grw_wf _ _ _ _ hgr hw2 htl; rw [hf1] at hI'
 refine LM.nil (QM.sub (e' := []) trivial (QM.then (wpM.seq (wpM.region ?_))))
 refine LM.as rfl ?_
 refine LM.nil (QM.sub (e' := [(6, _)]) ⟨rfl, trivial⟩ (QM.then ?_))
 refine wpM.ret ?_
 refine QM.leave (.inl rfl) [.tmp 6] Try.results64 rfl ?_
 intro w' hm' hc' hg'
 exact rb_leaf (s' := ⟨s.most, S'.1, S'.2, f1, T.2.2, s.n + 1⟩) hs hI' rfl (hn1.trans hw3.len.symm) hs3 hb hm' au1 hc' hbn1
theorem vic_pos {S : Ns} {i nx : Nat} (h : (gN S.1 i).l ≠ 0 ∧ (gN S.1 i).r ≠ 0) : vicF S i nx = ((S.1.set i { gN S.1 i with e := (gN S.1 nx).e }, S.2), nx) := if_pos h
theorem vic_neg {S : Ns} {i nx : Nat} (h : ¬ ((gN S.1 i).l ≠ 0 ∧ (gN S.1 i).r ≠ 0)) : vicF S i nx = (S, i) := if_neg h
theorem set_set_nd {N : List Nd} {i : Nat} {a a' : Nd} : (N.set i a).set i a' = N.set i a' := List.set_set ..
set_option maxRecDepth 100000 in
theorem del_spec {n0 b most : Nat} {L : List Kv} {m : Mem0} (k e : Kv) (w : World) (he : e ∈ L) (hke : yEq k e) (hmo0 : most ≤ 100000) (h : RbT n0 b most L m) (hM : Mem w m) : Ret Try.prog 67 #[.pointer (some ⟨b, 0, none⟩), .agg #[U k.V, .int .i64 k.id]] w (Upd m (fun u m' => u = .tuple #[.int .i64 e.x, .bool true] ∧ RbT n0 b most (delK L k) m') w) := by
 obtain ⟨s, bn, n, cap, ms, rfl, hn, hs, hI, rfl, hb⟩ := h; have hsn := hI.n; have hsl := hI.len; have hsm := hI.most; obtain ⟨i, u, hfd, hi0, hi, hex, hsn0, hfi, nx, hnx, hnxl, S', hcut, hvl, hSl, hI'⟩ := del_use hI he hke
 refine Ret.enterM (l := [.pointer (some ⟨b, 0, none⟩), .agg #[U k.V, .int .i64 k.id]]) Try.func67 rfl Try.ntmps67 rfl (rtB b s.most bn n cap s.root s.first s.free s.n :: ms) ((fun x => x = b ∨ x = bn)) hM ?_
 refine wpM.seq (wpM.region ?_)
 refine LM.box rfl rfl (fun b3 hb3 => ?_)
 refine LM.as rfl (LM.as rfl ?_)
 refine LM.nil (QM.sub (e' := [(0, _), (3, _)]) au9 (QM.then (wpM.seq (wpM.region ?_))))
 refine LM.as rfl ?_
 refine LM.nil (QM.sub (e' := [(0, _), (3, _), (6, _)]) au9 (QM.then ?_))
 refine wpM.seq ?_
 refine wpM.seq (wpM.region ?_)
 refine LM.mv rfl ?_
 refine LM.val (ov_peql (by kernel_rfl) rfl rfl) ?_
 refine LM.nil (QM.sub (e' := [(0, _), (3, _), (6, _), (12, _)]) au9 (QM.then ?_))
 refine wpM.condF rfl ?_
 refine wpM.skip ?_
 refine QM.then (wpM.seq (wpM.region ?_))
 refine LM.mv rfl ?_
 refine LM.rd (om_ldW Try.isAgg100 Try.sizeOf100 rfl rfl) ?_
 refine LM.callE (oc_call (enters_fn Try.func89 (by kernel_rfl) rfl) rfl) (fun w hm hc hg => find_spec (N := s.N) (s.N.length + 3) k w hfd hn hs hI.wf (hm.pick (rtB b s.most bn n cap s.root s.first s.free s.n :: ms))) ?_
 refine LM.mv rfl ?_
 refine LM.val (ov_extract rfl rfl) ?_
 refine LM.val (ov_extract rfl rfl) ?_
 refine LM.as rfl (LM.as rfl ?_)
 refine LM.nil (QM.sub (e' := [(0, _), (6, _), (7, _)]) au9 (QM.then ?_))
 refine wpM.seq ?_
 refine wpM.seq (wpM.region ?_)
 refine LM.mv rfl ?_
 refine LM.val (ov_eql rfl rfl) ?_
 refine LM.nil (QM.sub (e' := [(0, _), (6, _), (7, _), (21, _)]) au9 (QM.then ?_))
 refine wpM.condD rfl (fun h1 => ?_) (fun h1 => ?_)
 ·
  exact absurd (Int.natCast_inj.1 h1) hi0
 refine wpM.skip ?_
 refine QM.then (wpM.seq (wpM.region ?_))
 refine LM.mv rfl ?_
 refine LM.val (ov_nilCheck rfl) ?_
 refine LM.val (ov_field Try.underlying131 rfl Try.sizeOf129 rfl (k := 1) rfl rfl) ?_
 refine LM.rd (om_ld Try.isAgg129 rfl rfl) ?_
 refine LM.mv rfl ?_
 refine LM.val (ov_idxSN au6 Try.underlying129 Try.sizeOf136 rfl rfl (by omega)) ?_
 refine LM.val (ov_field Try.underlying136 rfl Try.sizeOf3 rfl (k := 2) rfl rfl) ?_
 refine LM.rd (om_slE (j := 2) (by assumption) (by intro _; rfl) Try.isAgg3 rfl rfl (by exact getq default (by first | omega | (simp only [nL_len, nR_len, nU_len, nC_len, List.length_set, List.length_append, List.length_cons, List.length_nil]; omega))) rfl (by rfl)) ?_
 refine LM.as rfl ?_
 refine LM.nil (QM.sub (e' := [(0, _), (7, _), (9, _)]) au9 (QM.then ?_))
 refine wpM.seq ?_
 refine wpM.seq (wpM.region ?_)
 refine LM.mv rfl ?_
 refine LM.val (ov_nilCheck rfl) ?_
 refine LM.val (ov_field Try.underlying131 rfl Try.sizeOf3 rfl (k := 3) rfl rfl) ?_
 refine LM.rd (om_ld Try.isAgg3 rfl rfl) ?_
 refine LM.mv rfl ?_
 refine LM.val (ov_eql rfl rfl) ?_
 refine LM.nil (QM.sub (e' := [(0, _), (7, _), (9, _), (36, _)]) au9 (QM.then ?_))
 refine wpM.joinK (α := Nat) (fun f1 => []) [(0, _), (7, _), (9, _)] (fun f1 => (b3, .cells #[U k.V, .int .i64 k.id] 100 (0, 0)) :: rtB b s.most bn n cap s.root f1 s.free s.n :: (ms ++ [])) (fun f1 => (if s.first = i then nx else s.first) = f1) ⟨rfl, rfl, rfl, trivial⟩ ?_ ?_
 ·
  refine wpM.condD rfl (fun h2 => ?_) (fun h2 => ?_)
  ·
   refine wpM.region ?_
   refine LM.mv rfl (LM.mv rfl (LM.mv rfl ?_))
   refine LM.callE (oc_call (enters_fn Try.func93 (by kernel_rfl) rfl) rfl) (fun w hm hc hg => next_spec (N := s.N) (root := s.root) (first := s.first) (s.N.length + 3) i w hnx hn hs hI.wf hi (hm.pick (rtB b s.most bn n cap s.root s.first s.free s.n :: ms))) ?_
   refine LM.val (ov_nilCheck rfl) ?_
   refine LM.val (ov_field Try.underlying131 rfl Try.sizeOf3 rfl (k := 3) rfl rfl) ?_
   refine LM.st Try.sizeOf3 rfl rfl rfl au5 rfl (fun hlt => by first | exact .inl rfl | exact absurd hlt (by omega)) ?_
   refine LM.nil (QM.sub (e' := [(0, _), (7, _), (9, _)]) au9 ?_)
   refine QM.meetK (nx) ⟨rfl, rfl, rfl, trivial⟩ au1 ?_
   · exact if_pos (Int.natCast_inj.1 h2)
  refine wpM.skip ?_
  refine QM.meetK (s.first) ⟨rfl, rfl, rfl, trivial⟩ au1 ?_
  · exact if_neg (fun q => h2 (Int.natCast_inj.2 q))
 rintro f1 hf1
 change QM _ _ _ _ _ ((b3, .cells #[U k.V, .int .i64 k.id] 100 (0, 0)) :: rtB b s.most bn n cap s.root f1 s.free s.n :: (ms ++ [])) _ _ _
 refine QM.then ?_
 refine wpM.seq ?_
 refine wpM.seq (wpM.region ?_)
 refine LM.mv rfl ?_
 refine LM.val (ov_nilCheck rfl) ?_
 refine LM.val (ov_field Try.underlying131 rfl Try.sizeOf129 rfl (k := 1) rfl rfl) ?_
 refine LM.rd (om_ld Try.isAgg129 rfl rfl) ?_
 refine LM.mv rfl ?_
 refine LM.val (ov_idxSN au6 Try.underlying129 Try.sizeOf136 rfl rfl (by omega)) ?_
 refine LM.val (ov_field Try.underlying136 rfl Try.sizeOf3 rfl (k := 3) rfl rfl) ?_
 refine LM.rd (om_slE (j := 3) (by assumption) (by intro _; rfl) Try.isAgg3 rfl rfl (by exact getq default (by first | omega | (simp only [nL_len, nR_len, nU_len, nC_len, List.length_set, List.length_append, List.length_cons, List.length_nil]; omega))) rfl (by rfl)) ?_
 refine LM.val (ov_neq rfl rfl) ?_
 refine LM.mv rfl ?_
 refine LM.splitD (t := 52) rfl (fun h3 => ?_) (fun h3 => ?_)
 ·
  refine LM.sp 52 rfl rfl rfl (LM.mv rfl (LM.sp 52 rfl rfl rfl ?_))
  refine LM.val (ov_nilCheck rfl) ?_
  refine LM.sp 52 rfl rfl rfl (LM.val (ov_field Try.underlying131 rfl Try.sizeOf129 rfl (k := 1) rfl rfl) (LM.sp 52 rfl rfl rfl ?_))
  refine LM.rd (om_ld Try.isAgg129 rfl rfl) ?_
  refine LM.sp 52 rfl rfl rfl (LM.mv rfl (LM.sp 52 rfl rfl rfl ?_))
  refine LM.val (ov_idxSN au6 Try.underlying129 Try.sizeOf136 rfl rfl (by omega)) ?_
  refine LM.sp 52 rfl rfl rfl (LM.val (ov_field Try.underlying136 rfl Try.sizeOf3 rfl (k := 4) rfl rfl) (LM.sp 52 rfl rfl rfl ?_))
  refine LM.rd (om_slE (j := 4) (by assumption) (by intro _; rfl) Try.isAgg3 rfl rfl (by exact getq default (by first | omega | (simp only [nL_len, nR_len, nU_len, nC_len, List.length_set, List.length_append, List.length_cons, List.length_nil]; omega))) rfl (by rfl)) ?_
  refine LM.sp 52 rfl rfl rfl ?_
  refine LM.val (ov_neq rfl rfl) ?_
  refine LM.val (ov_pickT rfl rfl) ?_
  refine LM.nil (QM.sub (e' := [(0, _), (7, _), (9, _), (62, _)]) au9 (QM.then ?_))
  refine wpM.joinK (α := List Nd × Nat × Nat × Mem0) (fun ⟨N2, i2, f2, m2⟩ => [(7, .int .i64 (i2 : Nat))]) [(0, _), (9, _)] (fun ⟨N2, i2, f2, m2⟩ => rtB b s.most bn n cap s.root f2 s.free s.n :: (m2 ++ [])) (fun ⟨N2, i2, f2, m2⟩ => NdS n0 bn n cap N2 m2 ∧ vicF (s.N, s.root) i nx = ((N2, s.root), i2) ∧ fstF s.N s.first i nx = f2) ⟨rfl, rfl, trivial⟩ ?_ ?_
  ·
   refine wpM.condD rfl (fun h4 => ?_) (fun h4 => ?_)
   ·
    refine wpM.seq (wpM.region ?_)
    refine LM.mv rfl (LM.mv rfl ?_)
    refine LM.callE (oc_call (enters_fn Try.func93 (by kernel_rfl) rfl) rfl) (fun w hm hc hg => next_spec (N := s.N) (root := s.root) (first := f1) (s.N.length + 3) i w hnx hn hs hI.wf hi (hm.pick (rtB b s.most bn n cap s.root f1 s.free s.n :: ms))) ?_
    refine LM.as rfl ?_
    refine LM.nil (QM.sub (e' := [(0, _), (7, _), (9, _), (10, _)]) au9 (QM.then ?_))
    refine wpM.seq ?_
    refine wpM.draw [(0, 0), (1, 0), (2, 0), (3, 1), (4, 0), (5, 0), (6, 0), (7, 0), (8, 1), (9, 0), (10, 0), (11, 0), (12, 0), (13, 1), (14, 0), (15, 0), (16, 0), (17, 1), (18, 0), (19, 0), (20, 0), (21, 1), (22, 0), (23, 0), (24, 0), (25, 1), (26, 0), (27, 0), (28, 3), (29, 3), (30, 3), (31, 3)] (by kernel_rfl) (by kernel_rfl) ?_
    refine LD.val rfl rfl (ov_move rfl) ?_
    refine LD.val rfl rfl (ov_nilCheck rfl) ?_
    refine LD.val rfl rfl (ov_field Try.underlying131 rfl Try.sizeOf129 rfl (k := 1) rfl rfl) ?_
    refine LD.rd rfl rfl (om_ld Try.isAgg129 rfl rfl) ?_
    refine LD.val rfl rfl (ov_move rfl) ?_
    refine LD.val rfl rfl (ov_move rfl) ?_
    refine LD.val rfl rfl (ov_nilCheck rfl) ?_
    refine LD.val rfl rfl (ov_field Try.underlying131 rfl Try.sizeOf129 rfl (k := 1) rfl rfl) ?_
    refine LD.rd rfl rfl (om_ld Try.isAgg129 rfl rfl) ?_
    refine LD.val rfl rfl (ov_move rfl) ?_
    refine LD.val rfl rfl (ov_move rfl) ?_
    refine LD.val rfl rfl (ov_nilCheck rfl) ?_
    refine LD.val rfl rfl (ov_field Try.underlying131 rfl Try.sizeOf129 rfl (k := 1) rfl rfl) ?_
    refine LD.rd rfl rfl (om_ld Try.isAgg129 rfl rfl) ?_
    refine LD.val rfl rfl (ov_move rfl) ?_
    refine LD.val rfl rfl (ov_idxSN au6 Try.underlying129 Try.sizeOf136 rfl rfl (by omega)) ?_
    refine LD.val rfl rfl (ov_field Try.underlying136 rfl Try.sizeOf100 rfl (k := 0) rfl rfl) ?_
    refine LD.rd rfl rfl (om_slP (j := 0) (vs := [_, _]) (by assumption) (by intro _; rfl) Try.isAgg100 Try.sizeOf100 rfl rfl (by exact getq default (by first | omega | (simp only [nL_len, nR_len, nU_len, nC_len, List.length_set, List.length_append, List.length_cons, List.length_nil]; omega))) (by decide) rfl rfl) ?_
    refine LD.val rfl rfl (ov_move rfl) ?_
    refine LD.val rfl rfl (ov_nilCheck rfl) ?_
    refine LD.val rfl rfl (ov_field Try.underlying131 rfl Try.sizeOf129 rfl (k := 1) rfl rfl) ?_
    refine LD.rd rfl rfl (om_ld Try.isAgg129 rfl rfl) ?_
    refine LD.val rfl rfl (ov_move rfl) ?_
    refine LD.val rfl rfl (ov_idxSN au6 Try.underlying129 Try.sizeOf136 rfl rfl (by omega)) ?_
    refine LD.val rfl rfl (ov_field Try.underlying136 rfl Try.sizeOf3 rfl (k := 2) rfl rfl) ?_
    refine LD.rd rfl rfl (om_slE (j := 2) (by assumption) (by intro _; rfl) Try.isAgg3 rfl rfl (by exact getq default (by first | omega | (simp only [nL_len, nR_len, nU_len, nC_len, List.length_set, List.length_append, List.length_cons, List.length_nil]; omega))) rfl (by rfl)) ?_
    refine LD.val rfl rfl (ov_idxSN au6 Try.underlying129 Try.sizeOf136 rfl rfl (by omega)) ?_
    refine LD.val rfl rfl (ov_field Try.underlying136 rfl Try.sizeOf100 rfl (k := 0) rfl rfl) ?_
    refine LD.tail rfl rfl ?_
    refine LM.stS (({ gN s.N i with e := ⟨(gN s.N nx).e.V, (gN s.N nx).e.id, (gN s.N i).e.x⟩ } : Nd)) (j := 0) (by assumption) (by intro _; rfl) Try.sizeOf100 rfl rfl rfl (by exact getq default (by first | omega | (simp only [nL_len, nR_len, nU_len, nC_len, List.length_set, List.length_append, List.length_cons, List.length_nil]; omega))) rfl (by decide) (by rfl) rfl (fun p hp _ => .inr (Sl.at_bn (by assumption) p hp)) (fun ms1 hss1 hmm1 => ?_)
    refine LM.val (ov_idxSN au6 Try.underlying129 Try.sizeOf136 rfl rfl (by omega)) ?_
    refine LM.val (ov_field Try.underlying136 rfl Try.sizeOf3 rfl (k := 2) rfl rfl) ?_
    refine LM.stS (a := { gN s.N i with e := ⟨(gN s.N nx).e.V, (gN s.N nx).e.id, (gN s.N i).e.x⟩ }) ({ gN s.N i with e := (gN s.N nx).e } : Nd) (j := 2) hss1 (by intro _; rfl) Try.sizeOf3 rfl rfl rfl (List.getElem?_set_self (by omega)) rfl (by decide) (by rfl) rfl (fun p hp _ => .inr (Sl.at_bn hss1 p hp)) (fun ms2 hss2 hmm2 => ?_)
    refine LM.nil ?_
    refine QM.qn ?_
    refine QM.sub (e' := [(0, _), (7, _), (9, _), (10, _)]) au9 (QM.then ?_)
    refine wpM.seq ?_
    refine wpM.seq (wpM.region ?_)
    refine LM.mv rfl ?_
    refine LM.val (ov_nilCheck rfl) ?_
    refine LM.val (ov_field Try.underlying131 rfl Try.sizeOf3 rfl (k := 3) rfl rfl) ?_
    refine LM.rd (om_ld Try.isAgg3 rfl rfl) ?_
    refine LM.mv rfl ?_
    refine LM.val (ov_eql rfl rfl) ?_
    refine LM.nil (QM.sub (e' := [(0, _), (7, _), (9, _), (10, _), (101, _)]) au9 (QM.then ?_))
    refine wpM.condD rfl (fun h5 => ?_) (fun h5 => ?_)
    ·
     refine wpM.region ?_
     refine LM.mv rfl (LM.mv rfl ?_)
     refine LM.val (ov_nilCheck rfl) ?_
     refine LM.val (ov_field Try.underlying131 rfl Try.sizeOf3 rfl (k := 3) rfl rfl) ?_
     refine LM.st Try.sizeOf3 rfl rfl rfl au5 rfl (fun hlt => by first | exact .inl rfl | exact absurd hlt (by omega)) ?_
     refine LM.nil (QM.sub (e' := [(0, _), (9, _), (10, _)]) au9 (QM.then (wpM.region ?_)))
     refine LM.mv rfl (LM.as rfl ?_)
     refine LM.nil (QM.sub (e' := [(0, _), (7, _), (9, _)]) au9 ?_)
     refine QM.meetK (s.N.set i { gN s.N i with e := (gN s.N nx).e }, nx, i, ms2) ⟨au2, rfl, rfl, trivial⟩ au1 ?_
     · exact ⟨by rw [set_set_nd] at hss2; exact hss2, vic_pos ⟨fun q => h3 (Int.natCast_inj.2 q), fun q => h4 (Int.natCast_inj.2 q)⟩, by unfold fstF; rw [if_pos ⟨fun q => h3 (Int.natCast_inj.2 q), fun q => h4 (Int.natCast_inj.2 q)⟩, hf1, if_pos (Int.natCast_inj.1 h5)]⟩
    refine wpM.skip ?_
    refine QM.then (wpM.region ?_)
    refine LM.mv rfl (LM.as rfl ?_)
    refine LM.nil (QM.sub (e' := [(0, _), (7, _), (9, _)]) au9 ?_)
    refine QM.meetK (s.N.set i { gN s.N i with e := (gN s.N nx).e }, nx, f1, ms2) ⟨au2, rfl, rfl, trivial⟩ au1 ?_
    · exact ⟨by rw [set_set_nd] at hss2; exact hss2, vic_pos ⟨fun q => h3 (Int.natCast_inj.2 q), fun q => h4 (Int.natCast_inj.2 q)⟩, by unfold fstF; rw [if_pos ⟨fun q => h3 (Int.natCast_inj.2 q), fun q => h4 (Int.natCast_inj.2 q)⟩, hf1, if_neg (fun q => h5 (Int.natCast_inj.2 q))]⟩
   refine wpM.skip ?_
   refine QM.meetK (s.N, i, f1, ms) ⟨au2, rfl, rfl, trivial⟩ au1 ?_
   · exact ⟨hs, vic_neg (fun q => q.2 (Int.natCast_inj.1 (Classical.not_not.1 h4))), by unfold fstF; rw [if_neg (fun q => q.2 (Int.natCast_inj.1 (Classical.not_not.1 h4))), hf1]⟩
  rintro ⟨N2, i2, f2, m2⟩ ⟨hs2, hv2, hf2⟩
  change QM _ _ _ _ _ (rtB b s.most bn n cap s.root f2 s.free s.n :: (m2 ++ [])) _ _ _
  have hw2 := (vic_wf (S := (s.N, s.root)) (i := i) (s := nx) hI.wf hi hnxl); rw [hv2] at hw2 hcut hvl hI'; rw [hf2] at hI'; have hln2 : N2.length = s.N.length := hw2.1.len
  refine QM.then (wpM.seq (wpM.region ?_))
  refine LM.mv rfl (LM.mv rfl ?_)
  refine LM.cU (oc_call (enters_fn Try.func94 (by kernel_rfl) rfl) rfl) (fun w hm hc hg => cut_spec (N := N2) (root := s.root) (s.N.length + 3) i2 w hcut (hn.trans hln2.symm) hs2 (by rw [hln2]; exact hw2.1) (by rw [hln2]; exact hw2.2) (hm.pick (rtB b s.most bn n cap s.root f2 s.free s.n :: m2))) (rt_wlk hs2) (rt_hS hs2) ?_
  rintro u109 m109 ⟨rfl, m3, rfl, hs3⟩ -
  refine LM.nil (QM.sub (e' := [(0, _), (7, _), (9, _)]) au9 (QM.then (wpM.seq (wpM.region ?_))))
  refine LM.mv rfl (LM.mv rfl ?_)
  refine LM.cU (oc_call (enters_fn Try.func95 (by kernel_rfl) rfl) rfl) (fun w hm hc hg => give_spec (N := S'.1) (root := S'.2) i2 w (hn.trans hSl.symm) hs3 (by rw [hSl]; exact hw2.2) hsn0 (by omega) (hm.pick (rtB b s.most bn n cap S'.2 f2 s.free s.n :: m3))) (rt_wlk hs3) (rt_hS hs3) ?_
  rintro u112 m112 ⟨rfl, m4, rfl, hs4⟩ -
  refine LM.nil (QM.sub (e' := [(9, _)]) ⟨rfl, trivial⟩ (QM.then (wpM.seq (wpM.region ?_))))
  refine LM.mv rfl (LM.as rfl (LM.as rfl ?_))
  refine LM.nil (QM.sub (e' := [(4, _), (5, _)]) au9 (QM.then ?_))
  refine wpM.ret ?_
  refine QM.leave (.inl rfl) [.tmp 4, .tmp 5] Try.results67 rfl ?_
  intro w' hm' hc' hg'
  exact hex ▸ rb_leaf (s' := ⟨s.most, S'.1.set i2 { (default : Nd) with l := s.free }, S'.2, f2, i2, s.n - 1⟩) hs hI' rfl (by rw [List.length_set, hSl]; exact hn) hs4 hb hm' au1 hc' (.inr (.inl rfl))
 refine LM.dr 52 rfl rfl rfl (LM.dr 52 rfl rfl rfl (LM.dr 52 rfl rfl rfl (LM.dr 52 rfl rfl rfl (LM.dr 52 rfl rfl rfl (LM.dr 52 rfl rfl rfl ?_)))))
 refine LM.dr 52 rfl rfl rfl (LM.dr 52 rfl rfl rfl (LM.dr 52 rfl rfl rfl ?_))
 refine LM.val (ov_pickF rfl rfl) ?_
 refine LM.nil (QM.sub (e' := [(0, _), (7, _), (9, _), (62, _)]) au9 (QM.then ?_))
 refine wpM.joinK (α := List Nd × Nat × Nat × Mem0) (fun ⟨N2, i2, f2, m2⟩ => [(7, .int .i64 (i2 : Nat))]) [(0, _), (9, _)] (fun ⟨N2, i2, f2, m2⟩ => rtB b s.most bn n cap s.root f2 s.free s.n :: (m2 ++ [])) (fun ⟨N2, i2, f2, m2⟩ => NdS n0 bn n cap N2 m2 ∧ vicF (s.N, s.root) i nx = ((N2, s.root), i2) ∧ fstF s.N s.first i nx = f2) ⟨rfl, rfl, trivial⟩ ?_ ?_
 ·
  refine wpM.condF rfl ?_
  refine wpM.skip ?_
  refine QM.meetK (s.N, i, f1, ms) ⟨au2, rfl, rfl, trivial⟩ au1 ?_
  · exact ⟨hs, vic_neg (fun q => q.1 (Int.natCast_inj.1 (Classical.not_not.1 h3))), by unfold fstF; rw [if_neg (fun q => q.1 (Int.natCast_inj.1 (Classical.not_not.1 h3))), hf1]⟩
 rintro ⟨N2, i2, f2, m2⟩ ⟨hs2, hv2, hf2⟩
 change QM _ _ _ _ _ (rtB b s.most bn n cap s.root f2 s.free s.n :: (m2 ++ [])) _ _ _
 have hw2 := (vic_wf (S := (s.N, s.root)) (i := i) (s := nx) hI.wf hi hnxl); rw [hv2] at hw2 hcut hvl hI'; rw [hf2] at hI'; have hln2 : N2.length = s.N.length := hw2.1.len
 refine QM.then (wpM.seq (wpM.region ?_))
 refine LM.mv rfl (LM.mv rfl ?_)
 refine LM.cU (oc_call (enters_fn Try.func94 (by kernel_rfl) rfl) rfl) (fun w hm hc hg => cut_spec (N := N2) (root := s.root) (s.N.length + 3) i2 w hcut (hn.trans hln2.symm) hs2 (by rw [hln2]; exact hw2.1) (by rw [hln2]; exact hw2.2) (hm.pick (rtB b s.most bn n cap s.root f2 s.free s.n :: m2))) (rt_wlk hs2) (rt_hS hs2) ?_
 rintro u109 m109 ⟨rfl, m3, rfl, hs3⟩ -
 refine LM.nil (QM.sub (e' := [(0, _), (7, _), (9, _)]) au9 (QM.then (wpM.seq (wpM.region ?_))))
 refine LM.mv rfl (LM.mv rfl ?_)
 refine LM.cU (oc_call (enters_fn Try.func95 (by kernel_rfl) rfl) rfl) (fun w hm hc hg => give_spec (N := S'.1) (root := S'.2) i2 w (hn.trans hSl.symm) hs3 (by rw [hSl]; exact hw2.2) hsn0 (by omega) (hm.pick (rtB b s.most bn n cap S'.2 f2 s.free s.n :: m3))) (rt_wlk hs3) (rt_hS hs3) ?_
 rintro u112 m112 ⟨rfl, m4, rfl, hs4⟩ -
 refine LM.nil (QM.sub (e' := [(9, _)]) ⟨rfl, trivial⟩ (QM.then (wpM.seq (wpM.region ?_))))
 refine LM.mv rfl (LM.as rfl (LM.as rfl ?_))
 refine LM.nil (QM.sub (e' := [(4, _), (5, _)]) au9 (QM.then ?_))
 refine wpM.ret ?_
 refine QM.leave (.inl rfl) [.tmp 4, .tmp 5] Try.results67 rfl ?_
 intro w' hm' hc' hg'
 exact hex ▸ rb_leaf (s' := ⟨s.most, S'.1.set i2 { (default : Nd) with l := s.free }, S'.2, f2, i2, s.n - 1⟩) hs hI' rfl (by rw [List.length_set, hSl]; exact hn) hs4 hb hm' au1 hc' (.inr (.inl rfl))
end Go.Eng
namespace Go.Eng
open Go Go.Proofs Go.RowKit
def allK (L : List Kv) : List (Array Value) := L.map (fun t => #[.agg #[U t.V, .int .i64 t.id], .int .i64 t.x])
theorem allK_len (L : List Kv) : (allK L).length = L.length := by simp [allK]
theorem allK_get {L : List Kv} {k : Nat} (h : k < L.length) : (allK L)[k]? = some #[.agg #[U (L.getD k default).V, .int .i64 (L.getD k default).id], .int .i64 (L.getD k default).x] := by
  unfold allK; rw [List.getElem?_map, getq default h]; rfl
theorem allK_inv {L : List Kv} {k : Nat} {av : Array Value} (h : (allK L)[k]? = some av) : k < L.length ∧ av = #[.agg #[U (L.getD k default).V, .int .i64 (L.getD k default).id], .int .i64 (L.getD k default).x] := by
  have hk : k < L.length := by have := (List.getElem?_eq_some_iff.1 h).1; rwa [allK_len] at this
  rw [allK_get hk] at h
  exact ⟨hk, (Option.some.inj h).symm⟩
abbrev tP (c b : Nat) : Nat × Obj := (c, .cells #[.pointer (some ⟨b, 0, none⟩)] 90 (0, 0))
set_option maxRecDepth 100000 in
theorem over_seq {n0 b bn n cap : Nat} {s : RbS} {L : List Kv} {ms : Mem0} (hn : n = s.N.length) (hs : NdS n0 bn n cap s.N ms) (hI : RbI s L) : SeqL Try.prog 106 [.pointer (some ⟨b, 0, none⟩),  .int .i64 (s.first : Nat)] (allK L) (fun w => Mem w (rtB b s.most bn n cap s.root s.first s.free s.n :: ms)) := by
 obtain ⟨ix, hx0, hxL, hix⟩ := it_use hI
 refine SeqL.enter (lb := [.pointer (some ⟨b, 0, none⟩),  .int .i64 (s.first : Nat)]) Try.func106 rfl Try.ntmps106 rfl ?_
 intro l n0 J Jx w0 hJr gJ gJx hy
 rw [← hx0]
 refine wpM.block ?_
 refine wpM.loopK (α := Nat) (fun k => [(1, .int .i64 (ix k : Nat))]) [(0, _), (2, _)] (fun k => []) (fun k => J k) (fun k => k ≤ L.length) (fun k => L.length - k) (0) ⟨au2, rfl, rfl, trivial⟩ au1 (fun _ h => h) (Nat.zero_le _) ?_
 rintro k hk
 change wpM _ _ _ _ _ _ _ ([]) _ _ _
 refine wpM.seq ?_
 refine wpM.seq (wpM.region ?_)
 refine LM.mv rfl ?_
 refine LM.val (ov_neq rfl rfl) ?_
 refine LM.nil (QM.sub (e' := [(0, _), (1, _), (2, _), (8, _)]) au9 (QM.then ?_))
 refine wpM.condD rfl (fun h1 => ?_) (fun h1 => ?_)
 ·
  have hkl : k < L.length := (by rcases Nat.lt_or_ge k L.length with q | q; exact q; exact absurd (by rw [show k = L.length by omega, hxL]; rfl) h1); obtain ⟨hxz, hxl, hxe, hxn⟩ := hix k hkl
  refine wpM.skip ?_
  refine QM.then ?_
  refine wpM.block ?_
  refine wpM.seq (wpM.region ?_)
  refine LM.mv rfl ?_
  refine LM.val (ov_nilCheck rfl) ?_
  refine LM.val (ov_field Try.underlying131 rfl Try.sizeOf129 rfl (k := 1) rfl rfl) ?_
  refine LM.rdC (fun w _ _ hg => om_ld (M := rtB b s.most bn n cap s.root s.first s.free s.n :: ms) Try.isAgg129 rfl rfl w (hJr _ w hg)) ?_
  refine LM.mv rfl ?_
  refine LM.val (ov_idxSN au6 Try.underlying129 Try.sizeOf136 rfl rfl (by omega)) ?_
  refine LM.rdC (fun w _ _ hg => ow_srEA (hs.srM (by intro _; rfl) (hJr _ w hg)) (by intro _; rfl) Try.isAgg136 Try.sizeOf136 rfl (getq default hxl)) ?_
  refine LM.allocF Try.zeroValue136 rfl (fun b6 hb6 => ?_)
  refine LM.stWF Try.sizeOf136 rfl rfl rfl rfl au7 au8 (by omega) ?_
  refine LM.unF ?_
  refine LM.nil (QM.sub (e' := [(0, _), (1, _), (2, _), (6, _)]) au9 (QM.then ?_))
  refine wpM.seq ?_
  refine wpM.seq (wpM.region ?_)
  refine LM.mv rfl (LM.val (ov_field Try.underlying136 rfl Try.sizeOf100 rfl (k := 0) rfl rfl) ?_)
  first | refine LM.rd (om_ldW Try.isAgg100 Try.sizeOf100 rfl rfl) ?_ | refine LM.rd (om_ldA Try.isAgg100 Try.sizeOf100 rfl (vs := [_, _]) rfl ⟨rfl, rfl, trivial⟩) ?_
  refine LM.val (ov_field Try.underlying136 rfl Try.sizeOf3 rfl (k := 2) rfl rfl) ?_
  refine LM.rd (om_ld Try.isAgg3 rfl rfl) ?_
  refine LM.mem (M' := []) (fun w _ => Mem.nil w) ?_
  refine LM.yield (n := n0) (G1 := J (k + 1)) (G2 := Jx) rfl rfl (fun w hj => hy (k) _ w (by rw [allK_get hkl, ← hxe]; rfl) hj) (fun _ => trivial) ?_ ?_
  ·
   first | refine LM.val (ov_notD rfl) ?_ | refine LM.val (ov_not rfl) ?_
   refine LM.nil (QM.sub (e' := [(0, _), (1, _), (2, _), (22, _)]) au9 (QM.then ?_))
   refine wpM.condF rfl ?_
   refine wpM.skip ?_
   refine QM.then (wpM.region ?_)
   refine LM.mv rfl (LM.mv rfl ?_)
   refine LM.callE (oc_call (enters_fn Try.func93 (by kernel_rfl) rfl) rfl) (fun w hm hc hg => next_spec (N := s.N) (s.N.length + 3) (ix k) w hxn hn hs hI.wf hxl (hJr _ w hg)) ?_
   refine LM.as rfl ?_
   refine LM.nil (QM.sub (e' := [(0, _), (1, _), (2, _)]) au9 ?_)
   refine QM.block_normal ?_
   refine QM.againK (k + 1) ⟨au2, rfl, rfl, trivial⟩ au1 (fun _ h => h) ?_ ?_
   · omega
   · omega
  first | refine LM.val (ov_notD rfl) ?_ | refine LM.val (ov_not rfl) ?_
  refine LM.nil (QM.sub (e' := [(0, _), (1, _), (2, _), (22, _)]) au9 (QM.then ?_))
  refine wpM.condT rfl ?_
  refine wpM.ret ?_
  refine QM.then_ret ?_
  refine QM.block_ret ?_
  refine QM.then_ret ?_
  refine QM.block_ret ?_
  refine QM.leave (.inl rfl) [] Try.results106 rfl ?_
  intro w' hm' hc' hg'
  exact .inr hg'
 refine wpM.exit ?_
 refine QM.then_exit ?_
 refine QM.then_exit ?_
 refine QM.block_hit ?_
 refine QM.leave (.inr rfl) [] Try.results106 rfl ?_
 intro w' hm' hc' hg'
 have hkl : k = L.length := (by rcases Nat.lt_or_ge k L.length with q | q; exact absurd (fun z => (hix k q).1 (Int.natCast_inj.1 z)) h1; omega); subst hkl; exact .inl (by rw [allK_len]; exact hg')
def RbA (b n0 : Nat) (v : Value) (m : Mem0) : Prop := ∃ c1, v = .func (.func 105) #[] #[.pointer (some ⟨c1, 0, none⟩)] ∧ m = [tP c1 b] ∧ n0 ≤ c1
theorem RbA.mono {b : Nat} : ∀ (k k' : Nat) u m, k' ≤ k → RbA b k u m → RbA b k' u m := fun k k' u m h ⟨b1, h1, h2, h3⟩ => ⟨b1, h1, h2, by omega⟩
set_option maxRecDepth 100000 in
theorem rball_spec (b : Nat) (w : World) : Ret Try.prog 82 #[.pointer (some ⟨b, 0, none⟩)] w (fun v w' => Ext w w' ∧ ∃ m, RbA b w.heap.size v m ∧ Mem w' m ∧ ∀ p ∈ m, w.heap.size ≤ p.1) := by
 refine Ret.enterM (l := [.pointer (some ⟨b, 0, none⟩)]) Try.func82 rfl Try.ntmps82 rfl ([]) (no) (Mem.nil w) ?_
 refine wpM.seq (wpM.region ?_)
 refine LM.box rfl rfl (fun b1 hb1 => ?_)
 refine LM.as rfl ?_
 refine LM.nil (QM.sub (e' := [(1, _)]) ⟨rfl, trivial⟩ (QM.then (wpM.seq (wpM.region ?_))))
 refine LM.val (ov_makeFunc rfl) ?_
 refine LM.as rfl ?_
 refine LM.nil (QM.sub (e' := [(2, _)]) ⟨rfl, trivial⟩ (QM.then ?_))
 refine wpM.ret ?_
 refine QM.leave (.inl rfl) [.tmp 2] Try.results82 rfl ?_
 intro w' hm' hc' hg'
 exact ⟨hc', _, ⟨b1, rfl, rfl, hb1⟩, SubM.mem au1 _ hm', fun p hp => by simp only [List.mem_cons, List.not_mem_nil, or_false] at hp; subst hp; assumption⟩
set_option maxRecDepth 100000 in
theorem rball_seq {n0 b c1 most : Nat} {L : List Kv} {m : Mem0} (h : RbT n0 b most L m) : SeqC Try.prog 105 #[.pointer (some ⟨c1, 0, none⟩)] (allK L) (fun w => Mem w (tP c1 b :: m)) (True) := by
 obtain ⟨s, bn, n, cap, ms, rfl, hn, hs, hI, hmo, hb⟩ := h
 refine SeqC.enter (lb := [.pointer (some ⟨c1, 0, none⟩)]) Try.func105 rfl Try.ntmps105 rfl ?_
 intro l n0 J Jx w0 hfin hJr gJ gJx hy
 refine wpM.seq (wpM.region ?_)
 refine LM.rdC (fun w _ _ hg => om_ld (M := tP c1 b :: rtB b s.most bn n cap s.root s.first s.free s.n :: ms) Try.isAgg90 rfl rfl w (hJr _ w hg)) ?_
 refine LM.val (ov_pneq (by kernel_rfl) rfl rfl) ?_
 refine LM.nil (QM.sub (e' := [(0, _), (1, _), (4, _)]) au9 (QM.then ?_))
 refine wpM.condT rfl ?_
 refine wpM.draw [(0, 1), (1, 1), (2, 0), (3, 0), (4, 1), (5, 0), (6, 3)] (by kernel_rfl) (by kernel_rfl) ?_
 refine LD.rdC rfl rfl (fun w _ _ hg => om_ld (M := tP c1 b :: rtB b s.most bn n cap s.root s.first s.free s.n :: ms) Try.isAgg90 rfl rfl w (hJr _ w hg)) ?_
 refine LD.rdC rfl rfl (fun w _ _ hg => om_ld (M := tP c1 b :: rtB b s.most bn n cap s.root s.first s.free s.n :: ms) Try.isAgg90 rfl rfl w (hJr _ w hg)) ?_
 refine LD.val rfl rfl (ov_nilCheck rfl) ?_
 refine LD.val rfl rfl (ov_field Try.underlying131 rfl Try.sizeOf3 rfl (k := 3) rfl rfl) ?_
 refine LD.rdC rfl rfl (fun w _ _ hg => om_ld (M := tP c1 b :: rtB b s.most bn n cap s.root s.first s.free s.n :: ms) Try.isAgg3 rfl rfl w (hJr _ w hg)) ?_
 refine LD.val rfl rfl (ov_move rfl) ?_
 refine LD.tail rfl rfl ?_
 refine LM.callL (lb := [.pointer (some ⟨b, 0, none⟩), .int .i64 (s.first : Nat)]) (oc_call (enters_fn Try.func106 (by kernel_rfl) rfl) rfl) (over_seq hn hs hI) (fun k w hj => (hJr k w hj).tail) gJ gJx hy (fun _ => trivial) (fun u => ?_)
 refine LM.nil ?_
 refine QM.qn ?_
 refine QM.sub (e' := []) trivial ?_
 refine QM.leave (.inr rfl) [] Try.results105 rfl ?_
 intro w' hm' hc' hg'
 exact hg'
end Go.Eng
namespace Go.Eng
open Go Go.RowKit
structure Qm where
  g : Int
  fl : BitVec 64
  l : List Kv
  cur : Int
  ran : Int
def bringO (n lo hi : Int) : Int := if n < lo then lo else if hi < n then hi else n
def addO (a b : BitVec 64) : BitVec 64 := if a.toNat + b.toNat < 18446744073709551616 then a + b else 18446744073709551615#64
def coreO (w : Int) : BitVec 64 := 1099511627776#64 / BitVec.ofInt 64 (bringO w 1 4096)
def reachO (w g : Int) : BitVec 64 := coreO w * BitVec.ofInt 64 (bringO g 1 8)
def clampO (v fl r : BitVec 64) : BitVec 64 := if v.toNat < fl.toNat then fl else if (addO fl r).toNat < v.toNat then addO fl r else v
def ixO (l : List Kv) (a : Int) : Nat := l.findIdx (fun t => decide (t.id = a))
def plcO (x : Qm) (v : BitVec 64) (w : Int) : BitVec 64 := clampO v x.fl (reachO w x.g)
def insAll (l : List Kv) : List Kv := l.foldl insK []
def rdyO (x : Qm) : List Kv := insAll (x.l.filter (fun t => decide (t.id ≠ x.cur)))
def loadO (l : List Kv) : Int := (l.map (·.x)).sum
structure QWf (x : Qm) : Prop where
  nd : (x.l.map (·.id)).Nodup
  pos : ∀ t ∈ x.l, 0 ≤ t.id
  len : x.l.length ≤ 16
  wt : ∀ t ∈ x.l, 1 ≤ t.x ∧ t.x ≤ 4096
  cur : x.cur = -1 ∨ ∃ t ∈ x.l, t.id = x.cur
  g : 1 ≤ x.g ∧ x.g ≤ 8
  ran : 0 ≤ x.ran
theorem ixO_cons (t : Kv) (l : List Kv) (a : Int) : ixO (t :: l) a = if t.id = a then 0 else ixO l a + 1 := by
  unfold ixO; rw [List.findIdx_cons]
  by_cases h : t.id = a
  · rw [if_pos h, decide_eq_true h]; rfl
  · rw [if_neg h, decide_eq_false h]; rfl
theorem ixO_hit {l : List Kv} {a : Int} (h : ixO l a < l.length) : (l.getD (ixO l a) default).id = a ∧ l.getD (ixO l a) default ∈ l := by
  have h2 : l.getD (ixO l a) default = l[ixO l a] := by rw [List.getD_eq_getElem?_getD, List.getElem?_eq_getElem h]; rfl
  rw [h2]
  have h3 := List.findIdx_getElem (p := fun t : Kv => decide (t.id = a)) (xs := l) (w := h)
  exact ⟨of_decide_eq_true h3, List.getElem_mem h⟩
theorem ixO_lt {l : List Kv} {a : Int} : ixO l a < l.length ↔ ∃ t ∈ l, t.id = a := by
  unfold ixO; rw [List.findIdx_lt_length]
  exact ⟨fun ⟨t, h, e⟩ => ⟨t, h, of_decide_eq_true e⟩, fun ⟨t, h, e⟩ => ⟨t, h, decide_eq_true e⟩⟩
theorem ixO_app {l m : List Kv} {a : Int} (h : ¬ ixO l a < l.length) : ixO (l ++ m) a = l.length + ixO m a := by
  induction l with
  | nil => simp
  | cons t l ih =>
    rw [ixO_cons] at h
    by_cases e : t.id = a
    · rw [if_pos e] at h; simp at h
    · rw [if_neg e, List.length_cons] at h
      rw [List.cons_append, ixO_cons, if_neg e, ih (by omega), List.length_cons]; omega
theorem uniq_id {l : List Kv} (h : (l.map (·.id)).Nodup) {a b : Kv} (ha : a ∈ l) (hb : b ∈ l) (e : a.id = b.id) : a = b := by
  induction l with
  | nil => cases ha
  | cons t l ih =>
    rw [List.map_cons, List.nodup_cons] at h
    obtain ⟨hq1, hq2⟩ := h
    rcases List.mem_cons.1 ha with ea | ha2
    · rcases List.mem_cons.1 hb with eb | hb2
      · exact ea.trans eb.symm
      · exact absurd (List.mem_map.2 ⟨b, hb2, by rw [← ea]; exact e.symm⟩) hq1
    · rcases List.mem_cons.1 hb with eb | hb2
      · exact absurd (List.mem_map.2 ⟨a, ha2, by rw [← eb]; exact e⟩) hq1
      · exact ih hq2 ha2 hb2
/-! sorted lists -/
theorem srt_ext : ∀ {a b : List Kv}, Srt a → Srt b → (∀ x, x ∈ a ↔ x ∈ b) → a = b
  | [], [], _, _, _ => rfl
  | [], y :: b, _, _, h => absurd ((h y).2 (List.mem_cons_self ..)) (by simp)
  | x :: a, [], _, _, h => absurd ((h x).1 (List.mem_cons_self ..)) (by simp)
  | x :: a, y :: b, ha, hb, h => by
    have h1 := List.pairwise_cons.1 ha
    have h2 := List.pairwise_cons.1 hb
    have hxy : x = y := by
      rcases List.mem_cons.1 ((h x).1 (List.mem_cons_self ..)) with e | e
      · exact e
      · rcases List.mem_cons.1 ((h y).2 (List.mem_cons_self ..)) with e2 | e2
        · exact e2.symm
        · exact absurd (h1.1 y e2) (h2.1 x e).asym
    subst hxy
    refine congrArg _ (srt_ext h1.2 h2.2 (fun z => ?_))
    have hz := h z
    rw [List.mem_cons, List.mem_cons] at hz
    refine ⟨fun q => ?_, fun q => ?_⟩
    · rcases hz.1 (.inr q) with e | e
      · subst e; exact absurd (h1.1 _ q) (yLt.irr _)
      · exact e
    · rcases hz.2 (.inr q) with e | e
      · subst e; exact absurd (h2.1 _ q) (yLt.irr _)
      · exact e
theorem insK_srt {L : List Kv} (h : Srt L) (k : Kv) : Srt (insK L k) := by
  unfold insK Srt
  refine List.pairwise_append.2 ⟨List.Pairwise.filter _ h, List.pairwise_cons.2 ⟨fun y hy => of_decide_eq_true (List.mem_filter.1 hy).2, List.Pairwise.filter _ h⟩, fun x hx y hy => ?_⟩
  have h1 : yLt x k := of_decide_eq_true (List.mem_filter.1 hx).2
  rcases List.mem_cons.1 hy with rfl | hy
  · exact h1
  · exact h1.trans (of_decide_eq_true (List.mem_filter.1 hy).2)
theorem insK_mem {L : List Kv} {k : Kv} (h : ∀ x ∈ L, ¬ yEq x k) (x : Kv) : x ∈ insK L k ↔ x ∈ L ∨ x = k := by
  unfold insK
  simp only [List.mem_append, List.mem_cons, List.mem_filter, decide_eq_true_eq]
  constructor
  · rintro (q | q | q)
    · exact .inl q.1
    · exact .inr q
    · exact .inl q.1
  · rintro (q | q)
    · rcases k_tri x k with e | e | e
      · exact absurd e (h x q)
      · exact .inl ⟨q, e⟩
      · exact .inr (.inr ⟨q, e⟩)
    · exact .inr (.inl q)
theorem foldl_ins : ∀ (l L : List Kv), Srt L → (l.map (·.id)).Nodup → (∀ x ∈ L, ∀ y ∈ l, x.id ≠ y.id) → Srt (l.foldl insK L) ∧ ∀ x, x ∈ l.foldl insK L ↔ x ∈ L ∨ x ∈ l
  | [], L, h, _, _ => ⟨h, fun x => by simp⟩
  | t :: l, L, h, hn, hd => by
    rw [List.map_cons, List.nodup_cons] at hn
    have hm := insK_mem (L := L) (k := t) (fun x hx e => hd x hx t (List.mem_cons_self ..) e.2)
    have ih := foldl_ins l (insK L t) (insK_srt h t) hn.2 (fun x hx y hy => by
      rcases (hm x).1 hx with q | rfl
      · exact hd x q y (List.mem_cons_of_mem _ hy)
      · exact fun e => hn.1 (List.mem_map.2 ⟨y, hy, e.symm⟩))
    refine ⟨ih.1, fun x => ?_⟩
    rw [List.foldl_cons, ih.2 x, hm x, List.mem_cons]
    constructor
    · rintro ((q | q) | q)
      · exact .inl q
      · exact .inr (.inl q)
      · exact .inr (.inr q)
    · rintro (q | q | q)
      · exact .inl (.inl q)
      · exact .inl (.inr q)
      · exact .inr q
theorem nodup_filt {l : List Kv} {p : Kv → Bool} (h : (l.map (·.id)).Nodup) : ((l.filter p).map (·.id)).Nodup := List.Sublist.nodup (List.Sublist.map _ List.filter_sublist) h
theorem rdy_srt {x : Qm} (h : (x.l.map (·.id)).Nodup) : Srt (rdyO x) := (foldl_ins _ [] List.Pairwise.nil (nodup_filt h) (fun x hx => by cases hx)).1
theorem rdy_mem {x : Qm} (h : (x.l.map (·.id)).Nodup) (t : Kv) : t ∈ rdyO x ↔ t ∈ x.l ∧ t.id ≠ x.cur := by
  unfold rdyO insAll
  rw [(foldl_ins _ [] List.Pairwise.nil (nodup_filt h) (fun x hx => by cases hx)).2 t]
  simp
theorem delK_mem (L : List Kv) (k x : Kv) : x ∈ delK L k ↔ x ∈ L ∧ ¬ yEq k x := by
  unfold delK; rw [List.mem_filter, decide_eq_true_eq]
theorem delK_srt {L : List Kv} (h : Srt L) (k : Kv) : Srt (delK L k) := List.Pairwise.filter _ h
theorem rdy_ins {x x' : Qm} {k : Kv} (h : (x.l.map (·.id)).Nodup) (h' : (x'.l.map (·.id)).Nodup) (hk : ∀ t ∈ x.l, t.id ≠ x.cur → t.id ≠ k.id)
    (hm : ∀ t, (t ∈ x'.l ∧ t.id ≠ x'.cur) ↔ (t ∈ x.l ∧ t.id ≠ x.cur) ∨ t = k) : insK (rdyO x) k = rdyO x' :=
  srt_ext (insK_srt (rdy_srt h) k) (rdy_srt h') (fun t => by
    rw [insK_mem (fun t ht e => hk t ((rdy_mem h t).1 ht).1 ((rdy_mem h t).1 ht).2 e.2), rdy_mem h, rdy_mem h', hm])
theorem rdy_del {x x' : Qm} {k : Kv} (h : (x.l.map (·.id)).Nodup) (h' : (x'.l.map (·.id)).Nodup) 
    (hm : ∀ t, (t ∈ x'.l ∧ t.id ≠ x'.cur) ↔ (t ∈ x.l ∧ t.id ≠ x.cur) ∧ ¬ yEq k t) : delK (rdyO x) k = rdyO x' :=
  srt_ext (delK_srt (rdy_srt h) k) (rdy_srt h') (fun t => by rw [delK_mem, rdy_mem h, rdy_mem h', hm])
theorem rdy_same {x x' : Qm} (h : (x.l.map (·.id)).Nodup) (h' : (x'.l.map (·.id)).Nodup) 
    (hm : ∀ t, (t ∈ x'.l ∧ t.id ≠ x'.cur) ↔ (t ∈ x.l ∧ t.id ≠ x.cur)) : rdyO x = rdyO x' :=
  srt_ext (rdy_srt h) (rdy_srt h') (fun t => by rw [rdy_mem h, rdy_mem h', hm])
theorem rdy_len {x : Qm} (h : (x.l.map (·.id)).Nodup) : (rdyO x).length ≤ x.l.length := by
  have : ∀ (l L : List Kv), (l.foldl insK L).length ≤ L.length + l.length := by
    intro l
    induction l with
    | nil => intro L; simp
    | cons t l ih =>
      intro L
      rw [List.foldl_cons, List.length_cons]
      refine Nat.le_trans (ih _) ?_
      have : (insK L t).length ≤ L.length + 1 := by
        unfold insK
        rw [List.length_append, List.length_cons]
        have : ∀ (L : List Kv), (L.filter (fun x => decide (yLt x t))).length + (L.filter (fun x => decide (yLt t x))).length ≤ L.length := by
          intro L
          induction L with
          | nil => simp
          | cons y L ih2 =>
            by_cases h1 : yLt y t
            · rw [List.filter_cons_of_pos (by simpa using h1), List.filter_cons_of_neg (by simpa using h1.asym)]; simp only [List.length_cons]; omega
            · rw [List.filter_cons_of_neg (by simpa using h1)]
              by_cases h2 : yLt t y
              · rw [List.filter_cons_of_pos (by simpa using h2)]; simp only [List.length_cons]; omega
              · rw [List.filter_cons_of_neg (by simpa using h2)]; simp only [List.length_cons]; omega
        have := this L
        omega
      omega
  have h1 := this (x.l.filter (fun t => decide (t.id ≠ x.cur))) []
  have h2 : (x.l.filter (fun t => decide (t.id ≠ x.cur))).length ≤ x.l.length := List.length_filter_le ..
  unfold rdyO insAll
  simp at h1 ⊢; simp at h2; omega
/-! what is done -/
def newQ (g : Int) : Qm := ⟨bringO g 1 8, 0#64, [], -1, 0⟩
def addQ (x : Qm) (a : Int) (v : BitVec 64) (w : Int) : Qm := { x with l := x.l ++ [⟨plcO x v (bringO w 1 4096), a, bringO w 1 4096⟩] }
def addE (x : Qm) (a : Int) : Int := if a < 0 then 1 else if ixO x.l a < x.l.length then 12 else if 16 ≤ x.l.length then 3 else 0
def remQ (x : Qm) (a : Int) : Qm := if x.cur = a then { x with l := x.l.eraseIdx (ixO x.l a), cur := -1, ran := 0 } else { x with l := x.l.eraseIdx (ixO x.l a) }
/-! they keep a queue whole -/
theorem mem_erase_at {l : List Kv} {a : Int} (hn : (l.map (·.id)).Nodup) (h : ixO l a < l.length) (t : Kv) : t ∈ l.eraseIdx (ixO l a) ↔ t ∈ l ∧ t.id ≠ a := by
  induction l with
  | nil => simp at h
  | cons s l ih =>
    rw [List.map_cons, List.nodup_cons] at hn
    rw [ixO_cons] at h ⊢
    by_cases e : s.id = a
    · rw [if_pos e, List.eraseIdx_cons_zero, List.mem_cons]
      constructor
      · intro q; exact ⟨.inr q, fun e2 => hn.1 (List.mem_map.2 ⟨t, q, e2.trans e.symm⟩)⟩
      · rintro ⟨q | q, e2⟩
        · rw [q] at e2; exact absurd e e2
        · exact q
    · rw [if_neg e, List.length_cons] at h
      rw [if_neg e, List.eraseIdx_cons_succ, List.mem_cons, ih hn.2 (by omega), List.mem_cons]
      constructor
      · rintro (q | q)
        · rw [q]; exact ⟨.inl rfl, e⟩
        · exact ⟨.inr q.1, q.2⟩
      · rintro ⟨q | q, e2⟩
        · exact .inl q
        · exact .inr ⟨q, e2⟩
theorem nodup_erase {l : List Kv} {i : Nat} (h : (l.map (·.id)).Nodup) : ((l.eraseIdx i).map (·.id)).Nodup := List.Sublist.nodup (List.Sublist.map _ (List.eraseIdx_sublist ..)) h
theorem bring_in {n lo hi : Int} (h : lo ≤ hi) : lo ≤ bringO n lo hi ∧ bringO n lo hi ≤ hi := by unfold bringO; split; omega; split <;> omega
theorem QWf.ix {x : Qm} (h : QWf x) (hc : 0 ≤ x.cur) : ixO x.l x.cur < x.l.length := by
  rcases h.cur with e | e
  · omega
  · exact ixO_lt.2 e
theorem new_wf (g : Int) : QWf (newQ g) := ⟨List.nodup_nil, fun t h => (nomatch h), Nat.zero_le _, fun t h => (nomatch h), .inl rfl, bring_in (by decide), Int.le_refl _⟩
theorem add_wf {x : Qm} (h : QWf x) {a w : Int} {v : BitVec 64} (ha : addE x a = 0) : QWf (addQ x a v w) := by
  unfold addE at ha
  split at ha; · cases ha
  rename_i ha0
  split at ha; · cases ha
  rename_i ha1
  split at ha; · cases ha
  rename_i ha2
  refine ⟨?_, fun t ht => ?_, ?_, fun t ht => ?_, ?_, h.g, h.ran⟩
  · show ((x.l ++ [_]).map _).Nodup
    rw [List.map_append, List.nodup_append]
    refine ⟨h.nd, by simp, fun b hb c hc e => ?_⟩
    obtain ⟨t, ht, rfl⟩ := List.mem_map.1 hb
    simp at hc
    exact ha1 (ixO_lt.2 ⟨t, ht, e.trans hc⟩)
  · rcases List.mem_append.1 ht with q | q
    · exact h.pos t q
    · simp at q; subst q; show 0 ≤ a; omega
  · show (x.l ++ [_]).length ≤ 16
    rw [List.length_append]; simp; omega
  · rcases List.mem_append.1 ht with q | q
    · exact h.wt t q
    · simp at q; subst q; exact bring_in (by decide)
  · rcases h.cur with e | ⟨t, ht, e⟩
    · exact .inl e
    · exact .inr ⟨t, List.mem_append_left _ ht, e⟩
theorem add_rdy {x : Qm} (h : QWf x) {a w : Int} {v : BitVec 64} (ha : addE x a = 0) : insK (rdyO x) ⟨plcO x v (bringO w 1 4096), a, bringO w 1 4096⟩ = rdyO (addQ x a v w) := by
  have h' := add_wf (w := w) (v := v) h ha
  have ha2 : 0 ≤ a ∧ ¬ ixO x.l a < x.l.length := by
    unfold addE at ha
    split at ha; · cases ha
    split at ha; · cases ha
    exact ⟨by omega, by assumption⟩
  have hac : a ≠ x.cur := by
    rcases h.cur with e | e
    · omega
    · intro q; exact ha2.2 (ixO_lt.2 (by rw [q]; exact e))
  refine rdy_ins h.nd h'.nd (fun t ht _ e => ha2.2 (ixO_lt.2 ⟨t, ht, e⟩)) (fun t => ?_)
  show (t ∈ x.l ++ [_] ∧ t.id ≠ x.cur) ↔ _
  rw [List.mem_append, List.mem_singleton]
  constructor
  · rintro ⟨q | q, e⟩
    · exact .inl ⟨q, e⟩
    · exact .inr q
  · rintro (q | q)
    · exact ⟨.inl q.1, q.2⟩
    · subst q; exact ⟨.inr rfl, hac⟩
theorem rem_wf {x : Qm} (h : QWf x) {a : Int} (ha : ixO x.l a < x.l.length) : QWf (remQ x a) := by
  have hm := mem_erase_at h.nd ha
  have hl : (x.l.eraseIdx (ixO x.l a)).length ≤ 16 := Nat.le_trans (List.Sublist.length_le (List.eraseIdx_sublist ..)) h.len
  unfold remQ
  split
  · exact ⟨nodup_erase h.nd, fun t ht => h.pos t ((hm t).1 ht).1, hl, fun t ht => h.wt t ((hm t).1 ht).1, .inl rfl, h.g, Int.le_refl _⟩
  · rename_i hc
    refine ⟨nodup_erase h.nd, fun t ht => h.pos t ((hm t).1 ht).1, hl, fun t ht => h.wt t ((hm t).1 ht).1, ?_, h.g, h.ran⟩
    rcases h.cur with e | ⟨t, ht, e⟩
    · exact .inl e
    · exact .inr ⟨t, (hm t).2 ⟨ht, fun q => hc (e.symm.trans q)⟩, e⟩
theorem rem_rdyC {x : Qm} (h : QWf x) {a : Int} (ha : ixO x.l a < x.l.length) (hc : x.cur = a) : rdyO x = rdyO (remQ x a) := by
  refine rdy_same h.nd (rem_wf h ha).nd (fun t => ?_)
  have hm := mem_erase_at h.nd ha t
  unfold remQ
  rw [if_pos hc]
  show (t ∈ x.l.eraseIdx _ ∧ t.id ≠ -1) ↔ _
  rw [hm, hc]
  constructor
  · exact fun q => q.1
  · exact fun q => ⟨q, by have := h.pos t q.1; omega⟩
theorem rem_rdy {x : Qm} (h : QWf x) {a : Int} (ha : ixO x.l a < x.l.length) (hc : ¬ x.cur = a) {k : Kv} (hk : yEq k (x.l.getD (ixO x.l a) default)) : delK (rdyO x) k = rdyO (remQ x a) := by
  obtain ⟨h1, h2⟩ := ixO_hit ha
  refine rdy_del h.nd (rem_wf h ha).nd (fun t => ?_)
  have hm := mem_erase_at h.nd ha t
  unfold remQ
  rw [if_neg hc]
  show (t ∈ x.l.eraseIdx _ ∧ t.id ≠ x.cur) ↔ _
  rw [hm]
  constructor
  · rintro ⟨⟨q1, q2⟩, q3⟩
    exact ⟨⟨q1, q3⟩, fun e => q2 (e.2.symm.trans (hk.2.trans h1))⟩
  · rintro ⟨⟨q1, q2⟩, q3⟩
    refine ⟨⟨q1, fun e => q3 ?_⟩, q2⟩
    have := uniq_id h.nd q1 h2 (e.trans h1.symm)
    rw [this]; exact hk
/-! the least V -/
/-! weights -/
theorem load_app (l m : List Kv) : loadO (l ++ m) = loadO l + loadO m := by unfold loadO; rw [List.map_append, List.sum_append]
theorem load_erase {l : List Kv} {i : Nat} (h : i < l.length) : loadO (l.eraseIdx i) = loadO l - (l.getD i default).x := by
  induction l generalizing i with
  | nil => simp at h
  | cons t l ih =>
    cases i with
    | zero => simp [loadO]; omega
    | succ i =>
      have := ih (i := i) (by simpa using h)
      simp only [loadO, List.eraseIdx_cons_succ, List.map_cons, List.sum_cons, List.getD_cons_succ] at this ⊢
      omega
theorem load_bd : ∀ {l : List Kv}, (∀ t ∈ l, 1 ≤ t.x ∧ t.x ≤ 4096) → 0 ≤ loadO l ∧ loadO l ≤ 4096 * l.length
  | [], _ => by simp [loadO]
  | t :: l, h => by
    have h1 := h t (List.mem_cons_self ..)
    have h2 := load_bd (l := l) (fun s hs => h s (List.mem_cons_of_mem _ hs))
    simp only [loadO, List.map_cons, List.sum_cons, List.length_cons] at h2 ⊢
    omega
theorem QWf.load {x : Qm} (h : QWf x) : 0 ≤ loadO x.l ∧ loadO x.l ≤ 65536 := by
  have := load_bd h.wt
  have := h.len
  omega
end Go.Eng
