/- The walks of what a set of numbers is gone over with. No condition. -/
import Derived.Test.YtpemcncnehhgfaaDoorIds
set_option linter.unusedVariables false
set_option linter.unusedSimpArgs false
namespace Go.Eng
open Go Go.Proofs Go.RowKit

def AllT (s : BitVec 64) (n0 : Nat) (v : Value) (m : Mem0) : Prop := ∃ b1, v = .func (.func 56) #[] #[.pointer (some ⟨b1, 0, none⟩)] ∧ m = [uBx b1 s] ∧ n0 ≤ b1
theorem AllT.mono {s : BitVec 64} : ∀ (k k' : Nat) u m, k' ≤ k → AllT s k u m → AllT s k' u m := fun k k' u m h ⟨b1, h1, h2, h3⟩ => ⟨b1, h1, h2, by omega⟩
def allA (s : BitVec 64) : List (Array Value) := (allL s).map (fun i => #[.int .i64 (i : Nat)])
theorem allA_len (s : BitVec 64) : (allA s).length = (allL s).length := by simp [allA]
theorem allA_get {s x : BitVec 64} {k : Nat} (h : allL x = (allL s).drop k) (hx : x ≠ 0#64) : (allA s)[k]? = some #[.int .i64 (lsb x : Nat)] := by
  rw [allL_cons hx] at h
  have : (allL s)[k]? = some (lsb x) := by
    have h2 := congrArg (fun l => l[0]?) h
    simp only [List.getElem?_cons_zero, List.getElem?_drop, Nat.add_zero] at h2
    exact h2.symm
  unfold allA; rw [List.getElem?_map, this]; rfl
theorem allA_inv {s : BitVec 64} {k : Nat} {a : Array Value} (h : (allA s)[k]? = some a) : ∃ i, (allL s)[k]? = some i ∧ a = #[.int .i64 (i : Nat)] := by
  unfold allA at h; rw [List.getElem?_map, Option.map_eq_some_iff] at h
  obtain ⟨i, h1, rfl⟩ := h; exact ⟨i, h1, rfl⟩
def listI (s : BitVec 64) : List Int := (allL s).map (fun (i : Nat) => (i : Int))
theorem listI_len (s : BitVec 64) : (listI s).length = (allL s).length := by simp [listI]
theorem allL_len (s : BitVec 64) : (allL s).length ≤ 64 := by unfold allL; refine Nat.le_trans (List.length_filter_le _ _) ?_; simp
def listN (s : BitVec 64) (n : Nat) : List Int := ((List.range n).filter (fun i => s.getLsbD i)).map (fun (i : Nat) => (i : Int))
theorem listN_succ (s : BitVec 64) (n : Nat) : listN s (n + 1) = if s.getLsbD n = true then listN s n ++ [(n : Int)] else listN s n := by
  unfold listN; rw [List.range_succ, List.filter_append, List.map_append]; simp only [List.filter_cons, List.filter_nil]; split <;> simp
theorem listN_len (s : BitVec 64) (n : Nat) : (listN s n).length ≤ n := by unfold listN; rw [List.length_map]; refine Nat.le_trans (List.length_filter_le _ _) ?_; simp
set_option maxRecDepth 100000 in
theorem all_spec (s : BitVec 64) (w : World) : Ret Tryd.prog 18 #[U s] w (fun v w' => Ext w w' ∧ ∃ m, AllT s w.heap.size v m ∧ Mem w' m ∧ ∀ p ∈ m, w.heap.size ≤ p.1) := by
  refine Ret.enterM (l := [U s]) Tryd.func18 rfl Tryd.ntmps18 rfl ([]) (no) (Mem.nil w) ?_
  refine wpM.seq ?_
  refine wpM.region ?_
  refine LM.box rfl rfl (fun b1 hb1 => ?_)
  refine LM.val (ov_assign rfl) ?_
  refine LM.nil ?_
  refine QM.sub (e' := [(1, _)]) ⟨rfl, trivial⟩ ?_
  refine QM.then ?_
  refine wpM.seq ?_
  refine wpM.region ?_
  refine LM.val (ov_makeFunc rfl) ?_
  refine LM.val (ov_assign rfl) ?_
  refine LM.nil ?_
  refine QM.sub (e' := [(2, _)]) ⟨rfl, trivial⟩ ?_
  refine QM.then ?_
  refine wpM.ret ?_
  refine QM.leave (.inl rfl) [.tmp 2] Tryd.results18 rfl ?_
  intro w' hm' hc' hg'
  -- leaf 1: 
  exact ⟨hc', _, ⟨b1, rfl, rfl, hb1⟩, SubM.mem (by (repeat' (first | exact SubM.nil _ | refine SubM.cons rfl ?_ | refine SubM.app ?_))) _ hm', fun p hp => by simp only [List.mem_cons, List.not_mem_nil, or_false] at hp; subst hp; assumption⟩

set_option maxRecDepth 100000 in
theorem all_seq {s : BitVec 64} {b1 : Nat} : SeqC Tryd.prog 56 #[.pointer (some ⟨b1, 0, none⟩)] (allA s) (fun w => Mem w [uBx b1 s] ∧ Tab w) (True) := by
  refine SeqC.enter (lb := [.pointer (some ⟨b1, 0, none⟩)]) Tryd.func56 rfl Tryd.ntmps56 rfl ?_
  intro l n0 J Jx w0 hfin hJr gJ gJx hy
  refine wpM.seq ?_
  refine wpM.region ?_
  refine LM.rdC (fun w _ _ hg => om_load 0 Tryd.isAgg23 rfl rfl rfl w (hJr _ w hg).1) ?_
  refine LM.val (ov_assign rfl) ?_
  refine LM.nil ?_
  refine QM.sub (e' := [(0, _), (3, _)]) ⟨rfl, rfl, trivial⟩ ?_
  refine QM.then ?_
  refine wpM.block ?_
  refine wpM.loopK (α := Nat × BitVec 64) (fun ⟨k, x⟩ => [(3, U x)]) [(0, _)] (fun ⟨k, x⟩ => []) (fun ⟨k, x⟩ => J k) (fun ⟨k, x⟩ => allL x = (allL s).drop k ∧ k ≤ (allL s).length) (fun ⟨k, x⟩ => (allL s).length - k) ((0, s)) ⟨(by first | rfl | exact lk rfl (by congr 1; omega) | exact lk rfl (by simp)), rfl, trivial⟩ (by (repeat' (first | exact SubM.nil _ | refine SubM.cons rfl ?_ | refine SubM.app ?_))) (fun _ h => h) ⟨rfl, Nat.zero_le _⟩ ?_
  rintro ⟨k, x⟩ ⟨hx, hk⟩
  change wpM _ _ _ _ _ _ _ ([]) _ _ _
  refine wpM.seq ?_
  refine wpM.seq ?_
  refine wpM.region ?_
  refine LM.val (ov_move rfl) ?_
  refine LM.val (ov_uneq (b := 0#64) rfl rfl) ?_
  refine LM.nil ?_
  refine QM.sub (e' := [(0, _), (3, _), (6, _)]) ⟨rfl, rfl, rfl, trivial⟩ ?_
  refine QM.then ?_
  first | refine wpM.condD rfl (fun h1 => ?_) (fun h1 => ?_) | refine wpM.condB rfl (fun h1 => ?_) (fun h1 => ?_)
  ·
    refine wpM.skip ?_
    refine QM.then ?_
    refine wpM.seq ?_
    refine wpM.block ?_
    refine wpM.seq ?_
    refine wpM.region ?_
    refine LM.val (ov_move rfl) ?_
    refine LM.val (ov_move rfl) ?_
    refine LM.callE (oc_call (enters_fn Tryd.func57 (by kernel_rfl) rfl) rfl) (fun w hm hc hg => trail_spec _ w (hJr _ w hg).2) ?_
    refine LM.mem (M' := []) (fun w _ => Mem.nil w) ?_
    refine LM.yield (n := n0) (G1 := J (k + 1)) (G2 := Jx) rfl rfl (fun w hj => hy (k) _ w (allA_get hx h1) hj) (fun _ => trivial) ?_ ?_
    ·
      first | refine LM.val (ov_notD rfl) ?_ | refine LM.val (ov_not rfl) ?_
      refine LM.nil ?_
      refine QM.sub (e' := [(0, _), (3, _), (15, _)]) ⟨rfl, rfl, rfl, trivial⟩ ?_
      refine QM.then ?_
      refine wpM.condF rfl ?_
      refine wpM.skip ?_
      refine QM.block_normal ?_
      refine QM.then ?_
      refine wpM.region ?_
      refine LM.val (ov_move rfl) ?_
      refine LM.val (ov_move rfl) ?_
      refine LM.val (ov_usub (b := 1#64) rfl rfl) ?_
      refine LM.val (ov_uand rfl rfl) ?_
      refine LM.val (ov_assign rfl) ?_
      refine LM.nil ?_
      refine QM.sub (e' := [(0, _), (3, _)]) ⟨rfl, rfl, trivial⟩ ?_
      -- again1: h1+
      have hlt : k < (allL s).length := (by have h2 := congrArg List.length hx; rw [allL_cons h1, List.length_cons, List.length_drop] at h2; omega)
      refine QM.againK (k + 1, x &&& (x - 1#64)) ⟨(by first | rfl | exact lk rfl (by congr 1; omega) | exact lk rfl (by simp)), rfl, trivial⟩ (by (repeat' (first | exact SubM.nil _ | refine SubM.cons rfl ?_ | refine SubM.app ?_))) (fun _ h => h) ?_ ?_
      · refine ⟨?_, by omega⟩; rw [allL_cons h1] at hx; have h2 := congrArg List.tail hx; rw [List.tail_cons, List.tail_drop] at h2; exact h2
      · first | omega | (dsimp only; omega)
    ·
      first | refine LM.val (ov_notD rfl) ?_ | refine LM.val (ov_not rfl) ?_
      refine LM.nil ?_
      refine QM.sub (e' := [(0, _), (3, _), (15, _)]) ⟨rfl, rfl, rfl, trivial⟩ ?_
      refine QM.then ?_
      refine wpM.condT rfl ?_
      refine wpM.ret ?_
      refine QM.block_ret ?_
      refine QM.then_ret ?_
      refine QM.then_ret ?_
      refine QM.block_ret ?_
      refine QM.leave (.inl rfl) [] Tryd.results56 rfl ?_
      intro w' hm' hc' hg'
      -- leaf 1: h1+
      exact .inr hg'
  ·
    refine wpM.exit ?_
    refine QM.then_exit ?_
    refine QM.then_exit ?_
    refine QM.block_hit ?_
    refine QM.leave (.inr rfl) [] Tryd.results56 rfl ?_
    intro w' hm' hc' hg'
    -- leaf 2: h1-
    have h0 : x = 0#64 := (by simpa using h1); subst h0; rw [allL_zero] at hx; have h2 := congrArg List.length hx; rw [List.length_nil, List.length_drop] at h2; exact .inl (by rw [allA_len, show (allL s).length = k by omega]; exact hg')

set_option maxRecDepth 100000 in
theorem rlist_spec (s : BitVec 64) (w : World) : Ret Tryd.prog 17 #[U s] w (New fI 3 1 (listI s) w) := by
  refine Ret.enterM (l := [U s]) Tryd.func17 rfl Tryd.ntmps17 rfl ([]) (no) (Mem.nil w) ?_
  refine wpM.seq ?_
  refine wpM.region ?_
  refine LM.val (ov_assign rfl) ?_
  refine LM.nil ?_
  refine QM.sub (e' := [(0, _)]) ⟨rfl, trivial⟩ ?_
  refine QM.then ?_
  refine wpM.seq ?_
  refine wpM.region ?_
  refine LM.val (ov_assign rfl) ?_
  refine LM.nil ?_
  refine QM.sub (e' := [(0, _), (3, _)]) ⟨rfl, rfl, trivial⟩ ?_
  refine QM.then ?_
  refine wpM.seq ?_
  refine wpM.seq ?_
  refine wpM.region ?_
  refine LM.val (ov_assign rfl) ?_
  refine LM.nil ?_
  refine QM.sub (e' := [(0, _), (3, _), (4, _)]) ⟨rfl, rfl, rfl, trivial⟩ ?_
  refine QM.then ?_
  refine wpM.block ?_
  refine wpM.loopK0 (α := Nat × Option Addr × Nat × Nat × Mem0) (fun ⟨i, ad, n, cap, m⟩ => [(3, .slice ad n cap), (4, .int .i64 (i : Nat))]) [(0, _)] (fun ⟨i, ad, n, cap, m⟩ => m ++ []) (fun ⟨i, ad, n, cap, m⟩ => i ≤ 64 ∧ n = (listN s i).length ∧ Sl fI 3 1 w.heap.size (listN s i) (.slice ad n cap) m) (fun ⟨i, ad, n, cap, m⟩ => 64 - i) ((0, none, 0, 0, [])) ⟨(by first | rfl | exact lk rfl (by congr 1; omega) | exact lk rfl (by simp)), (by first | rfl | exact lk rfl (by congr 1; omega) | exact lk rfl (by simp)), rfl, trivial⟩ (by (repeat' (first | exact SubM.nil _ | refine SubM.cons rfl ?_ | refine SubM.app ?_))) ⟨Nat.zero_le _, rfl, .nil _ _ _ _⟩ ?_
  rintro ⟨i, ad, n, cap, m⟩ ⟨hi, hn, hs⟩
  change wpM _ _ _ _ _ _ _ (m ++ []) _ _ _
  have hll := listN_len s i
  refine wpM.seq ?_
  refine wpM.seq ?_
  refine wpM.region ?_
  refine LM.val (ov_move rfl) ?_
  refine LM.val (ov_lss rfl rfl) ?_
  refine LM.nil ?_
  refine QM.sub (e' := [(0, _), (3, _), (4, _), (6, _)]) ⟨rfl, rfl, rfl, rfl, trivial⟩ ?_
  refine QM.then ?_
  first | refine wpM.condD rfl (fun h1 => ?_) (fun h1 => ?_) | refine wpM.condB rfl (fun h1 => ?_) (fun h1 => ?_)
  ·
    refine wpM.skip ?_
    refine QM.then ?_
    refine wpM.seq ?_
    refine wpM.block ?_
    refine wpM.seq ?_
    refine wpM.region ?_
    refine LM.val (ov_move rfl) ?_
    refine LM.val (ov_move rfl) ?_
    refine LM.callE (oc_call (enters_fn Tryd.func20 (by kernel_rfl) rfl) rfl) (fun w hm hc hg => rhas_spec _ _ w) ?_
    refine LM.nil ?_
    refine QM.sub (e' := [(0, _), (3, _), (4, _), (11, _)]) ⟨rfl, rfl, rfl, rfl, trivial⟩ ?_
    refine QM.then ?_
    first | refine wpM.condD rfl (fun h2 => ?_) (fun h2 => ?_) | refine wpM.condB rfl (fun h2 => ?_) (fun h2 => ?_)
    ·
      refine wpM.region ?_
      refine LM.val (ov_move rfl) ?_
      refine LM.val (ov_move rfl) ?_
      refine LM.single Tryd.underlying22 Tryd.sizeOf3 Tryd.zeroValue3 rfl rfl rfl rfl rfl (fun b14 hb14 => ?_)
      refine LM.app Tryd.underlying22 Tryd.typeInfo3 rfl rfl rfl rfl rfl rfl rfl (by assumption) (by rfl) (by intro _; rfl) (by intro _ u hu; simp [fI] at hu; (repeat (first | (rcases hu with rfl | hu) | subst hu | rfl))) (by first | exact Nat.le_refl _ | omega) (fun p hp hlt => absurd hlt (Nat.not_lt_of_le (Sl.ge (by assumption) p hp))) (by first | omega | (unfold maxLen; omega)) (by simp only [Tryd.t3]; omega) (fun ad15 n15 cap15 m15 hn15 hs15 hin15 => ?_)
      refine LM.val (ov_assign rfl) ?_
      refine LM.nil ?_
      refine QM.sub (e' := [(0, _), (3, _), (4, _)]) ⟨rfl, rfl, rfl, trivial⟩ ?_
      refine QM.block_normal ?_
      refine QM.then ?_
      refine wpM.region ?_
      refine LM.val (ov_move rfl) ?_
      refine LM.val (ov_add64 rfl rfl (by omega)) ?_
      refine LM.val (ov_assign rfl) ?_
      refine LM.nil ?_
      refine QM.sub (e' := [(0, _), (3, _), (4, _)]) ⟨rfl, rfl, rfl, trivial⟩ ?_
      -- again1: h1+ h2+
      refine QM.againK (i + 1, ad15, n15, cap15, m15) ⟨(by first | rfl | exact lk rfl (by congr 1; omega) | exact lk rfl (by simp)), (by first | rfl | exact lk rfl (by congr 1; omega) | exact lk rfl (by simp)), rfl, trivial⟩ (by (repeat' (first | exact SubM.nil _ | refine SubM.cons rfl ?_ | refine SubM.app ?_))) (fun _ h => h) ?_ ?_
      · rw [hasB_nat] at h2; have hl := listN_succ s i; rw [if_pos h2] at hl; exact ⟨by omega, by rw [hl, List.length_append]; simp; omega, by rw [hl]; exact hs15⟩
      · first | omega | (dsimp only; omega)
    ·
      refine wpM.skip ?_
      refine QM.block_normal ?_
      refine QM.then ?_
      refine wpM.region ?_
      refine LM.val (ov_move rfl) ?_
      refine LM.val (ov_add64 rfl rfl (by omega)) ?_
      refine LM.val (ov_assign rfl) ?_
      refine LM.nil ?_
      refine QM.sub (e' := [(0, _), (3, _), (4, _)]) ⟨rfl, rfl, rfl, trivial⟩ ?_
      -- again2: h1+ h2-
      refine QM.againK (i + 1, ad, n, cap, m) ⟨(by first | rfl | exact lk rfl (by congr 1; omega) | exact lk rfl (by simp)), (by first | rfl | exact lk rfl (by congr 1; omega) | exact lk rfl (by simp)), rfl, trivial⟩ (by (repeat' (first | exact SubM.nil _ | refine SubM.cons rfl ?_ | refine SubM.app ?_))) (fun _ h => h) ?_ ?_
      · rw [hasB_nat] at h2; have hl := listN_succ s i; rw [if_neg (by rw [h2]; simp)] at hl; exact ⟨by omega, by rw [hl]; exact hn, by rw [hl]; exact hs⟩
      · first | omega | (dsimp only; omega)
  ·
    refine wpM.exit ?_
    refine QM.then_exit ?_
    refine QM.then_exit ?_
    refine QM.block_hit ?_
    refine QM.then ?_
    refine wpM.seq ?_
    refine wpM.region ?_
    refine LM.val (ov_move rfl) ?_
    refine LM.val (ov_assign rfl) ?_
    refine LM.nil ?_
    refine QM.sub (e' := [(2, _)]) ⟨rfl, trivial⟩ ?_
    refine QM.then ?_
    refine wpM.ret ?_
    refine QM.leave (.inl rfl) [.tmp 2] Tryd.results17 rfl ?_
    intro w' hm' hc' hg'
    -- leaf 1: h1-
    have hi64 : i = 64 := (by omega); subst hi64; exact ⟨hc', m, hs, hm'.pick m⟩

end Go.Eng

