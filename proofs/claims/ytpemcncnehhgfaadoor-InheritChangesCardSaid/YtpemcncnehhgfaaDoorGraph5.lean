/- The walks of a graph's edges. No condition. -/
import Derived.Test.YtpemcncnehhgfaaDoorGraph4
import Derived.Test.YtpemcncnehhgfaaDoorGraph3
import Derived.Test.YtpemcncnehhgfaaDoorEng10
set_option linter.unusedVariables false
set_option linter.unusedSimpArgs false
namespace Go.Eng
open Go Go.Proofs Go.RowKit

abbrev pB (c : Nat) (g : Option Addr) : Nat × Obj := (c, .cells #[.pointer g] 38 (0, 0))
abbrev yB (c l : Nat) : Nat × Obj := (c, .cells #[.func (.yield l) #[] #[]] 91 (0, 0))
abbrev iB (c : Nat) (i : Int) : Nat × Obj := (c, .cells #[.int .i64 i] 3 (0, 0))
def EdgT (g : Option Addr) (n0 : Nat) (v : Value) (m : Mem0) : Prop := ∃ c1, v = .func (.func 68) #[] #[.pointer (some ⟨c1, 0, none⟩)] ∧ m = [pB c1 g] ∧ n0 ≤ c1
theorem EdgT.mono {g : Option Addr} : ∀ (k k' : Nat) u m, k' ≤ k → EdgT g k u m → EdgT g k' u m := fun k k' u m h ⟨b1, h1, h2, h3⟩ => ⟨b1, h1, h2, by omega⟩
def edA (G : Gr) : List (Array Value) := (edN G 64).map (fun e => #[.agg (fEd e).toArray])
theorem edA_len (G : Gr) : (edA G).length = (edN G 64).length := by simp [edA]
theorem edN_get {G : Gr} {who k i : Nat} (h : (allL (ot G who))[k]? = some i) : ∀ n, who < n → (edN G n)[(edN G who).length + k]? = some ⟨who, i⟩
  | 0, hw => by omega
  | n + 1, hw => by
    rw [edN_succ]
    by_cases e : who = n
    · subst e
      rw [List.getElem?_append_right (by omega), Nat.add_sub_cancel_left]
      unfold edI; rw [List.getElem?_map, h]; rfl
    · have := edN_get h n (by omega)
      rw [List.getElem?_append_left (List.getElem?_eq_some_iff.1 this).1]; exact this
theorem edA_get {G : Gr} {who k i : Nat} (h : (allL (ot G who))[k]? = some i) (hw : who < 64) : (edA G)[(edN G who).length + k]? = some #[.agg #[.int .i64 (who : Nat), .int .i64 (i : Nat)]] := by
  unfold edA; rw [List.getElem?_map, edN_get h 64 hw]; rfl
theorem edN_next (G : Gr) (who : Nat) : (edN G who).length + (allL (ot G who)).length = (edN G (who + 1)).length := by
  rw [edN_succ, List.length_append]; unfold edI; rw [List.length_map]
theorem gof_in {b : Nat} {G : Gr} {who : Nat} (hw : who < 64) (w : World) (hG : G.length = 64) (hM : Mem w [gB b G]) : Ret Tryd.prog 31 #[.pointer (some ⟨b, 0, none⟩), .int .i64 (who : Nat)] w (fun v w' => v = U (ot G who) ∧ Ext w w') := by
  have h := gof_spec b G (who : Nat) w hG hM
  have e : ofG G (who : Nat) = ot G who := by unfold ofG; rw [if_pos (inG_iff.2 ⟨by omega, by omega⟩), Int.toNat_natCast]
  rw [e] at h; exact h
set_option maxRecDepth 100000 in
theorem edges_spec (g : Option Addr) (w : World) : Ret Tryd.prog 52 #[.pointer g] w (fun v w' => Ext w w' ∧ ∃ m, EdgT g w.heap.size v m ∧ Mem w' m ∧ ∀ p ∈ m, w.heap.size ≤ p.1) := by
  refine Ret.enterM (l := [.pointer g]) Tryd.func52 rfl Tryd.ntmps52 rfl ([]) (no) (Mem.nil w) ?_
  refine wpM.seq ?_
  refine wpM.region ?_
  refine LM.box rfl rfl (fun b1 hb1 => ?_)
  refine LM.val (ov_assign rfl) ?_
  refine LM.nil ?_
  refine QM.sub (e' := [(1, _)]) ⟨rfl, trivial⟩ ?_
  refine QM.then ?_
  refine wpM.seq ?_
  refine wpM.region ?_
  refine LM.val (ov_makeFunc rfl) ?_
  refine LM.val (ov_assign rfl) ?_
  refine LM.nil ?_
  refine QM.sub (e' := [(2, _)]) ⟨rfl, trivial⟩ ?_
  refine QM.then ?_
  refine wpM.ret ?_
  refine QM.leave (.inl rfl) [.tmp 2] Tryd.results52 rfl ?_
  intro w' hm' hc' hg'
  -- leaf 1: 
  exact ⟨hc', _, ⟨b1, rfl, rfl, hb1⟩, SubM.mem (by (repeat' (first | exact SubM.nil _ | refine SubM.cons rfl ?_ | refine SubM.app ?_))) _ hm', fun p hp => by simp only [List.mem_cons, List.not_mem_nil, or_false] at hp; subst hp; assumption⟩

set_option maxRecDepth 100000 in
theorem edges_seq {b1 b : Nat} {G : Gr} (hlen : G.length = 64) : SeqCP Tryd.prog 68 #[.pointer (some ⟨b1, 0, none⟩)] (edA G) (fun w => Mem w [pB b1 (some ⟨b, 0, none⟩)] ∧ Mem w [gB b G] ∧ Tab w) (True) := by
  refine SeqCP.enter (lb := [.pointer (some ⟨b1, 0, none⟩)]) Tryd.func68 rfl Tryd.ntmps68 rfl ?_
  intro l0 n0 J Jx w0 hn0 hfin hJr hL hy
  refine wpM.openJ (n := n0) (fun wj1 hmj1 hCj1 hjj1 hkj1 => ?_)
  refine wpM.seq ?_
  refine wpM.region ?_
  refine LM.box rfl rfl (fun b2 hb2 => ?_)
  refine LM.nil ?_
  refine QM.sub (e' := [(1, _), (2, _)]) ⟨rfl, rfl, trivial⟩ ?_
  refine QM.then ?_
  refine wpM.seq ?_
  refine wpM.region ?_
  refine LM.val (ov_move rfl) ?_
  refine LM.nil ?_
  refine QM.sub (e' := [(1, _), (2, _), (5, _)]) ⟨rfl, rfl, rfl, trivial⟩ ?_
  refine QM.then ?_
  refine wpM.block ?_
  refine wpM.closeJ hL hCj1 hjj1 hkj1 (kk_top _) (((fun who => yB b2 l0 :: []) : Nat → Mem0) (0)) (SubM.mem (by (try dsimp only); (repeat' (first | exact SubM.nil _ | refine SubM.cons rfl ?_ | refine SubM.app ?_)))) (by (try dsimp only); (repeat' (first | exact pn_nil | refine pn_cons (by first | (left; omega) | (right; simp; done)) rfl ?_))) ?_
  refine wpM.loopD (α := Nat) (fun who => [(5, .int .i64 (who : Nat))]) [(1, _), (2, _)] (fun who => yB b2 l0 :: []) (fun who => (fun w => J ((edN G who).length) (yB b2 l0 :: []) w ∧ top w)) (fun who => who ≤ 64) (fun who => 64 - who) (0) ⟨(by first | rfl | exact lk rfl (by congr 1; omega) | exact lk rfl (by simp)), rfl, rfl, trivial⟩ (by (repeat' (first | exact SubM.nil _ | refine SubM.cons rfl ?_ | refine SubM.app ?_))) (fun _ h => h) (Nat.zero_le _) ?_
  rintro who ds1 hds1 hwho
  change wpM _ _ _ _ _ _ _ (dM ds1 ++ (yB b2 l0 :: [])) _ _ _
  refine wpM.openJ (n := n0) (fun wj2 hmj2 hCj2 hjj2 hkj2 => ?_)
  refine wpM.seq ?_
  refine wpM.region ?_
  refine LM.val (ov_lss rfl rfl) ?_
  refine LM.nil ?_
  refine QM.sub (e' := [(1, _), (2, _), (5, _), (6, _)]) ⟨rfl, rfl, rfl, rfl, trivial⟩ ?_
  refine QM.then ?_
  refine wpM.seq ?_
  first | refine wpM.condD rfl (fun h1 => ?_) (fun h1 => ?_) | refine wpM.condB rfl (fun h1 => ?_) (fun h1 => ?_)
  ·
    refine wpM.skip ?_
    refine QM.then ?_
    refine wpM.seq ?_
    refine wpM.block ?_
    refine wpM.seq ?_
    refine wpM.region ?_
    refine LM.val (ov_move rfl) ?_
    refine LM.alloc Tryd.zeroValue3 rfl (fun b3 hb3 => ?_)
    refine LM.st Tryd.sizeOf3 rfl rfl rfl (by first | decide | exact Nat.le_of_ble_eq_true rfl | (simp; done) | (simp; omega)) rfl (fun hlt => by first | exact absurd hlt (by omega) | (simp [inM]; done)) ?_
    refine LM.nil ?_
    refine QM.sub (e' := [(1, _), (2, _), (3, _), (5, _)]) ⟨rfl, rfl, rfl, rfl, trivial⟩ ?_
    refine QM.then ?_
    refine wpM.seq ?_
    refine wpM.region ?_
    refine LM.rdC (fun w hm hc hg => om_load 0 Tryd.isAgg38 rfl rfl rfl w ((hL.rd hJr hjj2 hc)).1) ?_
    first | refine LM.rd (om_ld Tryd.isAgg3 rfl rfl) ?_
    refine LM.callE (oc_call (enters_fn Tryd.func31 (by kernel_rfl) rfl) rfl) (fun w hm hc hg => gof_in (by omega) w hlen ((hL.rd hJr hjj2 hc)).2.1) ?_
    refine LM.callT (oc_call (enters_fn Tryd.func18 (by kernel_rfl) rfl) rfl) AllT.mono (fun w hm hc hg => all_spec _ w) ?_
    rintro u9 m9 ⟨c1, rfl, rfl, hc1⟩ -
    refine LM.nil ?_
    refine QM.sub (e' := [(1, _), (2, _), (3, _), (5, _), (11, _)]) ⟨rfl, rfl, rfl, rfl, rfl, trivial⟩ ?_
    refine QM.then ?_
    refine wpM.block ?_
    refine wpM.closeJ hL hCj2 hjj2 hkj2 (kk_top _) (yB b2 l0 :: iB b3 (who : Nat) :: uBx c1 (ot G who) :: []) (SubM.mem (by (try dsimp only); (repeat' (first | exact SubM.nil _ | refine SubM.cons rfl ?_ | refine SubM.app ?_)))) (by (try dsimp only); (repeat' (first | exact pn_nil | refine pn_cons (by first | (left; omega) | (right; simp; done)) rfl ?_))) ?_
    refine wpM.toRange (α := Unit) (fun k ⟨⟩ => dM ds1 ++ (yB b2 l0 :: iB b3 (who : Nat) :: uBx c1 (ot G who) :: [])) (⟨⟩) (by (repeat' (first | exact SubM.nil _ | refine SubM.cons rfl ?_ | refine SubM.app ?_))) ?_
    refine wpM.rangeJ (α := Unit) (β := Unit) (enters_fn Tryd.func56 (by kernel_rfl) rfl) rfl (all_seq (s := ot G who)) (fun k ⟨⟩ => dM ds1 ++ (yB b2 l0 :: iB b3 (who : Nat) :: uBx c1 (ot G who) :: [])) (fun k ⟨⟩ => (fun w => J ((edN G who).length + k) (yB b2 l0 :: iB b3 (who : Nat) :: uBx c1 (ot G who) :: []) w ∧ top w)) (fun k ⟨⟩ => True) (fun ⟨⟩ => dM ds1 ++ []) (fun _ => (fun w => Jx w ∧ top w)) (fun c ⟨⟩ => c = .ret ∧ True) ⟨⟩ rfl (fun _ h => h) trivial (by kernel_rfl) (by intro k av hav; obtain ⟨i, hi, rfl⟩ := allA_inv hav; rfl) (.inl trivial) (fun k a w hm hc hg _ => ⟨SubM.mem (by (repeat' (first | exact SubM.nil _ | refine SubM.cons rfl ?_ | refine SubM.app ?_))) w hm, (hJr _ _ _ hg.1).2.2⟩) (fun w hg _ _ => gl_j hL (hL.le _ _ _ hg.1) (gl_top _)) (fun w hg _ => gl_x hL (hL.le _ _ _ hg.1) (gl_top _)) (fun k x _ => by ((repeat (refine mm_cons rfl ?_)); exact fun p hp => .inl (by first | exact hp | (simp at hp; done) | (simp [hp]; done) | (simp at hp ⊢; first | exact .inl hp | exact hp | (simp [hp]; done))))) (fun c z _ => by ((repeat (refine mm_cons rfl ?_)); exact fun p hp => .inl (by first | exact hp | (simp at hp; done) | (simp [hp]; done) | (simp at hp ⊢; first | exact .inl hp | exact hp | (simp [hp]; done))))) ?_ ?_ ?_ ?_
    ·
      rintro k av ⟨⟩ l D rc n1 W1 hnn hD hll hput hrc hav -
      have hnn1 : n0 ≤ n1 := (by obtain ⟨w, hg, hw⟩ := hnn; exact Nat.le_trans (hL.le _ _ _ hg.1) hw)
      change wpM _ _ _ _ _ _ _ ((l, Obj.loop rc) :: ([(D, Obj.deferred (some []))] ++ (dM ds1 ++ (yB b2 l0 :: iB b3 (who : Nat) :: uBx c1 (ot G who) :: [])))) _ _ _
      obtain ⟨i, hi, rfl⟩ := allA_inv hav
      refine wpM.region ?_
      refine LM.val (ov_assign rfl) ?_
      refine LM.nil ?_
      refine QM.sub (e' := [(2, _), (3, _), (4, _)]) ⟨rfl, rfl, rfl, trivial⟩ ?_
      refine QM.toBodyF (hput k ⟨⟩) hll ?_
      refine wpM.openJ2 (n := n0) (fun wj3 hmj3 hCj3 hjj3 hkj3 => ?_)
      refine wpM.block ?_
      refine wpM.seq ?_
      refine wpM.region ?_
      first | refine LM.rd (om_ld Tryd.isAgg91 rfl rfl) ?_
      first | refine LM.rd (om_ld Tryd.isAgg3 rfl rfl) ?_
      refine LM.val (ov_move rfl) ?_
      refine LM.val (ov_build (cs := #[_, _]) rfl (by first | rfl | kernel_rfl)) ?_
      refine LM.yieldJ (n := n0) (k := ((edN G who).length + k)) hL rfl rfl (fun m w hj => hy (((edN G who).length + k)) _ m w (edA_get hi (by omega)) hj) hCj3 hjj3 hkj3 (kk_and (kk_top _) hnn1) ((l, Obj.loop (busyOf rc)) :: (D, Obj.deferred (some [])) :: (dM ds1 ++ ([]))) (yB b2 l0 :: iB b3 (who : Nat) :: uBx c1 (ot G who) :: []) ((l, Obj.loop (busyOf rc)) :: (D, Obj.deferred (some [])) :: (dM ds1 ++ (yB b2 l0 :: iB b3 (who : Nat) :: uBx c1 (ot G who) :: []))) (by simp only [List.append_assoc, List.cons_append, List.nil_append]) (SubM.mem (by (repeat' (first | exact SubM.nil _ | refine SubM.cons rfl ?_ | refine SubM.app ?_)))) (by (repeat' (first | exact pn_nil | refine lo_cons (by omega) rfl ?_ | refine lo_dm (by intro D hD; first | (have := hds1 D hD; omega) | (have := hds2 D hD; omega)) ?_))) (by (try dsimp only); (repeat' (first | exact pn_nil | refine pn_cons (by first | (left; omega) | (right; simp; done)) rfl ?_))) (fun wj4 hmj4 hCj4 hjj4 hkj4 => ?_) (fun wj4 hmj4 hCj4 hjj4 hkj4 => ?_)
      ·
        change LM _ _ _ _ _ _ _ _ ((l, Obj.loop (busyOf rc)) :: (D, Obj.deferred (some [])) :: (dM ds1 ++ (yB b2 l0 :: iB b3 (who : Nat) :: uBx c1 (ot G who) :: []))) _ _ _
        first | refine LM.val (ov_notD rfl) ?_ | refine LM.val (ov_not rfl) ?_
        refine LM.nil ?_
        refine QM.sub (e' := [(18, _)]) ⟨rfl, trivial⟩ ?_
        refine QM.then ?_
        refine wpM.condF rfl ?_
        refine wpM.skip ?_
        refine QM.block_normal ?_
        -- next1: h1+
        refine QM.closeJ2 hL hCj4 hjj4 hkj4 (kk_and (kk_top _) hnn1) ((fun (k : Nat) => ((fun ⟨⟩ => yB b2 l0 :: iB b3 (who : Nat) :: uBx c1 (ot G who) :: []) : Unit → Mem0)) (k + 1) (⟨⟩)) (SubM.mem (by (try dsimp only); (repeat' (first | exact SubM.nil _ | refine SubM.cons rfl ?_ | refine SubM.app ?_)))) (by (try dsimp only); (repeat' (first | exact pn_nil | refine pn_cons (by first | (left; omega) | (right; simp; done)) rfl ?_))) ?_
        refine QM.next (⟨⟩) (SubM.mem (by (repeat' (first | exact SubM.nil _ | refine SubM.cons rfl ?_ | refine SubM.app ?_)))) (fun _ h => h) ?_
        · trivial
      ·
        change LM _ _ _ _ _ _ _ _ ((l, Obj.loop (busyOf rc)) :: (D, Obj.deferred (some [])) :: (dM ds1 ++ ([]))) _ _ _
        first | refine LM.val (ov_notD rfl) ?_ | refine LM.val (ov_not rfl) ?_
        refine LM.nil ?_
        refine QM.sub (e' := [(18, _)]) ⟨rfl, trivial⟩ ?_
        refine QM.then ?_
        refine wpM.condT rfl ?_
        refine wpM.ret ?_
        refine QM.block_ret ?_
        -- ret1: h1+
        refine QM.closeX2 hL hCj4 hjj4 hkj4 (kk_and (kk_top _) hnn1) ?_
        refine QM.rret (⟨⟩) (SubM.mem (by (repeat' (first | exact SubM.nil _ | refine SubM.cons rfl ?_ | refine SubM.app ?_)))) (fun _ h => h) ?_
        · exact ⟨rfl, trivial⟩
    ·
      rintro ⟨⟩ D0 hD0 -
      refine QM.openJ (n := n0) (fun wj5 hmj5 hCj5 hjj5 hkj5 => ?_)
      refine QM.sub (e' := [(1, _), (2, _), (5, _)]) ⟨rfl, rfl, rfl, trivial⟩ ?_
      refine QM.block_normal ?_
      refine QM.block_normal ?_
      refine QM.then ?_
      refine wpM.region ?_
      refine LM.val (ov_add64 rfl rfl (by omega)) ?_
      refine LM.val (ov_move rfl) ?_
      refine LM.nil ?_
      refine QM.sub (e' := [(1, _), (2, _), (5, _)]) ⟨rfl, rfl, rfl, trivial⟩ ?_
      -- again1: h1+
      refine QM.closeJ hL hCj5 hjj5 hkj5 (kk_top _) (((fun who => yB b2 l0 :: []) : Nat → Mem0) (who + 1)) (SubM.mem (by (try dsimp only); (repeat' (first | exact SubM.nil _ | refine SubM.cons rfl ?_ | refine SubM.app ?_)))) (by (try dsimp only); (repeat' (first | exact pn_nil | refine pn_cons (by first | (left; omega) | (right; simp; done)) rfl ?_))) ?_
      refine QM.againD (who + 1) ⟨(by first | rfl | exact lk rfl (by congr 1; omega) | exact lk rfl (by simp)), rfl, rfl, trivial⟩ (by change SubM _ ((D0, Obj.deferred (some [])) :: (dM ds1 ++ ((fun who => yB b2 l0 :: []) (who + 1)))); dsimp only; (repeat' (first | exact SubM.nil _ | refine SubM.cons rfl ?_ | refine SubM.app ?_))) (hd_cons hD0 hds1) (fun w h => by rw [← edN_next]; rw [allA_len] at h; exact h) ?_ ?_
      · omega
      · first | omega | (dsimp only; omega)
    ·
      rintro ⟨⟩ D0 hD0 hx
      obtain ⟨-, hx⟩ := hx
      refine QM.openX (n := n0) (fun wj6 hmj6 hCj6 hjj6 hkj6 => ?_)
      refine QM.block_ret ?_
      refine QM.block_ret ?_
      refine QM.then_ret ?_
      refine QM.then_ret ?_
      refine QM.block_ret ?_
      refine QM.closeX hL hCj6 hjj6 hkj6 (kk_top _) ?_
      refine QM.leaveDJ (ds := (D0 :: ds1)) (.inl rfl) [] Tryd.results68 rfl hn0 (hd_cons hD0 hds1) (gl_x hL (Nat.le_refl _) (gl_top _)) ?_
      intro w' hm' hg'
      exact .inr hg'.1
    ·
      rintro id ⟨⟩ D0 hD0 hx
      first | exact hx.elim | cases hx.1 | cases hx
  ·
    refine wpM.exit ?_
    refine QM.then_exit ?_
    refine QM.then_exit ?_
    refine QM.block_hit ?_
    refine QM.closeJ hL hCj2 hjj2 hkj2 (kk_top _) ([]) (SubM.mem (by (try dsimp only); (repeat' (first | exact SubM.nil _ | refine SubM.cons rfl ?_ | refine SubM.app ?_)))) (by (try dsimp only); (repeat' (first | exact pn_nil | refine pn_cons (by first | (left; omega) | (right; simp; done)) rfl ?_))) ?_
    refine QM.leaveDJ (ds := (ds1)) (.inr rfl) [] Tryd.results68 rfl hn0 hds1 (gl_j hL (Nat.le_refl _) (gl_top _)) ?_
    intro w' hm' hg'
    -- leaf 2: h1-
    have h64 : who = 64 := (by omega); subst h64; exact .inl (by rw [edA_len]; exact hg'.1)

theorem allA_zero : allA 0#64 = [] := by unfold allA; rw [allL_zero]; rfl
set_option maxRecDepth 100000 in
theorem gof_nil (who : Int) (w : World) : Ret Tryd.prog 31 #[.pointer none, .int .i64 who] w (fun v w' => v = U 0#64 ∧ Ext w w') := by
  refine Ret.enterM (l := [.pointer none, .int .i64 who]) Tryd.func31 rfl Tryd.ntmps31 rfl ([]) (no) (Mem.nil w) ?_
  refine wpM.seq ?_
  refine wpM.region ?_
  refine LM.val (ov_assign rfl) ?_
  refine LM.nil ?_
  refine QM.sub (e' := [(0, _), (1, _)]) ⟨rfl, rfl, trivial⟩ ?_
  refine QM.then ?_
  refine wpM.seq ?_
  refine wpM.seq ?_
  refine wpM.region ?_
  refine LM.val (ov_move rfl) ?_
  refine LM.val (ov_move rfl) ?_
  refine LM.callE (oc_call (enters_fn Tryd.func59 (by kernel_rfl) rfl) rfl) (fun w hm hc hg => is_nil _ w) ?_
  first | refine LM.val (ov_notD rfl) ?_ | refine LM.val (ov_not rfl) ?_
  refine LM.nil ?_
  refine QM.sub (e' := [(0, _), (1, _), (8, _)]) ⟨rfl, rfl, rfl, trivial⟩ ?_
  refine QM.then ?_
  first | refine wpM.condD rfl (fun h1 => ?_) (fun h1 => ?_) | refine wpM.condB rfl (fun h1 => ?_) (fun h1 => ?_)
  ·
    refine wpM.seq ?_
    refine wpM.region ?_
    refine LM.val (ov_assign rfl) ?_
    refine LM.nil ?_
    refine QM.sub (e' := [(4, _)]) ⟨rfl, trivial⟩ ?_
    refine QM.then ?_
    refine wpM.ret ?_
    refine QM.then_ret ?_
    refine QM.leave (.inl rfl) [.tmp 4] Tryd.results31 rfl ?_
    intro w' hm' hc' hg'
    -- leaf 1: h1+
    exact ⟨rfl, hc'⟩
  ·
    first | cases h1 | exact absurd h1 (by decide) | (simp at h1)

set_option maxRecDepth 100000 in
theorem reach_nil (who : Int) (w : World) : Ret Tryd.prog 29 #[.pointer none, .int .i64 who] w (fun v w' => v = U 0#64 ∧ Ext w w') := by
  refine Ret.enterM (l := [.pointer none, .int .i64 who]) Tryd.func29 rfl Tryd.ntmps29 rfl ([]) (no) (Mem.nil w) ?_
  refine wpM.seq ?_
  refine wpM.region ?_
  refine LM.val (ov_assign rfl) ?_
  refine LM.nil ?_
  refine QM.sub (e' := [(0, _), (1, _)]) ⟨rfl, rfl, trivial⟩ ?_
  refine QM.then ?_
  refine wpM.seq ?_
  refine wpM.seq ?_
  refine wpM.region ?_
  refine LM.val (ov_move rfl) ?_
  refine LM.val (ov_move rfl) ?_
  refine LM.callE (oc_call (enters_fn Tryd.func59 (by kernel_rfl) rfl) rfl) (fun w hm hc hg => is_nil _ w) ?_
  first | refine LM.val (ov_notD rfl) ?_ | refine LM.val (ov_not rfl) ?_
  refine LM.nil ?_
  refine QM.sub (e' := [(0, _), (1, _), (8, _)]) ⟨rfl, rfl, rfl, trivial⟩ ?_
  refine QM.then ?_
  first | refine wpM.condD rfl (fun h1 => ?_) (fun h1 => ?_) | refine wpM.condB rfl (fun h1 => ?_) (fun h1 => ?_)
  ·
    refine wpM.seq ?_
    refine wpM.region ?_
    refine LM.val (ov_assign rfl) ?_
    refine LM.nil ?_
    refine QM.sub (e' := [(4, _)]) ⟨rfl, trivial⟩ ?_
    refine QM.then ?_
    refine wpM.ret ?_
    refine QM.then_ret ?_
    refine QM.leave (.inl rfl) [.tmp 4] Tryd.results29 rfl ?_
    intro w' hm' hc' hg'
    -- leaf 1: h1+
    exact ⟨rfl, hc'⟩
  ·
    first | cases h1 | exact absurd h1 (by decide) | (simp at h1)

set_option maxRecDepth 100000 in
theorem behind_nil (who : Int) (w : World) : Ret Tryd.prog 30 #[.pointer none, .int .i64 who] w (fun v w' => v = U 0#64 ∧ Ext w w') := by
  refine Ret.enterM (l := [.pointer none, .int .i64 who]) Tryd.func30 rfl Tryd.ntmps30 rfl ([]) (no) (Mem.nil w) ?_
  refine wpM.seq ?_
  refine wpM.region ?_
  refine LM.val (ov_assign rfl) ?_
  refine LM.nil ?_
  refine QM.sub (e' := [(0, _), (1, _)]) ⟨rfl, rfl, trivial⟩ ?_
  refine QM.then ?_
  refine wpM.seq ?_
  refine wpM.seq ?_
  refine wpM.region ?_
  refine LM.val (ov_move rfl) ?_
  refine LM.val (ov_move rfl) ?_
  refine LM.callE (oc_call (enters_fn Tryd.func59 (by kernel_rfl) rfl) rfl) (fun w hm hc hg => is_nil _ w) ?_
  first | refine LM.val (ov_notD rfl) ?_ | refine LM.val (ov_not rfl) ?_
  refine LM.nil ?_
  refine QM.sub (e' := [(0, _), (1, _), (11, _)]) ⟨rfl, rfl, rfl, trivial⟩ ?_
  refine QM.then ?_
  first | refine wpM.condD rfl (fun h1 => ?_) (fun h1 => ?_) | refine wpM.condB rfl (fun h1 => ?_) (fun h1 => ?_)
  ·
    refine wpM.seq ?_
    refine wpM.region ?_
    refine LM.val (ov_assign rfl) ?_
    refine LM.nil ?_
    refine QM.sub (e' := [(4, _)]) ⟨rfl, trivial⟩ ?_
    refine QM.then ?_
    refine wpM.ret ?_
    refine QM.then_ret ?_
    refine QM.leave (.inl rfl) [.tmp 4] Tryd.results30 rfl ?_
    intro w' hm' hc' hg'
    -- leaf 1: h1+
    exact ⟨rfl, hc'⟩
  ·
    first | cases h1 | exact absurd h1 (by decide) | (simp at h1)

set_option maxRecDepth 100000 in
theorem closes_nil (who : Int) (s : BitVec 64) (w : World) : Ret Tryd.prog 45 #[.pointer none, .int .i64 who, U s] w (fun v w' => v = .bool false ∧ Ext w w') := by
  refine Ret.enterM (l := [.pointer none, .int .i64 who, U s]) Tryd.func45 rfl Tryd.ntmps45 rfl ([]) (no) (Mem.nil w) ?_
  refine wpM.seq ?_
  refine wpM.region ?_
  refine LM.val (ov_assign rfl) ?_
  refine LM.nil ?_
  refine QM.sub (e' := [(0, _), (1, _), (2, _)]) ⟨rfl, rfl, rfl, trivial⟩ ?_
  refine QM.then ?_
  refine wpM.seq ?_
  refine wpM.region ?_
  refine LM.val (ov_move rfl) ?_
  refine LM.val (ov_move rfl) ?_
  refine LM.callE (oc_call (enters_fn Tryd.func59 (by kernel_rfl) rfl) rfl) (fun w hm hc hg => is_nil _ w) ?_
  refine LM.val (ov_move rfl) ?_
  first | refine LM.splitD (t := 10) rfl (fun h1 => ?_) (fun h1 => ?_) | refine LM.splitB (t := 10) rfl (fun h1 => ?_) (fun h1 => ?_)
  ·
    first | cases h1 | exact absurd h1 (by decide) | (simp at h1)
  ·
    refine LM.drop (t := 10) rfl rfl rfl ?_
    refine LM.drop (t := 10) rfl rfl rfl ?_
    refine LM.drop (t := 10) rfl rfl rfl ?_
    refine LM.drop (t := 10) rfl rfl rfl ?_
    refine LM.drop (t := 10) rfl rfl rfl ?_
    refine LM.val (ov_pickF rfl rfl) ?_
    refine LM.val (ov_assign rfl) ?_
    refine LM.nil ?_
    refine QM.sub (e' := [(6, _)]) ⟨rfl, trivial⟩ ?_
    refine QM.then ?_
    refine wpM.ret ?_
    refine QM.leave (.inl rfl) [.tmp 6] Tryd.results45 rfl ?_
    intro w' hm' hc' hg'
    -- leaf 1: h1-
    exact ⟨rfl, hc'⟩

set_option maxRecDepth 100000 in
theorem wait_nil (who : Int) (s : BitVec 64) (w : World) : Ret Tryd.prog 28 #[.pointer none, .int .i64 who, U s] w (fun v w' => v = .int .i64 1 ∧ Ext w w') := by
  refine Ret.enterM (l := [.pointer none, .int .i64 who, U s]) Tryd.func28 rfl Tryd.ntmps28 rfl ([]) (no) (Mem.nil w) ?_
  refine wpM.seq ?_
  refine wpM.region ?_
  refine LM.val (ov_assign rfl) ?_
  refine LM.nil ?_
  refine QM.sub (e' := [(0, _), (1, _), (2, _)]) ⟨rfl, rfl, rfl, trivial⟩ ?_
  refine QM.then ?_
  refine wpM.seq ?_
  refine wpM.block ?_
  refine wpM.seq ?_
  refine wpM.region ?_
  refine LM.val (ov_move rfl) ?_
  refine LM.val (ov_move rfl) ?_
  refine LM.callE (oc_call (enters_fn Tryd.func59 (by kernel_rfl) rfl) rfl) (fun w hm hc hg => is_nil _ w) ?_
  first | refine LM.val (ov_notD rfl) ?_ | refine LM.val (ov_not rfl) ?_
  refine LM.val (ov_assign rfl) ?_
  refine LM.nil ?_
  refine QM.sub (e' := [(0, _), (1, _), (2, _), (7, _)]) ⟨rfl, rfl, rfl, rfl, trivial⟩ ?_
  refine QM.then ?_
  first | refine wpM.condD rfl (fun h1 => ?_) (fun h1 => ?_) | refine wpM.condB rfl (fun h1 => ?_) (fun h1 => ?_)
  ·
    refine wpM.seq ?_
    refine wpM.region ?_
    refine LM.val (ov_assign rfl) ?_
    refine LM.nil ?_
    refine QM.sub (e' := [(6, _)]) ⟨rfl, trivial⟩ ?_
    refine QM.then ?_
    refine wpM.ret ?_
    refine QM.block_ret ?_
    refine QM.then_ret ?_
    refine QM.leave (.inl rfl) [.tmp 6] Tryd.results28 rfl ?_
    intro w' hm' hc' hg'
    -- leaf 1: h1+
    exact ⟨rfl, hc'⟩
  ·
    first | cases h1 | exact absurd h1 (by decide) | (simp at h1)

set_option maxRecDepth 100000 in
theorem clear_nil (who : Int) (w : World) : Ret Tryd.prog 36 #[.pointer none, .int .i64 who] w (fun v w' => v = .bool false ∧ Ext w w') := by
  refine Ret.enterM (l := [.pointer none, .int .i64 who]) Tryd.func36 rfl Tryd.ntmps36 rfl ([]) (no) (Mem.nil w) ?_
  refine wpM.seq ?_
  refine wpM.region ?_
  refine LM.val (ov_assign rfl) ?_
  refine LM.nil ?_
  refine QM.sub (e' := [(0, _), (1, _)]) ⟨rfl, rfl, trivial⟩ ?_
  refine QM.then ?_
  refine wpM.seq ?_
  refine wpM.seq ?_
  refine wpM.region ?_
  refine LM.val (ov_move rfl) ?_
  refine LM.val (ov_move rfl) ?_
  refine LM.callE (oc_call (enters_fn Tryd.func31 (by kernel_rfl) rfl) rfl) (fun w hm hc hg => gof_nil _ w) ?_
  refine LM.val (ov_ueql (b := 0#64) rfl rfl) ?_
  refine LM.nil ?_
  refine QM.sub (e' := [(0, _), (1, _), (8, _)]) ⟨rfl, rfl, rfl, trivial⟩ ?_
  refine QM.then ?_
  first | refine wpM.condD rfl (fun h1 => ?_) (fun h1 => ?_) | refine wpM.condB rfl (fun h1 => ?_) (fun h1 => ?_)
  ·
    refine wpM.seq ?_
    refine wpM.region ?_
    refine LM.val (ov_assign rfl) ?_
    refine LM.nil ?_
    refine QM.sub (e' := [(4, _)]) ⟨rfl, trivial⟩ ?_
    refine QM.then ?_
    refine wpM.ret ?_
    refine QM.then_ret ?_
    refine QM.leave (.inl rfl) [.tmp 4] Tryd.results36 rfl ?_
    intro w' hm' hc' hg'
    -- leaf 1: h1+
    exact ⟨rfl, hc'⟩
  ·
    first | cases h1 | exact absurd h1 (by decide) | (simp at h1)

set_option maxRecDepth 100000 in
theorem chain_nil (who : Int) (w : World) : Ret Tryd.prog 32 #[.pointer none, .int .i64 who] w (New fI 3 1 ([] : List Int) w) := by
  refine Ret.enterM (l := [.pointer none, .int .i64 who]) Tryd.func32 rfl Tryd.ntmps32 rfl ([]) (no) (Mem.nil w) ?_
  refine wpM.seq ?_
  refine wpM.region ?_
  refine LM.val (ov_assign rfl) ?_
  refine LM.nil ?_
  refine QM.sub (e' := [(0, _), (1, _)]) ⟨rfl, rfl, trivial⟩ ?_
  refine QM.then ?_
  refine wpM.seq ?_
  refine wpM.region ?_
  refine LM.val (ov_assign rfl) ?_
  refine LM.nil ?_
  refine QM.sub (e' := [(0, _), (1, _), (5, _)]) ⟨rfl, rfl, rfl, trivial⟩ ?_
  refine QM.then ?_
  refine wpM.seq ?_
  refine wpM.block ?_
  refine wpM.loopK0 (α := Unit) (fun ⟨⟩ => [(1, .int .i64 who), (5, .slice none 0 0)]) [(0, _)] (fun ⟨⟩ => []) (fun ⟨⟩ => True) (fun ⟨⟩ => 0) (⟨⟩) ⟨(by first | rfl | exact lk rfl (by congr 1; omega) | exact lk rfl (by simp)), (by first | rfl | exact lk rfl (by congr 1; omega) | exact lk rfl (by simp)), rfl, trivial⟩ (by (repeat' (first | exact SubM.nil _ | refine SubM.cons rfl ?_ | refine SubM.app ?_))) trivial ?_
  rintro ⟨⟩ -
  change wpM _ _ _ _ _ _ _ ([]) _ _ _
  refine wpM.seq ?_
  refine wpM.seq ?_
  refine wpM.region ?_
  refine LM.val (ov_move rfl) ?_
  refine LM.val (ov_move rfl) ?_
  refine LM.callE (oc_call (enters_fn Tryd.func59 (by kernel_rfl) rfl) rfl) (fun w hm hc hg => is_nil _ w) ?_
  refine LM.nil ?_
  refine QM.sub (e' := [(0, _), (1, _), (5, _), (8, _)]) ⟨rfl, rfl, rfl, rfl, trivial⟩ ?_
  refine QM.then ?_
  first | refine wpM.condD rfl (fun h1 => ?_) (fun h1 => ?_) | refine wpM.condB rfl (fun h1 => ?_) (fun h1 => ?_)
  ·
    first | cases h1 | (simp at h1)
  ·
    refine wpM.exit ?_
    refine QM.then_exit ?_
    refine QM.then_exit ?_
    refine QM.block_hit ?_
    refine QM.then ?_
    refine wpM.seq ?_
    refine wpM.region ?_
    refine LM.val (ov_move rfl) ?_
    refine LM.val (ov_assign rfl) ?_
    refine LM.nil ?_
    refine QM.sub (e' := [(4, _)]) ⟨rfl, trivial⟩ ?_
    refine QM.then ?_
    refine wpM.ret ?_
    refine QM.leave (.inl rfl) [.tmp 4] Tryd.results32 rfl ?_
    intro w' hm' hc' hg'
    -- leaf 1: h1-
    exact ⟨hc', [], .nil _ _ _ _, Mem.nil _⟩

set_option maxRecDepth 100000 in
theorem edges_nil {b1 : Nat} : SeqCP Tryd.prog 68 #[.pointer (some ⟨b1, 0, none⟩)] (([] : List (Array Value))) (fun w => Mem w [pB b1 none] ∧ Tab w) (True) := by
  refine SeqCP.enter (lb := [.pointer (some ⟨b1, 0, none⟩)]) Tryd.func68 rfl Tryd.ntmps68 rfl ?_
  intro l0 n0 J Jx w0 hn0 hfin hJr hL hy
  refine wpM.openJ (n := n0) (fun wj1 hmj1 hCj1 hjj1 hkj1 => ?_)
  refine wpM.seq ?_
  refine wpM.region ?_
  refine LM.box rfl rfl (fun b2 hb2 => ?_)
  refine LM.nil ?_
  refine QM.sub (e' := [(1, _), (2, _)]) ⟨rfl, rfl, trivial⟩ ?_
  refine QM.then ?_
  refine wpM.seq ?_
  refine wpM.region ?_
  refine LM.val (ov_move rfl) ?_
  refine LM.nil ?_
  refine QM.sub (e' := [(1, _), (2, _), (5, _)]) ⟨rfl, rfl, rfl, trivial⟩ ?_
  refine QM.then ?_
  refine wpM.block ?_
  refine wpM.closeJ hL hCj1 hjj1 hkj1 (kk_top _) (((fun who => yB b2 l0 :: []) : Nat → Mem0) (0)) (SubM.mem (by (try dsimp only); (repeat' (first | exact SubM.nil _ | refine SubM.cons rfl ?_ | refine SubM.app ?_)))) (by (try dsimp only); (repeat' (first | exact pn_nil | refine pn_cons (by first | (left; omega) | (right; simp; done)) rfl ?_))) ?_
  refine wpM.loopD (α := Nat) (fun who => [(5, .int .i64 (who : Nat))]) [(1, _), (2, _)] (fun who => yB b2 l0 :: []) (fun who => (fun w => J (0) (yB b2 l0 :: []) w ∧ top w)) (fun who => who ≤ 64) (fun who => 64 - who) (0) ⟨(by first | rfl | exact lk rfl (by congr 1; omega) | exact lk rfl (by simp)), rfl, rfl, trivial⟩ (by (repeat' (first | exact SubM.nil _ | refine SubM.cons rfl ?_ | refine SubM.app ?_))) (fun _ h => h) (Nat.zero_le _) ?_
  rintro who ds1 hds1 hwho
  change wpM _ _ _ _ _ _ _ (dM ds1 ++ (yB b2 l0 :: [])) _ _ _
  refine wpM.openJ (n := n0) (fun wj2 hmj2 hCj2 hjj2 hkj2 => ?_)
  refine wpM.seq ?_
  refine wpM.region ?_
  refine LM.val (ov_lss rfl rfl) ?_
  refine LM.nil ?_
  refine QM.sub (e' := [(1, _), (2, _), (5, _), (6, _)]) ⟨rfl, rfl, rfl, rfl, trivial⟩ ?_
  refine QM.then ?_
  refine wpM.seq ?_
  first | refine wpM.condD rfl (fun h1 => ?_) (fun h1 => ?_) | refine wpM.condB rfl (fun h1 => ?_) (fun h1 => ?_)
  ·
    refine wpM.skip ?_
    refine QM.then ?_
    refine wpM.seq ?_
    refine wpM.block ?_
    refine wpM.seq ?_
    refine wpM.region ?_
    refine LM.val (ov_move rfl) ?_
    refine LM.alloc Tryd.zeroValue3 rfl (fun b3 hb3 => ?_)
    refine LM.st Tryd.sizeOf3 rfl rfl rfl (by first | decide | exact Nat.le_of_ble_eq_true rfl | (simp; done) | (simp; omega)) rfl (fun hlt => by first | exact absurd hlt (by omega) | (simp [inM]; done)) ?_
    refine LM.nil ?_
    refine QM.sub (e' := [(1, _), (2, _), (3, _), (5, _)]) ⟨rfl, rfl, rfl, rfl, trivial⟩ ?_
    refine QM.then ?_
    refine wpM.seq ?_
    refine wpM.region ?_
    refine LM.rdC (fun w hm hc hg => om_load 0 Tryd.isAgg38 rfl rfl rfl w ((hL.rd hJr hjj2 hc)).1) ?_
    first | refine LM.rd (om_ld Tryd.isAgg3 rfl rfl) ?_
    refine LM.callE (oc_call (enters_fn Tryd.func31 (by kernel_rfl) rfl) rfl) (fun w hm hc hg => gof_nil _ w) ?_
    refine LM.callT (oc_call (enters_fn Tryd.func18 (by kernel_rfl) rfl) rfl) AllT.mono (fun w hm hc hg => all_spec _ w) ?_
    rintro u9 m9 ⟨c1, rfl, rfl, hc1⟩ -
    refine LM.nil ?_
    refine QM.sub (e' := [(1, _), (2, _), (3, _), (5, _), (11, _)]) ⟨rfl, rfl, rfl, rfl, rfl, trivial⟩ ?_
    refine QM.then ?_
    refine wpM.block ?_
    refine wpM.closeJ hL hCj2 hjj2 hkj2 (kk_top _) (yB b2 l0 :: iB b3 (who : Nat) :: uBx c1 0#64 :: []) (SubM.mem (by (try dsimp only); (repeat' (first | exact SubM.nil _ | refine SubM.cons rfl ?_ | refine SubM.app ?_)))) (by (try dsimp only); (repeat' (first | exact pn_nil | refine pn_cons (by first | (left; omega) | (right; simp; done)) rfl ?_))) ?_
    refine wpM.toRange (α := Unit) (fun k ⟨⟩ => dM ds1 ++ (yB b2 l0 :: iB b3 (who : Nat) :: uBx c1 0#64 :: [])) (⟨⟩) (by (repeat' (first | exact SubM.nil _ | refine SubM.cons rfl ?_ | refine SubM.app ?_))) ?_
    refine wpM.rangeJ (α := Unit) (β := Unit) (enters_fn Tryd.func56 (by kernel_rfl) rfl) rfl (all_seq (s := 0#64)) (fun k ⟨⟩ => dM ds1 ++ (yB b2 l0 :: iB b3 (who : Nat) :: uBx c1 0#64 :: [])) (fun k ⟨⟩ => (fun w => J (0) (yB b2 l0 :: iB b3 (who : Nat) :: uBx c1 0#64 :: []) w ∧ top w)) (fun k ⟨⟩ => True) (fun ⟨⟩ => dM ds1 ++ []) (fun _ => (fun w => Jx w ∧ top w)) (fun c ⟨⟩ => False) ⟨⟩ rfl (fun _ h => h) trivial (by kernel_rfl) (by intro k av hav; obtain ⟨i, hi, rfl⟩ := allA_inv hav; rfl) (.inl trivial) (fun k a w hm hc hg _ => ⟨SubM.mem (by (repeat' (first | exact SubM.nil _ | refine SubM.cons rfl ?_ | refine SubM.app ?_))) w hm, (hJr _ _ _ hg.1).2⟩) (fun w hg _ _ => gl_j hL (hL.le _ _ _ hg.1) (gl_top _)) (fun w hg _ => gl_x hL (hL.le _ _ _ hg.1) (gl_top _)) (fun k x _ => by ((repeat (refine mm_cons rfl ?_)); exact fun p hp => .inl (by first | exact hp | (simp at hp; done) | (simp [hp]; done) | (simp at hp ⊢; first | exact .inl hp | exact hp | (simp [hp]; done))))) (fun c z _ => by ((repeat (refine mm_cons rfl ?_)); exact fun p hp => .inl (by first | exact hp | (simp at hp; done) | (simp [hp]; done) | (simp at hp ⊢; first | exact .inl hp | exact hp | (simp [hp]; done))))) ?_ ?_ ?_ ?_
    ·
      rintro k av ⟨⟩ l D rc n1 W1 hnn hD hll hput hrc hav -
      have hnn1 : n0 ≤ n1 := (by obtain ⟨w, hg, hw⟩ := hnn; exact Nat.le_trans (hL.le _ _ _ hg.1) hw)
      change wpM _ _ _ _ _ _ _ ((l, Obj.loop rc) :: ([(D, Obj.deferred (some []))] ++ (dM ds1 ++ (yB b2 l0 :: iB b3 (who : Nat) :: uBx c1 0#64 :: [])))) _ _ _
      obtain ⟨i, hi, rfl⟩ := allA_inv hav
      rw [allL_zero] at hi; cases hi
    ·
      rintro ⟨⟩ D0 hD0 -
      refine QM.openJ (n := n0) (fun wj3 hmj3 hCj3 hjj3 hkj3 => ?_)
      refine QM.sub (e' := [(1, _), (2, _), (5, _)]) ⟨rfl, rfl, rfl, trivial⟩ ?_
      refine QM.block_normal ?_
      refine QM.block_normal ?_
      refine QM.then ?_
      refine wpM.region ?_
      refine LM.val (ov_add64 rfl rfl (by omega)) ?_
      refine LM.val (ov_move rfl) ?_
      refine LM.nil ?_
      refine QM.sub (e' := [(1, _), (2, _), (5, _)]) ⟨rfl, rfl, rfl, trivial⟩ ?_
      -- again1: h1+
      refine QM.closeJ hL hCj3 hjj3 hkj3 (kk_top _) (((fun who => yB b2 l0 :: []) : Nat → Mem0) (who + 1)) (SubM.mem (by (try dsimp only); (repeat' (first | exact SubM.nil _ | refine SubM.cons rfl ?_ | refine SubM.app ?_)))) (by (try dsimp only); (repeat' (first | exact pn_nil | refine pn_cons (by first | (left; omega) | (right; simp; done)) rfl ?_))) ?_
      refine QM.againD (who + 1) ⟨(by first | rfl | exact lk rfl (by congr 1; omega) | exact lk rfl (by simp)), rfl, rfl, trivial⟩ (by change SubM _ ((D0, Obj.deferred (some [])) :: (dM ds1 ++ ((fun who => yB b2 l0 :: []) (who + 1)))); dsimp only; (repeat' (first | exact SubM.nil _ | refine SubM.cons rfl ?_ | refine SubM.app ?_))) (hd_cons hD0 hds1) (fun w h => h) ?_ ?_
      · omega
      · first | omega | (dsimp only; omega)
    ·
      rintro ⟨⟩ D0 hD0 hx
      first | exact hx.elim | cases hx.1
    ·
      rintro id ⟨⟩ D0 hD0 hx
      first | exact hx.elim | cases hx.1 | cases hx
  ·
    refine wpM.exit ?_
    refine QM.then_exit ?_
    refine QM.then_exit ?_
    refine QM.block_hit ?_
    refine QM.closeJ hL hCj2 hjj2 hkj2 (kk_top _) ([]) (SubM.mem (by (try dsimp only); (repeat' (first | exact SubM.nil _ | refine SubM.cons rfl ?_ | refine SubM.app ?_)))) (by (try dsimp only); (repeat' (first | exact pn_nil | refine pn_cons (by first | (left; omega) | (right; simp; done)) rfl ?_))) ?_
    refine QM.leaveDJ (ds := (ds1)) (.inr rfl) [] Tryd.results68 rfl hn0 hds1 (gl_j hL (Nat.le_refl _) (gl_top _)) ?_
    intro w' hm' hg'
    -- leaf 1: h1-
    exact .inl hg'.1

end Go.Eng

