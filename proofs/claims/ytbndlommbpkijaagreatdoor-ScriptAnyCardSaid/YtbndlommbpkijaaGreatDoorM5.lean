/- The walk of the document's parser of setups. No condition. -/
import Derived.Test.YtbndlommbpkijaaGreatDoorM4
import Derived.Test.YtbndlommbpkijaaGreatDoorM2
set_option linter.unusedVariables false
set_option linter.unusedSimpArgs false
namespace Go.Eng
open Go Go.Proofs Go.RowKit
def gpM (ws : List Wrd) (i : Nat) (e : Int) (gs : List Int) : List Int × Nat × Int := if gs.length = 0 then (if e = 0 then gpO ws i e else ([], i, e)) else gpL ws i e gs
theorem gpM_stop {ws : List Wrd} {i : Nat} {e : Int} {gs : List Int} (h : (isE ws i e 1 wGroup || (decide (gs.length = 0) && decide (e = 0))) = false) : gpM ws i e gs = (gs, i, e) := by
  simp only [Bool.or_eq_false_iff, Bool.and_eq_false_iff, decide_eq_false_iff_not] at h
  unfold gpM
  by_cases h0 : gs.length = 0
  · rw [if_pos h0, if_neg (h.2.resolve_left (fun q => q h0)), List.length_eq_zero_iff.1 h0]
  · rw [if_neg h0, gpL_stop h.1]
theorem gpM_full {ws : List Wrd} {i : Nat} {e : Int} {gs : List Int} (h : isE ws i e 1 wGroup = true) (hl : 4 ≤ gs.length) : gpM ws i e gs = (gs, i, 6) := by
  unfold gpM; rw [if_neg (by omega), gpL_full h hl]
theorem gpM_next {ws : List Wrd} {i : Nat} {e : Int} {gs : List Int} (h : (isE ws i e 1 wGroup || (decide (gs.length = 0) && decide (e = 0))) = true) (hl : gs.length < 4) : gpM ws i e gs = gpM ws (linE ws i e wGroup 16).1 (linE ws i e wGroup 16).2.1 (gs ++ [(linE ws i e wGroup 16).2.2]) := by
  simp only [Bool.or_eq_true, Bool.and_eq_true, decide_eq_true_eq] at h
  unfold gpM
  rw [if_neg (show ¬ (gs ++ [(linE ws i e wGroup 16).2.2]).length = 0 by simp)]
  by_cases h0 : gs.length = 0
  · have he : e = 0 := h.elim (fun q => (isE_lt q).2) (fun q => q.2)
    rw [if_pos h0, if_pos he, List.length_eq_zero_iff.1 h0]; rfl
  · rw [if_neg h0, gpL_next (h.resolve_right (fun q => h0 q.1)) hl]
theorem gpM_sG {ws : List Wrd} {i0 : Nat} {gs : List Int} {i : Nat} {e : Int} (h : gpM ws (sB2 ws i0).1 (sB2 ws i0).2.1 [] = (gs, i, e)) : (sG ws i0).2 = (i, e) ∧ (e = 0 → sG ws i0 = (gs, i, e)) := by
  unfold gpM at h
  rw [if_pos (show ([] : List Int).length = 0 from rfl)] at h
  unfold sG
  by_cases h0 : (sB2 ws i0).2.1 = 0
  · rw [if_pos h0] at h; rw [h]; exact ⟨rfl, fun _ => rfl⟩
  · rw [if_neg h0] at h
    simp only [Prod.mk.injEq] at h
    obtain ⟨_, h2, h3⟩ := h
    rw [← h2, ← h3]
    refine ⟨?_, fun q => absurd q h0⟩
    unfold gpO; rw [lin_bad h0]; simp only; rw [gpL_stop (isE_bad h0)]
theorem isP_eq {ws : List Wrd} {i : Nat} {e : Int} {ps : List PgC} : isP ws i e ps = (isE ws i e 1 wProg || (decide (ps.length = 0) && decide (e = 0))) := by
  unfold isP
  by_cases h : e = 0
  · rw [decide_eq_true h, Bool.true_and, Bool.and_true, Bool.or_comm]
  · rw [isE_bad h, decide_eq_false h]; simp
structure SetI (ws : List Wrd) (i0 : Nat) (gs : List Int) (i1 : Nat) (e1 : Int) (ls : List CLk) (i2 : Nat) (e2 : Int) (ps : List PgC) (pl : List Int) (i3 : Nat) (e3 : Int) : Prop where
  g : (sG ws i0).2 = (i1, e1) ∧ (e1 = 0 → (sG ws i0).1 = gs)
  l : lkL ws i1 e1 [] = (ls, i2, e2)
  p : pgL ws i2 e2 [] [] = (ps, pl, i3, e3)
theorem SetI.two {ws : List Wrd} {i0 : Nat} {gs : List Int} {i1 : Nat} {e1 : Int} {ls : List CLk} {i2 : Nat} {e2 : Int} {ps : List PgC} {pl : List Int} {i3 : Nat} {e3 : Int} (h : SetI ws i0 gs i1 e1 ls i2 e2 ps pl i3 e3) : sL ws i0 = (ls, i2, e2) ∧ sP ws i0 = (ps, pl, i3, e3) := by
  have a : sL ws i0 = (ls, i2, e2) := by unfold Go.Eng.sL; rw [h.g.1]; exact h.l
  exact ⟨a, by unfold sP; rw [a]; exact h.p⟩
theorem SetI.bad {ws : List Wrd} {i0 : Nat} {gs : List Int} {i1 : Nat} {e1 : Int} {ls : List CLk} {i2 : Nat} {e2 : Int} {ps : List PgC} {pl : List Int} {i3 : Nat} {e3 : Int} (h : SetI ws i0 gs i1 e1 ls i2 e2 ps pl i3 e3) (he : e3 ≠ 0) : stpR ws i0 = (default, (i3 : Int), e3) := by
  unfold stpR; rw [h.two.2]; simp only; rw [if_pos he]
theorem SetI.mis {ws : List Wrd} {i0 : Nat} {gs : List Int} {i1 : Nat} {e1 : Int} {ls : List CLk} {i2 : Nat} {e2 : Int} {ps : List PgC} {pl : List Int} {i3 : Nat} {e3 : Int} (h : SetI ws i0 gs i1 e1 ls i2 e2 ps pl i3 e3) (he : e3 = 0) {j : Nat} (hj : j < ps.length) (h0 : (ps.take j).any (misB ls ps.length) = false) (h1 : misB ls ps.length (ps.getD j default) = true) : stpR ws i0 = (default, pl.getD j 0, (ckO (ps.getD j default).fv (ps.getD j default).xs ls (ps.length : Int)).2) := by
  have e := fix_hit default h0 hj h1
  have e' : misI ls ps = (j : Nat) := e
  unfold stpR; rw [h.two.2, h.two.1]; simp only; rw [if_neg (by simp [he]), e', if_pos (by omega), Int.toNat_natCast]
  unfold misE; rw [if_neg (by omega), Int.toNat_natCast]
theorem SetI.ok {ws : List Wrd} {i0 : Nat} {gs : List Int} {i1 : Nat} {e1 : Int} {ls : List CLk} {i2 : Nat} {e2 : Int} {ps : List PgC} {pl : List Int} {i3 : Nat} {e3 : Int} (h : SetI ws i0 gs i1 e1 ls i2 e2 ps pl i3 e3) (he : e3 = 0) (h0 : ps.any (misB ls ps.length) = false) : stpR ws i0 = (⟨(sA ws i0).2.2, (sB2 ws i0).2.2, gs, ls, ps⟩, (i3 : Int), 0) := by
  have z2 : e2 = 0 := by
    have := pgF_zero (ws := ws) _ i2 e2 [] [] (by have := h.p; unfold pgL at this; rw [this]; exact he)
    exact this
  have z1 : e1 = 0 := by
    have := lkF_zero (ws := ws) _ i1 e1 [] (by have := h.l; unfold lkL at this; rw [this]; exact z2)
    exact this
  have e' : misI ls ps = -1 := fix_miss h0
  unfold stpR; rw [h.two.2, h.two.1]; simp only; rw [if_neg (by simp [he]), e', if_neg (by decide), h.g.2 z1]
theorem par_pos {ws : List Wrd} {i : Nat} (h : i ≤ ws.length) : 0 ≤ (parseO ws (i : Int)).2.2.1 ∧ (parseO ws (i : Int)).2.2.1.toNat ≤ ws.length := by
  have key : ∀ (f i : Nat) (ops : List COp), i ≤ ws.length → 0 ≤ (loopP f ws i ops).2.1 ∧ (loopP f ws i ops).2.1.toNat ≤ ws.length := by
    intro f
    induction f with
    | zero => intro i ops hi; exact ⟨by show (0 : Int) ≤ (i : Int); omega, by show ((i : Int)).toNat ≤ _; omega⟩
    | succ f ih =>
      intro i ops hi
      unfold loopP
      split
      · rename_i q
        have := isR_lt q
        split
        · exact ⟨by show (0 : Int) ≤ (i : Int); omega, by show ((i : Int)).toNat ≤ _; omega⟩
        · exact ⟨by show (0 : Int) ≤ ((i + 1 : Nat) : Int); omega, by show (((i + 1 : Nat) : Int)).toNat ≤ _; omega⟩
      · have hp := opR_pos (k := ops.length) hi
        split
        · exact ⟨by show (0 : Int) ≤ ((opR ws i ops.length).1 : Int); omega, by show (((opR ws i ops.length).1 : Int)).toNat ≤ _; omega⟩
        · exact ih _ _ hp
  rw [parse_nat h]
  simp only
  unfold bodyR
  split
  · rename_i q
    have := isR_lt q
    have hh : (headR ws i).2 ≤ ws.length := by
      unfold headR; simp only; split
      · rename_i q; have := isR_lt q; omega
      · omega
    split
    · rename_i q2
      have := isR_lt q2
      exact key _ _ _ (by omega)
    · exact ⟨by show (0 : Int) ≤ ((headR ws i).2 : Int); omega, by show (((headR ws i).2 : Int)).toNat ≤ _; omega⟩
  · exact ⟨by show (0 : Int) ≤ (i : Int); omega, by show ((i : Int)).toNat ≤ _; omega⟩
def StT (r : StC × Int × Int) (n0 : Nat) (v : Value) (m : Mem0) : Prop := ∃ sv : StV, v = .tuple #[sv.val, .int .i64 r.2.1, .int .i64 r.2.2] ∧ sv.C = r.1 ∧ ∀ w, Mem w m → sv.In w
theorem StT.mono {r : StC × Int × Int} : ∀ (k k' : Nat) u m, k' ≤ k → StT r k u m → StT r k' u m := fun k k' u m h q => q
theorem StT.none {p e : Int} {n0 : Nat} : StT (default, p, e) n0 (.tuple #[(default : StV).val, .int .i64 p, .int .i64 e]) [] :=
  ⟨default, rfl, rfl, fun w _ => ⟨rfl, .nil _ _ _, rfl, .nil _ _ _, rfl, .nil _ _ _, fun p hp => by cases hp⟩⟩
abbrev sO (c g : Int) (ga : Option Addr) (gn gc : Nat) (la : Option Addr) (ln lc : Nat) (pa : Option Addr) (pn pc : Nat) : Obj := .cells #[.int .i64 c, .int .i64 g, .slice ga gn gc, .slice la ln lc, .slice pa pn pc] 30 (0, 0)
abbrev z0 : Obj := sO 0 0 none 0 0 none 0 0 none 0 0
theorem snoc_map {ps : List PgV} {p : PgV} : (ps ++ [p]).map PgV.c = ps.map PgV.c ++ [p.c] := by simp
theorem snoc_in {ps : List PgV} {p : PgV} {w : World} (h : PgsIn ps w) (k : p.In w) : PgsIn (ps ++ [p]) w := fun q hq => by
  rcases List.mem_append.1 hq with hq | hq
  · exact h q hq
  · rw [List.mem_singleton] at hq; subst hq; exact k
theorem sr_of_sl {α : Type} {f : α → List Value} {E s n0 : Nat} {xs : List α} {v : Value} {m : Mem0} {w : World} (h : Sl f E s n0 xs v m) (hf : ∀ a, (f a).length = s) (hm : Mem w m) : Sr f s xs v w := h.sr hf (fun p hp => hm.2 p hp)
theorem cond0 (n : Nat) : decide ((n : Int) = 0) = decide (n = 0) := decide_eq_decide.2 (by omega)
set_option maxRecDepth 100000 in
set_option maxHeartbeats 4000000 in
theorem rsetup_spec {ws : List Wrd} {ad : Option Addr} {n cap : Nat} (p : Int) (w : World) (hn : n = ws.length) (hx : ws.length ≤ 1000000000) (hl : Sr fW 4 ws (.slice ad n cap) w) : Ret Tryz.prog 12 #[.slice ad n cap, .int .i64 p] w (fun v w' => Ext w w' ∧ ∃ m, StT (setO ws p) w.heap.size v m ∧ Mem w' m ∧ ∀ p ∈ m, w.heap.size ≤ p.1) := by
 refine Ret.enterM (l := [.slice ad n cap, .int .i64 p]) Tryz.func12 rfl Tryz.ntmps12 rfl ([]) (no) (Mem.nil w) ?_
 refine wpM.seq (wpM.region ?_)
 refine LM.alloc Tryz.zeroValue30 rfl (fun b4 hb4 => ?_)
 refine LM.as rfl ?_
 refine LM.as rfl ?_
 refine LM.nil (QM.sub (e' := [(0, _), (1, _), (4, _)]) ⟨rfl, rfl, rfl, trivial⟩ (QM.then ?_))
 refine wpM.seq ?_
 refine wpM.seq (wpM.region ?_)
 refine LM.mv rfl ?_
 refine LM.val (ov_lss rfl rfl) ?_
 refine LM.mv rfl ?_
 refine LM.splitD (t := 19) rfl (fun h1 => ?_) (fun h1 => ?_)
 ·
  refine LM.dr 19 rfl rfl rfl ?_
  refine LM.dr 19 rfl rfl rfl ?_
  refine LM.dr 19 rfl rfl rfl ?_
  refine LM.dr 19 rfl rfl rfl ?_
  refine LM.val (ov_pickT rfl rfl) ?_
  refine LM.nil (QM.sub (e' := [(0, _), (1, _), (4, _), (24, _)]) ⟨rfl, rfl, rfl, rfl, trivial⟩ (QM.then ?_))
  refine wpM.condT rfl ?_
  refine wpM.seq (wpM.region ?_)
  refine LM.val (ov_build (cs := #[_, _, _, _, _]) rfl (by first | rfl | kernel_rfl)) ?_
  refine LM.stW Tryz.sizeOf30 rfl rfl rfl rfl au7 au8 ?_
  refine LM.as rfl ?_
  refine LM.as rfl ?_
  refine LM.nil (QM.sub (e' := [(4, _), (5, _), (6, _)]) ⟨rfl, rfl, rfl, trivial⟩ (QM.then ?_))
  refine wpM.ret ?_
  refine QM.then_ret ?_
  refine QM.leaveCs (ds := ([])) (.inl rfl) [.cell 4 30, .tmp 5, .tmp 6] Tryz.results12 hd_nil (rc_w rfl Tryz.isAgg30 Tryz.sizeOf30 rfl (rc_tmp rfl (rc_tmp rfl rc_nil))) ?_
  intro w' hm' hc'
  have hpar : setO ws p = (default, 0, 5) := (by unfold setO; rw [if_pos (by omega)]); rw [hpar]; exact ⟨hc', [], StT.none, Mem.nil _, fun p hp => by cases hp⟩
 refine LM.sp 19 rfl rfl rfl ?_
 refine LM.mv rfl ?_
 refine LM.sp 19 rfl rfl rfl ?_
 refine LM.mv rfl ?_
 refine LM.sp 19 rfl rfl rfl ?_
 refine LM.val (ov_len Tryz.underlying23 rfl) ?_
 refine LM.sp 19 rfl rfl rfl ?_
 refine LM.val (ov_gtr rfl rfl) ?_
 refine LM.val (ov_pickF rfl rfl) ?_
 refine LM.nil (QM.sub (e' := [(0, _), (1, _), (4, _), (24, _)]) ⟨rfl, rfl, rfl, rfl, trivial⟩ (QM.then ?_))
 refine wpM.condD rfl (fun h2 => ?_) (fun h2 => ?_)
 ·
  refine wpM.seq (wpM.region ?_)
  refine LM.val (ov_build (cs := #[_, _, _, _, _]) rfl (by first | rfl | kernel_rfl)) ?_
  refine LM.stW Tryz.sizeOf30 rfl rfl rfl rfl au7 au8 ?_
  refine LM.as rfl ?_
  refine LM.as rfl ?_
  refine LM.nil (QM.sub (e' := [(4, _), (5, _), (6, _)]) ⟨rfl, rfl, rfl, trivial⟩ (QM.then ?_))
  refine wpM.ret ?_
  refine QM.then_ret ?_
  refine QM.leaveCs (ds := ([])) (.inl rfl) [.cell 4 30, .tmp 5, .tmp 6] Tryz.results12 hd_nil (rc_w rfl Tryz.isAgg30 Tryz.sizeOf30 rfl (rc_tmp rfl (rc_tmp rfl rc_nil))) ?_
  intro w' hm' hc'
  have hpar : setO ws p = (default, 0, 5) := (by unfold setO; rw [if_pos (by omega)]); rw [hpar]; exact ⟨hc', [], StT.none, Mem.nil _, fun p hp => by cases hp⟩
 obtain ⟨i0, rfl⟩ : ∃ i0 : Nat, p = (i0 : Nat) := ⟨p.toNat, by omega⟩; have hi0 : i0 ≤ ws.length := (by omega)
 refine wpM.skip ?_
 refine QM.then (wpM.seq (wpM.region ?_))
 refine LM.mv rfl ?_
 refine LM.mv rfl ?_
 refine LM.val (ov_build (cs := #[_, _, _]) rfl (by first | rfl | kernel_rfl)) ?_
 refine LM.box rfl rfl (fun b29 hb29 => ?_)
 refine LM.as rfl ?_
 refine LM.nil (QM.sub (e' := [(0, _), (4, _), (7, _)]) ⟨rfl, rfl, rfl, trivial⟩ (QM.then (wpM.seq (wpM.region ?_))))
 have hab29 : 0 < ws.length → adB ad ≠ b29 := (fun h0 => by have := hl.adlt h0; omega)
 refine LM.val (ov_build (cs := #[_, _, _, _, _]) rfl (by first | rfl | kernel_rfl)) ?_
 refine LM.alloc Tryz.zeroValue30 rfl (fun b8 hb8 => ?_)
 refine LM.stW Tryz.sizeOf30 rfl rfl rfl rfl au7 au8 ?_
 refine LM.nil (QM.sub (e' := [(0, _), (4, _), (7, _), (8, _)]) ⟨rfl, rfl, rfl, rfl, trivial⟩ (QM.then (wpM.seq (wpM.region ?_))))
 refine LM.mv rfl ?_
 refine LM.cW (oc_call (enters_fn Tryz.func40 (by kernel_rfl) rfl) rfl) (fun w hm hc hg => qfield_spec b29 i0 0 4 wCores w hn hx (hl.ext hc) hab29 (SubM.mem au1 w hm)) rfl au8 ?_
 refine LM.val (ov_field Tryz.underlying30 rfl Tryz.sizeOf3 rfl (k := 0) rfl rfl) ?_
 refine LM.st Tryz.sizeOf3 rfl rfl rfl au5 rfl au8 ?_
 refine LM.nil (QM.sub (e' := [(0, _), (4, _), (7, _), (8, _)]) ⟨rfl, rfl, rfl, rfl, trivial⟩ (QM.then (wpM.seq (wpM.region ?_))))
 refine LM.mv rfl ?_
 refine LM.cW (oc_call (enters_fn Tryz.func41 (by kernel_rfl) rfl) rfl) (fun w hm hc hg => qneed_spec b29 (fldE ws i0 0 wCores 4).1 (fldE ws i0 0 wCores 4).2.1 3 [59] w hn hx (hl.ext hc) hab29 (SubM.mem au1 w hm)) rfl au8 ?_
 refine LM.nil (QM.sub (e' := [(0, _), (4, _), (7, _), (8, _)]) ⟨rfl, rfl, rfl, rfl, trivial⟩ (QM.then (wpM.seq (wpM.region ?_))))
 refine LM.mv rfl ?_
 refine LM.cW (oc_call (enters_fn Tryz.func40 (by kernel_rfl) rfl) rfl) (fun w hm hc hg => qfield_spec b29 (sA ws i0).1 (sA ws i0).2.1 8 wGrain w hn hx (hl.ext hc) hab29 (SubM.mem au1 w hm)) rfl au8 ?_
 refine LM.val (ov_field Tryz.underlying30 rfl Tryz.sizeOf3 rfl (k := 1) rfl rfl) ?_
 refine LM.st Tryz.sizeOf3 rfl rfl rfl au5 rfl au8 ?_
 refine LM.nil (QM.sub (e' := [(0, _), (4, _), (7, _), (8, _)]) ⟨rfl, rfl, rfl, rfl, trivial⟩ (QM.then (wpM.seq (wpM.region ?_))))
 refine LM.mv rfl ?_
 refine LM.cW (oc_call (enters_fn Tryz.func41 (by kernel_rfl) rfl) rfl) (fun w hm hc hg => qneed_spec b29 (fldE ws (sA ws i0).1 (sA ws i0).2.1 wGrain 8).1 (fldE ws (sA ws i0).1 (sA ws i0).2.1 wGrain 8).2.1 3 [59] w hn hx (hl.ext hc) hab29 (SubM.mem au1 w hm)) rfl au8 ?_
 refine LM.nil (QM.sub (e' := [(0, _), (4, _), (7, _), (8, _)]) ⟨rfl, rfl, rfl, rfl, trivial⟩ (QM.then ?_))
 refine wpM.seq ?_
 refine wpM.joinK (α := Nat × Int × List Int × Option Addr × Nat × Nat × Mem0) (fun ⟨i1, e1, gs, adg, ng, cg, mg⟩ => []) [(0, _), (4, _), (7, _), (8, _)] (fun ⟨i1, e1, gs, adg, ng, cg, mg⟩ => mg ++ qB b29 ad n cap i1 e1 :: (b8, sO (sA ws i0).2.2 (sB2 ws i0).2.2 adg ng cg none 0 0 none 0 0) :: (b4, z0) :: []) (fun ⟨i1, e1, gs, adg, ng, cg, mg⟩ => gpM ws (sB2 ws i0).1 (sB2 ws i0).2.1 [] = (gs, i1, e1) ∧ i1 ≤ ws.length ∧ gs.length ≤ 4 ∧ ng = gs.length ∧ Sl fI 3 1 w.heap.size gs (.slice adg ng cg) mg) ⟨rfl, rfl, rfl, rfl, trivial⟩ ?_ ?_
 ·
  refine wpM.block ?_
  refine wpM.loopK0 (α := Nat × Int × List Int × Option Addr × Nat × Nat × Mem0) (fun ⟨i, e, gs, adg, ng, cg, mg⟩ => []) [(0, _), (4, _), (7, _), (8, _)] (fun ⟨i, e, gs, adg, ng, cg, mg⟩ => mg ++ qB b29 ad n cap i e :: (b8, sO (sA ws i0).2.2 (sB2 ws i0).2.2 adg ng cg none 0 0 none 0 0) :: (b4, z0) :: []) (fun ⟨i, e, gs, adg, ng, cg, mg⟩ => gpM ws i e gs = gpM ws (sB2 ws i0).1 (sB2 ws i0).2.1 [] ∧ i ≤ ws.length ∧ gs.length ≤ 4 ∧ ng = gs.length ∧ Sl fI 3 1 w.heap.size gs (.slice adg ng cg) mg) (fun ⟨i, e, gs, adg, ng, cg, mg⟩ => 5 - gs.length) (((sB2 ws i0).1, (sB2 ws i0).2.1, [], none, 0, 0, [])) ⟨rfl, rfl, rfl, rfl, trivial⟩ au1 ⟨rfl, lin_le (lin_le (by omega)), by decide, rfl, .nil _ _ _ _⟩ ?_
  rintro ⟨i, e, gs, adg, ng, cg, mg⟩ ⟨hG, hi, hg4, hng, hsg⟩
  change wpM _ _ _ _ _ _ _ (mg ++ qB b29 ad n cap i e :: (b8, sO (sA ws i0).2.2 (sB2 ws i0).2.2 adg ng cg none 0 0 none 0 0) :: (b4, z0) :: []) _ _ _
  refine wpM.seq ?_
  refine wpM.seq ?_
  refine wpM.joinK (α := Bool) (fun q => [(55, .bool q)]) [(0, _), (4, _), (7, _), (8, _)] (fun q => mg ++ qB b29 ad n cap i e :: (b8, sO (sA ws i0).2.2 (sB2 ws i0).2.2 adg ng cg none 0 0 none 0 0) :: (b4, z0) :: []) (fun q => q = (isE ws i e 1 wGroup || (decide ((ng : Int) = 0) && decide (e = 0)))) ⟨rfl, rfl, rfl, rfl, trivial⟩ ?_ ?_
  ·
   refine wpM.region ?_
   refine LM.mv rfl ?_
   refine LM.callE (oc_call (enters_fn Tryz.func42 (by kernel_rfl) rfl) rfl) (fun w hm hc hg => qis_spec b29 i e 1 wGroup w hn (hl.ext hc) (SubM.mem au1 w hm)) ?_
   refine LM.mv rfl ?_
   first | refine LM.splitD (t := 43) rfl (fun h3 => ?_) (fun h3 => ?_) | refine LM.splitB (t := 43) rfl (fun h3 => ?_) (fun h3 => ?_)
   ·
    refine LM.dr 43 rfl rfl rfl ?_
    refine LM.dr 43 rfl rfl rfl ?_
    refine LM.dr 43 rfl rfl rfl ?_
    refine LM.dr 43 rfl rfl rfl ?_
    refine LM.dropU (t := 43) rfl rfl rfl ?_
    refine LM.dropX (t := 48) rfl rfl ?_
    refine LM.dropX (t := 48) rfl rfl ?_
    refine LM.dropX (t := 48) rfl rfl ?_
    refine LM.dropX (t := 48) rfl rfl ?_
    refine LM.dropX (t := 48) rfl rfl ?_
    refine LM.dr 43 rfl rfl rfl ?_
    refine LM.val (ov_pickT rfl rfl) ?_
    refine LM.nil (QM.sub (e' := [(0, _), (4, _), (7, _), (8, _), (55, _)]) ⟨rfl, rfl, rfl, rfl, rfl, trivial⟩ ?_)
    refine QM.meetK (_) ⟨au2, rfl, rfl, rfl, rfl, trivial⟩ au1 ?_
    · (simp [h1, h2, h3]; done)
   refine LM.sp 43 rfl rfl rfl ?_
   refine LM.val (ov_field Tryz.underlying30 rfl Tryz.sizeOf26 rfl (k := 2) rfl rfl) ?_
   refine LM.sp 43 rfl rfl rfl ?_
   refine LM.rd (om_ld Tryz.isAgg26 rfl rfl) ?_
   refine LM.sp 43 rfl rfl rfl ?_
   refine LM.val (ov_len Tryz.underlying26 rfl) ?_
   refine LM.sp 43 rfl rfl rfl ?_
   refine LM.val (ov_eql rfl rfl) ?_
   refine LM.sp 43 rfl rfl rfl ?_
   refine LM.mv rfl ?_
   refine LM.splitD (t := 48) rfl (fun h4 => ?_) (fun h4 => ?_)
   ·
    refine LM.sp 48 rfl rfl rfl ?_
    refine LM.mv rfl ?_
    refine LM.sp 48 rfl rfl rfl ?_
    refine LM.val (ov_nilCheck rfl) ?_
    refine LM.sp 48 rfl rfl rfl ?_
    refine LM.val (ov_field Tryz.underlying80 rfl Tryz.sizeOf3 rfl (k := 2) rfl rfl) ?_
    refine LM.sp 48 rfl rfl rfl ?_
    refine LM.rd (om_ld Tryz.isAgg3 rfl rfl) ?_
    refine LM.sp 48 rfl rfl rfl ?_
    refine LM.val (ov_eql rfl rfl) ?_
    refine LM.sp 43 rfl rfl rfl ?_
    refine LM.val (ov_pickT rfl rfl) ?_
    refine LM.val (ov_pickF rfl rfl) ?_
    refine LM.nil (QM.sub (e' := [(0, _), (4, _), (7, _), (8, _), (55, _)]) ⟨rfl, rfl, rfl, rfl, rfl, trivial⟩ ?_)
    refine QM.meetK (_) ⟨au2, rfl, rfl, rfl, rfl, trivial⟩ au1 ?_
    · (simp [h1, h2, h3, h4]; done)
   refine LM.dr 48 rfl rfl rfl ?_
   refine LM.dr 48 rfl rfl rfl ?_
   refine LM.dr 48 rfl rfl rfl ?_
   refine LM.dr 48 rfl rfl rfl ?_
   refine LM.dr 48 rfl rfl rfl ?_
   refine LM.sp 43 rfl rfl rfl ?_
   refine LM.val (ov_pickF rfl rfl) ?_
   refine LM.val (ov_pickF rfl rfl) ?_
   refine LM.nil (QM.sub (e' := [(0, _), (4, _), (7, _), (8, _), (55, _)]) ⟨rfl, rfl, rfl, rfl, rfl, trivial⟩ ?_)
   refine QM.meetK (_) ⟨au2, rfl, rfl, rfl, rfl, trivial⟩ au1 ?_
   · first | (simp [h1, h2, h3, h4]; done) | (have h0 := decide_eq_false (show ¬ ((ng : Nat) : Int) = 0 by omega); simp only [h0, h1, h2, h3, h4, Bool.false_and, Bool.or_false]; done) | (have h0 := decide_eq_false (show ¬ ((ng : Nat) : Int) = 0 by omega); simp only [h0, h1, h2, h3, h4, Bool.false_and, Bool.or_false]; rfl)
  rintro q hq
  change QM _ _ _ _ _ (mg ++ qB b29 ad n cap i e :: (b8, sO (sA ws i0).2.2 (sB2 ws i0).2.2 adg ng cg none 0 0 none 0 0) :: (b4, z0) :: []) _ _ _
  refine QM.then ?_
  first | refine wpM.condD rfl (fun h5 => ?_) (fun h5 => ?_) | refine wpM.condB rfl (fun h5 => ?_) (fun h5 => ?_)
  ·
   have hQ : (isE ws i e 1 wGroup || (decide (gs.length = 0) && decide (e = 0))) = true := (by rw [← h5, hq, hng, cond0])
   refine wpM.skip ?_
   refine QM.then ?_
   refine wpM.block ?_
   refine wpM.seq ?_
   refine wpM.seq (wpM.region ?_)
   refine LM.mv rfl ?_
   refine LM.callE (oc_call (enters_fn Tryz.func42 (by kernel_rfl) rfl) rfl) (fun w hm hc hg => qis_spec b29 i e 1 wGroup w hn (hl.ext hc) (SubM.mem au1 w hm)) ?_
   refine LM.mv rfl ?_
   first | refine LM.splitD (t := 58) rfl (fun h6 => ?_) (fun h6 => ?_) | refine LM.splitB (t := 58) rfl (fun h6 => ?_) (fun h6 => ?_)
   ·
    refine LM.sp 58 rfl rfl rfl ?_
    refine LM.mv rfl ?_
    refine LM.sp 58 rfl rfl rfl ?_
    refine LM.val (ov_field Tryz.underlying30 rfl Tryz.sizeOf26 rfl (k := 2) rfl rfl) ?_
    refine LM.sp 58 rfl rfl rfl ?_
    refine LM.rd (om_ld Tryz.isAgg26 rfl rfl) ?_
    refine LM.sp 58 rfl rfl rfl ?_
    refine LM.val (ov_len Tryz.underlying26 rfl) ?_
    refine LM.sp 58 rfl rfl rfl ?_
    refine LM.cW (oc_call (enters_fn Tryz.func43 (by kernel_rfl) rfl) rfl) (fun w hm hc hg => qlong_spec (ws := ws) b29 i e (ng : Nat) 4 w (SubM.mem au1 w hm)) rfl au8 ?_
    refine LM.val (ov_pickT rfl rfl) ?_
    refine LM.nil (QM.sub (e' := [(0, _), (4, _), (7, _), (8, _), (64, _)]) ⟨rfl, rfl, rfl, rfl, rfl, trivial⟩ (QM.then ?_))
    first | refine wpM.condD rfl (fun h7 => ?_) (fun h7 => ?_) | refine wpM.condB rfl (fun h7 => ?_) (fun h7 => ?_)
    ·
     have he0 := (isE_lt h6).2; have h4 : (4 : Int) ≤ (ng : Nat) := (by simpa [he0] using h7); rw [if_pos ⟨he0, h4⟩]
     refine wpM.exit ?_
     refine QM.then_exit ?_
     refine QM.block_miss rfl ?_
     refine QM.then_exit ?_
     refine QM.block_hit ?_
     refine QM.meetK ((i, 6, gs, adg, ng, cg, mg)) ⟨rfl, rfl, rfl, rfl, trivial⟩ au1 ?_
     · exact ⟨by rw [← hG]; exact gpM_full h6 (by omega), hi, hg4, hng, hsg⟩
    have h4 : ¬ (4 : Int) ≤ (ng : Nat) := (fun q => by rw [decide_eq_true q] at h7; simp at h7); rw [if_neg (fun q => h4 q.2)]
    refine wpM.skip ?_
    refine QM.then ?_
    refine wpM.seq ?_
    refine wpM.keep ((b8, _) :: []) (fun _ => True) (.one 0 0 (.one 1 1 (.one 2 0 (.one 3 2 (.one 4 2 (.one 5 2 (.one 6 0 (.last 7)))))))) (by kernel_rfl) (by kernel_rfl) au1 (fun _ _ => trivial) ?_
    refine KD.val rfl rfl (ov_field Tryz.underlying30 rfl Tryz.sizeOf26 rfl (k := 2) rfl rfl) ?_
    refine KD.rd rfl rfl (om_ld Tryz.isAgg26 rfl rfl) ?_
    refine KD.val rfl rfl (ov_move rfl) ?_
    refine KD.one rfl ?_
    refine LM.cW (oc_call (enters_fn Tryz.func40 (by kernel_rfl) rfl) rfl) (fun w hm hc hg => qfield_spec b29 i e 16 wGroup w hn hx (hl.ext hc) hab29 (SubM.mem au1 w hm)) rfl au8 ?_
    refine LM.nil ?_
    refine QM.one au1 (fun _ _ => trivial) ?_
    refine KD.one rfl ?_
    refine LM.single Tryz.underlying26 Tryz.sizeOf3 Tryz.zeroValue3 rfl rfl rfl rfl rfl (fun b69 hb69 => ?_)
    refine LM.nil ?_
    refine QM.one au1 (fun _ _ => trivial) ?_
    refine KD.one rfl ?_
    refine LM.app (a := (fldE ws i e wGroup 16).2.2) Tryz.underlying26 Tryz.typeInfo3 rfl rfl rfl rfl rfl rfl rfl (by assumption) (by rfl) (by intro _; rfl) (by intro _ u hu; simp [fI] at hu; (repeat (first | (rcases hu with rfl | hu) | subst hu | rfl))) (by first | exact Nat.le_refl _ | omega) au9 (by first | omega | (unfold maxLen; omega)) (by simp only [Tryz.t3]; omega) (fun ad70 n70 cap70 m70 hn70 hs70 hin70 => ?_)
    refine LM.nil ?_
    refine QM.one au1 (fun _ _ => trivial) ?_
    refine KD.val rfl rfl (ov_field Tryz.underlying30 rfl Tryz.sizeOf26 rfl (k := 2) rfl rfl) ?_
    refine KD.last rfl ?_
    refine LM.st Tryz.sizeOf26 rfl rfl rfl au5 rfl au8 ?_
    refine LM.nil ?_
    refine QM.qn ?_
    refine QM.sub (e' := [(0, _), (4, _), (7, _), (8, _)]) ⟨rfl, rfl, rfl, rfl, trivial⟩ (QM.then (wpM.region ?_))
    refine LM.mv rfl ?_
    refine LM.cW (oc_call (enters_fn Tryz.func41 (by kernel_rfl) rfl) rfl) (fun w hm hc hg => qneed_spec b29 (fldE ws i e wGroup 16).1 (fldE ws i e wGroup 16).2.1 3 [59] w hn hx (hl.ext hc) hab29 (SubM.mem au1 w hm)) rfl au8 ?_
    refine LM.nil (QM.sub (e' := [(0, _), (4, _), (7, _), (8, _)]) ⟨rfl, rfl, rfl, rfl, trivial⟩ ?_)
    refine QM.block_normal ?_
    refine QM.againK (((linE ws i e wGroup 16).1, (linE ws i e wGroup 16).2.1, gs ++ [(linE ws i e wGroup 16).2.2], ad70, n70, cap70, m70)) ⟨rfl, rfl, rfl, rfl, trivial⟩ au1 (fun _ h => h) ?_ ?_
    · exact ⟨by rw [← gpM_next hQ (by omega)]; exact hG, lin_le hi, by simp; omega, by rw [hn70]; simp, hs70⟩
    · dsimp only; rw [List.length_append, List.length_singleton]; omega
   have hg0 : gs.length = 0 := (by have h := hQ; simp only [h6, Bool.false_or, Bool.and_eq_true, decide_eq_true_eq] at h; exact h.1)
   refine LM.dr 58 rfl rfl rfl ?_
   refine LM.dr 58 rfl rfl rfl ?_
   refine LM.dr 58 rfl rfl rfl ?_
   refine LM.dr 58 rfl rfl rfl ?_
   refine LM.dr 58 rfl rfl rfl ?_
   refine LM.val (ov_pickF rfl rfl) ?_
   refine LM.nil (QM.sub (e' := [(0, _), (4, _), (7, _), (8, _), (64, _)]) ⟨rfl, rfl, rfl, rfl, rfl, trivial⟩ (QM.then ?_))
   refine wpM.condF rfl ?_
   refine wpM.skip ?_
   refine QM.then ?_
   refine wpM.seq ?_
   refine wpM.keep ((b8, _) :: []) (fun _ => True) (.one 0 0 (.one 1 1 (.one 2 0 (.one 3 2 (.one 4 2 (.one 5 2 (.one 6 0 (.last 7)))))))) (by kernel_rfl) (by kernel_rfl) au1 (fun _ _ => trivial) ?_
   refine KD.val rfl rfl (ov_field Tryz.underlying30 rfl Tryz.sizeOf26 rfl (k := 2) rfl rfl) ?_
   refine KD.rd rfl rfl (om_ld Tryz.isAgg26 rfl rfl) ?_
   refine KD.val rfl rfl (ov_move rfl) ?_
   refine KD.one rfl ?_
   refine LM.cW (oc_call (enters_fn Tryz.func40 (by kernel_rfl) rfl) rfl) (fun w hm hc hg => qfield_spec b29 i e 16 wGroup w hn hx (hl.ext hc) hab29 (SubM.mem au1 w hm)) rfl au8 ?_
   refine LM.nil ?_
   refine QM.one au1 (fun _ _ => trivial) ?_
   refine KD.one rfl ?_
   refine LM.single Tryz.underlying26 Tryz.sizeOf3 Tryz.zeroValue3 rfl rfl rfl rfl rfl (fun b69 hb69 => ?_)
   refine LM.nil ?_
   refine QM.one au1 (fun _ _ => trivial) ?_
   refine KD.one rfl ?_
   refine LM.app (a := (fldE ws i e wGroup 16).2.2) Tryz.underlying26 Tryz.typeInfo3 rfl rfl rfl rfl rfl rfl rfl (by assumption) (by rfl) (by intro _; rfl) (by intro _ u hu; simp [fI] at hu; (repeat (first | (rcases hu with rfl | hu) | subst hu | rfl))) (by first | exact Nat.le_refl _ | omega) au9 (by first | omega | (unfold maxLen; omega)) (by simp only [Tryz.t3]; omega) (fun ad70 n70 cap70 m70 hn70 hs70 hin70 => ?_)
   refine LM.nil ?_
   refine QM.one au1 (fun _ _ => trivial) ?_
   refine KD.val rfl rfl (ov_field Tryz.underlying30 rfl Tryz.sizeOf26 rfl (k := 2) rfl rfl) ?_
   refine KD.last rfl ?_
   refine LM.st Tryz.sizeOf26 rfl rfl rfl au5 rfl au8 ?_
   refine LM.nil ?_
   refine QM.qn ?_
   refine QM.sub (e' := [(0, _), (4, _), (7, _), (8, _)]) ⟨rfl, rfl, rfl, rfl, trivial⟩ (QM.then (wpM.region ?_))
   refine LM.mv rfl ?_
   refine LM.cW (oc_call (enters_fn Tryz.func41 (by kernel_rfl) rfl) rfl) (fun w hm hc hg => qneed_spec b29 (fldE ws i e wGroup 16).1 (fldE ws i e wGroup 16).2.1 3 [59] w hn hx (hl.ext hc) hab29 (SubM.mem au1 w hm)) rfl au8 ?_
   refine LM.nil (QM.sub (e' := [(0, _), (4, _), (7, _), (8, _)]) ⟨rfl, rfl, rfl, rfl, trivial⟩ ?_)
   refine QM.block_normal ?_
   refine QM.againK (((linE ws i e wGroup 16).1, (linE ws i e wGroup 16).2.1, gs ++ [(linE ws i e wGroup 16).2.2], ad70, n70, cap70, m70)) ⟨rfl, rfl, rfl, rfl, trivial⟩ au1 (fun _ h => h) ?_ ?_
   · exact ⟨by rw [← gpM_next hQ (by omega)]; exact hG, lin_le hi, by simp; omega, by rw [hn70]; simp, hs70⟩
   · dsimp only; rw [List.length_append, List.length_singleton]; omega
  refine wpM.exit ?_
  refine QM.then_exit ?_
  refine QM.then_exit ?_
  refine QM.block_hit ?_
  refine QM.meetK ((i, e, gs, adg, ng, cg, mg)) ⟨rfl, rfl, rfl, rfl, trivial⟩ au1 ?_
  · exact ⟨by rw [← hG]; exact gpM_stop (by rw [← h5, hq, hng, cond0]), hi, hg4, hng, hsg⟩
 rintro ⟨i1, e1, gs, adg, ng, cg, mg⟩ ⟨hG, hi1, hg4, hng, hsg⟩
 change QM _ _ _ _ _ (mg ++ qB b29 ad n cap i1 e1 :: (b8, sO (sA ws i0).2.2 (sB2 ws i0).2.2 adg ng cg none 0 0 none 0 0) :: (b4, z0) :: []) _ _ _
 refine QM.then ?_
 refine wpM.seq ?_
 refine wpM.joinK (α := Nat × Int × List CLk × Option Addr × Nat × Nat × Mem0) (fun ⟨i2, e2, ls, adl, nl, cl, ml⟩ => []) [(0, _), (4, _), (7, _), (8, _)] (fun ⟨i2, e2, ls, adl, nl, cl, ml⟩ => ml ++ (mg ++ (qB b29 ad n cap i2 e2 :: (b8, sO (sA ws i0).2.2 (sB2 ws i0).2.2 adg ng cg adl nl cl none 0 0) :: (b4, z0) :: []))) (fun ⟨i2, e2, ls, adl, nl, cl, ml⟩ => lkL ws i1 e1 [] = (ls, i2, e2) ∧ i2 ≤ ws.length ∧ ls.length ≤ 8 ∧ nl = ls.length ∧ Sl fL 63 5 w.heap.size ls (.slice adl nl cl) ml) ⟨rfl, rfl, rfl, rfl, trivial⟩ ?_ ?_
 ·
  refine wpM.block ?_
  refine wpM.loopK0 (α := Nat × Int × List CLk × Option Addr × Nat × Nat × Mem0) (fun ⟨i, e, ls, adl, nl, cl, ml⟩ => []) [(0, _), (4, _), (7, _), (8, _)] (fun ⟨i, e, ls, adl, nl, cl, ml⟩ => ml ++ (mg ++ (qB b29 ad n cap i e :: (b8, sO (sA ws i0).2.2 (sB2 ws i0).2.2 adg ng cg adl nl cl none 0 0) :: (b4, z0) :: []))) (fun ⟨i, e, ls, adl, nl, cl, ml⟩ => lkL ws i e ls = lkL ws i1 e1 [] ∧ i ≤ ws.length ∧ ls.length ≤ 8 ∧ nl = ls.length ∧ Sl fL 63 5 w.heap.size ls (.slice adl nl cl) ml) (fun ⟨i, e, ls, adl, nl, cl, ml⟩ => 9 - ls.length) ((i1, e1, [], none, 0, 0, [])) ⟨rfl, rfl, rfl, rfl, trivial⟩ au1 ⟨rfl, hi1, by decide, rfl, .nil _ _ _ _⟩ ?_
  rintro ⟨i, e, ls, adl, nl, cl, ml⟩ ⟨hL, hi, hl8, hnl, hsl⟩
  change wpM _ _ _ _ _ _ _ (ml ++ (mg ++ (qB b29 ad n cap i e :: (b8, sO (sA ws i0).2.2 (sB2 ws i0).2.2 adg ng cg adl nl cl none 0 0) :: (b4, z0) :: []))) _ _ _
  refine wpM.seq ?_
  refine wpM.seq ?_
  refine wpM.joinK (α := Bool) (fun q => [(79, .bool q)]) [(0, _), (4, _), (7, _), (8, _)] (fun q => ml ++ (mg ++ (qB b29 ad n cap i e :: (b8, sO (sA ws i0).2.2 (sB2 ws i0).2.2 adg ng cg adl nl cl none 0 0) :: (b4, z0) :: []))) (fun q => q = isL ws i e) ⟨rfl, rfl, rfl, rfl, trivial⟩ ?_ ?_
  ·
   refine wpM.region ?_
   refine LM.mv rfl ?_
   refine LM.callE (oc_call (enters_fn Tryz.func42 (by kernel_rfl) rfl) rfl) (fun w hm hc hg => qis_spec b29 i e 1 wLock w hn (hl.ext hc) (SubM.mem au1 w hm)) ?_
   refine LM.mv rfl ?_
   first | refine LM.splitD (t := 76) rfl (fun h8 => ?_) (fun h8 => ?_) | refine LM.splitB (t := 76) rfl (fun h8 => ?_) (fun h8 => ?_)
   ·
    refine LM.dr 76 rfl rfl rfl ?_
    refine LM.dr 76 rfl rfl rfl ?_
    refine LM.val (ov_pickT rfl rfl) ?_
    refine LM.nil (QM.sub (e' := [(0, _), (4, _), (7, _), (8, _), (79, _)]) ⟨rfl, rfl, rfl, rfl, rfl, trivial⟩ ?_)
    refine QM.meetK (_) ⟨au2, rfl, rfl, rfl, rfl, trivial⟩ au1 ?_
    · simp [isL, h1, h2, h8]
   refine LM.sp 76 rfl rfl rfl ?_
   refine LM.mv rfl ?_
   refine LM.sp 76 rfl rfl rfl ?_
   refine LM.callE (oc_call (enters_fn Tryz.func42 (by kernel_rfl) rfl) rfl) (fun w hm hc hg => qis_spec b29 i e 1 wShared w hn (hl.ext hc) (SubM.mem au1 w hm)) ?_
   refine LM.val (ov_pickF rfl rfl) ?_
   refine LM.nil (QM.sub (e' := [(0, _), (4, _), (7, _), (8, _), (79, _)]) ⟨rfl, rfl, rfl, rfl, rfl, trivial⟩ ?_)
   refine QM.meetK (_) ⟨au2, rfl, rfl, rfl, rfl, trivial⟩ au1 ?_
   · simp [isL, h1, h2, h8]
  rintro q hq
  change QM _ _ _ _ _ (ml ++ (mg ++ (qB b29 ad n cap i e :: (b8, sO (sA ws i0).2.2 (sB2 ws i0).2.2 adg ng cg adl nl cl none 0 0) :: (b4, z0) :: []))) _ _ _
  refine QM.then ?_
  first | refine wpM.condD rfl (fun h9 => ?_) (fun h9 => ?_) | refine wpM.condB rfl (fun h9 => ?_) (fun h9 => ?_)
  ·
   have hQ : isL ws i e = true := (by rw [← hq, h9]); have he0 := (isL_lt hQ).2; have hlt := (isL_lt hQ).1
   refine wpM.skip ?_
   refine QM.then ?_
   refine wpM.block ?_
   refine wpM.seq ?_
   refine wpM.seq (wpM.region ?_)
   refine LM.mv rfl ?_
   refine LM.val (ov_field Tryz.underlying30 rfl Tryz.sizeOf27 rfl (k := 3) rfl rfl) ?_
   refine LM.rd (om_ld Tryz.isAgg27 rfl rfl) ?_
   refine LM.val (ov_len Tryz.underlying27 rfl) ?_
   refine LM.cW (oc_call (enters_fn Tryz.func43 (by kernel_rfl) rfl) rfl) (fun w hm hc hg => qlong_spec (ws := ws) b29 i e (nl : Nat) 8 w (SubM.mem au1 w hm)) rfl au8 ?_
   refine LM.nil (QM.sub (e' := [(0, _), (4, _), (7, _), (8, _), (84, _)]) ⟨rfl, rfl, rfl, rfl, rfl, trivial⟩ (QM.then ?_))
   first | refine wpM.condD rfl (fun h10 => ?_) (fun h10 => ?_) | refine wpM.condB rfl (fun h10 => ?_) (fun h10 => ?_)
   ·
    have h4 : (8 : Int) ≤ (nl : Nat) := (by simpa [he0] using h10); rw [if_pos ⟨he0, h4⟩]
    refine wpM.exit ?_
    refine QM.then_exit ?_
    refine QM.block_miss rfl ?_
    refine QM.then_exit ?_
    refine QM.block_hit ?_
    refine QM.meetK ((i, 6, ls, adl, nl, cl, ml)) ⟨rfl, rfl, rfl, rfl, trivial⟩ au1 ?_
    · exact ⟨by rw [← hL]; exact lkL_full hQ (by omega), hi, hl8, hnl, hsl⟩
   have h4 : ¬ (8 : Int) ≤ (nl : Nat) := (fun q => by rw [decide_eq_true q] at h10; simp at h10); rw [if_neg (fun q => h4 q.2)]
   refine wpM.skip ?_
   refine QM.then (wpM.seq (wpM.region ?_))
   refine LM.mv rfl ?_
   refine LM.callE (oc_call (enters_fn Tryz.func42 (by kernel_rfl) rfl) rfl) (fun w hm hc hg => qis_spec b29 i e 1 wShared w hn (hl.ext hc) (SubM.mem au1 w hm)) ?_
   refine LM.as rfl ?_
   refine LM.nil (QM.sub (e' := [(0, _), (4, _), (7, _), (8, _), (9, _)]) ⟨rfl, rfl, rfl, rfl, rfl, trivial⟩ (QM.then (wpM.seq (wpM.region ?_))))
   refine LM.mv rfl ?_
   refine LM.val (ov_nilCheck rfl) ?_
   refine LM.val (ov_field Tryz.underlying80 rfl Tryz.sizeOf3 rfl (k := 1) rfl rfl) ?_
   refine LM.rd (om_ld Tryz.isAgg3 rfl rfl) ?_
   refine LM.val (ov_add64 rfl rfl (by omega)) ?_
   refine LM.val (ov_nilCheck rfl) ?_
   refine LM.val (ov_field Tryz.underlying80 rfl Tryz.sizeOf3 rfl (k := 1) rfl rfl) ?_
   refine LM.st Tryz.sizeOf3 rfl rfl rfl au5 rfl au8 ?_
   refine LM.nil (QM.sub (e' := [(0, _), (4, _), (7, _), (8, _), (9, _)]) ⟨rfl, rfl, rfl, rfl, rfl, trivial⟩ (QM.then ?_))
   refine wpM.keep ((b8, _) :: []) (fun _ => True) (.one 0 0 (.one 1 1 (.one 2 0 (.one 3 0 (.one 4 2 (.one 5 2 (.one 6 2 (.one 7 0 (.last 8))))))))) (by kernel_rfl) (by kernel_rfl) au1 (fun _ _ => trivial) ?_
   refine KD.val rfl rfl (ov_field Tryz.underlying30 rfl Tryz.sizeOf27 rfl (k := 3) rfl rfl) ?_
   refine KD.rd rfl rfl (om_ld Tryz.isAgg27 rfl rfl) ?_
   refine KD.val rfl rfl (ov_move rfl) ?_
   refine KD.val rfl rfl (ov_move rfl) ?_
   refine KD.one rfl ?_
   refine LM.cW (oc_call (enters_fn Tryz.func44 (by kernel_rfl) rfl) rfl) (fun w hm hc hg => qlock_spec (isE ws i e 1 wShared) b29 (i + 1) e w hn hx (hl.ext hc) hab29 (SubM.mem au1 w hm)) rfl au8 ?_
   refine LM.nil ?_
   refine QM.one au1 (fun _ _ => trivial) ?_
   refine KD.one rfl ?_
   refine LM.single Tryz.underlying27 Tryz.sizeOf63 Tryz.zeroValue63 rfl rfl rfl rfl rfl (fun b99 hb99 => ?_)
   refine LM.nil ?_
   refine QM.one au1 (fun _ _ => trivial) ?_
   refine KD.one rfl ?_
   refine LM.app (a := (lckE ws (isE ws i e 1 wShared) (i + 1) e).2.2) Tryz.underlying27 Tryz.typeInfo63 rfl rfl rfl rfl rfl rfl rfl (by assumption) (by rfl) (by intro _; rfl) (by intro _ u hu; simp [fL] at hu; (repeat (first | (rcases hu with rfl | hu) | subst hu | rfl))) (by first | exact Nat.le_refl _ | omega) au9 (by first | omega | (unfold maxLen; omega)) (by simp only [Tryz.t63]; omega) (fun ad100 n100 cap100 m100 hn100 hs100 hin100 => ?_)
   refine LM.nil ?_
   refine QM.one au1 (fun _ _ => trivial) ?_
   refine KD.val rfl rfl (ov_field Tryz.underlying30 rfl Tryz.sizeOf27 rfl (k := 3) rfl rfl) ?_
   refine KD.last rfl ?_
   refine LM.st Tryz.sizeOf27 rfl rfl rfl au5 rfl au8 ?_
   refine LM.nil ?_
   refine QM.qn ?_
   refine QM.sub (e' := [(0, _), (4, _), (7, _), (8, _)]) ⟨rfl, rfl, rfl, rfl, trivial⟩ ?_
   refine QM.block_normal ?_
   refine QM.againK (((lckE ws (isE ws i e 1 wShared) (i + 1) e).1, (lckE ws (isE ws i e 1 wShared) (i + 1) e).2.1, ls ++ [(lckE ws (isE ws i e 1 wShared) (i + 1) e).2.2], ad100, n100, cap100, m100)) ⟨rfl, rfl, rfl, rfl, trivial⟩ au1 (fun _ h => h) ?_ ?_
   · exact ⟨by rw [← lkL_next hQ (by omega)]; exact hL, lck_le (by omega), by simp; omega, by rw [hn100]; simp, hs100⟩
   · dsimp only; rw [List.length_append, List.length_singleton]; omega
  refine wpM.exit ?_
  refine QM.then_exit ?_
  refine QM.then_exit ?_
  refine QM.block_hit ?_
  refine QM.meetK ((i, e, ls, adl, nl, cl, ml)) ⟨rfl, rfl, rfl, rfl, trivial⟩ au1 ?_
  · exact ⟨by rw [← hL]; exact lkL_stop (by rw [← hq, h9]), hi, hl8, hnl, hsl⟩
 rintro ⟨i2, e2, ls, adl, nl, cl, ml⟩ ⟨hL, hi2, hl8, hnl, hsl⟩
 change QM _ _ _ _ _ (ml ++ (mg ++ (qB b29 ad n cap i2 e2 :: (b8, sO (sA ws i0).2.2 (sB2 ws i0).2.2 adg ng cg adl nl cl none 0 0) :: (b4, z0) :: []))) _ _ _
 refine QM.then (wpM.seq (wpM.region ?_))
 refine LM.as rfl ?_
 refine LM.nil (QM.sub (e' := [(0, _), (4, _), (7, _), (8, _), (10, _)]) ⟨rfl, rfl, rfl, rfl, rfl, trivial⟩ (QM.then ?_))
 refine wpM.seq ?_
 refine wpM.joinK (α := Nat × Int × List PgV × Option Addr × Nat × Nat × Mem0 × List Int × Option Addr × Nat × Nat × Mem0 × Mem0) (fun ⟨i3, e3, ps, adp, np, cp, mp, pl, adq, nq, cq, mq, mo⟩ => [(10, .slice adq nq cq)]) [(4, _), (7, _), (8, _)] (fun ⟨i3, e3, ps, adp, np, cp, mp, pl, adq, nq, cq, mq, mo⟩ => mo ++ (mp ++ (mq ++ (ml ++ (mg ++ (qB b29 ad n cap i3 e3 :: (b8, sO (sA ws i0).2.2 (sB2 ws i0).2.2 adg ng cg adl nl cl adp np cp) :: (b4, z0) :: [])))))) (fun ⟨i3, e3, ps, adp, np, cp, mp, pl, adq, nq, cq, mq, mo⟩ => pgL ws i2 e2 [] [] = (ps.map PgV.c, pl, i3, e3) ∧ i3 ≤ ws.length ∧ ps.length ≤ 8 ∧ np = ps.length ∧ Sl fPg 87 2 w.heap.size ps (.slice adp np cp) mp ∧ pl.length = ps.length ∧ nq = pl.length ∧ Sl fI 3 1 w.heap.size pl (.slice adq nq cq) mq ∧ (∀ w, Mem w mo → PgsIn ps w) ∧ (∀ p ∈ mo, w.heap.size ≤ p.1)) ⟨rfl, rfl, rfl, trivial⟩ ?_ ?_
 ·
  refine wpM.block ?_
  refine wpM.loopK0 (α := Nat × Int × List PgV × Option Addr × Nat × Nat × Mem0 × List Int × Option Addr × Nat × Nat × Mem0 × Mem0) (fun ⟨i, e, ps, adp, np, cp, mp, pl, adq, nq, cq, mq, mo⟩ => [(10, .slice adq nq cq)]) [(0, _), (4, _), (7, _), (8, _)] (fun ⟨i, e, ps, adp, np, cp, mp, pl, adq, nq, cq, mq, mo⟩ => mo ++ (mp ++ (mq ++ (ml ++ (mg ++ (qB b29 ad n cap i e :: (b8, sO (sA ws i0).2.2 (sB2 ws i0).2.2 adg ng cg adl nl cl adp np cp) :: (b4, z0) :: [])))))) (fun ⟨i, e, ps, adp, np, cp, mp, pl, adq, nq, cq, mq, mo⟩ => pgL ws i e (ps.map PgV.c) pl = pgL ws i2 e2 [] [] ∧ i ≤ ws.length ∧ ps.length ≤ 8 ∧ np = ps.length ∧ Sl fPg 87 2 w.heap.size ps (.slice adp np cp) mp ∧ pl.length = ps.length ∧ nq = pl.length ∧ Sl fI 3 1 w.heap.size pl (.slice adq nq cq) mq ∧ (∀ w, Mem w mo → PgsIn ps w) ∧ (∀ p ∈ mo, w.heap.size ≤ p.1)) (fun ⟨i, e, ps, adp, np, cp, mp, pl, adq, nq, cq, mq, mo⟩ => 9 - ps.length) ((i2, e2, [], none, 0, 0, [], [], none, 0, 0, [], [])) ⟨au2, rfl, rfl, rfl, rfl, trivial⟩ au1 ⟨rfl, hi2, by decide, rfl, .nil _ _ _ _, rfl, rfl, .nil _ _ _ _, (fun w _ p hp => by cases hp), (fun p hp => by cases hp)⟩ ?_
  rintro ⟨i, e, ps, adp, np, cp, mp, pl, adq, nq, cq, mq, mo⟩ ⟨hP, hi, hp8, hnp, hsp, hplp, hnq, hsq, hop, hog⟩
  change wpM _ _ _ _ _ _ _ (mo ++ (mp ++ (mq ++ (ml ++ (mg ++ (qB b29 ad n cap i e :: (b8, sO (sA ws i0).2.2 (sB2 ws i0).2.2 adg ng cg adl nl cl adp np cp) :: (b4, z0) :: [])))))) _ _ _
  refine wpM.seq ?_
  refine wpM.seq ?_
  refine wpM.joinK (α := Bool) (fun q => [(116, .bool q)]) [(0, _), (4, _), (7, _), (8, _), (10, _)] (fun q => mo ++ (mp ++ (mq ++ (ml ++ (mg ++ (qB b29 ad n cap i e :: (b8, sO (sA ws i0).2.2 (sB2 ws i0).2.2 adg ng cg adl nl cl adp np cp) :: (b4, z0) :: [])))))) (fun q => q = (isE ws i e 1 wProg || (decide ((np : Int) = 0) && decide (e = 0)))) ⟨rfl, rfl, rfl, rfl, rfl, trivial⟩ ?_ ?_
  ·
   refine wpM.region ?_
   refine LM.mv rfl ?_
   refine LM.callE (oc_call (enters_fn Tryz.func42 (by kernel_rfl) rfl) rfl) (fun w hm hc hg => qis_spec b29 i e 1 wProg w hn (hl.ext hc) (SubM.mem au1 w hm)) ?_
   refine LM.mv rfl ?_
   first | refine LM.splitD (t := 104) rfl (fun h11 => ?_) (fun h11 => ?_) | refine LM.splitB (t := 104) rfl (fun h11 => ?_) (fun h11 => ?_)
   ·
    refine LM.dr 104 rfl rfl rfl ?_
    refine LM.dr 104 rfl rfl rfl ?_
    refine LM.dr 104 rfl rfl rfl ?_
    refine LM.dr 104 rfl rfl rfl ?_
    refine LM.dropU (t := 104) rfl rfl rfl ?_
    refine LM.dropX (t := 109) rfl rfl ?_
    refine LM.dropX (t := 109) rfl rfl ?_
    refine LM.dropX (t := 109) rfl rfl ?_
    refine LM.dropX (t := 109) rfl rfl ?_
    refine LM.dropX (t := 109) rfl rfl ?_
    refine LM.dr 104 rfl rfl rfl ?_
    refine LM.val (ov_pickT rfl rfl) ?_
    refine LM.nil (QM.sub (e' := [(0, _), (4, _), (7, _), (8, _), (10, _), (116, _)]) ⟨rfl, rfl, rfl, rfl, rfl, rfl, trivial⟩ ?_)
    refine QM.meetK (_) ⟨au2, rfl, rfl, rfl, rfl, rfl, trivial⟩ au1 ?_
    · (simp [h1, h2, h11]; done)
   refine LM.sp 104 rfl rfl rfl ?_
   refine LM.val (ov_field Tryz.underlying30 rfl Tryz.sizeOf28 rfl (k := 4) rfl rfl) ?_
   refine LM.sp 104 rfl rfl rfl ?_
   refine LM.rd (om_ld Tryz.isAgg28 rfl rfl) ?_
   refine LM.sp 104 rfl rfl rfl ?_
   refine LM.val (ov_len Tryz.underlying28 rfl) ?_
   refine LM.sp 104 rfl rfl rfl ?_
   refine LM.val (ov_eql rfl rfl) ?_
   refine LM.sp 104 rfl rfl rfl ?_
   refine LM.mv rfl ?_
   refine LM.splitD (t := 109) rfl (fun h12 => ?_) (fun h12 => ?_)
   ·
    refine LM.sp 109 rfl rfl rfl ?_
    refine LM.mv rfl ?_
    refine LM.sp 109 rfl rfl rfl ?_
    refine LM.val (ov_nilCheck rfl) ?_
    refine LM.sp 109 rfl rfl rfl ?_
    refine LM.val (ov_field Tryz.underlying80 rfl Tryz.sizeOf3 rfl (k := 2) rfl rfl) ?_
    refine LM.sp 109 rfl rfl rfl ?_
    refine LM.rd (om_ld Tryz.isAgg3 rfl rfl) ?_
    refine LM.sp 109 rfl rfl rfl ?_
    refine LM.val (ov_eql rfl rfl) ?_
    refine LM.sp 104 rfl rfl rfl ?_
    refine LM.val (ov_pickT rfl rfl) ?_
    refine LM.val (ov_pickF rfl rfl) ?_
    refine LM.nil (QM.sub (e' := [(0, _), (4, _), (7, _), (8, _), (10, _), (116, _)]) ⟨rfl, rfl, rfl, rfl, rfl, rfl, trivial⟩ ?_)
    refine QM.meetK (_) ⟨au2, rfl, rfl, rfl, rfl, rfl, trivial⟩ au1 ?_
    · (simp [h1, h2, h11, h12]; done)
   refine LM.dr 109 rfl rfl rfl ?_
   refine LM.dr 109 rfl rfl rfl ?_
   refine LM.dr 109 rfl rfl rfl ?_
   refine LM.dr 109 rfl rfl rfl ?_
   refine LM.dr 109 rfl rfl rfl ?_
   refine LM.sp 104 rfl rfl rfl ?_
   refine LM.val (ov_pickF rfl rfl) ?_
   refine LM.val (ov_pickF rfl rfl) ?_
   refine LM.nil (QM.sub (e' := [(0, _), (4, _), (7, _), (8, _), (10, _), (116, _)]) ⟨rfl, rfl, rfl, rfl, rfl, rfl, trivial⟩ ?_)
   refine QM.meetK (_) ⟨au2, rfl, rfl, rfl, rfl, rfl, trivial⟩ au1 ?_
   · first | (simp [h1, h2, h11, h12]; done) | (have h0 := decide_eq_false (show ¬ ((np : Nat) : Int) = 0 by omega); simp only [h0, h1, h2, h11, h12, Bool.false_and, Bool.or_false]; done) | (have h0 := decide_eq_false (show ¬ ((np : Nat) : Int) = 0 by omega); simp only [h0, h1, h2, h11, h12, Bool.false_and, Bool.or_false]; rfl)
  rintro q hq
  change QM _ _ _ _ _ (mo ++ (mp ++ (mq ++ (ml ++ (mg ++ (qB b29 ad n cap i e :: (b8, sO (sA ws i0).2.2 (sB2 ws i0).2.2 adg ng cg adl nl cl adp np cp) :: (b4, z0) :: [])))))) _ _ _
  refine QM.then ?_
  first | refine wpM.condD rfl (fun h13 => ?_) (fun h13 => ?_) | refine wpM.condB rfl (fun h13 => ?_) (fun h13 => ?_)
  ·
   have hQ : isP ws i e (ps.map PgV.c) = true := (by rw [isP_eq, List.length_map, ← h13, hq, hnp, cond0]); have he0 := isP_zero hQ
   refine wpM.skip ?_
   refine QM.then ?_
   refine wpM.block ?_
   refine wpM.seq ?_
   refine wpM.seq (wpM.region ?_)
   refine LM.mv rfl ?_
   refine LM.val (ov_field Tryz.underlying30 rfl Tryz.sizeOf28 rfl (k := 4) rfl rfl) ?_
   refine LM.rd (om_ld Tryz.isAgg28 rfl rfl) ?_
   refine LM.val (ov_len Tryz.underlying28 rfl) ?_
   refine LM.cW (oc_call (enters_fn Tryz.func43 (by kernel_rfl) rfl) rfl) (fun w hm hc hg => qlong_spec (ws := ws) b29 i e (np : Nat) 8 w (SubM.mem au1 w hm)) rfl au8 ?_
   refine LM.nil (QM.sub (e' := [(0, _), (4, _), (7, _), (8, _), (10, _), (121, _)]) ⟨rfl, rfl, rfl, rfl, rfl, rfl, trivial⟩ (QM.then ?_))
   first | refine wpM.condD rfl (fun h14 => ?_) (fun h14 => ?_) | refine wpM.condB rfl (fun h14 => ?_) (fun h14 => ?_)
   ·
    have h4 : (8 : Int) ≤ (np : Nat) := (by simpa [he0] using h14); rw [if_pos ⟨he0, h4⟩]
    refine wpM.exit ?_
    refine QM.then_exit ?_
    refine QM.block_miss rfl ?_
    refine QM.then_exit ?_
    refine QM.block_hit ?_
    refine QM.meetK ((i, 6, ps, adp, np, cp, mp, pl, adq, nq, cq, mq, mo)) ⟨au2, rfl, rfl, rfl, trivial⟩ au1 ?_
    · exact ⟨by rw [← hP]; exact pgL_full hQ (by simp; omega), hi, hp8, hnp, hsp, hplp, hnq, hsq, hop, hog⟩
   have h4 : ¬ (8 : Int) ≤ (np : Nat) := (fun q => by rw [decide_eq_true q] at h14; simp at h14); rw [if_neg (fun q => h4 q.2)]
   refine wpM.skip ?_
   refine QM.then (wpM.seq (wpM.region ?_))
   refine LM.mv rfl ?_
   refine LM.mv rfl ?_
   refine LM.val (ov_nilCheck rfl) ?_
   refine LM.val (ov_field Tryz.underlying80 rfl Tryz.sizeOf3 rfl (k := 1) rfl rfl) ?_
   refine LM.rd (om_ld Tryz.isAgg3 rfl rfl) ?_
   refine LM.single Tryz.underlying26 Tryz.sizeOf3 Tryz.zeroValue3 rfl rfl rfl rfl rfl (fun b127 hb127 => ?_)
   refine LM.app (a := (i : Int)) Tryz.underlying26 Tryz.typeInfo3 rfl rfl rfl rfl rfl rfl rfl (by assumption) (by rfl) (by intro _; rfl) (by intro _ u hu; simp [fI] at hu; (repeat (first | (rcases hu with rfl | hu) | subst hu | rfl))) (by first | exact Nat.le_refl _ | omega) au9 (by first | omega | (unfold maxLen; omega)) (by simp only [Tryz.t3]; omega) (fun ad128 n128 cap128 m128 hn128 hs128 hin128 => ?_)
   refine LM.as rfl ?_
   refine LM.nil (QM.sub (e' := [(0, _), (4, _), (7, _), (8, _), (10, _)]) ⟨rfl, rfl, rfl, rfl, rfl, trivial⟩ (QM.then (wpM.seq (wpM.region ?_))))
   refine LM.mv rfl ?_
   refine LM.mv rfl ?_
   refine LM.val (ov_nilCheck rfl) ?_
   refine LM.val (ov_field Tryz.underlying80 rfl Tryz.sizeOf3 rfl (k := 1) rfl rfl) ?_
   refine LM.rd (om_ld Tryz.isAgg3 rfl rfl) ?_
   refine LM.callT (oc_call (enters_fn Tryz.func45 (by kernel_rfl) rfl) rfl) ParT.mono (fun w hm hc hg => rparse_spec (i : Nat) w hn hx (hl.ext hc)) ?_
   rintro u135 m135 ⟨ad135, n135, cap135, rfl, hn135, hs135⟩ hge135; have hpp := par_pos hi; obtain ⟨j9, hj9⟩ : ∃ j : Nat, (parseO ws (i : Int)).2.2.1 = (j : Int) := ⟨_, (Int.toNat_of_nonneg hpp.1).symm⟩; rw [hj9]
   refine LM.mv rfl ?_
   refine LM.val (ov_extract rfl rfl) ?_
   refine LM.val (ov_extract rfl rfl) ?_
   refine LM.val (ov_extract rfl rfl) ?_
   refine LM.alloc Tryz.zeroValue87 rfl (fun b11 hb11 => ?_)
   refine LM.stW Tryz.sizeOf87 rfl rfl rfl rfl au7 au8 ?_
   refine LM.as rfl ?_
   refine LM.as rfl ?_
   refine LM.nil (QM.sub (e' := [(0, _), (4, _), (7, _), (8, _), (10, _), (11, _), (12, _), (13, _)]) ⟨rfl, rfl, rfl, rfl, rfl, rfl, rfl, rfl, trivial⟩ (QM.then (wpM.seq (wpM.region ?_))))
   refine LM.val (ov_field Tryz.underlying30 rfl Tryz.sizeOf28 rfl (k := 4) rfl rfl) ?_
   refine LM.rd (om_ld Tryz.isAgg28 rfl rfl) ?_
   refine LM.rd (om_ldW Tryz.isAgg87 Tryz.sizeOf87 rfl rfl) ?_
   refine LM.single Tryz.underlying28 Tryz.sizeOf87 Tryz.zeroValue87 rfl rfl rfl rfl rfl (fun b142 hb142 => ?_)
   refine LM.app (a := (⟨prC (parseO ws (i : Int)), ad135, n135, cap135⟩ : PgV)) Tryz.underlying28 Tryz.typeInfo87 rfl rfl rfl rfl rfl rfl rfl (by assumption) (by rfl) (by intro _; rfl) (by intro _ u hu; simp [fPg] at hu; (repeat (first | (rcases hu with rfl | hu) | subst hu | rfl))) (by first | exact Nat.le_refl _ | omega) au9 (by first | omega | (unfold maxLen; omega)) (by simp only [Tryz.t87]; omega) (fun ad143 n143 cap143 m143 hn143 hs143 hin143 => ?_)
   refine LM.val (ov_field Tryz.underlying30 rfl Tryz.sizeOf28 rfl (k := 4) rfl rfl) ?_
   refine LM.st Tryz.sizeOf28 rfl rfl rfl au5 rfl au8 ?_
   refine LM.nil (QM.sub (e' := [(0, _), (4, _), (7, _), (8, _), (10, _), (12, _), (13, _)]) ⟨rfl, rfl, rfl, rfl, rfl, rfl, rfl, trivial⟩ (QM.then (wpM.seq (wpM.region ?_))))
   refine LM.mv rfl ?_
   refine LM.mv rfl ?_
   refine LM.val (ov_nilCheck rfl) ?_
   refine LM.val (ov_field Tryz.underlying80 rfl Tryz.sizeOf3 rfl (k := 1) rfl rfl) ?_
   refine LM.st Tryz.sizeOf3 rfl rfl rfl au5 rfl au8 ?_
   refine LM.nil (QM.sub (e' := [(0, _), (4, _), (7, _), (8, _), (10, _), (13, _)]) ⟨rfl, rfl, rfl, rfl, rfl, rfl, trivial⟩ (QM.then (wpM.region ?_)))
   refine LM.mv rfl ?_
   refine LM.mv rfl ?_
   refine LM.val (ov_nilCheck rfl) ?_
   refine LM.val (ov_field Tryz.underlying80 rfl Tryz.sizeOf3 rfl (k := 2) rfl rfl) ?_
   refine LM.st Tryz.sizeOf3 rfl rfl rfl au5 rfl au8 ?_
   refine LM.nil (QM.sub (e' := [(0, _), (4, _), (7, _), (8, _), (10, _)]) ⟨rfl, rfl, rfl, rfl, rfl, trivial⟩ ?_)
   refine QM.block_normal ?_
   refine QM.againK ((j9, (parseO ws (i : Int)).2.2.2, ps ++ [(⟨prC (parseO ws (i : Int)), ad135, n135, cap135⟩ : PgV)], ad143, n143, cap143, m143, pl ++ [(i : Int)], ad128, n128, cap128, m128, m135 ++ mo)) ⟨au2, rfl, rfl, rfl, rfl, trivial⟩ au1 (fun _ h => h) ?_ ?_
   · exact ⟨by rw [snoc_map, ← hP, pgL_next hQ (by simp; omega), hj9, Int.toNat_natCast], by have := hpp.2; rw [hj9, Int.toNat_natCast] at this; exact this, by simp; omega, by rw [hn143]; simp, hs143, by simp [hplp], by rw [hn128]; simp, hs128, (fun w hm => snoc_in (hop w (hm.sub (List.sublist_append_right _ _))) ⟨hn135, sr_of_sl hs135 (fun _ => rfl) (hm.sub (List.sublist_append_left _ _))⟩), List.forall_mem_append.2 ⟨hge135, hog⟩⟩
   · dsimp only; rw [List.length_append, List.length_singleton]; omega
  refine wpM.exit ?_
  refine QM.then_exit ?_
  refine QM.then_exit ?_
  refine QM.block_hit ?_
  refine QM.meetK ((i, e, ps, adp, np, cp, mp, pl, adq, nq, cq, mq, mo)) ⟨au2, rfl, rfl, rfl, trivial⟩ au1 ?_
  · exact ⟨by rw [← hP]; exact pgL_stop (by rw [isP_eq, List.length_map, ← h13, hq, hnp, cond0]), hi, hp8, hnp, hsp, hplp, hnq, hsq, hop, hog⟩
 rintro ⟨i3, e3, ps, adp, np, cp, mp, pl, adq, nq, cq, mq, mo⟩ ⟨hP, hi3, hp8, hnp, hsp, hplp, hnq, hsq, hop, hog⟩
 change QM _ _ _ _ _ (mo ++ (mp ++ (mq ++ (ml ++ (mg ++ (qB b29 ad n cap i3 e3 :: (b8, sO (sA ws i0).2.2 (sB2 ws i0).2.2 adg ng cg adl nl cl adp np cp) :: (b4, z0) :: [])))))) _ _ _
 refine QM.then ?_
 refine wpM.seq ?_
 refine wpM.seq (wpM.region ?_)
 refine LM.mv rfl ?_
 refine LM.val (ov_nilCheck rfl) ?_
 refine LM.val (ov_field Tryz.underlying80 rfl Tryz.sizeOf3 rfl (k := 2) rfl rfl) ?_
 refine LM.rd (om_ld Tryz.isAgg3 rfl rfl) ?_
 refine LM.val (ov_neq rfl rfl) ?_
 refine LM.nil (QM.sub (e' := [(4, _), (7, _), (8, _), (10, _), (157, _)]) ⟨rfl, rfl, rfl, rfl, rfl, trivial⟩ (QM.then ?_))
 refine wpM.condD rfl (fun h15 => ?_) (fun h15 => ?_)
 ·
  have hI : SetI ws i0 gs i1 e1 ls i2 e2 (ps.map PgV.c) pl i3 e3 := ⟨⟨(gpM_sG hG).1, fun q => by rw [(gpM_sG hG).2 q]⟩, hL, hP⟩
  refine wpM.seq ?_
  refine wpM.keep ((b29, _) :: []) (fun _ => True) (.one 0 0 (.one 1 0 (.one 2 0 (.one 3 0 (.one 4 1 (.one 5 0 (.one 6 0 (.one 7 0 (.one 8 1 (.one 9 2 (.one 10 0 (.one 11 0 .nil)))))))))))) (by kernel_rfl) (by kernel_rfl) au1 (fun _ _ => trivial) ?_
  refine KD.val rfl rfl (ov_build (cs := #[_, _, _, _, _]) rfl (by first | rfl | kernel_rfl)) ?_
  refine KD.val rfl rfl (ov_move rfl) ?_
  refine KD.val rfl rfl (ov_nilCheck rfl) ?_
  refine KD.val rfl rfl (ov_field Tryz.underlying80 rfl Tryz.sizeOf3 rfl (k := 1) rfl rfl) ?_
  refine KD.rd rfl rfl (om_ld Tryz.isAgg3 rfl rfl) ?_
  refine KD.val rfl rfl (ov_move rfl) ?_
  refine KD.val rfl rfl (ov_nilCheck rfl) ?_
  refine KD.val rfl rfl (ov_field Tryz.underlying80 rfl Tryz.sizeOf3 rfl (k := 2) rfl rfl) ?_
  refine KD.rd rfl rfl (om_ld Tryz.isAgg3 rfl rfl) ?_
  refine KD.one rfl ?_
  refine LM.stW Tryz.sizeOf30 rfl rfl rfl rfl au7 au8 ?_
  refine LM.nil ?_
  refine QM.one au1 (fun _ _ => trivial) ?_
  refine KD.val rfl rfl (ov_assign rfl) ?_
  refine KD.val rfl rfl (ov_assign rfl) ?_
  refine KD.nil ?_
  refine QM.sub (e' := [(4, _), (5, _), (6, _)]) ⟨rfl, rfl, rfl, trivial⟩ (QM.then ?_)
  refine wpM.ret ?_
  refine QM.then_ret ?_
  refine QM.leaveCs (ds := ([])) (.inl rfl) [.cell 4 30, .tmp 5, .tmp 6] Tryz.results12 hd_nil (rc_w rfl Tryz.isAgg30 Tryz.sizeOf30 rfl (rc_tmp rfl (rc_tmp rfl rc_nil))) ?_
  intro w' hm' hc'
  rw [set_nat hi0, hI.bad h15]; exact ⟨hc', [], StT.none, Mem.nil _, fun p hp => by cases hp⟩
 have he3 : e3 = 0 := Classical.not_not.1 h15; have hI : SetI ws i0 gs i1 e1 ls i2 e2 (ps.map PgV.c) pl i3 e3 := ⟨⟨(gpM_sG hG).1, fun q => by rw [(gpM_sG hG).2 q]⟩, hL, hP⟩
 refine wpM.skip ?_
 refine QM.then ?_
 refine wpM.seq ?_
 refine wpM.seq (wpM.region ?_)
 refine LM.as rfl ?_
 refine LM.nil (QM.sub (e' := [(4, _), (7, _), (8, _), (10, _), (14, _)]) ⟨rfl, rfl, rfl, rfl, rfl, trivial⟩ (QM.then ?_))
 refine wpM.block ?_
 refine wpM.loopK0 (α := Nat) (fun j => [(14, .int .i64 (j : Nat))]) [(4, _), (7, _), (8, _), (10, _)] (fun j => mo ++ (mp ++ (mq ++ (ml ++ (mg ++ (qB b29 ad n cap i3 e3 :: (b8, sO (sA ws i0).2.2 (sB2 ws i0).2.2 adg ng cg adl nl cl adp np cp) :: (b4, z0) :: [])))))) (fun j => j ≤ ps.length ∧ ((ps.map PgV.c).take j).any (misB ls ps.length) = false) (fun j => ps.length - j) (0) ⟨au2, rfl, rfl, rfl, rfl, trivial⟩ au1 ⟨Nat.zero_le _, rfl⟩ ?_
 rintro j ⟨hj, hmis⟩
 change wpM _ _ _ _ _ _ _ (mo ++ (mp ++ (mq ++ (ml ++ (mg ++ (qB b29 ad n cap i3 e3 :: (b8, sO (sA ws i0).2.2 (sB2 ws i0).2.2 adg ng cg adl nl cl adp np cp) :: (b4, z0) :: [])))))) _ _ _
 refine wpM.seq ?_
 refine wpM.seq (wpM.region ?_)
 refine LM.mv rfl ?_
 refine LM.val (ov_field Tryz.underlying30 rfl Tryz.sizeOf28 rfl (k := 4) rfl rfl) ?_
 refine LM.rd (om_ld Tryz.isAgg28 rfl rfl) ?_
 refine LM.val (ov_len Tryz.underlying28 rfl) ?_
 refine LM.val (ov_lss rfl rfl) ?_
 refine LM.nil (QM.sub (e' := [(4, _), (7, _), (8, _), (10, _), (14, _), (171, _)]) ⟨rfl, rfl, rfl, rfl, rfl, rfl, trivial⟩ (QM.then ?_))
 refine wpM.condD rfl (fun h16 => ?_) (fun h16 => ?_)
 ·
  have hjl : j < ps.length := (by omega); have hpm : ps.getD j default ∈ ps := List.mem_of_getElem? (getq default hjl)
  refine wpM.skip ?_
  refine QM.then ?_
  refine wpM.seq ?_
  refine wpM.block ?_
  refine wpM.seq ?_
  refine wpM.draw [(0, 0), (1, 1), (2, 0), (3, 0), (4, 1), (5, 0), (6, 1), (7, 0), (8, 1), (9, 0), (10, 2), (11, 0), (12, 0), (13, 0), (14, 0), (15, 0)] (by kernel_rfl) (by kernel_rfl) ?_
  refine LD.val rfl rfl (ov_field Tryz.underlying30 rfl Tryz.sizeOf28 rfl (k := 4) rfl rfl) ?_
  refine LD.rd rfl rfl (om_ld Tryz.isAgg28 rfl rfl) ?_
  refine LD.val rfl rfl (ov_move rfl) ?_
  refine LD.val rfl rfl (ov_idxSN au6 Tryz.underlying28 Tryz.sizeOf87 rfl rfl (by omega)) ?_
  refine LD.rd rfl rfl (om_slA (by assumption) (by intro _; rfl) Tryz.isAgg87 Tryz.sizeOf87 rfl au3) ?_
  refine LD.val rfl rfl (ov_field Tryz.underlying30 rfl Tryz.sizeOf27 rfl (k := 3) rfl rfl) ?_
  refine LD.rd rfl rfl (om_ld Tryz.isAgg27 rfl rfl) ?_
  refine LD.val rfl rfl (ov_field Tryz.underlying30 rfl Tryz.sizeOf28 rfl (k := 4) rfl rfl) ?_
  refine LD.rd rfl rfl (om_ld Tryz.isAgg28 rfl rfl) ?_
  refine LD.val rfl rfl (ov_len Tryz.underlying28 rfl) ?_
  refine LD.callE rfl rfl (oc_call (enters_fn Tryz.func46 (by kernel_rfl) rfl) rfl) (fun w hm hc hg => rcheck_spec (np : Nat) w (hop w (hm.pick mo) _ hpm).1 (hop w (hm.pick mo) _ hpm).2 hnl (hsl.srM (by intro _; rfl) hm)) ?_
  refine LD.val rfl rfl (ov_move rfl) ?_
  refine LD.val rfl rfl (ov_extract rfl rfl) ?_
  refine LD.val rfl rfl (ov_extract rfl rfl) ?_
  refine LD.val rfl rfl (ov_assign rfl) ?_
  refine LD.val rfl rfl (ov_assign rfl) ?_
  refine LD.nil ?_
  refine QM.sub (e' := [(4, _), (7, _), (8, _), (10, _), (14, _), (16, _)]) ⟨rfl, rfl, rfl, rfl, rfl, rfl, trivial⟩ (QM.then (wpM.seq (wpM.region ?_)))
  refine LM.mv rfl ?_
  refine LM.val (ov_neq rfl rfl) ?_
  refine LM.nil (QM.sub (e' := [(4, _), (7, _), (8, _), (10, _), (14, _), (16, _), (189, _)]) ⟨rfl, rfl, rfl, rfl, rfl, rfl, rfl, trivial⟩ (QM.then ?_))
  refine wpM.condD rfl (fun h17 => ?_) (fun h17 => ?_)
  ·
   refine wpM.seq ?_
   refine wpM.keep (mq ++ []) (fun _ => True) (.one 0 0 (.one 1 0 (.one 2 0 (.one 3 0 (.one 4 1 (.one 5 0 (.one 6 2 (.one 7 0 (.one 8 0 .nil))))))))) (by kernel_rfl) (by kernel_rfl) au1 (fun _ _ => trivial) ?_
   refine KD.val rfl rfl (ov_build (cs := #[_, _, _, _, _]) rfl (by first | rfl | kernel_rfl)) ?_
   refine KD.val rfl rfl (ov_move rfl) ?_
   refine KD.val rfl rfl (ov_move rfl) ?_
   refine KD.val rfl rfl (ov_idxSN au6 Tryz.underlying26 Tryz.sizeOf3 rfl rfl (by omega)) ?_
   refine KD.rd rfl rfl (om_sl1 (by assumption) (by intro _; rfl) Tryz.isAgg3 rfl rfl (by exact getq 0 au4) (by rfl)) ?_
   refine KD.val rfl rfl (ov_move rfl) ?_
   refine KD.one rfl ?_
   refine LM.stW Tryz.sizeOf30 rfl rfl rfl rfl au7 au8 ?_
   refine LM.nil ?_
   refine QM.one au1 (fun _ _ => trivial) ?_
   refine KD.val rfl rfl (ov_assign rfl) ?_
   refine KD.val rfl rfl (ov_assign rfl) ?_
   refine KD.nil ?_
   refine QM.sub (e' := [(4, _), (5, _), (6, _)]) ⟨rfl, rfl, rfl, trivial⟩ (QM.then ?_)
   refine wpM.ret ?_
   refine QM.block_ret ?_
   refine QM.then_ret ?_
   refine QM.then_ret ?_
   refine QM.block_ret ?_
   refine QM.then_ret ?_
   refine QM.leaveCs (ds := ([])) (.inl rfl) [.cell 4 30, .tmp 5, .tmp 6] Tryz.results12 hd_nil (rc_w rfl Tryz.isAgg30 Tryz.sizeOf30 rfl (rc_tmp rfl (rc_tmp rfl rc_nil))) ?_
   intro w' hm' hc'
   rw [set_nat hi0, hI.mis he3 (j := j) (by simpa using hjl) (by rw [List.length_map]; exact hmis) (by rw [map_getD, List.length_map]; unfold misB; rw [← hnp]; simpa using h17), map_getD, List.length_map, ← hnp]; exact ⟨hc', [], StT.none, Mem.nil _, fun p hp => by cases hp⟩
  refine wpM.skip ?_
  refine QM.block_normal ?_
  refine QM.then (wpM.region ?_)
  refine LM.mv rfl ?_
  refine LM.val (ov_add64 rfl rfl (by omega)) ?_
  refine LM.as rfl ?_
  refine LM.nil (QM.sub (e' := [(4, _), (7, _), (8, _), (10, _), (14, _)]) ⟨rfl, rfl, rfl, rfl, rfl, trivial⟩ ?_)
  refine QM.againK (j + 1) ⟨au2, rfl, rfl, rfl, rfl, trivial⟩ au1 (fun _ h => h) ?_ ?_
  · exact ⟨by omega, by rw [any_snoc default (by simp; omega), hmis, Bool.false_or, map_getD]; unfold misB; rw [← hnp]; simpa using h17⟩
  · omega
 refine wpM.exit ?_
 refine QM.then_exit ?_
 refine QM.then_exit ?_
 refine QM.block_hit ?_
 refine QM.then ?_
 refine wpM.seq ?_
 refine wpM.keep ((b29, _) :: (b8, _) :: []) (fun _ => True) (.one 0 1 (.one 1 0 (.one 2 0 (.one 3 0 (.one 4 1 (.one 5 2 (.one 6 0 (.one 7 0 .nil)))))))) (by kernel_rfl) (by kernel_rfl) au1 (fun _ _ => trivial) ?_
 refine KD.rd rfl rfl (om_ldW Tryz.isAgg30 Tryz.sizeOf30 rfl rfl) ?_
 refine KD.val rfl rfl (ov_move rfl) ?_
 refine KD.val rfl rfl (ov_nilCheck rfl) ?_
 refine KD.val rfl rfl (ov_field Tryz.underlying80 rfl Tryz.sizeOf3 rfl (k := 1) rfl rfl) ?_
 refine KD.rd rfl rfl (om_ld Tryz.isAgg3 rfl rfl) ?_
 refine KD.one rfl ?_
 refine LM.stW Tryz.sizeOf30 rfl rfl rfl rfl au7 au8 ?_
 refine LM.nil ?_
 refine QM.one au1 (fun _ _ => trivial) ?_
 refine KD.val rfl rfl (ov_assign rfl) ?_
 refine KD.val rfl rfl (ov_assign rfl) ?_
 refine KD.nil ?_
 refine QM.sub (e' := [(4, _), (5, _), (6, _)]) ⟨rfl, rfl, rfl, trivial⟩ (QM.then ?_)
 refine wpM.ret ?_
 refine QM.leaveCs (ds := ([])) (.inl rfl) [.cell 4 30, .tmp 5, .tmp 6] Tryz.results12 hd_nil (rc_w rfl Tryz.isAgg30 Tryz.sizeOf30 rfl (rc_tmp rfl (rc_tmp rfl rc_nil))) ?_
 intro w' hm' hc'
 rw [set_nat hi0, hI.ok he3 (by have hjl : j = ps.length := (by omega); have h9 := hmis; rw [hjl, List.take_of_length_le (by simp)] at h9; rw [List.length_map]; exact h9)]; refine ⟨hc', mo ++ (mp ++ (ml ++ (mg ++ []))), ⟨⟨(sA ws i0).2.2, (sB2 ws i0).2.2, gs, adg, ng, cg, ls, adl, nl, cl, ps, adp, np, cp⟩, rfl, rfl, fun w hm => ⟨hng, sr_of_sl hsg (fun _ => rfl) (hm.pick mg), hnl, sr_of_sl hsl (fun _ => rfl) (hm.pick ml), hnp, sr_of_sl hsp (fun _ => rfl) (hm.pick mp), hop w (hm.pick mo)⟩⟩, SubM.mem (by (repeat' (first | exact SubM.nil _ | refine SubM.app ?_))) w' hm', ?_⟩; intro p hp; simp only [List.mem_append, List.not_mem_nil, or_false] at hp; rcases hp with hp | hp | hp | hp; exact hog p hp; exact Sl.ge hsp p hp; exact Sl.ge hsl p hp; exact Sl.ge hsg p hp
end Go.Eng
namespace Go.Eng
open Go Go.Proofs Go.RowKit
abbrev stB (b : Nat) (s : StV) : Nat × Obj := (b, sO s.cr s.gr s.ga s.gn s.gc s.la s.ln s.lc s.pa s.pn s.pc)
def headB (s : StC) : Bool := winB s.cr 4 && (winB s.gr 8 && (winB (s.gs.length : Int) 4 && (decide (s.ls.length ≤ 8) && winB (s.ps.length : Int) 8)))
theorem mayS_split (s : StC) : mayS s = (headB s && (s.gs.all (fun n => winB n 16) && (s.ls.all lokB && !s.ps.any (misB s.ls s.ps.length)))) := by
  unfold mayS headB
  ac_rfl
theorem head_eq {s : StV} (h1 : s.gn = s.gs.length) (h2 : s.ln = s.ls.length) (h3 : s.pn = s.ps.length) : headB s.C = !(!winB s.cr 4 || (!winB s.gr 8 || (!winB (s.gn : Int) 4 || (decide ((s.ln : Int) > 8) || !winB (s.pn : Int) 8)))) := by
  unfold headB StV.C
  simp only [List.length_map, ← h1, ← h2, ← h3]
  rw [show decide (s.ln ≤ 8) = !decide ((s.ln : Int) > 8) by rw [← decide_not]; exact decide_eq_decide.2 (by omega)]
  cases winB s.cr 4 <;> cases winB s.gr 8 <;> cases winB (s.gn : Int) 4 <;> cases decide ((s.ln : Int) > 8) <;> cases winB (s.pn : Int) 8 <;> rfl
theorem mayS_head {s : StC} (h : headB s = false) : mayS s = false := by rw [mayS_split, h]; rfl
theorem mayS_gs {s : StC} (h : s.gs.all (fun n => winB n 16) = false) : mayS s = false := by rw [mayS_split, h]; simp
theorem mayS_ls {s : StC} (h : s.ls.all lokB = false) : mayS s = false := by rw [mayS_split, h]; simp
set_option maxRecDepth 100000 in
theorem swithin_spec (n most : Int) (w : World) : Ret Tryz.prog 48 #[.int .i64 n, .int .i64 most] w (fun v w' => v = .bool (winB n most) ∧ Ext w w') := by
 refine Ret.enterM (l := [.int .i64 n, .int .i64 most]) Tryz.func48 rfl Tryz.ntmps48 rfl ([]) (no) (Mem.nil w) ?_
 refine wpM.seq (wpM.region ?_)
 refine LM.as rfl ?_
 refine LM.nil (QM.sub (e' := [(0, _), (1, _)]) ⟨rfl, rfl, trivial⟩ (QM.then (wpM.seq (wpM.region ?_))))
 refine LM.mv rfl ?_
 refine LM.val (ov_geq rfl rfl) ?_
 refine LM.mv rfl ?_
 refine LM.splitD (t := 7) rfl (fun h1 => ?_) (fun h1 => ?_)
 ·
  refine LM.sp 7 rfl rfl rfl ?_
  refine LM.mv rfl ?_
  refine LM.sp 7 rfl rfl rfl ?_
  refine LM.mv rfl ?_
  refine LM.sp 7 rfl rfl rfl ?_
  refine LM.val (ov_leq rfl rfl) ?_
  refine LM.val (ov_pickT rfl rfl) ?_
  refine LM.as rfl ?_
  refine LM.nil (QM.sub (e' := [(4, _)]) ⟨rfl, trivial⟩ (QM.then ?_))
  refine wpM.ret ?_
  refine QM.leave (.inl rfl) [.tmp 4] Tryz.results48 rfl ?_
  intro w' hm' hc' hg'
  refine ⟨?_, hc'⟩; simp only [resV, winB]; first | (rw [decide_eq_true (show 1 ≤ n by omega), Bool.true_and]; done) | (rw [decide_eq_false (show ¬ 1 ≤ n by omega), Bool.false_and]; done)
 refine LM.dr 7 rfl rfl rfl ?_
 refine LM.dr 7 rfl rfl rfl ?_
 refine LM.dr 7 rfl rfl rfl ?_
 refine LM.val (ov_pickF rfl rfl) ?_
 refine LM.as rfl ?_
 refine LM.nil (QM.sub (e' := [(4, _)]) ⟨rfl, trivial⟩ (QM.then ?_))
 refine wpM.ret ?_
 refine QM.leave (.inl rfl) [.tmp 4] Tryz.results48 rfl ?_
 intro w' hm' hc' hg'
 refine ⟨?_, hc'⟩; simp only [resV, winB]; first | (rw [decide_eq_true (show 1 ≤ n by omega), Bool.true_and]; done) | (rw [decide_eq_false (show ¬ 1 ≤ n by omega), Bool.false_and]; done)
set_option maxRecDepth 100000 in
theorem smay1_spec (n : Int) (w : World) : Ret Tryz.prog 50 #[.int .i64 n] w (fun v w' => v = .bool (!winB n 16) ∧ Ext w w') := by
 refine Ret.enterM (l := [.int .i64 n]) Tryz.func50 rfl Tryz.ntmps50 rfl ([]) (no) (Mem.nil w) ?_
 refine wpM.seq (wpM.region ?_)
 refine LM.as rfl ?_
 refine LM.nil (QM.sub (e' := [(0, _)]) ⟨rfl, trivial⟩ (QM.then (wpM.seq (wpM.region ?_))))
 refine LM.mv rfl ?_
 refine LM.callE (oc_call (enters_fn Tryz.func48 (by kernel_rfl) rfl) rfl) (fun w hm hc hg => swithin_spec n 16 w) ?_
 first | refine LM.val (ov_notD rfl) ?_ | refine LM.val (ov_not rfl) ?_
 refine LM.as rfl ?_
 refine LM.nil (QM.sub (e' := [(2, _)]) ⟨rfl, trivial⟩ (QM.then ?_))
 refine wpM.ret ?_
 refine QM.leave (.inl rfl) [.tmp 2] Tryz.results50 rfl ?_
 intro w' hm' hc' hg'
 exact ⟨rfl, hc'⟩
set_option maxRecDepth 100000 in
theorem lockMay_spec (x : CLk) (w : World) : Ret Tryz.prog 53 #[.agg (fL x).toArray] w (fun v w' => v = .bool (lokB x) ∧ Ext w w') := by
 refine Ret.enterM (l := [.agg (fL x).toArray]) Tryz.func53 rfl Tryz.ntmps53 rfl ([]) (no) (Mem.nil w) ?_
 refine wpM.seq (wpM.region ?_)
 refine LM.box rfl rfl (fun b1 hb1 => ?_)
 refine LM.as rfl ?_
 refine LM.nil (QM.sub (e' := [(1, _)]) ⟨rfl, trivial⟩ (QM.then ?_))
 refine wpM.seq ?_
 refine wpM.joinK (α := Bool) (fun q => [(3, .bool q)]) [(1, _)] (fun q => (b1, .cells (fL x).toArray 63 (0, 0)) :: []) (fun q => q = (decide (x.rd = 0) && decide (x.wr = 0))) ⟨rfl, trivial⟩ ?_ ?_
 ·
  refine wpM.region ?_
  refine LM.val (ov_field Tryz.underlying63 rfl Tryz.sizeOf3 rfl (k := 3) rfl rfl) ?_
  refine LM.rd (om_ld Tryz.isAgg3 rfl rfl) ?_
  refine LM.val (ov_eql rfl rfl) ?_
  refine LM.mv rfl ?_
  refine LM.splitD (t := 7) rfl (fun h1 => ?_) (fun h1 => ?_)
  ·
   refine LM.sp 7 rfl rfl rfl ?_
   refine LM.val (ov_field Tryz.underlying63 rfl Tryz.sizeOf3 rfl (k := 4) rfl rfl) ?_
   refine LM.sp 7 rfl rfl rfl ?_
   refine LM.rd (om_ld Tryz.isAgg3 rfl rfl) ?_
   refine LM.sp 7 rfl rfl rfl ?_
   refine LM.val (ov_eql rfl rfl) ?_
   refine LM.val (ov_pickT rfl rfl) ?_
   refine LM.as rfl ?_
   refine LM.nil (QM.sub (e' := [(1, _), (3, _)]) ⟨rfl, rfl, trivial⟩ ?_)
   refine QM.meetK (_) ⟨au2, rfl, trivial⟩ au1 ?_
   · (simp [h1, -List.getD_eq_getElem?_getD]; done)
  refine LM.dr 7 rfl rfl rfl ?_
  refine LM.dr 7 rfl rfl rfl ?_
  refine LM.dr 7 rfl rfl rfl ?_
  refine LM.val (ov_pickF rfl rfl) ?_
  refine LM.as rfl ?_
  refine LM.nil (QM.sub (e' := [(1, _), (3, _)]) ⟨rfl, rfl, trivial⟩ ?_)
  refine QM.meetK (_) ⟨au2, rfl, trivial⟩ au1 ?_
  · (simp [h1, -List.getD_eq_getElem?_getD]; done)
 rintro q hq
 change QM _ _ _ _ _ ((b1, .cells (fL x).toArray 63 (0, 0)) :: []) _ _ _
 refine QM.then ?_
 refine wpM.seq ?_
 refine wpM.seq (wpM.region ?_)
 refine LM.val (ov_field Tryz.underlying63 rfl Tryz.sizeOf4 rfl (k := 0) rfl rfl) ?_
 refine LM.rd (om_ld Tryz.isAgg4 rfl rfl) ?_
 refine LM.nil (QM.sub (e' := [(1, _), (3, _), (13, _)]) ⟨rfl, rfl, rfl, trivial⟩ (QM.then ?_))
 refine wpM.joinK (α := Bool) (fun q2 => [(3, .bool q2)]) [(1, _)] (fun q2 => (b1, .cells (fL x).toArray 63 (0, 0)) :: []) (fun q2 => q2 = (if x.sh then winB x.rd 16 && winB x.wr 16 else decide (x.rd = 0) && decide (x.wr = 0))) ⟨rfl, trivial⟩ ?_ ?_
 ·
  first | refine wpM.condD rfl (fun h2 => ?_) (fun h2 => ?_) | refine wpM.condB rfl (fun h2 => ?_) (fun h2 => ?_)
  ·
   refine wpM.region ?_
   refine LM.val (ov_field Tryz.underlying63 rfl Tryz.sizeOf3 rfl (k := 3) rfl rfl) ?_
   refine LM.rd (om_ld Tryz.isAgg3 rfl rfl) ?_
   refine LM.callE (oc_call (enters_fn Tryz.func48 (by kernel_rfl) rfl) rfl) (fun w hm hc hg => swithin_spec _ _ w) ?_
   refine LM.mv rfl ?_
   first | refine LM.splitD (t := 17) rfl (fun h3 => ?_) (fun h3 => ?_) | refine LM.splitB (t := 17) rfl (fun h3 => ?_) (fun h3 => ?_)
   ·
    refine LM.sp 17 rfl rfl rfl ?_
    refine LM.val (ov_field Tryz.underlying63 rfl Tryz.sizeOf3 rfl (k := 4) rfl rfl) ?_
    refine LM.sp 17 rfl rfl rfl ?_
    refine LM.rd (om_ld Tryz.isAgg3 rfl rfl) ?_
    refine LM.sp 17 rfl rfl rfl ?_
    refine LM.callE (oc_call (enters_fn Tryz.func48 (by kernel_rfl) rfl) rfl) (fun w hm hc hg => swithin_spec _ _ w) ?_
    refine LM.val (ov_pickT rfl rfl) ?_
    refine LM.as rfl ?_
    refine LM.nil (QM.sub (e' := [(1, _), (3, _)]) ⟨rfl, rfl, trivial⟩ ?_)
    refine QM.meetK (_) ⟨au2, rfl, trivial⟩ au1 ?_
    · (simp [h2, h3, -List.getD_eq_getElem?_getD]; done)
   refine LM.dr 17 rfl rfl rfl ?_
   refine LM.dr 17 rfl rfl rfl ?_
   refine LM.dr 17 rfl rfl rfl ?_
   refine LM.val (ov_pickF rfl rfl) ?_
   refine LM.as rfl ?_
   refine LM.nil (QM.sub (e' := [(1, _), (3, _)]) ⟨rfl, rfl, trivial⟩ ?_)
   refine QM.meetK (_) ⟨au2, rfl, trivial⟩ au1 ?_
   · (simp [h2, h3, -List.getD_eq_getElem?_getD]; done)
  refine wpM.skip ?_
  refine QM.meetK (_) ⟨au2, rfl, trivial⟩ au1 ?_
  · first | (simp [h2, -List.getD_eq_getElem?_getD]; done) | (simp_all [-List.getD_eq_getElem?_getD]; done)
 rintro q2 hq2
 change QM _ _ _ _ _ ((b1, .cells (fL x).toArray 63 (0, 0)) :: []) _ _ _
 refine QM.then (wpM.seq (wpM.region ?_))
 refine LM.mv rfl ?_
 refine LM.mv rfl ?_
 first | refine LM.splitD (t := 23) rfl (fun h4 => ?_) (fun h4 => ?_) | refine LM.splitB (t := 23) rfl (fun h4 => ?_) (fun h4 => ?_)
 ·
  refine LM.sp 23 rfl rfl rfl ?_
  refine LM.val (ov_field Tryz.underlying63 rfl Tryz.sizeOf3 rfl (k := 1) rfl rfl) ?_
  refine LM.sp 23 rfl rfl rfl ?_
  refine LM.rd (om_ld Tryz.isAgg3 rfl rfl) ?_
  refine LM.sp 23 rfl rfl rfl ?_
  refine LM.callE (oc_call (enters_fn Tryz.func48 (by kernel_rfl) rfl) rfl) (fun w hm hc hg => swithin_spec _ _ w) ?_
  refine LM.val (ov_pickT rfl rfl) ?_
  refine LM.mv rfl ?_
  first | refine LM.splitD (t := 28) rfl (fun h5 => ?_) (fun h5 => ?_) | refine LM.splitB (t := 28) rfl (fun h5 => ?_) (fun h5 => ?_)
  ·
   refine LM.sp 28 rfl rfl rfl ?_
   refine LM.val (ov_field Tryz.underlying63 rfl Tryz.sizeOf3 rfl (k := 2) rfl rfl) ?_
   refine LM.sp 28 rfl rfl rfl ?_
   refine LM.rd (om_ld Tryz.isAgg3 rfl rfl) ?_
   refine LM.sp 28 rfl rfl rfl ?_
   refine LM.callE (oc_call (enters_fn Tryz.func48 (by kernel_rfl) rfl) rfl) (fun w hm hc hg => swithin_spec _ _ w) ?_
   refine LM.val (ov_pickT rfl rfl) ?_
   refine LM.as rfl ?_
   refine LM.nil (QM.sub (e' := [(2, _)]) ⟨rfl, trivial⟩ (QM.then ?_))
   refine wpM.ret ?_
   refine QM.leave (.inl rfl) [.tmp 2] Tryz.results53 rfl ?_
   intro w' hm' hc' hg'
   refine ⟨?_, hc'⟩; simp only [resV, lokB, ← hq2]; simp [h4, h5]
  refine LM.dr 28 rfl rfl rfl ?_
  refine LM.dr 28 rfl rfl rfl ?_
  refine LM.dr 28 rfl rfl rfl ?_
  refine LM.val (ov_pickF rfl rfl) ?_
  refine LM.as rfl ?_
  refine LM.nil (QM.sub (e' := [(2, _)]) ⟨rfl, trivial⟩ (QM.then ?_))
  refine wpM.ret ?_
  refine QM.leave (.inl rfl) [.tmp 2] Tryz.results53 rfl ?_
  intro w' hm' hc' hg'
  refine ⟨?_, hc'⟩; simp only [resV, lokB, ← hq2]; simp [h4, h5]
 refine LM.dr 23 rfl rfl rfl ?_
 refine LM.dr 23 rfl rfl rfl ?_
 refine LM.dr 23 rfl rfl rfl ?_
 refine LM.val (ov_pickF rfl rfl) ?_
 refine LM.mv rfl ?_
 refine LM.dr 28 rfl rfl rfl ?_
 refine LM.dr 28 rfl rfl rfl ?_
 refine LM.dr 28 rfl rfl rfl ?_
 refine LM.val (ov_pickF rfl rfl) ?_
 refine LM.as rfl ?_
 refine LM.nil (QM.sub (e' := [(2, _)]) ⟨rfl, trivial⟩ (QM.then ?_))
 refine wpM.ret ?_
 refine QM.leave (.inl rfl) [.tmp 2] Tryz.results53 rfl ?_
 intro w' hm' hc' hg'
 refine ⟨?_, hc'⟩; simp only [resV, lokB, ← hq2]; simp [h4]
set_option maxRecDepth 100000 in
theorem smay2_spec (x : CLk) (w : World) : Ret Tryz.prog 52 #[.agg (fL x).toArray] w (fun v w' => v = .bool (!lokB x) ∧ Ext w w') := by
 refine Ret.enterM (l := [.agg (fL x).toArray]) Tryz.func52 rfl Tryz.ntmps52 rfl ([]) (no) (Mem.nil w) ?_
 refine wpM.seq (wpM.region ?_)
 refine LM.box rfl rfl (fun b1 hb1 => ?_)
 refine LM.as rfl ?_
 refine LM.nil (QM.sub (e' := [(1, _)]) ⟨rfl, trivial⟩ (QM.then (wpM.seq (wpM.region ?_))))
 refine LM.rd (om_ldW Tryz.isAgg63 Tryz.sizeOf63 rfl rfl) ?_
 refine LM.callE (oc_call (enters_fn Tryz.func53 (by kernel_rfl) rfl) rfl) (fun w hm hc hg => lockMay_spec x w) ?_
 first | refine LM.val (ov_notD rfl) ?_ | refine LM.val (ov_not rfl) ?_
 refine LM.as rfl ?_
 refine LM.nil (QM.sub (e' := [(2, _)]) ⟨rfl, trivial⟩ (QM.then ?_))
 refine wpM.ret ?_
 refine QM.leave (.inl rfl) [.tmp 2] Tryz.results52 rfl ?_
 intro w' hm' hc' hg'
 exact ⟨rfl, hc'⟩
set_option maxRecDepth 100000 in
theorem ixf_g {xs : List Int} {ad : Option Addr} {n cap : Nat} (w : World) (hn : n = xs.length) (hl : Sr fI 1 xs (.slice ad n cap) w) (hx : xs.length ≤ 1000000) : Ret Tryz.prog 93 #[.slice ad n cap, .func (.func 50) #[] #[]] w (fun v w' => v = .int .i64 (fixI (fun o => (!winB o 16)) xs) ∧ Ext w w') := by
 refine Ret.enterM (l := [.slice ad n cap, .func (.func 50) #[] #[]]) Tryz.func93 rfl Tryz.ntmps93 rfl ([]) (no) (Mem.nil w) ?_
 refine wpM.seq (wpM.region ?_)
 refine LM.as rfl ?_
 refine LM.nil (QM.sub (e' := [(0, _), (1, _)]) ⟨rfl, rfl, trivial⟩ (QM.then ?_))
 refine wpM.seq ?_
 refine wpM.seq (wpM.region ?_)
 refine LM.mv rfl ?_
 refine LM.val (ov_len Tryz.underlying26 rfl) ?_
 refine LM.mv rfl ?_
 refine LM.nil (QM.sub (e' := [(0, _), (1, _), (7, _), (8, _)]) ⟨rfl, rfl, rfl, rfl, trivial⟩ (QM.then ?_))
 refine wpM.block ?_
 refine wpM.loopK0 (α := Nat) (fun i => [(8, .int .i64 (i : Nat))]) [(0, _), (1, _), (7, _)] (fun i => []) (fun i => i ≤ xs.length ∧ (xs.take i).any (fun o => (!winB o 16)) = false) (fun i => xs.length - i) (0) ⟨au2, rfl, rfl, rfl, trivial⟩ au1 ⟨Nat.zero_le _, rfl⟩ ?_
 rintro i ⟨hi, ha⟩
 change wpM _ _ _ _ _ _ _ ([]) _ _ _
 refine wpM.seq (wpM.region ?_)
 refine LM.val (ov_lss rfl rfl) ?_
 refine LM.nil (QM.sub (e' := [(0, _), (1, _), (7, _), (8, _), (9, _)]) ⟨rfl, rfl, rfl, rfl, rfl, trivial⟩ (QM.then ?_))
 refine wpM.seq ?_
 refine wpM.condD rfl (fun h1 => ?_) (fun h1 => ?_)
 ·
  refine wpM.skip ?_
  refine QM.then ?_
  refine wpM.seq ?_
  refine wpM.block ?_
  refine wpM.seq (wpM.region ?_)
  refine LM.mv rfl ?_
  refine LM.as rfl ?_
  refine LM.nil (QM.sub (e' := [(0, _), (1, _), (5, _), (7, _), (8, _)]) ⟨rfl, rfl, rfl, rfl, rfl, trivial⟩ (QM.then (wpM.seq (wpM.region ?_))))
  refine LM.mv rfl ?_
  refine LM.mv rfl ?_
  refine LM.mv rfl ?_
  refine LM.val (ov_idxSN au6 Tryz.underlying26 Tryz.sizeOf3 rfl rfl (by omega)) ?_
  first | refine LM.rd (om_sl1 (by assumption) (by intro _; rfl) Tryz.isAgg3 rfl rfl (by exact getq 0 au4) (by rfl)) ?_ | refine LM.rdC (om_sr1 (by assumption) Tryz.isAgg3 rfl rfl (by exact getq 0 au4) (by rfl) id) ?_ | refine LM.rd (om_ld Tryz.isAgg3 rfl rfl) ?_
  refine LM.callE (oc_callV rfl (enters_fn Tryz.func50 (by kernel_rfl) rfl) rfl) (fun w hm hc hg => smay1_spec _ w) ?_
  refine LM.nil (QM.sub (e' := [(0, _), (1, _), (5, _), (7, _), (8, _), (16, _)]) ⟨rfl, rfl, rfl, rfl, rfl, rfl, trivial⟩ (QM.then ?_))
  first | refine wpM.condD rfl (fun h2 => ?_) (fun h2 => ?_) | refine wpM.condB rfl (fun h2 => ?_) (fun h2 => ?_)
  ·
   refine wpM.seq (wpM.region ?_)
   refine LM.mv rfl ?_
   refine LM.as rfl ?_
   refine LM.nil (QM.sub (e' := [(4, _)]) ⟨rfl, trivial⟩ (QM.then ?_))
   refine wpM.ret ?_
   refine QM.block_ret ?_
   refine QM.then_ret ?_
   refine QM.then_ret ?_
   refine QM.block_ret ?_
   refine QM.then_ret ?_
   refine QM.leave (.inl rfl) [.tmp 4] Tryz.results93 rfl ?_
   intro w' hm' hc' hg'
   exact ⟨by show Value.int .i64 _ = _; rw [fix_hit 0 ha (by omega) (by simpa using h2)], hc'⟩
  refine wpM.skip ?_
  refine QM.block_normal ?_
  refine QM.then (wpM.region ?_)
  refine LM.val (ov_add64 rfl rfl (by omega)) ?_
  refine LM.mv rfl ?_
  refine LM.nil (QM.sub (e' := [(0, _), (1, _), (7, _), (8, _)]) ⟨rfl, rfl, rfl, rfl, trivial⟩ ?_)
  refine QM.againK (i + 1) ⟨au2, rfl, rfl, rfl, trivial⟩ au1 (fun _ h => h) ?_ ?_
  · exact ⟨by omega, by rw [any_snoc 0 (by omega), ha, Bool.false_or]; simpa using h2⟩
  · omega
 refine wpM.exit ?_
 refine QM.then_exit ?_
 refine QM.then_exit ?_
 refine QM.block_hit ?_
 refine QM.then (wpM.seq (wpM.region ?_))
 refine LM.as rfl ?_
 refine LM.nil (QM.sub (e' := [(4, _)]) ⟨rfl, trivial⟩ (QM.then ?_))
 refine wpM.ret ?_
 refine QM.leave (.inl rfl) [.tmp 4] Tryz.results93 rfl ?_
 intro w' hm' hc' hg'
 have hil : i = xs.length := (by omega); subst hil; rw [List.take_length] at ha; exact ⟨by show Value.int .i64 _ = _; rw [fix_miss ha], hc'⟩
set_option maxRecDepth 100000 in
theorem cof_g {xs : List Int} {ad : Option Addr} {n cap : Nat} (w : World) (hn : n = xs.length) (hl : Sr fI 1 xs (.slice ad n cap) w) (hx : xs.length ≤ 1000000) : Ret Tryz.prog 49 #[.slice ad n cap, .func (.func 50) #[] #[]] w (fun v w' => v = .bool (xs.any (fun o => (!winB o 16))) ∧ Ext w w') := by
 refine Ret.enterM (l := [.slice ad n cap, .func (.func 50) #[] #[]]) Tryz.func49 rfl Tryz.ntmps49 rfl ([]) (no) (Mem.nil w) ?_
 refine wpM.seq (wpM.region ?_)
 refine LM.as rfl ?_
 refine LM.nil (QM.sub (e' := [(0, _), (1, _)]) ⟨rfl, rfl, trivial⟩ (QM.then (wpM.seq (wpM.region ?_))))
 refine LM.mv rfl ?_
 refine LM.mv rfl ?_
 refine LM.callE (oc_call (enters_fn Tryz.func93 (by kernel_rfl) rfl) rfl) (fun w hm hc hg => ixf_g w hn (hl.ext hc) hx) ?_
 refine LM.val (ov_geq rfl rfl) ?_
 refine LM.as rfl ?_
 refine LM.nil (QM.sub (e' := [(4, _)]) ⟨rfl, trivial⟩ (QM.then ?_))
 refine wpM.ret ?_
 refine QM.leave (.inl rfl) [.tmp 4] Tryz.results49 rfl ?_
 intro w' hm' hc' hg'
 exact ⟨by show Value.bool _ = _; rw [← fix_pos], hc'⟩
set_option maxRecDepth 100000 in
theorem ixf_l {xs : List CLk} {ad : Option Addr} {n cap : Nat} (w : World) (hn : n = xs.length) (hl : Sr fL 5 xs (.slice ad n cap) w) (hx : xs.length ≤ 1000000) : Ret Tryz.prog 94 #[.slice ad n cap, .func (.func 52) #[] #[]] w (fun v w' => v = .int .i64 (fixI (fun o => (!lokB o)) xs) ∧ Ext w w') := by
 refine Ret.enterM (l := [.slice ad n cap, .func (.func 52) #[] #[]]) Tryz.func94 rfl Tryz.ntmps94 rfl ([]) (no) (Mem.nil w) ?_
 refine wpM.seq (wpM.region ?_)
 refine LM.as rfl ?_
 refine LM.nil (QM.sub (e' := [(0, _), (1, _)]) ⟨rfl, rfl, trivial⟩ (QM.then ?_))
 refine wpM.seq ?_
 refine wpM.seq (wpM.region ?_)
 refine LM.mv rfl ?_
 refine LM.val (ov_len Tryz.underlying27 rfl) ?_
 refine LM.mv rfl ?_
 refine LM.nil (QM.sub (e' := [(0, _), (1, _), (7, _), (8, _)]) ⟨rfl, rfl, rfl, rfl, trivial⟩ (QM.then ?_))
 refine wpM.block ?_
 refine wpM.loopK0 (α := Nat) (fun i => [(8, .int .i64 (i : Nat))]) [(0, _), (1, _), (7, _)] (fun i => []) (fun i => i ≤ xs.length ∧ (xs.take i).any (fun o => (!lokB o)) = false) (fun i => xs.length - i) (0) ⟨au2, rfl, rfl, rfl, trivial⟩ au1 ⟨Nat.zero_le _, rfl⟩ ?_
 rintro i ⟨hi, ha⟩
 change wpM _ _ _ _ _ _ _ ([]) _ _ _
 refine wpM.seq (wpM.region ?_)
 refine LM.val (ov_lss rfl rfl) ?_
 refine LM.nil (QM.sub (e' := [(0, _), (1, _), (7, _), (8, _), (9, _)]) ⟨rfl, rfl, rfl, rfl, rfl, trivial⟩ (QM.then ?_))
 refine wpM.seq ?_
 refine wpM.condD rfl (fun h1 => ?_) (fun h1 => ?_)
 ·
  refine wpM.skip ?_
  refine QM.then ?_
  refine wpM.seq ?_
  refine wpM.block ?_
  refine wpM.seq (wpM.region ?_)
  refine LM.mv rfl ?_
  refine LM.as rfl ?_
  refine LM.nil (QM.sub (e' := [(0, _), (1, _), (5, _), (7, _), (8, _)]) ⟨rfl, rfl, rfl, rfl, rfl, trivial⟩ (QM.then (wpM.seq (wpM.region ?_))))
  refine LM.mv rfl ?_
  refine LM.mv rfl ?_
  refine LM.mv rfl ?_
  refine LM.val (ov_idxSN au6 Tryz.underlying27 Tryz.sizeOf63 rfl rfl (by omega)) ?_
  first | refine LM.rd (om_slA (by assumption) (by intro _; rfl) Tryz.isAgg63 Tryz.sizeOf63 rfl au3) ?_ | refine LM.rdC (om_srEA (by assumption) (by intro _; rfl) Tryz.isAgg63 Tryz.sizeOf63 rfl au3 id) ?_ | refine LM.rd (om_ldW Tryz.isAgg63 Tryz.sizeOf63 rfl rfl) ?_ | refine LM.rd (om_ldA Tryz.isAgg63 Tryz.sizeOf63 rfl (vs := [_, _, _, _, _]) rfl ⟨rfl, rfl, rfl, rfl, rfl, trivial⟩) ?_
  refine LM.callE (oc_callV rfl (enters_fn Tryz.func52 (by kernel_rfl) rfl) rfl) (fun w hm hc hg => smay2_spec _ w) ?_
  refine LM.nil (QM.sub (e' := [(0, _), (1, _), (5, _), (7, _), (8, _), (16, _)]) ⟨rfl, rfl, rfl, rfl, rfl, rfl, trivial⟩ (QM.then ?_))
  first | refine wpM.condD rfl (fun h2 => ?_) (fun h2 => ?_) | refine wpM.condB rfl (fun h2 => ?_) (fun h2 => ?_)
  ·
   refine wpM.seq (wpM.region ?_)
   refine LM.mv rfl ?_
   refine LM.as rfl ?_
   refine LM.nil (QM.sub (e' := [(4, _)]) ⟨rfl, trivial⟩ (QM.then ?_))
   refine wpM.ret ?_
   refine QM.block_ret ?_
   refine QM.then_ret ?_
   refine QM.then_ret ?_
   refine QM.block_ret ?_
   refine QM.then_ret ?_
   refine QM.leave (.inl rfl) [.tmp 4] Tryz.results94 rfl ?_
   intro w' hm' hc' hg'
   exact ⟨by show Value.int .i64 _ = _; rw [fix_hit default ha (by omega) (by simpa using h2)], hc'⟩
  refine wpM.skip ?_
  refine QM.block_normal ?_
  refine QM.then (wpM.region ?_)
  refine LM.val (ov_add64 rfl rfl (by omega)) ?_
  refine LM.mv rfl ?_
  refine LM.nil (QM.sub (e' := [(0, _), (1, _), (7, _), (8, _)]) ⟨rfl, rfl, rfl, rfl, trivial⟩ ?_)
  refine QM.againK (i + 1) ⟨au2, rfl, rfl, rfl, trivial⟩ au1 (fun _ h => h) ?_ ?_
  · exact ⟨by omega, by rw [any_snoc default (by omega), ha, Bool.false_or]; simpa using h2⟩
  · omega
 refine wpM.exit ?_
 refine QM.then_exit ?_
 refine QM.then_exit ?_
 refine QM.block_hit ?_
 refine QM.then (wpM.seq (wpM.region ?_))
 refine LM.as rfl ?_
 refine LM.nil (QM.sub (e' := [(4, _)]) ⟨rfl, trivial⟩ (QM.then ?_))
 refine wpM.ret ?_
 refine QM.leave (.inl rfl) [.tmp 4] Tryz.results94 rfl ?_
 intro w' hm' hc' hg'
 have hil : i = xs.length := (by omega); subst hil; rw [List.take_length] at ha; exact ⟨by show Value.int .i64 _ = _; rw [fix_miss ha], hc'⟩
set_option maxRecDepth 100000 in
theorem cof_l {xs : List CLk} {ad : Option Addr} {n cap : Nat} (w : World) (hn : n = xs.length) (hl : Sr fL 5 xs (.slice ad n cap) w) (hx : xs.length ≤ 1000000) : Ret Tryz.prog 51 #[.slice ad n cap, .func (.func 52) #[] #[]] w (fun v w' => v = .bool (xs.any (fun o => (!lokB o))) ∧ Ext w w') := by
 refine Ret.enterM (l := [.slice ad n cap, .func (.func 52) #[] #[]]) Tryz.func51 rfl Tryz.ntmps51 rfl ([]) (no) (Mem.nil w) ?_
 refine wpM.seq (wpM.region ?_)
 refine LM.as rfl ?_
 refine LM.nil (QM.sub (e' := [(0, _), (1, _)]) ⟨rfl, rfl, trivial⟩ (QM.then (wpM.seq (wpM.region ?_))))
 refine LM.mv rfl ?_
 refine LM.mv rfl ?_
 refine LM.callE (oc_call (enters_fn Tryz.func94 (by kernel_rfl) rfl) rfl) (fun w hm hc hg => ixf_l w hn (hl.ext hc) hx) ?_
 refine LM.val (ov_geq rfl rfl) ?_
 refine LM.as rfl ?_
 refine LM.nil (QM.sub (e' := [(4, _)]) ⟨rfl, trivial⟩ (QM.then ?_))
 refine wpM.ret ?_
 refine QM.leave (.inl rfl) [.tmp 4] Tryz.results51 rfl ?_
 intro w' hm' hc' hg'
 exact ⟨by show Value.bool _ = _; rw [← fix_pos], hc'⟩
set_option maxRecDepth 100000 in
theorem misfit_spec {s : StV} (w : World) (hI : s.In w) (hx : s.ps.length ≤ 1000000) : Ret Tryz.prog 39 #[s.val] w (fun v w' => v = .tuple #[.int .i64 (misI s.ls (s.ps.map PgV.c)), .int .i64 (misE s.ls (s.ps.map PgV.c) (misI s.ls (s.ps.map PgV.c)))] ∧ Ext w w') := by
 have hgn := hI.hgn; have hln := hI.hln; have hpn := hI.hpn; have hp := hI.hp; have hg := hI.hg; have hl := hI.hl; have hcl : (s.ps.map PgV.c).length = s.ps.length := List.length_map ..
 refine Ret.enterM (l := [s.val]) Tryz.func39 rfl Tryz.ntmps39 rfl ([]) (no) (Mem.nil w) ?_
 refine wpM.seq (wpM.region ?_)
 refine LM.box rfl rfl (fun b1 hb1 => ?_)
 refine LM.as rfl ?_
 refine LM.as rfl ?_
 refine LM.nil (QM.sub (e' := [(1, _)]) ⟨rfl, trivial⟩ (QM.then ?_))
 refine wpM.seq ?_
 refine wpM.seq (wpM.region ?_)
 refine LM.val (ov_field Tryz.underlying30 rfl Tryz.sizeOf28 rfl (k := 4) rfl rfl) ?_
 refine LM.rd (om_ld Tryz.isAgg28 rfl rfl) ?_
 refine LM.val (ov_len Tryz.underlying28 rfl) ?_
 refine LM.mv rfl ?_
 refine LM.nil (QM.sub (e' := [(1, _), (9, _), (10, _), (11, _)]) ⟨rfl, rfl, rfl, rfl, trivial⟩ (QM.then ?_))
 refine wpM.block ?_
 refine wpM.loopK0 (α := Nat) (fun k => [(11, .int .i64 (k : Nat))]) [(1, _), (9, _), (10, _)] (fun k => stB b1 s :: []) (fun k => k ≤ s.ps.length ∧ ((s.ps.map PgV.c).take k).any (misB s.ls (s.pn : Nat)) = false) (fun k => s.ps.length - k) (0) ⟨au2, rfl, rfl, rfl, trivial⟩ au1 ⟨Nat.zero_le _, rfl⟩ ?_
 rintro k ⟨hk, hap⟩
 change wpM _ _ _ _ _ _ _ (stB b1 s :: []) _ _ _
 refine wpM.seq (wpM.region ?_)
 refine LM.val (ov_lss rfl rfl) ?_
 refine LM.nil (QM.sub (e' := [(1, _), (9, _), (10, _), (11, _), (12, _)]) ⟨rfl, rfl, rfl, rfl, rfl, trivial⟩ (QM.then ?_))
 refine wpM.seq ?_
 refine wpM.condD rfl (fun h1 => ?_) (fun h1 => ?_)
 ·
  have hpm : s.ps.getD k default ∈ s.ps := List.mem_of_getElem? (getq default (by omega))
  refine wpM.skip ?_
  refine QM.then ?_
  refine wpM.seq ?_
  refine wpM.block ?_
  refine wpM.seq (wpM.region ?_)
  refine LM.mv rfl ?_
  refine LM.val (ov_idxSN au6 Tryz.underlying28 Tryz.sizeOf87 rfl rfl (by omega)) ?_
  first | refine LM.rd (om_slA (by assumption) (by intro _; rfl) Tryz.isAgg87 Tryz.sizeOf87 rfl au3) ?_ | refine LM.rdC (om_srEA (by assumption) (by intro _; rfl) Tryz.isAgg87 Tryz.sizeOf87 rfl au3 id) ?_ | refine LM.rd (om_ldW Tryz.isAgg87 Tryz.sizeOf87 rfl rfl) ?_ | refine LM.rd (om_ldA Tryz.isAgg87 Tryz.sizeOf87 rfl (vs := [_, _]) rfl ⟨rfl, rfl, trivial⟩) ?_
  refine LM.alloc Tryz.zeroValue87 rfl (fun b5 hb5 => ?_)
  refine LM.as rfl ?_
  refine LM.stW Tryz.sizeOf87 rfl rfl rfl rfl au7 au8 ?_
  refine LM.nil (QM.sub (e' := [(1, _), (4, _), (5, _), (9, _), (10, _), (11, _)]) ⟨rfl, rfl, rfl, rfl, rfl, rfl, trivial⟩ (QM.then (wpM.seq (wpM.region ?_))))
  refine LM.rd (om_ldW Tryz.isAgg87 Tryz.sizeOf87 rfl rfl) ?_
  refine LM.val (ov_field Tryz.underlying30 rfl Tryz.sizeOf27 rfl (k := 3) rfl rfl) ?_
  refine LM.rd (om_ld Tryz.isAgg27 rfl rfl) ?_
  refine LM.val (ov_field Tryz.underlying30 rfl Tryz.sizeOf28 rfl (k := 4) rfl rfl) ?_
  refine LM.rd (om_ld Tryz.isAgg28 rfl rfl) ?_
  refine LM.val (ov_len Tryz.underlying28 rfl) ?_
  refine LM.callE (oc_call (enters_fn Tryz.func86 (by kernel_rfl) rfl) rfl) (fun w hm hc hg => check_spec (s.pn : Nat) w (hI.ops _ hpm).1 ((hI.ops _ hpm).2.ext hc) hln (hl.ext hc)) ?_
  refine LM.mv rfl ?_
  refine LM.val (ov_extract rfl rfl) ?_
  refine LM.val (ov_extract rfl rfl) ?_
  refine LM.as rfl ?_
  refine LM.as rfl ?_
  refine LM.nil (QM.sub (e' := [(1, _), (4, _), (7, _), (9, _), (10, _), (11, _)]) ⟨rfl, rfl, rfl, rfl, rfl, rfl, trivial⟩ (QM.then (wpM.seq (wpM.region ?_))))
  refine LM.mv rfl ?_
  refine LM.val (ov_neq rfl rfl) ?_
  refine LM.nil (QM.sub (e' := [(1, _), (4, _), (7, _), (9, _), (10, _), (11, _), (27, _)]) ⟨rfl, rfl, rfl, rfl, rfl, rfl, rfl, trivial⟩ (QM.then ?_))
  refine wpM.condD rfl (fun h2 => ?_) (fun h2 => ?_)
  ·
   refine wpM.seq (wpM.region ?_)
   refine LM.mv rfl ?_
   refine LM.mv rfl ?_
   refine LM.as rfl ?_
   refine LM.as rfl ?_
   refine LM.nil (QM.sub (e' := [(2, _), (3, _)]) ⟨rfl, rfl, trivial⟩ (QM.then ?_))
   refine wpM.ret ?_
   refine QM.block_ret ?_
   refine QM.then_ret ?_
   refine QM.then_ret ?_
   refine QM.block_ret ?_
   refine QM.then_ret ?_
   refine QM.leave (.inl rfl) [.tmp 2, .tmp 3] Tryz.results39 rfl ?_
   intro w' hm' hc' hg'
   have e : misI s.ls (s.ps.map PgV.c) = (k : Nat) := fix_hit default (by rw [hcl, ← hpn]; exact hap) (by rw [hcl]; omega) (by rw [map_getD, hcl, ← hpn]; unfold misB; exact decide_eq_true h2); refine ⟨?_, hc'⟩; rw [e]; unfold misE; rw [if_neg (by omega), Int.toNat_natCast, map_getD, hcl, ← hpn]; rfl
  refine wpM.skip ?_
  refine QM.block_normal ?_
  refine QM.then (wpM.region ?_)
  refine LM.val (ov_add64 rfl rfl (by omega)) ?_
  refine LM.mv rfl ?_
  refine LM.nil (QM.sub (e' := [(1, _), (9, _), (10, _), (11, _)]) ⟨rfl, rfl, rfl, rfl, trivial⟩ ?_)
  refine QM.againK (k + 1) ⟨au2, rfl, rfl, rfl, trivial⟩ au1 (fun _ h => h) ?_ ?_
  · exact ⟨by omega, by rw [any_snoc default (by rw [hcl]; omega), hap, Bool.false_or, map_getD]; unfold misB; simpa using h2⟩
  · omega
 refine wpM.exit ?_
 refine QM.then_exit ?_
 refine QM.then_exit ?_
 refine QM.block_hit ?_
 refine QM.then (wpM.seq (wpM.region ?_))
 refine LM.as rfl ?_
 refine LM.as rfl ?_
 refine LM.nil (QM.sub (e' := [(2, _), (3, _)]) ⟨rfl, rfl, trivial⟩ (QM.then ?_))
 refine wpM.ret ?_
 refine QM.leave (.inl rfl) [.tmp 2, .tmp 3] Tryz.results39 rfl ?_
 intro w' hm' hc' hg'
 have hkp : k = s.ps.length := (by omega); rw [hkp, List.take_of_length_le (by omega)] at hap; have e : misI s.ls (s.ps.map PgV.c) = -1 := fix_miss (by rw [hcl, ← hpn]; exact hap); refine ⟨?_, hc'⟩; rw [e]; rfl
set_option maxRecDepth 100000 in
theorem mayS_spec {s : StV} (w : World) (hI : s.In w) : Ret Tryz.prog 14 #[s.val] w (fun v w' => v = .bool (mayS s.C) ∧ Ext w w') := by
 have hgn := hI.hgn; have hln := hI.hln; have hpn := hI.hpn; have hp := hI.hp; have hg := hI.hg; have hl := hI.hl; have hcl : (s.ps.map PgV.c).length = s.ps.length := List.length_map ..
 refine Ret.enterM (l := [s.val]) Tryz.func14 rfl Tryz.ntmps14 rfl ([]) (no) (Mem.nil w) ?_
 refine wpM.seq (wpM.region ?_)
 refine LM.box rfl rfl (fun b1 hb1 => ?_)
 refine LM.as rfl ?_
 refine LM.nil (QM.sub (e' := [(1, _)]) ⟨rfl, trivial⟩ (QM.then ?_))
 refine wpM.seq ?_
 refine wpM.block ?_
 refine wpM.seq (wpM.region ?_)
 refine LM.val (ov_field Tryz.underlying30 rfl Tryz.sizeOf3 rfl (k := 0) rfl rfl) ?_
 refine LM.rd (om_ld Tryz.isAgg3 rfl rfl) ?_
 refine LM.callE (oc_call (enters_fn Tryz.func48 (by kernel_rfl) rfl) rfl) (fun w hm hc hg => swithin_spec _ _ w) ?_
 first | refine LM.val (ov_notD rfl) ?_ | refine LM.val (ov_not rfl) ?_
 refine LM.mv rfl ?_
 first | refine LM.splitD (t := 10) rfl (fun h1 => ?_) (fun h1 => ?_) | refine LM.splitB (t := 10) rfl (fun h1 => ?_) (fun h1 => ?_)
 ·
  refine LM.dr 10 rfl rfl rfl ?_
  refine LM.dr 10 rfl rfl rfl ?_
  refine LM.dr 10 rfl rfl rfl ?_
  refine LM.dr 10 rfl rfl rfl ?_
  refine LM.val (ov_pickT rfl rfl) ?_
  refine LM.as rfl ?_
  refine LM.nil (QM.sub (e' := [(1, _), (5, _)]) ⟨rfl, rfl, trivial⟩ (QM.then ?_))
  refine wpM.condT rfl ?_
  refine wpM.seq (wpM.region ?_)
  refine LM.as rfl ?_
  refine LM.nil (QM.sub (e' := [(2, _)]) ⟨rfl, trivial⟩ (QM.then ?_))
  refine wpM.ret ?_
  refine QM.block_ret ?_
  refine QM.then_ret ?_
  refine QM.leave (.inl rfl) [.tmp 2] Tryz.results14 rfl ?_
  intro w' hm' hc' hg'
  refine ⟨?_, hc'⟩; rw [mayS_head (by rw [head_eq hgn hln hpn]; simp [h1])]; rfl
 refine LM.sp 10 rfl rfl rfl ?_
 refine LM.val (ov_field Tryz.underlying30 rfl Tryz.sizeOf3 rfl (k := 1) rfl rfl) ?_
 refine LM.sp 10 rfl rfl rfl ?_
 refine LM.rd (om_ld Tryz.isAgg3 rfl rfl) ?_
 refine LM.sp 10 rfl rfl rfl ?_
 refine LM.callE (oc_call (enters_fn Tryz.func48 (by kernel_rfl) rfl) rfl) (fun w hm hc hg => swithin_spec _ _ w) ?_
 refine LM.sp 10 rfl rfl rfl ?_
 first | refine LM.val (ov_notD rfl) ?_ | refine LM.val (ov_not rfl) ?_
 refine LM.val (ov_pickF rfl rfl) ?_
 refine LM.as rfl ?_
 refine LM.nil (QM.sub (e' := [(1, _), (5, _)]) ⟨rfl, rfl, trivial⟩ (QM.then ?_))
 first | refine wpM.condD rfl (fun h2 => ?_) (fun h2 => ?_) | refine wpM.condB rfl (fun h2 => ?_) (fun h2 => ?_)
 ·
  refine wpM.seq (wpM.region ?_)
  refine LM.as rfl ?_
  refine LM.nil (QM.sub (e' := [(2, _)]) ⟨rfl, trivial⟩ (QM.then ?_))
  refine wpM.ret ?_
  refine QM.block_ret ?_
  refine QM.then_ret ?_
  refine QM.leave (.inl rfl) [.tmp 2] Tryz.results14 rfl ?_
  intro w' hm' hc' hg'
  refine ⟨?_, hc'⟩; rw [mayS_head (by rw [head_eq hgn hln hpn]; simp [h1, h2])]; rfl
 refine wpM.seq (wpM.region ?_)
 refine LM.val (ov_field Tryz.underlying30 rfl Tryz.sizeOf26 rfl (k := 2) rfl rfl) ?_
 refine LM.rd (om_ld Tryz.isAgg26 rfl rfl) ?_
 refine LM.val (ov_len Tryz.underlying26 rfl) ?_
 refine LM.callE (oc_call (enters_fn Tryz.func48 (by kernel_rfl) rfl) rfl) (fun w hm hc hg => swithin_spec _ _ w) ?_
 first | refine LM.val (ov_notD rfl) ?_ | refine LM.val (ov_not rfl) ?_
 refine LM.mv rfl ?_
 first | refine LM.splitD (t := 22) rfl (fun h3 => ?_) (fun h3 => ?_) | refine LM.splitB (t := 22) rfl (fun h3 => ?_) (fun h3 => ?_)
 ·
  refine LM.dr 22 rfl rfl rfl ?_
  refine LM.dr 22 rfl rfl rfl ?_
  refine LM.dr 22 rfl rfl rfl ?_
  refine LM.val (ov_pickT rfl rfl) ?_
  refine LM.as rfl ?_
  refine LM.nil (QM.sub (e' := [(1, _), (16, _)]) ⟨rfl, rfl, trivial⟩ (QM.then ?_))
  refine wpM.condT rfl ?_
  refine wpM.seq (wpM.region ?_)
  refine LM.as rfl ?_
  refine LM.nil (QM.sub (e' := [(2, _)]) ⟨rfl, trivial⟩ (QM.then ?_))
  refine wpM.ret ?_
  refine QM.block_ret ?_
  refine QM.then_ret ?_
  refine QM.leave (.inl rfl) [.tmp 2] Tryz.results14 rfl ?_
  intro w' hm' hc' hg'
  refine ⟨?_, hc'⟩; rw [mayS_head (by rw [head_eq hgn hln hpn]; simp [h1, h2, h3])]; rfl
 refine LM.sp 22 rfl rfl rfl ?_
 refine LM.val (ov_field Tryz.underlying30 rfl Tryz.sizeOf26 rfl (k := 2) rfl rfl) ?_
 refine LM.sp 22 rfl rfl rfl ?_
 refine LM.rd (om_ld Tryz.isAgg26 rfl rfl) ?_
 refine LM.sp 22 rfl rfl rfl ?_
 refine LM.callE (oc_call (enters_fn Tryz.func49 (by kernel_rfl) rfl) rfl) (fun w hm hc hg => cof_g w hgn (hI.hg.ext hc) (by have h9 : winB (s.gn : Int) 4 = true := (by simpa using h3); have := (winL _ _).1 h9; omega)) ?_
 refine LM.val (ov_pickF rfl rfl) ?_
 refine LM.as rfl ?_
 refine LM.nil (QM.sub (e' := [(1, _), (16, _)]) ⟨rfl, rfl, trivial⟩ (QM.then ?_))
 first | refine wpM.condD rfl (fun h4 => ?_) (fun h4 => ?_) | refine wpM.condB rfl (fun h4 => ?_) (fun h4 => ?_)
 ·
  refine wpM.seq (wpM.region ?_)
  refine LM.as rfl ?_
  refine LM.nil (QM.sub (e' := [(2, _)]) ⟨rfl, trivial⟩ (QM.then ?_))
  refine wpM.ret ?_
  refine QM.block_ret ?_
  refine QM.then_ret ?_
  refine QM.leave (.inl rfl) [.tmp 2] Tryz.results14 rfl ?_
  intro w' hm' hc' hg'
  refine ⟨?_, hc'⟩; rw [mayS_gs (s := s.C) (by show s.gs.all _ = false; rw [all_any, h4]; rfl)]; rfl
 refine wpM.seq (wpM.region ?_)
 refine LM.val (ov_field Tryz.underlying30 rfl Tryz.sizeOf27 rfl (k := 3) rfl rfl) ?_
 refine LM.rd (om_ld Tryz.isAgg27 rfl rfl) ?_
 refine LM.val (ov_len Tryz.underlying27 rfl) ?_
 refine LM.val (ov_gtr rfl rfl) ?_
 refine LM.mv rfl ?_
 refine LM.splitD (t := 32) rfl (fun h5 => ?_) (fun h5 => ?_)
 ·
  refine LM.dr 32 rfl rfl rfl ?_
  refine LM.dr 32 rfl rfl rfl ?_
  refine LM.dr 32 rfl rfl rfl ?_
  refine LM.val (ov_pickT rfl rfl) ?_
  refine LM.as rfl ?_
  refine LM.nil (QM.sub (e' := [(1, _), (27, _)]) ⟨rfl, rfl, trivial⟩ (QM.then ?_))
  refine wpM.condT rfl ?_
  refine wpM.seq (wpM.region ?_)
  refine LM.as rfl ?_
  refine LM.nil (QM.sub (e' := [(2, _)]) ⟨rfl, trivial⟩ (QM.then ?_))
  refine wpM.ret ?_
  refine QM.block_ret ?_
  refine QM.then_ret ?_
  refine QM.leave (.inl rfl) [.tmp 2] Tryz.results14 rfl ?_
  intro w' hm' hc' hg'
  refine ⟨?_, hc'⟩; rw [mayS_head (by rw [head_eq hgn hln hpn]; simp [h1, h2, h3, h4, h5])]; rfl
 refine LM.sp 32 rfl rfl rfl ?_
 refine LM.val (ov_field Tryz.underlying30 rfl Tryz.sizeOf27 rfl (k := 3) rfl rfl) ?_
 refine LM.sp 32 rfl rfl rfl ?_
 refine LM.rd (om_ld Tryz.isAgg27 rfl rfl) ?_
 refine LM.sp 32 rfl rfl rfl ?_
 refine LM.callE (oc_call (enters_fn Tryz.func51 (by kernel_rfl) rfl) rfl) (fun w hm hc hg => cof_l w hln (hl.ext hc) (by omega)) ?_
 refine LM.val (ov_pickF rfl rfl) ?_
 refine LM.as rfl ?_
 refine LM.nil (QM.sub (e' := [(1, _), (27, _)]) ⟨rfl, rfl, trivial⟩ (QM.then ?_))
 first | refine wpM.condD rfl (fun h6 => ?_) (fun h6 => ?_) | refine wpM.condB rfl (fun h6 => ?_) (fun h6 => ?_)
 ·
  refine wpM.seq (wpM.region ?_)
  refine LM.as rfl ?_
  refine LM.nil (QM.sub (e' := [(2, _)]) ⟨rfl, trivial⟩ (QM.then ?_))
  refine wpM.ret ?_
  refine QM.block_ret ?_
  refine QM.then_ret ?_
  refine QM.leave (.inl rfl) [.tmp 2] Tryz.results14 rfl ?_
  intro w' hm' hc' hg'
  refine ⟨?_, hc'⟩; rw [mayS_ls (s := s.C) (by show s.ls.all _ = false; rw [all_any, h6]; rfl)]; rfl
 refine wpM.seq (wpM.region ?_)
 refine LM.val (ov_field Tryz.underlying30 rfl Tryz.sizeOf28 rfl (k := 4) rfl rfl) ?_
 refine LM.rd (om_ld Tryz.isAgg28 rfl rfl) ?_
 refine LM.val (ov_len Tryz.underlying28 rfl) ?_
 refine LM.callE (oc_call (enters_fn Tryz.func48 (by kernel_rfl) rfl) rfl) (fun w hm hc hg => swithin_spec _ _ w) ?_
 first | refine LM.val (ov_notD rfl) ?_ | refine LM.val (ov_not rfl) ?_
 refine LM.as rfl ?_
 refine LM.nil (QM.sub (e' := [(1, _), (37, _)]) ⟨rfl, rfl, trivial⟩ (QM.then ?_))
 first | refine wpM.condD rfl (fun h7 => ?_) (fun h7 => ?_) | refine wpM.condB rfl (fun h7 => ?_) (fun h7 => ?_)
 ·
  refine wpM.seq (wpM.region ?_)
  refine LM.as rfl ?_
  refine LM.nil (QM.sub (e' := [(2, _)]) ⟨rfl, trivial⟩ (QM.then ?_))
  refine wpM.ret ?_
  refine QM.block_ret ?_
  refine QM.then_ret ?_
  refine QM.leave (.inl rfl) [.tmp 2] Tryz.results14 rfl ?_
  intro w' hm' hc' hg'
  refine ⟨?_, hc'⟩; rw [mayS_head (by rw [head_eq hgn hln hpn]; simp [h1, h2, h3, h4, h5, h6, h7])]; rfl
 refine wpM.skip ?_
 refine QM.block_normal ?_
 refine QM.then (wpM.seq (wpM.region ?_))
 refine LM.rd (om_ldW Tryz.isAgg30 Tryz.sizeOf30 rfl rfl) ?_
 refine LM.callE (oc_call (enters_fn Tryz.func39 (by kernel_rfl) rfl) rfl) (fun w hm hc hg => misfit_spec w (hI.ext hc) (by have h9 : winB (s.pn : Int) 8 = true := (by simpa using h7); have := (winL _ _).1 h9; omega)) ?_
 refine LM.mv rfl ?_
 refine LM.val (ov_extract rfl rfl) ?_
 refine LM.val (ov_extract rfl rfl) ?_
 refine LM.as rfl ?_
 refine LM.as rfl ?_
 refine LM.nil (QM.sub (e' := [(3, _)]) ⟨rfl, trivial⟩ (QM.then (wpM.seq (wpM.region ?_))))
 refine LM.mv rfl ?_
 refine LM.val (ov_lss rfl rfl) ?_
 refine LM.as rfl ?_
 refine LM.nil (QM.sub (e' := [(2, _)]) ⟨rfl, trivial⟩ (QM.then ?_))
 refine wpM.ret ?_
 refine QM.leave (.inl rfl) [.tmp 2] Tryz.results14 rfl ?_
 intro w' hm' hc' hg'
 have hhd : headB s.C = true := (by rw [head_eq hgn hln hpn]; simp [h1, h2, h3, h4, h5, h6, h7]); have hgs : s.gs.all (fun n => winB n 16) = true := (by rw [all_any, h4]; rfl); have hls : s.ls.all lokB = true := (by rw [all_any, h6]; rfl); have hmi : decide (misI s.ls (s.ps.map PgV.c) < 0) = !(s.ps.map PgV.c).any (misB s.ls (s.ps.map PgV.c).length) := (by unfold misI; rw [← fix_pos, ← decide_not]; exact decide_eq_decide.2 (by omega)); refine ⟨?_, hc'⟩; rw [mayS_split, hhd]; show Value.bool (decide (misI s.ls (s.ps.map PgV.c) < 0)) = Value.bool (true && (s.gs.all (fun n => winB n 16) && (s.ls.all lokB && !(s.ps.map PgV.c).any (misB s.ls (s.ps.map PgV.c).length)))); rw [hmi, hgs, hls]; rfl
end Go.Eng
namespace Go.Eng
open Go Go.RowKit
structure Act where
  k : Int
  a : Int
  b : Int
  c : Int
  d : Int
deriving DecidableEq
instance : Inhabited Act := ⟨⟨0, 0, 0, 0, 0⟩⟩
def fA (o : Act) : List Value := [.int .i64 o.k, .int .i64 o.a, .int .i64 o.b, .int .i64 o.c, .int .i64 o.d]
def acW : List (List UInt8) := [[], [116, 105, 99, 107], [102, 105, 114, 101], [98, 97, 108, 97, 110, 99, 101], [115, 112, 97, 119, 110], [107, 105, 108, 108], [103, 114, 111, 117, 112], [109, 111, 118, 101], [114, 111, 117, 110, 100]]
def acT (k : Int) : List UInt8 := if 0 ≤ k ∧ k < 9 then acW.getD k.toNat [] else []
def manyA (k : Int) : Nat := if k = 1 ∨ k = 5 ∨ k = 8 then 1 else if k = 6 ∨ k = 7 then 2 else if k = 4 then 4 else 0
theorem manyA_le (k : Int) : manyA k ≤ 4 := by unfold manyA; (repeat' split) <;> omega
def manyL : List Int := [0, 1, 0, 0, 4, 1, 2, 2, 1]
theorem manyL_get {k : Int} (h : 0 ≤ k ∧ k < 9) : manyL.getD k.toNat 0 = (manyA k : Int) := by
  have : k = 0 ∨ k = 1 ∨ k = 2 ∨ k = 3 ∨ k = 4 ∨ k = 5 ∨ k = 6 ∨ k = 7 ∨ k = 8 := by omega
  rcases this with rfl | rfl | rfl | rfl | rfl | rfl | rfl | rfl | rfl <;> rfl
def kindOk (k : Int) : Bool := decide (1 ≤ k) && decide (k ≤ 8)
theorem acT_empty (k : Int) : decide (acT k ≠ []) = kindOk k := by
  unfold kindOk
  by_cases h : 0 ≤ k ∧ k < 9
  · have : k = 0 ∨ k = 1 ∨ k = 2 ∨ k = 3 ∨ k = 4 ∨ k = 5 ∨ k = 6 ∨ k = 7 ∨ k = 8 := by omega
    rcases this with rfl | rfl | rfl | rfl | rfl | rfl | rfl | rfl | rfl <;> decide +kernel
  · unfold acT; rw [if_neg h]
    by_cases h2 : 1 ≤ k
    · rw [show decide (k ≤ 8) = false from decide_eq_false (by omega)]; simp
    · rw [show decide (1 ≤ k) = false from decide_eq_false h2]; simp
def numsA (o : Act) : List Int := [o.a, o.b, o.c, o.d]
def numB (k : Int) (i : Nat) (n : Int) : Bool := decide (0 ≤ n) && decide (n ≤ 999999999) && (decide (i < manyA k) || decide (n = 0))
def rightA (o : Act) : Bool := kindOk o.k && (numB o.k 0 o.a && numB o.k 1 o.b && numB o.k 2 o.c && numB o.k 3 o.d)
theorem right_all {o : Act} (hk : kindOk o.k = true) (h : ∀ j, j < 4 → numB o.k j ((numsA o).getD j 0) = true) : rightA o = true := by
  unfold rightA
  have h0 := h 0 (by decide); have h1 := h 1 (by decide); have h2 := h 2 (by decide); have h3 := h 3 (by decide)
  simp only [numsA, List.getD_cons_zero, List.getD_cons_succ] at h0 h1 h2 h3
  rw [hk, h0, h1, h2, h3]; rfl
theorem right_not {o : Act} {j : Nat} (hj : j < 4) (h : numB o.k j ((numsA o).getD j 0) = false) : rightA o = false := by
  unfold rightA
  have : j = 0 ∨ j = 1 ∨ j = 2 ∨ j = 3 := by omega
  rcases this with rfl | rfl | rfl | rfl <;> (simp only [numsA, List.getD_cons_zero, List.getD_cons_succ] at h; rw [h]; simp)
def mayA (l : List Act) : Bool := decide (l.length ≤ 4000) && l.all rightA
def kindAT (t : List UInt8) : Int := mx0 (fixI (fun y => decide (t = y)) acW)
def kindA (ws : List Wrd) (i : Nat) : Int := if (decide (i < ws.length) && decide ((ws.getD i default).k = 1)) then kindAT (ws.getD i default).t else 0
def refA (t : List UInt8) : Nat → Int
  | 0 => 0
  | k + 1 => if t = acW.getD (k + 1) [] then ((k + 1 : Nat) : Int) else refA t k
theorem refA_eq (t : List UInt8) : refA t 8 = kindAT t := by
  by_cases h : t ∈ acW
  · simp only [acW, List.mem_cons, List.not_mem_nil, or_false] at h
    rcases h with rfl | rfl | rfl | rfl | rfl | rfl | rfl | rfl | rfl <;> decide +kernel
  · have h2 : fixI (fun y => decide (t = y)) acW = -1 := fix_miss (by
      rw [List.any_eq_false]; intro y hy; simp only [decide_eq_true_eq]; rintro rfl; exact h hy)
    unfold kindAT; rw [h2]
    simp only [acW, List.mem_cons, List.not_mem_nil, or_false, not_or] at h
    obtain ⟨-, a1, a2, a3, a4, a5, a6, a7, a8⟩ := h
    simp only [refA, acW, List.getD_cons_succ, List.getD_cons_zero, if_neg a1, if_neg a2, if_neg a3, if_neg a4, if_neg a5, if_neg a6, if_neg a7, if_neg a8]
    rfl
theorem kindAT_rng (t : List UInt8) : 0 ≤ kindAT t ∧ kindAT t ≤ 8 := by
  rw [← refA_eq]
  have : ∀ k : Nat, 0 ≤ refA t k ∧ refA t k ≤ (k : Int) := by
    intro k
    induction k with
    | zero => exact ⟨Int.le_refl _, Int.le_refl _⟩
    | succ k ih => unfold refA; split <;> omega
  exact this 8
theorem kindA_rng (ws : List Wrd) (i : Nat) : 0 ≤ kindA ws i ∧ kindA ws i ≤ 8 := by
  unfold kindA; split
  · exact kindAT_rng _
  · omega
def numG (ws : List Wrd) : Nat → Nat → Nat → List Int → Nat × Int × List Int
  | 0, j, _, xs => (j, 0, xs)
  | f + 1, j, i, xs => if (decide (ws.length ≤ j) || decide ((ws.getD j default).k ≠ 2)) then (j, 5, xs) else numG ws f (j + 1) (i + 1) (xs.set i (ws.getD j default).n)
def toA (k : Int) (xs : List Int) : Act := ⟨k, xs.getD 0 0, xs.getD 1 0, xs.getD 2 0, xs.getD 3 0⟩
def zer4 : List Int := [0, 0, 0, 0]
def numK (ws : List Wrd) (i : Nat) : Nat × Int × List Int := numG ws (manyA (kindA ws i)) (i + 1) 0 zer4
theorem numG_le (ws : List Wrd) : ∀ (f j i : Nat) (xs : List Int), j ≤ ws.length → j ≤ (numG ws f j i xs).1 ∧ (numG ws f j i xs).1 ≤ ws.length
  | 0, j, i, xs, h => ⟨Nat.le_refl _, h⟩
  | f + 1, j, i, xs, h => by
    unfold numG; split
    · exact ⟨Nat.le_refl _, h⟩
    · rename_i q
      simp only [Bool.or_eq_true, decide_eq_true_eq, not_or] at q
      have := numG_le ws f (j + 1) (i + 1) (xs.set i (ws.getD j default).n) (by omega)
      omega
def oneA (ws : List Wrd) (i : Nat) : Act × Nat × Int :=
  if kindA ws i = 0 then (default, i, 5)
  else if (numK ws i).2.1 ≠ 0 then (default, (numK ws i).1, (numK ws i).2.1)
  else if isR ws (numK ws i).1 3 [59] then (toA (kindA ws i) (numK ws i).2.2, (numK ws i).1 + 1, 0)
  else (default, (numK ws i).1, 5)
theorem kindA_lt {ws : List Wrd} {i : Nat} (h : kindA ws i ≠ 0) : i < ws.length := by
  unfold kindA at h; split at h
  · rename_i q; simp only [Bool.and_eq_true, decide_eq_true_eq] at q; exact q.1
  · exact absurd rfl h
theorem oneA_lt {ws : List Wrd} {i : Nat} (h : (oneA ws i).2.2 = 0) : i < (oneA ws i).2.1 ∧ (oneA ws i).2.1 ≤ ws.length := by
  unfold oneA at h ⊢
  split at h
  · cases h
  rename_i h1
  rw [if_neg h1]
  split at h
  · rename_i h2; exact absurd h h2
  rename_i h2
  rw [if_neg h2]
  split at h
  · rename_i h3
    rw [if_pos h3]
    have h4 := numG_le ws (manyA (kindA ws i)) (i + 1) 0 zer4 (kindA_lt h1)
    have h5 := isR_lt h3
    unfold numK at h5 ⊢
    simp only; omega
  · cases h
def loopAF : Nat → List Wrd → Nat → List Act → List Act × Int × Int
  | 0, _, i, out => (out, (i : Nat), 0)
  | f + 1, ws, i, out =>
    if ws.length ≤ i then (out, (i : Nat), 0)
    else if kindA ws i = 0 then ([], (i : Nat), 5)
    else if out.length = 4000 then ([], (i : Nat), 6)
    else if (oneA ws i).2.2 ≠ 0 then ([], ((oneA ws i).2.1 : Nat), (oneA ws i).2.2)
    else loopAF f ws (oneA ws i).2.1 (out ++ [(oneA ws i).1])
theorem loopAF_fuel (ws : List Wrd) : ∀ (f g i : Nat) (out : List Act), ws.length - i ≤ f → ws.length - i ≤ g → loopAF f ws i out = loopAF g ws i out
  | 0, 0, i, out, _, _ => rfl
  | 0, g + 1, i, out, h1, h2 => by rw [loopAF, loopAF, if_pos (by omega)]
  | f + 1, 0, i, out, h1, h2 => by rw [loopAF, loopAF, if_pos (by omega)]
  | f + 1, g + 1, i, out, h1, h2 => by
    simp only [loopAF]
    split
    · rfl
    split
    · rfl
    split
    · rfl
    split
    · rfl
    · rename_i h4
      have := oneA_lt (Classical.not_not.1 h4)
      exact loopAF_fuel ws f g _ _ (by omega) (by omega)
def loopA (ws : List Wrd) (i : Nat) (out : List Act) : List Act × Int × Int := loopAF (ws.length - i) ws i out
theorem loopA_end {ws : List Wrd} {i : Nat} {out : List Act} (h : ws.length ≤ i) : loopA ws i out = (out, (i : Int), 0) := by
  unfold loopA; rw [show ws.length - i = 0 by omega]; rfl
theorem loopA_step {ws : List Wrd} {i : Nat} {out : List Act} (h : i < ws.length) : loopA ws i out =
    if kindA ws i = 0 then ([], (i : Int), 5)
    else if out.length = 4000 then ([], (i : Int), 6)
    else if (oneA ws i).2.2 ≠ 0 then ([], ((oneA ws i).2.1 : Int), (oneA ws i).2.2)
    else loopA ws (oneA ws i).2.1 (out ++ [(oneA ws i).1]) := by
  unfold loopA
  obtain ⟨f, hf⟩ : ∃ f, ws.length - i = f + 1 := ⟨ws.length - i - 1, by omega⟩
  rw [hf, loopAF, if_neg (by omega)]
  split
  · rfl
  split
  · rfl
  split
  · rfl
  · rename_i h4
    have := oneA_lt (Classical.not_not.1 h4)
    exact loopAF_fuel ws _ _ _ _ (by omega) (by omega)
def actsO (ws : List Wrd) (p : Int) : List Act × Int × Int := if p < 0 ∨ (ws.length : Int) < p then ([], 0, 5) else loopA ws p.toNat []
theorem acts_nat {ws : List Wrd} {i : Nat} (hi : i ≤ ws.length) : actsO ws (i : Int) = loopA ws i [] := by
  unfold actsO; rw [if_neg (by omega), Int.toNat_natCast]
/-! what is parsed may be -/
end Go.Eng
namespace Go.Eng
open Go Go.Proofs Go.RowKit
theorem scanF_len (s : List UInt8) : ∀ (f i : Nat) (last : Int) (out : List Wrd), (scanF f s i last out).1.length ≤ out.length + f
  | 0, i, last, out => Nat.le_refl _
  | f + 1, i, last, out => by
    rw [scanF]
    split
    · show out.length ≤ _; omega
    split
    · have := scanF_len s f (i + 1) last out; omega
    split
    · have := scanF_len s f (i + runL notNl s i) last out; omega
    split
    · exact Nat.zero_le _
    · have := scanF_len s f (oneO s i).2.1 ((oneO s i).2.1 : Nat) (out ++ [(oneO s i).1]); rw [List.length_append, List.length_singleton] at this; omega
theorem scan_len (s : List UInt8) : (scanO s).1.length ≤ s.length := by
  unfold scanO; split
  · exact Nat.zero_le _
  · have := scanF_len s (s.length - 0) 0 (-1) []; unfold scanR; simp only [List.length_nil] at this; omega
end Go.Eng
namespace Go.Eng
open Go Go.Proofs Go.RowKit
end Go.Eng
namespace Go.Eng
open Go Go.Proofs Go.RowKit
theorem dig_let (c : UInt8) (h : digB c = true) : letB c = false := by
  unfold digB digN at h; unfold letB letN; simp only [Bool.and_eq_true, decide_eq_true_eq] at h
  simp only [Bool.and_eq_false_iff, decide_eq_false_iff_not]; omega
end Go.Eng
namespace Go.Eng
open Go Go.Proofs Go.RowKit
end Go.Eng
namespace Go.Eng
open Go Go.Proofs Go.RowKit
def EachT (fv : Bool) (ad : Option Addr) (n cap : Nat) (n0 : Nat) (v : Value) (m : Mem0) : Prop := ∃ b1, v = .func (.func 150) #[] #[.pointer (some ⟨b1, 0, none⟩)] ∧ m = [pB b1 fv ad n cap] ∧ n0 ≤ b1
theorem EachT.mono {fv : Bool} {ad : Option Addr} {n cap : Nat} : ∀ (k k' : Nat) u m, k' ≤ k → EachT fv ad n cap k u m → EachT fv ad n cap k' u m := fun k k' u m h ⟨b1, h1, h2, h3⟩ => ⟨b1, h1, h2, by omega⟩
end Go.Eng
namespace Go.Eng
open Go Go.Proofs Go.RowKit
theorem before_next {p : Nat → Bool} {i : Nat} (h : ∀ j, j < i → p j = true) (hi : p i = true) : ∀ j, j < i + 1 → p j = true := fun j hj => by
  by_cases q : j = i
  · subst q; exact hi
  · exact h j (by omega)
set_option maxRecDepth 100000 in
theorem anames_spec (w : World) : Ret Tryz.prog 147 #[] w (New fB 9 1 acW w) := by
 refine Ret.enterM (l := []) Tryz.func147 rfl Tryz.ntmps147 rfl ([]) (no) (Mem.nil w) ?_
 refine wpM.seq (wpM.region ?_)
 refine LM.as rfl ?_
 refine LM.nil (QM.sub (e' := []) trivial (QM.then (wpM.seq (wpM.region ?_))))
 refine LM.row (vs := [_, _, _, _, _, _, _, _, _]) Tryz.underlying188 Tryz.sizeOf9 Tryz.zeroValue9 rfl rfl rfl rfl rfl rfl (fun b1 hb1 => ?_)
 refine LM.as rfl ?_
 refine LM.nil (QM.sub (e' := [(0, _)]) ⟨rfl, trivial⟩ (QM.then ?_))
 refine wpM.ret ?_
 refine QM.leave (.inl rfl) [.tmp 0] Tryz.results147 rfl ?_
 intro w' hm' hc' hg'
 exact ⟨hc', [(b1, .cells (arr fB acW []) 9 (0, 0))], .inr ⟨b1, 9, [], hb1, rfl, rfl, by decide, by unfold maxLen; decide, rfl⟩, hm'⟩
set_option maxRecDepth 100000 in
theorem aname_spec (k : Int) (w : World) : Ret Tryz.prog 118 #[.int .i64 k] w (fun v w' => v = vS (acT k) ∧ Ext w w') := by
 refine Ret.enterM (l := [.int .i64 k]) Tryz.func118 rfl Tryz.ntmps118 rfl ([]) (no) (Mem.nil w) ?_
 refine wpM.seq (wpM.region ?_)
 refine LM.as rfl ?_
 refine LM.nil (QM.sub (e' := [(0, _)]) ⟨rfl, trivial⟩ (QM.then ?_))
 refine wpM.seq ?_
 refine wpM.seq (wpM.region ?_)
 refine LM.mv rfl ?_
 refine LM.val (ov_lss rfl rfl) ?_
 refine LM.mv rfl ?_
 refine LM.splitD (t := 5) rfl (fun h1 => ?_) (fun h1 => ?_)
 ·
  refine LM.dr 5 rfl rfl rfl ?_
  refine LM.dr 5 rfl rfl rfl ?_
  refine LM.dr 5 rfl rfl rfl ?_
  refine LM.dr 5 rfl rfl rfl ?_
  refine LM.val (ov_pickT rfl rfl) ?_
  refine LM.nil (QM.sub (e' := [(0, _), (10, _)]) ⟨rfl, rfl, trivial⟩ (QM.then ?_))
  refine wpM.condT rfl ?_
  refine wpM.seq (wpM.region ?_)
  refine LM.as rfl ?_
  refine LM.nil (QM.sub (e' := [(2, _)]) ⟨rfl, trivial⟩ (QM.then ?_))
  refine wpM.ret ?_
  refine QM.then_ret ?_
  refine QM.leave (.inl rfl) [.tmp 2] Tryz.results118 rfl ?_
  intro w' hm' hc' hg'
  have hl13 : acW.length = 9 := rfl; refine ⟨?_, hc'⟩; show vS _ = _; congr 1; first | (rw [acT, if_neg (by omega)]; done) | (rw [acT, if_pos (by omega)]; rfl)
 refine LM.sp 5 rfl rfl rfl ?_
 refine LM.mv rfl ?_
 refine LM.sp 5 rfl rfl rfl ?_
 refine LM.cS (oc_call (enters_fn Tryz.func147 (by kernel_rfl) rfl) rfl) (fun w hm hc hg => anames_spec w) (fun ad7 n7 cap7 m7 hn7 hs7 => ?_)
 refine LM.sp 5 rfl rfl rfl ?_
 refine LM.val (ov_len Tryz.underlying188 rfl) ?_
 refine LM.sp 5 rfl rfl rfl ?_
 have hl12 : n7 = 9 := hn7
 refine LM.val (ov_geq rfl rfl) ?_
 refine LM.val (ov_pickF rfl rfl) ?_
 refine LM.nil (QM.sub (e' := [(0, _), (10, _)]) ⟨rfl, rfl, trivial⟩ (QM.then ?_))
 refine wpM.condD rfl (fun h2 => ?_) (fun h2 => ?_)
 ·
  refine wpM.seq (wpM.region ?_)
  refine LM.as rfl ?_
  refine LM.nil (QM.sub (e' := [(2, _)]) ⟨rfl, trivial⟩ (QM.then ?_))
  refine wpM.ret ?_
  refine QM.then_ret ?_
  refine QM.leave (.inl rfl) [.tmp 2] Tryz.results118 rfl ?_
  intro w' hm' hc' hg'
  have hl13 : acW.length = 9 := rfl; refine ⟨?_, hc'⟩; show vS _ = _; congr 1; first | (rw [acT, if_neg (by omega)]; done) | (rw [acT, if_pos (by omega)]; rfl)
 refine wpM.skip ?_
 refine QM.then (wpM.seq (wpM.region ?_))
 refine LM.cS (oc_call (enters_fn Tryz.func147 (by kernel_rfl) rfl) rfl) (fun w hm hc hg => anames_spec w) (fun ad11 n11 cap11 m11 hn11 hs11 => ?_)
 have hl12 : n11 = 9 := hn11
 refine LM.mv rfl ?_
 first | refine LM.val (ov_idxSN au6 Tryz.underlying188 Tryz.sizeOf9 rfl rfl (by omega)) ?_ | refine LM.val (ov_idxS au6 Tryz.underlying188 Tryz.sizeOf9 rfl rfl (by omega)) ?_ | refine LM.val (ov_idx1 Tryz.underlying188 Tryz.sizeOf9 rfl rfl (by omega)) ?_
 refine LM.rd (om_sl1 (by assumption) (by intro _; rfl) Tryz.isAgg9 rfl rfl au3 (by rfl)) ?_
 refine LM.as rfl ?_
 refine LM.nil (QM.sub (e' := [(2, _)]) ⟨rfl, trivial⟩ (QM.then ?_))
 refine wpM.ret ?_
 refine QM.leave (.inl rfl) [.tmp 2] Tryz.results118 rfl ?_
 intro w' hm' hc' hg'
 have hl13 : acW.length = 9 := rfl; refine ⟨?_, hc'⟩; show vS _ = _; congr 1; first | (rw [acT, if_neg (by omega)]; done) | (rw [acT, if_pos (by omega)]; rfl)
set_option maxRecDepth 100000 in
theorem raname_spec (k : Int) (w : World) : Ret Tryz.prog 112 #[.int .i64 k] w (fun v w' => v = vS (acT k) ∧ Ext w w') := by
 refine Ret.enterM (l := [.int .i64 k]) Tryz.func112 rfl Tryz.ntmps112 rfl ([]) (no) (Mem.nil w) ?_
 refine wpM.seq (wpM.region ?_)
 refine LM.as rfl ?_
 refine LM.nil (QM.sub (e' := [(0, _)]) ⟨rfl, trivial⟩ (QM.then (wpM.seq (wpM.region ?_))))
 refine LM.row (vs := [_, _, _, _, _, _, _, _, _]) Tryz.underlying188 Tryz.sizeOf9 Tryz.zeroValue9 rfl rfl rfl rfl rfl rfl (fun b4 hb4 => ?_)
 refine LM.as rfl ?_
 refine LM.nil (QM.sub (e' := [(0, _), (3, _)]) ⟨rfl, rfl, trivial⟩ (QM.then ?_))
 refine wpM.seq ?_
 refine wpM.seq (wpM.region ?_)
 refine LM.mv rfl ?_
 refine LM.val (ov_lss rfl rfl) ?_
 refine LM.mv rfl ?_
 refine LM.splitD (t := 7) rfl (fun h1 => ?_) (fun h1 => ?_)
 ·
  refine LM.dr 7 rfl rfl rfl ?_
  refine LM.dr 7 rfl rfl rfl ?_
  refine LM.val (ov_pickT rfl rfl) ?_
  refine LM.nil (QM.sub (e' := [(0, _), (3, _), (10, _)]) ⟨rfl, rfl, rfl, trivial⟩ (QM.then ?_))
  refine wpM.condT rfl ?_
  refine wpM.seq (wpM.region ?_)
  refine LM.as rfl ?_
  refine LM.nil (QM.sub (e' := [(2, _)]) ⟨rfl, trivial⟩ (QM.then ?_))
  refine wpM.ret ?_
  refine QM.then_ret ?_
  refine QM.leave (.inl rfl) [.tmp 2] Tryz.results112 rfl ?_
  intro w' hm' hc' hg'
  refine ⟨?_, hc'⟩; show vS _ = _; congr 1; first | (rw [acT, if_neg (by omega)]; done) | (rw [acT, if_pos (by omega)]; rfl)
 refine LM.sp 7 rfl rfl rfl ?_
 refine LM.mv rfl ?_
 refine LM.sp 7 rfl rfl rfl ?_
 refine LM.val (ov_gtr rfl rfl) ?_
 refine LM.val (ov_pickF rfl rfl) ?_
 refine LM.nil (QM.sub (e' := [(0, _), (3, _), (10, _)]) ⟨rfl, rfl, rfl, trivial⟩ (QM.then ?_))
 refine wpM.condD rfl (fun h2 => ?_) (fun h2 => ?_)
 ·
  refine wpM.seq (wpM.region ?_)
  refine LM.as rfl ?_
  refine LM.nil (QM.sub (e' := [(2, _)]) ⟨rfl, trivial⟩ (QM.then ?_))
  refine wpM.ret ?_
  refine QM.then_ret ?_
  refine QM.leave (.inl rfl) [.tmp 2] Tryz.results112 rfl ?_
  intro w' hm' hc' hg'
  refine ⟨?_, hc'⟩; show vS _ = _; congr 1; first | (rw [acT, if_neg (by omega)]; done) | (rw [acT, if_pos (by omega)]; rfl)
 refine wpM.skip ?_
 refine QM.then (wpM.seq (wpM.region ?_))
 refine LM.mv rfl ?_
 refine LM.mv rfl ?_
 change LM _ _ _ _ _ _ _ _ ((b4, Obj.cells (arr fB acW []) 9 (0, 0)) :: _) _ _ _; have hs4 : Sl fB 9 1 w.heap.size acW (.slice (some ⟨b4, 0, none⟩) 9 9) [(b4, .cells (arr fB acW []) 9 (0, 0))] := .inr ⟨b4, 9, [], hb4, rfl, rfl, by decide, by unfold maxLen; decide, rfl⟩; have hl12 : acW.length = 9 := rfl
 first | refine LM.val (ov_idxSN au6 Tryz.underlying188 Tryz.sizeOf9 rfl rfl (by omega)) ?_ | refine LM.val (ov_idxS au6 Tryz.underlying188 Tryz.sizeOf9 rfl rfl (by omega)) ?_ | refine LM.val (ov_idx1 Tryz.underlying188 Tryz.sizeOf9 rfl rfl (by omega)) ?_
 refine LM.rd (om_sl1 (by assumption) (by intro _; rfl) Tryz.isAgg9 rfl rfl au3 (by rfl)) ?_
 refine LM.as rfl ?_
 refine LM.nil (QM.sub (e' := [(2, _)]) ⟨rfl, trivial⟩ (QM.then ?_))
 refine wpM.ret ?_
 refine QM.leave (.inl rfl) [.tmp 2] Tryz.results112 rfl ?_
 intro w' hm' hc' hg'
 refine ⟨?_, hc'⟩; show vS _ = _; congr 1; first | (rw [acT, if_neg (by omega)]; done) | (rw [acT, if_pos (by omega)]; rfl)
set_option maxRecDepth 100000 in
theorem rmany_spec (k : Int) (w : World) (hk : 0 ≤ k ∧ k < 9) : Ret Tryz.prog 113 #[.int .i64 k] w (fun v w' => v = .int .i64 (manyA k : Nat) ∧ Ext w w') := by
 refine Ret.enterM (l := [.int .i64 k]) Tryz.func113 rfl Tryz.ntmps113 rfl ([]) (no) (Mem.nil w) ?_
 refine wpM.seq (wpM.region ?_)
 refine LM.as rfl ?_
 refine LM.nil (QM.sub (e' := [(0, _)]) ⟨rfl, trivial⟩ (QM.then (wpM.seq (wpM.region ?_))))
 refine LM.row (vs := [_, _, _, _, _, _, _, _, _]) Tryz.underlying26 Tryz.sizeOf3 Tryz.zeroValue3 rfl rfl rfl rfl rfl rfl (fun b4 hb4 => ?_)
 refine LM.as rfl ?_
 refine LM.nil (QM.sub (e' := [(0, _), (3, _)]) ⟨rfl, rfl, trivial⟩ (QM.then (wpM.seq (wpM.region ?_))))
 refine LM.mv rfl ?_
 refine LM.mv rfl ?_
 change LM _ _ _ _ _ _ _ _ ((b4, Obj.cells (arr fI manyL []) 3 (0, 0)) :: _) _ _ _; have hs4 : Sl fI 3 1 w.heap.size manyL (.slice (some ⟨b4, 0, none⟩) 9 9) [(b4, .cells (arr fI manyL []) 3 (0, 0))] := .inr ⟨b4, 9, [], hb4, rfl, rfl, by decide, by unfold maxLen; decide, rfl⟩; have hl12 : manyL.length = 9 := rfl
 first | refine LM.val (ov_idxSN au6 Tryz.underlying26 Tryz.sizeOf3 rfl rfl (by omega)) ?_ | refine LM.val (ov_idxS au6 Tryz.underlying26 Tryz.sizeOf3 rfl rfl (by omega)) ?_ | refine LM.val (ov_idx1 Tryz.underlying26 Tryz.sizeOf3 rfl rfl (by omega)) ?_
 refine LM.rd (om_sl1 (by assumption) (by intro _; rfl) Tryz.isAgg3 rfl rfl (by exact getq 0 au4) (by rfl)) ?_
 refine LM.as rfl ?_
 refine LM.nil (QM.sub (e' := [(2, _)]) ⟨rfl, trivial⟩ (QM.then ?_))
 refine wpM.ret ?_
 refine QM.leave (.inl rfl) [.tmp 2] Tryz.results113 rfl ?_
 intro w' hm' hc' hg'
 refine ⟨?_, hc'⟩; show Value.int .i64 (manyL.getD k.toNat 0) = _; rw [manyL_get hk]
set_option maxRecDepth 100000 in
theorem many_spec (k : Int) (w : World) : Ret Tryz.prog 120 #[.int .i64 k] w (fun v w' => v = .int .i64 (manyA k : Nat) ∧ Ext w w') := by
 refine Ret.enterM (l := [.int .i64 k]) Tryz.func120 rfl Tryz.ntmps120 rfl ([]) (no) (Mem.nil w) ?_
 refine wpM.seq (wpM.region ?_)
 refine LM.as rfl ?_
 refine LM.nil (QM.sub (e' := [(0, _)]) ⟨rfl, trivial⟩ (QM.then ?_))
 refine wpM.seq ?_
 refine wpM.seq (wpM.region ?_)
 refine LM.mv rfl ?_
 refine LM.nil (QM.sub (e' := [(3, _)]) ⟨rfl, trivial⟩ (QM.then ?_))
 refine wpM.block ?_
 refine wpM.seq ?_
 refine wpM.seq (wpM.region ?_)
 refine LM.val (ov_eql rfl rfl) ?_
 refine LM.as rfl ?_
 refine LM.nil (QM.sub (e' := [(3, _), (4, _)]) ⟨rfl, rfl, trivial⟩ (QM.then ?_))
 refine wpM.condXD (t := 4) rfl (fun h1 => ?_) (fun h1 => ?_)
 ·
  refine wpM.skip ?_
  refine QM.then ?_
  refine wpM.condT rfl ?_
  refine wpM.seq (wpM.region ?_)
  refine LM.as rfl ?_
  refine LM.nil (QM.sub (e' := [(2, _)]) ⟨rfl, trivial⟩ (QM.then ?_))
  refine wpM.ret ?_
  refine QM.block_ret ?_
  refine QM.then_ret ?_
  refine QM.leave (.inl rfl) [.tmp 2] Tryz.results120 rfl ?_
  intro w' hm' hc' hg'
  refine ⟨?_, hc'⟩; show Value.int .i64 _ = _; congr 1; unfold manyA; (repeat' split) <;> omega
 refine wpM.seq (wpM.region ?_)
 refine LM.val (ov_eql rfl rfl) ?_
 refine LM.as rfl ?_
 refine LM.nil (QM.sub (e' := [(3, _), (4, _)]) ⟨rfl, rfl, trivial⟩ (QM.then ?_))
 refine wpM.condXD (t := 4) rfl (fun h2 => ?_) (fun h2 => ?_)
 ·
  refine wpM.skip ?_
  refine QM.then ?_
  refine wpM.condT rfl ?_
  refine wpM.seq (wpM.region ?_)
  refine LM.as rfl ?_
  refine LM.nil (QM.sub (e' := [(2, _)]) ⟨rfl, trivial⟩ (QM.then ?_))
  refine wpM.ret ?_
  refine QM.block_ret ?_
  refine QM.then_ret ?_
  refine QM.leave (.inl rfl) [.tmp 2] Tryz.results120 rfl ?_
  intro w' hm' hc' hg'
  refine ⟨?_, hc'⟩; show Value.int .i64 _ = _; congr 1; unfold manyA; (repeat' split) <;> omega
 refine wpM.region ?_
 refine LM.val (ov_eql rfl rfl) ?_
 refine LM.as rfl ?_
 refine LM.nil (QM.sub (e' := [(3, _), (4, _)]) ⟨rfl, rfl, trivial⟩ (QM.then ?_))
 refine wpM.condD rfl (fun h3 => ?_) (fun h3 => ?_)
 ·
  refine wpM.seq (wpM.region ?_)
  refine LM.as rfl ?_
  refine LM.nil (QM.sub (e' := [(2, _)]) ⟨rfl, trivial⟩ (QM.then ?_))
  refine wpM.ret ?_
  refine QM.block_ret ?_
  refine QM.then_ret ?_
  refine QM.leave (.inl rfl) [.tmp 2] Tryz.results120 rfl ?_
  intro w' hm' hc' hg'
  refine ⟨?_, hc'⟩; show Value.int .i64 _ = _; congr 1; unfold manyA; (repeat' split) <;> omega
 refine wpM.seq ?_
 refine wpM.seq (wpM.region ?_)
 refine LM.val (ov_eql rfl rfl) ?_
 refine LM.as rfl ?_
 refine LM.nil (QM.sub (e' := [(3, _), (8, _)]) ⟨rfl, rfl, trivial⟩ (QM.then ?_))
 refine wpM.condXD (t := 8) rfl (fun h4 => ?_) (fun h4 => ?_)
 ·
  refine wpM.skip ?_
  refine QM.then ?_
  refine wpM.condT rfl ?_
  refine wpM.seq (wpM.region ?_)
  refine LM.as rfl ?_
  refine LM.nil (QM.sub (e' := [(2, _)]) ⟨rfl, trivial⟩ (QM.then ?_))
  refine wpM.ret ?_
  refine QM.block_ret ?_
  refine QM.then_ret ?_
  refine QM.leave (.inl rfl) [.tmp 2] Tryz.results120 rfl ?_
  intro w' hm' hc' hg'
  refine ⟨?_, hc'⟩; show Value.int .i64 _ = _; congr 1; unfold manyA; (repeat' split) <;> omega
 refine wpM.region ?_
 refine LM.val (ov_eql rfl rfl) ?_
 refine LM.as rfl ?_
 refine LM.nil (QM.sub (e' := [(3, _), (8, _)]) ⟨rfl, rfl, trivial⟩ (QM.then ?_))
 refine wpM.condD rfl (fun h5 => ?_) (fun h5 => ?_)
 ·
  refine wpM.seq (wpM.region ?_)
  refine LM.as rfl ?_
  refine LM.nil (QM.sub (e' := [(2, _)]) ⟨rfl, trivial⟩ (QM.then ?_))
  refine wpM.ret ?_
  refine QM.block_ret ?_
  refine QM.then_ret ?_
  refine QM.leave (.inl rfl) [.tmp 2] Tryz.results120 rfl ?_
  intro w' hm' hc' hg'
  refine ⟨?_, hc'⟩; show Value.int .i64 _ = _; congr 1; unfold manyA; (repeat' split) <;> omega
 refine wpM.seq (wpM.region ?_)
 refine LM.val (ov_eql rfl rfl) ?_
 refine LM.as rfl ?_
 refine LM.nil (QM.sub (e' := [(11, _)]) ⟨rfl, trivial⟩ (QM.then ?_))
 refine wpM.condD rfl (fun h6 => ?_) (fun h6 => ?_)
 ·
  refine wpM.seq (wpM.region ?_)
  refine LM.as rfl ?_
  refine LM.nil (QM.sub (e' := [(2, _)]) ⟨rfl, trivial⟩ (QM.then ?_))
  refine wpM.ret ?_
  refine QM.block_ret ?_
  refine QM.then_ret ?_
  refine QM.leave (.inl rfl) [.tmp 2] Tryz.results120 rfl ?_
  intro w' hm' hc' hg'
  refine ⟨?_, hc'⟩; show Value.int .i64 _ = _; congr 1; unfold manyA; (repeat' split) <;> omega
 refine wpM.skip ?_
 refine QM.block_normal ?_
 refine QM.then (wpM.seq (wpM.region ?_))
 refine LM.as rfl ?_
 refine LM.nil (QM.sub (e' := [(2, _)]) ⟨rfl, trivial⟩ (QM.then ?_))
 refine wpM.ret ?_
 refine QM.leave (.inl rfl) [.tmp 2] Tryz.results120 rfl ?_
 intro w' hm' hc' hg'
 refine ⟨?_, hc'⟩; show Value.int .i64 _ = _; congr 1; unfold manyA; (repeat' split) <;> omega
set_option maxRecDepth 100000 in
theorem numbers_spec (o : Act) (w : World) : Ret Tryz.prog 119 #[.agg (fA o).toArray] w (New fI 3 1 (numsA o) w) := by
 refine Ret.enterM (l := [.agg (fA o).toArray]) Tryz.func119 rfl Tryz.ntmps119 rfl ([]) (no) (Mem.nil w) ?_
 refine wpM.seq (wpM.region ?_)
 refine LM.box rfl rfl (fun b1 hb1 => ?_)
 refine LM.as rfl ?_
 refine LM.nil (QM.sub (e' := [(1, _)]) ⟨rfl, trivial⟩ (QM.then (wpM.seq (wpM.region ?_))))
 refine LM.val (ov_field Tryz.underlying123 rfl Tryz.sizeOf3 rfl (k := 1) rfl rfl) ?_
 refine LM.rd (om_ld Tryz.isAgg3 rfl rfl) ?_
 refine LM.val (ov_field Tryz.underlying123 rfl Tryz.sizeOf3 rfl (k := 2) rfl rfl) ?_
 refine LM.rd (om_ld Tryz.isAgg3 rfl rfl) ?_
 refine LM.val (ov_field Tryz.underlying123 rfl Tryz.sizeOf3 rfl (k := 3) rfl rfl) ?_
 refine LM.rd (om_ld Tryz.isAgg3 rfl rfl) ?_
 refine LM.val (ov_field Tryz.underlying123 rfl Tryz.sizeOf3 rfl (k := 4) rfl rfl) ?_
 refine LM.rd (om_ld Tryz.isAgg3 rfl rfl) ?_
 refine LM.row (vs := [_, _, _, _]) Tryz.underlying26 Tryz.sizeOf3 Tryz.zeroValue3 rfl rfl rfl rfl rfl rfl (fun b11 hb11 => ?_)
 refine LM.as rfl ?_
 refine LM.nil (QM.sub (e' := [(2, _)]) ⟨rfl, trivial⟩ (QM.then ?_))
 refine wpM.ret ?_
 refine QM.leave (.inl rfl) [.tmp 2] Tryz.results119 rfl ?_
 intro w' hm' hc' hg'
 change Mem w' ((b11, .cells (arr fI (numsA o) []) 3 (0, 0)) :: _) at hm'; exact ⟨hc', [(b11, .cells (arr fI (numsA o) []) 3 (0, 0))], .inr ⟨b11, 4, [], hb11, rfl, rfl, Nat.le_refl 4, by unfold maxLen; decide, rfl⟩, hm'.pick _⟩
set_option maxRecDepth 100000 in
theorem put_spec {k : Int} {xs : List Int} (i : Nat) (n : Int) (w : World) (hi : i < 4) (hx : xs.length = 4) : Ret Tryz.prog 114 #[.agg (fA (toA k xs)).toArray, .int .i64 (i : Nat), .int .i64 n] w (fun v w' => v = .agg (fA (toA k (xs.set i n))).toArray ∧ Ext w w') := by
 refine Ret.enterM (l := [.agg (fA (toA k xs)).toArray, .int .i64 (i : Nat), .int .i64 n]) Tryz.func114 rfl Tryz.ntmps114 rfl ([]) (no) (Mem.nil w) ?_
 refine wpM.seq (wpM.region ?_)
 refine LM.box rfl rfl (fun b3 hb3 => ?_)
 refine LM.alloc Tryz.zeroValue123 rfl (fun b6 hb6 => ?_)
 refine LM.nil (QM.sub (e' := [(1, _), (2, _), (3, _), (6, _)]) ⟨rfl, rfl, rfl, rfl, trivial⟩ (QM.then ?_))
 refine wpM.seq ?_
 refine wpM.seq (wpM.region ?_)
 refine LM.mv rfl ?_
 refine LM.val (ov_eql rfl rfl) ?_
 refine LM.nil (QM.sub (e' := [(1, _), (2, _), (3, _), (6, _), (8, _)]) ⟨rfl, rfl, rfl, rfl, rfl, trivial⟩ (QM.then ?_))
 refine wpM.condD rfl (fun h1 => ?_) (fun h1 => ?_)
 ·
  refine wpM.region ?_
  refine LM.mv rfl ?_
  refine LM.val (ov_field Tryz.underlying123 rfl Tryz.sizeOf3 rfl (k := 1) rfl rfl) ?_
  refine LM.st Tryz.sizeOf3 rfl rfl rfl au5 rfl au8 ?_
  refine LM.nil (QM.sub (e' := [(3, _), (6, _)]) ⟨rfl, rfl, trivial⟩ (QM.then (wpM.seq (wpM.region ?_))))
  refine LM.rd (om_ldW Tryz.isAgg123 Tryz.sizeOf123 rfl rfl) ?_
  refine LM.stW Tryz.sizeOf123 rfl rfl rfl rfl au7 au8 ?_
  refine LM.nil (QM.sub (e' := [(6, _)]) ⟨rfl, trivial⟩ (QM.then ?_))
  refine wpM.ret ?_
  refine QM.leaveCs (ds := ([])) (.inl rfl) [.cell 6 123] Tryz.results114 hd_nil (rc_w rfl Tryz.isAgg123 Tryz.sizeOf123 rfl rc_nil) ?_
  intro w' hm' hc'
  refine ⟨?_, hc'⟩; have hi4 : i = 0 ∨ i = 1 ∨ i = 2 ∨ i = 3 := (by omega); match xs, hx with | [a0, a1, a2, a3], _ => (rcases hi4 with rfl | rfl | rfl | rfl <;> first | rfl | (exfalso; omega))
 refine wpM.seq (wpM.region ?_)
 refine LM.mv rfl ?_
 refine LM.val (ov_eql rfl rfl) ?_
 refine LM.nil (QM.sub (e' := [(1, _), (2, _), (3, _), (6, _), (12, _)]) ⟨rfl, rfl, rfl, rfl, rfl, trivial⟩ (QM.then ?_))
 refine wpM.condD rfl (fun h2 => ?_) (fun h2 => ?_)
 ·
  refine wpM.region ?_
  refine LM.mv rfl ?_
  refine LM.val (ov_field Tryz.underlying123 rfl Tryz.sizeOf3 rfl (k := 2) rfl rfl) ?_
  refine LM.st Tryz.sizeOf3 rfl rfl rfl au5 rfl au8 ?_
  refine LM.nil (QM.sub (e' := [(3, _), (6, _)]) ⟨rfl, rfl, trivial⟩ (QM.then (wpM.seq (wpM.region ?_))))
  refine LM.rd (om_ldW Tryz.isAgg123 Tryz.sizeOf123 rfl rfl) ?_
  refine LM.stW Tryz.sizeOf123 rfl rfl rfl rfl au7 au8 ?_
  refine LM.nil (QM.sub (e' := [(6, _)]) ⟨rfl, trivial⟩ (QM.then ?_))
  refine wpM.ret ?_
  refine QM.leaveCs (ds := ([])) (.inl rfl) [.cell 6 123] Tryz.results114 hd_nil (rc_w rfl Tryz.isAgg123 Tryz.sizeOf123 rfl rc_nil) ?_
  intro w' hm' hc'
  refine ⟨?_, hc'⟩; have hi4 : i = 0 ∨ i = 1 ∨ i = 2 ∨ i = 3 := (by omega); match xs, hx with | [a0, a1, a2, a3], _ => (rcases hi4 with rfl | rfl | rfl | rfl <;> first | rfl | (exfalso; omega))
 refine wpM.seq (wpM.region ?_)
 refine LM.mv rfl ?_
 refine LM.val (ov_eql rfl rfl) ?_
 refine LM.nil (QM.sub (e' := [(2, _), (3, _), (6, _), (16, _)]) ⟨rfl, rfl, rfl, rfl, trivial⟩ (QM.then ?_))
 refine wpM.condD rfl (fun h3 => ?_) (fun h3 => ?_)
 ·
  refine wpM.region ?_
  refine LM.mv rfl ?_
  refine LM.val (ov_field Tryz.underlying123 rfl Tryz.sizeOf3 rfl (k := 3) rfl rfl) ?_
  refine LM.st Tryz.sizeOf3 rfl rfl rfl au5 rfl au8 ?_
  refine LM.nil (QM.sub (e' := [(3, _), (6, _)]) ⟨rfl, rfl, trivial⟩ (QM.then (wpM.seq (wpM.region ?_))))
  refine LM.rd (om_ldW Tryz.isAgg123 Tryz.sizeOf123 rfl rfl) ?_
  refine LM.stW Tryz.sizeOf123 rfl rfl rfl rfl au7 au8 ?_
  refine LM.nil (QM.sub (e' := [(6, _)]) ⟨rfl, trivial⟩ (QM.then ?_))
  refine wpM.ret ?_
  refine QM.leaveCs (ds := ([])) (.inl rfl) [.cell 6 123] Tryz.results114 hd_nil (rc_w rfl Tryz.isAgg123 Tryz.sizeOf123 rfl rc_nil) ?_
  intro w' hm' hc'
  refine ⟨?_, hc'⟩; have hi4 : i = 0 ∨ i = 1 ∨ i = 2 ∨ i = 3 := (by omega); match xs, hx with | [a0, a1, a2, a3], _ => (rcases hi4 with rfl | rfl | rfl | rfl <;> first | rfl | (exfalso; omega))
 refine wpM.region ?_
 refine LM.mv rfl ?_
 refine LM.val (ov_field Tryz.underlying123 rfl Tryz.sizeOf3 rfl (k := 4) rfl rfl) ?_
 refine LM.st Tryz.sizeOf3 rfl rfl rfl au5 rfl au8 ?_
 refine LM.nil (QM.sub (e' := [(3, _), (6, _)]) ⟨rfl, rfl, trivial⟩ (QM.then (wpM.seq (wpM.region ?_))))
 refine LM.rd (om_ldW Tryz.isAgg123 Tryz.sizeOf123 rfl rfl) ?_
 refine LM.stW Tryz.sizeOf123 rfl rfl rfl rfl au7 au8 ?_
 refine LM.nil (QM.sub (e' := [(6, _)]) ⟨rfl, trivial⟩ (QM.then ?_))
 refine wpM.ret ?_
 refine QM.leaveCs (ds := ([])) (.inl rfl) [.cell 6 123] Tryz.results114 hd_nil (rc_w rfl Tryz.isAgg123 Tryz.sizeOf123 rfl rc_nil) ?_
 intro w' hm' hc'
 refine ⟨?_, hc'⟩; have hi4 : i = 0 ∨ i = 1 ∨ i = 2 ∨ i = 3 := (by omega); match xs, hx with | [a0, a1, a2, a3], _ => (rcases hi4 with rfl | rfl | rfl | rfl <;> first | rfl | (exfalso; omega))
set_option maxRecDepth 100000 in
theorem aright_spec (o : Act) (w : World) : Ret Tryz.prog 117 #[.agg (fA o).toArray] w (fun v w' => v = .bool (rightA o) ∧ Ext w w') := by
 refine Ret.enterM (l := [.agg (fA o).toArray]) Tryz.func117 rfl Tryz.ntmps117 rfl ([]) (no) (Mem.nil w) ?_
 refine wpM.seq (wpM.region ?_)
 refine LM.box rfl rfl (fun b1 hb1 => ?_)
 refine LM.as rfl ?_
 refine LM.nil (QM.sub (e' := [(1, _)]) ⟨rfl, trivial⟩ (QM.then ?_))
 refine wpM.seq ?_
 refine wpM.seq (wpM.region ?_)
 refine LM.val (ov_field Tryz.underlying123 rfl Tryz.sizeOf3 rfl (k := 0) rfl rfl) ?_
 refine LM.rd (om_ld Tryz.isAgg3 rfl rfl) ?_
 refine LM.callE (oc_call (enters_fn Tryz.func118 (by kernel_rfl) rfl) rfl) (fun w hm hc hg => aname_spec _ w) ?_
 refine LM.val (ov_seqlL rfl rfl) ?_
 refine LM.nil (QM.sub (e' := [(1, _), (8, _)]) ⟨rfl, rfl, trivial⟩ (QM.then ?_))
 refine wpM.condD rfl (fun h1 => ?_) (fun h1 => ?_)
 ·
  refine wpM.seq (wpM.region ?_)
  refine LM.as rfl ?_
  refine LM.nil (QM.sub (e' := [(2, _)]) ⟨rfl, trivial⟩ (QM.then ?_))
  refine wpM.ret ?_
  refine QM.then_ret ?_
  refine QM.leave (.inl rfl) [.tmp 2] Tryz.results117 rfl ?_
  intro w' hm' hc' hg'
  refine ⟨?_, hc'⟩; have hko : kindOk o.k = false := (by rw [← acT_empty]; rw [h1]; rfl); show Value.bool false = _; unfold rightA; rw [hko]; rfl
 have hko : kindOk o.k = true := (by rw [← acT_empty]; exact decide_eq_true h1); have hl4 : (numsA o).length = 4 := rfl
 refine wpM.skip ?_
 refine QM.then ?_
 refine wpM.seq ?_
 refine wpM.seq (wpM.region ?_)
 refine LM.rd (om_ldW Tryz.isAgg123 Tryz.sizeOf123 rfl rfl) ?_
 refine LM.cS (oc_call (enters_fn Tryz.func119 (by kernel_rfl) rfl) rfl) (fun w hm hc hg => numbers_spec o w) (fun ad10 n10 cap10 m10 hn10 hs10 => ?_)
 refine LM.val (ov_len Tryz.underlying26 rfl) ?_
 refine LM.mv rfl ?_
 refine LM.nil (QM.sub (e' := [(1, _), (10, _), (11, _), (12, _)]) ⟨rfl, rfl, rfl, rfl, trivial⟩ (QM.then ?_))
 refine wpM.block ?_
 refine wpM.loopK0 (α := Nat) (fun i => [(12, .int .i64 (i : Nat))]) [(1, _), (10, _), (11, _)] (fun i => m10 ++ ((b1, .cells (fA o).toArray 123 (0, 0)) :: [])) (fun i => i ≤ 4 ∧ ∀ j, j < i → numB o.k j ((numsA o).getD j 0) = true) (fun i => 4 - i) (0) ⟨au2, rfl, rfl, rfl, trivial⟩ au1 ⟨Nat.zero_le _, fun j hj => absurd hj (Nat.not_lt_zero _)⟩ ?_
 rintro i ⟨hi, ha⟩
 change wpM _ _ _ _ _ _ _ (m10 ++ ((b1, .cells (fA o).toArray 123 (0, 0)) :: [])) _ _ _
 refine wpM.seq (wpM.region ?_)
 refine LM.val (ov_lss rfl rfl) ?_
 refine LM.nil (QM.sub (e' := [(1, _), (10, _), (11, _), (12, _), (13, _)]) ⟨rfl, rfl, rfl, rfl, rfl, trivial⟩ (QM.then ?_))
 refine wpM.seq ?_
 refine wpM.condD rfl (fun h2 => ?_) (fun h2 => ?_)
 ·
  refine wpM.skip ?_
  refine QM.then ?_
  refine wpM.seq ?_
  refine wpM.block ?_
  refine wpM.seq (wpM.region ?_)
  refine LM.mv rfl ?_
  refine LM.val (ov_idxSN au6 Tryz.underlying26 Tryz.sizeOf3 rfl rfl (by omega)) ?_
  refine LM.rd (om_sl1 (by assumption) (by intro _; rfl) Tryz.isAgg3 rfl rfl (by exact getq 0 au4) (by rfl)) ?_
  refine LM.as rfl ?_
  refine LM.as rfl ?_
  refine LM.nil (QM.sub (e' := [(1, _), (3, _), (4, _), (10, _), (11, _), (12, _)]) ⟨rfl, rfl, rfl, rfl, rfl, rfl, trivial⟩ (QM.then ?_))
  refine wpM.seq ?_
  refine wpM.joinK (α := Bool) (fun q => [(33, .bool q)]) [(1, _), (10, _), (11, _), (12, _)] (fun q => m10 ++ ((b1, .cells (fA o).toArray 123 (0, 0)) :: [])) (fun q => q = !numB o.k i ((numsA o).getD i 0)) ⟨rfl, rfl, rfl, rfl, trivial⟩ ?_ ?_
  ·
   refine wpM.region ?_
   refine LM.mv rfl ?_
   refine LM.val (ov_lss rfl rfl) ?_
   refine LM.mv rfl ?_
   refine LM.splitD (t := 19) rfl (fun h3 => ?_) (fun h3 => ?_)
   ·
    refine LM.dr 19 rfl rfl rfl ?_
    refine LM.dr 19 rfl rfl rfl ?_
    refine LM.val (ov_pickT rfl rfl) ?_
    refine LM.mv rfl ?_
    refine LM.dr 23 rfl rfl rfl ?_
    refine LM.dr 23 rfl rfl rfl ?_
    refine LM.dr 23 rfl rfl rfl ?_
    refine LM.dr 23 rfl rfl rfl ?_
    refine LM.dr 23 rfl rfl rfl ?_
    refine LM.dropU (t := 23) rfl rfl rfl ?_
    refine LM.dropX (t := 29) rfl rfl ?_
    refine LM.dropX (t := 29) rfl rfl ?_
    refine LM.dr 23 rfl rfl rfl ?_
    refine LM.val (ov_pickT rfl rfl) ?_
    refine LM.nil (QM.sub (e' := [(1, _), (10, _), (11, _), (12, _), (33, _)]) ⟨rfl, rfl, rfl, rfl, rfl, trivial⟩ ?_)
    refine QM.meetK (_) ⟨au2, rfl, rfl, rfl, rfl, trivial⟩ au1 ?_
    · unfold numB; rw [decide_eq_false (show ¬ 0 ≤ (numsA o).getD i 0 by omega)]; rfl
   refine LM.sp 19 rfl rfl rfl ?_
   refine LM.mv rfl ?_
   refine LM.sp 19 rfl rfl rfl ?_
   refine LM.val (ov_gtr rfl rfl) ?_
   refine LM.val (ov_pickF rfl rfl) ?_
   refine LM.mv rfl ?_
   refine LM.splitD (t := 23) rfl (fun h4 => ?_) (fun h4 => ?_)
   ·
    refine LM.dr 23 rfl rfl rfl ?_
    refine LM.dr 23 rfl rfl rfl ?_
    refine LM.dr 23 rfl rfl rfl ?_
    refine LM.dr 23 rfl rfl rfl ?_
    refine LM.dr 23 rfl rfl rfl ?_
    refine LM.dropU (t := 23) rfl rfl rfl ?_
    refine LM.dropX (t := 29) rfl rfl ?_
    refine LM.dropX (t := 29) rfl rfl ?_
    refine LM.dr 23 rfl rfl rfl ?_
    refine LM.val (ov_pickT rfl rfl) ?_
    refine LM.nil (QM.sub (e' := [(1, _), (10, _), (11, _), (12, _), (33, _)]) ⟨rfl, rfl, rfl, rfl, rfl, trivial⟩ ?_)
    refine QM.meetK (_) ⟨au2, rfl, rfl, rfl, rfl, trivial⟩ au1 ?_
    · unfold numB; rw [decide_eq_true (show 0 ≤ (numsA o).getD i 0 by omega), decide_eq_false (show ¬ (numsA o).getD i 0 ≤ 999999999 by omega)]; rfl
   refine LM.sp 23 rfl rfl rfl ?_
   refine LM.mv rfl ?_
   refine LM.sp 23 rfl rfl rfl ?_
   refine LM.val (ov_field Tryz.underlying123 rfl Tryz.sizeOf3 rfl (k := 0) rfl rfl) ?_
   refine LM.sp 23 rfl rfl rfl ?_
   refine LM.rd (om_ld Tryz.isAgg3 rfl rfl) ?_
   refine LM.sp 23 rfl rfl rfl ?_
   refine LM.callE (oc_call (enters_fn Tryz.func120 (by kernel_rfl) rfl) rfl) (fun w hm hc hg => many_spec _ w) ?_
   refine LM.sp 23 rfl rfl rfl ?_
   refine LM.val (ov_geq rfl rfl) ?_
   refine LM.sp 23 rfl rfl rfl ?_
   refine LM.mv rfl ?_
   refine LM.splitD (t := 29) rfl (fun h5 => ?_) (fun h5 => ?_)
   ·
    refine LM.sp 29 rfl rfl rfl ?_
    refine LM.mv rfl ?_
    refine LM.sp 29 rfl rfl rfl ?_
    refine LM.val (ov_neq rfl rfl) ?_
    refine LM.sp 23 rfl rfl rfl ?_
    refine LM.val (ov_pickT rfl rfl) ?_
    refine LM.val (ov_pickF rfl rfl) ?_
    refine LM.nil (QM.sub (e' := [(1, _), (10, _), (11, _), (12, _), (33, _)]) ⟨rfl, rfl, rfl, rfl, rfl, trivial⟩ ?_)
    refine QM.meetK (_) ⟨au2, rfl, rfl, rfl, rfl, trivial⟩ au1 ?_
    · unfold numB; rw [decide_eq_true (show 0 ≤ (numsA o).getD i 0 by omega), decide_eq_true (show (numsA o).getD i 0 ≤ 999999999 by omega), decide_eq_false (show ¬ i < manyA o.k by omega)]; simp only [Bool.true_and, Bool.false_or, decide_not]
   refine LM.dr 29 rfl rfl rfl ?_
   refine LM.dr 29 rfl rfl rfl ?_
   refine LM.sp 23 rfl rfl rfl ?_
   refine LM.val (ov_pickF rfl rfl) ?_
   refine LM.val (ov_pickF rfl rfl) ?_
   refine LM.nil (QM.sub (e' := [(1, _), (10, _), (11, _), (12, _), (33, _)]) ⟨rfl, rfl, rfl, rfl, rfl, trivial⟩ ?_)
   refine QM.meetK (_) ⟨au2, rfl, rfl, rfl, rfl, trivial⟩ au1 ?_
   · unfold numB; rw [decide_eq_true (show 0 ≤ (numsA o).getD i 0 by omega), decide_eq_true (show (numsA o).getD i 0 ≤ 999999999 by omega), decide_eq_true (show i < manyA o.k by omega)]; rfl
  rintro q hq
  change QM _ _ _ _ _ (m10 ++ ((b1, .cells (fA o).toArray 123 (0, 0)) :: [])) _ _ _
  refine QM.then ?_
  first | refine wpM.condD rfl (fun h6 => ?_) (fun h6 => ?_) | refine wpM.condB rfl (fun h6 => ?_) (fun h6 => ?_)
  ·
   refine wpM.seq (wpM.region ?_)
   refine LM.as rfl ?_
   refine LM.nil (QM.sub (e' := [(2, _)]) ⟨rfl, trivial⟩ (QM.then ?_))
   refine wpM.ret ?_
   refine QM.block_ret ?_
   refine QM.then_ret ?_
   refine QM.then_ret ?_
   refine QM.block_ret ?_
   refine QM.then_ret ?_
   refine QM.leave (.inl rfl) [.tmp 2] Tryz.results117 rfl ?_
   intro w' hm' hc' hg'
   refine ⟨?_, hc'⟩; show Value.bool false = _; rw [right_not (j := i) (by omega) (by simpa using hq.symm.trans h6)]
  refine wpM.skip ?_
  refine QM.block_normal ?_
  refine QM.then (wpM.region ?_)
  refine LM.val (ov_add64 rfl rfl (by omega)) ?_
  refine LM.mv rfl ?_
  refine LM.nil (QM.sub (e' := [(1, _), (10, _), (11, _), (12, _)]) ⟨rfl, rfl, rfl, rfl, trivial⟩ ?_)
  refine QM.againK (i + 1) ⟨au2, rfl, rfl, rfl, trivial⟩ au1 (fun _ h => h) ?_ ?_
  · exact ⟨by omega, before_next ha (by simpa using hq.symm.trans h6)⟩
  · omega
 refine wpM.exit ?_
 refine QM.then_exit ?_
 refine QM.then_exit ?_
 refine QM.block_hit ?_
 refine QM.then (wpM.seq (wpM.region ?_))
 refine LM.as rfl ?_
 refine LM.nil (QM.sub (e' := [(2, _)]) ⟨rfl, trivial⟩ (QM.then ?_))
 refine wpM.ret ?_
 refine QM.leave (.inl rfl) [.tmp 2] Tryz.results117 rfl ?_
 intro w' hm' hc' hg'
 refine ⟨?_, hc'⟩; show Value.bool true = _; rw [right_all hko (fun j hj => ha j (by omega))]
set_option maxRecDepth 100000 in
theorem amay1_spec (o : Act) (w : World) : Ret Tryz.prog 116 #[.agg (fA o).toArray] w (fun v w' => v = .bool (!rightA o) ∧ Ext w w') := by
 refine Ret.enterM (l := [.agg (fA o).toArray]) Tryz.func116 rfl Tryz.ntmps116 rfl ([]) (no) (Mem.nil w) ?_
 refine wpM.seq (wpM.region ?_)
 refine LM.box rfl rfl (fun b1 hb1 => ?_)
 refine LM.as rfl ?_
 refine LM.nil (QM.sub (e' := [(1, _)]) ⟨rfl, trivial⟩ (QM.then (wpM.seq (wpM.region ?_))))
 refine LM.rd (om_ldW Tryz.isAgg123 Tryz.sizeOf123 rfl rfl) ?_
 refine LM.callE (oc_call (enters_fn Tryz.func117 (by kernel_rfl) rfl) rfl) (fun w hm hc hg => aright_spec o w) ?_
 first | refine LM.val (ov_notD rfl) ?_ | refine LM.val (ov_not rfl) ?_
 refine LM.as rfl ?_
 refine LM.nil (QM.sub (e' := [(2, _)]) ⟨rfl, trivial⟩ (QM.then ?_))
 refine wpM.ret ?_
 refine QM.leave (.inl rfl) [.tmp 2] Tryz.results116 rfl ?_
 intro w' hm' hc' hg'
 exact ⟨rfl, hc'⟩
set_option maxRecDepth 100000 in
theorem ixf_amay {xs : List Act} {ad : Option Addr} {n cap : Nat} (w : World) (hn : n = xs.length) (hl : Sr fA 5 xs (.slice ad n cap) w) (hx : xs.length ≤ 1000000) : Ret Tryz.prog 148 #[.slice ad n cap, .func (.func 116) #[] #[]] w (fun v w' => v = .int .i64 (fixI (fun o => !rightA o) xs) ∧ Ext w w') := by
 refine Ret.enterM (l := [.slice ad n cap, .func (.func 116) #[] #[]]) Tryz.func148 rfl Tryz.ntmps148 rfl ([]) (no) (Mem.nil w) ?_
 refine wpM.seq (wpM.region ?_)
 refine LM.as rfl ?_
 refine LM.nil (QM.sub (e' := [(0, _), (1, _)]) ⟨rfl, rfl, trivial⟩ (QM.then ?_))
 refine wpM.seq ?_
 refine wpM.seq (wpM.region ?_)
 refine LM.mv rfl ?_
 refine LM.val (ov_len Tryz.underlying47 rfl) ?_
 refine LM.mv rfl ?_
 refine LM.nil (QM.sub (e' := [(0, _), (1, _), (7, _), (8, _)]) ⟨rfl, rfl, rfl, rfl, trivial⟩ (QM.then ?_))
 refine wpM.block ?_
 refine wpM.loopK0 (α := Nat) (fun i => [(8, .int .i64 (i : Nat))]) [(0, _), (1, _), (7, _)] (fun i => []) (fun i => i ≤ xs.length ∧ (xs.take i).any (fun o => !rightA o) = false) (fun i => xs.length - i) (0) ⟨au2, rfl, rfl, rfl, trivial⟩ au1 ⟨Nat.zero_le _, rfl⟩ ?_
 rintro i ⟨hi, ha⟩
 change wpM _ _ _ _ _ _ _ ([]) _ _ _
 refine wpM.seq (wpM.region ?_)
 refine LM.val (ov_lss rfl rfl) ?_
 refine LM.nil (QM.sub (e' := [(0, _), (1, _), (7, _), (8, _), (9, _)]) ⟨rfl, rfl, rfl, rfl, rfl, trivial⟩ (QM.then ?_))
 refine wpM.seq ?_
 refine wpM.condD rfl (fun h1 => ?_) (fun h1 => ?_)
 ·
  refine wpM.skip ?_
  refine QM.then ?_
  refine wpM.seq ?_
  refine wpM.block ?_
  refine wpM.seq (wpM.region ?_)
  refine LM.mv rfl ?_
  refine LM.as rfl ?_
  refine LM.nil (QM.sub (e' := [(0, _), (1, _), (5, _), (7, _), (8, _)]) ⟨rfl, rfl, rfl, rfl, rfl, trivial⟩ (QM.then (wpM.seq (wpM.region ?_))))
  refine LM.mv rfl ?_
  refine LM.mv rfl ?_
  refine LM.mv rfl ?_
  refine LM.val (ov_idxSN au6 Tryz.underlying47 Tryz.sizeOf123 rfl rfl (by omega)) ?_
  first | refine LM.rd (om_slA (by assumption) (by intro _; rfl) Tryz.isAgg123 Tryz.sizeOf123 rfl au3) ?_ | refine LM.rdC (om_srEA (by assumption) (by intro _; rfl) Tryz.isAgg123 Tryz.sizeOf123 rfl au3 id) ?_ | refine LM.rd (om_ldW Tryz.isAgg123 Tryz.sizeOf123 rfl rfl) ?_ | refine LM.rd (om_ldA Tryz.isAgg123 Tryz.sizeOf123 rfl (vs := [_, _, _, _, _]) rfl ⟨rfl, rfl, rfl, rfl, rfl, trivial⟩) ?_
  refine LM.callE (oc_callV rfl (enters_fn Tryz.func116 (by kernel_rfl) rfl) rfl) (fun w hm hc hg => amay1_spec _ w) ?_
  refine LM.nil (QM.sub (e' := [(0, _), (1, _), (5, _), (7, _), (8, _), (16, _)]) ⟨rfl, rfl, rfl, rfl, rfl, rfl, trivial⟩ (QM.then ?_))
  first | refine wpM.condD rfl (fun h2 => ?_) (fun h2 => ?_) | refine wpM.condB rfl (fun h2 => ?_) (fun h2 => ?_)
  ·
   refine wpM.seq (wpM.region ?_)
   refine LM.mv rfl ?_
   refine LM.as rfl ?_
   refine LM.nil (QM.sub (e' := [(4, _)]) ⟨rfl, trivial⟩ (QM.then ?_))
   refine wpM.ret ?_
   refine QM.block_ret ?_
   refine QM.then_ret ?_
   refine QM.then_ret ?_
   refine QM.block_ret ?_
   refine QM.then_ret ?_
   refine QM.leave (.inl rfl) [.tmp 4] Tryz.results148 rfl ?_
   intro w' hm' hc' hg'
   exact ⟨by show Value.int .i64 _ = _; rw [fix_hit default ha (by omega) (by simpa using h2)], hc'⟩
  refine wpM.skip ?_
  refine QM.block_normal ?_
  refine QM.then (wpM.region ?_)
  refine LM.val (ov_add64 rfl rfl (by omega)) ?_
  refine LM.mv rfl ?_
  refine LM.nil (QM.sub (e' := [(0, _), (1, _), (7, _), (8, _)]) ⟨rfl, rfl, rfl, rfl, trivial⟩ ?_)
  refine QM.againK (i + 1) ⟨au2, rfl, rfl, rfl, trivial⟩ au1 (fun _ h => h) ?_ ?_
  · exact ⟨by omega, by rw [any_snoc default (by omega), ha, Bool.false_or]; simpa using h2⟩
  · omega
 refine wpM.exit ?_
 refine QM.then_exit ?_
 refine QM.then_exit ?_
 refine QM.block_hit ?_
 refine QM.then (wpM.seq (wpM.region ?_))
 refine LM.as rfl ?_
 refine LM.nil (QM.sub (e' := [(4, _)]) ⟨rfl, trivial⟩ (QM.then ?_))
 refine wpM.ret ?_
 refine QM.leave (.inl rfl) [.tmp 4] Tryz.results148 rfl ?_
 intro w' hm' hc' hg'
 have hil : i = xs.length := (by omega); subst hil; rw [List.take_length] at ha; exact ⟨by show Value.int .i64 _ = _; rw [fix_miss ha], hc'⟩
set_option maxRecDepth 100000 in
theorem cof_amay {xs : List Act} {ad : Option Addr} {n cap : Nat} (w : World) (hn : n = xs.length) (hl : Sr fA 5 xs (.slice ad n cap) w) (hx : xs.length ≤ 1000000) : Ret Tryz.prog 115 #[.slice ad n cap, .func (.func 116) #[] #[]] w (fun v w' => v = .bool (xs.any (fun o => !rightA o)) ∧ Ext w w') := by
 refine Ret.enterM (l := [.slice ad n cap, .func (.func 116) #[] #[]]) Tryz.func115 rfl Tryz.ntmps115 rfl ([]) (no) (Mem.nil w) ?_
 refine wpM.seq (wpM.region ?_)
 refine LM.as rfl ?_
 refine LM.nil (QM.sub (e' := [(0, _), (1, _)]) ⟨rfl, rfl, trivial⟩ (QM.then (wpM.seq (wpM.region ?_))))
 refine LM.mv rfl ?_
 refine LM.mv rfl ?_
 refine LM.callE (oc_call (enters_fn Tryz.func148 (by kernel_rfl) rfl) rfl) (fun w hm hc hg => ixf_amay w hn (hl.ext hc) hx) ?_
 refine LM.val (ov_geq rfl rfl) ?_
 refine LM.as rfl ?_
 refine LM.nil (QM.sub (e' := [(4, _)]) ⟨rfl, trivial⟩ (QM.then ?_))
 refine wpM.ret ?_
 refine QM.leave (.inl rfl) [.tmp 4] Tryz.results115 rfl ?_
 intro w' hm' hc' hg'
 exact ⟨by show Value.bool _ = _; rw [← fix_pos], hc'⟩
set_option maxRecDepth 100000 in
theorem amay_spec {xs : List Act} {ad : Option Addr} {n cap : Nat} (w : World) (hn : n = xs.length) (hl : Sr fA 5 xs (.slice ad n cap) w) : Ret Tryz.prog 71 #[.slice ad n cap] w (fun v w' => v = .bool (mayA xs) ∧ Ext w w') := by
 refine Ret.enterM (l := [.slice ad n cap]) Tryz.func71 rfl Tryz.ntmps71 rfl ([]) (no) (Mem.nil w) ?_
 refine wpM.seq (wpM.region ?_)
 refine LM.as rfl ?_
 refine LM.nil (QM.sub (e' := [(0, _)]) ⟨rfl, trivial⟩ (QM.then (wpM.seq (wpM.region ?_))))
 refine LM.mv rfl ?_
 refine LM.val (ov_len Tryz.underlying47 rfl) ?_
 refine LM.val (ov_leq rfl rfl) ?_
 refine LM.mv rfl ?_
 refine LM.splitD (t := 6) rfl (fun h1 => ?_) (fun h1 => ?_)
 ·
  refine LM.sp 6 rfl rfl rfl ?_
  refine LM.mv rfl ?_
  refine LM.sp 6 rfl rfl rfl ?_
  refine LM.callE (oc_call (enters_fn Tryz.func115 (by kernel_rfl) rfl) rfl) (fun w hm hc hg => cof_amay w hn (hl.ext hc) (by omega)) ?_
  refine LM.sp 6 rfl rfl rfl ?_
  first | refine LM.val (ov_notD rfl) ?_ | refine LM.val (ov_not rfl) ?_
  refine LM.val (ov_pickT rfl rfl) ?_
  refine LM.as rfl ?_
  refine LM.nil (QM.sub (e' := [(2, _)]) ⟨rfl, trivial⟩ (QM.then ?_))
  refine wpM.ret ?_
  refine QM.leave (.inl rfl) [.tmp 2] Tryz.results71 rfl ?_
  intro w' hm' hc' hg'
  refine ⟨?_, hc'⟩; simp only [resV, mayA]; congr 1; first | (rw [decide_eq_false (show ¬ xs.length ≤ 4000 by omega)]; simp; done) | (rw [decide_eq_true (show xs.length ≤ 4000 by omega), all_any]; rfl)
 refine LM.dr 6 rfl rfl rfl ?_
 refine LM.dr 6 rfl rfl rfl ?_
 refine LM.dr 6 rfl rfl rfl ?_
 refine LM.val (ov_pickF rfl rfl) ?_
 refine LM.as rfl ?_
 refine LM.nil (QM.sub (e' := [(2, _)]) ⟨rfl, trivial⟩ (QM.then ?_))
 refine wpM.ret ?_
 refine QM.leave (.inl rfl) [.tmp 2] Tryz.results71 rfl ?_
 intro w' hm' hc' hg'
 refine ⟨?_, hc'⟩; simp only [resV, mayA]; congr 1; first | (rw [decide_eq_false (show ¬ xs.length ≤ 4000 by omega)]; simp; done) | (rw [decide_eq_true (show xs.length ≤ 4000 by omega), all_any]; rfl)
end Go.Eng
namespace Go.Eng
open Go Go.Proofs Go.RowKit
theorem oneA_0 {ws : List Wrd} {i : Nat} (h : kindA ws i = 0) : oneA ws i = (default, i, 5) := by unfold oneA; rw [if_pos h]
theorem oneA_n {ws : List Wrd} {i j : Nat} {xs : List Int} (h : kindA ws i ≠ 0) (h2 : numK ws i = (j, 5, xs)) : oneA ws i = (default, j, 5) := by unfold oneA; rw [if_neg h, h2, if_pos (show (5 : Int) ≠ 0 by decide)]
theorem oneA_s {ws : List Wrd} {i j : Nat} {xs : List Int} (h : kindA ws i ≠ 0) (h2 : numK ws i = (j, 0, xs)) (h3 : isR ws j 3 [59] = false) : oneA ws i = (default, j, 5) := by unfold oneA; rw [if_neg h, h2, if_neg (fun q => q rfl), if_neg (by rw [h3]; simp)]
theorem oneA_ok {ws : List Wrd} {i j : Nat} {xs : List Int} (h : kindA ws i ≠ 0) (h2 : numK ws i = (j, 0, xs)) (h3 : isR ws j 3 [59] = true) : oneA ws i = (toA (kindA ws i) xs, j + 1, 0) := by unfold oneA; rw [if_neg h, h2, if_neg (fun q => q rfl), if_pos h3]
theorem numG_stop {ws : List Wrd} {f j i : Nat} {xs : List Int} (hf : 0 < f) (h : (decide (ws.length ≤ j) || decide ((ws.getD j default).k ≠ 2)) = true) : numG ws f j i xs = (j, 5, xs) := by
  obtain ⟨g, rfl⟩ : ∃ g, f = g + 1 := ⟨f - 1, by omega⟩
  unfold numG; rw [if_pos h]
theorem numG_next {ws : List Wrd} {f j i : Nat} {xs : List Int} (hf : 0 < f) (h : (decide (ws.length ≤ j) || decide ((ws.getD j default).k ≠ 2)) = false) : numG ws f j i xs = numG ws (f - 1) (j + 1) (i + 1) (xs.set i (ws.getD j default).n) := by
  obtain ⟨g, rfl⟩ : ∃ g, f = g + 1 := ⟨f - 1, by omega⟩
  conv => lhs; unfold numG
  rw [if_neg (by rw [h]; simp), Nat.add_sub_cancel]
theorem kindA_yes {ws : List Wrd} {i : Nat} (hi : i < ws.length) (h : (ws.getD i default).k = 1) : kindA ws i = kindAT (ws.getD i default).t := by unfold kindA; rw [decide_eq_true hi, decide_eq_true h]; rfl
theorem kindA_no {ws : List Wrd} {i : Nat} (h : (ws.getD i default).k ≠ 1) : kindA ws i = 0 := by unfold kindA; rw [decide_eq_false h, Bool.and_false]; rfl
def AcT (r : List Act × Int × Int) (n0 : Nat) (v : Value) (m : Mem0) : Prop := ∃ ad n cap, v = .tuple #[.slice ad n cap, .int .i64 r.2.1, .int .i64 r.2.2] ∧ n = r.1.length ∧ Sl fA 123 5 n0 r.1 (.slice ad n cap) m
theorem AcT.mono {r : List Act × Int × Int} : ∀ (k k' : Nat) u m, k' ≤ k → AcT r k u m → AcT r k' u m := fun k k' u m h ⟨ad, n, cap, h1, h2, h3⟩ => ⟨ad, n, cap, h1, h2, h3.mono h⟩
def fullA (ws : List Wrd) (i : Nat) (out : List Act) : Bool := decide (out.length = 4000) && decide (kindA ws i ≠ 0)
theorem loopA_full {ws : List Wrd} {i : Nat} {out : List Act} (h : i < ws.length) (hq : fullA ws i out = true) : loopA ws i out = ([], (i : Int), 6) := by
  unfold fullA at hq; simp only [Bool.and_eq_true, decide_eq_true_eq] at hq
  rw [loopA_step h, if_neg hq.2, if_pos hq.1]
theorem loopA_bad {ws : List Wrd} {i : Nat} {out : List Act} (h : i < ws.length) (hq : fullA ws i out = false) (he : (oneA ws i).2.2 ≠ 0) : loopA ws i out = ([], ((oneA ws i).2.1 : Int), (oneA ws i).2.2) := by
  unfold fullA at hq; simp only [Bool.and_eq_false_iff, decide_eq_false_iff_not] at hq
  rw [loopA_step h]
  by_cases h0 : kindA ws i = 0
  · rw [if_pos h0, oneA_0 h0]
  · rw [if_neg h0, if_neg (by rcases hq with q | q; exact q; exact absurd h0 q), if_pos he]
theorem loopA_next {ws : List Wrd} {i : Nat} {out : List Act} (h : i < ws.length) (hq : fullA ws i out = false) (he : (oneA ws i).2.2 = 0) : loopA ws i out = loopA ws (oneA ws i).2.1 (out ++ [(oneA ws i).1]) ∧ out.length ≠ 4000 := by
  unfold fullA at hq; simp only [Bool.and_eq_false_iff, decide_eq_false_iff_not] at hq
  have h0 : kindA ws i ≠ 0 := fun q => by rw [oneA_0 q] at he; cases he
  have h1 : out.length ≠ 4000 := by rcases hq with q | q; exact q; exact absurd h0 q
  exact ⟨by rw [loopA_step h, if_neg h0, if_neg h1, if_neg (fun q => q he)], h1⟩
theorem begins_eq {ws : List Wrd} {i : Nat} (hi : i < ws.length) : (decide ((ws.getD i default).k = 1) && decide (kindAT (ws.getD i default).t ≠ 0)) = decide (kindA ws i ≠ 0) := by
  by_cases h : (ws.getD i default).k = 1
  · rw [kindA_yes hi h, decide_eq_true h, Bool.true_and]
  · rw [kindA_no h, decide_eq_false h]; rfl
theorem mx0_pos {a : Int} : decide (a > 0) = decide (mx0 a ≠ 0) := decide_eq_decide.2 (by unfold mx0; constructor <;> intro h <;> (first | omega | (split at h <;> omega) | (split <;> omega)))
set_option maxRecDepth 100000 in
set_option maxHeartbeats 1000000 in
theorem actone_spec {ws : List Wrd} {ad : Option Addr} {n cap : Nat} (i : Nat) (w : World) (hn : n = ws.length) (hx : ws.length ≤ 1000000000) (hl : Sr fW 4 ws (.slice ad n cap) w) (hi : i < ws.length) : Ret Tryz.prog 111 #[.slice ad n cap, .int .i64 (i : Nat)] w (fun v w' => v = .tuple #[.agg (fA (oneA ws i).1).toArray, .int .i64 ((oneA ws i).2.1 : Nat), .int .i64 (oneA ws i).2.2] ∧ Ext w w') := by
 refine Ret.enterM (l := [.slice ad n cap, .int .i64 (i : Nat)]) Tryz.func111 rfl Tryz.ntmps111 rfl ([]) (no) (Mem.nil w) ?_
 refine wpM.seq (wpM.region ?_)
 refine LM.alloc Tryz.zeroValue123 rfl (fun b4 hb4 => ?_)
 refine LM.as rfl ?_
 refine LM.as rfl ?_
 refine LM.nil (QM.sub (e' := [(0, _), (1, _), (4, _)]) ⟨rfl, rfl, rfl, trivial⟩ (QM.then (wpM.seq (wpM.region ?_))))
 refine LM.as rfl ?_
 refine LM.nil (QM.sub (e' := [(0, _), (1, _), (4, _), (7, _)]) ⟨rfl, rfl, rfl, rfl, trivial⟩ (QM.then ?_))
 refine wpM.seq ?_
 refine wpM.seq (wpM.region ?_)
 refine LM.mv rfl ?_
 refine LM.mv rfl ?_
 refine LM.val (ov_idxSN au6 Tryz.underlying23 Tryz.sizeOf65 rfl rfl (by omega)) ?_
 refine LM.val (ov_field Tryz.underlying65 rfl Tryz.sizeOf3 rfl (k := 0) rfl rfl) ?_
 first | refine LM.rd (om_slE (j := 0) (by assumption) (by intro _; rfl) Tryz.isAgg3 rfl rfl au3 rfl (by rfl)) ?_ | refine LM.rdC (om_srE (j := 0) (by assumption) Tryz.isAgg3 rfl rfl au3 (by rfl) (by rfl) id) ?_ | refine LM.rd (om_ld Tryz.isAgg3 rfl rfl) ?_
 refine LM.val (ov_eql rfl rfl) ?_
 refine LM.nil (QM.sub (e' := [(0, _), (1, _), (4, _), (7, _), (15, _)]) ⟨rfl, rfl, rfl, rfl, rfl, trivial⟩ (QM.then ?_))
 refine wpM.joinK (α := Int) (fun kd => [(7, .int .i64 kd)]) [(0, _), (1, _), (4, _)] (fun kd => (b4, .cells (fA default).toArray 123 (0, 0)) :: []) (fun kd => kd = kindA ws i) ⟨rfl, rfl, rfl, trivial⟩ ?_ ?_
 ·
  refine wpM.condD rfl (fun h1 => ?_) (fun h1 => ?_)
  ·
   refine wpM.draw [(1, 0), (2, 0), (3, 0), (4, 0), (5, 1), (0, 2), (6, 2), (7, 0), (8, 0)] (by kernel_rfl) (by kernel_rfl) ?_
   refine LD.val rfl rfl (ov_move rfl) ?_
   refine LD.val rfl rfl (ov_move rfl) ?_
   refine LD.val rfl rfl (ov_idxSN au6 Tryz.underlying23 Tryz.sizeOf65 rfl rfl (by omega)) ?_
   refine LD.val rfl rfl (ov_field Tryz.underlying65 rfl Tryz.sizeOf9 rfl (k := 1) rfl rfl) ?_
   first | refine LD.rd rfl rfl (om_slE (j := 1) (by assumption) (by intro _; rfl) Tryz.isAgg9 rfl rfl au3 rfl (by rfl)) ?_ | refine LD.rdC rfl rfl (om_srE (j := 1) (by assumption) Tryz.isAgg9 rfl rfl au3 (by rfl) (by rfl) id) ?_ | refine LD.rd rfl rfl (om_ld Tryz.isAgg9 rfl rfl) ?_
   refine LD.cS rfl rfl (oc_call (enters_fn Tryz.func147 (by kernel_rfl) rfl) rfl) (fun w hm hc hg => anames_spec w) (fun ad16 n16 cap16 m16 hn16 hs16 => ?_)
   refine LD.callE rfl rfl (oc_call (enters_fn Tryz.func146 (by kernel_rfl) rfl) rfl) (fun w hm hc hg => index_str _ w hn16 (hs16.srM (by intro _; rfl) hm) (by decide)) ?_
   refine LD.val rfl rfl (ov_max rfl rfl) ?_
   refine LD.val rfl rfl (ov_assign rfl) ?_
   refine LD.nil ?_
   refine QM.sub (e' := [(0, _), (1, _), (4, _), (7, _)]) ⟨rfl, rfl, rfl, rfl, trivial⟩ ?_
   refine QM.meetK (_) ⟨au2, rfl, rfl, rfl, trivial⟩ au1 ?_
   · exact (kindA_yes hi h1).symm
  refine wpM.skip ?_
  refine QM.meetK (_) ⟨au2, rfl, rfl, rfl, trivial⟩ au1 ?_
  · exact (kindA_no h1).symm
 rintro kd rfl
 change QM _ _ _ _ _ ((b4, .cells (fA default).toArray 123 (0, 0)) :: []) _ _ _
 refine QM.then ?_
 refine wpM.seq ?_
 refine wpM.seq (wpM.region ?_)
 refine LM.mv rfl ?_
 refine LM.val (ov_eql rfl rfl) ?_
 refine LM.nil (QM.sub (e' := [(0, _), (1, _), (4, _), (7, _), (25, _)]) ⟨rfl, rfl, rfl, rfl, rfl, trivial⟩ (QM.then ?_))
 refine wpM.condD rfl (fun h2 => ?_) (fun h2 => ?_)
 ·
  refine wpM.seq (wpM.region ?_)
  refine LM.val (ov_build (cs := #[_, _, _, _, _]) rfl (by first | rfl | kernel_rfl)) ?_
  refine LM.mv rfl ?_
  refine LM.stW Tryz.sizeOf123 rfl rfl rfl rfl au7 au8 ?_
  refine LM.as rfl ?_
  refine LM.as rfl ?_
  refine LM.nil (QM.sub (e' := [(4, _), (5, _), (6, _)]) ⟨rfl, rfl, rfl, trivial⟩ (QM.then ?_))
  refine wpM.ret ?_
  refine QM.then_ret ?_
  refine QM.leaveCs (ds := ([])) (.inl rfl) [.cell 4 123, .tmp 5, .tmp 6] Tryz.results111 hd_nil (rc_w rfl Tryz.isAgg123 Tryz.sizeOf123 rfl (rc_tmp rfl (rc_tmp rfl rc_nil))) ?_
  intro w' hm' hc'
  exact ⟨by rw [oneA_0 (by omega)]; rfl, hc'⟩
 refine wpM.skip ?_
 refine QM.then (wpM.seq (wpM.region ?_))
 refine LM.mv rfl ?_
 refine LM.val (ov_add64 rfl rfl (by omega)) ?_
 refine LM.as rfl ?_
 refine LM.nil (QM.sub (e' := [(0, _), (1, _), (4, _), (7, _)]) ⟨rfl, rfl, rfl, rfl, trivial⟩ (QM.then (wpM.seq (wpM.region ?_))))
 refine LM.alloc Tryz.zeroValue198 rfl (fun b8 hb8 => ?_)
 refine LM.nil (QM.sub (e' := [(0, _), (1, _), (4, _), (7, _), (8, _)]) ⟨rfl, rfl, rfl, rfl, rfl, trivial⟩ (QM.then ?_))
 refine wpM.seq ?_
 refine wpM.seq (wpM.region ?_)
 refine LM.mv rfl ?_
 refine LM.callE (oc_call (enters_fn Tryz.func120 (by kernel_rfl) rfl) rfl) (fun w hm hc hg => many_spec _ w) ?_
 refine LM.mv rfl ?_
 refine LM.nil (QM.sub (e' := [(0, _), (1, _), (4, _), (7, _), (8, _), (31, _), (32, _)]) ⟨rfl, rfl, rfl, rfl, rfl, rfl, rfl, trivial⟩ (QM.then ?_))
 refine wpM.block ?_
 refine wpM.loopK0 (α := Nat × Nat × List Int) (fun ⟨k, j, xs⟩ => [(1, .int .i64 (j : Nat)), (32, .int .i64 (k : Nat))]) [(0, _), (4, _), (7, _), (8, _), (31, _)] (fun ⟨k, j, xs⟩ => (b8, .cells (arr fI xs []) 198 (0, 0)) :: (b4, .cells (fA default).toArray 123 (0, 0)) :: []) (fun ⟨k, j, xs⟩ => k ≤ manyA (kindA ws i) ∧ j ≤ ws.length ∧ xs.length = 4 ∧ numG ws (manyA (kindA ws i) - k) j k xs = numK ws i) (fun ⟨k, j, xs⟩ => manyA (kindA ws i) - k) ((0, i + 1, zer4)) ⟨au2, au2, rfl, rfl, rfl, rfl, rfl, trivial⟩ au1 ⟨Nat.zero_le _, by omega, rfl, rfl⟩ ?_
 rintro ⟨k, j, xs⟩ ⟨hkm, hj, hx4, hN⟩
 change wpM _ _ _ _ _ _ _ ((b8, .cells (arr fI xs []) 198 (0, 0)) :: (b4, .cells (fA default).toArray 123 (0, 0)) :: []) _ _ _
 have hm4 := manyA_le (kindA ws i)
 refine wpM.seq (wpM.region ?_)
 refine LM.val (ov_lss rfl rfl) ?_
 refine LM.nil (QM.sub (e' := [(0, _), (1, _), (4, _), (7, _), (8, _), (31, _), (32, _), (33, _)]) ⟨rfl, rfl, rfl, rfl, rfl, rfl, rfl, rfl, trivial⟩ (QM.then ?_))
 refine wpM.seq ?_
 refine wpM.condD rfl (fun h3 => ?_) (fun h3 => ?_)
 ·
  refine wpM.skip ?_
  refine QM.then ?_
  refine wpM.seq ?_
  refine wpM.block ?_
  refine wpM.seq (wpM.region ?_)
  refine LM.mv rfl ?_
  refine LM.as rfl ?_
  refine LM.nil (QM.sub (e' := [(0, _), (1, _), (4, _), (7, _), (8, _), (9, _), (31, _), (32, _)]) ⟨rfl, rfl, rfl, rfl, rfl, rfl, rfl, rfl, trivial⟩ (QM.then ?_))
  refine wpM.seq ?_
  refine wpM.seq ?_
  refine wpM.joinK (α := Bool) (fun q => [(46, .bool q)]) [(0, _), (1, _), (4, _), (7, _), (8, _), (9, _), (31, _), (32, _)] (fun q => (b8, .cells (arr fI xs []) 198 (0, 0)) :: (b4, .cells (fA default).toArray 123 (0, 0)) :: []) (fun q => q = (decide (ws.length ≤ j) || decide ((ws.getD j default).k ≠ 2))) ⟨rfl, rfl, rfl, rfl, rfl, rfl, rfl, rfl, trivial⟩ ?_ ?_
  ·
   refine wpM.region ?_
   refine LM.mv rfl ?_
   refine LM.mv rfl ?_
   refine LM.val (ov_len Tryz.underlying23 rfl) ?_
   refine LM.val (ov_geq rfl rfl) ?_
   refine LM.mv rfl ?_
   refine LM.splitD (t := 39) rfl (fun h4 => ?_) (fun h4 => ?_)
   ·
    refine LM.dr 39 rfl rfl rfl ?_
    refine LM.dr 39 rfl rfl rfl ?_
    refine LM.dr 39 rfl rfl rfl ?_
    refine LM.dr 39 rfl rfl rfl ?_
    refine LM.dr 39 rfl rfl rfl ?_
    refine LM.dr 39 rfl rfl rfl ?_
    refine LM.val (ov_pickT rfl rfl) ?_
    refine LM.nil (QM.sub (e' := [(0, _), (1, _), (4, _), (7, _), (8, _), (9, _), (31, _), (32, _), (46, _)]) ⟨rfl, rfl, rfl, rfl, rfl, rfl, rfl, rfl, rfl, trivial⟩ ?_)
    refine QM.meetK (_) ⟨au2, rfl, rfl, rfl, rfl, rfl, rfl, rfl, rfl, trivial⟩ au1 ?_
    · rw [decide_eq_true (show ws.length ≤ j by omega), Bool.true_or]
   refine LM.sp 39 rfl rfl rfl ?_
   refine LM.mv rfl ?_
   refine LM.sp 39 rfl rfl rfl ?_
   refine LM.mv rfl ?_
   refine LM.sp 39 rfl rfl rfl ?_
   refine LM.val (ov_idxSN au6 Tryz.underlying23 Tryz.sizeOf65 rfl rfl (by omega)) ?_
   refine LM.sp 39 rfl rfl rfl ?_
   refine LM.val (ov_field Tryz.underlying65 rfl Tryz.sizeOf3 rfl (k := 0) rfl rfl) ?_
   refine LM.sp 39 rfl rfl rfl ?_
   first | refine LM.rd (om_slE (j := 0) (by assumption) (by intro _; rfl) Tryz.isAgg3 rfl rfl au3 rfl (by rfl)) ?_ | refine LM.rdC (om_srE (j := 0) (by assumption) Tryz.isAgg3 rfl rfl au3 (by rfl) (by rfl) id) ?_ | refine LM.rd (om_ld Tryz.isAgg3 rfl rfl) ?_
   refine LM.sp 39 rfl rfl rfl ?_
   refine LM.val (ov_neq rfl rfl) ?_
   refine LM.val (ov_pickF rfl rfl) ?_
   refine LM.nil (QM.sub (e' := [(0, _), (1, _), (4, _), (7, _), (8, _), (9, _), (31, _), (32, _), (46, _)]) ⟨rfl, rfl, rfl, rfl, rfl, rfl, rfl, rfl, rfl, trivial⟩ ?_)
   refine QM.meetK (_) ⟨au2, rfl, rfl, rfl, rfl, rfl, rfl, rfl, rfl, trivial⟩ au1 ?_
   · rw [decide_eq_false (show ¬ ws.length ≤ j by omega), Bool.false_or]
  rintro q hq
  change QM _ _ _ _ _ ((b8, .cells (arr fI xs []) 198 (0, 0)) :: (b4, .cells (fA default).toArray 123 (0, 0)) :: []) _ _ _
  refine QM.then ?_
  first | refine wpM.condD rfl (fun h5 => ?_) (fun h5 => ?_) | refine wpM.condB rfl (fun h5 => ?_) (fun h5 => ?_)
  ·
   refine wpM.seq (wpM.region ?_)
   refine LM.val (ov_build (cs := #[_, _, _, _, _]) rfl (by first | rfl | kernel_rfl)) ?_
   refine LM.mv rfl ?_
   refine LM.stW Tryz.sizeOf123 rfl rfl rfl rfl au7 au8 ?_
   refine LM.as rfl ?_
   refine LM.as rfl ?_
   refine LM.nil (QM.sub (e' := [(4, _), (5, _), (6, _)]) ⟨rfl, rfl, rfl, trivial⟩ (QM.then ?_))
   refine wpM.ret ?_
   refine QM.then_ret ?_
   refine QM.block_ret ?_
   refine QM.then_ret ?_
   refine QM.then_ret ?_
   refine QM.block_ret ?_
   refine QM.then_ret ?_
   refine QM.leaveCs (ds := ([])) (.inl rfl) [.cell 4 123, .tmp 5, .tmp 6] Tryz.results111 hd_nil (rc_w rfl Tryz.isAgg123 Tryz.sizeOf123 rfl (rc_tmp rfl (rc_tmp rfl rc_nil))) ?_
   intro w' hm' hc'
   have hNK : numK ws i = (j, 5, xs) := (by rw [← hN, numG_stop (by omega) (hq.symm.trans h5)]); exact ⟨by rw [oneA_n h2 hNK]; rfl, hc'⟩
  have hjn : j < ws.length := (by have h := hq.symm.trans h5; simp only [Bool.or_eq_false_iff, decide_eq_false_iff_not] at h; omega)
  refine wpM.skip ?_
  refine QM.then (wpM.seq (wpM.region ?_))
  refine LM.mv rfl ?_
  refine LM.mv rfl ?_
  refine LM.mv rfl ?_
  refine LM.val (ov_idxSN au6 Tryz.underlying23 Tryz.sizeOf65 rfl rfl (by omega)) ?_
  refine LM.val (ov_field Tryz.underlying65 rfl Tryz.sizeOf3 rfl (k := 2) rfl rfl) ?_
  first | refine LM.rd (om_slE (j := 2) (by assumption) (by intro _; rfl) Tryz.isAgg3 rfl rfl au3 rfl (by rfl)) ?_ | refine LM.rdC (om_srE (j := 2) (by assumption) Tryz.isAgg3 rfl rfl au3 (by rfl) (by rfl) id) ?_ | refine LM.rd (om_ld Tryz.isAgg3 rfl rfl) ?_
  refine LM.val (ov_idxAN Tryz.underlying198 Tryz.sizeOf3 rfl rfl (by omega)) ?_
  refine LM.stE1 (f := fI) _ (by intro _; rfl) Tryz.sizeOf3 rfl rfl rfl rfl (getq 0 (by omega)) rfl rfl rfl au8 ?_
  refine LM.nil (QM.sub (e' := [(0, _), (1, _), (4, _), (7, _), (8, _), (31, _), (32, _)]) ⟨rfl, rfl, rfl, rfl, rfl, rfl, rfl, trivial⟩ (QM.then (wpM.region ?_)))
  refine LM.mv rfl ?_
  refine LM.val (ov_add64 rfl rfl (by omega)) ?_
  refine LM.as rfl ?_
  refine LM.nil (QM.sub (e' := [(0, _), (1, _), (4, _), (7, _), (8, _), (31, _), (32, _)]) ⟨rfl, rfl, rfl, rfl, rfl, rfl, rfl, trivial⟩ ?_)
  refine QM.block_normal ?_
  refine QM.then (wpM.region ?_)
  refine LM.val (ov_add64 rfl rfl (by omega)) ?_
  refine LM.mv rfl ?_
  refine LM.nil (QM.sub (e' := [(0, _), (1, _), (4, _), (7, _), (8, _), (31, _), (32, _)]) ⟨rfl, rfl, rfl, rfl, rfl, rfl, rfl, trivial⟩ ?_)
  refine QM.againK ((k + 1, j + 1, xs.set k (ws.getD j default).n)) ⟨au2, au2, rfl, rfl, rfl, rfl, rfl, trivial⟩ au1 (fun _ h => h) ?_ ?_
  · exact ⟨by omega, by omega, by simpa using hx4, by rw [show manyA (kindA ws i) - (k + 1) = manyA (kindA ws i) - k - 1 by omega, ← numG_next (by omega) (hq.symm.trans h5)]; exact hN⟩
  · first | omega | (dsimp only; omega)
 refine wpM.exit ?_
 refine QM.then_exit ?_
 refine QM.then_exit ?_
 refine QM.block_hit ?_
 refine QM.then ?_
 refine wpM.seq ?_
 refine wpM.seq ?_
 refine wpM.joinK (α := Bool) (fun q => [(78, .bool q)]) [(1, _), (4, _), (7, _), (8, _)] (fun q => (b8, .cells (arr fI xs []) 198 (0, 0)) :: (b4, .cells (fA default).toArray 123 (0, 0)) :: []) (fun q => q = !isR ws j 3 [59]) ⟨rfl, rfl, rfl, rfl, trivial⟩ ?_ ?_
 ·
  refine wpM.region ?_
  refine LM.mv rfl ?_
  refine LM.mv rfl ?_
  refine LM.val (ov_len Tryz.underlying23 rfl) ?_
  refine LM.val (ov_geq rfl rfl) ?_
  refine LM.mv rfl ?_
  refine LM.splitD (t := 63) rfl (fun h6 => ?_) (fun h6 => ?_)
  ·
   refine LM.dr 63 rfl rfl rfl ?_
   refine LM.dr 63 rfl rfl rfl ?_
   refine LM.dr 63 rfl rfl rfl ?_
   refine LM.dr 63 rfl rfl rfl ?_
   refine LM.dr 63 rfl rfl rfl ?_
   refine LM.dr 63 rfl rfl rfl ?_
   refine LM.val (ov_pickT rfl rfl) ?_
   refine LM.mv rfl ?_
   refine LM.dr 71 rfl rfl rfl ?_
   refine LM.dr 71 rfl rfl rfl ?_
   refine LM.dr 71 rfl rfl rfl ?_
   refine LM.dr 71 rfl rfl rfl ?_
   refine LM.dr 71 rfl rfl rfl ?_
   refine LM.dr 71 rfl rfl rfl ?_
   refine LM.val (ov_pickT rfl rfl) ?_
   refine LM.nil (QM.sub (e' := [(1, _), (4, _), (7, _), (8, _), (78, _)]) ⟨rfl, rfl, rfl, rfl, rfl, trivial⟩ ?_)
   refine QM.meetK (_) ⟨au2, rfl, rfl, rfl, rfl, trivial⟩ au1 ?_
   · unfold isR; rw [decide_eq_false (show ¬ j < ws.length by omega)]; rfl
  refine LM.sp 63 rfl rfl rfl ?_
  refine LM.mv rfl ?_
  refine LM.sp 63 rfl rfl rfl ?_
  refine LM.mv rfl ?_
  refine LM.sp 63 rfl rfl rfl ?_
  refine LM.val (ov_idxSN au6 Tryz.underlying23 Tryz.sizeOf65 rfl rfl (by omega)) ?_
  refine LM.sp 63 rfl rfl rfl ?_
  refine LM.val (ov_field Tryz.underlying65 rfl Tryz.sizeOf3 rfl (k := 0) rfl rfl) ?_
  refine LM.sp 63 rfl rfl rfl ?_
  first | refine LM.rd (om_slE (j := 0) (by assumption) (by intro _; rfl) Tryz.isAgg3 rfl rfl au3 rfl (by rfl)) ?_ | refine LM.rdC (om_srE (j := 0) (by assumption) Tryz.isAgg3 rfl rfl au3 (by rfl) (by rfl) id) ?_ | refine LM.rd (om_ld Tryz.isAgg3 rfl rfl) ?_
  refine LM.sp 63 rfl rfl rfl ?_
  refine LM.val (ov_neq rfl rfl) ?_
  refine LM.val (ov_pickF rfl rfl) ?_
  refine LM.mv rfl ?_
  refine LM.splitD (t := 71) rfl (fun h7 => ?_) (fun h7 => ?_)
  ·
   refine LM.dr 71 rfl rfl rfl ?_
   refine LM.dr 71 rfl rfl rfl ?_
   refine LM.dr 71 rfl rfl rfl ?_
   refine LM.dr 71 rfl rfl rfl ?_
   refine LM.dr 71 rfl rfl rfl ?_
   refine LM.dr 71 rfl rfl rfl ?_
   refine LM.val (ov_pickT rfl rfl) ?_
   refine LM.nil (QM.sub (e' := [(1, _), (4, _), (7, _), (8, _), (78, _)]) ⟨rfl, rfl, rfl, rfl, rfl, trivial⟩ ?_)
   refine QM.meetK (_) ⟨au2, rfl, rfl, rfl, rfl, trivial⟩ au1 ?_
   · unfold isR; rw [decide_eq_true (show j < ws.length by omega), decide_eq_false (show ¬ (ws.getD j default).k = 3 by omega)]; rfl
  refine LM.sp 71 rfl rfl rfl ?_
  refine LM.mv rfl ?_
  refine LM.sp 71 rfl rfl rfl ?_
  refine LM.mv rfl ?_
  refine LM.sp 71 rfl rfl rfl ?_
  refine LM.val (ov_idxSN au6 Tryz.underlying23 Tryz.sizeOf65 rfl rfl (by omega)) ?_
  refine LM.sp 71 rfl rfl rfl ?_
  refine LM.val (ov_field Tryz.underlying65 rfl Tryz.sizeOf9 rfl (k := 1) rfl rfl) ?_
  refine LM.sp 71 rfl rfl rfl ?_
  first | refine LM.rd (om_slE (j := 1) (by assumption) (by intro _; rfl) Tryz.isAgg9 rfl rfl au3 rfl (by rfl)) ?_ | refine LM.rdC (om_srE (j := 1) (by assumption) Tryz.isAgg9 rfl rfl au3 (by rfl) (by rfl) id) ?_ | refine LM.rd (om_ld Tryz.isAgg9 rfl rfl) ?_
  refine LM.sp 71 rfl rfl rfl ?_
  refine LM.val (ov_sneqL rfl rfl) ?_
  refine LM.val (ov_pickF rfl rfl) ?_
  refine LM.nil (QM.sub (e' := [(1, _), (4, _), (7, _), (8, _), (78, _)]) ⟨rfl, rfl, rfl, rfl, rfl, trivial⟩ ?_)
  refine QM.meetK (_) ⟨au2, rfl, rfl, rfl, rfl, trivial⟩ au1 ?_
  · unfold isR; rw [decide_eq_true (show j < ws.length by omega), decide_eq_true (show (ws.getD j default).k = 3 by omega)]; simp only [Bool.true_and, decide_not]
 rintro q hq
 change QM _ _ _ _ _ ((b8, .cells (arr fI xs []) 198 (0, 0)) :: (b4, .cells (fA default).toArray 123 (0, 0)) :: []) _ _ _
 refine QM.then ?_
 first | refine wpM.condD rfl (fun h8 => ?_) (fun h8 => ?_) | refine wpM.condB rfl (fun h8 => ?_) (fun h8 => ?_)
 ·
  refine wpM.seq (wpM.region ?_)
  refine LM.val (ov_build (cs := #[_, _, _, _, _]) rfl (by first | rfl | kernel_rfl)) ?_
  refine LM.mv rfl ?_
  refine LM.stW Tryz.sizeOf123 rfl rfl rfl rfl au7 au8 ?_
  refine LM.as rfl ?_
  refine LM.as rfl ?_
  refine LM.nil (QM.sub (e' := [(4, _), (5, _), (6, _)]) ⟨rfl, rfl, rfl, trivial⟩ (QM.then ?_))
  refine wpM.ret ?_
  refine QM.then_ret ?_
  refine QM.leaveCs (ds := ([])) (.inl rfl) [.cell 4 123, .tmp 5, .tmp 6] Tryz.results111 hd_nil (rc_w rfl Tryz.isAgg123 Tryz.sizeOf123 rfl (rc_tmp rfl (rc_tmp rfl rc_nil))) ?_
  intro w' hm' hc'
  have hNK : numK ws i = (j, 0, xs) := (by rw [← hN, show manyA (kindA ws i) - k = 0 by omega]; rfl); exact ⟨by rw [oneA_s h2 hNK (by simpa using hq.symm.trans h8)]; rfl, hc'⟩
 refine wpM.skip ?_
 refine QM.then (wpM.seq (wpM.region ?_))
 refine LM.mv rfl ?_
 first | refine LM.val (ov_idxAN Tryz.underlying198 Tryz.sizeOf3 rfl rfl (by omega)) ?_ | refine LM.val (ov_idxA Tryz.underlying198 Tryz.sizeOf3 rfl rfl (by omega)) ?_
 refine LM.rd (om_ldE1 (by intro _; rfl) Tryz.isAgg3 rfl rfl rfl (getq 0 (by omega)) (by rfl)) ?_
 first | refine LM.val (ov_idxAN Tryz.underlying198 Tryz.sizeOf3 rfl rfl (by omega)) ?_ | refine LM.val (ov_idxA Tryz.underlying198 Tryz.sizeOf3 rfl rfl (by omega)) ?_
 refine LM.rd (om_ldE1 (by intro _; rfl) Tryz.isAgg3 rfl rfl rfl (getq 0 (by omega)) (by rfl)) ?_
 first | refine LM.val (ov_idxAN Tryz.underlying198 Tryz.sizeOf3 rfl rfl (by omega)) ?_ | refine LM.val (ov_idxA Tryz.underlying198 Tryz.sizeOf3 rfl rfl (by omega)) ?_
 refine LM.rd (om_ldE1 (by intro _; rfl) Tryz.isAgg3 rfl rfl rfl (getq 0 (by omega)) (by rfl)) ?_
 first | refine LM.val (ov_idxAN Tryz.underlying198 Tryz.sizeOf3 rfl rfl (by omega)) ?_ | refine LM.val (ov_idxA Tryz.underlying198 Tryz.sizeOf3 rfl rfl (by omega)) ?_
 refine LM.rd (om_ldE1 (by intro _; rfl) Tryz.isAgg3 rfl rfl rfl (getq 0 (by omega)) (by rfl)) ?_
 refine LM.val (ov_build (cs := #[_, _, _, _, _]) rfl (by first | rfl | kernel_rfl)) ?_
 refine LM.mv rfl ?_
 refine LM.val (ov_add64 rfl rfl (by omega)) ?_
 refine LM.stW Tryz.sizeOf123 rfl rfl rfl rfl au7 au8 ?_
 refine LM.as rfl ?_
 refine LM.as rfl ?_
 refine LM.nil (QM.sub (e' := [(4, _), (5, _), (6, _)]) ⟨rfl, rfl, rfl, trivial⟩ (QM.then ?_))
 refine wpM.ret ?_
 refine QM.leaveCs (ds := ([])) (.inl rfl) [.cell 4 123, .tmp 5, .tmp 6] Tryz.results111 hd_nil (rc_w rfl Tryz.isAgg123 Tryz.sizeOf123 rfl (rc_tmp rfl (rc_tmp rfl rc_nil))) ?_
 intro w' hm' hc'
 have hNK : numK ws i = (j, 0, xs) := (by rw [← hN, show manyA (kindA ws i) - k = 0 by omega]; rfl); exact ⟨by rw [oneA_ok h2 hNK (by simpa using hq.symm.trans h8)]; rfl, hc'⟩
set_option maxRecDepth 100000 in
theorem begins_spec (x : Wrd) (w : World) : Ret Tryz.prog 110 #[.agg (fW x).toArray] w (fun v w' => v = .bool (decide (x.k = 1) && decide (kindAT x.t ≠ 0)) ∧ Ext w w') := by
 refine Ret.enterM (l := [.agg (fW x).toArray]) Tryz.func110 rfl Tryz.ntmps110 rfl ([]) (no) (Mem.nil w) ?_
 refine wpM.seq (wpM.region ?_)
 refine LM.box rfl rfl (fun b1 hb1 => ?_)
 refine LM.as rfl ?_
 refine LM.nil (QM.sub (e' := [(1, _)]) ⟨rfl, trivial⟩ (QM.then ?_))
 refine wpM.seq ?_
 refine wpM.draw [(0, 0), (1, 1), (2, 0), (3, 0), (5, 0), (6, 1), (4, 2), (7, 2), (8, 0), (9, 0), (10, 0)] (by kernel_rfl) (by kernel_rfl) ?_
 refine LD.val rfl rfl (ov_field Tryz.underlying65 rfl Tryz.sizeOf3 rfl (k := 0) rfl rfl) ?_
 refine LD.rd rfl rfl (om_ld Tryz.isAgg3 rfl rfl) ?_
 refine LD.val rfl rfl (ov_eql rfl rfl) ?_
 refine LD.val rfl rfl (ov_move rfl) ?_
 refine LD.splitD (t := 6) rfl (fun h1 => ?_) (fun h1 => ?_)
 ·
  refine LD.val rfl ⟨6, _, rfl, rfl, rfl⟩ (ov_field Tryz.underlying65 rfl Tryz.sizeOf9 rfl (k := 1) rfl rfl) ?_
  refine LD.rd rfl ⟨6, _, rfl, rfl, rfl⟩ (om_ld Tryz.isAgg9 rfl rfl) ?_
  refine LD.cS rfl ⟨6, _, rfl, rfl, rfl⟩ (oc_call (enters_fn Tryz.func147 (by kernel_rfl) rfl) rfl) (fun w hm hc hg => anames_spec w) (fun ad7 n7 cap7 m7 hn7 hs7 => ?_)
  refine LD.callE rfl ⟨6, _, rfl, rfl, rfl⟩ (oc_call (enters_fn Tryz.func146 (by kernel_rfl) rfl) rfl) (fun w hm hc hg => index_str _ w hn7 (hs7.srM (by intro _; rfl) hm) (by decide)) ?_
  refine LD.val rfl ⟨6, _, rfl, rfl, rfl⟩ (ov_gtr rfl rfl) ?_
  refine LD.val rfl rfl (ov_pickT rfl rfl) ?_
  refine LD.val rfl rfl (ov_assign rfl) ?_
  refine LD.nil ?_
  refine QM.sub (e' := [(2, _)]) ⟨rfl, trivial⟩ (QM.then ?_)
  refine wpM.ret ?_
  refine QM.leave (.inl rfl) [.tmp 2] Tryz.results110 rfl ?_
  intro w' hm' hc' hg'
  refine ⟨?_, hc'⟩; rw [decide_eq_true h1, Bool.true_and]; show Value.bool (decide (_ > 0)) = _; rw [mx0_pos]; rfl
 refine LD.drop rfl rfl ⟨6, _, rfl, rfl, rfl⟩ ?_
 refine LD.drop rfl rfl ⟨6, _, rfl, rfl, rfl⟩ ?_
 refine LD.drop rfl rfl ⟨6, _, rfl, rfl, rfl⟩ ?_
 refine LD.drop rfl rfl ⟨6, _, rfl, rfl, rfl⟩ ?_
 refine LD.drop rfl rfl ⟨6, _, rfl, rfl, rfl⟩ ?_
 refine LD.val rfl rfl (ov_pickF rfl rfl) ?_
 refine LD.val rfl rfl (ov_assign rfl) ?_
 refine LD.nil ?_
 refine QM.sub (e' := [(2, _)]) ⟨rfl, trivial⟩ (QM.then ?_)
 refine wpM.ret ?_
 refine QM.leave (.inl rfl) [.tmp 2] Tryz.results110 rfl ?_
 intro w' hm' hc' hg'
 refine ⟨?_, hc'⟩; rw [decide_eq_false h1]; rfl
set_option maxRecDepth 100000 in
set_option maxHeartbeats 1000000 in
theorem aparse_spec {ws : List Wrd} {ad : Option Addr} {n cap : Nat} (p : Int) (w : World) (hn : n = ws.length) (hx : ws.length ≤ 1000000000) (hl : Sr fW 4 ws (.slice ad n cap) w) : Ret Tryz.prog 68 #[.slice ad n cap, .int .i64 p] w (fun v w' => Ext w w' ∧ ∃ m, AcT (actsO ws p) w.heap.size v m ∧ Mem w' m ∧ ∀ p ∈ m, w.heap.size ≤ p.1) := by
 refine Ret.enterM (l := [.slice ad n cap, .int .i64 p]) Tryz.func68 rfl Tryz.ntmps68 rfl ([]) (no) (Mem.nil w) ?_
 refine wpM.seq (wpM.region ?_)
 refine LM.as rfl ?_
 refine LM.as rfl ?_
 refine LM.as rfl ?_
 refine LM.nil (QM.sub (e' := [(0, _), (1, _)]) ⟨rfl, rfl, trivial⟩ (QM.then ?_))
 refine wpM.seq ?_
 refine wpM.seq (wpM.region ?_)
 refine LM.mv rfl ?_
 refine LM.val (ov_lss rfl rfl) ?_
 refine LM.mv rfl ?_
 refine LM.splitD (t := 13) rfl (fun h1 => ?_) (fun h1 => ?_)
 ·
  refine LM.dr 13 rfl rfl rfl ?_
  refine LM.dr 13 rfl rfl rfl ?_
  refine LM.dr 13 rfl rfl rfl ?_
  refine LM.dr 13 rfl rfl rfl ?_
  refine LM.val (ov_pickT rfl rfl) ?_
  refine LM.nil (QM.sub (e' := [(0, _), (1, _), (18, _)]) ⟨rfl, rfl, rfl, trivial⟩ (QM.then ?_))
  refine wpM.condT rfl ?_
  refine wpM.seq (wpM.region ?_)
  refine LM.as rfl ?_
  refine LM.as rfl ?_
  refine LM.as rfl ?_
  refine LM.nil (QM.sub (e' := [(4, _), (5, _), (6, _)]) ⟨rfl, rfl, rfl, trivial⟩ (QM.then ?_))
  refine wpM.ret ?_
  refine QM.then_ret ?_
  refine QM.leave (.inl rfl) [.tmp 4, .tmp 5, .tmp 6] Tryz.results68 rfl ?_
  intro w' hm' hc' hg'
  have hpar : actsO ws p = ([], 0, 5) := (by unfold actsO; rw [if_pos (by omega)]); rw [hpar]; exact ⟨hc', [], ⟨none, 0, 0, rfl, rfl, .nil _ _ _ _⟩, Mem.nil _, fun p hp => by cases hp⟩
 refine LM.sp 13 rfl rfl rfl ?_
 refine LM.mv rfl ?_
 refine LM.sp 13 rfl rfl rfl ?_
 refine LM.mv rfl ?_
 refine LM.sp 13 rfl rfl rfl ?_
 refine LM.val (ov_len Tryz.underlying23 rfl) ?_
 refine LM.sp 13 rfl rfl rfl ?_
 refine LM.val (ov_gtr rfl rfl) ?_
 refine LM.val (ov_pickF rfl rfl) ?_
 refine LM.nil (QM.sub (e' := [(0, _), (1, _), (18, _)]) ⟨rfl, rfl, rfl, trivial⟩ (QM.then ?_))
 refine wpM.condD rfl (fun h2 => ?_) (fun h2 => ?_)
 ·
  refine wpM.seq (wpM.region ?_)
  refine LM.as rfl ?_
  refine LM.as rfl ?_
  refine LM.as rfl ?_
  refine LM.nil (QM.sub (e' := [(4, _), (5, _), (6, _)]) ⟨rfl, rfl, rfl, trivial⟩ (QM.then ?_))
  refine wpM.ret ?_
  refine QM.then_ret ?_
  refine QM.leave (.inl rfl) [.tmp 4, .tmp 5, .tmp 6] Tryz.results68 rfl ?_
  intro w' hm' hc' hg'
  have hpar : actsO ws p = ([], 0, 5) := (by unfold actsO; rw [if_pos (by omega)]); rw [hpar]; exact ⟨hc', [], ⟨none, 0, 0, rfl, rfl, .nil _ _ _ _⟩, Mem.nil _, fun p hp => by cases hp⟩
 obtain ⟨i0, rfl⟩ : ∃ i0 : Nat, p = (i0 : Nat) := ⟨p.toNat, by omega⟩; have hi0 : i0 ≤ ws.length := (by omega)
 refine wpM.skip ?_
 refine QM.then (wpM.seq (wpM.region ?_))
 refine LM.as rfl ?_
 refine LM.nil (QM.sub (e' := [(0, _), (1, _), (7, _)]) ⟨rfl, rfl, rfl, trivial⟩ (QM.then ?_))
 refine wpM.seq ?_
 refine wpM.block ?_
 refine wpM.loopK0 (α := Nat × List Act × Option Addr × Nat × Nat × Mem0) (fun ⟨i, out, ado, no, capo, mo⟩ => [(1, .int .i64 (i : Nat)), (7, .slice ado no capo)]) [(0, _)] (fun ⟨i, out, ado, no, capo, mo⟩ => mo ++ []) (fun ⟨i, out, ado, no, capo, mo⟩ => i ≤ ws.length ∧ loopA ws i out = loopA ws i0 [] ∧ no = out.length ∧ Sl fA 123 5 w.heap.size out (.slice ado no capo) mo ∧ out.length ≤ 4000) (fun ⟨i, out, ado, no, capo, mo⟩ => ws.length - i) ((i0, [], none, 0, 0, [])) ⟨au2, au2, rfl, trivial⟩ au1 ⟨by omega, rfl, rfl, .nil _ _ _ _, by decide⟩ ?_
 rintro ⟨i, out, ado, no, capo, mo⟩ ⟨hi, hL, hno, hso, hol⟩
 change wpM _ _ _ _ _ _ _ (mo ++ []) _ _ _
 refine wpM.seq ?_
 refine wpM.seq (wpM.region ?_)
 refine LM.mv rfl ?_
 refine LM.mv rfl ?_
 refine LM.val (ov_len Tryz.underlying23 rfl) ?_
 refine LM.val (ov_lss rfl rfl) ?_
 refine LM.nil (QM.sub (e' := [(0, _), (1, _), (7, _), (22, _)]) ⟨rfl, rfl, rfl, rfl, trivial⟩ (QM.then ?_))
 refine wpM.condD rfl (fun h3 => ?_) (fun h3 => ?_)
 ·
  have hilt : i < ws.length := (by omega)
  refine wpM.skip ?_
  refine QM.then ?_
  refine wpM.block ?_
  refine wpM.seq ?_
  refine wpM.seq ?_
  refine wpM.joinK (α := Bool) (fun q => [(32, .bool q)]) [(0, _), (1, _), (7, _)] (fun q => mo ++ []) (fun q => q = fullA ws i out) ⟨rfl, rfl, rfl, trivial⟩ ?_ ?_
  ·
   refine wpM.region ?_
   refine LM.mv rfl ?_
   refine LM.val (ov_len Tryz.underlying47 rfl) ?_
   refine LM.val (ov_eql rfl rfl) ?_
   refine LM.mv rfl ?_
   refine LM.splitD (t := 26) rfl (fun h4 => ?_) (fun h4 => ?_)
   ·
    refine LM.sp 26 rfl rfl rfl ?_
    refine LM.mv rfl ?_
    refine LM.sp 26 rfl rfl rfl ?_
    refine LM.mv rfl ?_
    refine LM.sp 26 rfl rfl rfl ?_
    refine LM.val (ov_idxSN au6 Tryz.underlying23 Tryz.sizeOf65 rfl rfl (by omega)) ?_
    refine LM.sp 26 rfl rfl rfl ?_
    first | refine LM.rd (om_slA (by assumption) (by intro _; rfl) Tryz.isAgg65 Tryz.sizeOf65 rfl au3) ?_ | refine LM.rdC (om_srEA (by assumption) (by intro _; rfl) Tryz.isAgg65 Tryz.sizeOf65 rfl au3 id) ?_ | refine LM.rd (om_ldW Tryz.isAgg65 Tryz.sizeOf65 rfl rfl) ?_ | refine LM.rd (om_ldA Tryz.isAgg65 Tryz.sizeOf65 rfl (vs := [_, _, _, _]) rfl ⟨rfl, rfl, rfl, rfl, trivial⟩) ?_
    refine LM.sp 26 rfl rfl rfl ?_
    refine LM.callE (oc_call (enters_fn Tryz.func110 (by kernel_rfl) rfl) rfl) (fun w hm hc hg => begins_spec _ w) ?_
    refine LM.val (ov_pickT rfl rfl) ?_
    refine LM.nil (QM.sub (e' := [(0, _), (1, _), (7, _), (32, _)]) ⟨rfl, rfl, rfl, rfl, trivial⟩ ?_)
    refine QM.meetK (_) ⟨au2, rfl, rfl, rfl, trivial⟩ au1 ?_
    · unfold fullA; rw [decide_eq_true (show out.length = 4000 by omega), Bool.true_and]; exact begins_eq hilt
   refine LM.dr 26 rfl rfl rfl ?_
   refine LM.dr 26 rfl rfl rfl ?_
   refine LM.dr 26 rfl rfl rfl ?_
   refine LM.dr 26 rfl rfl rfl ?_
   refine LM.dr 26 rfl rfl rfl ?_
   refine LM.val (ov_pickF rfl rfl) ?_
   refine LM.nil (QM.sub (e' := [(0, _), (1, _), (7, _), (32, _)]) ⟨rfl, rfl, rfl, rfl, trivial⟩ ?_)
   refine QM.meetK (_) ⟨au2, rfl, rfl, rfl, trivial⟩ au1 ?_
   · unfold fullA; rw [decide_eq_false (show ¬ out.length = 4000 by omega), Bool.false_and]
  rintro q hq
  change QM _ _ _ _ _ (mo ++ []) _ _ _
  refine QM.then ?_
  first | refine wpM.condD rfl (fun h5 => ?_) (fun h5 => ?_) | refine wpM.condB rfl (fun h5 => ?_) (fun h5 => ?_)
  ·
   refine wpM.seq (wpM.region ?_)
   refine LM.mv rfl ?_
   refine LM.as rfl ?_
   refine LM.as rfl ?_
   refine LM.as rfl ?_
   refine LM.nil (QM.sub (e' := [(4, _), (5, _), (6, _)]) ⟨rfl, rfl, rfl, trivial⟩ (QM.then ?_))
   refine wpM.ret ?_
   refine QM.then_ret ?_
   refine QM.block_ret ?_
   refine QM.then_ret ?_
   refine QM.block_ret ?_
   refine QM.then_ret ?_
   refine QM.leave (.inl rfl) [.tmp 4, .tmp 5, .tmp 6] Tryz.results68 rfl ?_
   intro w' hm' hc' hg'
   rw [acts_nat hi0, ← hL, loopA_full hilt (hq.symm.trans h5)]; exact ⟨hc', [], ⟨none, 0, 0, rfl, rfl, .nil _ _ _ _⟩, Mem.nil _, fun p hp => by cases hp⟩
  refine wpM.skip ?_
  refine QM.then (wpM.seq (wpM.region ?_))
  refine LM.mv rfl ?_
  refine LM.mv rfl ?_
  refine LM.callE (oc_call (enters_fn Tryz.func111 (by kernel_rfl) rfl) rfl) (fun w hm hc hg => actone_spec i w hn hx (hl.ext hc) (by omega)) ?_
  refine LM.mv rfl ?_
  refine LM.val (ov_extract rfl rfl) ?_
  refine LM.val (ov_extract rfl rfl) ?_
  refine LM.val (ov_extract rfl rfl) ?_
  refine LM.alloc Tryz.zeroValue123 rfl (fun b8 hb8 => ?_)
  refine LM.stW Tryz.sizeOf123 rfl rfl rfl rfl au7 au8 ?_
  refine LM.as rfl ?_
  refine LM.as rfl ?_
  refine LM.nil (QM.sub (e' := [(0, _), (7, _), (8, _), (9, _), (10, _)]) ⟨rfl, rfl, rfl, rfl, rfl, trivial⟩ (QM.then ?_))
  refine wpM.seq ?_
  refine wpM.seq (wpM.region ?_)
  refine LM.mv rfl ?_
  refine LM.val (ov_neq rfl rfl) ?_
  refine LM.nil (QM.sub (e' := [(0, _), (7, _), (8, _), (9, _), (10, _), (42, _)]) ⟨rfl, rfl, rfl, rfl, rfl, rfl, trivial⟩ (QM.then ?_))
  refine wpM.condD rfl (fun h6 => ?_) (fun h6 => ?_)
  ·
   refine wpM.seq (wpM.region ?_)
   refine LM.mv rfl ?_
   refine LM.mv rfl ?_
   refine LM.as rfl ?_
   refine LM.as rfl ?_
   refine LM.as rfl ?_
   refine LM.nil (QM.sub (e' := [(4, _), (5, _), (6, _)]) ⟨rfl, rfl, rfl, trivial⟩ (QM.then ?_))
   refine wpM.ret ?_
   refine QM.then_ret ?_
   refine QM.block_ret ?_
   refine QM.then_ret ?_
   refine QM.block_ret ?_
   refine QM.then_ret ?_
   refine QM.leave (.inl rfl) [.tmp 4, .tmp 5, .tmp 6] Tryz.results68 rfl ?_
   intro w' hm' hc' hg'
   rw [acts_nat hi0, ← hL, loopA_bad hilt (hq.symm.trans h5) h6]; exact ⟨hc', [], ⟨none, 0, 0, rfl, rfl, .nil _ _ _ _⟩, Mem.nil _, fun p hp => by cases hp⟩
  refine wpM.skip ?_
  refine QM.then (wpM.seq (wpM.region ?_))
  refine LM.mv rfl ?_
  refine LM.rd (om_ldW Tryz.isAgg123 Tryz.sizeOf123 rfl rfl) ?_
  refine LM.single Tryz.underlying47 Tryz.sizeOf123 Tryz.zeroValue123 rfl rfl rfl rfl rfl (fun b47 hb47 => ?_)
  refine LM.app (a := (oneA ws i).1) Tryz.underlying47 Tryz.typeInfo123 rfl rfl rfl rfl rfl rfl rfl (by assumption) (by rfl) (by intro _; rfl) (by intro _ u hu; simp [fA] at hu; (repeat (first | (rcases hu with rfl | hu) | subst hu | rfl))) (by first | exact Nat.le_refl _ | omega) au9 (by first | omega | (unfold maxLen; omega)) (by simp only [Tryz.t123]; omega) (fun ad48 n48 cap48 m48 hn48 hs48 hin48 => ?_)
  refine LM.as rfl ?_
  refine LM.nil (QM.sub (e' := [(0, _), (7, _), (9, _)]) ⟨rfl, rfl, rfl, trivial⟩ (QM.then (wpM.region ?_)))
  refine LM.mv rfl ?_
  refine LM.as rfl ?_
  refine LM.nil (QM.sub (e' := [(0, _), (1, _), (7, _)]) ⟨rfl, rfl, rfl, trivial⟩ ?_)
  refine QM.block_normal ?_
  have hnx := loopA_next (out := out) hilt (hq.symm.trans h5) (by omega); have hlt := oneA_lt (ws := ws) (i := i) (by omega)
  refine QM.againK (((oneA ws i).2.1, out ++ [(oneA ws i).1], ad48, n48, cap48, m48)) ⟨au2, au2, rfl, trivial⟩ au1 (fun _ h => h) ?_ ?_
  · exact ⟨hlt.2, hnx.1.symm.trans hL, by rw [hn48]; simp, hs48, by simp; omega⟩
  · first | omega | (dsimp only; omega)
 refine wpM.exit ?_
 refine QM.then_exit ?_
 refine QM.then_exit ?_
 refine QM.block_hit ?_
 refine QM.then (wpM.seq (wpM.region ?_))
 refine LM.mv rfl ?_
 refine LM.mv rfl ?_
 refine LM.as rfl ?_
 refine LM.as rfl ?_
 refine LM.as rfl ?_
 refine LM.nil (QM.sub (e' := [(4, _), (5, _), (6, _)]) ⟨rfl, rfl, rfl, trivial⟩ (QM.then ?_))
 refine wpM.ret ?_
 refine QM.leave (.inl rfl) [.tmp 4, .tmp 5, .tmp 6] Tryz.results68 rfl ?_
 intro w' hm' hc' hg'
 rw [acts_nat hi0, ← hL, loopA_end (by omega)]; exact ⟨hc', mo, ⟨ado, no, capo, rfl, hno, hso⟩, hm'.pick _, fun p hp => Sl.ge hso p hp⟩
end Go.Eng
namespace Go.Eng
open Go Go.Proofs Go.RowKit
def kaccA (ws : List Wrd) (i : Nat) : Nat → Int
  | 0 => 0
  | m + 1 => if isR ws i 1 (acT ((m + 1 : Nat) : Int)) then ((m + 1 : Nat) : Int) else kaccA ws i m
theorem acT_nat {k : Nat} (h : k < 9) : acT (k : Int) = acW.getD k [] := by unfold acT; rw [if_pos (by omega), Int.toNat_natCast]
theorem kaccA_eq (ws : List Wrd) (i : Nat) : kaccA ws i 8 = kindA ws i := by
  unfold kindA
  cases hc : (decide (i < ws.length) && decide ((ws.getD i default).k = 1)) with
  | false =>
    rw [if_neg (by simp)]
    have : ∀ m, kaccA ws i m = 0 := by
      intro m
      induction m with
      | zero => rfl
      | succ m ih => unfold kaccA isR; rw [hc, Bool.false_and, if_neg (by simp), ih]
    exact this 8
  | true =>
    rw [if_pos rfl, ← refA_eq]
    have : ∀ m, m ≤ 8 → kaccA ws i m = refA (ws.getD i default).t m := by
      intro m
      induction m with
      | zero => intro _; rfl
      | succ m ih =>
        intro hm
        unfold kaccA refA isR; rw [hc, Bool.true_and, ih (by omega), acT_nat (by omega)]
        by_cases q : (ws.getD i default).t = acW.getD (m + 1) []
        · rw [if_pos q, if_pos (decide_eq_true q)]
        · rw [if_neg q, if_neg (by rw [decide_eq_false q]; simp)]
    exact this 8 (Nat.le_refl _)
theorem kaccA_t {ws : List Wrd} {i k : Nat} (h1 : 1 ≤ k) (h : isR ws i 1 (acT (k : Int)) = true) : kaccA ws i k = (k : Int) := by
  obtain ⟨m, rfl⟩ : ∃ m, k = m + 1 := ⟨k - 1, by omega⟩
  unfold kaccA; rw [if_pos h]
theorem kaccA_f {ws : List Wrd} {i k : Nat} (h1 : 1 ≤ k) (h : isR ws i 1 (acT (k : Int)) = false) : kaccA ws i k = kaccA ws i (k - 1) := by
  obtain ⟨m, rfl⟩ : ∃ m, k = m + 1 := ⟨k - 1, by omega⟩
  rw [show m + 1 - 1 = m by omega]
  conv => lhs; unfold kaccA
  rw [if_neg (by rw [h]; simp)]
theorem loopA_0 {ws : List Wrd} {i : Nat} {out : List Act} (h : i < ws.length) (h0 : kindA ws i = 0) : loopA ws i out = ([], (i : Int), 5) := by rw [loopA_step h, if_pos h0]
theorem loopA_6 {ws : List Wrd} {i : Nat} {out : List Act} (h : i < ws.length) (h0 : kindA ws i ≠ 0) (h1 : out.length = 4000) : loopA ws i out = ([], (i : Int), 6) := by rw [loopA_step h, if_neg h0, if_pos h1]
theorem loopA_e {ws : List Wrd} {i j : Nat} {out : List Act} (h : i < ws.length) (h0 : kindA ws i ≠ 0) (h1 : out.length ≠ 4000) (he : oneA ws i = (default, j, 5)) : loopA ws i out = ([], (j : Int), 5) := by rw [loopA_step h, if_neg h0, if_neg h1, if_pos (by rw [he]; exact (show (5 : Int) ≠ 0 by decide)), he]
theorem loopA_g {ws : List Wrd} {i j : Nat} {a : Act} {out : List Act} (h : i < ws.length) (h0 : kindA ws i ≠ 0) (h1 : out.length ≠ 4000) (he : oneA ws i = (a, j, 0)) : loopA ws i out = loopA ws j (out ++ [a]) := by rw [loopA_step h, if_neg h0, if_neg h1, if_neg (by rw [he]; exact fun q => q rfl), he]
set_option maxRecDepth 100000 in
set_option maxHeartbeats 1000000 in
theorem raparse_spec {ws : List Wrd} {ad : Option Addr} {n cap : Nat} (p : Int) (w : World) (hn : n = ws.length) (hx : ws.length ≤ 1000000000) (hl : Sr fW 4 ws (.slice ad n cap) w) : Ret Tryz.prog 70 #[.slice ad n cap, .int .i64 p] w (fun v w' => Ext w w' ∧ ∃ m, AcT (actsO ws p) w.heap.size v m ∧ Mem w' m ∧ ∀ p ∈ m, w.heap.size ≤ p.1) := by
 refine Ret.enterM (l := [.slice ad n cap, .int .i64 p]) Tryz.func70 rfl Tryz.ntmps70 rfl ([]) (no) (Mem.nil w) ?_
 refine wpM.seq (wpM.region ?_)
 refine LM.as rfl ?_
 refine LM.as rfl ?_
 refine LM.as rfl ?_
 refine LM.nil (QM.sub (e' := [(0, _), (1, _)]) ⟨rfl, rfl, trivial⟩ (QM.then ?_))
 refine wpM.seq ?_
 refine wpM.seq (wpM.region ?_)
 refine LM.mv rfl ?_
 refine LM.val (ov_lss rfl rfl) ?_
 refine LM.mv rfl ?_
 refine LM.splitD (t := 14) rfl (fun h1 => ?_) (fun h1 => ?_)
 ·
  refine LM.dr 14 rfl rfl rfl ?_
  refine LM.dr 14 rfl rfl rfl ?_
  refine LM.dr 14 rfl rfl rfl ?_
  refine LM.dr 14 rfl rfl rfl ?_
  refine LM.val (ov_pickT rfl rfl) ?_
  refine LM.nil (QM.sub (e' := [(0, _), (1, _), (19, _)]) ⟨rfl, rfl, rfl, trivial⟩ (QM.then ?_))
  refine wpM.condT rfl ?_
  refine wpM.seq (wpM.region ?_)
  refine LM.as rfl ?_
  refine LM.as rfl ?_
  refine LM.as rfl ?_
  refine LM.nil (QM.sub (e' := [(4, _), (5, _), (6, _)]) ⟨rfl, rfl, rfl, trivial⟩ (QM.then ?_))
  refine wpM.ret ?_
  refine QM.then_ret ?_
  refine QM.leave (.inl rfl) [.tmp 4, .tmp 5, .tmp 6] Tryz.results70 rfl ?_
  intro w' hm' hc' hg'
  have hpar : actsO ws p = ([], 0, 5) := (by unfold actsO; rw [if_pos (by omega)]); rw [hpar]; exact ⟨hc', [], ⟨none, 0, 0, rfl, rfl, .nil _ _ _ _⟩, Mem.nil _, fun p hp => by cases hp⟩
 refine LM.sp 14 rfl rfl rfl ?_
 refine LM.mv rfl ?_
 refine LM.sp 14 rfl rfl rfl ?_
 refine LM.mv rfl ?_
 refine LM.sp 14 rfl rfl rfl ?_
 refine LM.val (ov_len Tryz.underlying23 rfl) ?_
 refine LM.sp 14 rfl rfl rfl ?_
 refine LM.val (ov_gtr rfl rfl) ?_
 refine LM.val (ov_pickF rfl rfl) ?_
 refine LM.nil (QM.sub (e' := [(0, _), (1, _), (19, _)]) ⟨rfl, rfl, rfl, trivial⟩ (QM.then ?_))
 refine wpM.condD rfl (fun h2 => ?_) (fun h2 => ?_)
 ·
  refine wpM.seq (wpM.region ?_)
  refine LM.as rfl ?_
  refine LM.as rfl ?_
  refine LM.as rfl ?_
  refine LM.nil (QM.sub (e' := [(4, _), (5, _), (6, _)]) ⟨rfl, rfl, rfl, trivial⟩ (QM.then ?_))
  refine wpM.ret ?_
  refine QM.then_ret ?_
  refine QM.leave (.inl rfl) [.tmp 4, .tmp 5, .tmp 6] Tryz.results70 rfl ?_
  intro w' hm' hc' hg'
  have hpar : actsO ws p = ([], 0, 5) := (by unfold actsO; rw [if_pos (by omega)]); rw [hpar]; exact ⟨hc', [], ⟨none, 0, 0, rfl, rfl, .nil _ _ _ _⟩, Mem.nil _, fun p hp => by cases hp⟩
 obtain ⟨i0, rfl⟩ : ∃ i0 : Nat, p = (i0 : Nat) := ⟨p.toNat, by omega⟩; have hi0 : i0 ≤ ws.length := (by omega)
 refine wpM.skip ?_
 refine QM.then (wpM.seq (wpM.region ?_))
 refine LM.as rfl ?_
 refine LM.nil (QM.sub (e' := [(0, _), (1, _), (7, _)]) ⟨rfl, rfl, rfl, trivial⟩ (QM.then ?_))
 refine wpM.seq ?_
 refine wpM.block ?_
 refine wpM.loopK0 (α := Nat × List Act × Option Addr × Nat × Nat × Mem0) (fun ⟨i, out, ado, no, capo, mo⟩ => [(1, .int .i64 (i : Nat)), (7, .slice ado no capo)]) [(0, _)] (fun ⟨i, out, ado, no, capo, mo⟩ => mo ++ []) (fun ⟨i, out, ado, no, capo, mo⟩ => i ≤ ws.length ∧ loopA ws i out = loopA ws i0 [] ∧ no = out.length ∧ Sl fA 123 5 w.heap.size out (.slice ado no capo) mo ∧ out.length ≤ 4000) (fun ⟨i, out, ado, no, capo, mo⟩ => ws.length - i) ((i0, [], none, 0, 0, [])) ⟨au2, au2, rfl, trivial⟩ au1 ⟨by omega, rfl, rfl, .nil _ _ _ _, by decide⟩ ?_
 rintro ⟨i, out, ado, no, capo, mo⟩ ⟨hi, hL, hno, hso, hol⟩
 change wpM _ _ _ _ _ _ _ (mo ++ []) _ _ _
 refine wpM.seq ?_
 refine wpM.seq (wpM.region ?_)
 refine LM.mv rfl ?_
 refine LM.mv rfl ?_
 refine LM.val (ov_len Tryz.underlying23 rfl) ?_
 refine LM.val (ov_lss rfl rfl) ?_
 refine LM.nil (QM.sub (e' := [(0, _), (1, _), (7, _), (23, _)]) ⟨rfl, rfl, rfl, rfl, trivial⟩ (QM.then ?_))
 refine wpM.condD rfl (fun h3 => ?_) (fun h3 => ?_)
 ·
  have hilt : i < ws.length := (by omega)
  refine wpM.skip ?_
  refine QM.then ?_
  refine wpM.block ?_
  refine wpM.seq (wpM.region ?_)
  refine LM.as rfl ?_
  refine LM.nil (QM.sub (e' := [(0, _), (1, _), (7, _), (8, _)]) ⟨rfl, rfl, rfl, rfl, trivial⟩ (QM.then ?_))
  refine wpM.seq ?_
  refine wpM.seq (wpM.region ?_)
  refine LM.as rfl ?_
  refine LM.nil (QM.sub (e' := [(0, _), (1, _), (7, _), (8, _), (9, _)]) ⟨rfl, rfl, rfl, rfl, rfl, trivial⟩ (QM.then ?_))
  refine wpM.block ?_
  refine wpM.loopK0 (α := Nat × Int) (fun ⟨k, kd⟩ => [(8, .int .i64 kd), (9, .int .i64 (k : Nat))]) [(0, _), (1, _), (7, _)] (fun ⟨k, kd⟩ => mo ++ []) (fun ⟨k, kd⟩ => 1 ≤ k ∧ k ≤ 9 ∧ kd = kaccA ws i (k - 1)) (fun ⟨k, kd⟩ => 9 - k) ((1, 0)) ⟨au2, au2, rfl, rfl, rfl, trivial⟩ au1 ⟨by omega, by omega, rfl⟩ ?_
  rintro ⟨k, kd⟩ ⟨hk1, hk2, hkd⟩
  change wpM _ _ _ _ _ _ _ (mo ++ []) _ _ _
  refine wpM.seq ?_
  refine wpM.seq (wpM.region ?_)
  refine LM.mv rfl ?_
  refine LM.val (ov_leq rfl rfl) ?_
  refine LM.nil (QM.sub (e' := [(0, _), (1, _), (7, _), (8, _), (9, _), (25, _)]) ⟨rfl, rfl, rfl, rfl, rfl, rfl, trivial⟩ (QM.then ?_))
  refine wpM.condD rfl (fun h4 => ?_) (fun h4 => ?_)
  ·
   refine wpM.skip ?_
   refine QM.then ?_
   refine wpM.seq ?_
   refine wpM.block ?_
   refine wpM.seq ?_
   refine wpM.joinK (α := Bool) (fun q => [(43, .bool q)]) [(0, _), (1, _), (7, _), (8, _), (9, _)] (fun q => mo ++ []) (fun q => q = isR ws i 1 (acT (k : Int))) ⟨rfl, rfl, rfl, rfl, rfl, trivial⟩ ?_ ?_
   ·
    refine wpM.draw [(0, 0), (1, 0), (2, 0), (3, 0), (4, 1), (5, 0), (6, 0), (7, 0), (8, 0), (9, 0), (10, 0), (11, 1), (12, 0), (13, 2), (14, 0), (15, 0)] (by kernel_rfl) (by kernel_rfl) ?_
    refine LD.val rfl rfl (ov_move rfl) ?_
    refine LD.val rfl rfl (ov_move rfl) ?_
    refine LD.val rfl rfl (ov_idxSN au6 Tryz.underlying23 Tryz.sizeOf65 rfl rfl (by omega)) ?_
    refine LD.val rfl rfl (ov_field Tryz.underlying65 rfl Tryz.sizeOf3 rfl (k := 0) rfl rfl) ?_
    first | refine LD.rd rfl rfl (om_slE (j := 0) (by assumption) (by intro _; rfl) Tryz.isAgg3 rfl rfl au3 rfl (by rfl)) ?_ | refine LD.rdC rfl rfl (om_srE (j := 0) (by assumption) Tryz.isAgg3 rfl rfl au3 (by rfl) (by rfl) id) ?_ | refine LD.rd rfl rfl (om_ld Tryz.isAgg3 rfl rfl) ?_
    refine LD.val rfl rfl (ov_eql rfl rfl) ?_
    refine LD.val rfl rfl (ov_move rfl) ?_
    refine LD.splitD (t := 34) rfl (fun h5 => ?_) (fun h5 => ?_)
    ·
     refine LD.val rfl ⟨34, _, rfl, rfl, rfl⟩ (ov_move rfl) ?_
     refine LD.val rfl ⟨34, _, rfl, rfl, rfl⟩ (ov_move rfl) ?_
     refine LD.val rfl ⟨34, _, rfl, rfl, rfl⟩ (ov_idxSN au6 Tryz.underlying23 Tryz.sizeOf65 rfl rfl (by omega)) ?_
     refine LD.val rfl ⟨34, _, rfl, rfl, rfl⟩ (ov_field Tryz.underlying65 rfl Tryz.sizeOf9 rfl (k := 1) rfl rfl) ?_
     first | refine LD.rd rfl ⟨34, _, rfl, rfl, rfl⟩ (om_slE (j := 1) (by assumption) (by intro _; rfl) Tryz.isAgg9 rfl rfl au3 rfl (by rfl)) ?_ | refine LD.rdC rfl ⟨34, _, rfl, rfl, rfl⟩ (om_srE (j := 1) (by assumption) Tryz.isAgg9 rfl rfl au3 (by rfl) (by rfl) id) ?_ | refine LD.rd rfl ⟨34, _, rfl, rfl, rfl⟩ (om_ld Tryz.isAgg9 rfl rfl) ?_
     refine LD.val rfl ⟨34, _, rfl, rfl, rfl⟩ (ov_move rfl) ?_
     refine LD.callE rfl ⟨34, _, rfl, rfl, rfl⟩ (oc_call (enters_fn Tryz.func112 (by kernel_rfl) rfl) rfl) (fun w hm hc hg => raname_spec _ w) ?_
     refine LD.val rfl ⟨34, _, rfl, rfl, rfl⟩ (ov_seqlL rfl rfl) ?_
     refine LD.val rfl rfl (ov_pickT rfl rfl) ?_
     refine LD.nil ?_
     refine QM.sub (e' := [(0, _), (1, _), (7, _), (8, _), (9, _), (43, _)]) ⟨rfl, rfl, rfl, rfl, rfl, rfl, trivial⟩ ?_
     refine QM.meetK (_) ⟨au2, rfl, rfl, rfl, rfl, rfl, trivial⟩ au1 ?_
     · unfold isR; rw [decide_eq_true hilt, decide_eq_true (show (ws.getD i default).k = 1 by omega)]; rfl
    refine LD.drop rfl rfl ⟨34, _, rfl, rfl, rfl⟩ ?_
    refine LD.drop rfl rfl ⟨34, _, rfl, rfl, rfl⟩ ?_
    refine LD.drop rfl rfl ⟨34, _, rfl, rfl, rfl⟩ ?_
    refine LD.drop rfl rfl ⟨34, _, rfl, rfl, rfl⟩ ?_
    refine LD.drop rfl rfl ⟨34, _, rfl, rfl, rfl⟩ ?_
    refine LD.drop rfl rfl ⟨34, _, rfl, rfl, rfl⟩ ?_
    refine LD.drop rfl rfl ⟨34, _, rfl, rfl, rfl⟩ ?_
    refine LD.drop rfl rfl ⟨34, _, rfl, rfl, rfl⟩ ?_
    refine LD.val rfl rfl (ov_pickF rfl rfl) ?_
    refine LD.nil ?_
    refine QM.sub (e' := [(0, _), (1, _), (7, _), (8, _), (9, _), (43, _)]) ⟨rfl, rfl, rfl, rfl, rfl, rfl, trivial⟩ ?_
    refine QM.meetK (_) ⟨au2, rfl, rfl, rfl, rfl, rfl, trivial⟩ au1 ?_
    · unfold isR; rw [decide_eq_false (show ¬ (ws.getD i default).k = 1 by omega)]; simp
   rintro q hq
   change QM _ _ _ _ _ (mo ++ []) _ _ _
   refine QM.then ?_
   first | refine wpM.condD rfl (fun h6 => ?_) (fun h6 => ?_) | refine wpM.condB rfl (fun h6 => ?_) (fun h6 => ?_)
   ·
    refine wpM.region ?_
    refine LM.mv rfl ?_
    refine LM.as rfl ?_
    refine LM.nil (QM.sub (e' := [(0, _), (1, _), (7, _), (8, _), (9, _)]) ⟨rfl, rfl, rfl, rfl, rfl, trivial⟩ ?_)
    refine QM.block_normal ?_
    refine QM.then (wpM.region ?_)
    refine LM.mv rfl ?_
    refine LM.val (ov_add64 rfl rfl (by omega)) ?_
    refine LM.as rfl ?_
    refine LM.nil (QM.sub (e' := [(0, _), (1, _), (7, _), (8, _), (9, _)]) ⟨rfl, rfl, rfl, rfl, rfl, trivial⟩ ?_)
    refine QM.againK ((k + 1, (k : Int))) ⟨au2, au2, rfl, rfl, rfl, trivial⟩ au1 (fun _ h => h) ?_ ?_
    · exact ⟨by omega, by omega, (kaccA_t hk1 (hq.symm.trans h6)).symm⟩
    · first | omega | (dsimp only; omega)
   refine wpM.skip ?_
   refine QM.block_normal ?_
   refine QM.then (wpM.region ?_)
   refine LM.mv rfl ?_
   refine LM.val (ov_add64 rfl rfl (by omega)) ?_
   refine LM.as rfl ?_
   refine LM.nil (QM.sub (e' := [(0, _), (1, _), (7, _), (8, _), (9, _)]) ⟨rfl, rfl, rfl, rfl, rfl, trivial⟩ ?_)
   refine QM.againK ((k + 1, kd)) ⟨au2, au2, rfl, rfl, rfl, trivial⟩ au1 (fun _ h => h) ?_ ?_
   · exact ⟨by omega, by omega, by rw [hkd]; exact (kaccA_f hk1 (hq.symm.trans h6)).symm⟩
   · first | omega | (dsimp only; omega)
  obtain rfl : k = 9 := (by omega); obtain rfl : kd = kindA ws i := hkd.trans (kaccA_eq ws i); have hkr := kindA_rng ws i
  refine wpM.exit ?_
  refine QM.then_exit ?_
  refine QM.then_exit ?_
  refine QM.block_hit ?_
  refine QM.then ?_
  refine wpM.seq ?_
  refine wpM.seq (wpM.region ?_)
  refine LM.mv rfl ?_
  refine LM.val (ov_eql rfl rfl) ?_
  refine LM.nil (QM.sub (e' := [(0, _), (1, _), (7, _), (8, _), (46, _)]) ⟨rfl, rfl, rfl, rfl, rfl, trivial⟩ (QM.then ?_))
  refine wpM.condD rfl (fun h7 => ?_) (fun h7 => ?_)
  ·
   refine wpM.seq (wpM.region ?_)
   refine LM.mv rfl ?_
   refine LM.as rfl ?_
   refine LM.as rfl ?_
   refine LM.as rfl ?_
   refine LM.nil (QM.sub (e' := [(4, _), (5, _), (6, _)]) ⟨rfl, rfl, rfl, trivial⟩ (QM.then ?_))
   refine wpM.ret ?_
   refine QM.then_ret ?_
   refine QM.block_ret ?_
   refine QM.then_ret ?_
   refine QM.block_ret ?_
   refine QM.then_ret ?_
   refine QM.leave (.inl rfl) [.tmp 4, .tmp 5, .tmp 6] Tryz.results70 rfl ?_
   intro w' hm' hc' hg'
   rw [acts_nat hi0, ← hL, loopA_0 hilt (by omega)]; exact ⟨hc', [], ⟨none, 0, 0, rfl, rfl, .nil _ _ _ _⟩, Mem.nil _, fun p hp => by cases hp⟩
  refine wpM.skip ?_
  refine QM.then ?_
  refine wpM.seq ?_
  refine wpM.seq (wpM.region ?_)
  refine LM.mv rfl ?_
  refine LM.val (ov_len Tryz.underlying47 rfl) ?_
  refine LM.val (ov_eql rfl rfl) ?_
  refine LM.nil (QM.sub (e' := [(0, _), (1, _), (7, _), (8, _), (50, _)]) ⟨rfl, rfl, rfl, rfl, rfl, trivial⟩ (QM.then ?_))
  refine wpM.condD rfl (fun h8 => ?_) (fun h8 => ?_)
  ·
   refine wpM.seq (wpM.region ?_)
   refine LM.mv rfl ?_
   refine LM.as rfl ?_
   refine LM.as rfl ?_
   refine LM.as rfl ?_
   refine LM.nil (QM.sub (e' := [(4, _), (5, _), (6, _)]) ⟨rfl, rfl, rfl, trivial⟩ (QM.then ?_))
   refine wpM.ret ?_
   refine QM.then_ret ?_
   refine QM.block_ret ?_
   refine QM.then_ret ?_
   refine QM.block_ret ?_
   refine QM.then_ret ?_
   refine QM.leave (.inl rfl) [.tmp 4, .tmp 5, .tmp 6] Tryz.results70 rfl ?_
   intro w' hm' hc' hg'
   rw [acts_nat hi0, ← hL, loopA_6 hilt h7 (by omega)]; exact ⟨hc', [], ⟨none, 0, 0, rfl, rfl, .nil _ _ _ _⟩, Mem.nil _, fun p hp => by cases hp⟩
  refine wpM.skip ?_
  refine QM.then (wpM.seq (wpM.region ?_))
  refine LM.mv rfl ?_
  refine LM.val (ov_add64 rfl rfl (by omega)) ?_
  refine LM.as rfl ?_
  refine LM.nil (QM.sub (e' := [(0, _), (1, _), (7, _), (8, _)]) ⟨rfl, rfl, rfl, rfl, trivial⟩ (QM.then (wpM.seq (wpM.region ?_))))
  refine LM.mv rfl ?_
  refine LM.val (ov_build (cs := #[_, _, _, _, _]) rfl (by first | rfl | kernel_rfl)) ?_
  refine LM.alloc Tryz.zeroValue123 rfl (fun b10 hb10 => ?_)
  refine LM.stW Tryz.sizeOf123 rfl rfl rfl rfl au7 au8 ?_
  refine LM.nil (QM.sub (e' := [(0, _), (1, _), (7, _), (8, _), (10, _)]) ⟨rfl, rfl, rfl, rfl, rfl, trivial⟩ (QM.then ?_))
  refine wpM.seq ?_
  refine wpM.seq (wpM.region ?_)
  refine LM.as rfl ?_
  refine LM.nil (QM.sub (e' := [(0, _), (1, _), (7, _), (8, _), (10, _), (11, _)]) ⟨rfl, rfl, rfl, rfl, rfl, rfl, trivial⟩ (QM.then ?_))
  refine wpM.block ?_
  refine wpM.loopK0 (α := Nat × Nat × List Int) (fun ⟨k, j, xs⟩ => [(1, .int .i64 (j : Nat)), (11, .int .i64 (k : Nat))]) [(0, _), (7, _), (8, _), (10, _)] (fun ⟨k, j, xs⟩ => (b10, .cells (fA (toA (kindA ws i) xs)).toArray 123 (0, 0)) :: (mo ++ [])) (fun ⟨k, j, xs⟩ => k ≤ manyA (kindA ws i) ∧ j ≤ ws.length ∧ xs.length = 4 ∧ numG ws (manyA (kindA ws i) - k) j k xs = numK ws i) (fun ⟨k, j, xs⟩ => manyA (kindA ws i) - k) ((0, i + 1, zer4)) ⟨au2, au2, rfl, rfl, rfl, rfl, trivial⟩ au1 ⟨Nat.zero_le _, by omega, rfl, rfl⟩ ?_
  rintro ⟨k, j, xs⟩ ⟨hkm, hj, hx4, hN⟩
  change wpM _ _ _ _ _ _ _ ((b10, .cells (fA (toA (kindA ws i) xs)).toArray 123 (0, 0)) :: (mo ++ [])) _ _ _
  have hm4 := manyA_le (kindA ws i)
  refine wpM.seq ?_
  refine wpM.seq (wpM.region ?_)
  refine LM.mv rfl ?_
  refine LM.mv rfl ?_
  refine LM.callE (oc_call (enters_fn Tryz.func113 (by kernel_rfl) rfl) rfl) (fun w hm hc hg => rmany_spec _ w (by omega)) ?_
  refine LM.val (ov_lss rfl rfl) ?_
  refine LM.nil (QM.sub (e' := [(0, _), (1, _), (7, _), (8, _), (10, _), (11, _), (59, _)]) ⟨rfl, rfl, rfl, rfl, rfl, rfl, rfl, trivial⟩ (QM.then ?_))
  refine wpM.condD rfl (fun h9 => ?_) (fun h9 => ?_)
  ·
   refine wpM.skip ?_
   refine QM.then ?_
   refine wpM.seq ?_
   refine wpM.block ?_
   refine wpM.seq ?_
   refine wpM.seq ?_
   refine wpM.joinK (α := Bool) (fun q => [(73, .bool q)]) [(0, _), (1, _), (7, _), (8, _), (10, _), (11, _)] (fun q => (b10, .cells (fA (toA (kindA ws i) xs)).toArray 123 (0, 0)) :: (mo ++ [])) (fun q => q = (decide (ws.length ≤ j) || decide ((ws.getD j default).k ≠ 2))) ⟨rfl, rfl, rfl, rfl, rfl, rfl, trivial⟩ ?_ ?_
   ·
    refine wpM.region ?_
    refine LM.mv rfl ?_
    refine LM.mv rfl ?_
    refine LM.val (ov_len Tryz.underlying23 rfl) ?_
    refine LM.val (ov_geq rfl rfl) ?_
    refine LM.mv rfl ?_
    refine LM.splitD (t := 66) rfl (fun h10 => ?_) (fun h10 => ?_)
    ·
     refine LM.dr 66 rfl rfl rfl ?_
     refine LM.dr 66 rfl rfl rfl ?_
     refine LM.dr 66 rfl rfl rfl ?_
     refine LM.dr 66 rfl rfl rfl ?_
     refine LM.dr 66 rfl rfl rfl ?_
     refine LM.dr 66 rfl rfl rfl ?_
     refine LM.val (ov_pickT rfl rfl) ?_
     refine LM.nil (QM.sub (e' := [(0, _), (1, _), (7, _), (8, _), (10, _), (11, _), (73, _)]) ⟨rfl, rfl, rfl, rfl, rfl, rfl, rfl, trivial⟩ ?_)
     refine QM.meetK (_) ⟨au2, rfl, rfl, rfl, rfl, rfl, rfl, trivial⟩ au1 ?_
     · rw [decide_eq_true (show ws.length ≤ j by omega), Bool.true_or]
    refine LM.sp 66 rfl rfl rfl ?_
    refine LM.mv rfl ?_
    refine LM.sp 66 rfl rfl rfl ?_
    refine LM.mv rfl ?_
    refine LM.sp 66 rfl rfl rfl ?_
    refine LM.val (ov_idxSN au6 Tryz.underlying23 Tryz.sizeOf65 rfl rfl (by omega)) ?_
    refine LM.sp 66 rfl rfl rfl ?_
    refine LM.val (ov_field Tryz.underlying65 rfl Tryz.sizeOf3 rfl (k := 0) rfl rfl) ?_
    refine LM.sp 66 rfl rfl rfl ?_
    first | refine LM.rd (om_slE (j := 0) (by assumption) (by intro _; rfl) Tryz.isAgg3 rfl rfl au3 rfl (by rfl)) ?_ | refine LM.rdC (om_srE (j := 0) (by assumption) Tryz.isAgg3 rfl rfl au3 (by rfl) (by rfl) id) ?_ | refine LM.rd (om_ld Tryz.isAgg3 rfl rfl) ?_
    refine LM.sp 66 rfl rfl rfl ?_
    refine LM.val (ov_neq rfl rfl) ?_
    refine LM.val (ov_pickF rfl rfl) ?_
    refine LM.nil (QM.sub (e' := [(0, _), (1, _), (7, _), (8, _), (10, _), (11, _), (73, _)]) ⟨rfl, rfl, rfl, rfl, rfl, rfl, rfl, trivial⟩ ?_)
    refine QM.meetK (_) ⟨au2, rfl, rfl, rfl, rfl, rfl, rfl, trivial⟩ au1 ?_
    · rw [decide_eq_false (show ¬ ws.length ≤ j by omega), Bool.false_or]
   rintro q hq
   change QM _ _ _ _ _ ((b10, .cells (fA (toA (kindA ws i) xs)).toArray 123 (0, 0)) :: (mo ++ [])) _ _ _
   refine QM.then ?_
   first | refine wpM.condD rfl (fun h11 => ?_) (fun h11 => ?_) | refine wpM.condB rfl (fun h11 => ?_) (fun h11 => ?_)
   ·
    refine wpM.seq (wpM.region ?_)
    refine LM.mv rfl ?_
    refine LM.as rfl ?_
    refine LM.as rfl ?_
    refine LM.as rfl ?_
    refine LM.nil (QM.sub (e' := [(4, _), (5, _), (6, _)]) ⟨rfl, rfl, rfl, trivial⟩ (QM.then ?_))
    refine wpM.ret ?_
    refine QM.then_ret ?_
    refine QM.block_ret ?_
    refine QM.then_ret ?_
    refine QM.then_ret ?_
    refine QM.block_ret ?_
    refine QM.then_ret ?_
    refine QM.block_ret ?_
    refine QM.then_ret ?_
    refine QM.block_ret ?_
    refine QM.then_ret ?_
    refine QM.leave (.inl rfl) [.tmp 4, .tmp 5, .tmp 6] Tryz.results70 rfl ?_
    intro w' hm' hc' hg'
    have hNK : numK ws i = (j, 5, xs) := (by rw [← hN, numG_stop (by omega) (hq.symm.trans h11)]); rw [acts_nat hi0, ← hL, loopA_e hilt h7 (by omega) (oneA_n h7 hNK)]; exact ⟨hc', [], ⟨none, 0, 0, rfl, rfl, .nil _ _ _ _⟩, Mem.nil _, fun p hp => by cases hp⟩
   have hjn : j < ws.length := (by have h := hq.symm.trans h11; simp only [Bool.or_eq_false_iff, decide_eq_false_iff_not] at h; omega)
   refine wpM.skip ?_
   refine QM.then ?_
   refine wpM.seq ?_
   refine wpM.draw [(0, 1), (1, 0), (2, 0), (3, 0), (4, 0), (5, 0), (6, 1), (7, 2), (8, 3)] (by kernel_rfl) (by kernel_rfl) ?_
   refine LD.rd rfl rfl (om_ldW Tryz.isAgg123 Tryz.sizeOf123 rfl rfl) ?_
   refine LD.val rfl rfl (ov_move rfl) ?_
   refine LD.val rfl rfl (ov_move rfl) ?_
   refine LD.val rfl rfl (ov_move rfl) ?_
   refine LD.val rfl rfl (ov_idxSN au6 Tryz.underlying23 Tryz.sizeOf65 rfl rfl (by omega)) ?_
   refine LD.val rfl rfl (ov_field Tryz.underlying65 rfl Tryz.sizeOf3 rfl (k := 2) rfl rfl) ?_
   first | refine LD.rd rfl rfl (om_slE (j := 2) (by assumption) (by intro _; rfl) Tryz.isAgg3 rfl rfl au3 rfl (by rfl)) ?_ | refine LD.rdC rfl rfl (om_srE (j := 2) (by assumption) Tryz.isAgg3 rfl rfl au3 (by rfl) (by rfl) id) ?_ | refine LD.rd rfl rfl (om_ld Tryz.isAgg3 rfl rfl) ?_
   refine LD.callE rfl rfl (oc_call (enters_fn Tryz.func114 (by kernel_rfl) rfl) rfl) (fun w hm hc hg => put_spec k _ w (by omega) hx4) ?_
   refine LD.tail rfl rfl ?_
   refine LM.stW Tryz.sizeOf123 rfl rfl rfl rfl au7 au8 ?_
   refine LM.nil ?_
   refine QM.qn ?_
   refine QM.sub (e' := [(0, _), (1, _), (7, _), (8, _), (10, _), (11, _)]) ⟨rfl, rfl, rfl, rfl, rfl, rfl, trivial⟩ (QM.then (wpM.region ?_))
   refine LM.mv rfl ?_
   refine LM.val (ov_add64 rfl rfl (by omega)) ?_
   refine LM.as rfl ?_
   refine LM.nil (QM.sub (e' := [(0, _), (1, _), (7, _), (8, _), (10, _), (11, _)]) ⟨rfl, rfl, rfl, rfl, rfl, rfl, trivial⟩ ?_)
   refine QM.block_normal ?_
   refine QM.then (wpM.region ?_)
   refine LM.mv rfl ?_
   refine LM.val (ov_add64 rfl rfl (by omega)) ?_
   refine LM.as rfl ?_
   refine LM.nil (QM.sub (e' := [(0, _), (1, _), (7, _), (8, _), (10, _), (11, _)]) ⟨rfl, rfl, rfl, rfl, rfl, rfl, trivial⟩ ?_)
   refine QM.againK ((k + 1, j + 1, xs.set k (ws.getD j default).n)) ⟨au2, au2, rfl, rfl, rfl, rfl, trivial⟩ au1 (fun _ h => h) ?_ ?_
   · exact ⟨by omega, by omega, by simpa using hx4, by rw [show manyA (kindA ws i) - (k + 1) = manyA (kindA ws i) - k - 1 by omega, ← numG_next (by omega) (hq.symm.trans h11)]; exact hN⟩
   · first | omega | (dsimp only; omega)
  refine wpM.exit ?_
  refine QM.then_exit ?_
  refine QM.then_exit ?_
  refine QM.block_hit ?_
  refine QM.then ?_
  refine wpM.seq ?_
  refine wpM.seq ?_
  refine wpM.joinK (α := Bool) (fun q => [(104, .bool q)]) [(0, _), (1, _), (7, _), (10, _)] (fun q => (b10, .cells (fA (toA (kindA ws i) xs)).toArray 123 (0, 0)) :: (mo ++ [])) (fun q => q = !isR ws j 3 [59]) ⟨rfl, rfl, rfl, rfl, trivial⟩ ?_ ?_
  ·
   refine wpM.region ?_
   refine LM.mv rfl ?_
   refine LM.mv rfl ?_
   refine LM.val (ov_len Tryz.underlying23 rfl) ?_
   refine LM.val (ov_geq rfl rfl) ?_
   refine LM.mv rfl ?_
   refine LM.splitD (t := 89) rfl (fun h12 => ?_) (fun h12 => ?_)
   ·
    refine LM.dr 89 rfl rfl rfl ?_
    refine LM.dr 89 rfl rfl rfl ?_
    refine LM.dr 89 rfl rfl rfl ?_
    refine LM.dr 89 rfl rfl rfl ?_
    refine LM.dr 89 rfl rfl rfl ?_
    refine LM.dr 89 rfl rfl rfl ?_
    refine LM.val (ov_pickT rfl rfl) ?_
    refine LM.mv rfl ?_
    refine LM.dr 97 rfl rfl rfl ?_
    refine LM.dr 97 rfl rfl rfl ?_
    refine LM.dr 97 rfl rfl rfl ?_
    refine LM.dr 97 rfl rfl rfl ?_
    refine LM.dr 97 rfl rfl rfl ?_
    refine LM.dr 97 rfl rfl rfl ?_
    refine LM.val (ov_pickT rfl rfl) ?_
    refine LM.nil (QM.sub (e' := [(0, _), (1, _), (7, _), (10, _), (104, _)]) ⟨rfl, rfl, rfl, rfl, rfl, trivial⟩ ?_)
    refine QM.meetK (_) ⟨au2, rfl, rfl, rfl, rfl, trivial⟩ au1 ?_
    · unfold isR; rw [decide_eq_false (show ¬ j < ws.length by omega)]; rfl
   refine LM.sp 89 rfl rfl rfl ?_
   refine LM.mv rfl ?_
   refine LM.sp 89 rfl rfl rfl ?_
   refine LM.mv rfl ?_
   refine LM.sp 89 rfl rfl rfl ?_
   refine LM.val (ov_idxSN au6 Tryz.underlying23 Tryz.sizeOf65 rfl rfl (by omega)) ?_
   refine LM.sp 89 rfl rfl rfl ?_
   refine LM.val (ov_field Tryz.underlying65 rfl Tryz.sizeOf3 rfl (k := 0) rfl rfl) ?_
   refine LM.sp 89 rfl rfl rfl ?_
   first | refine LM.rd (om_slE (j := 0) (by assumption) (by intro _; rfl) Tryz.isAgg3 rfl rfl au3 rfl (by rfl)) ?_ | refine LM.rdC (om_srE (j := 0) (by assumption) Tryz.isAgg3 rfl rfl au3 (by rfl) (by rfl) id) ?_ | refine LM.rd (om_ld Tryz.isAgg3 rfl rfl) ?_
   refine LM.sp 89 rfl rfl rfl ?_
   refine LM.val (ov_neq rfl rfl) ?_
   refine LM.val (ov_pickF rfl rfl) ?_
   refine LM.mv rfl ?_
   refine LM.splitD (t := 97) rfl (fun h13 => ?_) (fun h13 => ?_)
   ·
    refine LM.dr 97 rfl rfl rfl ?_
    refine LM.dr 97 rfl rfl rfl ?_
    refine LM.dr 97 rfl rfl rfl ?_
    refine LM.dr 97 rfl rfl rfl ?_
    refine LM.dr 97 rfl rfl rfl ?_
    refine LM.dr 97 rfl rfl rfl ?_
    refine LM.val (ov_pickT rfl rfl) ?_
    refine LM.nil (QM.sub (e' := [(0, _), (1, _), (7, _), (10, _), (104, _)]) ⟨rfl, rfl, rfl, rfl, rfl, trivial⟩ ?_)
    refine QM.meetK (_) ⟨au2, rfl, rfl, rfl, rfl, trivial⟩ au1 ?_
    · unfold isR; rw [decide_eq_true (show j < ws.length by omega), decide_eq_false (show ¬ (ws.getD j default).k = 3 by omega)]; rfl
   refine LM.sp 97 rfl rfl rfl ?_
   refine LM.mv rfl ?_
   refine LM.sp 97 rfl rfl rfl ?_
   refine LM.mv rfl ?_
   refine LM.sp 97 rfl rfl rfl ?_
   refine LM.val (ov_idxSN au6 Tryz.underlying23 Tryz.sizeOf65 rfl rfl (by omega)) ?_
   refine LM.sp 97 rfl rfl rfl ?_
   refine LM.val (ov_field Tryz.underlying65 rfl Tryz.sizeOf9 rfl (k := 1) rfl rfl) ?_
   refine LM.sp 97 rfl rfl rfl ?_
   first | refine LM.rd (om_slE (j := 1) (by assumption) (by intro _; rfl) Tryz.isAgg9 rfl rfl au3 rfl (by rfl)) ?_ | refine LM.rdC (om_srE (j := 1) (by assumption) Tryz.isAgg9 rfl rfl au3 (by rfl) (by rfl) id) ?_ | refine LM.rd (om_ld Tryz.isAgg9 rfl rfl) ?_
   refine LM.sp 97 rfl rfl rfl ?_
   refine LM.val (ov_sneqL rfl rfl) ?_
   refine LM.val (ov_pickF rfl rfl) ?_
   refine LM.nil (QM.sub (e' := [(0, _), (1, _), (7, _), (10, _), (104, _)]) ⟨rfl, rfl, rfl, rfl, rfl, trivial⟩ ?_)
   refine QM.meetK (_) ⟨au2, rfl, rfl, rfl, rfl, trivial⟩ au1 ?_
   · unfold isR; rw [decide_eq_true (show j < ws.length by omega), decide_eq_true (show (ws.getD j default).k = 3 by omega)]; simp only [Bool.true_and, decide_not]
  rintro q hq
  change QM _ _ _ _ _ ((b10, .cells (fA (toA (kindA ws i) xs)).toArray 123 (0, 0)) :: (mo ++ [])) _ _ _
  refine QM.then ?_
  first | refine wpM.condD rfl (fun h14 => ?_) (fun h14 => ?_) | refine wpM.condB rfl (fun h14 => ?_) (fun h14 => ?_)
  ·
   refine wpM.seq (wpM.region ?_)
   refine LM.mv rfl ?_
   refine LM.as rfl ?_
   refine LM.as rfl ?_
   refine LM.as rfl ?_
   refine LM.nil (QM.sub (e' := [(4, _), (5, _), (6, _)]) ⟨rfl, rfl, rfl, trivial⟩ (QM.then ?_))
   refine wpM.ret ?_
   refine QM.then_ret ?_
   refine QM.block_ret ?_
   refine QM.then_ret ?_
   refine QM.block_ret ?_
   refine QM.then_ret ?_
   refine QM.leave (.inl rfl) [.tmp 4, .tmp 5, .tmp 6] Tryz.results70 rfl ?_
   intro w' hm' hc' hg'
   have hNK : numK ws i = (j, 0, xs) := (by rw [← hN, show manyA (kindA ws i) - k = 0 by omega]; rfl); rw [acts_nat hi0, ← hL, loopA_e hilt h7 (by omega) (oneA_s h7 hNK (by simpa using hq.symm.trans h14))]; exact ⟨hc', [], ⟨none, 0, 0, rfl, rfl, .nil _ _ _ _⟩, Mem.nil _, fun p hp => by cases hp⟩
  refine wpM.skip ?_
  refine QM.then (wpM.seq (wpM.region ?_))
  refine LM.mv rfl ?_
  refine LM.val (ov_add64 rfl rfl (by omega)) ?_
  refine LM.as rfl ?_
  refine LM.nil (QM.sub (e' := [(0, _), (1, _), (7, _), (10, _)]) ⟨rfl, rfl, rfl, rfl, trivial⟩ (QM.then (wpM.region ?_)))
  refine LM.mv rfl ?_
  refine LM.rd (om_ldW Tryz.isAgg123 Tryz.sizeOf123 rfl rfl) ?_
  refine LM.single Tryz.underlying47 Tryz.sizeOf123 Tryz.zeroValue123 rfl rfl rfl rfl rfl (fun b110 hb110 => ?_)
  refine LM.app (a := toA (kindA ws i) xs) Tryz.underlying47 Tryz.typeInfo123 rfl rfl rfl rfl rfl rfl rfl (by assumption) (by rfl) (by intro _; rfl) (by intro _ u hu; simp [fA] at hu; (repeat (first | (rcases hu with rfl | hu) | subst hu | rfl))) (by first | exact Nat.le_refl _ | omega) au9 (by first | omega | (unfold maxLen; omega)) (by simp only [Tryz.t123]; omega) (fun ad111 n111 cap111 m111 hn111 hs111 hin111 => ?_)
  refine LM.as rfl ?_
  refine LM.nil (QM.sub (e' := [(0, _), (1, _), (7, _)]) ⟨rfl, rfl, rfl, trivial⟩ ?_)
  refine QM.block_normal ?_
  have hNK : numK ws i = (j, 0, xs) := (by rw [← hN, show manyA (kindA ws i) - k = 0 by omega]; rfl); have hjs : isR ws j 3 [59] = true := (by simpa using hq.symm.trans h14); have hone := oneA_ok h7 hNK hjs; have hlt := oneA_lt (ws := ws) (i := i) (by rw [hone]); rw [hone] at hlt; have hlt : i < j + 1 ∧ j + 1 ≤ ws.length := hlt
  refine QM.againK ((j + 1, out ++ [toA (kindA ws i) xs], ad111, n111, cap111, m111)) ⟨au2, au2, rfl, trivial⟩ au1 (fun _ h => h) ?_ ?_
  · exact ⟨hlt.2, (loopA_g hilt h7 (by omega) hone).symm.trans hL, by rw [hn111]; simp, hs111, by simp; omega⟩
  · first | omega | (dsimp only; omega)
 refine wpM.exit ?_
 refine QM.then_exit ?_
 refine QM.then_exit ?_
 refine QM.block_hit ?_
 refine QM.then (wpM.seq (wpM.region ?_))
 refine LM.mv rfl ?_
 refine LM.mv rfl ?_
 refine LM.as rfl ?_
 refine LM.as rfl ?_
 refine LM.as rfl ?_
 refine LM.nil (QM.sub (e' := [(4, _), (5, _), (6, _)]) ⟨rfl, rfl, rfl, trivial⟩ (QM.then ?_))
 refine wpM.ret ?_
 refine QM.leave (.inl rfl) [.tmp 4, .tmp 5, .tmp 6] Tryz.results70 rfl ?_
 intro w' hm' hc' hg'
 rw [acts_nat hi0, ← hL, loopA_end (by omega)]; exact ⟨hc', mo, ⟨ado, no, capo, rfl, hno, hso⟩, hm'.pick _, fun p hp => Sl.ge hso p hp⟩
end Go.Eng
namespace Go.Eng
open Go Go.Proofs Go.RowKit
def placeO (s : List UInt8) (ws : List Wrd) (p : Int) : Int := if p < ws.length then (ws.getD p.toNat default).p else s.length
def scriptO (s : List UInt8) : StC × List Act × Int × Int :=
  if (scanO s).2.2 ≠ 0 then (default, [], (scanO s).2.1, (scanO s).2.2)
  else if (setO (scanO s).1 0).2.2 ≠ 0 then (default, [], placeO s (scanO s).1 (setO (scanO s).1 0).2.1, (setO (scanO s).1 0).2.2)
  else if (actsO (scanO s).1 (setO (scanO s).1 0).2.1).2.2 ≠ 0 then (default, [], placeO s (scanO s).1 (actsO (scanO s).1 (setO (scanO s).1 0).2.1).2.1, (actsO (scanO s).1 (setO (scanO s).1 0).2.1).2.2)
  else ((setO (scanO s).1 0).1, (actsO (scanO s).1 (setO (scanO s).1 0).2.1).1, 0, 0)
theorem pgF_pl {ws : List Wrd} : ∀ (f i : Nat) (e : Int) (ps : List PgC) (pl : List Int), (∀ x ∈ pl, 0 ≤ x) → ∀ x ∈ (pgF ws f i e ps pl).2.1, 0 ≤ x
  | 0, i, e, ps, pl, h => by unfold pgF; split <;> exact h
  | f + 1, i, e, ps, pl, h => by
    unfold pgF; split
    · refine pgF_pl f _ _ _ _ (fun x hx => ?_)
      rcases List.mem_append.1 hx with hx | hx
      · exact h x hx
      · rw [List.mem_singleton] at hx; omega
    · exact h
theorem set_pos (ws : List Wrd) (p : Int) : 0 ≤ (setO ws p).2.1 := by
  unfold setO stpR
  split
  · exact Int.le_refl _
  split
  · show (0 : Int) ≤ ((sP ws p.toNat).2.2.1 : Int); omega
  split
  · show (0 : Int) ≤ (sP ws p.toNat).2.1.getD _ 0
    rw [List.getD_eq_getElem?_getD]
    cases h : (sP ws p.toNat).2.1[(misI (sL ws p.toNat).1 (sP ws p.toNat).1).toNat]? with
    | none => exact Int.le_refl _
    | some x => exact pgF_pl _ _ _ _ _ (fun x hx => by cases hx) x (List.mem_of_getElem? h)
  · show (0 : Int) ≤ ((sP ws p.toNat).2.2.1 : Int); omega
theorem acts_pos (ws : List Wrd) (p : Int) : 0 ≤ (actsO ws p).2.1 := by
  have key : ∀ (f i : Nat) (out : List Act), 0 ≤ (loopAF f ws i out).2.1 := by
    intro f
    induction f with
    | zero => intro i out; show (0 : Int) ≤ (i : Int); omega
    | succ f ih =>
      intro i out
      unfold loopAF
      split
      · show (0 : Int) ≤ (i : Int); omega
      split
      · show (0 : Int) ≤ (i : Int); omega
      split
      · show (0 : Int) ≤ (i : Int); omega
      split
      · show (0 : Int) ≤ ((oneA ws i).2.1 : Int); omega
      · exact ih _ _
  unfold actsO; split
  · exact Int.le_refl _
  · exact key _ _ _
structure ScV where
  sv : StV
  xs : List Act
  ad : Option Addr
  n : Nat
  cap : Nat
abbrev ScV.val (x : ScV) : Value := .agg #[.int .i64 x.sv.cr, .int .i64 x.sv.gr, .slice x.sv.ga x.sv.gn x.sv.gc, .slice x.sv.la x.sv.ln x.sv.lc, .slice x.sv.pa x.sv.pn x.sv.pc, .slice x.ad x.n x.cap]
structure ScV.In (x : ScV) (w : World) : Prop where
  st : x.sv.In w
  hn : x.n = x.xs.length
  hx : Sr fA 5 x.xs (.slice x.ad x.n x.cap) w
theorem ScV.In.ext {x : ScV} {w w' : World} (h : x.In w) (k : Ext w w') : x.In w' := ⟨h.st.ext k, h.hn, h.hx.ext k⟩
def SpT (r : StC × List Act × Int × Int) (n0 : Nat) (v : Value) (m : Mem0) : Prop := ∃ x : ScV, v = .tuple #[x.val, .int .i64 r.2.2.1, .int .i64 r.2.2.2] ∧ x.sv.C = r.1 ∧ x.xs = r.2.1 ∧ ∀ w, Mem w m → x.In w
theorem SpT.mono {r : StC × List Act × Int × Int} : ∀ (k k' : Nat) u m, k' ≤ k → SpT r k u m → SpT r k' u m := fun k k' u m h q => q
theorem SpT.nil0 {p e : Int} {n0 : Nat} : SpT (default, [], p, e) n0 (.tuple #[.agg #[.int .i64 0, .int .i64 0, .slice none 0 0, .slice none 0 0, .slice none 0 0, .slice none 0 0], .int .i64 p, .int .i64 e]) [] :=
  ⟨⟨default, [], Option.none, 0, 0⟩, rfl, rfl, rfl, fun w _ => ⟨⟨rfl, .nil _ _ _, rfl, .nil _ _ _, rfl, .nil _ _ _, fun p hp => by cases hp⟩, rfl, .nil _ _ _⟩⟩
set_option maxRecDepth 100000 in
theorem rplaceN_spec {ws : List Wrd} {ad : Option Addr} {n cap : Nat} (s : List UInt8) (j : Nat) (w : World) (hn : n = ws.length) (hl : Sr fW 4 ws (.slice ad n cap) w) : Ret Tryz.prog 69 #[vS s, .slice ad n cap, .int .i64 (j : Nat)] w (fun v w' => v = .int .i64 (placeO s ws (j : Nat)) ∧ Ext w w') := by
 refine Ret.enterM (l := [vS s, .slice ad n cap, .int .i64 (j : Nat)]) Tryz.func69 rfl Tryz.ntmps69 rfl ([]) (no) (Mem.nil w) ?_
 refine wpM.seq (wpM.region ?_)
 refine LM.as rfl ?_
 refine LM.nil (QM.sub (e' := [(0, _), (1, _), (2, _)]) ⟨rfl, rfl, rfl, trivial⟩ (QM.then ?_))
 refine wpM.seq ?_
 refine wpM.seq (wpM.region ?_)
 refine LM.mv rfl ?_
 refine LM.mv rfl ?_
 refine LM.val (ov_len Tryz.underlying23 rfl) ?_
 refine LM.val (ov_lss rfl rfl) ?_
 refine LM.nil (QM.sub (e' := [(0, _), (1, _), (2, _), (10, _)]) ⟨rfl, rfl, rfl, rfl, trivial⟩ (QM.then ?_))
 refine wpM.condD rfl (fun h1 => ?_) (fun h1 => ?_)
 ·
  refine wpM.seq (wpM.region ?_)
  refine LM.mv rfl ?_
  refine LM.mv rfl ?_
  refine LM.val (ov_idxSN au6 Tryz.underlying23 Tryz.sizeOf65 rfl rfl (by omega)) ?_
  refine LM.val (ov_field Tryz.underlying65 rfl Tryz.sizeOf3 rfl (k := 3) rfl rfl) ?_
  first | refine LM.rd (om_slE (j := 3) (by assumption) (by intro _; rfl) Tryz.isAgg3 rfl rfl au3 rfl (by rfl)) ?_ | refine LM.rdC (om_srE (j := 3) (by assumption) Tryz.isAgg3 rfl rfl au3 (by rfl) (by rfl) id) ?_ | refine LM.rd (om_ld Tryz.isAgg3 rfl rfl) ?_
  refine LM.as rfl ?_
  refine LM.nil (QM.sub (e' := [(6, _)]) ⟨rfl, trivial⟩ (QM.then ?_))
  refine wpM.ret ?_
  refine QM.then_ret ?_
  refine QM.leave (.inl rfl) [.tmp 6] Tryz.results69 rfl ?_
  intro w' hm' hc' hg'
  refine ⟨?_, hc'⟩; unfold placeO; rw [if_pos (by omega), Int.toNat_natCast]; rfl
 refine wpM.skip ?_
 refine QM.then (wpM.seq (wpM.region ?_))
 refine LM.mv rfl ?_
 refine LM.val (ov_slenL Tryz.underlying9 rfl) ?_
 refine LM.as rfl ?_
 refine LM.nil (QM.sub (e' := [(6, _)]) ⟨rfl, trivial⟩ (QM.then ?_))
 refine wpM.ret ?_
 refine QM.leave (.inl rfl) [.tmp 6] Tryz.results69 rfl ?_
 intro w' hm' hc' hg'
 refine ⟨?_, hc'⟩; unfold placeO; rw [if_neg (by omega)]; rfl
theorem rplace_spec {ws : List Wrd} {ad : Option Addr} {n cap : Nat} (s : List UInt8) (p : Int) (w : World) (hn : n = ws.length) (hl : Sr fW 4 ws (.slice ad n cap) w) (hp0 : 0 ≤ p) :
    Ret Tryz.prog 69 #[vS s, .slice ad n cap, .int .i64 p] w (fun v w' => v = .int .i64 (placeO s ws p) ∧ Ext w w') := by
  obtain ⟨j, rfl⟩ : ∃ j : Nat, p = (j : Int) := ⟨p.toNat, by omega⟩
  exact rplaceN_spec s j w hn hl
set_option maxRecDepth 100000 in
theorem splaceN_spec {ws : List Wrd} {ad : Option Addr} {n cap : Nat} (s : List UInt8) (j : Nat) (w : World) (hn : n = ws.length) (hl : Sr fW 4 ws (.slice ad n cap) w) : Ret Tryz.prog 67 #[vS s, .slice ad n cap, .int .i64 (j : Nat)] w (fun v w' => v = .int .i64 (placeO s ws (j : Nat)) ∧ Ext w w') := by
 refine Ret.enterM (l := [vS s, .slice ad n cap, .int .i64 (j : Nat)]) Tryz.func67 rfl Tryz.ntmps67 rfl ([]) (no) (Mem.nil w) ?_
 refine wpM.seq (wpM.region ?_)
 refine LM.as rfl ?_
 refine LM.nil (QM.sub (e' := [(0, _), (1, _), (2, _)]) ⟨rfl, rfl, rfl, trivial⟩ (QM.then ?_))
 refine wpM.seq ?_
 refine wpM.seq (wpM.region ?_)
 refine LM.mv rfl ?_
 refine LM.mv rfl ?_
 refine LM.val (ov_len Tryz.underlying23 rfl) ?_
 refine LM.val (ov_lss rfl rfl) ?_
 refine LM.nil (QM.sub (e' := [(0, _), (1, _), (2, _), (10, _)]) ⟨rfl, rfl, rfl, rfl, trivial⟩ (QM.then ?_))
 refine wpM.condD rfl (fun h1 => ?_) (fun h1 => ?_)
 ·
  refine wpM.seq (wpM.region ?_)
  refine LM.mv rfl ?_
  refine LM.mv rfl ?_
  refine LM.val (ov_idxSN au6 Tryz.underlying23 Tryz.sizeOf65 rfl rfl (by omega)) ?_
  refine LM.val (ov_field Tryz.underlying65 rfl Tryz.sizeOf3 rfl (k := 3) rfl rfl) ?_
  first | refine LM.rd (om_slE (j := 3) (by assumption) (by intro _; rfl) Tryz.isAgg3 rfl rfl au3 rfl (by rfl)) ?_ | refine LM.rdC (om_srE (j := 3) (by assumption) Tryz.isAgg3 rfl rfl au3 (by rfl) (by rfl) id) ?_ | refine LM.rd (om_ld Tryz.isAgg3 rfl rfl) ?_
  refine LM.as rfl ?_
  refine LM.nil (QM.sub (e' := [(6, _)]) ⟨rfl, trivial⟩ (QM.then ?_))
  refine wpM.ret ?_
  refine QM.then_ret ?_
  refine QM.leave (.inl rfl) [.tmp 6] Tryz.results67 rfl ?_
  intro w' hm' hc' hg'
  refine ⟨?_, hc'⟩; unfold placeO; rw [if_pos (by omega), Int.toNat_natCast]; rfl
 refine wpM.skip ?_
 refine QM.then (wpM.seq (wpM.region ?_))
 refine LM.mv rfl ?_
 refine LM.val (ov_slenL Tryz.underlying9 rfl) ?_
 refine LM.as rfl ?_
 refine LM.nil (QM.sub (e' := [(6, _)]) ⟨rfl, trivial⟩ (QM.then ?_))
 refine wpM.ret ?_
 refine QM.leave (.inl rfl) [.tmp 6] Tryz.results67 rfl ?_
 intro w' hm' hc' hg'
 refine ⟨?_, hc'⟩; unfold placeO; rw [if_neg (by omega)]; rfl
theorem splace_spec {ws : List Wrd} {ad : Option Addr} {n cap : Nat} (s : List UInt8) (p : Int) (w : World) (hn : n = ws.length) (hl : Sr fW 4 ws (.slice ad n cap) w) (hp0 : 0 ≤ p) :
    Ret Tryz.prog 67 #[vS s, .slice ad n cap, .int .i64 p] w (fun v w' => v = .int .i64 (placeO s ws p) ∧ Ext w w') := by
  obtain ⟨j, rfl⟩ : ∃ j : Nat, p = (j : Int) := ⟨p.toNat, by omega⟩
  exact splaceN_spec s j w hn hl
set_option maxRecDepth 100000 in
theorem rscript_spec (s : List UInt8) (w : World) (hs : s.length ≤ 1000000000) : Ret Tryz.prog 25 #[vS s] w (fun v w' => Ext w w' ∧ ∃ m, SpT (scriptO s) w.heap.size v m ∧ Mem w' m ∧ ∀ p ∈ m, w.heap.size ≤ p.1) := by
 refine Ret.enterM (l := [vS s]) Tryz.func25 rfl Tryz.ntmps25 rfl ([]) (no) (Mem.nil w) ?_
 refine wpM.seq (wpM.region ?_)
 refine LM.alloc Tryz.zeroValue49 rfl (fun b2 hb2 => ?_)
 refine LM.as rfl ?_
 refine LM.as rfl ?_
 refine LM.nil (QM.sub (e' := [(0, _), (2, _)]) ⟨rfl, rfl, trivial⟩ (QM.then (wpM.seq (wpM.region ?_))))
 refine LM.mv rfl ?_
 refine LM.callT (oc_call (enters_fn Tryz.func10 (by kernel_rfl) rfl) rfl) ScT.mono (fun w hm hc hg => scan_spec w (by omega)) ?_
 rintro u13 m13 ⟨ad13, n13, cap13, rfl, hn13, hs13⟩ -; have hl13 := scan_len s
 refine LM.mv rfl ?_
 refine LM.val (ov_extract rfl rfl) ?_
 refine LM.val (ov_extract rfl rfl) ?_
 refine LM.val (ov_extract rfl rfl) ?_
 refine LM.as rfl ?_
 refine LM.as rfl ?_
 refine LM.as rfl ?_
 refine LM.nil (QM.sub (e' := [(0, _), (2, _), (5, _), (6, _), (7, _)]) ⟨rfl, rfl, rfl, rfl, rfl, trivial⟩ (QM.then ?_))
 refine wpM.seq ?_
 refine wpM.seq (wpM.region ?_)
 refine LM.mv rfl ?_
 refine LM.val (ov_neq rfl rfl) ?_
 refine LM.nil (QM.sub (e' := [(0, _), (2, _), (5, _), (6, _), (7, _), (18, _)]) ⟨rfl, rfl, rfl, rfl, rfl, rfl, trivial⟩ (QM.then ?_))
 refine wpM.condD rfl (fun h1 => ?_) (fun h1 => ?_)
 ·
  refine wpM.seq (wpM.region ?_)
  refine LM.val (ov_build (cs := #[_, _, _, _, _, _]) rfl (by first | rfl | kernel_rfl)) ?_
  refine LM.mv rfl ?_
  refine LM.mv rfl ?_
  refine LM.stW Tryz.sizeOf49 rfl rfl rfl rfl au7 au8 ?_
  refine LM.as rfl ?_
  refine LM.as rfl ?_
  refine LM.nil (QM.sub (e' := [(2, _), (3, _), (4, _)]) ⟨rfl, rfl, rfl, trivial⟩ (QM.then ?_))
  refine wpM.ret ?_
  refine QM.then_ret ?_
  refine QM.leaveCs (ds := ([])) (.inl rfl) [.cell 2 49, .tmp 3, .tmp 4] Tryz.results25 hd_nil (rc_w rfl Tryz.isAgg49 Tryz.sizeOf49 rfl (rc_tmp rfl (rc_tmp rfl rc_nil))) ?_
  intro w' hm' hc'
  unfold scriptO; rw [if_pos h1]; exact ⟨hc', [], SpT.nil0, Mem.nil _, fun p hp => by cases hp⟩
 refine wpM.skip ?_
 refine QM.then (wpM.seq (wpM.region ?_))
 refine LM.mv rfl ?_
 refine LM.callT (oc_call (enters_fn Tryz.func12 (by kernel_rfl) rfl) rfl) StT.mono (fun w hm hc hg => rsetup_spec 0 w hn13 (by omega) (hs13.srM (by intro _; rfl) hm)) ?_
 rintro u24 m24 ⟨sv, rfl, hsv, hin⟩ hge24
 refine LM.mv rfl ?_
 refine LM.val (ov_extract rfl rfl) ?_
 refine LM.val (ov_extract rfl rfl) ?_
 refine LM.val (ov_extract rfl rfl) ?_
 refine LM.alloc Tryz.zeroValue30 rfl (fun b8 hb8 => ?_)
 refine LM.stW Tryz.sizeOf30 rfl rfl rfl rfl au7 au8 ?_
 refine LM.as rfl ?_
 refine LM.as rfl ?_
 refine LM.nil (QM.sub (e' := [(0, _), (2, _), (5, _), (7, _), (8, _), (9, _)]) ⟨rfl, rfl, rfl, rfl, rfl, rfl, trivial⟩ (QM.then ?_))
 refine wpM.seq ?_
 refine wpM.seq (wpM.region ?_)
 refine LM.mv rfl ?_
 refine LM.val (ov_neq rfl rfl) ?_
 refine LM.nil (QM.sub (e' := [(0, _), (2, _), (5, _), (7, _), (8, _), (9, _), (29, _)]) ⟨rfl, rfl, rfl, rfl, rfl, rfl, rfl, trivial⟩ (QM.then ?_))
 refine wpM.condD rfl (fun h2 => ?_) (fun h2 => ?_)
 ·
  refine wpM.seq (wpM.region ?_)
  refine LM.val (ov_build (cs := #[_, _, _, _, _, _]) rfl (by first | rfl | kernel_rfl)) ?_
  refine LM.mv rfl ?_
  refine LM.mv rfl ?_
  refine LM.mv rfl ?_
  refine LM.callE (oc_call (enters_fn Tryz.func69 (by kernel_rfl) rfl) rfl) (fun w hm hc hg => rplace_spec s _ w hn13 (hs13.srM (by intro _; rfl) hm) (set_pos _ _)) ?_
  refine LM.mv rfl ?_
  refine LM.stW Tryz.sizeOf49 rfl rfl rfl rfl au7 au8 ?_
  refine LM.as rfl ?_
  refine LM.as rfl ?_
  refine LM.nil (QM.sub (e' := [(2, _), (3, _), (4, _)]) ⟨rfl, rfl, rfl, trivial⟩ (QM.then ?_))
  refine wpM.ret ?_
  refine QM.then_ret ?_
  refine QM.leaveCs (ds := ([])) (.inl rfl) [.cell 2 49, .tmp 3, .tmp 4] Tryz.results25 hd_nil (rc_w rfl Tryz.isAgg49 Tryz.sizeOf49 rfl (rc_tmp rfl (rc_tmp rfl rc_nil))) ?_
  intro w' hm' hc'
  unfold scriptO; rw [if_neg h1, if_pos h2]; exact ⟨hc', [], SpT.nil0, Mem.nil _, fun p hp => by cases hp⟩
 refine wpM.skip ?_
 refine QM.then (wpM.seq (wpM.region ?_))
 refine LM.mv rfl ?_
 refine LM.mv rfl ?_
 refine LM.callT (oc_call (enters_fn Tryz.func70 (by kernel_rfl) rfl) rfl) AcT.mono (fun w hm hc hg => raparse_spec _ w hn13 (by omega) (hs13.srM (by intro _; rfl) hm)) ?_
 rintro u39 m39 ⟨ad39, n39, cap39, rfl, hn39, hs39⟩ hge39
 refine LM.mv rfl ?_
 refine LM.val (ov_extract rfl rfl) ?_
 refine LM.val (ov_extract rfl rfl) ?_
 refine LM.val (ov_extract rfl rfl) ?_
 refine LM.as rfl ?_
 refine LM.as rfl ?_
 refine LM.as rfl ?_
 refine LM.nil (QM.sub (e' := [(0, _), (2, _), (5, _), (7, _), (8, _), (9, _), (10, _)]) ⟨rfl, rfl, rfl, rfl, rfl, rfl, rfl, trivial⟩ (QM.then ?_))
 refine wpM.seq ?_
 refine wpM.seq (wpM.region ?_)
 refine LM.mv rfl ?_
 refine LM.val (ov_neq rfl rfl) ?_
 refine LM.nil (QM.sub (e' := [(0, _), (2, _), (5, _), (7, _), (8, _), (9, _), (10, _), (44, _)]) ⟨rfl, rfl, rfl, rfl, rfl, rfl, rfl, rfl, trivial⟩ (QM.then ?_))
 refine wpM.condD rfl (fun h3 => ?_) (fun h3 => ?_)
 ·
  refine wpM.seq (wpM.region ?_)
  refine LM.val (ov_build (cs := #[_, _, _, _, _, _]) rfl (by first | rfl | kernel_rfl)) ?_
  refine LM.mv rfl ?_
  refine LM.mv rfl ?_
  refine LM.mv rfl ?_
  refine LM.callE (oc_call (enters_fn Tryz.func69 (by kernel_rfl) rfl) rfl) (fun w hm hc hg => rplace_spec s _ w hn13 (hs13.srM (by intro _; rfl) hm) (acts_pos _ _)) ?_
  refine LM.mv rfl ?_
  refine LM.stW Tryz.sizeOf49 rfl rfl rfl rfl au7 au8 ?_
  refine LM.as rfl ?_
  refine LM.as rfl ?_
  refine LM.nil (QM.sub (e' := [(2, _), (3, _), (4, _)]) ⟨rfl, rfl, rfl, trivial⟩ (QM.then ?_))
  refine wpM.ret ?_
  refine QM.then_ret ?_
  refine QM.leaveCs (ds := ([])) (.inl rfl) [.cell 2 49, .tmp 3, .tmp 4] Tryz.results25 hd_nil (rc_w rfl Tryz.isAgg49 Tryz.sizeOf49 rfl (rc_tmp rfl (rc_tmp rfl rc_nil))) ?_
  intro w' hm' hc'
  unfold scriptO; rw [if_neg h1, if_neg h2, if_pos h3]; exact ⟨hc', [], SpT.nil0, Mem.nil _, fun p hp => by cases hp⟩
 refine wpM.skip ?_
 refine QM.then (wpM.seq (wpM.region ?_))
 refine LM.rd (om_ldW Tryz.isAgg30 Tryz.sizeOf30 rfl rfl) ?_
 refine LM.mv rfl ?_
 refine LM.val (ov_build (cs := #[_, _, _, _, _, _]) rfl (by first | rfl | kernel_rfl)) ?_
 refine LM.stW Tryz.sizeOf49 rfl rfl rfl rfl au7 au8 ?_
 refine LM.as rfl ?_
 refine LM.as rfl ?_
 refine LM.nil (QM.sub (e' := [(2, _), (3, _), (4, _)]) ⟨rfl, rfl, rfl, trivial⟩ (QM.then ?_))
 refine wpM.ret ?_
 refine QM.leaveCs (ds := ([])) (.inl rfl) [.cell 2 49, .tmp 3, .tmp 4] Tryz.results25 hd_nil (rc_w rfl Tryz.isAgg49 Tryz.sizeOf49 rfl (rc_tmp rfl (rc_tmp rfl rc_nil))) ?_
 intro w' hm' hc'
 unfold scriptO; rw [if_neg h1, if_neg h2, if_neg h3]; refine ⟨hc', m39 ++ (m24 ++ []), ⟨⟨sv, _, ad39, n39, cap39⟩, rfl, hsv, rfl, fun w hm => ⟨hin w (hm.pick m24), hn39, hs39.srM (by intro _; rfl) hm⟩⟩, SubM.mem (by (repeat' (first | exact SubM.nil _ | refine SubM.app ?_))) w' hm', ?_⟩; intro p hp; simp only [List.mem_append, List.not_mem_nil, or_false] at hp; rcases hp with hp | hp; exact hge39 p hp; exact hge24 p hp
end Go.Eng
