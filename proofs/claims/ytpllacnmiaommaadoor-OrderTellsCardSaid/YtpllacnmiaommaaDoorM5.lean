/- The walk of the document's parser of setups. No condition. -/
import Derived.Test.YtpllacnmiaommaaDoorM2
import Derived.Test.YtpllacnmiaommaaDoorM4
import Derived.Test.YtpllacnmiaommaaDoorM1
set_option linter.unusedVariables false
set_option linter.unusedSimpArgs false
set_option maxRecDepth 100000
namespace Go.Eng
open Go Go.Proofs Go.RowKit
def gpM (ws : List Wrd) (i : Nat) (e : Int) (gs : List Int) : List Int × Nat × Int := if gs.length = 0 then (if e = 0 then gpO ws i e else ([], i, e)) else gpL ws i e gs
theorem gpM_stop {ws : List Wrd} {i : Nat} {e : Int} {gs : List Int} (h : (isE ws i e 1 wGroup || (decide (gs.length = 0) && decide (e = 0))) = false) : gpM ws i e gs = (gs, i, e) := by
  simp only [Bool.or_eq_false_iff, Bool.and_eq_false_iff, decide_eq_false_iff_not] at h
  unfold gpM
  by_cases h0 : gs.length = 0
  · rw [if_pos h0, if_neg (h.2.resolve_left (fun q => q h0)), List.length_eq_zero_iff.1 h0]
  · rw [if_neg h0, gpL_stop h.1]
theorem gpM_full {ws : List Wrd} {i : Nat} {e : Int} {gs : List Int} (h : isE ws i e 1 wGroup = true) (hl : 4 ≤ gs.length) : gpM ws i e gs = (gs, i, 6) := by
  unfold gpM; rw [if_neg om, gpL_full h hl]
theorem gpM_next {ws : List Wrd} {i : Nat} {e : Int} {gs : List Int} (h : (isE ws i e 1 wGroup || (decide (gs.length = 0) && decide (e = 0))) = true) (hl : gs.length < 4) : gpM ws i e gs = gpM ws (linE ws i e wGroup 16).1 (linE ws i e wGroup 16).2.1 (gs ++ [(linE ws i e wGroup 16).2.2]) := by
  simp only [Bool.or_eq_true, Bool.and_eq_true, decide_eq_true_eq] at h
  unfold gpM
  rw [if_neg (show ¬ (gs ++ [(linE ws i e wGroup 16).2.2]).length = 0 by simp)]
  by_cases h0 : gs.length = 0
  · have he : e = 0 := h.elim (fun q => (isE_lt q).2) (fun q => q.2)
    rw [if_pos h0, if_pos he, List.length_eq_zero_iff.1 h0]; rfl
  · rw [if_neg h0, gpL_next (h.resolve_right (fun q => h0 q.1)) hl]
theorem gpM_sG {ws : List Wrd} {i0 : Nat} {gs : List Int} {i : Nat} {e : Int} (h : gpM ws (sB2 ws i0).1 (sB2 ws i0).2.1 [] = (gs, i, e)) : (sG ws i0).2 = (i, e) ∧ (e = 0 → sG ws i0 = (gs, i, e)) := by
  unfold gpM at h
  rw [if_pos (show ([] : List Int).length = 0 from rfl)] at h
  unfold sG
  by_cases h0 : (sB2 ws i0).2.1 = 0
  · rw [if_pos h0] at h; rw [h]; exact ⟨rfl, fun _ => rfl⟩
  · rw [if_neg h0] at h
    simp only [Prod.mk.injEq] at h
    obtain ⟨_, h2, h3⟩ := h
    rw [← h2, ← h3]
    refine ⟨?_, fun q => absurd q h0⟩
    unfold gpO; rw [lin_bad h0]; simp only; rw [gpL_stop (isE_bad h0)]
theorem isP_eq {ws : List Wrd} {i : Nat} {e : Int} {ps : List PgC} : isP ws i e ps = (isE ws i e 1 wProg || (decide (ps.length = 0) && decide (e = 0))) := by
  unfold isP
  by_cases h : e = 0
  · rw [decide_eq_true h, Bool.true_and, Bool.and_true, Bool.or_comm]
  · rw [isE_bad h, decide_eq_false h]; simp
structure SetI (ws : List Wrd) (i0 : Nat) (gs : List Int) (i1 : Nat) (e1 : Int) (ls : List CLk) (i2 : Nat) (e2 : Int) (ps : List PgC) (pl : List Int) (i3 : Nat) (e3 : Int) : Prop where
  g : (sG ws i0).2 = (i1, e1) ∧ (e1 = 0 → (sG ws i0).1 = gs)
  l : lkL ws i1 e1 [] = (ls, i2, e2)
  p : pgL ws i2 e2 [] [] = (ps, pl, i3, e3)
theorem SetI.two {ws : List Wrd} {i0 : Nat} {gs : List Int} {i1 : Nat} {e1 : Int} {ls : List CLk} {i2 : Nat} {e2 : Int} {ps : List PgC} {pl : List Int} {i3 : Nat} {e3 : Int} (h : SetI ws i0 gs i1 e1 ls i2 e2 ps pl i3 e3) : sL ws i0 = (ls, i2, e2) ∧ sP ws i0 = (ps, pl, i3, e3) := by
  have a : sL ws i0 = (ls, i2, e2) := by unfold Go.Eng.sL; rw [h.g.1]; exact h.l
  exact ⟨a, by unfold sP; rw [a]; exact h.p⟩
theorem SetI.bad {ws : List Wrd} {i0 : Nat} {gs : List Int} {i1 : Nat} {e1 : Int} {ls : List CLk} {i2 : Nat} {e2 : Int} {ps : List PgC} {pl : List Int} {i3 : Nat} {e3 : Int} (h : SetI ws i0 gs i1 e1 ls i2 e2 ps pl i3 e3) (he : e3 ≠ 0) : stpR ws i0 = (default, (i3 : Int), e3) := by
  unfold stpR; rw [h.two.2]; simp only; rw [if_pos he]
theorem SetI.mis {ws : List Wrd} {i0 : Nat} {gs : List Int} {i1 : Nat} {e1 : Int} {ls : List CLk} {i2 : Nat} {e2 : Int} {ps : List PgC} {pl : List Int} {i3 : Nat} {e3 : Int} (h : SetI ws i0 gs i1 e1 ls i2 e2 ps pl i3 e3) (he : e3 = 0) {j : Nat} (hj : j < ps.length) (h0 : (ps.take j).any (misB ls ps.length) = false) (h1 : misB ls ps.length (ps.getD j default) = true) : stpR ws i0 = (default, pl.getD j 0, (ckO (ps.getD j default).fv (ps.getD j default).xs ls (ps.length : Int)).2) := by
  have e := fix_hit default h0 hj h1
  have e' : misI ls ps = (j : Nat) := e
  unfold stpR; rw [h.two.2, h.two.1]; simp only; rw [if_neg (by simp [he]), e', if_pos om, Int.toNat_natCast]
  unfold misE; rw [if_neg om, Int.toNat_natCast]
theorem SetI.ok {ws : List Wrd} {i0 : Nat} {gs : List Int} {i1 : Nat} {e1 : Int} {ls : List CLk} {i2 : Nat} {e2 : Int} {ps : List PgC} {pl : List Int} {i3 : Nat} {e3 : Int} (h : SetI ws i0 gs i1 e1 ls i2 e2 ps pl i3 e3) (he : e3 = 0) (h0 : ps.any (misB ls ps.length) = false) : stpR ws i0 = (⟨(sA ws i0).2.2, (sB2 ws i0).2.2, gs, ls, ps⟩, (i3 : Int), 0) := by
  have z2 : e2 = 0 := by
    have := pgF_zero (ws := ws) _ i2 e2 [] [] (by have := h.p; unfold pgL at this; rw [this]; exact he)
    exact this
  have z1 : e1 = 0 := by
    have := lkF_zero (ws := ws) _ i1 e1 [] (by have := h.l; unfold lkL at this; rw [this]; exact z2)
    exact this
  have e' : misI ls ps = -1 := fix_miss h0
  unfold stpR; rw [h.two.2, h.two.1]; simp only; rw [if_neg (by simp [he]), e', if_neg (by decide), h.g.2 z1]
theorem par_pos {ws : List Wrd} {i : Nat} (h : i ≤ ws.length) : 0 ≤ (parseO ws (i : Int)).2.2.1 ∧ (parseO ws (i : Int)).2.2.1.toNat ≤ ws.length := by
  have key : ∀ (f i : Nat) (ops : List COp), i ≤ ws.length → 0 ≤ (loopP f ws i ops).2.1 ∧ (loopP f ws i ops).2.1.toNat ≤ ws.length := by
    intro f
    induction f with
    | zero => intro i ops hi; exact ⟨by show (0 : Int) ≤ (i : Int); omega, by show ((i : Int)).toNat ≤ _; omega⟩
    | succ f ih =>
      intro i ops hi
      unfold loopP
      split
      · rename_i q
        have := isR_lt q
        split
        · exact ⟨by show (0 : Int) ≤ (i : Int); omega, by show ((i : Int)).toNat ≤ _; omega⟩
        · exact ⟨by show (0 : Int) ≤ ((i + 1 : Nat) : Int); omega, by show (((i + 1 : Nat) : Int)).toNat ≤ _; omega⟩
      · have hp := opR_pos (k := ops.length) hi
        split
        · exact ⟨by show (0 : Int) ≤ ((opR ws i ops.length).1 : Int); omega, by show (((opR ws i ops.length).1 : Int)).toNat ≤ _; omega⟩
        · exact ih _ _ hp
  rw [parse_nat h]
  simp only
  unfold bodyR
  split
  · rename_i q
    have := isR_lt q
    have hh : (headR ws i).2 ≤ ws.length := by
      unfold headR; simp only; split
      · rename_i q; have := isR_lt q; omega
      · omega
    split
    · rename_i q2
      have := isR_lt q2
      exact key _ _ _ om
    · exact ⟨by show (0 : Int) ≤ ((headR ws i).2 : Int); omega, by show (((headR ws i).2 : Int)).toNat ≤ _; omega⟩
  · exact ⟨by show (0 : Int) ≤ (i : Int); omega, by show ((i : Int)).toNat ≤ _; omega⟩
def StT (r : StC × Int × Int) (n0 : Nat) (v : Value) (m : Mem0) : Prop := ∃ sv : StV, v = .tuple #[sv.val, .int .i64 r.2.1, .int .i64 r.2.2] ∧ sv.C = r.1 ∧ ∀ w, Mem w m → sv.In w
theorem StT.mono {r : StC × Int × Int} : ∀ (k k' : Nat) u m, k' ≤ k → StT r k u m → StT r k' u m := fun k k' u m h q => q
theorem StT.none {p e : Int} {n0 : Nat} : StT (default, p, e) n0 (.tuple #[(default : StV).val, .int .i64 p, .int .i64 e]) [] :=
  ⟨default, rfl, rfl, fun w _ => ⟨rfl, .nil _ _ _, rfl, .nil _ _ _, rfl, .nil _ _ _, fun p hp => by cases hp⟩⟩
abbrev sO (c g : Int) (ga : Option Addr) (gn gc : Nat) (la : Option Addr) (ln lc : Nat) (pa : Option Addr) (pn pc : Nat) : Obj := .cells #[.int .i64 c, .int .i64 g, .slice ga gn gc, .slice la ln lc, .slice pa pn pc] 26 (0, 0)
abbrev z0 : Obj := sO 0 0 none 0 0 none 0 0 none 0 0
theorem snoc_map {ps : List PgV} {p : PgV} : (ps ++ [p]).map PgV.c = ps.map PgV.c ++ [p.c] := by simp
theorem snoc_in {ps : List PgV} {p : PgV} {w : World} (h : PgsIn ps w) (k : p.In w) : PgsIn (ps ++ [p]) w := fun q hq => by
  rcases List.mem_append.1 hq with hq | hq
  · exact h q hq
  · rw [List.mem_singleton] at hq; subst hq; exact k
theorem sr_of_sl {α : Type} {f : α → List Value} {E s n0 : Nat} {xs : List α} {v : Value} {m : Mem0} {w : World} (h : Sl f E s n0 xs v m) (hf : ∀ a, (f a).length = s) (hm : Mem w m) : Sr f s xs v w := h.sr hf (fun p hp => hm.2 p hp)
theorem cond0 (n : Nat) : decide ((n : Int) = 0) = decide (n = 0) := decide_eq_decide.2 om
set_option maxHeartbeats 4000000 in
theorem rsetup_spec {ws : List Wrd} {ad : Option Addr} {n cap : Nat} (p : Int) (w : World) (hn : n = ws.length) (hx : ws.length ≤ 1000000000) (hl : Sr fW 4 ws (.slice ad n cap) w) : Ret Tryd.prog 41 #[.slice ad n cap, .int .i64 p] w (fun v w' => Ext w w' ∧ ∃ m, StT (setO ws p) w.heap.size v m ∧ Mem w' m ∧ ∀ p ∈ m, w.heap.size ≤ p.1) := by
 refine Ret.enterM Tryd.func41 rfl Tryd.ntmps41 rfl ([]) (no) (Mem.nil w) ?_
 refine wR ?_
 refine LM.alloc Tryd.zeroValue26 rfl (fun b4 hb4 => ?_)
 refine LM.as rfl <| LM.as rfl <| nA [(0, _), (1, _), (4, _)] <| wpM.seq <| wR <| LM.mv rfl <| LM.val (ov_lss rfl rfl) <| LM.mv rfl ?_
 refine LM.splitD (t := 19) rfl (fun h1 => ?_) (fun h1 => ?_)
 ·
  refine LM.dr 19 rfl rfl rfl <| LM.dr 19 rfl rfl rfl <| LM.dr 19 rfl rfl rfl <| LM.dr 19 rfl rfl rfl <| LM.val (ov_pickT rfl rfl) <| nA [(0, _), (1, _), (4, _), (24, _)] ?_
  refine wpM.condT rfl ?_
  refine wR ?_
  refine LM.val (ov_build (cs := #[_, _, _, _, _]) rfl (by first | rfl | kernel_rfl)) ?_
  refine LM.stW Tryd.sizeOf26 rfl rfl rfl rfl au7 au8 ?_
  refine LM.as rfl <| LM.as rfl <| nA [(4, _), (5, _), (6, _)] <| wpM.ret <| QM.then_ret ?_
  refine QM.leaveCs (ds := ([])) (.inl rfl) [.cell 4 26, .tmp 5, .tmp 6] Tryd.results41 hd_nil (rc_w rfl Tryd.isAgg26 Tryd.sizeOf26 rfl (rc_tmp rfl (rc_tmp rfl rc_nil))) ?_
  intro w' hm' hc'
  have hpar : setO ws p = (default, 0, 5) := (by unfold setO; rw [if_pos om]); rw [hpar]; exact ⟨hc', [], StT.none, Mem.nil _, fun p hp => by cases hp⟩
 refine LM.sp 19 rfl rfl rfl <| LM.mv rfl <| LM.sp 19 rfl rfl rfl <| LM.mv rfl <| LM.sp 19 rfl rfl rfl <| LM.val (ov_len Tryd.underlying85 rfl) <| LM.sp 19 rfl rfl rfl <| LM.val (ov_gtr rfl rfl) <| LM.val (ov_pickF rfl rfl) <| nA [(0, _), (1, _), (4, _), (24, _)] ?_
 refine wpM.condD rfl (fun h2 => ?_) (fun h2 => ?_)
 ·
  refine wR ?_
  refine LM.val (ov_build (cs := #[_, _, _, _, _]) rfl (by first | rfl | kernel_rfl)) ?_
  refine LM.stW Tryd.sizeOf26 rfl rfl rfl rfl au7 au8 ?_
  refine LM.as rfl <| LM.as rfl <| nA [(4, _), (5, _), (6, _)] <| wpM.ret <| QM.then_ret ?_
  refine QM.leaveCs (ds := ([])) (.inl rfl) [.cell 4 26, .tmp 5, .tmp 6] Tryd.results41 hd_nil (rc_w rfl Tryd.isAgg26 Tryd.sizeOf26 rfl (rc_tmp rfl (rc_tmp rfl rc_nil))) ?_
  intro w' hm' hc'
  have hpar : setO ws p = (default, 0, 5) := (by unfold setO; rw [if_pos om]); rw [hpar]; exact ⟨hc', [], StT.none, Mem.nil _, fun p hp => by cases hp⟩
 obtain ⟨i0, rfl⟩ : ∃ i0 : Nat, p = (i0 : Nat) := ⟨p.toNat, by omega⟩; have hi0 : i0 ≤ ws.length := om
 refine wpM.skip <| tR <| LM.mv rfl <| LM.mv rfl ?_
 refine LM.val (ov_build (cs := #[_, _, _]) rfl (by first | rfl | kernel_rfl)) ?_
 refine LM.box rfl rfl (fun b29 hb29 => ?_)
 refine LM.as rfl <| nB [(0, _), (4, _), (7, _)] ?_
 have hab29 : 0 < ws.length → adB ad ≠ b29 := (fun h0 => by have := hl.adlt h0; omega)
 refine LM.val (ov_build (cs := #[_, _, _, _, _]) rfl (by first | rfl | kernel_rfl)) ?_
 refine LM.alloc Tryd.zeroValue26 rfl (fun b8 hb8 => ?_)
 refine LM.stW Tryd.sizeOf26 rfl rfl rfl rfl au7 au8 ?_
 refine nB [(0, _), (4, _), (7, _), (8, _)] <| LM.mv rfl ?_
 refine LM.cW (oc_call (enters_fn Tryd.func59 kr rfl) rfl) (fun w hm hc hg => qfield_spec b29 i0 0 4 wCores w hn hx (hl.ext hc) hab29 (SubM.mem au1 w hm)) rfl au8 ?_
 refine LM.val (ovf 3 rfl rfl rfl rfl) ?_
 refine LM.st Tryd.sizeOf3 rfl rfl rfl au5 rfl au8 ?_
 refine nB [(0, _), (4, _), (7, _), (8, _)] <| LM.mv rfl ?_
 refine LM.cW (oc_call (enters_fn Tryd.func60 kr rfl) rfl) (fun w hm hc hg => qneed_spec b29 (fldE ws i0 0 wCores 4).1 (fldE ws i0 0 wCores 4).2.1 3 [59] w hn hx (hl.ext hc) hab29 (SubM.mem au1 w hm)) rfl au8 ?_
 refine nB [(0, _), (4, _), (7, _), (8, _)] <| LM.mv rfl ?_
 refine LM.cW (oc_call (enters_fn Tryd.func59 kr rfl) rfl) (fun w hm hc hg => qfield_spec b29 (sA ws i0).1 (sA ws i0).2.1 8 wGrain w hn hx (hl.ext hc) hab29 (SubM.mem au1 w hm)) rfl au8 ?_
 refine LM.val (ovf 3 rfl rfl rfl rfl) ?_
 refine LM.st Tryd.sizeOf3 rfl rfl rfl au5 rfl au8 ?_
 refine nB [(0, _), (4, _), (7, _), (8, _)] <| LM.mv rfl ?_
 refine LM.cW (oc_call (enters_fn Tryd.func60 kr rfl) rfl) (fun w hm hc hg => qneed_spec b29 (fldE ws (sA ws i0).1 (sA ws i0).2.1 wGrain 8).1 (fldE ws (sA ws i0).1 (sA ws i0).2.1 wGrain 8).2.1 3 [59] w hn hx (hl.ext hc) hab29 (SubM.mem au1 w hm)) rfl au8 ?_
 refine nA [(0, _), (4, _), (7, _), (8, _)] <| wpM.seq ?_
 refine wpM.joinK (α := Nat × Int × List Int × Option Addr × Nat × Nat × Mem0) (fun ⟨i1, e1, gs, adg, ng, cg, mg⟩ => []) [(0, _), (4, _), (7, _), (8, _)] (fun ⟨i1, e1, gs, adg, ng, cg, mg⟩ => mg ++ qB b29 ad n cap i1 e1 :: (b8, sO (sA ws i0).2.2 (sB2 ws i0).2.2 adg ng cg none 0 0 none 0 0) :: (b4, z0) :: []) (fun ⟨i1, e1, gs, adg, ng, cg, mg⟩ => gpM ws (sB2 ws i0).1 (sB2 ws i0).2.1 [] = (gs, i1, e1) ∧ i1 ≤ ws.length ∧ gs.length ≤ 4 ∧ ng = gs.length ∧ Sl fI 3 1 w.heap.size gs (.slice adg ng cg) mg) ⟨rfl, rfl, rfl, rfl, trivial⟩ ?_ ?_
 ·
  refine wpM.block ?_
  refine wpM.loopK0 (α := Nat × Int × List Int × Option Addr × Nat × Nat × Mem0) (fun ⟨i, e, gs, adg, ng, cg, mg⟩ => []) [(0, _), (4, _), (7, _), (8, _)] (fun ⟨i, e, gs, adg, ng, cg, mg⟩ => mg ++ qB b29 ad n cap i e :: (b8, sO (sA ws i0).2.2 (sB2 ws i0).2.2 adg ng cg none 0 0 none 0 0) :: (b4, z0) :: []) (fun ⟨i, e, gs, adg, ng, cg, mg⟩ => gpM ws i e gs = gpM ws (sB2 ws i0).1 (sB2 ws i0).2.1 [] ∧ i ≤ ws.length ∧ gs.length ≤ 4 ∧ ng = gs.length ∧ Sl fI 3 1 w.heap.size gs (.slice adg ng cg) mg) (fun ⟨i, e, gs, adg, ng, cg, mg⟩ => 5 - gs.length) (((sB2 ws i0).1, (sB2 ws i0).2.1, [], none, 0, 0, [])) ⟨rfl, rfl, rfl, rfl, trivial⟩ au1 ⟨rfl, lin_le (lin_le om), by decide, rfl, .nil _ _ _ _⟩ ?_
  rintro ⟨i, e, gs, adg, ng, cg, mg⟩ ⟨hG, hi, hg4, hng, hsg⟩
  change wpM _ _ _ _ _ _ _ (mg ++ qB b29 ad n cap i e :: (b8, sO (sA ws i0).2.2 (sB2 ws i0).2.2 adg ng cg none 0 0 none 0 0) :: (b4, z0) :: []) _ _ _
  refine wpM.seq <| wpM.seq ?_
  refine wpM.joinK (α := Bool) (fun q => [(55, .bool q)]) [(0, _), (4, _), (7, _), (8, _)] (fun q => mg ++ qB b29 ad n cap i e :: (b8, sO (sA ws i0).2.2 (sB2 ws i0).2.2 adg ng cg none 0 0 none 0 0) :: (b4, z0) :: []) (fun q => q = (isE ws i e 1 wGroup || (decide ((ng : Int) = 0) && decide (e = 0)))) ⟨rfl, rfl, rfl, rfl, trivial⟩ ?_ ?_
  ·
   refine wpM.region ?_
   refine LM.mv rfl ?_
   refine cE Tryd.func61 rfl (fun w hm hc hg => qis_spec b29 i e 1 wGroup w hn (hl.ext hc) (SubM.mem au1 w hm)) ?_
   refine LM.mv rfl ?_
   refine LM.splitB (t := 43) rfl (fun h3 => ?_) (fun h3 => ?_)
   ·
    refine LM.dr 43 rfl rfl rfl <| LM.dr 43 rfl rfl rfl <| LM.dr 43 rfl rfl rfl <| LM.dr 43 rfl rfl rfl ?_
    refine LM.dropU (t := 43) rfl rfl rfl ?_
    refine LM.dropX (t := 48) rfl rfl ?_
    refine LM.dropX (t := 48) rfl rfl ?_
    refine LM.dropX (t := 48) rfl rfl ?_
    refine LM.dropX (t := 48) rfl rfl ?_
    refine LM.dropX (t := 48) rfl rfl ?_
    refine LM.dr 43 rfl rfl rfl <| LM.val (ov_pickT rfl rfl) <| nC [(0, _), (4, _), (7, _), (8, _), (55, _)] ?_
    refine QM.meetK (_) ⟨au2, rfl, rfl, rfl, rfl, trivial⟩ au1 ?_
    · (simp [h1, h2, h3]; done)
   refine LM.sp 43 rfl rfl rfl <| LM.val (ovf 22 rfl rfl rfl rfl) <| LM.sp 43 rfl rfl rfl ?_
   refine LM.rd (oml rfl rfl rfl) ?_
   refine LM.sp 43 rfl rfl rfl <| LM.val (ov_len Tryd.underlying22 rfl) <| LM.sp 43 rfl rfl rfl <| LM.val (ov_eql rfl rfl) <| LM.sp 43 rfl rfl rfl <| LM.mv rfl ?_
   refine LM.splitD (t := 48) rfl (fun h4 => ?_) (fun h4 => ?_)
   ·
    refine LM.sp 48 rfl rfl rfl <| LM.mv rfl <| LM.sp 48 rfl rfl rfl <| LM.nc rfl <| LM.sp 48 rfl rfl rfl <| LM.val (ovf 3 rfl rfl rfl rfl) <| LM.sp 48 rfl rfl rfl ?_
    refine LM.rd (oml rfl rfl rfl) ?_
    refine LM.sp 48 rfl rfl rfl <| LM.val (ov_eql rfl rfl) <| LM.sp 43 rfl rfl rfl <| LM.val (ov_pickT rfl rfl) <| LM.val (ov_pickF rfl rfl) <| nC [(0, _), (4, _), (7, _), (8, _), (55, _)] ?_
    refine QM.meetK (_) ⟨au2, rfl, rfl, rfl, rfl, trivial⟩ au1 ?_
    · (simp [h1, h2, h3, h4]; done)
   refine LM.dr 48 rfl rfl rfl <| LM.dr 48 rfl rfl rfl <| LM.dr 48 rfl rfl rfl <| LM.dr 48 rfl rfl rfl <| LM.dr 48 rfl rfl rfl <| LM.sp 43 rfl rfl rfl <| LM.val (ov_pickF rfl rfl) <| LM.val (ov_pickF rfl rfl) <| nC [(0, _), (4, _), (7, _), (8, _), (55, _)] ?_
   refine QM.meetK (_) ⟨au2, rfl, rfl, rfl, rfl, trivial⟩ au1 ?_
   · (have h0 := decide_eq_false (show ¬ ((ng : Nat) : Int) = 0 by omega); simp only [h0, h1, h2, h3, h4, Bool.false_and, Bool.or_false]; rfl)
  rintro q hq
  change QM _ _ _ _ _ (mg ++ qB b29 ad n cap i e :: (b8, sO (sA ws i0).2.2 (sB2 ws i0).2.2 adg ng cg none 0 0 none 0 0) :: (b4, z0) :: []) _ _ _
  refine QM.then ?_
  refine wpM.condB rfl (fun h5 => ?_) (fun h5 => ?_)
  ·
   have hQ : (isE ws i e 1 wGroup || (decide (gs.length = 0) && decide (e = 0))) = true := (by rw [← h5, hq, hng, cond0])
   refine wpM.skip <| QM.then <| wpM.block <| wpM.seq <| wR <| LM.mv rfl ?_
   refine cE Tryd.func61 rfl (fun w hm hc hg => qis_spec b29 i e 1 wGroup w hn (hl.ext hc) (SubM.mem au1 w hm)) ?_
   refine LM.mv rfl ?_
   refine LM.splitB (t := 58) rfl (fun h6 => ?_) (fun h6 => ?_)
   ·
    refine LM.sp 58 rfl rfl rfl <| LM.mv rfl <| LM.sp 58 rfl rfl rfl <| LM.val (ovf 22 rfl rfl rfl rfl) <| LM.sp 58 rfl rfl rfl ?_
    refine LM.rd (oml rfl rfl rfl) ?_
    refine LM.sp 58 rfl rfl rfl <| LM.val (ov_len Tryd.underlying22 rfl) <| LM.sp 58 rfl rfl rfl ?_
    refine LM.cW (oc_call (enters_fn Tryd.func62 kr rfl) rfl) (fun w hm hc hg => qlong_spec (ws := ws) b29 i e (ng : Nat) 4 w (SubM.mem au1 w hm)) rfl au8 ?_
    refine LM.val (ov_pickT rfl rfl) <| nA [(0, _), (4, _), (7, _), (8, _), (64, _)] ?_
    refine wpM.condB rfl (fun h7 => ?_) (fun h7 => ?_)
    ·
     have he0 := (isE_lt h6).2; have h4 : (4 : Int) ≤ (ng : Nat) := (by simpa [he0] using h7); rw [if_pos ⟨he0, h4⟩]
     refine wpM.exit <| QM.then_exit <| QM.block_miss rfl <| QM.then_exit <| QM.block_hit ?_
     refine QM.meetK ((i, 6, gs, adg, ng, cg, mg)) ⟨rfl, rfl, rfl, rfl, trivial⟩ au1 ?_
     · exact ⟨by rw [← hG]; exact gpM_full h6 om, hi, hg4, hng, hsg⟩
    have h4 : ¬ (4 : Int) ≤ (ng : Nat) := (fun q => by rw [decide_eq_true q] at h7; simp at h7); rw [if_neg (fun q => h4 q.2)]
    refine wpM.skip <| QM.then <| wpM.seq ?_
    refine wpM.keep ((b8, _) :: []) (fun _ => True) (.one 0 0 (.one 1 1 (.one 2 0 (.one 3 2 (.one 4 2 (.one 5 2 (.one 6 0 (.last 7)))))))) kr kr au1 (fun _ _ => trivial) ?_
    refine KD.val rfl rfl (ovf 22 rfl rfl rfl rfl) ?_
    refine KD.rd rfl rfl (oml rfl rfl rfl) ?_
    refine KD.val rfl rfl (ov_move rfl) <| KD.one rfl ?_
    refine LM.cW (oc_call (enters_fn Tryd.func59 kr rfl) rfl) (fun w hm hc hg => qfield_spec b29 i e 16 wGroup w hn hx (hl.ext hc) hab29 (SubM.mem au1 w hm)) rfl au8 ?_
    refine LM.nil ?_
    refine kq1 ?_
    refine KD.one rfl ?_
    refine LM.single Tryd.underlying22 Tryd.sizeOf3 Tryd.zeroValue3 rfl rfl rfl rfl rfl (fun b69 hb69 => ?_)
    refine LM.nil ?_
    refine kq1 ?_
    refine KD.one rfl ?_
    refine LM.app (a := (fldE ws i e wGroup 16).2.2) Tryd.underlying22 Tryd.typeInfo3 rfl rfl rfl rfl rfl rfl rfl asm (by rfl) ir (by intro _ u hu; simp [fI] at hu; (repeat (first | (rcases hu with rfl | hu) | subst hu | rfl))) (by first | exact Nat.le_refl _ | omega) au10 (by first | omega | (unfold maxLen; omega)) (by simp only [Tryd.t3]; omega) (fun ad70 n70 cap70 m70 hn70 hs70 hin70 => ?_)
    refine LM.nil ?_
    refine kq1 ?_
    refine KD.val rfl rfl (ovf 22 rfl rfl rfl rfl) ?_
    refine KD.last rfl ?_
    refine LM.st Tryd.sizeOf22 rfl rfl rfl au5 rfl au8 ?_
    refine LM.nil ?_
    refine QM.qn ?_
    refine QM.sub (e' := [(0, _), (4, _), (7, _), (8, _)]) au9 (QM.then (wpM.region ?_))
    refine LM.mv rfl ?_
    refine LM.cW (oc_call (enters_fn Tryd.func60 kr rfl) rfl) (fun w hm hc hg => qneed_spec b29 (fldE ws i e wGroup 16).1 (fldE ws i e wGroup 16).2.1 3 [59] w hn hx (hl.ext hc) hab29 (SubM.mem au1 w hm)) rfl au8 ?_
    refine nC [(0, _), (4, _), (7, _), (8, _)] <| QM.block_normal ?_
    refine QM.againK (((linE ws i e wGroup 16).1, (linE ws i e wGroup 16).2.1, gs ++ [(linE ws i e wGroup 16).2.2], ad70, n70, cap70, m70)) ⟨rfl, rfl, rfl, rfl, trivial⟩ au1 (fun _ h => h) ?_ ?_
    · exact ⟨by rw [← gpM_next hQ om]; exact hG, lin_le hi, by simp; omega, by rw [hn70]; simp, hs70⟩
    · dsimp only; rw [List.length_append, List.length_singleton]; omega
   have hg0 : gs.length = 0 := (by have h := hQ; simp only [h6, Bool.false_or, Bool.and_eq_true, decide_eq_true_eq] at h; exact h.1)
   refine LM.dr 58 rfl rfl rfl <| LM.dr 58 rfl rfl rfl <| LM.dr 58 rfl rfl rfl <| LM.dr 58 rfl rfl rfl <| LM.dr 58 rfl rfl rfl <| LM.val (ov_pickF rfl rfl) <| nA [(0, _), (4, _), (7, _), (8, _), (64, _)] ?_
   refine wpM.condF rfl ?_
   refine wpM.skip <| QM.then <| wpM.seq ?_
   refine wpM.keep ((b8, _) :: []) (fun _ => True) (.one 0 0 (.one 1 1 (.one 2 0 (.one 3 2 (.one 4 2 (.one 5 2 (.one 6 0 (.last 7)))))))) kr kr au1 (fun _ _ => trivial) ?_
   refine KD.val rfl rfl (ovf 22 rfl rfl rfl rfl) ?_
   refine KD.rd rfl rfl (oml rfl rfl rfl) ?_
   refine KD.val rfl rfl (ov_move rfl) <| KD.one rfl ?_
   refine LM.cW (oc_call (enters_fn Tryd.func59 kr rfl) rfl) (fun w hm hc hg => qfield_spec b29 i e 16 wGroup w hn hx (hl.ext hc) hab29 (SubM.mem au1 w hm)) rfl au8 ?_
   refine LM.nil ?_
   refine kq1 ?_
   refine KD.one rfl ?_
   refine LM.single Tryd.underlying22 Tryd.sizeOf3 Tryd.zeroValue3 rfl rfl rfl rfl rfl (fun b69 hb69 => ?_)
   refine LM.nil ?_
   refine kq1 ?_
   refine KD.one rfl ?_
   refine LM.app (a := (fldE ws i e wGroup 16).2.2) Tryd.underlying22 Tryd.typeInfo3 rfl rfl rfl rfl rfl rfl rfl asm (by rfl) ir (by intro _ u hu; simp [fI] at hu; (repeat (first | (rcases hu with rfl | hu) | subst hu | rfl))) (by first | exact Nat.le_refl _ | omega) au10 (by first | omega | (unfold maxLen; omega)) (by simp only [Tryd.t3]; omega) (fun ad70 n70 cap70 m70 hn70 hs70 hin70 => ?_)
   refine LM.nil ?_
   refine kq1 ?_
   refine KD.val rfl rfl (ovf 22 rfl rfl rfl rfl) ?_
   refine KD.last rfl ?_
   refine LM.st Tryd.sizeOf22 rfl rfl rfl au5 rfl au8 ?_
   refine LM.nil ?_
   refine QM.qn ?_
   refine QM.sub (e' := [(0, _), (4, _), (7, _), (8, _)]) au9 (QM.then (wpM.region ?_))
   refine LM.mv rfl ?_
   refine LM.cW (oc_call (enters_fn Tryd.func60 kr rfl) rfl) (fun w hm hc hg => qneed_spec b29 (fldE ws i e wGroup 16).1 (fldE ws i e wGroup 16).2.1 3 [59] w hn hx (hl.ext hc) hab29 (SubM.mem au1 w hm)) rfl au8 ?_
   refine nC [(0, _), (4, _), (7, _), (8, _)] <| QM.block_normal ?_
   refine QM.againK (((linE ws i e wGroup 16).1, (linE ws i e wGroup 16).2.1, gs ++ [(linE ws i e wGroup 16).2.2], ad70, n70, cap70, m70)) ⟨rfl, rfl, rfl, rfl, trivial⟩ au1 (fun _ h => h) ?_ ?_
   · exact ⟨by rw [← gpM_next hQ om]; exact hG, lin_le hi, by simp; omega, by rw [hn70]; simp, hs70⟩
   · dsimp only; rw [List.length_append, List.length_singleton]; omega
  refine wpM.exit <| QM.then_exit <| QM.then_exit <| QM.block_hit ?_
  refine QM.meetK ((i, e, gs, adg, ng, cg, mg)) ⟨rfl, rfl, rfl, rfl, trivial⟩ au1 ?_
  · exact ⟨by rw [← hG]; exact gpM_stop (by rw [← h5, hq, hng, cond0]), hi, hg4, hng, hsg⟩
 rintro ⟨i1, e1, gs, adg, ng, cg, mg⟩ ⟨hG, hi1, hg4, hng, hsg⟩
 change QM _ _ _ _ _ (mg ++ qB b29 ad n cap i1 e1 :: (b8, sO (sA ws i0).2.2 (sB2 ws i0).2.2 adg ng cg none 0 0 none 0 0) :: (b4, z0) :: []) _ _ _
 refine QM.then <| wpM.seq ?_
 refine wpM.joinK (α := Nat × Int × List CLk × Option Addr × Nat × Nat × Mem0) (fun ⟨i2, e2, ls, adl, nl, cl, ml⟩ => []) [(0, _), (4, _), (7, _), (8, _)] (fun ⟨i2, e2, ls, adl, nl, cl, ml⟩ => ml ++ (mg ++ (qB b29 ad n cap i2 e2 :: (b8, sO (sA ws i0).2.2 (sB2 ws i0).2.2 adg ng cg adl nl cl none 0 0) :: (b4, z0) :: []))) (fun ⟨i2, e2, ls, adl, nl, cl, ml⟩ => lkL ws i1 e1 [] = (ls, i2, e2) ∧ i2 ≤ ws.length ∧ ls.length ≤ 8 ∧ nl = ls.length ∧ Sl fL 53 5 w.heap.size ls (.slice adl nl cl) ml) ⟨rfl, rfl, rfl, rfl, trivial⟩ ?_ ?_
 ·
  refine wpM.block ?_
  refine wpM.loopK0 (α := Nat × Int × List CLk × Option Addr × Nat × Nat × Mem0) (fun ⟨i, e, ls, adl, nl, cl, ml⟩ => []) [(0, _), (4, _), (7, _), (8, _)] (fun ⟨i, e, ls, adl, nl, cl, ml⟩ => ml ++ (mg ++ (qB b29 ad n cap i e :: (b8, sO (sA ws i0).2.2 (sB2 ws i0).2.2 adg ng cg adl nl cl none 0 0) :: (b4, z0) :: []))) (fun ⟨i, e, ls, adl, nl, cl, ml⟩ => lkL ws i e ls = lkL ws i1 e1 [] ∧ i ≤ ws.length ∧ ls.length ≤ 8 ∧ nl = ls.length ∧ Sl fL 53 5 w.heap.size ls (.slice adl nl cl) ml) (fun ⟨i, e, ls, adl, nl, cl, ml⟩ => 9 - ls.length) ((i1, e1, [], none, 0, 0, [])) ⟨rfl, rfl, rfl, rfl, trivial⟩ au1 ⟨rfl, hi1, by decide, rfl, .nil _ _ _ _⟩ ?_
  rintro ⟨i, e, ls, adl, nl, cl, ml⟩ ⟨hL, hi, hl8, hnl, hsl⟩
  change wpM _ _ _ _ _ _ _ (ml ++ (mg ++ (qB b29 ad n cap i e :: (b8, sO (sA ws i0).2.2 (sB2 ws i0).2.2 adg ng cg adl nl cl none 0 0) :: (b4, z0) :: []))) _ _ _
  refine wpM.seq <| wpM.seq ?_
  refine wpM.joinK (α := Bool) (fun q => [(79, .bool q)]) [(0, _), (4, _), (7, _), (8, _)] (fun q => ml ++ (mg ++ (qB b29 ad n cap i e :: (b8, sO (sA ws i0).2.2 (sB2 ws i0).2.2 adg ng cg adl nl cl none 0 0) :: (b4, z0) :: []))) (fun q => q = isL ws i e) ⟨rfl, rfl, rfl, rfl, trivial⟩ ?_ ?_
  ·
   refine wpM.region ?_
   refine LM.mv rfl ?_
   refine cE Tryd.func61 rfl (fun w hm hc hg => qis_spec b29 i e 1 wLock w hn (hl.ext hc) (SubM.mem au1 w hm)) ?_
   refine LM.mv rfl ?_
   refine LM.splitB (t := 76) rfl (fun h8 => ?_) (fun h8 => ?_)
   ·
    refine LM.dr 76 rfl rfl rfl <| LM.dr 76 rfl rfl rfl <| LM.val (ov_pickT rfl rfl) <| nC [(0, _), (4, _), (7, _), (8, _), (79, _)] ?_
    refine QM.meetK (_) ⟨au2, rfl, rfl, rfl, rfl, trivial⟩ au1 ?_
    · simp [isL, h1, h2, h8]
   refine LM.sp 76 rfl rfl rfl <| LM.mv rfl <| LM.sp 76 rfl rfl rfl ?_
   refine cE Tryd.func61 rfl (fun w hm hc hg => qis_spec b29 i e 1 wShared w hn (hl.ext hc) (SubM.mem au1 w hm)) ?_
   refine LM.val (ov_pickF rfl rfl) <| nC [(0, _), (4, _), (7, _), (8, _), (79, _)] ?_
   refine QM.meetK (_) ⟨au2, rfl, rfl, rfl, rfl, trivial⟩ au1 ?_
   · simp [isL, h1, h2, h8]
  rintro q hq
  change QM _ _ _ _ _ (ml ++ (mg ++ (qB b29 ad n cap i e :: (b8, sO (sA ws i0).2.2 (sB2 ws i0).2.2 adg ng cg adl nl cl none 0 0) :: (b4, z0) :: []))) _ _ _
  refine QM.then ?_
  refine wpM.condB rfl (fun h9 => ?_) (fun h9 => ?_)
  ·
   have hQ : isL ws i e = true := (by rw [← hq, h9]); have he0 := (isL_lt hQ).2; have hlt := (isL_lt hQ).1
   refine wpM.skip <| QM.then <| wpM.block <| wpM.seq <| wR <| LM.mv rfl <| LM.val (ovf 23 rfl rfl rfl rfl) ?_
   refine LM.rd (oml rfl rfl rfl) ?_
   refine LM.val (ov_len Tryd.underlying23 rfl) ?_
   refine LM.cW (oc_call (enters_fn Tryd.func62 kr rfl) rfl) (fun w hm hc hg => qlong_spec (ws := ws) b29 i e (nl : Nat) 8 w (SubM.mem au1 w hm)) rfl au8 ?_
   refine nA [(0, _), (4, _), (7, _), (8, _), (84, _)] ?_
   refine wpM.condB rfl (fun h10 => ?_) (fun h10 => ?_)
   ·
    have h4 : (8 : Int) ≤ (nl : Nat) := (by simpa [he0] using h10); rw [if_pos ⟨he0, h4⟩]
    refine wpM.exit <| QM.then_exit <| QM.block_miss rfl <| QM.then_exit <| QM.block_hit ?_
    refine QM.meetK ((i, 6, ls, adl, nl, cl, ml)) ⟨rfl, rfl, rfl, rfl, trivial⟩ au1 ?_
    · exact ⟨by rw [← hL]; exact lkL_full hQ om, hi, hl8, hnl, hsl⟩
   have h4 : ¬ (8 : Int) ≤ (nl : Nat) := (fun q => by rw [decide_eq_true q] at h10; simp at h10); rw [if_neg (fun q => h4 q.2)]
   refine wpM.skip <| tR <| LM.mv rfl ?_
   refine cE Tryd.func61 rfl (fun w hm hc hg => qis_spec b29 i e 1 wShared w hn (hl.ext hc) (SubM.mem au1 w hm)) ?_
   refine LM.as rfl <| nB [(0, _), (4, _), (7, _), (8, _), (9, _)] <| LM.mv rfl <| LM.nc rfl <| LM.val (ovf 3 rfl rfl rfl rfl) ?_
   refine LM.rd (oml rfl rfl rfl) ?_
   refine LM.val (ov_add64 rfl rfl om) ?_
   refine LM.nc rfl <| LM.val (ovf 3 rfl rfl rfl rfl) ?_
   refine LM.st Tryd.sizeOf3 rfl rfl rfl au5 rfl au8 ?_
   refine nA [(0, _), (4, _), (7, _), (8, _), (9, _)] ?_
   refine wpM.keep ((b8, _) :: []) (fun _ => True) (.one 0 0 (.one 1 1 (.one 2 0 (.one 3 0 (.one 4 2 (.one 5 2 (.one 6 2 (.one 7 0 (.last 8))))))))) kr kr au1 (fun _ _ => trivial) ?_
   refine KD.val rfl rfl (ovf 23 rfl rfl rfl rfl) ?_
   refine KD.rd rfl rfl (oml rfl rfl rfl) ?_
   refine KD.val rfl rfl (ov_move rfl) <| KD.val rfl rfl (ov_move rfl) <| KD.one rfl ?_
   refine LM.cW (oc_call (enters_fn Tryd.func63 kr rfl) rfl) (fun w hm hc hg => qlock_spec (isE ws i e 1 wShared) b29 (i + 1) e w hn hx (hl.ext hc) hab29 (SubM.mem au1 w hm)) rfl au8 ?_
   refine LM.nil ?_
   refine kq1 ?_
   refine KD.one rfl ?_
   refine LM.single Tryd.underlying23 Tryd.sizeOf53 Tryd.zeroValue53 rfl rfl rfl rfl rfl (fun b99 hb99 => ?_)
   refine LM.nil ?_
   refine kq1 ?_
   refine KD.one rfl ?_
   refine LM.app (a := (lckE ws (isE ws i e 1 wShared) (i + 1) e).2.2) Tryd.underlying23 Tryd.typeInfo53 rfl rfl rfl rfl rfl rfl rfl asm (by rfl) ir (by intro _ u hu; simp [fL] at hu; (repeat (first | (rcases hu with rfl | hu) | subst hu | rfl))) (by first | exact Nat.le_refl _ | omega) au10 (by first | omega | (unfold maxLen; omega)) (by simp only [Tryd.t53]; omega) (fun ad100 n100 cap100 m100 hn100 hs100 hin100 => ?_)
   refine LM.nil ?_
   refine kq1 ?_
   refine KD.val rfl rfl (ovf 23 rfl rfl rfl rfl) ?_
   refine KD.last rfl ?_
   refine LM.st Tryd.sizeOf23 rfl rfl rfl au5 rfl au8 ?_
   refine LM.nil ?_
   refine QM.qn ?_
   refine QM.sub (e' := [(0, _), (4, _), (7, _), (8, _)]) au9 ?_
   refine QM.block_normal ?_
   refine QM.againK (((lckE ws (isE ws i e 1 wShared) (i + 1) e).1, (lckE ws (isE ws i e 1 wShared) (i + 1) e).2.1, ls ++ [(lckE ws (isE ws i e 1 wShared) (i + 1) e).2.2], ad100, n100, cap100, m100)) ⟨rfl, rfl, rfl, rfl, trivial⟩ au1 (fun _ h => h) ?_ ?_
   · exact ⟨by rw [← lkL_next hQ om]; exact hL, lck_le om, by simp; omega, by rw [hn100]; simp, hs100⟩
   · dsimp only; rw [List.length_append, List.length_singleton]; omega
  refine wpM.exit <| QM.then_exit <| QM.then_exit <| QM.block_hit ?_
  refine QM.meetK ((i, e, ls, adl, nl, cl, ml)) ⟨rfl, rfl, rfl, rfl, trivial⟩ au1 ?_
  · exact ⟨by rw [← hL]; exact lkL_stop (by rw [← hq, h9]), hi, hl8, hnl, hsl⟩
 rintro ⟨i2, e2, ls, adl, nl, cl, ml⟩ ⟨hL, hi2, hl8, hnl, hsl⟩
 change QM _ _ _ _ _ (ml ++ (mg ++ (qB b29 ad n cap i2 e2 :: (b8, sO (sA ws i0).2.2 (sB2 ws i0).2.2 adg ng cg adl nl cl none 0 0) :: (b4, z0) :: []))) _ _ _
 refine tR <| LM.as rfl <| nA [(0, _), (4, _), (7, _), (8, _), (10, _)] <| wpM.seq ?_
 refine wpM.joinK (α := Nat × Int × List PgV × Option Addr × Nat × Nat × Mem0 × List Int × Option Addr × Nat × Nat × Mem0 × Mem0) (fun ⟨i3, e3, ps, adp, np, cp, mp, pl, adq, nq, cq, mq, mo⟩ => [(10, .slice adq nq cq)]) [(4, _), (7, _), (8, _)] (fun ⟨i3, e3, ps, adp, np, cp, mp, pl, adq, nq, cq, mq, mo⟩ => mo ++ (mp ++ (mq ++ (ml ++ (mg ++ (qB b29 ad n cap i3 e3 :: (b8, sO (sA ws i0).2.2 (sB2 ws i0).2.2 adg ng cg adl nl cl adp np cp) :: (b4, z0) :: [])))))) (fun ⟨i3, e3, ps, adp, np, cp, mp, pl, adq, nq, cq, mq, mo⟩ => pgL ws i2 e2 [] [] = (ps.map PgV.c, pl, i3, e3) ∧ i3 ≤ ws.length ∧ ps.length ≤ 8 ∧ np = ps.length ∧ Sl fPg 37 2 w.heap.size ps (.slice adp np cp) mp ∧ pl.length = ps.length ∧ nq = pl.length ∧ Sl fI 3 1 w.heap.size pl (.slice adq nq cq) mq ∧ (∀ w, Mem w mo → PgsIn ps w) ∧ (∀ p ∈ mo, w.heap.size ≤ p.1)) ⟨rfl, rfl, rfl, trivial⟩ ?_ ?_
 ·
  refine wpM.block ?_
  refine wpM.loopK0 (α := Nat × Int × List PgV × Option Addr × Nat × Nat × Mem0 × List Int × Option Addr × Nat × Nat × Mem0 × Mem0) (fun ⟨i, e, ps, adp, np, cp, mp, pl, adq, nq, cq, mq, mo⟩ => [(10, .slice adq nq cq)]) [(0, _), (4, _), (7, _), (8, _)] (fun ⟨i, e, ps, adp, np, cp, mp, pl, adq, nq, cq, mq, mo⟩ => mo ++ (mp ++ (mq ++ (ml ++ (mg ++ (qB b29 ad n cap i e :: (b8, sO (sA ws i0).2.2 (sB2 ws i0).2.2 adg ng cg adl nl cl adp np cp) :: (b4, z0) :: [])))))) (fun ⟨i, e, ps, adp, np, cp, mp, pl, adq, nq, cq, mq, mo⟩ => pgL ws i e (ps.map PgV.c) pl = pgL ws i2 e2 [] [] ∧ i ≤ ws.length ∧ ps.length ≤ 8 ∧ np = ps.length ∧ Sl fPg 37 2 w.heap.size ps (.slice adp np cp) mp ∧ pl.length = ps.length ∧ nq = pl.length ∧ Sl fI 3 1 w.heap.size pl (.slice adq nq cq) mq ∧ (∀ w, Mem w mo → PgsIn ps w) ∧ (∀ p ∈ mo, w.heap.size ≤ p.1)) (fun ⟨i, e, ps, adp, np, cp, mp, pl, adq, nq, cq, mq, mo⟩ => 9 - ps.length) ((i2, e2, [], none, 0, 0, [], [], none, 0, 0, [], [])) ⟨au2, rfl, rfl, rfl, rfl, trivial⟩ au1 ⟨rfl, hi2, by decide, rfl, .nil _ _ _ _, rfl, rfl, .nil _ _ _ _, (fun w _ p hp => by cases hp), (fun p hp => by cases hp)⟩ ?_
  rintro ⟨i, e, ps, adp, np, cp, mp, pl, adq, nq, cq, mq, mo⟩ ⟨hP, hi, hp8, hnp, hsp, hplp, hnq, hsq, hop, hog⟩
  change wpM _ _ _ _ _ _ _ (mo ++ (mp ++ (mq ++ (ml ++ (mg ++ (qB b29 ad n cap i e :: (b8, sO (sA ws i0).2.2 (sB2 ws i0).2.2 adg ng cg adl nl cl adp np cp) :: (b4, z0) :: [])))))) _ _ _
  refine wpM.seq <| wpM.seq ?_
  refine wpM.joinK (α := Bool) (fun q => [(116, .bool q)]) [(0, _), (4, _), (7, _), (8, _), (10, _)] (fun q => mo ++ (mp ++ (mq ++ (ml ++ (mg ++ (qB b29 ad n cap i e :: (b8, sO (sA ws i0).2.2 (sB2 ws i0).2.2 adg ng cg adl nl cl adp np cp) :: (b4, z0) :: [])))))) (fun q => q = (isE ws i e 1 wProg || (decide ((np : Int) = 0) && decide (e = 0)))) ⟨rfl, rfl, rfl, rfl, rfl, trivial⟩ ?_ ?_
  ·
   refine wpM.region ?_
   refine LM.mv rfl ?_
   refine cE Tryd.func61 rfl (fun w hm hc hg => qis_spec b29 i e 1 wProg w hn (hl.ext hc) (SubM.mem au1 w hm)) ?_
   refine LM.mv rfl ?_
   refine LM.splitB (t := 104) rfl (fun h11 => ?_) (fun h11 => ?_)
   ·
    refine LM.dr 104 rfl rfl rfl <| LM.dr 104 rfl rfl rfl <| LM.dr 104 rfl rfl rfl <| LM.dr 104 rfl rfl rfl ?_
    refine LM.dropU (t := 104) rfl rfl rfl ?_
    refine LM.dropX (t := 109) rfl rfl ?_
    refine LM.dropX (t := 109) rfl rfl ?_
    refine LM.dropX (t := 109) rfl rfl ?_
    refine LM.dropX (t := 109) rfl rfl ?_
    refine LM.dropX (t := 109) rfl rfl ?_
    refine LM.dr 104 rfl rfl rfl <| LM.val (ov_pickT rfl rfl) <| nC [(0, _), (4, _), (7, _), (8, _), (10, _), (116, _)] ?_
    refine QM.meetK (_) ⟨au2, rfl, rfl, rfl, rfl, rfl, trivial⟩ au1 ?_
    · (simp [h1, h2, h11]; done)
   refine LM.sp 104 rfl rfl rfl <| LM.val (ovf 24 rfl rfl rfl rfl) <| LM.sp 104 rfl rfl rfl ?_
   refine LM.rd (oml rfl rfl rfl) ?_
   refine LM.sp 104 rfl rfl rfl <| LM.val (ov_len Tryd.underlying24 rfl) <| LM.sp 104 rfl rfl rfl <| LM.val (ov_eql rfl rfl) <| LM.sp 104 rfl rfl rfl <| LM.mv rfl ?_
   refine LM.splitD (t := 109) rfl (fun h12 => ?_) (fun h12 => ?_)
   ·
    refine LM.sp 109 rfl rfl rfl <| LM.mv rfl <| LM.sp 109 rfl rfl rfl <| LM.nc rfl <| LM.sp 109 rfl rfl rfl <| LM.val (ovf 3 rfl rfl rfl rfl) <| LM.sp 109 rfl rfl rfl ?_
    refine LM.rd (oml rfl rfl rfl) ?_
    refine LM.sp 109 rfl rfl rfl <| LM.val (ov_eql rfl rfl) <| LM.sp 104 rfl rfl rfl <| LM.val (ov_pickT rfl rfl) <| LM.val (ov_pickF rfl rfl) <| nC [(0, _), (4, _), (7, _), (8, _), (10, _), (116, _)] ?_
    refine QM.meetK (_) ⟨au2, rfl, rfl, rfl, rfl, rfl, trivial⟩ au1 ?_
    · (simp [h1, h2, h11, h12]; done)
   refine LM.dr 109 rfl rfl rfl <| LM.dr 109 rfl rfl rfl <| LM.dr 109 rfl rfl rfl <| LM.dr 109 rfl rfl rfl <| LM.dr 109 rfl rfl rfl <| LM.sp 104 rfl rfl rfl <| LM.val (ov_pickF rfl rfl) <| LM.val (ov_pickF rfl rfl) <| nC [(0, _), (4, _), (7, _), (8, _), (10, _), (116, _)] ?_
   refine QM.meetK (_) ⟨au2, rfl, rfl, rfl, rfl, rfl, trivial⟩ au1 ?_
   · (have h0 := decide_eq_false (show ¬ ((np : Nat) : Int) = 0 by omega); simp only [h0, h1, h2, h11, h12, Bool.false_and, Bool.or_false]; rfl)
  rintro q hq
  change QM _ _ _ _ _ (mo ++ (mp ++ (mq ++ (ml ++ (mg ++ (qB b29 ad n cap i e :: (b8, sO (sA ws i0).2.2 (sB2 ws i0).2.2 adg ng cg adl nl cl adp np cp) :: (b4, z0) :: [])))))) _ _ _
  refine QM.then ?_
  refine wpM.condB rfl (fun h13 => ?_) (fun h13 => ?_)
  ·
   have hQ : isP ws i e (ps.map PgV.c) = true := (by rw [isP_eq, List.length_map, ← h13, hq, hnp, cond0]); have he0 := isP_zero hQ
   refine wpM.skip <| QM.then <| wpM.block <| wpM.seq <| wR <| LM.mv rfl <| LM.val (ovf 24 rfl rfl rfl rfl) ?_
   refine LM.rd (oml rfl rfl rfl) ?_
   refine LM.val (ov_len Tryd.underlying24 rfl) ?_
   refine LM.cW (oc_call (enters_fn Tryd.func62 kr rfl) rfl) (fun w hm hc hg => qlong_spec (ws := ws) b29 i e (np : Nat) 8 w (SubM.mem au1 w hm)) rfl au8 ?_
   refine nA [(0, _), (4, _), (7, _), (8, _), (10, _), (121, _)] ?_
   refine wpM.condB rfl (fun h14 => ?_) (fun h14 => ?_)
   ·
    have h4 : (8 : Int) ≤ (np : Nat) := (by simpa [he0] using h14); rw [if_pos ⟨he0, h4⟩]
    refine wpM.exit <| QM.then_exit <| QM.block_miss rfl <| QM.then_exit <| QM.block_hit ?_
    refine QM.meetK ((i, 6, ps, adp, np, cp, mp, pl, adq, nq, cq, mq, mo)) ⟨au2, rfl, rfl, rfl, trivial⟩ au1 ?_
    · exact ⟨by rw [← hP]; exact pgL_full hQ (by simp; omega), hi, hp8, hnp, hsp, hplp, hnq, hsq, hop, hog⟩
   have h4 : ¬ (8 : Int) ≤ (np : Nat) := (fun q => by rw [decide_eq_true q] at h14; simp at h14); rw [if_neg (fun q => h4 q.2)]
   refine wpM.skip <| tR <| LM.mv rfl <| LM.mv rfl <| LM.nc rfl <| LM.val (ovf 3 rfl rfl rfl rfl) ?_
   refine LM.rd (oml rfl rfl rfl) ?_
   refine LM.single Tryd.underlying22 Tryd.sizeOf3 Tryd.zeroValue3 rfl rfl rfl rfl rfl (fun b127 hb127 => ?_)
   refine LM.app (a := (i : Int)) Tryd.underlying22 Tryd.typeInfo3 rfl rfl rfl rfl rfl rfl rfl asm (by rfl) ir (by intro _ u hu; simp [fI] at hu; (repeat (first | (rcases hu with rfl | hu) | subst hu | rfl))) (by first | exact Nat.le_refl _ | omega) au10 (by first | omega | (unfold maxLen; omega)) (by simp only [Tryd.t3]; omega) (fun ad128 n128 cap128 m128 hn128 hs128 hin128 => ?_)
   refine LM.as rfl <| nB [(0, _), (4, _), (7, _), (8, _), (10, _)] <| LM.mv rfl <| LM.mv rfl <| LM.nc rfl <| LM.val (ovf 3 rfl rfl rfl rfl) ?_
   refine LM.rd (oml rfl rfl rfl) ?_
   refine LM.callT (oc_call (enters_fn Tryd.func64 kr rfl) rfl) ParT.mono (fun w hm hc hg => rparse_spec (i : Nat) w hn hx (hl.ext hc)) ?_
   rintro u135 m135 ⟨ad135, n135, cap135, rfl, hn135, hs135⟩ hge135; have hpp := par_pos hi; obtain ⟨j9, hj9⟩ : ∃ j : Nat, (parseO ws (i : Int)).2.2.1 = (j : Int) := ⟨_, (Int.toNat_of_nonneg hpp.1).symm⟩; rw [hj9]
   refine LM.mv rfl <| LM.val (ov_extract rfl rfl) <| LM.val (ov_extract rfl rfl) <| LM.val (ov_extract rfl rfl) ?_
   refine LM.alloc Tryd.zeroValue37 rfl (fun b11 hb11 => ?_)
   refine LM.stW Tryd.sizeOf37 rfl rfl rfl rfl au7 au8 ?_
   refine LM.as rfl <| LM.as rfl <| nB [(0, _), (4, _), (7, _), (8, _), (10, _), (11, _), (12, _), (13, _)] <| LM.val (ovf 24 rfl rfl rfl rfl) ?_
   refine LM.rd (oml rfl rfl rfl) ?_
   refine LM.rd (om_ldW Tryd.isAgg37 Tryd.sizeOf37 rfl rfl) ?_
   refine LM.single Tryd.underlying24 Tryd.sizeOf37 Tryd.zeroValue37 rfl rfl rfl rfl rfl (fun b142 hb142 => ?_)
   refine LM.app (a := (⟨prC (parseO ws (i : Int)), ad135, n135, cap135⟩ : PgV)) Tryd.underlying24 Tryd.typeInfo37 rfl rfl rfl rfl rfl rfl rfl asm (by rfl) ir (by intro _ u hu; simp [fPg] at hu; (repeat (first | (rcases hu with rfl | hu) | subst hu | rfl))) (by first | exact Nat.le_refl _ | omega) au10 (by first | omega | (unfold maxLen; omega)) (by simp only [Tryd.t37]; omega) (fun ad143 n143 cap143 m143 hn143 hs143 hin143 => ?_)
   refine LM.val (ovf 24 rfl rfl rfl rfl) ?_
   refine LM.st Tryd.sizeOf24 rfl rfl rfl au5 rfl au8 ?_
   refine nB [(0, _), (4, _), (7, _), (8, _), (10, _), (12, _), (13, _)] <| LM.mv rfl <| LM.mv rfl <| LM.nc rfl <| LM.val (ovf 3 rfl rfl rfl rfl) ?_
   refine LM.st Tryd.sizeOf3 rfl rfl rfl au5 rfl au8 ?_
   refine LM.nil (QM.sub (e' := [(0, _), (4, _), (7, _), (8, _), (10, _), (13, _)]) au9 (QM.then (wpM.region ?_)))
   refine LM.mv rfl <| LM.mv rfl <| LM.nc rfl <| LM.val (ovf 3 rfl rfl rfl rfl) ?_
   refine LM.st Tryd.sizeOf3 rfl rfl rfl au5 rfl au8 ?_
   refine nC [(0, _), (4, _), (7, _), (8, _), (10, _)] <| QM.block_normal ?_
   refine QM.againK ((j9, (parseO ws (i : Int)).2.2.2, ps ++ [(⟨prC (parseO ws (i : Int)), ad135, n135, cap135⟩ : PgV)], ad143, n143, cap143, m143, pl ++ [(i : Int)], ad128, n128, cap128, m128, m135 ++ mo)) ⟨au2, rfl, rfl, rfl, rfl, trivial⟩ au1 (fun _ h => h) ?_ ?_
   · exact ⟨by rw [snoc_map, ← hP, pgL_next hQ (by simp; omega), hj9, Int.toNat_natCast], by have := hpp.2; rw [hj9, Int.toNat_natCast] at this; exact this, by simp; omega, by rw [hn143]; simp, hs143, by simp [hplp], by rw [hn128]; simp, hs128, (fun w hm => snoc_in (hop w (hm.sub (List.sublist_append_right _ _))) ⟨hn135, sr_of_sl hs135 (fun _ => rfl) (hm.sub (List.sublist_append_left _ _))⟩), List.forall_mem_append.2 ⟨hge135, hog⟩⟩
   · dsimp only; rw [List.length_append, List.length_singleton]; omega
  refine wpM.exit <| QM.then_exit <| QM.then_exit <| QM.block_hit ?_
  refine QM.meetK ((i, e, ps, adp, np, cp, mp, pl, adq, nq, cq, mq, mo)) ⟨au2, rfl, rfl, rfl, trivial⟩ au1 ?_
  · exact ⟨by rw [← hP]; exact pgL_stop (by rw [isP_eq, List.length_map, ← h13, hq, hnp, cond0]), hi, hp8, hnp, hsp, hplp, hnq, hsq, hop, hog⟩
 rintro ⟨i3, e3, ps, adp, np, cp, mp, pl, adq, nq, cq, mq, mo⟩ ⟨hP, hi3, hp8, hnp, hsp, hplp, hnq, hsq, hop, hog⟩
 change QM _ _ _ _ _ (mo ++ (mp ++ (mq ++ (ml ++ (mg ++ (qB b29 ad n cap i3 e3 :: (b8, sO (sA ws i0).2.2 (sB2 ws i0).2.2 adg ng cg adl nl cl adp np cp) :: (b4, z0) :: [])))))) _ _ _
 refine QM.then <| wpM.seq <| wR <| LM.mv rfl <| LM.nc rfl <| LM.val (ovf 3 rfl rfl rfl rfl) ?_
 refine LM.rd (oml rfl rfl rfl) ?_
 refine LM.val (ov_neq rfl rfl) <| nA [(4, _), (7, _), (8, _), (10, _), (157, _)] ?_
 refine wpM.condD rfl (fun h15 => ?_) (fun h15 => ?_)
 ·
  have hI : SetI ws i0 gs i1 e1 ls i2 e2 (ps.map PgV.c) pl i3 e3 := ⟨⟨(gpM_sG hG).1, fun q => by rw [(gpM_sG hG).2 q]⟩, hL, hP⟩
  refine wpM.seq ?_
  refine wpM.keep ((b29, _) :: []) (fun _ => True) (.one 0 0 (.one 1 0 (.one 2 0 (.one 3 0 (.one 4 1 (.one 5 0 (.one 6 0 (.one 7 0 (.one 8 1 (.one 9 2 (.one 10 0 (.one 11 0 .nil)))))))))))) kr kr au1 (fun _ _ => trivial) ?_
  refine KD.val rfl rfl (ov_build (cs := #[_, _, _, _, _]) rfl (by first | rfl | kernel_rfl)) ?_
  refine KD.val rfl rfl (ov_move rfl) <| KD.val rfl rfl (ov_nilCheck rfl) <| KD.val rfl rfl (ovf 3 rfl rfl rfl rfl) ?_
  refine KD.rd rfl rfl (oml rfl rfl rfl) ?_
  refine KD.val rfl rfl (ov_move rfl) <| KD.val rfl rfl (ov_nilCheck rfl) <| KD.val rfl rfl (ovf 3 rfl rfl rfl rfl) ?_
  refine KD.rd rfl rfl (oml rfl rfl rfl) ?_
  refine KD.one rfl ?_
  refine LM.stW Tryd.sizeOf26 rfl rfl rfl rfl au7 au8 ?_
  refine LM.nil ?_
  refine kq1 ?_
  refine KD.val rfl rfl (ov_assign rfl) <| KD.val rfl rfl (ov_assign rfl) <| KD.nil ?_
  refine QM.sub (e' := [(4, _), (5, _), (6, _)]) au9 (QM.then ?_)
  refine wpM.ret <| QM.then_ret ?_
  refine QM.leaveCs (ds := ([])) (.inl rfl) [.cell 4 26, .tmp 5, .tmp 6] Tryd.results41 hd_nil (rc_w rfl Tryd.isAgg26 Tryd.sizeOf26 rfl (rc_tmp rfl (rc_tmp rfl rc_nil))) ?_
  intro w' hm' hc'
  rw [set_nat hi0, hI.bad h15]; exact ⟨hc', [], StT.none, Mem.nil _, fun p hp => by cases hp⟩
 have he3 : e3 = 0 := Classical.not_not.1 h15; have hI : SetI ws i0 gs i1 e1 ls i2 e2 (ps.map PgV.c) pl i3 e3 := ⟨⟨(gpM_sG hG).1, fun q => by rw [(gpM_sG hG).2 q]⟩, hL, hP⟩
 refine wpM.skip <| QM.then <| wpM.seq <| wR <| LM.as rfl <| nA [(4, _), (7, _), (8, _), (10, _), (14, _)] <| wpM.block ?_
 refine wpM.loopK0 (α := Nat) (fun j => [(14, .int .i64 (j : Nat))]) [(4, _), (7, _), (8, _), (10, _)] (fun j => mo ++ (mp ++ (mq ++ (ml ++ (mg ++ (qB b29 ad n cap i3 e3 :: (b8, sO (sA ws i0).2.2 (sB2 ws i0).2.2 adg ng cg adl nl cl adp np cp) :: (b4, z0) :: [])))))) (fun j => j ≤ ps.length ∧ ((ps.map PgV.c).take j).any (misB ls ps.length) = false) (fun j => ps.length - j) (0) ⟨au2, rfl, rfl, rfl, rfl, trivial⟩ au1 ⟨Nat.zero_le _, rfl⟩ ?_
 rintro j ⟨hj, hmis⟩
 change wpM _ _ _ _ _ _ _ (mo ++ (mp ++ (mq ++ (ml ++ (mg ++ (qB b29 ad n cap i3 e3 :: (b8, sO (sA ws i0).2.2 (sB2 ws i0).2.2 adg ng cg adl nl cl adp np cp) :: (b4, z0) :: [])))))) _ _ _
 refine wpM.seq <| wR <| LM.mv rfl <| LM.val (ovf 24 rfl rfl rfl rfl) ?_
 refine LM.rd (oml rfl rfl rfl) ?_
 refine LM.val (ov_len Tryd.underlying24 rfl) <| LM.val (ov_lss rfl rfl) <| nA [(4, _), (7, _), (8, _), (10, _), (14, _), (171, _)] ?_
 refine wpM.condD rfl (fun h16 => ?_) (fun h16 => ?_)
 ·
  have hjl : j < ps.length := om; have hpm : ps.getD j default ∈ ps := List.mem_of_getElem? (getq default hjl)
  refine wpM.skip <| QM.then <| wpM.seq <| wpM.block <| wpM.seq ?_
  refine wpM.draw [(0, 0), (1, 1), (2, 0), (3, 0), (4, 1), (5, 0), (6, 1), (7, 0), (8, 1), (9, 0), (10, 2), (11, 0), (12, 0), (13, 0), (14, 0), (15, 0)] kr kr ?_
  refine LD.val rfl rfl (ovf 24 rfl rfl rfl rfl) ?_
  refine LD.rd rfl rfl (oml rfl rfl rfl) ?_
  refine LD.val rfl rfl (ov_move rfl) ?_
  refine LD.val rfl rfl (ov_idxSN au6 Tryd.underlying24 Tryd.sizeOf37 rfl rfl om) ?_
  refine LD.rd rfl rfl (om_slA asm ir Tryd.isAgg37 Tryd.sizeOf37 rfl au3) ?_
  refine LD.val rfl rfl (ovf 23 rfl rfl rfl rfl) ?_
  refine LD.rd rfl rfl (oml rfl rfl rfl) ?_
  refine LD.val rfl rfl (ovf 24 rfl rfl rfl rfl) ?_
  refine LD.rd rfl rfl (oml rfl rfl rfl) ?_
  refine LD.val rfl rfl (ov_len Tryd.underlying24 rfl) ?_
  refine dE rfl rfl Tryd.func22 rfl (fun w hm hc hg => rcheck_spec (np : Nat) w (hop w (hm.pick mo) _ hpm).1 (hop w (hm.pick mo) _ hpm).2 hnl (hsl.srM ir hm)) ?_
  refine LD.val rfl rfl (ov_move rfl) ?_
  refine LD.val rfl rfl (ov_extract rfl rfl) ?_
  refine LD.val rfl rfl (ov_extract rfl rfl) ?_
  refine LD.val rfl rfl (ov_assign rfl) <| LD.val rfl rfl (ov_assign rfl) <| LD.nil ?_
  refine QM.sub (e' := [(4, _), (7, _), (8, _), (10, _), (14, _), (16, _)]) au9 (QM.then (wpM.seq (wpM.region ?_)))
  refine LM.mv rfl <| LM.val (ov_neq rfl rfl) <| nA [(4, _), (7, _), (8, _), (10, _), (14, _), (16, _), (189, _)] ?_
  refine wpM.condD rfl (fun h17 => ?_) (fun h17 => ?_)
  ·
   refine wpM.seq ?_
   refine wpM.keep (mq ++ []) (fun _ => True) (.one 0 0 (.one 1 0 (.one 2 0 (.one 3 0 (.one 4 1 (.one 5 0 (.one 6 2 (.one 7 0 (.one 8 0 .nil))))))))) kr kr au1 (fun _ _ => trivial) ?_
   refine KD.val rfl rfl (ov_build (cs := #[_, _, _, _, _]) rfl (by first | rfl | kernel_rfl)) ?_
   refine KD.val rfl rfl (ov_move rfl) <| KD.val rfl rfl (ov_move rfl) ?_
   refine KD.val rfl rfl (ov_idxSN au6 Tryd.underlying22 Tryd.sizeOf3 rfl rfl om) ?_
   refine KD.rd rfl rfl (om_sl1 asm ir Tryd.isAgg3 rfl rfl (by exact getq 0 au4) (by rfl)) ?_
   refine KD.val rfl rfl (ov_move rfl) <| KD.one rfl ?_
   refine LM.stW Tryd.sizeOf26 rfl rfl rfl rfl au7 au8 ?_
   refine LM.nil ?_
   refine kq1 ?_
   refine KD.val rfl rfl (ov_assign rfl) <| KD.val rfl rfl (ov_assign rfl) <| KD.nil ?_
   refine QM.sub (e' := [(4, _), (5, _), (6, _)]) au9 (QM.then ?_)
   refine wpM.ret <| QM.block_ret <| QM.then_ret <| QM.then_ret <| QM.block_ret <| QM.then_ret ?_
   refine QM.leaveCs (ds := ([])) (.inl rfl) [.cell 4 26, .tmp 5, .tmp 6] Tryd.results41 hd_nil (rc_w rfl Tryd.isAgg26 Tryd.sizeOf26 rfl (rc_tmp rfl (rc_tmp rfl rc_nil))) ?_
   intro w' hm' hc'
   rw [set_nat hi0, hI.mis he3 (j := j) (by simpa using hjl) (by rw [List.length_map]; exact hmis) (by rw [map_getD, List.length_map]; unfold misB; rw [← hnp]; simpa using h17), map_getD, List.length_map, ← hnp]; exact ⟨hc', [], StT.none, Mem.nil _, fun p hp => by cases hp⟩
  refine wpM.skip <| QM.block_normal ?_
  refine QM.then (wpM.region ?_)
  refine LM.mv rfl ?_
  refine LM.val (ov_add64 rfl rfl om) ?_
  refine LM.as rfl <| nC [(4, _), (7, _), (8, _), (10, _), (14, _)] ?_
  refine QM.againK (j + 1) ⟨au2, rfl, rfl, rfl, rfl, trivial⟩ au1 (fun _ h => h) ?_ ?_
  · exact ⟨by omega, by rw [any_snoc default (by simp; omega), hmis, Bool.false_or, map_getD]; unfold misB; rw [← hnp]; simpa using h17⟩
  · omega
 refine wpM.exit <| QM.then_exit <| QM.then_exit <| QM.block_hit <| QM.then <| wpM.seq ?_
 refine wpM.keep ((b29, _) :: (b8, _) :: []) (fun _ => True) (.one 0 1 (.one 1 0 (.one 2 0 (.one 3 0 (.one 4 1 (.one 5 2 (.one 6 0 (.one 7 0 .nil)))))))) kr kr au1 (fun _ _ => trivial) ?_
 refine KD.rd rfl rfl (om_ldW Tryd.isAgg26 Tryd.sizeOf26 rfl rfl) ?_
 refine KD.val rfl rfl (ov_move rfl) <| KD.val rfl rfl (ov_nilCheck rfl) <| KD.val rfl rfl (ovf 3 rfl rfl rfl rfl) ?_
 refine KD.rd rfl rfl (oml rfl rfl rfl) ?_
 refine KD.one rfl ?_
 refine LM.stW Tryd.sizeOf26 rfl rfl rfl rfl au7 au8 ?_
 refine LM.nil ?_
 refine kq1 ?_
 refine KD.val rfl rfl (ov_assign rfl) <| KD.val rfl rfl (ov_assign rfl) <| KD.nil ?_
 refine QM.sub (e' := [(4, _), (5, _), (6, _)]) au9 (QM.then ?_)
 refine wpM.ret ?_
 refine QM.leaveCs (ds := ([])) (.inl rfl) [.cell 4 26, .tmp 5, .tmp 6] Tryd.results41 hd_nil (rc_w rfl Tryd.isAgg26 Tryd.sizeOf26 rfl (rc_tmp rfl (rc_tmp rfl rc_nil))) ?_
 intro w' hm' hc'
 rw [set_nat hi0, hI.ok he3 (by have hjl : j = ps.length := om; have h9 := hmis; rw [hjl, List.take_of_length_le (by simp)] at h9; rw [List.length_map]; exact h9)]; refine ⟨hc', mo ++ (mp ++ (ml ++ (mg ++ []))), ⟨⟨(sA ws i0).2.2, (sB2 ws i0).2.2, gs, adg, ng, cg, ls, adl, nl, cl, ps, adp, np, cp⟩, rfl, rfl, fun w hm => ⟨hng, sr_of_sl hsg (fun _ => rfl) (hm.pick mg), hnl, sr_of_sl hsl (fun _ => rfl) (hm.pick ml), hnp, sr_of_sl hsp (fun _ => rfl) (hm.pick mp), hop w (hm.pick mo)⟩⟩, SubM.mem (by (repeat' (first | exact SubM.nil _ | refine SubM.app ?_))) w' hm', ?_⟩; intro p hp; simp only [List.mem_append, List.not_mem_nil, or_false] at hp; rcases hp with hp | hp | hp | hp; exact hog p hp; exact Sl.ge hsp p hp; exact Sl.ge hsl p hp; exact Sl.ge hsg p hp
abbrev stB (b : Nat) (s : StV) : Nat × Obj := (b, sO s.cr s.gr s.ga s.gn s.gc s.la s.ln s.lc s.pa s.pn s.pc)
def headB (s : StC) : Bool := winB s.cr 4 && (winB s.gr 8 && (winB (s.gs.length : Int) 4 && (decide (s.ls.length ≤ 8) && winB (s.ps.length : Int) 8)))
theorem mayS_split (s : StC) : mayS s = (headB s && (s.gs.all (fun n => winB n 16) && (s.ls.all lokB && !s.ps.any (misB s.ls s.ps.length)))) := by
  unfold mayS headB
  ac_rfl
theorem all_ff {α : Type} {p : α → Bool} {xs : List α} {i : Nat} (d : α) (h : i < xs.length) (hp : p (xs.getD i d) = false) : xs.all p = false := by
  cases hm : xs.all p with
  | false => rfl
  | true => rw [List.all_eq_true.1 hm _ (List.mem_of_getElem? (getq d h))] at hp; cases hp
theorem any_tt {α : Type} {p : α → Bool} {xs : List α} {i : Nat} (d : α) (h : i < xs.length) (hp : p (xs.getD i d) = true) : xs.any p = true := List.any_eq_true.2 ⟨_, List.mem_of_getElem? (getq d h), hp⟩
theorem head_eq {s : StV} (h1 : s.gn = s.gs.length) (h2 : s.ln = s.ls.length) (h3 : s.pn = s.ps.length) : headB s.C = !(!winB s.cr 4 || (!winB s.gr 8 || (!winB (s.gn : Int) 4 || (decide ((s.ln : Int) > 8) || !winB (s.pn : Int) 8)))) := by
  unfold headB StV.C
  simp only [List.length_map, ← h1, ← h2, ← h3]
  rw [show decide (s.ln ≤ 8) = !decide ((s.ln : Int) > 8) by rw [← decide_not]; exact decide_eq_decide.2 om]
  cases winB s.cr 4 <;> cases winB s.gr 8 <;> cases winB (s.gn : Int) 4 <;> cases decide ((s.ln : Int) > 8) <;> cases winB (s.pn : Int) 8 <;> rfl
def smallS (s : StC) : Bool := decide (s.gs.length ≤ 12) && decide (s.ls.length ≤ 12) && decide (s.ps.length ≤ 12) && s.ps.all (fun p => decide (p.xs.length ≤ 20))
theorem mayS_head {s : StC} (h : headB s = false) : mayS s = false := by rw [mayS_split, h]; rfl
theorem mayS_gs {s : StC} (h : s.gs.all (fun n => winB n 16) = false) : mayS s = false := by rw [mayS_split, h]; simp
theorem mayS_ls {s : StC} (h : s.ls.all lokB = false) : mayS s = false := by rw [mayS_split, h]; simp
theorem mayS_ps {s : StC} (h : s.ps.any (misB s.ls s.ps.length) = true) : mayS s = false := by rw [mayS_split, h]; simp
theorem lok_eq {x : CLk} : lokB x = !((!winB x.sl 16 || !winB x.cr 32) || ((x.sh && (!winB x.rd 16 || !winB x.wr 16)) || (!x.sh && (decide (x.rd ≠ 0) || decide (x.wr ≠ 0))))) := by
  unfold lokB
  cases x.sh <;> cases winB x.sl 16 <;> cases winB x.cr 32 <;> simp
theorem rwithin_spec (n most : Int) (w : World) : Ret Tryd.prog 21 #[.int .i64 n, .int .i64 most] w (fun v w' => v = .bool (winB n most) ∧ Ext w w') := by
 refine Ret.enterM Tryd.func21 rfl Tryd.ntmps21 rfl ([]) (no) (Mem.nil w) ?_
 refine wR <| LM.as rfl <| nB [(0, _), (1, _)] <| LM.mv rfl <| LM.val (ov_geq rfl rfl) <| LM.mv rfl ?_
 refine LM.splitD (t := 7) rfl (fun h1 => ?_) (fun h1 => ?_)
 ·
  refine LM.sp 7 rfl rfl rfl <| LM.mv rfl <| LM.sp 7 rfl rfl rfl <| LM.mv rfl <| LM.sp 7 rfl rfl rfl <| LM.val (ov_leq rfl rfl) <| LM.val (ov_pickT rfl rfl) <| LM.as rfl <| nA [(4, _)] <| wpM.ret ?_
  refine qL Tryd.results21 rfl fun w' hm' hc' hg' => ?_
  refine ⟨?_, hc'⟩; simp only [resV, winB]; first | (rw [decide_eq_true (show 1 ≤ n by omega), Bool.true_and]; done) | (rw [decide_eq_false (show ¬ 1 ≤ n by omega), Bool.false_and]; done)
 refine LM.dr 7 rfl rfl rfl <| LM.dr 7 rfl rfl rfl <| LM.dr 7 rfl rfl rfl <| LM.val (ov_pickF rfl rfl) <| LM.as rfl <| nA [(4, _)] <| wpM.ret ?_
 refine qL Tryd.results21 rfl fun w' hm' hc' hg' => ?_
 refine ⟨?_, hc'⟩; simp only [resV, winB]; first | (rw [decide_eq_true (show 1 ≤ n by omega), Bool.true_and]; done) | (rw [decide_eq_false (show ¬ 1 ≤ n by omega), Bool.false_and]; done)
theorem swithin_spec (n most : Int) (w : World) : Ret Tryd.prog 69 #[.int .i64 n, .int .i64 most] w (fun v w' => v = .bool (winB n most) ∧ Ext w w') := by
 refine Ret.enterM Tryd.func69 rfl Tryd.ntmps69 rfl ([]) (no) (Mem.nil w) ?_
 refine wR <| LM.as rfl <| nB [(0, _), (1, _)] <| LM.mv rfl <| LM.val (ov_geq rfl rfl) <| LM.mv rfl ?_
 refine LM.splitD (t := 7) rfl (fun h1 => ?_) (fun h1 => ?_)
 ·
  refine LM.sp 7 rfl rfl rfl <| LM.mv rfl <| LM.sp 7 rfl rfl rfl <| LM.mv rfl <| LM.sp 7 rfl rfl rfl <| LM.val (ov_leq rfl rfl) <| LM.val (ov_pickT rfl rfl) <| LM.as rfl <| nA [(4, _)] <| wpM.ret ?_
  refine qL Tryd.results69 rfl fun w' hm' hc' hg' => ?_
  refine ⟨?_, hc'⟩; simp only [resV, winB]; first | (rw [decide_eq_true (show 1 ≤ n by omega), Bool.true_and]; done) | (rw [decide_eq_false (show ¬ 1 ≤ n by omega), Bool.false_and]; done)
 refine LM.dr 7 rfl rfl rfl <| LM.dr 7 rfl rfl rfl <| LM.dr 7 rfl rfl rfl <| LM.val (ov_pickF rfl rfl) <| LM.as rfl <| nA [(4, _)] <| wpM.ret ?_
 refine qL Tryd.results69 rfl fun w' hm' hc' hg' => ?_
 refine ⟨?_, hc'⟩; simp only [resV, winB]; first | (rw [decide_eq_true (show 1 ≤ n by omega), Bool.true_and]; done) | (rw [decide_eq_false (show ¬ 1 ≤ n by omega), Bool.false_and]; done)
theorem small12_spec {s : StV} (w : World) (hI : s.In w) : Ret Tryd.prog 6 #[s.val] w (fun v w' => v = .bool (smallS s.C) ∧ Ext w w') := by
 have hgn := hI.hgn; have hln := hI.hln; have hpn := hI.hpn; have hp := hI.hp
 refine Ret.enterM Tryd.func6 rfl Tryd.ntmps6 rfl ([]) (no) (Mem.nil w) ?_
 refine wR ?_
 refine LM.box rfl rfl (fun b1 hb1 => ?_)
 refine LM.as rfl <| nA [(1, _)] <| wpM.seq <| wR <| LM.val (ovf 22 rfl rfl rfl rfl) ?_
 refine LM.rd (oml rfl rfl rfl) ?_
 refine LM.val (ov_len Tryd.underlying22 rfl) <| LM.val (ov_gtr rfl rfl) <| LM.mv rfl ?_
 refine LM.splitD (t := 9) rfl (fun h1 => ?_) (fun h1 => ?_)
 ·
  refine LM.dr 9 rfl rfl rfl <| LM.dr 9 rfl rfl rfl <| LM.dr 9 rfl rfl rfl <| LM.dr 9 rfl rfl rfl <| LM.val (ov_pickT rfl rfl) <| LM.mv rfl <| LM.dr 15 rfl rfl rfl <| LM.dr 15 rfl rfl rfl <| LM.dr 15 rfl rfl rfl <| LM.dr 15 rfl rfl rfl <| LM.val (ov_pickT rfl rfl) <| nA [(1, _), (20, _)] ?_
  refine wpM.condT rfl ?_
  refine wR <| LM.as rfl <| nA [(2, _)] <| wpM.ret <| QM.then_ret ?_
  refine qL Tryd.results6 rfl fun w' hm' hc' hg' => ?_
  refine ⟨?_, hc'⟩; show Value.bool false = Value.bool (smallS s.C); unfold smallS; rw [decide_eq_false (show ¬ s.C.gs.length ≤ 12 by show ¬ s.gs.length ≤ 12; omega)]; rfl
 refine LM.sp 9 rfl rfl rfl <| LM.val (ovf 23 rfl rfl rfl rfl) <| LM.sp 9 rfl rfl rfl ?_
 refine LM.rd (oml rfl rfl rfl) ?_
 refine LM.sp 9 rfl rfl rfl <| LM.val (ov_len Tryd.underlying23 rfl) <| LM.sp 9 rfl rfl rfl <| LM.val (ov_gtr rfl rfl) <| LM.val (ov_pickF rfl rfl) <| LM.mv rfl ?_
 refine LM.splitD (t := 15) rfl (fun h2 => ?_) (fun h2 => ?_)
 ·
  refine LM.dr 15 rfl rfl rfl <| LM.dr 15 rfl rfl rfl <| LM.dr 15 rfl rfl rfl <| LM.dr 15 rfl rfl rfl <| LM.val (ov_pickT rfl rfl) <| nA [(1, _), (20, _)] ?_
  refine wpM.condT rfl ?_
  refine wR <| LM.as rfl <| nA [(2, _)] <| wpM.ret <| QM.then_ret ?_
  refine qL Tryd.results6 rfl fun w' hm' hc' hg' => ?_
  refine ⟨?_, hc'⟩; show Value.bool false = Value.bool (smallS s.C); unfold smallS; rw [decide_eq_false (show ¬ s.C.ls.length ≤ 12 by show ¬ s.ls.length ≤ 12; omega)]; simp
 refine LM.sp 15 rfl rfl rfl <| LM.val (ovf 24 rfl rfl rfl rfl) <| LM.sp 15 rfl rfl rfl ?_
 refine LM.rd (oml rfl rfl rfl) ?_
 refine LM.sp 15 rfl rfl rfl <| LM.val (ov_len Tryd.underlying24 rfl) <| LM.sp 15 rfl rfl rfl <| LM.val (ov_gtr rfl rfl) <| LM.val (ov_pickF rfl rfl) <| nA [(1, _), (20, _)] ?_
 refine wpM.condD rfl (fun h3 => ?_) (fun h3 => ?_)
 ·
  refine wR <| LM.as rfl <| nA [(2, _)] <| wpM.ret <| QM.then_ret ?_
  refine qL Tryd.results6 rfl fun w' hm' hc' hg' => ?_
  refine ⟨?_, hc'⟩; show Value.bool false = Value.bool (smallS s.C); unfold smallS; rw [decide_eq_false (show ¬ s.C.ps.length ≤ 12 by show ¬ (s.ps.map PgV.c).length ≤ 12; rw [List.length_map]; omega)]; simp
 refine wpM.skip <| QM.then <| wpM.seq <| wR <| LM.val (ovf 24 rfl rfl rfl rfl) ?_
 refine LM.rd (oml rfl rfl rfl) ?_
 refine LM.val (ov_len Tryd.underlying24 rfl) <| LM.mv rfl <| nA [(22, _), (23, _), (24, _)] <| wpM.block ?_
 refine wpM.loopK0 (α := Nat) (fun i => [(24, .int .i64 (i : Nat))]) [(22, _), (23, _)] (fun i => stB b1 s :: []) (fun i => i ≤ s.ps.length ∧ (s.ps.take i).all (fun p => decide (p.c.xs.length ≤ 20)) = true) (fun i => s.ps.length - i) (0) ⟨au2, rfl, rfl, trivial⟩ au1 ⟨Nat.zero_le _, rfl⟩ ?_
 rintro i ⟨hi, ha⟩
 change wpM _ _ _ _ _ _ _ (stB b1 s :: []) _ _ _
 refine wR <| LM.val (ov_lss rfl rfl) <| nA [(22, _), (23, _), (24, _), (25, _)] <| wpM.seq ?_
 refine wpM.condD rfl (fun h4 => ?_) (fun h4 => ?_)
 ·
  have hpi : (s.ps.getD i default).In w := hI.ops _ (List.mem_of_getElem? (getq default om)); have hpl := hpi.1
  refine wpM.skip <| QM.then <| wpM.seq <| wpM.block <| wR ?_
  refine LM.val (ov_idxSN au6 Tryd.underlying24 Tryd.sizeOf37 rfl rfl om) ?_
  refine LM.rdC (om_srEA asm ir Tryd.isAgg37 Tryd.sizeOf37 rfl au3 id) ?_
  refine LM.alloc Tryd.zeroValue37 rfl (fun b4 hb4 => ?_)
  refine LM.stW Tryd.sizeOf37 rfl rfl rfl rfl au7 au8 ?_
  refine nB [(4, _), (22, _), (23, _), (24, _)] <| LM.val (ovf 35 rfl rfl rfl rfl) ?_
  refine LM.rd (oml rfl rfl rfl) ?_
  refine LM.val (ov_len Tryd.underlying35 rfl) <| LM.val (ov_gtr rfl rfl) <| nA [(22, _), (23, _), (24, _), (31, _)] ?_
  refine wpM.condD rfl (fun h5 => ?_) (fun h5 => ?_)
  ·
   refine wR <| LM.as rfl <| nA [(2, _)] <| wpM.ret <| QM.block_ret <| QM.then_ret <| QM.then_ret <| QM.block_ret <| QM.then_ret ?_
   refine qL Tryd.results6 rfl fun w' hm' hc' hg' => ?_
   refine ⟨?_, hc'⟩; show Value.bool false = Value.bool (smallS s.C); unfold smallS; rw [all_ff (xs := s.C.ps) (i := i) default (by show i < (s.ps.map PgV.c).length; rw [List.length_map]; omega) (by show decide (((s.ps.map PgV.c).getD i default).xs.length ≤ 20) = false; rw [map_getD]; exact decide_eq_false om)]; simp
  refine wpM.skip <| QM.block_normal ?_
  refine QM.then (wpM.region ?_)
  refine LM.val (ov_add64 rfl rfl om) ?_
  refine LM.mv rfl <| nC [(22, _), (23, _), (24, _)] ?_
  refine QM.againK (i + 1) ⟨au2, rfl, rfl, trivial⟩ au1 (fun _ h => h) ?_ ?_
  · exact ⟨by omega, by rw [all_snoc default om, ha, Bool.true_and]; exact decide_eq_true om⟩
  · omega
 refine wpM.exit <| QM.then_exit <| QM.then_exit <| QM.block_hit <| tR <| LM.as rfl <| nA [(2, _)] <| wpM.ret ?_
 refine qL Tryd.results6 rfl fun w' hm' hc' hg' => ?_
 refine ⟨?_, hc'⟩; have hil : i = s.ps.length := om; subst hil; rw [List.take_length] at ha; show Value.bool true = Value.bool (smallS s.C); unfold smallS; rw [decide_eq_true (show s.C.gs.length ≤ 12 by show s.gs.length ≤ 12; omega), decide_eq_true (show s.C.ls.length ≤ 12 by show s.ls.length ≤ 12; omega), decide_eq_true (show s.C.ps.length ≤ 12 by show (s.ps.map PgV.c).length ≤ 12; rw [List.length_map]; omega), show s.C.ps.all (fun p => decide (p.xs.length ≤ 20)) = true by show (s.ps.map PgV.c).all _ = true; rw [List.all_map]; exact ha]; rfl
set_option maxHeartbeats 2000000 in
theorem rmayS_spec {s : StV} (w : World) (hI : s.In w) : Ret Tryd.prog 7 #[s.val] w (fun v w' => v = .bool (mayS s.C) ∧ Ext w w') := by
 have hgn := hI.hgn; have hln := hI.hln; have hpn := hI.hpn; have hp := hI.hp; have hg := hI.hg; have hl := hI.hl; have hcl : (s.ps.map PgV.c).length = s.ps.length := List.length_map ..
 refine Ret.enterM Tryd.func7 rfl Tryd.ntmps7 rfl ([]) (no) (Mem.nil w) ?_
 refine wR ?_
 refine LM.box rfl rfl (fun b1 hb1 => ?_)
 refine LM.as rfl <| nA [(1, _)] <| wpM.seq <| wpM.seq ?_
 refine wpM.joinK (α := Bool) (fun q => [(38, .bool q)]) [(1, _)] (fun q => stB b1 s :: []) (fun q => q = (!winB s.cr 4 || (!winB s.gr 8 || (!winB (s.gn : Int) 4 || (decide ((s.ln : Int) > 8) || !winB (s.pn : Int) 8))))) ⟨rfl, trivial⟩ ?_ ?_
 ·
  refine wpM.region ?_
  refine LM.val (ovf 3 rfl rfl rfl rfl) ?_
  refine LM.rd (oml rfl rfl rfl) ?_
  refine cE Tryd.func21 rfl (fun w hm hc hg => rwithin_spec _ _ w) ?_
  refine LM.val (ov_not rfl) ?_
  refine LM.mv rfl ?_
  refine LM.splitB (t := 13) rfl (fun h1 => ?_) (fun h1 => ?_)
  ·
   refine LM.dr 13 rfl rfl rfl <| LM.dr 13 rfl rfl rfl <| LM.dr 13 rfl rfl rfl <| LM.dr 13 rfl rfl rfl <| LM.val (ov_pickT rfl rfl) <| LM.mv rfl <| LM.dr 19 rfl rfl rfl <| LM.dr 19 rfl rfl rfl <| LM.dr 19 rfl rfl rfl <| LM.dr 19 rfl rfl rfl <| LM.dr 19 rfl rfl rfl <| LM.val (ov_pickT rfl rfl) <| LM.mv rfl <| LM.dr 26 rfl rfl rfl <| LM.dr 26 rfl rfl rfl <| LM.dr 26 rfl rfl rfl <| LM.dr 26 rfl rfl rfl <| LM.val (ov_pickT rfl rfl) <| LM.mv rfl <| LM.dr 32 rfl rfl rfl <| LM.dr 32 rfl rfl rfl <| LM.dr 32 rfl rfl rfl <| LM.dr 32 rfl rfl rfl <| LM.dr 32 rfl rfl rfl <| LM.val (ov_pickT rfl rfl) <| nC [(1, _), (38, _)] ?_
   refine QM.meetK (_) ⟨au2, rfl, trivial⟩ au1 ?_
   · (simp [h1, -List.getD_eq_getElem?_getD]; done)
  refine LM.sp 13 rfl rfl rfl <| LM.val (ovf 3 rfl rfl rfl rfl) <| LM.sp 13 rfl rfl rfl ?_
  refine LM.rd (oml rfl rfl rfl) ?_
  refine LM.sp 13 rfl rfl rfl ?_
  refine cE Tryd.func21 rfl (fun w hm hc hg => rwithin_spec _ _ w) ?_
  refine LM.sp 13 rfl rfl rfl ?_
  refine LM.val (ov_not rfl) ?_
  refine LM.val (ov_pickF rfl rfl) <| LM.mv rfl ?_
  refine LM.splitB (t := 19) rfl (fun h2 => ?_) (fun h2 => ?_)
  ·
   refine LM.dr 19 rfl rfl rfl <| LM.dr 19 rfl rfl rfl <| LM.dr 19 rfl rfl rfl <| LM.dr 19 rfl rfl rfl <| LM.dr 19 rfl rfl rfl <| LM.val (ov_pickT rfl rfl) <| LM.mv rfl <| LM.dr 26 rfl rfl rfl <| LM.dr 26 rfl rfl rfl <| LM.dr 26 rfl rfl rfl <| LM.dr 26 rfl rfl rfl <| LM.val (ov_pickT rfl rfl) <| LM.mv rfl <| LM.dr 32 rfl rfl rfl <| LM.dr 32 rfl rfl rfl <| LM.dr 32 rfl rfl rfl <| LM.dr 32 rfl rfl rfl <| LM.dr 32 rfl rfl rfl <| LM.val (ov_pickT rfl rfl) <| nC [(1, _), (38, _)] ?_
   refine QM.meetK (_) ⟨au2, rfl, trivial⟩ au1 ?_
   · (simp [h1, h2, -List.getD_eq_getElem?_getD]; done)
  refine LM.sp 19 rfl rfl rfl <| LM.val (ovf 22 rfl rfl rfl rfl) <| LM.sp 19 rfl rfl rfl ?_
  refine LM.rd (oml rfl rfl rfl) ?_
  refine LM.sp 19 rfl rfl rfl <| LM.val (ov_len Tryd.underlying22 rfl) <| LM.sp 19 rfl rfl rfl ?_
  refine cE Tryd.func21 rfl (fun w hm hc hg => rwithin_spec _ _ w) ?_
  refine LM.sp 19 rfl rfl rfl ?_
  refine LM.val (ov_not rfl) ?_
  refine LM.val (ov_pickF rfl rfl) <| LM.mv rfl ?_
  refine LM.splitB (t := 26) rfl (fun h3 => ?_) (fun h3 => ?_)
  ·
   refine LM.dr 26 rfl rfl rfl <| LM.dr 26 rfl rfl rfl <| LM.dr 26 rfl rfl rfl <| LM.dr 26 rfl rfl rfl <| LM.val (ov_pickT rfl rfl) <| LM.mv rfl <| LM.dr 32 rfl rfl rfl <| LM.dr 32 rfl rfl rfl <| LM.dr 32 rfl rfl rfl <| LM.dr 32 rfl rfl rfl <| LM.dr 32 rfl rfl rfl <| LM.val (ov_pickT rfl rfl) <| nC [(1, _), (38, _)] ?_
   refine QM.meetK (_) ⟨au2, rfl, trivial⟩ au1 ?_
   · (simp [h1, h2, h3, -List.getD_eq_getElem?_getD]; done)
  refine LM.sp 26 rfl rfl rfl <| LM.val (ovf 23 rfl rfl rfl rfl) <| LM.sp 26 rfl rfl rfl ?_
  refine LM.rd (oml rfl rfl rfl) ?_
  refine LM.sp 26 rfl rfl rfl <| LM.val (ov_len Tryd.underlying23 rfl) <| LM.sp 26 rfl rfl rfl <| LM.val (ov_gtr rfl rfl) <| LM.val (ov_pickF rfl rfl) <| LM.mv rfl ?_
  refine LM.splitD (t := 32) rfl (fun h4 => ?_) (fun h4 => ?_)
  ·
   refine LM.dr 32 rfl rfl rfl <| LM.dr 32 rfl rfl rfl <| LM.dr 32 rfl rfl rfl <| LM.dr 32 rfl rfl rfl <| LM.dr 32 rfl rfl rfl <| LM.val (ov_pickT rfl rfl) <| nC [(1, _), (38, _)] ?_
   refine QM.meetK (_) ⟨au2, rfl, trivial⟩ au1 ?_
   · (simp [h1, h2, h3, h4, -List.getD_eq_getElem?_getD]; done)
  refine LM.sp 32 rfl rfl rfl <| LM.val (ovf 24 rfl rfl rfl rfl) <| LM.sp 32 rfl rfl rfl ?_
  refine LM.rd (oml rfl rfl rfl) ?_
  refine LM.sp 32 rfl rfl rfl <| LM.val (ov_len Tryd.underlying24 rfl) <| LM.sp 32 rfl rfl rfl ?_
  refine cE Tryd.func21 rfl (fun w hm hc hg => rwithin_spec _ _ w) ?_
  refine LM.sp 32 rfl rfl rfl ?_
  refine LM.val (ov_not rfl) ?_
  refine LM.val (ov_pickF rfl rfl) <| nC [(1, _), (38, _)] ?_
  refine QM.meetK (_) ⟨au2, rfl, trivial⟩ au1 ?_
  · (simp [h1, h2, h3, h4, -List.getD_eq_getElem?_getD]; done)
 rintro q hq
 change QM _ _ _ _ _ (stB b1 s :: []) _ _ _
 refine QM.then ?_
 refine wpM.condB rfl (fun h5 => ?_) (fun h5 => ?_)
 ·
  refine wR <| LM.as rfl <| nA [(2, _)] <| wpM.ret <| QM.then_ret ?_
  refine qL Tryd.results7 rfl fun w' hm' hc' hg' => ?_
  refine ⟨?_, hc'⟩; rw [mayS_head (by rw [head_eq hgn hln hpn, ← hq, h5]; rfl)]; rfl
 have hhd : headB s.C = true := (by rw [head_eq hgn hln hpn, ← hq, h5]; rfl); have hh4 := hhd; unfold headB at hh4; simp only [Bool.and_eq_true, decide_eq_true_eq, winL] at hh4; have hG4 : s.gs.length ≤ 4 := (by have := hh4.2.2.1.2; show s.gs.length ≤ 4; have h9 : (s.C.gs.length : Int) ≤ 4 := this; have h8 : s.C.gs.length = s.gs.length := rfl; omega); have hL8 : s.ls.length ≤ 8 := hh4.2.2.2.1; have hP8 : s.ps.length ≤ 8 := (by have h9 := hh4.2.2.2.2.2; have h8 : s.C.ps.length = s.ps.length := hcl; omega)
 refine wpM.skip <| QM.then <| wpM.seq <| wR <| LM.as rfl <| nA [(1, _), (3, _)] <| wpM.block ?_
 refine wpM.loopK0 (α := Nat) (fun i => [(3, .int .i64 (i : Nat))]) [(1, _)] (fun i => stB b1 s :: []) (fun i => i ≤ s.gs.length ∧ (s.gs.take i).all (fun n => winB n 16) = true) (fun i => s.gs.length - i) (0) ⟨au2, rfl, trivial⟩ au1 ⟨Nat.zero_le _, rfl⟩ ?_
 rintro i ⟨hi, hag⟩
 change wpM _ _ _ _ _ _ _ (stB b1 s :: []) _ _ _
 refine wpM.seq <| wR <| LM.mv rfl <| LM.val (ovf 22 rfl rfl rfl rfl) ?_
 refine LM.rd (oml rfl rfl rfl) ?_
 refine LM.val (ov_len Tryd.underlying22 rfl) <| LM.val (ov_lss rfl rfl) <| nA [(1, _), (3, _), (43, _)] ?_
 refine wpM.condD rfl (fun h6 => ?_) (fun h6 => ?_)
 ·
  refine wpM.skip <| QM.then <| wpM.seq <| wpM.block <| wR <| LM.val (ovf 22 rfl rfl rfl rfl) ?_
  refine LM.rd (oml rfl rfl rfl) ?_
  refine LM.mv rfl ?_
  refine LM.val (ov_idxSN au6 Tryd.underlying22 Tryd.sizeOf3 rfl rfl om) ?_
  refine LM.rdC (om_sr1 asm Tryd.isAgg3 rfl rfl (by exact getq 0 au4) (by rfl) id) ?_
  refine cE Tryd.func21 rfl (fun w hm hc hg => rwithin_spec _ _ w) ?_
  refine LM.val (ov_not rfl) ?_
  refine nA [(1, _), (3, _), (52, _)] ?_
  refine wpM.condB rfl (fun h7 => ?_) (fun h7 => ?_)
  ·
   refine wR <| LM.as rfl <| nA [(2, _)] <| wpM.ret <| QM.block_ret <| QM.then_ret <| QM.then_ret <| QM.block_ret <| QM.then_ret ?_
   refine qL Tryd.results7 rfl fun w' hm' hc' hg' => ?_
   refine ⟨?_, hc'⟩; rw [mayS_gs (s := s.C) (all_ff (xs := s.gs) (i := i) 0 om (by simpa using h7))]; rfl
  refine wpM.skip <| QM.block_normal ?_
  refine QM.then (wpM.region ?_)
  refine LM.mv rfl ?_
  refine LM.val (ov_add64 rfl rfl om) ?_
  refine LM.as rfl <| nC [(1, _), (3, _)] ?_
  refine QM.againK (i + 1) ⟨au2, rfl, trivial⟩ au1 (fun _ h => h) ?_ ?_
  · exact ⟨by omega, by rw [all_snoc 0 om, hag, Bool.true_and]; simpa using h7⟩
  · omega
 refine wpM.exit <| QM.then_exit <| QM.then_exit <| QM.block_hit <| QM.then <| wpM.seq <| wR <| LM.as rfl <| nA [(1, _), (4, _)] <| wpM.block ?_
 refine wpM.loopK0 (α := Nat) (fun j => [(4, .int .i64 (j : Nat))]) [(1, _)] (fun j => stB b1 s :: []) (fun j => j ≤ s.ls.length ∧ (s.ls.take j).all lokB = true) (fun j => s.ls.length - j) (0) ⟨au2, rfl, trivial⟩ au1 ⟨Nat.zero_le _, rfl⟩ ?_
 rintro j ⟨hj, hal⟩
 change wpM _ _ _ _ _ _ _ (stB b1 s :: []) _ _ _
 refine wpM.seq <| wR <| LM.mv rfl <| LM.val (ovf 23 rfl rfl rfl rfl) ?_
 refine LM.rd (oml rfl rfl rfl) ?_
 refine LM.val (ov_len Tryd.underlying23 rfl) <| LM.val (ov_lss rfl rfl) <| nA [(1, _), (4, _), (57, _)] ?_
 refine wpM.condD rfl (fun h8 => ?_) (fun h8 => ?_)
 ·
  refine wpM.skip <| QM.then <| wpM.seq <| wpM.block <| wR <| LM.val (ovf 23 rfl rfl rfl rfl) ?_
  refine LM.rd (oml rfl rfl rfl) ?_
  refine LM.mv rfl ?_
  refine LM.val (ov_idxSN au6 Tryd.underlying23 Tryd.sizeOf53 rfl rfl om) ?_
  refine LM.rdC (om_srEA asm ir Tryd.isAgg53 Tryd.sizeOf53 rfl au3 id) ?_
  refine LM.alloc Tryd.zeroValue53 rfl (fun b5 hb5 => ?_)
  refine LM.stW Tryd.sizeOf53 rfl rfl rfl rfl au7 au8 ?_
  refine nA [(1, _), (4, _), (5, _)] <| wpM.seq <| wpM.seq ?_
  refine wpM.joinK (α := Bool) (fun q2 => [(74, .bool q2)]) [(1, _), (4, _), (5, _)] (fun q2 => (b5, .cells (fL (s.ls.getD j default)).toArray 53 (0, 0)) :: stB b1 s :: []) (fun q2 => q2 = (!winB (s.ls.getD j default).sl 16 || !winB (s.ls.getD j default).cr 32)) ⟨rfl, rfl, rfl, trivial⟩ ?_ ?_
  ·
   refine wpM.region ?_
   refine LM.val (ovf 3 rfl rfl rfl rfl) ?_
   refine LM.rd (oml rfl rfl rfl) ?_
   refine cE Tryd.func21 rfl (fun w hm hc hg => rwithin_spec _ _ w) ?_
   refine LM.val (ov_not rfl) ?_
   refine LM.mv rfl ?_
   refine LM.splitB (t := 69) rfl (fun h9 => ?_) (fun h9 => ?_)
   ·
    refine LM.dr 69 rfl rfl rfl <| LM.dr 69 rfl rfl rfl <| LM.dr 69 rfl rfl rfl <| LM.dr 69 rfl rfl rfl <| LM.val (ov_pickT rfl rfl) <| nC [(1, _), (4, _), (5, _), (74, _)] ?_
    refine QM.meetK (_) ⟨au2, rfl, rfl, rfl, trivial⟩ au1 ?_
    · (simp [h5, h6, h8, h9, -List.getD_eq_getElem?_getD]; done)
   refine LM.sp 69 rfl rfl rfl <| LM.val (ovf 3 rfl rfl rfl rfl) <| LM.sp 69 rfl rfl rfl ?_
   refine LM.rd (oml rfl rfl rfl) ?_
   refine LM.sp 69 rfl rfl rfl ?_
   refine cE Tryd.func21 rfl (fun w hm hc hg => rwithin_spec _ _ w) ?_
   refine LM.sp 69 rfl rfl rfl ?_
   refine LM.val (ov_not rfl) ?_
   refine LM.val (ov_pickF rfl rfl) <| nC [(1, _), (4, _), (5, _), (74, _)] ?_
   refine QM.meetK (_) ⟨au2, rfl, rfl, rfl, trivial⟩ au1 ?_
   · (simp [h5, h6, h8, h9, -List.getD_eq_getElem?_getD]; done)
  rintro q2 hq2
  change QM _ _ _ _ _ ((b5, .cells (fL (s.ls.getD j default)).toArray 53 (0, 0)) :: stB b1 s :: []) _ _ _
  refine QM.then ?_
  refine wpM.condB rfl (fun h10 => ?_) (fun h10 => ?_)
  ·
   refine wR <| LM.as rfl <| nA [(2, _)] <| wpM.ret <| QM.then_ret <| QM.block_ret <| QM.then_ret <| QM.then_ret <| QM.block_ret <| QM.then_ret ?_
   refine qL Tryd.results7 rfl fun w' hm' hc' hg' => ?_
   refine ⟨?_, hc'⟩; rw [mayS_ls (s := s.C) (all_ff (xs := s.ls) (i := j) default om (by rw [lok_eq, ← hq2, h10]; rfl))]; rfl
  refine wpM.skip <| QM.then <| wpM.seq ?_
  refine wpM.joinK (α := Bool) (fun q3 => [(103, .bool q3)]) [(1, _), (4, _)] (fun q3 => (b5, .cells (fL (s.ls.getD j default)).toArray 53 (0, 0)) :: stB b1 s :: []) (fun q3 => q3 = (((s.ls.getD j default).sh && (!winB (s.ls.getD j default).rd 16 || !winB (s.ls.getD j default).wr 16)) || (!(s.ls.getD j default).sh && (decide ((s.ls.getD j default).rd ≠ 0) || decide ((s.ls.getD j default).wr ≠ 0))))) ⟨rfl, rfl, trivial⟩ ?_ ?_
  ·
   refine wpM.region ?_
   refine LM.val (ovf 4 rfl rfl rfl rfl) ?_
   refine LM.rd (oml rfl rfl rfl) ?_
   refine LM.mv rfl ?_
   refine LM.splitB (t := 77) rfl (fun h11 => ?_) (fun h11 => ?_)
   ·
    refine LM.sp 77 rfl rfl rfl <| LM.val (ovf 3 rfl rfl rfl rfl) <| LM.sp 77 rfl rfl rfl ?_
    refine LM.rd (oml rfl rfl rfl) ?_
    refine LM.sp 77 rfl rfl rfl ?_
    refine cE Tryd.func21 rfl (fun w hm hc hg => rwithin_spec _ _ w) ?_
    refine LM.sp 77 rfl rfl rfl ?_
    refine LM.val (ov_not rfl) ?_
    refine LM.sp 77 rfl rfl rfl <| LM.mv rfl ?_
    refine LM.splitB (t := 82) rfl (fun h12 => ?_) (fun h12 => ?_)
    ·
     refine LM.dr 82 rfl rfl rfl <| LM.dr 82 rfl rfl rfl <| LM.dr 82 rfl rfl rfl <| LM.dr 82 rfl rfl rfl <| LM.sp 77 rfl rfl rfl <| LM.val (ov_pickT rfl rfl) <| LM.val (ov_pickT rfl rfl) <| LM.mv rfl <| LM.dr 89 rfl rfl rfl <| LM.dr 89 rfl rfl rfl <| LM.dr 89 rfl rfl rfl ?_
     refine LM.dropU (t := 89) rfl rfl rfl ?_
     refine LM.dropX (t := 93) rfl rfl ?_
     refine LM.dropX (t := 93) rfl rfl ?_
     refine LM.dropX (t := 93) rfl rfl ?_
     refine LM.dropX (t := 93) rfl rfl ?_
     refine LM.dropX (t := 97) rfl rfl ?_
     refine LM.dropX (t := 97) rfl rfl ?_
     refine LM.dropX (t := 97) rfl rfl ?_
     refine LM.dropX (t := 93) rfl rfl ?_
     refine LM.dr 89 rfl rfl rfl <| LM.val (ov_pickT rfl rfl) <| nC [(1, _), (4, _), (103, _)] ?_
     refine QM.meetK (_) ⟨au2, rfl, rfl, trivial⟩ au1 ?_
     · (simp [h5, h6, h8, h10, h11, h12, -List.getD_eq_getElem?_getD]; done)
    refine LM.sp 82 rfl rfl rfl <| LM.val (ovf 3 rfl rfl rfl rfl) <| LM.sp 82 rfl rfl rfl ?_
    refine LM.rd (oml rfl rfl rfl) ?_
    refine LM.sp 82 rfl rfl rfl ?_
    refine cE Tryd.func21 rfl (fun w hm hc hg => rwithin_spec _ _ w) ?_
    refine LM.sp 82 rfl rfl rfl ?_
    refine LM.val (ov_not rfl) ?_
    refine LM.sp 77 rfl rfl rfl <| LM.val (ov_pickF rfl rfl) <| LM.val (ov_pickT rfl rfl) <| LM.mv rfl ?_
    refine LM.splitB (t := 89) rfl (fun h13 => ?_) (fun h13 => ?_)
    ·
     refine LM.dr 89 rfl rfl rfl <| LM.dr 89 rfl rfl rfl <| LM.dr 89 rfl rfl rfl ?_
     refine LM.dropU (t := 89) rfl rfl rfl ?_
     refine LM.dropX (t := 93) rfl rfl ?_
     refine LM.dropX (t := 93) rfl rfl ?_
     refine LM.dropX (t := 93) rfl rfl ?_
     refine LM.dropX (t := 93) rfl rfl ?_
     refine LM.dropX (t := 97) rfl rfl ?_
     refine LM.dropX (t := 97) rfl rfl ?_
     refine LM.dropX (t := 97) rfl rfl ?_
     refine LM.dropX (t := 93) rfl rfl ?_
     refine LM.dr 89 rfl rfl rfl <| LM.val (ov_pickT rfl rfl) <| nC [(1, _), (4, _), (103, _)] ?_
     refine QM.meetK (_) ⟨au2, rfl, rfl, trivial⟩ au1 ?_
     · (simp [h5, h6, h8, h10, h11, h12, h13, -List.getD_eq_getElem?_getD]; done)
    refine LM.sp 89 rfl rfl rfl <| LM.val (ovf 4 rfl rfl rfl rfl) <| LM.sp 89 rfl rfl rfl ?_
    refine LM.rd (oml rfl rfl rfl) ?_
    refine LM.sp 89 rfl rfl rfl ?_
    refine LM.val (ov_not rfl) ?_
    refine LM.sp 89 rfl rfl rfl <| LM.mv rfl ?_
    refine LM.splitB (t := 93) rfl (fun h14 => ?_) (fun h14 => ?_)
    ·
     refine LM.sp 93 rfl rfl rfl <| LM.val (ovf 3 rfl rfl rfl rfl) <| LM.sp 93 rfl rfl rfl ?_
     refine LM.rd (oml rfl rfl rfl) ?_
     refine LM.sp 93 rfl rfl rfl <| LM.val (ov_neq rfl rfl) <| LM.sp 93 rfl rfl rfl <| LM.mv rfl ?_
     refine LM.splitD (t := 97) rfl (fun h15 => ?_) (fun h15 => ?_)
     ·
      refine LM.dr 97 rfl rfl rfl <| LM.dr 97 rfl rfl rfl <| LM.dr 97 rfl rfl rfl <| LM.sp 93 rfl rfl rfl <| LM.val (ov_pickT rfl rfl) <| LM.sp 89 rfl rfl rfl <| LM.val (ov_pickT rfl rfl) <| LM.val (ov_pickF rfl rfl) <| nC [(1, _), (4, _), (103, _)] ?_
      refine QM.meetK (_) ⟨au2, rfl, rfl, trivial⟩ au1 ?_
      · (simp_all [-List.getD_eq_getElem?_getD]; done)
     refine LM.sp 97 rfl rfl rfl <| LM.val (ovf 3 rfl rfl rfl rfl) <| LM.sp 97 rfl rfl rfl ?_
     refine LM.rd (oml rfl rfl rfl) ?_
     refine LM.sp 97 rfl rfl rfl <| LM.val (ov_neq rfl rfl) <| LM.sp 93 rfl rfl rfl <| LM.val (ov_pickF rfl rfl) <| LM.sp 89 rfl rfl rfl <| LM.val (ov_pickT rfl rfl) <| LM.val (ov_pickF rfl rfl) <| nC [(1, _), (4, _), (103, _)] ?_
     refine QM.meetK (_) ⟨au2, rfl, rfl, trivial⟩ au1 ?_
     · (simp_all [-List.getD_eq_getElem?_getD]; done)
    refine LM.dr 93 rfl rfl rfl <| LM.dr 93 rfl rfl rfl <| LM.dr 93 rfl rfl rfl ?_
    refine LM.dropU (t := 93) rfl rfl rfl ?_
    refine LM.dropX (t := 97) rfl rfl ?_
    refine LM.dropX (t := 97) rfl rfl ?_
    refine LM.dropX (t := 97) rfl rfl ?_
    refine LM.dr 93 rfl rfl rfl <| LM.sp 89 rfl rfl rfl <| LM.val (ov_pickF rfl rfl) <| LM.val (ov_pickF rfl rfl) <| nC [(1, _), (4, _), (103, _)] ?_
    refine QM.meetK (_) ⟨au2, rfl, rfl, trivial⟩ au1 ?_
    · (simp [h5, h6, h8, h10, h11, h12, h13, h14, -List.getD_eq_getElem?_getD]; done)
   refine LM.dr 77 rfl rfl rfl <| LM.dr 77 rfl rfl rfl <| LM.dr 77 rfl rfl rfl <| LM.dr 77 rfl rfl rfl ?_
   refine LM.dropU (t := 77) rfl rfl rfl ?_
   refine LM.dropX (t := 82) rfl rfl ?_
   refine LM.dropX (t := 82) rfl rfl ?_
   refine LM.dropX (t := 82) rfl rfl ?_
   refine LM.dropX (t := 82) rfl rfl ?_
   refine LM.dr 77 rfl rfl rfl <| LM.val (ov_pickF rfl rfl) <| LM.mv rfl <| LM.sp 89 rfl rfl rfl <| LM.val (ovf 4 rfl rfl rfl rfl) <| LM.sp 89 rfl rfl rfl ?_
   refine LM.rd (oml rfl rfl rfl) ?_
   refine LM.sp 89 rfl rfl rfl ?_
   refine LM.val (ov_not rfl) ?_
   refine LM.sp 89 rfl rfl rfl <| LM.mv rfl ?_
   refine LM.splitB (t := 93) rfl (fun h16 => ?_) (fun h16 => ?_)
   ·
    refine LM.sp 93 rfl rfl rfl <| LM.val (ovf 3 rfl rfl rfl rfl) <| LM.sp 93 rfl rfl rfl ?_
    refine LM.rd (oml rfl rfl rfl) ?_
    refine LM.sp 93 rfl rfl rfl <| LM.val (ov_neq rfl rfl) <| LM.sp 93 rfl rfl rfl <| LM.mv rfl ?_
    refine LM.splitD (t := 97) rfl (fun h17 => ?_) (fun h17 => ?_)
    ·
     refine LM.dr 97 rfl rfl rfl <| LM.dr 97 rfl rfl rfl <| LM.dr 97 rfl rfl rfl <| LM.sp 93 rfl rfl rfl <| LM.val (ov_pickT rfl rfl) <| LM.sp 89 rfl rfl rfl <| LM.val (ov_pickT rfl rfl) <| LM.val (ov_pickF rfl rfl) <| nC [(1, _), (4, _), (103, _)] ?_
     refine QM.meetK (_) ⟨au2, rfl, rfl, trivial⟩ au1 ?_
     · (simp [h5, h6, h8, h10, h11, h16, h17, -List.getD_eq_getElem?_getD]; done)
    refine LM.sp 97 rfl rfl rfl <| LM.val (ovf 3 rfl rfl rfl rfl) <| LM.sp 97 rfl rfl rfl ?_
    refine LM.rd (oml rfl rfl rfl) ?_
    refine LM.sp 97 rfl rfl rfl <| LM.val (ov_neq rfl rfl) <| LM.sp 93 rfl rfl rfl <| LM.val (ov_pickF rfl rfl) <| LM.sp 89 rfl rfl rfl <| LM.val (ov_pickT rfl rfl) <| LM.val (ov_pickF rfl rfl) <| nC [(1, _), (4, _), (103, _)] ?_
    refine QM.meetK (_) ⟨au2, rfl, rfl, trivial⟩ au1 ?_
    · (simp [h5, h6, h8, h10, h11, h16, h17, -List.getD_eq_getElem?_getD]; done)
   refine LM.dr 93 rfl rfl rfl <| LM.dr 93 rfl rfl rfl <| LM.dr 93 rfl rfl rfl ?_
   refine LM.dropU (t := 93) rfl rfl rfl ?_
   refine LM.dropX (t := 97) rfl rfl ?_
   refine LM.dropX (t := 97) rfl rfl ?_
   refine LM.dropX (t := 97) rfl rfl ?_
   refine LM.dr 93 rfl rfl rfl <| LM.sp 89 rfl rfl rfl <| LM.val (ov_pickF rfl rfl) <| LM.val (ov_pickF rfl rfl) <| nC [(1, _), (4, _), (103, _)] ?_
   refine QM.meetK (_) ⟨au2, rfl, rfl, trivial⟩ au1 ?_
   · (simp_all [-List.getD_eq_getElem?_getD]; done)
  rintro q3 hq3
  change QM _ _ _ _ _ ((b5, .cells (fL (s.ls.getD j default)).toArray 53 (0, 0)) :: stB b1 s :: []) _ _ _
  refine QM.then ?_
  refine wpM.condB rfl (fun h18 => ?_) (fun h18 => ?_)
  ·
   refine wR <| LM.as rfl <| nA [(2, _)] <| wpM.ret <| QM.block_ret <| QM.then_ret <| QM.then_ret <| QM.block_ret <| QM.then_ret ?_
   refine qL Tryd.results7 rfl fun w' hm' hc' hg' => ?_
   refine ⟨?_, hc'⟩; rw [mayS_ls (s := s.C) (all_ff (xs := s.ls) (i := j) default om (by rw [lok_eq, ← hq3, h18]; simp))]; rfl
  refine wpM.skip <| QM.block_normal ?_
  refine QM.then (wpM.region ?_)
  refine LM.mv rfl ?_
  refine LM.val (ov_add64 rfl rfl om) ?_
  refine LM.as rfl <| nC [(1, _), (4, _)] ?_
  refine QM.againK (j + 1) ⟨au2, rfl, trivial⟩ au1 (fun _ h => h) ?_ ?_
  · exact ⟨by omega, by rw [all_snoc default om, hal, Bool.true_and, lok_eq, ← hq2, ← hq3, h10, h18]; rfl⟩
  · omega
 refine wpM.exit <| QM.then_exit <| QM.then_exit <| QM.block_hit <| QM.then <| wpM.seq <| wR <| LM.as rfl <| nA [(1, _), (6, _)] <| wpM.block ?_
 refine wpM.loopK0 (α := Nat) (fun k => [(6, .int .i64 (k : Nat))]) [(1, _)] (fun k => stB b1 s :: []) (fun k => k ≤ s.ps.length ∧ ((s.ps.map PgV.c).take k).any (misB s.ls (s.pn : Nat)) = false) (fun k => s.ps.length - k) (0) ⟨au2, rfl, trivial⟩ au1 ⟨Nat.zero_le _, rfl⟩ ?_
 rintro k ⟨hk, hap⟩
 change wpM _ _ _ _ _ _ _ (stB b1 s :: []) _ _ _
 refine wpM.seq <| wR <| LM.mv rfl <| LM.val (ovf 24 rfl rfl rfl rfl) ?_
 refine LM.rd (oml rfl rfl rfl) ?_
 refine LM.val (ov_len Tryd.underlying24 rfl) <| LM.val (ov_lss rfl rfl) <| nA [(1, _), (6, _), (108, _)] ?_
 refine wpM.condD rfl (fun h19 => ?_) (fun h19 => ?_)
 ·
  have hpm : s.ps.getD k default ∈ s.ps := List.mem_of_getElem? (getq default om)
  refine wpM.skip <| QM.then <| wpM.seq <| wpM.block <| wpM.seq ?_
  refine wpM.draw [(0, 0), (1, 1), (2, 0), (3, 0), (4, 1), (5, 0), (6, 1), (7, 0), (8, 1), (9, 0), (10, 2), (11, 0), (12, 0), (13, 0), (14, 0), (15, 0)] kr kr ?_
  refine LD.val rfl rfl (ovf 24 rfl rfl rfl rfl) ?_
  refine LD.rd rfl rfl (oml rfl rfl rfl) ?_
  refine LD.val rfl rfl (ov_move rfl) ?_
  refine LD.val rfl rfl (ov_idxSN au6 Tryd.underlying24 Tryd.sizeOf37 rfl rfl om) ?_
  refine LD.rdC rfl rfl (om_srEA asm ir Tryd.isAgg37 Tryd.sizeOf37 rfl au3 id) ?_
  refine LD.val rfl rfl (ovf 23 rfl rfl rfl rfl) ?_
  refine LD.rd rfl rfl (oml rfl rfl rfl) ?_
  refine LD.val rfl rfl (ovf 24 rfl rfl rfl rfl) ?_
  refine LD.rd rfl rfl (oml rfl rfl rfl) ?_
  refine LD.val rfl rfl (ov_len Tryd.underlying24 rfl) ?_
  refine dE rfl rfl Tryd.func22 rfl (fun w hm hc hg => rcheck_spec (s.pn : Nat) w (hI.ops _ hpm).1 ((hI.ops _ hpm).2.ext hc) hln (hl.ext hc)) ?_
  refine LD.val rfl rfl (ov_move rfl) ?_
  refine LD.val rfl rfl (ov_extract rfl rfl) ?_
  refine LD.val rfl rfl (ov_extract rfl rfl) ?_
  refine LD.val rfl rfl (ov_assign rfl) <| LD.val rfl rfl (ov_assign rfl) <| LD.nil ?_
  refine QM.sub (e' := [(1, _), (6, _), (8, _)]) au9 (QM.then (wpM.seq (wpM.region ?_)))
  refine LM.mv rfl <| LM.val (ov_neq rfl rfl) <| nA [(1, _), (6, _), (126, _)] ?_
  refine wpM.condD rfl (fun h20 => ?_) (fun h20 => ?_)
  ·
   refine wR <| LM.as rfl <| nA [(2, _)] <| wpM.ret <| QM.block_ret <| QM.then_ret <| QM.then_ret <| QM.block_ret <| QM.then_ret ?_
   refine qL Tryd.results7 rfl fun w' hm' hc' hg' => ?_
   refine ⟨?_, hc'⟩; rw [mayS_ps (s := s.C) (any_tt (xs := s.C.ps) (i := k) default (by show k < (s.ps.map PgV.c).length; omega) (by show misB s.ls (s.ps.map PgV.c).length ((s.ps.map PgV.c).getD k default) = true; rw [map_getD, hcl]; unfold misB; rw [← hpn]; exact decide_eq_true h20))]; rfl
  refine wpM.skip <| QM.block_normal ?_
  refine QM.then (wpM.region ?_)
  refine LM.mv rfl ?_
  refine LM.val (ov_add64 rfl rfl om) ?_
  refine LM.as rfl <| nC [(1, _), (6, _)] ?_
  refine QM.againK (k + 1) ⟨au2, rfl, trivial⟩ au1 (fun _ h => h) ?_ ?_
  · exact ⟨by omega, by rw [any_snoc default (by rw [hcl]; omega), hap, Bool.false_or, map_getD]; unfold misB; simpa using h20⟩
  · omega
 refine wpM.exit <| QM.then_exit <| QM.then_exit <| QM.block_hit <| tR <| LM.as rfl <| nA [(2, _)] <| wpM.ret ?_
 refine qL Tryd.results7 rfl fun w' hm' hc' hg' => ?_
 refine ⟨?_, hc'⟩; have hig : i = s.gs.length := om; have hjl : j = s.ls.length := om; have hkp : k = s.ps.length := om; rw [hig, List.take_length] at hag; rw [hjl, List.take_length] at hal; rw [hkp, List.take_of_length_le om] at hap; rw [mayS_split, hhd]; show Value.bool true = Value.bool (true && (s.gs.all (fun n => winB n 16) && (s.ls.all lokB && !(s.ps.map PgV.c).any (misB s.ls (s.ps.map PgV.c).length)))); rw [hag, hal, hcl, ← hpn, hap]; rfl
theorem smay1_spec (n : Int) (w : World) : Ret Tryd.prog 71 #[.int .i64 n] w (fun v w' => v = .bool (!winB n 16) ∧ Ext w w') := by
 refine Ret.enterM Tryd.func71 rfl Tryd.ntmps71 rfl ([]) (no) (Mem.nil w) ?_
 refine wR <| LM.as rfl <| nB [(0, _)] <| LM.mv rfl ?_
 refine cE Tryd.func69 rfl (fun w hm hc hg => swithin_spec n 16 w) ?_
 refine LM.val (ov_not rfl) ?_
 refine LM.as rfl <| nA [(2, _)] <| wpM.ret ?_
 refine qL Tryd.results71 rfl fun w' hm' hc' hg' => ?_
 exact ⟨rfl, hc'⟩
theorem lockMay_spec (x : CLk) (w : World) : Ret Tryd.prog 74 #[.agg (fL x).toArray] w (fun v w' => v = .bool (lokB x) ∧ Ext w w') := by
 refine Ret.enterM Tryd.func74 rfl Tryd.ntmps74 rfl ([]) (no) (Mem.nil w) ?_
 refine wR ?_
 refine LM.box rfl rfl (fun b1 hb1 => ?_)
 refine LM.as rfl <| nA [(1, _)] <| wpM.seq ?_
 refine wpM.joinK (α := Bool) (fun q => [(3, .bool q)]) [(1, _)] (fun q => (b1, .cells (fL x).toArray 53 (0, 0)) :: []) (fun q => q = (decide (x.rd = 0) && decide (x.wr = 0))) ⟨rfl, trivial⟩ ?_ ?_
 ·
  refine wpM.region ?_
  refine LM.val (ovf 3 rfl rfl rfl rfl) ?_
  refine LM.rd (oml rfl rfl rfl) ?_
  refine LM.val (ov_eql rfl rfl) <| LM.mv rfl ?_
  refine LM.splitD (t := 7) rfl (fun h1 => ?_) (fun h1 => ?_)
  ·
   refine LM.sp 7 rfl rfl rfl <| LM.val (ovf 3 rfl rfl rfl rfl) <| LM.sp 7 rfl rfl rfl ?_
   refine LM.rd (oml rfl rfl rfl) ?_
   refine LM.sp 7 rfl rfl rfl <| LM.val (ov_eql rfl rfl) <| LM.val (ov_pickT rfl rfl) <| LM.as rfl <| nC [(1, _), (3, _)] ?_
   refine QM.meetK (_) ⟨au2, rfl, trivial⟩ au1 ?_
   · (simp [h1, -List.getD_eq_getElem?_getD]; done)
  refine LM.dr 7 rfl rfl rfl <| LM.dr 7 rfl rfl rfl <| LM.dr 7 rfl rfl rfl <| LM.val (ov_pickF rfl rfl) <| LM.as rfl <| nC [(1, _), (3, _)] ?_
  refine QM.meetK (_) ⟨au2, rfl, trivial⟩ au1 ?_
  · (simp [h1, -List.getD_eq_getElem?_getD]; done)
 rintro q hq
 change QM _ _ _ _ _ ((b1, .cells (fL x).toArray 53 (0, 0)) :: []) _ _ _
 refine QM.then <| wpM.seq <| wR <| LM.val (ovf 4 rfl rfl rfl rfl) ?_
 refine LM.rd (oml rfl rfl rfl) ?_
 refine nA [(1, _), (3, _), (13, _)] ?_
 refine wpM.joinK (α := Bool) (fun q2 => [(3, .bool q2)]) [(1, _)] (fun q2 => (b1, .cells (fL x).toArray 53 (0, 0)) :: []) (fun q2 => q2 = (if x.sh then winB x.rd 16 && winB x.wr 16 else decide (x.rd = 0) && decide (x.wr = 0))) ⟨rfl, trivial⟩ ?_ ?_
 ·
  refine wpM.condB rfl (fun h2 => ?_) (fun h2 => ?_)
  ·
   refine wpM.region ?_
   refine LM.val (ovf 3 rfl rfl rfl rfl) ?_
   refine LM.rd (oml rfl rfl rfl) ?_
   refine cE Tryd.func69 rfl (fun w hm hc hg => swithin_spec _ _ w) ?_
   refine LM.mv rfl ?_
   refine LM.splitB (t := 17) rfl (fun h3 => ?_) (fun h3 => ?_)
   ·
    refine LM.sp 17 rfl rfl rfl <| LM.val (ovf 3 rfl rfl rfl rfl) <| LM.sp 17 rfl rfl rfl ?_
    refine LM.rd (oml rfl rfl rfl) ?_
    refine LM.sp 17 rfl rfl rfl ?_
    refine cE Tryd.func69 rfl (fun w hm hc hg => swithin_spec _ _ w) ?_
    refine LM.val (ov_pickT rfl rfl) <| LM.as rfl <| nC [(1, _), (3, _)] ?_
    refine QM.meetK (_) ⟨au2, rfl, trivial⟩ au1 ?_
    · (simp [h2, h3, -List.getD_eq_getElem?_getD]; done)
   refine LM.dr 17 rfl rfl rfl <| LM.dr 17 rfl rfl rfl <| LM.dr 17 rfl rfl rfl <| LM.val (ov_pickF rfl rfl) <| LM.as rfl <| nC [(1, _), (3, _)] ?_
   refine QM.meetK (_) ⟨au2, rfl, trivial⟩ au1 ?_
   · (simp [h2, h3, -List.getD_eq_getElem?_getD]; done)
  refine wpM.skip ?_
  refine QM.meetK (_) ⟨au2, rfl, trivial⟩ au1 ?_
  · (simp_all [-List.getD_eq_getElem?_getD]; done)
 rintro q2 hq2
 change QM _ _ _ _ _ ((b1, .cells (fL x).toArray 53 (0, 0)) :: []) _ _ _
 refine tR <| LM.mv rfl <| LM.mv rfl ?_
 refine LM.splitB (t := 23) rfl (fun h4 => ?_) (fun h4 => ?_)
 ·
  refine LM.sp 23 rfl rfl rfl <| LM.val (ovf 3 rfl rfl rfl rfl) <| LM.sp 23 rfl rfl rfl ?_
  refine LM.rd (oml rfl rfl rfl) ?_
  refine LM.sp 23 rfl rfl rfl ?_
  refine cE Tryd.func69 rfl (fun w hm hc hg => swithin_spec _ _ w) ?_
  refine LM.val (ov_pickT rfl rfl) <| LM.mv rfl ?_
  refine LM.splitB (t := 28) rfl (fun h5 => ?_) (fun h5 => ?_)
  ·
   refine LM.sp 28 rfl rfl rfl <| LM.val (ovf 3 rfl rfl rfl rfl) <| LM.sp 28 rfl rfl rfl ?_
   refine LM.rd (oml rfl rfl rfl) ?_
   refine LM.sp 28 rfl rfl rfl ?_
   refine cE Tryd.func69 rfl (fun w hm hc hg => swithin_spec _ _ w) ?_
   refine LM.val (ov_pickT rfl rfl) <| LM.as rfl <| nA [(2, _)] <| wpM.ret ?_
   refine qL Tryd.results74 rfl fun w' hm' hc' hg' => ?_
   refine ⟨?_, hc'⟩; simp only [resV, lokB, ← hq2]; simp [h4, h5]
  refine LM.dr 28 rfl rfl rfl <| LM.dr 28 rfl rfl rfl <| LM.dr 28 rfl rfl rfl <| LM.val (ov_pickF rfl rfl) <| LM.as rfl <| nA [(2, _)] <| wpM.ret ?_
  refine qL Tryd.results74 rfl fun w' hm' hc' hg' => ?_
  refine ⟨?_, hc'⟩; simp only [resV, lokB, ← hq2]; simp [h4, h5]
 refine LM.dr 23 rfl rfl rfl <| LM.dr 23 rfl rfl rfl <| LM.dr 23 rfl rfl rfl <| LM.val (ov_pickF rfl rfl) <| LM.mv rfl <| LM.dr 28 rfl rfl rfl <| LM.dr 28 rfl rfl rfl <| LM.dr 28 rfl rfl rfl <| LM.val (ov_pickF rfl rfl) <| LM.as rfl <| nA [(2, _)] <| wpM.ret ?_
 refine qL Tryd.results74 rfl fun w' hm' hc' hg' => ?_
 refine ⟨?_, hc'⟩; simp only [resV, lokB, ← hq2]; simp [h4]
theorem smay2_spec (x : CLk) (w : World) : Ret Tryd.prog 73 #[.agg (fL x).toArray] w (fun v w' => v = .bool (!lokB x) ∧ Ext w w') := by
 refine Ret.enterM Tryd.func73 rfl Tryd.ntmps73 rfl ([]) (no) (Mem.nil w) ?_
 refine wR ?_
 refine LM.box rfl rfl (fun b1 hb1 => ?_)
 refine LM.as rfl <| nB [(1, _)] ?_
 refine LM.rd (om_ldW Tryd.isAgg53 Tryd.sizeOf53 rfl rfl) ?_
 refine cE Tryd.func74 rfl (fun w hm hc hg => lockMay_spec x w) ?_
 refine LM.val (ov_not rfl) ?_
 refine LM.as rfl <| nA [(2, _)] <| wpM.ret ?_
 refine qL Tryd.results73 rfl fun w' hm' hc' hg' => ?_
 exact ⟨rfl, hc'⟩
theorem ixf_g {xs : List Int} {ad : Option Addr} {n cap : Nat} (w : World) (hn : n = xs.length) (hl : Sr fI 1 xs (.slice ad n cap) w) (hx : xs.length ≤ 1000000) : Ret Tryd.prog 85 #[.slice ad n cap, .func (.func 71) #[] #[]] w (fun v w' => v = .int .i64 (fixI (fun o => (!winB o 16)) xs) ∧ Ext w w') := by
 refine Ret.enterM Tryd.func85 rfl Tryd.ntmps85 rfl ([]) (no) (Mem.nil w) ?_
 refine wR <| LM.as rfl <| nA [(0, _), (1, _)] <| wpM.seq <| wR <| LM.mv rfl <| LM.val (ov_len Tryd.underlying22 rfl) <| LM.mv rfl <| nA [(0, _), (1, _), (7, _), (8, _)] <| wpM.block ?_
 refine wpM.loopK0 (α := Nat) (fun i => [(8, .int .i64 (i : Nat))]) [(0, _), (1, _), (7, _)] (fun i => []) (fun i => i ≤ xs.length ∧ (xs.take i).any (fun o => (!winB o 16)) = false) (fun i => xs.length - i) (0) ⟨au2, rfl, rfl, rfl, trivial⟩ au1 ⟨Nat.zero_le _, rfl⟩ ?_
 rintro i ⟨hi, ha⟩
 change wpM _ _ _ _ _ _ _ ([]) _ _ _
 refine wR <| LM.val (ov_lss rfl rfl) <| nA [(0, _), (1, _), (7, _), (8, _), (9, _)] <| wpM.seq ?_
 refine wpM.condD rfl (fun h1 => ?_) (fun h1 => ?_)
 ·
  refine wpM.skip <| QM.then <| wpM.seq <| wpM.block <| wR <| LM.mv rfl <| LM.as rfl <| nB [(0, _), (1, _), (5, _), (7, _), (8, _)] <| LM.mv rfl <| LM.mv rfl <| LM.mv rfl ?_
  refine LM.val (ov_idxSN au6 Tryd.underlying22 Tryd.sizeOf3 rfl rfl om) ?_
  refine LM.rdC (om_sr1 asm Tryd.isAgg3 rfl rfl (by exact getq 0 au4) (by rfl) id) ?_
  refine LM.callE (oc_callV rfl (enters_fn Tryd.func71 kr rfl) rfl) (fun w hm hc hg => smay1_spec _ w) ?_
  refine nA [(0, _), (1, _), (5, _), (7, _), (8, _), (16, _)] ?_
  refine wpM.condB rfl (fun h2 => ?_) (fun h2 => ?_)
  ·
   refine wR <| LM.mv rfl <| LM.as rfl <| nA [(4, _)] <| wpM.ret <| QM.block_ret <| QM.then_ret <| QM.then_ret <| QM.block_ret <| QM.then_ret ?_
   refine qL Tryd.results85 rfl fun w' hm' hc' hg' => ?_
   exact ⟨by show Value.int .i64 _ = _; rw [fix_hit 0 ha om (by simpa using h2)], hc'⟩
  refine wpM.skip <| QM.block_normal ?_
  refine QM.then (wpM.region ?_)
  refine LM.val (ov_add64 rfl rfl om) ?_
  refine LM.mv rfl <| nC [(0, _), (1, _), (7, _), (8, _)] ?_
  refine QM.againK (i + 1) ⟨au2, rfl, rfl, rfl, trivial⟩ au1 (fun _ h => h) ?_ ?_
  · exact ⟨by omega, by rw [any_snoc 0 om, ha, Bool.false_or]; simpa using h2⟩
  · omega
 refine wpM.exit <| QM.then_exit <| QM.then_exit <| QM.block_hit <| tR <| LM.as rfl <| nA [(4, _)] <| wpM.ret ?_
 refine qL Tryd.results85 rfl fun w' hm' hc' hg' => ?_
 have hil : i = xs.length := om; subst hil; rw [List.take_length] at ha; exact ⟨by show Value.int .i64 _ = _; rw [fix_miss ha], hc'⟩
theorem cof_g {xs : List Int} {ad : Option Addr} {n cap : Nat} (w : World) (hn : n = xs.length) (hl : Sr fI 1 xs (.slice ad n cap) w) (hx : xs.length ≤ 1000000) : Ret Tryd.prog 70 #[.slice ad n cap, .func (.func 71) #[] #[]] w (fun v w' => v = .bool (xs.any (fun o => (!winB o 16))) ∧ Ext w w') := by
 refine Ret.enterM Tryd.func70 rfl Tryd.ntmps70 rfl ([]) (no) (Mem.nil w) ?_
 refine wR <| LM.as rfl <| nB [(0, _), (1, _)] <| LM.mv rfl <| LM.mv rfl ?_
 refine cE Tryd.func85 rfl (fun w hm hc hg => ixf_g w hn (hl.ext hc) hx) ?_
 refine LM.val (ov_geq rfl rfl) <| LM.as rfl <| nA [(4, _)] <| wpM.ret ?_
 refine qL Tryd.results70 rfl fun w' hm' hc' hg' => ?_
 exact ⟨by show Value.bool _ = _; rw [← fix_pos], hc'⟩
theorem ixf_l {xs : List CLk} {ad : Option Addr} {n cap : Nat} (w : World) (hn : n = xs.length) (hl : Sr fL 5 xs (.slice ad n cap) w) (hx : xs.length ≤ 1000000) : Ret Tryd.prog 86 #[.slice ad n cap, .func (.func 73) #[] #[]] w (fun v w' => v = .int .i64 (fixI (fun o => (!lokB o)) xs) ∧ Ext w w') := by
 refine Ret.enterM Tryd.func86 rfl Tryd.ntmps86 rfl ([]) (no) (Mem.nil w) ?_
 refine wR <| LM.as rfl <| nA [(0, _), (1, _)] <| wpM.seq <| wR <| LM.mv rfl <| LM.val (ov_len Tryd.underlying23 rfl) <| LM.mv rfl <| nA [(0, _), (1, _), (7, _), (8, _)] <| wpM.block ?_
 refine wpM.loopK0 (α := Nat) (fun i => [(8, .int .i64 (i : Nat))]) [(0, _), (1, _), (7, _)] (fun i => []) (fun i => i ≤ xs.length ∧ (xs.take i).any (fun o => (!lokB o)) = false) (fun i => xs.length - i) (0) ⟨au2, rfl, rfl, rfl, trivial⟩ au1 ⟨Nat.zero_le _, rfl⟩ ?_
 rintro i ⟨hi, ha⟩
 change wpM _ _ _ _ _ _ _ ([]) _ _ _
 refine wR <| LM.val (ov_lss rfl rfl) <| nA [(0, _), (1, _), (7, _), (8, _), (9, _)] <| wpM.seq ?_
 refine wpM.condD rfl (fun h1 => ?_) (fun h1 => ?_)
 ·
  refine wpM.skip <| QM.then <| wpM.seq <| wpM.block <| wR <| LM.mv rfl <| LM.as rfl <| nB [(0, _), (1, _), (5, _), (7, _), (8, _)] <| LM.mv rfl <| LM.mv rfl <| LM.mv rfl ?_
  refine LM.val (ov_idxSN au6 Tryd.underlying23 Tryd.sizeOf53 rfl rfl om) ?_
  refine LM.rdC (om_srEA asm ir Tryd.isAgg53 Tryd.sizeOf53 rfl au3 id) ?_
  refine LM.callE (oc_callV rfl (enters_fn Tryd.func73 kr rfl) rfl) (fun w hm hc hg => smay2_spec _ w) ?_
  refine nA [(0, _), (1, _), (5, _), (7, _), (8, _), (16, _)] ?_
  refine wpM.condB rfl (fun h2 => ?_) (fun h2 => ?_)
  ·
   refine wR <| LM.mv rfl <| LM.as rfl <| nA [(4, _)] <| wpM.ret <| QM.block_ret <| QM.then_ret <| QM.then_ret <| QM.block_ret <| QM.then_ret ?_
   refine qL Tryd.results86 rfl fun w' hm' hc' hg' => ?_
   exact ⟨by show Value.int .i64 _ = _; rw [fix_hit default ha om (by simpa using h2)], hc'⟩
  refine wpM.skip <| QM.block_normal ?_
  refine QM.then (wpM.region ?_)
  refine LM.val (ov_add64 rfl rfl om) ?_
  refine LM.mv rfl <| nC [(0, _), (1, _), (7, _), (8, _)] ?_
  refine QM.againK (i + 1) ⟨au2, rfl, rfl, rfl, trivial⟩ au1 (fun _ h => h) ?_ ?_
  · exact ⟨by omega, by rw [any_snoc default om, ha, Bool.false_or]; simpa using h2⟩
  · omega
 refine wpM.exit <| QM.then_exit <| QM.then_exit <| QM.block_hit <| tR <| LM.as rfl <| nA [(4, _)] <| wpM.ret ?_
 refine qL Tryd.results86 rfl fun w' hm' hc' hg' => ?_
 have hil : i = xs.length := om; subst hil; rw [List.take_length] at ha; exact ⟨by show Value.int .i64 _ = _; rw [fix_miss ha], hc'⟩
theorem cof_l {xs : List CLk} {ad : Option Addr} {n cap : Nat} (w : World) (hn : n = xs.length) (hl : Sr fL 5 xs (.slice ad n cap) w) (hx : xs.length ≤ 1000000) : Ret Tryd.prog 72 #[.slice ad n cap, .func (.func 73) #[] #[]] w (fun v w' => v = .bool (xs.any (fun o => (!lokB o))) ∧ Ext w w') := by
 refine Ret.enterM Tryd.func72 rfl Tryd.ntmps72 rfl ([]) (no) (Mem.nil w) ?_
 refine wR <| LM.as rfl <| nB [(0, _), (1, _)] <| LM.mv rfl <| LM.mv rfl ?_
 refine cE Tryd.func86 rfl (fun w hm hc hg => ixf_l w hn (hl.ext hc) hx) ?_
 refine LM.val (ov_geq rfl rfl) <| LM.as rfl <| nA [(4, _)] <| wpM.ret ?_
 refine qL Tryd.results72 rfl fun w' hm' hc' hg' => ?_
 exact ⟨by show Value.bool _ = _; rw [← fix_pos], hc'⟩
theorem misfit_spec {s : StV} (w : World) (hI : s.In w) (hx : s.ps.length ≤ 1000000) : Ret Tryd.prog 75 #[s.val] w (fun v w' => v = .tuple #[.int .i64 (misI s.ls (s.ps.map PgV.c)), .int .i64 (misE s.ls (s.ps.map PgV.c) (misI s.ls (s.ps.map PgV.c)))] ∧ Ext w w') := by
 have hgn := hI.hgn; have hln := hI.hln; have hpn := hI.hpn; have hp := hI.hp; have hg := hI.hg; have hl := hI.hl; have hcl : (s.ps.map PgV.c).length = s.ps.length := List.length_map ..
 refine Ret.enterM Tryd.func75 rfl Tryd.ntmps75 rfl ([]) (no) (Mem.nil w) ?_
 refine wR ?_
 refine LM.box rfl rfl (fun b1 hb1 => ?_)
 refine LM.as rfl <| LM.as rfl <| nA [(1, _)] <| wpM.seq <| wR <| LM.val (ovf 24 rfl rfl rfl rfl) ?_
 refine LM.rd (oml rfl rfl rfl) ?_
 refine LM.val (ov_len Tryd.underlying24 rfl) <| LM.mv rfl <| nA [(1, _), (9, _), (10, _), (11, _)] <| wpM.block ?_
 refine wpM.loopK0 (α := Nat) (fun k => [(11, .int .i64 (k : Nat))]) [(1, _), (9, _), (10, _)] (fun k => stB b1 s :: []) (fun k => k ≤ s.ps.length ∧ ((s.ps.map PgV.c).take k).any (misB s.ls (s.pn : Nat)) = false) (fun k => s.ps.length - k) (0) ⟨au2, rfl, rfl, rfl, trivial⟩ au1 ⟨Nat.zero_le _, rfl⟩ ?_
 rintro k ⟨hk, hap⟩
 change wpM _ _ _ _ _ _ _ (stB b1 s :: []) _ _ _
 refine wR <| LM.val (ov_lss rfl rfl) <| nA [(1, _), (9, _), (10, _), (11, _), (12, _)] <| wpM.seq ?_
 refine wpM.condD rfl (fun h1 => ?_) (fun h1 => ?_)
 ·
  have hpm : s.ps.getD k default ∈ s.ps := List.mem_of_getElem? (getq default om)
  refine wpM.skip <| QM.then <| wpM.seq <| wpM.block <| wR <| LM.mv rfl ?_
  refine LM.val (ov_idxSN au6 Tryd.underlying24 Tryd.sizeOf37 rfl rfl om) ?_
  refine LM.rdC (om_srEA asm ir Tryd.isAgg37 Tryd.sizeOf37 rfl au3 id) ?_
  refine LM.alloc Tryd.zeroValue37 rfl (fun b5 hb5 => ?_)
  refine LM.as rfl ?_
  refine LM.stW Tryd.sizeOf37 rfl rfl rfl rfl au7 au8 ?_
  refine nB [(1, _), (4, _), (5, _), (9, _), (10, _), (11, _)] ?_
  refine LM.rd (om_ldW Tryd.isAgg37 Tryd.sizeOf37 rfl rfl) ?_
  refine LM.val (ovf 23 rfl rfl rfl rfl) ?_
  refine LM.rd (oml rfl rfl rfl) ?_
  refine LM.val (ovf 24 rfl rfl rfl rfl) ?_
  refine LM.rd (oml rfl rfl rfl) ?_
  refine LM.val (ov_len Tryd.underlying24 rfl) ?_
  refine cE Tryd.func87 rfl (fun w hm hc hg => check_spec (s.pn : Nat) w (hI.ops _ hpm).1 ((hI.ops _ hpm).2.ext hc) hln (hl.ext hc)) ?_
  refine LM.mv rfl <| LM.val (ov_extract rfl rfl) <| LM.val (ov_extract rfl rfl) <| LM.as rfl <| LM.as rfl <| nB [(1, _), (4, _), (7, _), (9, _), (10, _), (11, _)] <| LM.mv rfl <| LM.val (ov_neq rfl rfl) <| nA [(1, _), (4, _), (7, _), (9, _), (10, _), (11, _), (27, _)] ?_
  refine wpM.condD rfl (fun h2 => ?_) (fun h2 => ?_)
  ·
   refine wR <| LM.mv rfl <| LM.mv rfl <| LM.as rfl <| LM.as rfl <| nA [(2, _), (3, _)] <| wpM.ret <| QM.block_ret <| QM.then_ret <| QM.then_ret <| QM.block_ret <| QM.then_ret ?_
   refine QM.leave (.inl rfl) [.tmp 2, .tmp 3] Tryd.results75 rfl ?_
   intro w' hm' hc' hg'
   have e : misI s.ls (s.ps.map PgV.c) = (k : Nat) := fix_hit default (by rw [hcl, ← hpn]; exact hap) (by rw [hcl]; omega) (by rw [map_getD, hcl, ← hpn]; unfold misB; exact decide_eq_true h2); refine ⟨?_, hc'⟩; rw [e]; unfold misE; rw [if_neg om, Int.toNat_natCast, map_getD, hcl, ← hpn]; rfl
  refine wpM.skip <| QM.block_normal ?_
  refine QM.then (wpM.region ?_)
  refine LM.val (ov_add64 rfl rfl om) ?_
  refine LM.mv rfl <| nC [(1, _), (9, _), (10, _), (11, _)] ?_
  refine QM.againK (k + 1) ⟨au2, rfl, rfl, rfl, trivial⟩ au1 (fun _ h => h) ?_ ?_
  · exact ⟨by omega, by rw [any_snoc default (by rw [hcl]; omega), hap, Bool.false_or, map_getD]; unfold misB; simpa using h2⟩
  · omega
 refine wpM.exit <| QM.then_exit <| QM.then_exit <| QM.block_hit <| tR <| LM.as rfl <| LM.as rfl <| nA [(2, _), (3, _)] <| wpM.ret ?_
 refine QM.leave (.inl rfl) [.tmp 2, .tmp 3] Tryd.results75 rfl ?_
 intro w' hm' hc' hg'
 have hkp : k = s.ps.length := om; rw [hkp, List.take_of_length_le om] at hap; have e : misI s.ls (s.ps.map PgV.c) = -1 := fix_miss (by rw [hcl, ← hpn]; exact hap); refine ⟨?_, hc'⟩; rw [e]; rfl
theorem mayS_spec {s : StV} (w : World) (hI : s.In w) : Ret Tryd.prog 47 #[s.val] w (fun v w' => v = .bool (mayS s.C) ∧ Ext w w') := by
 have hgn := hI.hgn; have hln := hI.hln; have hpn := hI.hpn; have hp := hI.hp; have hg := hI.hg; have hl := hI.hl; have hcl : (s.ps.map PgV.c).length = s.ps.length := List.length_map ..
 refine Ret.enterM Tryd.func47 rfl Tryd.ntmps47 rfl ([]) (no) (Mem.nil w) ?_
 refine wR ?_
 refine LM.box rfl rfl (fun b1 hb1 => ?_)
 refine LM.as rfl <| nA [(1, _)] <| wpM.seq <| wpM.block <| wR <| LM.val (ovf 3 rfl rfl rfl rfl) ?_
 refine LM.rd (oml rfl rfl rfl) ?_
 refine cE Tryd.func69 rfl (fun w hm hc hg => swithin_spec _ _ w) ?_
 refine LM.val (ov_not rfl) ?_
 refine LM.mv rfl ?_
 refine LM.splitB (t := 10) rfl (fun h1 => ?_) (fun h1 => ?_)
 ·
  refine LM.dr 10 rfl rfl rfl <| LM.dr 10 rfl rfl rfl <| LM.dr 10 rfl rfl rfl <| LM.dr 10 rfl rfl rfl <| LM.val (ov_pickT rfl rfl) <| LM.as rfl <| nA [(1, _), (5, _)] ?_
  refine wpM.condT rfl ?_
  refine wR <| LM.as rfl <| nA [(2, _)] <| wpM.ret <| QM.block_ret <| QM.then_ret ?_
  refine qL Tryd.results47 rfl fun w' hm' hc' hg' => ?_
  refine ⟨?_, hc'⟩; rw [mayS_head (by rw [head_eq hgn hln hpn]; simp [h1])]; rfl
 refine LM.sp 10 rfl rfl rfl <| LM.val (ovf 3 rfl rfl rfl rfl) <| LM.sp 10 rfl rfl rfl ?_
 refine LM.rd (oml rfl rfl rfl) ?_
 refine LM.sp 10 rfl rfl rfl ?_
 refine cE Tryd.func69 rfl (fun w hm hc hg => swithin_spec _ _ w) ?_
 refine LM.sp 10 rfl rfl rfl ?_
 refine LM.val (ov_not rfl) ?_
 refine LM.val (ov_pickF rfl rfl) <| LM.as rfl <| nA [(1, _), (5, _)] ?_
 refine wpM.condB rfl (fun h2 => ?_) (fun h2 => ?_)
 ·
  refine wR <| LM.as rfl <| nA [(2, _)] <| wpM.ret <| QM.block_ret <| QM.then_ret ?_
  refine qL Tryd.results47 rfl fun w' hm' hc' hg' => ?_
  refine ⟨?_, hc'⟩; rw [mayS_head (by rw [head_eq hgn hln hpn]; simp [h1, h2])]; rfl
 refine wR <| LM.val (ovf 22 rfl rfl rfl rfl) ?_
 refine LM.rd (oml rfl rfl rfl) ?_
 refine LM.val (ov_len Tryd.underlying22 rfl) ?_
 refine cE Tryd.func69 rfl (fun w hm hc hg => swithin_spec _ _ w) ?_
 refine LM.val (ov_not rfl) ?_
 refine LM.mv rfl ?_
 refine LM.splitB (t := 22) rfl (fun h3 => ?_) (fun h3 => ?_)
 ·
  refine LM.dr 22 rfl rfl rfl <| LM.dr 22 rfl rfl rfl <| LM.dr 22 rfl rfl rfl <| LM.val (ov_pickT rfl rfl) <| LM.as rfl <| nA [(1, _), (16, _)] ?_
  refine wpM.condT rfl ?_
  refine wR <| LM.as rfl <| nA [(2, _)] <| wpM.ret <| QM.block_ret <| QM.then_ret ?_
  refine qL Tryd.results47 rfl fun w' hm' hc' hg' => ?_
  refine ⟨?_, hc'⟩; rw [mayS_head (by rw [head_eq hgn hln hpn]; simp [h1, h2, h3])]; rfl
 refine LM.sp 22 rfl rfl rfl <| LM.val (ovf 22 rfl rfl rfl rfl) <| LM.sp 22 rfl rfl rfl ?_
 refine LM.rd (oml rfl rfl rfl) ?_
 refine LM.sp 22 rfl rfl rfl ?_
 refine cE Tryd.func70 rfl (fun w hm hc hg => cof_g w hgn (hI.hg.ext hc) (by have h9 : winB (s.gn : Int) 4 = true := (by simpa using h3); have := (winL _ _).1 h9; omega)) ?_
 refine LM.val (ov_pickF rfl rfl) <| LM.as rfl <| nA [(1, _), (16, _)] ?_
 refine wpM.condB rfl (fun h4 => ?_) (fun h4 => ?_)
 ·
  refine wR <| LM.as rfl <| nA [(2, _)] <| wpM.ret <| QM.block_ret <| QM.then_ret ?_
  refine qL Tryd.results47 rfl fun w' hm' hc' hg' => ?_
  refine ⟨?_, hc'⟩; rw [mayS_gs (s := s.C) (by show s.gs.all _ = false; rw [all_any, h4]; rfl)]; rfl
 refine wR <| LM.val (ovf 23 rfl rfl rfl rfl) ?_
 refine LM.rd (oml rfl rfl rfl) ?_
 refine LM.val (ov_len Tryd.underlying23 rfl) <| LM.val (ov_gtr rfl rfl) <| LM.mv rfl ?_
 refine LM.splitD (t := 32) rfl (fun h5 => ?_) (fun h5 => ?_)
 ·
  refine LM.dr 32 rfl rfl rfl <| LM.dr 32 rfl rfl rfl <| LM.dr 32 rfl rfl rfl <| LM.val (ov_pickT rfl rfl) <| LM.as rfl <| nA [(1, _), (27, _)] ?_
  refine wpM.condT rfl ?_
  refine wR <| LM.as rfl <| nA [(2, _)] <| wpM.ret <| QM.block_ret <| QM.then_ret ?_
  refine qL Tryd.results47 rfl fun w' hm' hc' hg' => ?_
  refine ⟨?_, hc'⟩; rw [mayS_head (by rw [head_eq hgn hln hpn]; simp [h1, h2, h3, h4, h5])]; rfl
 refine LM.sp 32 rfl rfl rfl <| LM.val (ovf 23 rfl rfl rfl rfl) <| LM.sp 32 rfl rfl rfl ?_
 refine LM.rd (oml rfl rfl rfl) ?_
 refine LM.sp 32 rfl rfl rfl ?_
 refine cE Tryd.func72 rfl (fun w hm hc hg => cof_l w hln (hl.ext hc) om) ?_
 refine LM.val (ov_pickF rfl rfl) <| LM.as rfl <| nA [(1, _), (27, _)] ?_
 refine wpM.condB rfl (fun h6 => ?_) (fun h6 => ?_)
 ·
  refine wR <| LM.as rfl <| nA [(2, _)] <| wpM.ret <| QM.block_ret <| QM.then_ret ?_
  refine qL Tryd.results47 rfl fun w' hm' hc' hg' => ?_
  refine ⟨?_, hc'⟩; rw [mayS_ls (s := s.C) (by show s.ls.all _ = false; rw [all_any, h6]; rfl)]; rfl
 refine wR <| LM.val (ovf 24 rfl rfl rfl rfl) ?_
 refine LM.rd (oml rfl rfl rfl) ?_
 refine LM.val (ov_len Tryd.underlying24 rfl) ?_
 refine cE Tryd.func69 rfl (fun w hm hc hg => swithin_spec _ _ w) ?_
 refine LM.val (ov_not rfl) ?_
 refine LM.as rfl <| nA [(1, _), (37, _)] ?_
 refine wpM.condB rfl (fun h7 => ?_) (fun h7 => ?_)
 ·
  refine wR <| LM.as rfl <| nA [(2, _)] <| wpM.ret <| QM.block_ret <| QM.then_ret ?_
  refine qL Tryd.results47 rfl fun w' hm' hc' hg' => ?_
  refine ⟨?_, hc'⟩; rw [mayS_head (by rw [head_eq hgn hln hpn]; simp [h1, h2, h3, h4, h5, h6, h7])]; rfl
 refine wpM.skip <| QM.block_normal <| tR ?_
 refine LM.rd (om_ldW Tryd.isAgg26 Tryd.sizeOf26 rfl rfl) ?_
 refine cE Tryd.func75 rfl (fun w hm hc hg => misfit_spec w (hI.ext hc) (by have h9 : winB (s.pn : Int) 8 = true := (by simpa using h7); have := (winL _ _).1 h9; omega)) ?_
 refine LM.mv rfl <| LM.val (ov_extract rfl rfl) <| LM.val (ov_extract rfl rfl) <| LM.as rfl <| LM.as rfl <| nB [(3, _)] <| LM.mv rfl <| LM.val (ov_lss rfl rfl) <| LM.as rfl <| nA [(2, _)] <| wpM.ret ?_
 refine qL Tryd.results47 rfl fun w' hm' hc' hg' => ?_
 have hhd : headB s.C = true := (by rw [head_eq hgn hln hpn]; simp [h1, h2, h3, h4, h5, h6, h7]); have hgs : s.gs.all (fun n => winB n 16) = true := (by rw [all_any, h4]; rfl); have hls : s.ls.all lokB = true := (by rw [all_any, h6]; rfl); have hmi : decide (misI s.ls (s.ps.map PgV.c) < 0) = !(s.ps.map PgV.c).any (misB s.ls (s.ps.map PgV.c).length) := (by unfold misI; rw [← fix_pos, ← decide_not]; exact decide_eq_decide.2 om); refine ⟨?_, hc'⟩; rw [mayS_split, hhd]; show Value.bool (decide (misI s.ls (s.ps.map PgV.c) < 0)) = Value.bool (true && (s.gs.all (fun n => winB n 16) && (s.ls.all lokB && !(s.ps.map PgV.c).any (misB s.ls (s.ps.map PgV.c).length)))); rw [hmi, hgs, hls]; rfl
end Go.Eng
namespace Go.Eng
open Go Go.RowKit
def val (B : Nat) : List Nat → Nat
  | [] => 0
  | d :: l => d + B * val B l
def pairs : List Nat → List Nat
  | a :: b :: l => (a + b) :: pairs l
  | [a] => [a]
  | [] => []
def mk (k : Nat) : Nat → Nat
  | 0 => 0
  | m + 1 => (2 ^ k - 1) + 2 ^ k * (2 ^ k * mk k m)
end Go.Eng
namespace Go.Eng
open Go Go.Proofs Go.RowKit
theorem first_at {s : BitVec 64} {n : Int} (h : firstI s = n) (w : World) (hT : Tab w) : Ret Tryd.prog 50 #[U s] w (fun v w' => v = .int .i64 n ∧ Ext w w') := h ▸ first_spec s w hT
abbrev gB (b : Nat) (G : Gr) : Nat × Obj := (b, .cells (arr fU G []) 128 (0, 0))
abbrev gO (G : Gr) : Obj := .cells (arr fU G []) 128 (0, 0)
def NewGT (n0 : Nat) (v : Value) (m : Mem0) : Prop := ∃ b, v = .pointer (some ⟨b, 0, none⟩) ∧ m = [gB b zeroG] ∧ n0 ≤ b
theorem NewGT.mono : ∀ (k k' : Nat) u m, k' ≤ k → NewGT k u m → NewGT k' u m := fun k k' u m h ⟨b, h1, h2, h3⟩ => ⟨b, h1, h2, by omega⟩
theorem gnew_spec (w : World) : Ret Tryd.prog 48 #[] w (fun v w' => Ext w w' ∧ ∃ m, NewGT w.heap.size v m ∧ Mem w' m ∧ ∀ p ∈ m, w.heap.size ≤ p.1) := by
 refine Ret.enterM Tryd.func48 rfl Tryd.ntmps48 rfl ([]) (no) (Mem.nil w) ?_
 refine wR <| LM.as rfl ?_
 refine LM.nil (QM.sub (e' := []) trivial (QM.then (wpM.seq (wpM.region ?_))))
 refine LM.val (ov_build (cs := #[_, _, _, _, _, _, _, _, _, _, _, _, _, _, _, _, _, _, _, _, _, _, _, _, _, _, _, _, _, _, _, _, _, _, _, _, _, _, _, _, _, _, _, _, _, _, _, _, _, _, _, _, _, _, _, _, _, _, _, _, _, _, _, _]) rfl (by first | rfl | kernel_rfl)) ?_
 refine LM.box rfl rfl (fun b2 hb2 => ?_)
 refine LM.as rfl <| nA [(0, _)] <| wpM.ret ?_
 refine qL Tryd.results48 rfl fun w' hm' hc' hg' => ?_
 exact ⟨hc', [gB b2 zeroG], ⟨b2, rfl, rfl, hb2⟩, SubM.mem (by (repeat' (first | exact SubM.nil _ | refine SubM.cons kr ?_ | refine SubM.app ?_))) _ hm', fun p hp => by simp only [List.mem_cons, List.not_mem_nil, or_false] at hp; subst hp; assumption⟩
theorem gis_spec (b : Nat) (who : Int) (w : World) : Ret Tryd.prog 76 #[.pointer (some ⟨b, 0, none⟩), .int .i64 who] w (fun v w' => v = .bool (inG who) ∧ Ext w w') := by
 refine Ret.enterM Tryd.func76 rfl Tryd.ntmps76 rfl ([]) (no) (Mem.nil w) ?_
 refine wR <| LM.as rfl <| nB [(0, _), (1, _)] <| LM.mv rfl ?_
 refine LM.val (ov_pneq kr rfl rfl) ?_
 refine LM.mv rfl <| LM.sp 7 rfl rfl rfl <| LM.mv rfl <| LM.sp 7 rfl rfl rfl <| LM.val (ov_geq rfl rfl) <| LM.val (ov_pickT rfl rfl) <| LM.mv rfl ?_
 refine LM.splitD (t := 11) rfl (fun h1 => ?_) (fun h1 => ?_)
 ·
  refine LM.sp 11 rfl rfl rfl <| LM.mv rfl <| LM.sp 11 rfl rfl rfl <| LM.val (ov_lss rfl rfl) <| LM.val (ov_pickT rfl rfl) <| LM.as rfl <| nA [(4, _)] <| wpM.ret ?_
  refine qL Tryd.results76 rfl fun w' hm' hc' hg' => ?_
  refine ⟨?_, hc'⟩; simp only [resV, inG, h1, decide_true, decide_false, Bool.true_and, Bool.false_and, Bool.and_true, Bool.and_false, Bool.not_true, Bool.not_false, Bool.true_or, Bool.false_or, Bool.or_true, Bool.or_false, ne_eq, not_true_eq_false, not_false_eq_true, Bool.and_self]
 refine LM.dr 11 rfl rfl rfl <| LM.dr 11 rfl rfl rfl <| LM.val (ov_pickF rfl rfl) <| LM.as rfl <| nA [(4, _)] <| wpM.ret ?_
 refine qL Tryd.results76 rfl fun w' hm' hc' hg' => ?_
 refine ⟨?_, hc'⟩; simp only [resV, inG, h1, decide_true, decide_false, Bool.true_and, Bool.false_and, Bool.and_true, Bool.and_false, Bool.not_true, Bool.not_false, Bool.true_or, Bool.false_or, Bool.or_true, Bool.or_false, ne_eq, not_true_eq_false, not_false_eq_true, Bool.and_self]
theorem over_spec (b : Nat) (G : Gr) (s : BitVec 64) (w : World) (hG : G.length = 64) (hT : Tab w) (hM : Mem w [gB b G]) : Ret Tryd.prog 88 #[.pointer (some ⟨b, 0, none⟩), U s] w (fun v w' => v = U (ovr G s) ∧ Ext w w') := by
 refine Ret.enterM Tryd.func88 rfl Tryd.ntmps88 rfl ([gB b G]) (no) hM ?_
 refine wR <| LM.as rfl <| nB [(0, _), (1, _)] <| LM.mv rfl <| LM.as rfl <| nA [(0, _), (1, _), (5, _)] <| wpM.seq <| wR <| LM.mv rfl <| LM.as rfl <| nA [(0, _), (5, _), (6, _)] <| wpM.block ?_
 refine wpM.loopK0 (α := BitVec 64 × BitVec 64) (fun ⟨met, todo⟩ => [(5, U met), (6, U todo)]) [(0, _)] (fun ⟨met, todo⟩ => [gB b G]) (fun ⟨met, todo⟩ => OvI G s met todo) (fun ⟨met, todo⟩ => 64 - card (met &&& ~~~todo)) ((s, s)) ⟨au2, au2, rfl, trivial⟩ au1 (OvI.init G s) ?_
 rintro ⟨met, todo⟩ hi
 change wpM _ _ _ _ _ _ _ ([gB b G]) _ _ _
 refine wpM.seq <| wR <| LM.mv rfl ?_
 refine LM.val (ov_uneq (b := 0#64) rfl rfl) ?_
 refine nA [(0, _), (5, _), (6, _), (12, _)] ?_
 refine wpM.condD rfl (fun h1 => ?_) (fun h1 => ?_)
 ·
  refine wpM.skip <| QM.then <| wpM.block <| wR <| LM.mv rfl ?_
  refine cE Tryd.func50 rfl (fun w hm hc hg => first_at (n := (lsb todo : Nat)) (by unfold firstI; rw [if_neg h1]) w (hT.ext hc)) ?_
  refine LM.as rfl <| nB [(0, _), (5, _), (6, _), (7, _)] <| LM.mv rfl <| LM.mv rfl ?_
  refine cE Tryd.func26 rfl (fun w hm hc hg => without_spec _ _ w) ?_
  refine LM.as rfl <| nB [(0, _), (5, _), (6, _), (7, _)] ?_
  have hlt := (lsb_spec h1).1
  refine LM.mv rfl <| LM.mv rfl <| LM.nc rfl <| LM.val (ovf 126 rfl rfl rfl rfl) ?_
  refine LM.val (ov_idxAN Tryd.underlying126 Tryd.sizeOf34 rfl rfl om) ?_
  refine LM.rd (om_ldE1 ir Tryd.isAgg34 rfl rfl rfl (getq 0#64 om) (by rfl)) ?_
  refine LM.mv rfl ?_
  refine LM.val (ov_uandNot rfl rfl) ?_
  refine LM.as rfl <| nB [(0, _), (5, _), (6, _), (8, _)] <| LM.mv rfl <| LM.mv rfl ?_
  refine LM.val (ov_uor rfl rfl) ?_
  refine LM.as rfl ?_
  refine LM.nil (QM.sub (e' := [(0, _), (5, _), (6, _), (8, _)]) au9 (QM.then (wpM.region ?_)))
  refine LM.mv rfl <| LM.mv rfl ?_
  refine LM.val (ov_uor rfl rfl) ?_
  refine LM.as rfl <| nC [(0, _), (5, _), (6, _)] <| QM.block_normal ?_
  refine QM.againK (met ||| frs G met (lsb todo), witho todo (lsb todo : Nat) ||| frs G met (lsb todo)) ⟨au2, au2, rfl, trivial⟩ au1 (fun _ h => h) ?_ ?_
  · exact (hi.step h1).1
  · exact (hi.step h1).2
 refine wpM.exit <| QM.then_exit <| QM.then_exit <| QM.block_hit <| tR <| LM.mv rfl <| LM.as rfl <| nA [(4, _)] <| wpM.ret ?_
 refine qL Tryd.results88 rfl fun w' hm' hc' hg' => ?_
 have h0 : todo = 0#64 := (by simpa using h1); subst h0; exact ⟨by simp only [resV]; rw [hi.end], hc'⟩
theorem closes_spec (b : Nat) (G : Gr) (who : Int) (s : BitVec 64) (w : World) (hG : G.length = 64) (hT : Tab w) (hM : Mem w [gB b G]) : Ret Tryd.prog 77 #[.pointer (some ⟨b, 0, none⟩), .int .i64 who, U s] w (fun v w' => v = .bool (sHas (ovr G s) who) ∧ Ext w w') := by
 refine Ret.enterM Tryd.func77 rfl Tryd.ntmps77 rfl ([gB b G]) (no) hM ?_
 refine wR <| LM.as rfl <| nB [(0, _), (1, _), (2, _)] <| LM.mv rfl <| LM.mv rfl ?_
 refine cE Tryd.func76 rfl (fun w hm hc hg => gis_spec _ _ w) ?_
 refine LM.mv rfl ?_
 refine LM.splitB (t := 10) rfl (fun h1 => ?_) (fun h1 => ?_)
 ·
  refine LM.sp 10 rfl rfl rfl <| LM.mv rfl <| LM.sp 10 rfl rfl rfl <| LM.mv rfl <| LM.sp 10 rfl rfl rfl ?_
  refine cE Tryd.func88 rfl (fun w hm hc hg => over_spec b G _ w hG (hT.ext hc) (hm.pick _)) ?_
  refine LM.sp 10 rfl rfl rfl <| LM.mv rfl <| LM.sp 10 rfl rfl rfl ?_
  refine cE Tryd.func27 rfl (fun w hm hc hg => ihas_spec _ _ w) ?_
  refine LM.val (ov_pickT rfl rfl) <| LM.as rfl <| nA [(6, _)] <| wpM.ret ?_
  refine qL Tryd.results77 rfl fun w' hm' hc' hg' => ?_
  exact ⟨rfl, hc'⟩
 refine LM.dr 10 rfl rfl rfl <| LM.dr 10 rfl rfl rfl <| LM.dr 10 rfl rfl rfl <| LM.dr 10 rfl rfl rfl <| LM.dr 10 rfl rfl rfl <| LM.val (ov_pickF rfl rfl) <| LM.as rfl <| nA [(6, _)] <| wpM.ret ?_
 refine qL Tryd.results77 rfl fun w' hm' hc' hg' => ?_
 refine ⟨?_, hc'⟩; simp only [resV]; congr 1; cases hh : sHas (ovr G s) who; rfl; (have := sHas_rng hh; simp [inG, this.1, this.2] at h1)
theorem wait_spec (b : Nat) (G : Gr) (who : Int) (s : BitVec 64) (w : World) (hG : G.length = 64) (hT : Tab w) (hb0 : 0 < b) (hM : Mem w [gB b G]) : Ret Tryd.prog 49 #[.pointer (some ⟨b, 0, none⟩), .int .i64 who, U s] w (WrP b (.int .i64 (wtE G who s)) (gO (wtG G who s)) w) := by
 refine Ret.enterM Tryd.func49 rfl Tryd.ntmps49 rfl ([gB b G]) ((fun x => x = b)) hM ?_
 refine wR <| LM.as rfl <| nA [(0, _), (1, _), (2, _)] <| wpM.seq <| wpM.block <| wR <| LM.mv rfl <| LM.mv rfl ?_
 refine cE Tryd.func76 rfl (fun w hm hc hg => gis_spec _ _ w) ?_
 refine LM.val (ov_not rfl) ?_
 refine LM.as rfl <| nA [(0, _), (1, _), (2, _), (7, _)] ?_
 refine wpM.condB rfl (fun h1 => ?_) (fun h1 => ?_)
 ·
  refine wR <| LM.as rfl <| nA [(6, _)] <| wpM.ret <| QM.block_ret <| QM.then_ret ?_
  refine qL Tryd.results49 rfl fun w' hm' hc' hg' => ?_
  have he : wtE G who s = 1 := (by unfold wtE; rw [if_neg (by simpa using h1)]); refine ⟨by rw [he]; rfl, hc', ?_⟩; unfold wtG; rw [if_neg om]; exact hm'.at b
 have hin := inG_iff.1 (show inG who = true by simpa using h1)
 refine wR <| LM.mv rfl <| LM.mv rfl <| LM.mv rfl ?_
 refine cE Tryd.func77 rfl (fun w hm hc hg => closes_spec b G _ _ w hG (hT.keep hc (fun h => by omega)) (hm.pick _)) ?_
 refine LM.as rfl <| nA [(0, _), (1, _), (2, _), (12, _)] ?_
 refine wpM.condB rfl (fun h2 => ?_) (fun h2 => ?_)
 ·
  refine wR <| LM.as rfl <| nA [(6, _)] <| wpM.ret <| QM.block_ret <| QM.then_ret ?_
  refine qL Tryd.results49 rfl fun w' hm' hc' hg' => ?_
  have he : wtE G who s = 9 := (by unfold wtE; rw [if_pos (by simpa using h1), if_pos h2]); refine ⟨by rw [he]; rfl, hc', ?_⟩; unfold wtG; rw [if_neg om]; exact hm'.at b
 refine wpM.skip <| QM.block_normal <| tR <| LM.mv rfl <| LM.mv rfl <| LM.mv rfl <| LM.nc rfl <| LM.val (ovf 126 rfl rfl rfl rfl) ?_
 refine LM.val (ov_idxA Tryd.underlying126 Tryd.sizeOf34 rfl rfl om) ?_
 refine LM.stE1 (f := fU) _ ir Tryd.sizeOf34 rfl rfl rfl rfl (getq 0#64 om) rfl rfl rfl (fun _ => rfl) ?_
 refine LM.nil (QM.sub (e' := []) trivial (QM.then (wpM.seq (wpM.region ?_))))
 refine LM.as rfl <| nA [(6, _)] <| wpM.ret ?_
 refine qL Tryd.results49 rfl fun w' hm' hc' hg' => ?_
 have he : wtE G who s = 0 := (by unfold wtE; rw [if_pos (by simpa using h1), if_neg (by rw [h2]; simp)]); refine ⟨by rw [he]; rfl, hc', ?_⟩; unfold wtG; rw [if_pos he]; exact hm'.at b
structure BhI (G : Gr) (w : Nat) (X : BitVec 64) : Prop where
  sound : ∀ i : Nat, sHas X i = true → Rch G (ot G i) w
theorem BhI.zero (G : Gr) (w : Nat) : BhI G w 0#64 := ⟨fun i h => by rw [sHas_zero] at h; cases h⟩
theorem BhI.put {G : Gr} {w : Nat} {X : BitVec 64} {i : Nat} (h : BhI G w X) (hw : w < 64) (hb : (!sHas X (i : Nat) && decide (ot G i &&& withS X w ≠ 0#64)) = true) : BhI G w (withS X (i : Nat)) ∧ (i < 64 → card X < card (withS X (i : Nat))) := by
  rw [Bool.and_eq_true, Bool.not_eq_true', decide_eq_true_eq] at hb
  refine ⟨⟨fun j hj => ?_⟩, fun hi => card_with om om hb.1⟩
  rw [sHas_withS, Bool.or_eq_true] at hj
  rcases hj with hj | hj
  · exact h.sound j hj
  · simp only [Bool.and_eq_true, decide_eq_true_eq] at hj
    have : j = i := by omega
    subst this
    obtain ⟨k, hk⟩ : ∃ k : Nat, sHas (ot G j &&& withS X w) k = true := by
      apply Classical.byContradiction; intro hn; apply hb.2
      apply set_ext; intro k _; rw [sHas_zero]
      cases h2 : sHas (ot G j &&& withS X w) k
      · rfl
      · exact absurd ⟨k, h2⟩ hn
    rw [sHas_and, Bool.and_eq_true, sHas_withS, Bool.or_eq_true] at hk
    rcases hk.2 with h3 | h3
    · exact .trans (.base hk.1) (h.sound k h3)
    · simp only [Bool.and_eq_true, decide_eq_true_eq] at h3
      have : k = w := by omega
      subst this; exact .base hk.1
abbrev wbB (b : Nat) (ad : Option Addr) (n cap : Nat) : Nat × Obj := (b, .cells #[.slice ad n cap] 56 (0, 0))
def OfT (s : StC) (n0 : Nat) (v : Value) (m : Mem0) : Prop := ∃ ad n cap, v = .tuple #[.slice ad n cap, .bool (mayS s)] ∧ n = (webO s).length ∧ Sl fU 34 1 n0 (webO s) (.slice ad n cap) m
theorem OfT.mono {s : StC} : ∀ (k k' : Nat) u m, k' ≤ k → OfT s k u m → OfT s k' u m := fun k k' u m h ⟨ad, n, cap, h1, h2, h3⟩ => ⟨ad, n, cap, h1, h2, h3.mono h⟩
theorem fold_snoc (G : Gr) {l : List Nat} {k i : Nat} (h : l[k]? = some i) (g : BitVec 64) : (l.take (k + 1)).foldl (fun a i => a ||| ot G i) g = (l.take k).foldl (fun a i => a ||| ot G i) g ||| ot G i := by
  rw [List.take_add_one, h, List.foldl_append]; rfl
theorem first_in {s : BitVec 64} (w : World) (hT : Tab w) (h : s ≠ 0#64) : Ret Tryd.prog 50 #[U s] w (fun v w' => v = .int .i64 (lsb s : Nat) ∧ Ext w w') := by
  have := first_spec s w hT
  unfold firstI at this; rw [if_neg h] at this; exact this
theorem find_at {p : Nat → Bool} {l : List Nat} {k i : Nat} (h : l[k]? = some i) (h0 : ∀ j, j < k → p (l.getD j 0) = false) (hp : p i = true) : l.find? p = some i := by
  have hk := (List.getElem?_eq_some_iff.1 h).1
  rw [List.find?_eq_some_iff_getElem]
  refine ⟨hp, k, hk, (List.getElem?_eq_some_iff.1 h).2, fun j hj => ?_⟩
  have := h0 j hj
  rw [List.getD_eq_getElem?_getD, List.getElem?_eq_getElem om] at this
  simpa using this
theorem find_none' {p : Nat → Bool} {l : List Nat} (h0 : ∀ j, j < l.length → p (l.getD j 0) = false) : l.find? p = none := by
  rw [List.find?_eq_none]
  intro x hx
  obtain ⟨j, hj, rfl⟩ := List.getElem_of_mem hx
  have := h0 j hj
  rw [List.getD_eq_getElem?_getD, List.getElem?_eq_getElem hj] at this
  simpa using this
theorem getD_at {l : List Nat} {k i : Nat} (h : l[k]? = some i) : l.getD k 0 = i := by rw [List.getD_eq_getElem?_getD, h]; rfl
theorem web_spec {s : StV} (w : World) (hI : s.In w) : Ret Tryd.prog 23 #[s.val] w (fun v w' => Ext w w' ∧ ∃ m, OfT s.C w.heap.size v m ∧ Mem w' m ∧ ∀ p ∈ m, w.heap.size ≤ p.1) := by
 have hln := hI.hln; have hpn := hI.hpn; have hp := hI.hp; have hcl : s.C.ps.length = s.ps.length := List.length_map ..; have hll : s.C.ls.length = s.ls.length := rfl
 refine Ret.enterM Tryd.func23 rfl Tryd.ntmps23 rfl ([]) (no) (Mem.nil w) ?_
 refine wR ?_
 refine LM.box rfl rfl (fun b1 hb1 => ?_)
 refine LM.as rfl <| LM.as rfl <| nA [(1, _)] <| wpM.seq <| wR ?_
 refine LM.rd (om_ldW Tryd.isAgg26 Tryd.sizeOf26 rfl rfl) ?_
 refine cE Tryd.func47 rfl (fun w hm hc hg => mayS_spec (s := s) w (hI.ext hc)) ?_
 refine LM.val (ov_not rfl) ?_
 refine nA [(1, _), (10, _)] ?_
 refine wpM.condB rfl (fun h1 => ?_) (fun h1 => ?_)
 ·
  refine wR <| LM.as rfl <| LM.as rfl <| nA [(2, _), (3, _)] <| wpM.ret <| QM.then_ret ?_
  refine QM.leave (.inl rfl) [.tmp 2, .tmp 3] Tryd.results23 rfl ?_
  intro w' hm' hc' hg'
  have hmay : mayS s.C = false := (by simpa using h1); exact ⟨hc', [], ⟨none, 0, 0, by rw [hmay]; rfl, by rw [webO_no hmay]; rfl, by rw [webO_no hmay]; exact .nil _ _ _ _⟩, Mem.nil _, fun p hp => by cases hp⟩
 have hmay : mayS s.C = true := (by simpa using h1); obtain ⟨h8, h8p, -⟩ := mayS_ps' hmay
 refine wpM.skip <| tR <| LM.val (ovf 23 rfl rfl rfl rfl) ?_
 refine LM.rd (oml rfl rfl rfl) ?_
 refine LM.val (ov_len Tryd.underlying23 rfl) ?_
 refine LM.makeS (f := fU) (a0 := 0#64) Tryd.underlying56 Tryd.typeInfo34 rfl rfl rfl rfl ir rfl rfl rfl om (by simp only [Tryd.t34]; omega) om (by unfold maxLen; omega) (fun ad14 n14 m14 hn14 hs14 => ?_)
 refine LM.as rfl <| nA [(1, _), (4, _)] <| wpM.seq <| wR <| LM.mv rfl <| LM.val (ov_len Tryd.underlying56 rfl) <| LM.mv rfl <| nA [(1, _), (4, _), (16, _), (17, _)] <| wpM.block ?_
 refine wpM.loopK0 (α := Nat × Mem0) (fun ⟨i, m⟩ => [(17, .int .i64 (i : Nat))]) [(1, _), (4, _), (16, _)] (fun ⟨i, m⟩ => m ++ (stB b1 s :: [])) (fun ⟨i, m⟩ => i ≤ n14 ∧ Sl fU 34 1 w.heap.size (webP s.C i 0) (.slice ad14 n14 n14) m) (fun ⟨i, m⟩ => n14 - i) ((0, m14)) ⟨au2, rfl, rfl, rfl, trivial⟩ au1 ⟨Nat.zero_le _, by have h := hs14; rw [webP_zero]; rw [show n14 = s.C.ls.length by omega] at h ⊢; exact h⟩ ?_
 rintro ⟨i, m⟩ ⟨hi, hs⟩
 change wpM _ _ _ _ _ _ _ (m ++ (stB b1 s :: [])) _ _ _
 have hwl := webP_len s.C i 0
 refine wR <| LM.val (ov_lss rfl rfl) <| nA [(1, _), (4, _), (16, _), (17, _), (18, _)] <| wpM.seq ?_
 refine wpM.condD rfl (fun h2 => ?_) (fun h2 => ?_)
 ·
  refine wpM.skip <| QM.then <| wpM.seq <| wpM.block <| wR <| LM.mv rfl <| LM.as rfl <| nB [(1, _), (4, _), (5, _), (16, _), (17, _)] <| LM.val (ovf 24 rfl rfl rfl rfl) ?_
  refine LM.rd (oml rfl rfl rfl) ?_
  refine LM.val (ov_len Tryd.underlying24 rfl) <| LM.mv rfl <| nA [(1, _), (4, _), (5, _), (16, _), (17, _), (21, _), (22, _), (23, _)] <| wpM.block ?_
  refine wpM.loopK0 (α := Nat × Mem0) (fun ⟨k, mi⟩ => [(23, .int .i64 (k : Nat))]) [(1, _), (4, _), (5, _), (16, _), (17, _), (21, _), (22, _)] (fun ⟨k, mi⟩ => mi ++ (stB b1 s :: [])) (fun ⟨k, mi⟩ => k ≤ s.pn ∧ Sl fU 34 1 w.heap.size (webP s.C i k) (.slice ad14 n14 n14) mi) (fun ⟨k, mi⟩ => s.pn - k) ((0, m)) ⟨au2, rfl, rfl, rfl, rfl, rfl, rfl, rfl, trivial⟩ au1 ⟨Nat.zero_le _, hs⟩ ?_
  rintro ⟨k, mi⟩ ⟨hk, hsi⟩
  change wpM _ _ _ _ _ _ _ (mi ++ (stB b1 s :: [])) _ _ _
  have hwl2 := webP_len s.C i k
  refine wR <| LM.val (ov_lss rfl rfl) <| nA [(1, _), (4, _), (5, _), (16, _), (17, _), (21, _), (22, _), (23, _), (24, _)] <| wpM.seq ?_
  refine wpM.condD rfl (fun h3 => ?_) (fun h3 => ?_)
  ·
   have hpm : s.ps.getD k default ∈ s.ps := List.mem_of_getElem? (getq default om); have hpi := hI.ops _ hpm; have hpl : (s.ps.getD k default).c.xs.length ≤ 20 := mayS_len hmay (List.mem_map_of_mem hpm)
   refine wpM.skip <| QM.then <| wpM.seq <| wpM.block <| wR ?_
   refine LM.val (ov_idxSN au6 Tryd.underlying24 Tryd.sizeOf37 rfl rfl om) ?_
   refine LM.rdC (om_srEA asm ir Tryd.isAgg37 Tryd.sizeOf37 rfl au3 id) ?_
   refine LM.alloc Tryd.zeroValue37 rfl (fun b7 hb7 => ?_)
   refine LM.stW Tryd.sizeOf37 rfl rfl rfl rfl au7 au8 ?_
   refine nA [(1, _), (4, _), (5, _), (7, _), (16, _), (17, _), (21, _), (22, _), (23, _)] ?_
   refine wpM.draw [(0, 0), (1, 0), (2, 0), (3, 1), (4, 1), (5, 0), (6, 2), (7, 0), (8, 0), (9, 3)] kr kr ?_
   refine LD.val rfl rfl (ov_move rfl) <| LD.val rfl rfl (ov_move rfl) ?_
   refine LD.val rfl rfl (ov_idxSN au6 Tryd.underlying56 Tryd.sizeOf34 rfl rfl om) ?_
   refine LD.rd rfl rfl (om_sl1 asm ir Tryd.isAgg34 rfl rfl (by exact getq 0#64 au4) (by rfl)) ?_
   refine LD.rd rfl rfl (om_ldW Tryd.isAgg37 Tryd.sizeOf37 rfl rfl) ?_
   refine LD.val rfl rfl (ov_move rfl) ?_
   refine dE rfl rfl Tryd.func11 rfl (fun w hm hc hg => within_spec _ w hpi.1 (hpi.2.ext hc) hpl) ?_
   refine LD.val rfl rfl (ov_uor rfl rfl) ?_
   refine LD.val rfl rfl (ov_idxSN au6 Tryd.underlying56 Tryd.sizeOf34 rfl rfl om) ?_
   refine LD.tail rfl rfl ?_
   refine LM.stS _ (j := 0) asm ir Tryd.sizeOf34 rfl rfl rfl (by exact getq 0#64 au4) rfl (by decide) (by rfl) rfl au10 (fun ms hss hmm => ?_)
   refine LM.nil ?_
   refine QM.qn ?_
   refine QM.sub (e' := [(1, _), (4, _), (5, _), (16, _), (17, _), (21, _), (22, _), (23, _)]) au9 ?_
   refine QM.block_normal ?_
   refine QM.then (wpM.region ?_)
   refine LM.val (ov_add64 rfl rfl om) ?_
   refine LM.mv rfl <| nC [(1, _), (4, _), (5, _), (16, _), (17, _), (21, _), (22, _), (23, _)] ?_
   refine QM.againK ((k + 1, ms)) ⟨au2, rfl, rfl, rfl, rfl, rfl, rfl, rfl, trivial⟩ au1 (fun _ h => h) ?_ ?_
   · have e := webP_set (s := s.C) (i := i) (k := k) om om; rw [show s.C.ps.getD k default = (s.ps.getD k default).c from map_getD] at e; exact ⟨by omega, by rw [← e]; exact hss⟩
   · (dsimp only; omega)
  refine wpM.exit <| QM.then_exit <| QM.then_exit <| QM.block_hit <| QM.block_normal ?_
  refine QM.then (wpM.region ?_)
  refine LM.val (ov_add64 rfl rfl om) ?_
  refine LM.mv rfl <| nC [(1, _), (4, _), (16, _), (17, _)] ?_
  refine QM.againK ((i + 1, mi)) ⟨au2, rfl, rfl, rfl, trivial⟩ au1 (fun _ h => h) ?_ ?_
  · exact ⟨by omega, by rw [← webP_next, show s.C.ps.length = k by omega]; exact hsi⟩
  · (dsimp only; omega)
 refine wpM.exit <| QM.then_exit <| QM.then_exit <| QM.block_hit <| tR <| LM.mv rfl <| LM.as rfl <| LM.as rfl <| nA [(2, _), (3, _)] <| wpM.ret ?_
 refine QM.leave (.inl rfl) [.tmp 2, .tmp 3] Tryd.results23 rfl ?_
 intro w' hm' hc' hg'
 have hin : i = s.C.ls.length := om; rw [hin, webP_end, ← webO_yes hmay] at hs; exact ⟨hc', m, ⟨ad14, n14, n14, by rw [hmay]; rfl, by rw [webO_yes hmay, grfO_len]; omega, hs⟩, hm'.pick m, hs.ge⟩
theorem ordd_spec {G : Gr} {ad : Option Addr} {n cap : Nat} (w : World) (hT : Tab w) (hn : n = G.length) (hl : Sr fU 1 G (.slice ad n cap) w) (hx : G.length ≤ 12) : Ret Tryd.prog 24 #[.slice ad n cap] w (fun v w' => v = .bool (ordB G) ∧ Ext w w') := by
 have hpos := hT.pos
 refine Ret.enterM Tryd.func24 rfl Tryd.ntmps24 rfl ([]) (no) (Mem.nil w) ?_
 refine wR <| LM.as rfl <| nB [(0, _)] ?_
 refine LM.callT (oc_call (enters_fn Tryd.func48 kr rfl) rfl) NewGT.mono (fun w hm hc hg => gnew_spec w) ?_
 rintro u6 m6 ⟨bg, rfl, rfl, hbg⟩ -
 refine LM.as rfl <| nA [(0, _), (3, _)] <| wpM.seq <| wR <| LM.mv rfl <| LM.val (ov_len Tryd.underlying56 rfl) <| LM.mv rfl <| nA [(3, _), (7, _), (8, _), (9, _)] <| wpM.block ?_
 refine wpM.loopK0 (α := Nat × Gr) (fun ⟨i, H⟩ => [(9, .int .i64 (i : Nat))]) [(3, _), (7, _), (8, _)] (fun ⟨i, H⟩ => gB bg H :: []) (fun ⟨i, H⟩ => i ≤ n ∧ H = putG G i ∧ okP G i) (fun ⟨i, H⟩ => n - i) ((0, zeroG)) ⟨au2, rfl, rfl, rfl, trivial⟩ au1 ⟨Nat.zero_le _, rfl, fun j hj => absurd hj (Nat.not_lt_zero _)⟩ ?_
 rintro ⟨i, H⟩ ⟨hi, hH, hP⟩
 change wpM _ _ _ _ _ _ _ (gB bg H :: []) _ _ _
 refine wR <| LM.val (ov_lss rfl rfl) <| nA [(3, _), (7, _), (8, _), (9, _), (10, _)] <| wpM.seq ?_
 refine wpM.condD rfl (fun h1 => ?_) (fun h1 => ?_)
 ·
  refine wpM.skip <| QM.then <| wpM.seq <| wpM.block <| wR <| LM.mv rfl ?_
  refine LM.val (ov_idxSN au6 Tryd.underlying56 Tryd.sizeOf34 rfl rfl om) ?_
  refine LM.rdC (om_sr1 asm Tryd.isAgg34 rfl rfl (by exact getq 0#64 au4) (by rfl) id) ?_
  refine LM.as rfl <| LM.as rfl <| nB [(3, _), (4, _), (5, _), (7, _), (8, _), (9, _)] <| LM.mv rfl <| LM.mv rfl <| LM.mv rfl ?_
  refine LM.cW (oc_call (enters_fn Tryd.func49 kr rfl) rfl) (fun w hm hc hg => wait_spec bg H _ _ w (by rw [hH]; exact putG_len _ _) (hT.ext hc) om (hm.pick _)) rfl au8 ?_
  refine LM.val (ov_neq rfl rfl) <| nA [(3, _), (7, _), (8, _), (9, _), (18, _)] ?_
  refine wpM.condD rfl (fun h2 => ?_) (fun h2 => ?_)
  ·
   refine wR <| LM.as rfl <| nA [(2, _)] <| wpM.ret <| QM.block_ret <| QM.then_ret <| QM.then_ret <| QM.block_ret <| QM.then_ret ?_
   refine qL Tryd.results24 rfl fun w' hm' hc' hg' => ?_
   refine ⟨?_, hc'⟩; rw [ordB_no (hP.bad om (by rw [← hH]; exact h2))]; rfl
  refine wpM.skip <| QM.block_normal ?_
  refine QM.then (wpM.region ?_)
  refine LM.val (ov_add64 rfl rfl om) ?_
  refine LM.mv rfl <| nC [(3, _), (7, _), (8, _), (9, _)] ?_
  refine QM.againK (i + 1, wtG H (i : Nat) (G.getD i 0#64)) ⟨au2, rfl, rfl, rfl, trivial⟩ au1 (fun _ h => h) ?_ ?_
  · exact ⟨by omega, by rw [putG_succ, hH]; rfl, fun j hj => by rcases Nat.lt_or_ge j i with q | q; exact hP j q; rw [show j = i by omega, ← hH]; exact Classical.not_not.1 h2⟩
  · (dsimp only; omega)
 refine wpM.exit <| QM.then_exit <| QM.then_exit <| QM.block_hit <| tR <| LM.as rfl <| nA [(2, _)] <| wpM.ret ?_
 refine qL Tryd.results24 rfl fun w' hm' hc' hg' => ?_
 have hin : i = G.length := om; subst hin; refine ⟨?_, hc'⟩; rw [(ordB_iff G).2 (hP.good om)]; rfl
theorem free_spec41 {G : Gr} {ad : Option Addr} {n cap : Nat} (left : BitVec 64) (w : World) (hT : Tab w) (hn : n = G.length) (hl : Sr fU 1 G (.slice ad n cap) w) (hlow : ∀ k : Nat, sHas left k = true → k < G.length) : Ret Tryd.prog 25 #[.slice ad n cap, U left] w (fun v w' => v = .int .i64 (freI G left) ∧ Ext w w') := by
 refine Ret.enterM Tryd.func25 rfl Tryd.ntmps25 rfl ([]) (no) (Mem.nil w) ?_
 refine wR ?_
 refine LM.box rfl rfl (fun b2 hb2 => ?_)
 refine LM.as rfl <| nB [(1, _), (2, _)] ?_
 refine LM.alloc Tryd.zeroValue34 rfl (fun b5 hb5 => ?_)
 refine nA [(1, _), (2, _), (5, _)] <| wpM.seq <| wR <| LM.mv rfl ?_
 refine LM.callT (oc_call (enters_fn Tryd.func34 kr rfl) rfl) AllT.mono (fun w hm hc hg => all_spec _ w) ?_
 rintro u8 m8 ⟨c1, rfl, rfl, hc1⟩ -
 refine nA [(1, _), (2, _), (5, _), (8, _)] <| wpM.block ?_
 refine wpM.toRange (α := BitVec 64) (fun k x => uBx b5 x :: uBx c1 left :: wbB b2 ad n cap :: []) (0#64) au1 ?_
 refine wpM.range (α := BitVec 64) (β := Unit) (enters_fn Tryd.func55 kr rfl) rfl (all_seq (s := left)) (fun k x => uBx b5 x :: uBx c1 left :: wbB b2 ad n cap :: []) (fun _ _ => top) (fun k x => k ≤ (allL left).length ∧ x = ((allL left).take k).foldl (fun a i => a ||| ot G i) 0#64) (fun ⟨⟩ => []) (fun _ => top) (fun c ⟨⟩ => False) 0#64 rfl (fun _ h => h) ⟨Nat.zero_le _, rfl⟩ kr (by intro k av hav; obtain ⟨i, hi, rfl⟩ := allA_inv hav; have hlt := (List.getElem?_eq_some_iff.1 hi).1; have hil : i < G.length := hlow i (by rw [sHas_nat]; exact allL_mem.1 (List.mem_of_getElem? hi)); rfl) (.inl trivial) (fun k a w hm hc _ _ => ⟨SubM.mem au1 w hm, hT.ext hc⟩) (fun _ _ _ _ => gl_top _) (fun _ _ _ => gl_top _) (fun k x _ => mm_cons rfl (mm_cons rfl (mm_cons rfl mm_nil))) (fun c z _ => by ((repeat (refine mm_cons rfl ?_)); exact fun p hp => .inl (by first | exact hp | (simp at hp; done) | (simp [hp]; done) | (simp at hp ⊢; first | exact .inl hp | exact hp | (simp [hp]; done))))) ?_ ?_ ?_ ?_
 ·
  rintro k av x l D rc n1 W1 hD hll hput hrc hav ⟨hk, hx⟩
  change wpM _ _ _ _ _ _ _ ((l, Obj.loop rc) :: ([(D, Obj.deferred (some []))] ++ (uBx b5 x :: uBx c1 left :: wbB b2 ad n cap :: []))) _ _ _
  obtain ⟨i, hi, rfl⟩ := allA_inv hav; have hlt := (List.getElem?_eq_some_iff.1 hi).1; have hil : i < G.length := hlow i (by rw [sHas_nat]; exact allL_mem.1 (List.mem_of_getElem? hi))
  refine wpM.region ?_
  refine LM.as rfl <| nC [(2, _), (5, _), (6, _)] ?_
  refine QM.toBodyF (hput k x) hll ?_
  refine wpM.block ?_
  refine wpM.draw [(0, 1), (1, 1), (2, 0), (3, 0), (4, 1), (5, 0), (6, 3)] kr kr ?_
  refine LD.rd rfl rfl (oml rfl rfl rfl) ?_
  refine LD.rd rfl rfl (oml rfl rfl rfl) ?_
  refine LD.val rfl rfl (ov_move rfl) ?_
  refine LD.val rfl rfl (ov_idxSN au6 Tryd.underlying56 Tryd.sizeOf34 rfl rfl om) ?_
  refine LD.rdC rfl rfl (om_sr1 asm Tryd.isAgg34 rfl rfl (by exact getq 0#64 au4) (by rfl) id) ?_
  refine LD.val rfl rfl (ov_uor rfl rfl) ?_
  refine LD.tail rfl rfl ?_
  refine LM.st Tryd.sizeOf34 rfl rfl rfl au5 rfl au8 ?_
  refine LM.nil ?_
  refine QM.qn ?_
  refine QM.sub (e' := []) trivial ?_
  refine QM.block_normal ?_
  refine QM.next (x ||| G.getD i 0#64) (SubM.mem au1) (fun _ h => h) ?_
  · exact ⟨by omega, by rw [fold_snoc G hi, ← hx]; rfl⟩
 ·
  rintro x D0 hD0 ⟨hk, hx⟩
  refine QM.sub (e' := [(1, _), (5, _)]) au9 ?_
  refine QM.block_normal <| tR <| LM.mv rfl ?_
  refine LM.rd (oml rfl rfl rfl) ?_
  refine LM.val (ov_uandNot rfl rfl) ?_
  refine cE Tryd.func50 rfl (fun w hm hc hg => first_spec _ w (hT.ext hc)) ?_
  refine LM.as rfl <| nA [(4, _)] <| wpM.ret ?_
  refine QM.leaveDF (ds := [D0]) (.inl rfl) [.tmp 4] Tryd.results25 rfl (fun D h => by simp only [List.mem_cons, List.not_mem_nil, or_false] at h; omega) ?_
  intro w' hm' hc'
  refine ⟨?_, hc'⟩; rw [allA_len, List.take_of_length_le (Nat.le_refl _)] at hx; rw [hx]; rfl
 ·
  rintro ⟨⟩ D0 hD0 hx
  exact hx.elim
 rintro id ⟨⟩ D0 hD0 hx
 exact hx.elim
theorem wreach_spec {G : Gr} {ad : Option Addr} {n cap : Nat} (i : Nat) (w : World) (hT : Tab w) (hn : n = G.length) (hl : Sr fU 1 G (.slice ad n cap) w) (hlow : Low G) (hi : i < G.length) : Ret Tryd.prog 28 #[.slice ad n cap, .int .i64 (i : Nat)] w (fun v w' => v = U (ovr G (ot G i)) ∧ Ext w w') := by
 refine Ret.enterM Tryd.func28 rfl Tryd.ntmps28 rfl ([]) (no) (Mem.nil w) ?_
 refine wR <| LM.as rfl <| nB [(0, _), (1, _)] <| LM.as rfl <| nA [(0, _), (1, _), (5, _)] <| wpM.seq <| wR <| LM.mv rfl <| LM.mv rfl ?_
 refine LM.val (ov_idxSN au6 Tryd.underlying56 Tryd.sizeOf34 rfl rfl om) ?_
 refine LM.rdC (om_sr1 asm Tryd.isAgg34 rfl rfl (by exact getq 0#64 au4) (by rfl) id) ?_
 refine LM.as rfl <| nA [(0, _), (5, _), (6, _)] <| wpM.block ?_
 refine wpM.loopK0 (α := BitVec 64 × BitVec 64) (fun ⟨met, todo⟩ => [(5, U met), (6, U todo)]) [(0, _)] (fun ⟨met, todo⟩ => []) (fun ⟨met, todo⟩ => WkI G (ot G i) met todo) (fun ⟨met, todo⟩ => 64 - card met) ((0#64, ot G i)) ⟨au2, au2, rfl, trivial⟩ au1 (WkI.init G _) ?_
 rintro ⟨met, todo⟩ hK
 change wpM _ _ _ _ _ _ _ ([]) _ _ _
 have hcm := card_le met
 refine wpM.seq <| wR <| LM.mv rfl ?_
 refine LM.val (ov_uneq (b := 0#64) rfl rfl) ?_
 refine nA [(0, _), (5, _), (6, _), (13, _)] ?_
 refine wpM.condD rfl (fun h1 => ?_) (fun h1 => ?_)
 ·
  have hlb := (lsb_spec h1).2.1; have hlt : lsb todo < G.length := hlow.rch (hK.sound _ (.inr (by rw [sHas_nat]; exact hlb)))
  refine wpM.skip <| QM.then <| wpM.block <| wR <| LM.mv rfl ?_
  refine cE Tryd.func50 rfl (fun w hm hc hg => first_in w (hT.ext hc) h1) ?_
  refine LM.as rfl <| nB [(0, _), (5, _), (6, _), (7, _)] <| LM.mv rfl <| LM.mv rfl ?_
  refine cE Tryd.func30 rfl (fun w hm hc hg => with_spec _ _ w) ?_
  refine LM.as rfl ?_
  refine LM.nil (QM.sub (e' := [(0, _), (5, _), (6, _), (7, _)]) au9 (QM.then (wpM.region ?_)))
  refine LM.mv rfl <| LM.mv rfl <| LM.mv rfl ?_
  refine LM.val (ov_idxSN au6 Tryd.underlying56 Tryd.sizeOf34 rfl rfl om) ?_
  refine LM.rdC (om_sr1 asm Tryd.isAgg34 rfl rfl (by exact getq 0#64 au4) (by rfl) id) ?_
  refine LM.val (ov_uor rfl rfl) ?_
  refine LM.mv rfl ?_
  refine LM.val (ov_uandNot rfl rfl) ?_
  refine LM.as rfl <| nC [(0, _), (5, _), (6, _)] <| QM.block_normal ?_
  refine QM.againK ((withS met (lsb todo : Nat), (todo ||| G.getD (lsb todo) 0#64) &&& ~~~(withS met (lsb todo : Nat)))) ⟨au2, au2, rfl, trivial⟩ au1 (fun _ h => h) ?_ ?_
  · exact (hK.step h1).1
  · have h9 := (hK.step h1).2; have h8 := card_le (withS met (lsb todo : Nat)); show 64 - card (withS met (lsb todo : Nat)) < 64 - card met; omega
 refine wpM.exit <| QM.then_exit <| QM.then_exit <| QM.block_hit <| tR <| LM.mv rfl <| LM.as rfl <| nA [(4, _)] <| wpM.ret ?_
 refine qL Tryd.results28 rfl fun w' hm' hc' hg' => ?_
 have h0 : todo = 0#64 := Classical.not_not.1 h1; rw [h0] at hK; refine ⟨?_, hc'⟩; rw [hK.end]; rfl
theorem wnext_spec {G : Gr} {ad : Option Addr} {n cap : Nat} (a t : Nat) (w : World) (hT : Tab w) (hn : n = G.length) (hl : Sr fU 1 G (.slice ad n cap) w) (hlow : Low G) (ha : a < G.length) : Ret Tryd.prog 29 #[.slice ad n cap, .int .i64 (a : Nat), .int .i64 (t : Nat)] w (fun v w' => v = .int .i64 (nxtI G a t : Nat) ∧ Ext w w') := by
 refine Ret.enterM Tryd.func29 rfl Tryd.ntmps29 rfl ([]) (no) (Mem.nil w) ?_
 refine wR ?_
 refine LM.box rfl rfl (fun b3 hb3 => ?_)
 refine LM.box rfl rfl (fun b5 hb5 => ?_)
 refine LM.alloc Tryd.zeroValue3 rfl (fun b6 hb6 => ?_)
 refine nA [(1, _), (3, _), (5, _), (6, _)] <| wpM.seq <| wR ?_
 refine LM.rd (oml rfl rfl rfl) ?_
 refine LM.mv rfl ?_
 refine LM.val (ov_idxSN au6 Tryd.underlying56 Tryd.sizeOf34 rfl rfl om) ?_
 refine LM.rdC (om_sr1 asm Tryd.isAgg34 rfl rfl (by exact getq 0#64 au4) (by rfl) id) ?_
 refine LM.callT (oc_call (enters_fn Tryd.func34 kr rfl) rfl) AllT.mono (fun w hm hc hg => all_spec _ w) ?_
 rintro u12 m12 ⟨c1, rfl, rfl, hc1⟩ -
 refine nA [(3, _), (5, _), (6, _), (12, _)] <| wpM.block ?_
 refine wpM.toRange (α := Unit) (fun k ⟨⟩ => uBx c1 (ot G a) :: (b6, .cells #[.int .i64 0] 3 (0, 0)) :: (b5, .cells #[.int .i64 (t : Nat)] 3 (0, 0)) :: wbB b3 ad n cap :: []) (⟨⟩) au1 ?_
 refine wpM.range (α := Unit) (β := Nat) (enters_fn Tryd.func55 kr rfl) rfl (all_seq (s := ot G a)) (fun k ⟨⟩ => uBx c1 (ot G a) :: (b6, .cells #[.int .i64 0] 3 (0, 0)) :: (b5, .cells #[.int .i64 (t : Nat)] 3 (0, 0)) :: wbB b3 ad n cap :: []) (fun _ _ => top) (fun k ⟨⟩ => k ≤ (allL (ot G a)).length ∧ ∀ j, j < k → stpB G t ((allL (ot G a)).getD j 0) = false) (fun i => (b6, .cells #[.int .i64 (i : Nat)] 3 (0, 0)) :: []) (fun _ => top) (fun c i => c = .ret ∧ ∃ k, (allL (ot G a))[k]? = some i ∧ (∀ j, j < k → stpB G t ((allL (ot G a)).getD j 0) = false) ∧ stpB G t i = true) ⟨⟩ rfl (fun _ h => h) ⟨Nat.zero_le _, fun j hj => absurd hj (Nat.not_lt_zero _)⟩ kr (by intro k av hav; obtain ⟨i, hi, rfl⟩ := allA_inv hav; have hlt := (List.getElem?_eq_some_iff.1 hi).1; have hil : i < G.length := hlow a i (by rw [sHas_nat]; exact allL_mem.1 (List.mem_of_getElem? hi)); rfl) (.inl trivial) (fun k a w hm hc _ _ => ⟨SubM.mem au1 w hm, hT.ext hc⟩) (fun _ _ _ _ => gl_top _) (fun _ _ _ => gl_top _) (fun k x _ => mm_cons rfl (mm_cons rfl (mm_cons rfl (mm_cons rfl mm_nil)))) (fun c z _ => mm_cons rfl mm_nil) ?_ ?_ ?_ ?_
 ·
  rintro k av ⟨⟩ l D rc n1 W1 hD hll hput hrc hav ⟨hk, h0⟩
  change wpM _ _ _ _ _ _ _ ((l, Obj.loop rc) :: ([(D, Obj.deferred (some []))] ++ (uBx c1 (ot G a) :: (b6, .cells #[.int .i64 0] 3 (0, 0)) :: (b5, .cells #[.int .i64 (t : Nat)] 3 (0, 0)) :: wbB b3 ad n cap :: []))) _ _ _
  obtain ⟨i, hi, rfl⟩ := allA_inv hav; have hlt := (List.getElem?_eq_some_iff.1 hi).1; have hil : i < G.length := hlow a i (by rw [sHas_nat]; exact allL_mem.1 (List.mem_of_getElem? hi))
  refine wpM.region ?_
  refine LM.as rfl <| nC [(3, _), (5, _), (6, _), (7, _)] ?_
  refine QM.toBodyF (hput k ⟨⟩) hll ?_
  refine wpM.block <| wpM.seq ?_
  refine wpM.draw [(0, 0), (1, 1), (2, 0), (3, 0), (4, 1), (5, 0), (7, 1), (6, 2), (8, 2), (9, 0)] kr kr ?_
  refine LD.val rfl rfl (ov_move rfl) ?_
  refine LD.rd rfl rfl (oml rfl rfl rfl) ?_
  refine LD.val rfl rfl (ov_eql rfl rfl) ?_
  refine LD.val rfl rfl (ov_move rfl) ?_
  refine LD.splitD (t := 17) rfl (fun h1 => ?_) (fun h1 => ?_)
  ·
   refine LD.drop rfl rfl ⟨17, _, rfl, rfl, rfl⟩ <| LD.drop rfl rfl ⟨17, _, rfl, rfl, rfl⟩ <| LD.drop rfl rfl ⟨17, _, rfl, rfl, rfl⟩ <| LD.drop rfl rfl ⟨17, _, rfl, rfl, rfl⟩ <| LD.drop rfl rfl ⟨17, _, rfl, rfl, rfl⟩ ?_
   refine LD.val rfl rfl (ov_pickT rfl rfl) ?_
   refine LD.nil ?_
   refine QM.sub (e' := [(6, _), (7, _), (23, _)]) au9 (QM.then ?_)
   refine wpM.condT rfl ?_
   refine wR <| LM.mv rfl ?_
   refine LM.st Tryd.sizeOf3 rfl rfl rfl au5 rfl au8 ?_
   refine nA [(6, _)] <| wpM.ret <| QM.block_ret ?_
   refine QM.rret (i) (SubM.mem au1) (fun _ h => h) ?_
   · exact ⟨rfl, k, hi, h0, by unfold stpB; rw [decide_eq_true om]; rfl⟩
  refine LD.rd rfl ⟨17, _, rfl, rfl, rfl⟩ (oml rfl rfl rfl) ?_
  refine LD.val rfl ⟨17, _, rfl, rfl, rfl⟩ (ov_move rfl) ?_
  refine LD.rd rfl ⟨17, _, rfl, rfl, rfl⟩ (oml rfl rfl rfl) ?_
  refine dE rfl ⟨17, _, rfl, rfl, rfl⟩ Tryd.func28 rfl (fun w hm hc hg => wreach_spec i w (hT.ext hc) hn (hl.ext hc) hlow hil) ?_
  refine dE rfl ⟨17, _, rfl, rfl, rfl⟩ Tryd.func27 rfl (fun w hm hc hg => ihas_spec _ _ w) ?_
  refine LD.val rfl rfl (ov_pickF rfl rfl) ?_
  refine LD.nil ?_
  refine QM.sub (e' := [(6, _), (7, _), (23, _)]) au9 (QM.then ?_)
  refine wpM.condB rfl (fun h2 => ?_) (fun h2 => ?_)
  ·
   refine wR <| LM.mv rfl ?_
   refine LM.st Tryd.sizeOf3 rfl rfl rfl au5 rfl au8 ?_
   refine nA [(6, _)] <| wpM.ret <| QM.block_ret ?_
   refine QM.rret (i) (SubM.mem au1) (fun _ h => h) ?_
   · exact ⟨rfl, k, hi, h0, by unfold stpB; rw [(by assumption : sHas (ovr G (ot G i)) (t : Nat) = true), Bool.or_true]⟩
  refine wpM.skip <| QM.block_normal ?_
  refine QM.next (⟨⟩) (SubM.mem au1) (fun _ h => h) ?_
  · exact ⟨by omega, fun j hj => by rcases Nat.lt_or_ge j k with q | q; exact h0 j q; rw [show j = k by omega, getD_at hi]; unfold stpB; rw [decide_eq_false om, Bool.false_or]; exact asm⟩
 ·
  rintro ⟨⟩ D0 hD0 ⟨hk, h0⟩
  refine QM.sub (e' := [(5, _), (6, _)]) au9 ?_
  refine QM.block_normal <| tR ?_
  refine LM.rd (oml rfl rfl rfl) ?_
  refine LM.st Tryd.sizeOf3 rfl rfl rfl au5 rfl au8 ?_
  refine nA [(6, _)] <| wpM.ret ?_
  refine QM.leaveCDF (ds := [D0]) Tryd.results29 rfl (fun D h => by simp only [List.mem_cons, List.not_mem_nil, or_false] at h; omega) Tryd.isAgg3 rfl ?_
  intro w' hm' hc'
  refine ⟨?_, hc'⟩; unfold nxtI; rw [find_none' (fun j hj => h0 j (by rw [allA_len]; exact hj))]; rfl
 ·
  rintro i D0 hD0 hx
  obtain ⟨-, k, hi, h0, hst⟩ := hx
  refine QM.block_ret <| QM.then_ret ?_
  refine QM.leaveCDF (ds := [D0]) Tryd.results29 rfl (fun D h => by simp only [List.mem_cons, List.not_mem_nil, or_false] at h; omega) Tryd.isAgg3 rfl ?_
  intro w' hm' hc'
  refine ⟨?_, hc'⟩; unfold nxtI; rw [find_at hi h0 hst]; rfl
 rintro id i D0 hD0 hx
 cases hx.1
def OrT (s : StC) (n0 : Nat) (v : Value) (m : Mem0) : Prop := ∃ ad n cap, v = .tuple #[.slice ad n cap, .bool (okO s)] ∧ n = (ordW s).length ∧ Sl fI 3 1 n0 (ordW s) (.slice ad n cap) m
theorem OrT.mono {s : StC} : ∀ (k k' : Nat) u m, k' ≤ k → OrT s k u m → OrT s k' u m := fun k k' u m h ⟨ad, n, cap, h1, h2, h3⟩ => ⟨ad, n, cap, h1, h2, h3.mono h⟩
theorem OrT.no {s : StC} (h : okO s = false) {n0 : Nat} : OrT s n0 (.tuple #[.slice none 0 0, .bool false]) [] := by
  have e : ordW s = [] := if_neg (by rw [h]; simp)
  exact ⟨none, 0, 0, by rw [h], by rw [e]; rfl, by rw [e]; exact .nil _ _ _ _⟩
theorem depW_no {s : StC} (h : okO s = false) : depW s = 0 := if_neg (by rw [h]; simp)
theorem cycW_no {s : StC} (h : ¬ (mayS s = true ∧ ordB (webO s) = false)) : cycW s = [] := if_neg h
abbrev oYB (c l : Nat) : Nat × Obj := (c, .cells #[.func (.yield l) #[] #[]] 102 (0, 0))
abbrev oGI (c : Nat) (i : Int) : Nat × Obj := (c, .cells #[.int .i64 i] 3 (0, 0))
theorem edN_at {G : Gr} {who k i : Nat} (h : (allL (ot G who))[k]? = some i) : ∀ n, who < n → (edN G n)[(edN G who).length + k]? = some ⟨who, i⟩
  | 0, hw => by omega
  | n + 1, hw => by
    rw [edN_succ]
    by_cases e : who = n
    · subst e
      rw [List.getElem?_append_right om, Nat.add_sub_cancel_left]
      unfold edI; rw [List.getElem?_map, h]; rfl
    · have := edN_at h n om
      rw [List.getElem?_append_left (List.getElem?_eq_some_iff.1 this).1]; exact this
theorem edN_next2 (G : Gr) (who : Nat) : (edN G who).length + (allL (ot G who)).length = (edN G (who + 1)).length := by
  rw [edN_succ, List.length_append]; unfold edI; rw [List.length_map]
def edB (G : Gr) : List (Array Value) := (edW G).map (fun e => #[.agg (fEd e).toArray])
theorem edB_len (G : Gr) : (edB G).length = (edW G).length := by simp [edB]
theorem edB_get {G : Gr} {who k i : Nat} (h : (allL (ot G who))[k]? = some i) (hw : who < G.length) : (edB G)[(edN G who).length + k]? = some #[.agg #[.int .i64 (who : Nat), .int .i64 (i : Nat)]] := by
  unfold edB edW; rw [List.getElem?_map, edN_at h _ hw]; rfl
def mxT (G : Gr) (l : List Int) : Nat := mxF (dep G) (l.map Int.toNat)
theorem mxT_cons (G : Gr) (i : Nat) (l : List Int) : mxT G ((i : Int) :: l) = max (dep G i) (mxT G l) := by unfold mxT; rw [List.map_cons, mxF_cons, Int.toNat_natCast]
def DepI (G : Gr) (p : Nat) (dp : List Int) : Prop := dp.length = G.length ∧ ∀ k : Nat, (k : Int) ∈ (ordO G).drop p → dp.getD k 0 = (dep G k : Int)
theorem set_getD {l : List Int} {i j : Nat} {x : Int} (h : i < l.length) : (l.set i x).getD j 0 = if i = j then x else l.getD j 0 := by
  rw [List.getD_eq_getElem?_getD, List.getElem?_set]
  by_cases e : i = j
  · subst e; rw [if_pos rfl, if_pos h, if_pos rfl]; rfl
  · rw [if_neg e, if_neg e, List.getD_eq_getElem?_getD]
theorem set_set {l : List Int} {i : Nat} {x y : Int} : (l.set i x).set i y = l.set i y := by rw [List.set_set]
theorem mxF_bd {G : Gr} {l : List Nat} : mxF (dep G) l ≤ 66 := mxF_le.2 (fun i _ => dep_le G i)
theorem order_spec {s : StV} (w : World) (hT : Tab w) (hI : s.In w) : Ret Tryd.prog 9 #[s.val] w (fun v w' => Ext w w' ∧ ∃ m, OrT s.C w.heap.size v m ∧ Mem w' m ∧ ∀ p ∈ m, w.heap.size ≤ p.1) := by
 have hlen := webO_len s.C; have hlow := webO_low s.C
 refine Ret.enterM Tryd.func9 rfl Tryd.ntmps9 rfl ([]) (no) (Mem.nil w) ?_
 refine wR ?_
 refine LM.box rfl rfl (fun b1 hb1 => ?_)
 refine LM.as rfl <| LM.as rfl <| nB [(1, _)] ?_
 refine LM.rd (om_ldW Tryd.isAgg26 Tryd.sizeOf26 rfl rfl) ?_
 refine LM.callT (oc_call (enters_fn Tryd.func23 kr rfl) rfl) OfT.mono (fun w hm hc hg => web_spec w (hI.ext hc)) ?_
 rintro u11 m11 ⟨ad11, n11, cap11, rfl, hn11, hs11⟩ hge11
 refine LM.mv rfl <| LM.val (ov_extract rfl rfl) <| LM.val (ov_extract rfl rfl) <| LM.as rfl <| LM.as rfl <| nA [(4, _), (5, _)] <| wpM.seq <| wR <| LM.mv rfl ?_
 refine LM.val (ov_not rfl) ?_
 refine LM.mv rfl ?_
 refine LM.splitB (t := 16) rfl (fun h1 => ?_) (fun h1 => ?_)
 ·
  refine LM.dr 16 rfl rfl rfl <| LM.dr 16 rfl rfl rfl <| LM.dr 16 rfl rfl rfl <| LM.val (ov_pickT rfl rfl) <| nA [(4, _), (20, _)] ?_
  refine wpM.condT rfl ?_
  refine wR <| LM.as rfl <| LM.as rfl <| nA [(2, _), (3, _)] <| wpM.ret <| QM.then_ret ?_
  refine QM.leave (.inl rfl) [.tmp 2, .tmp 3] Tryd.results9 rfl ?_
  intro w' hm' hc' hg'
  exact ⟨hc', [], OrT.no (by unfold okO; rw [show mayS s.C = false by simpa using h1]; rfl), Mem.nil _, fun p hp => by cases hp⟩
 refine LM.sp 16 rfl rfl rfl <| LM.mv rfl <| LM.sp 16 rfl rfl rfl ?_
 refine cE Tryd.func24 rfl (fun w hm hc hg => ordd_spec w (hT.ext hc) hn11 (hs11.srM ir hm) hlen) ?_
 refine LM.sp 16 rfl rfl rfl ?_
 refine LM.val (ov_not rfl) ?_
 refine LM.val (ov_pickF rfl rfl) <| nA [(4, _), (20, _)] ?_
 refine wpM.condB rfl (fun h2 => ?_) (fun h2 => ?_)
 ·
  refine wR <| LM.as rfl <| LM.as rfl <| nA [(2, _), (3, _)] <| wpM.ret <| QM.then_ret ?_
  refine QM.leave (.inl rfl) [.tmp 2, .tmp 3] Tryd.results9 rfl ?_
  intro w' hm' hc' hg'
  exact ⟨hc', [], OrT.no (by unfold okO; rw [show ordB (webO s.C) = false by simpa using h2, Bool.and_false]), Mem.nil _, fun p hp => by cases hp⟩
 have hmay : mayS s.C = true := (by simpa using h1); have hord1 : ordB (webO s.C) = true := (by simpa using h2); have hA := (ordB_iff _).1 hord1; have hok : okO s.C = true := (by unfold okO; rw [hmay, hord1]; rfl)
 refine wpM.skip <| tR <| LM.as rfl <| nA [(4, _), (6, _)] <| wpM.seq <| wR <| LM.mv rfl <| LM.val (ov_len Tryd.underlying56 rfl) ?_
 refine LM.val (ov_ushl (a := 1#64) rfl rfl om) ?_
 refine LM.val (ov_usub (b := 1#64) rfl rfl) ?_
 refine LM.as rfl <| nA [(4, _), (6, _), (7, _)] <| wpM.block ?_
 refine wpM.loopK0 (α := BitVec 64 × List Int × Option Addr × Nat × Nat × Mem0) (fun ⟨left, os, ado, no, capo, mo⟩ => [(6, .slice ado no capo), (7, U left)]) [(4, _)] (fun ⟨left, os, ado, no, capo, mo⟩ => mo ++ (m11 ++ (stB b1 s :: []))) (fun ⟨left, os, ado, no, capo, mo⟩ => no = os.length ∧ ordO (webO s.C) = os ++ ordL (webO s.C) left ∧ ClL (webO s.C) left ∧ (∀ k : Nat, sHas left k = true → k < (webO s.C).length) ∧ Sl fI 3 1 w.heap.size os (.slice ado no capo) mo) (fun ⟨left, os, ado, no, capo, mo⟩ => card left) ((allN (webO s.C).length, [], none, 0, 0, [])) ⟨au2, (by first | rfl | exact lk rfl (by unfold allN; rw [← hn11]; rfl)), rfl, trivial⟩ au1 ⟨rfl, rfl, ClL.all hlow hlen, fun k hk => by rw [allN_has hlen] at hk; exact of_decide_eq_true hk, .nil _ _ _ _⟩ ?_
 rintro ⟨left, os, ado, no, capo, mo⟩ ⟨hno, hord, hcl, hlt, hso⟩
 change wpM _ _ _ _ _ _ _ (mo ++ (m11 ++ (stB b1 s :: []))) _ _ _
 have hol := congrArg List.length hord; rw [ordO_len hA hlen, List.length_append] at hol
 refine wpM.seq <| wR <| LM.mv rfl ?_
 refine LM.val (ov_uneq (b := 0#64) rfl rfl) ?_
 refine nA [(4, _), (6, _), (7, _), (26, _)] ?_
 refine wpM.condD rfl (fun h3 => ?_) (fun h3 => ?_)
 ·
  obtain ⟨fi, hfi, -, hf, -⟩ := freI_at (freS_ne hA h3)
  refine wpM.skip <| QM.then <| wpM.block <| wR <| LM.mv rfl <| LM.mv rfl ?_
  refine cE Tryd.func25 rfl (fun w hm hc hg => free_spec41 left w (hT.ext hc) hn11 (hs11.srM ir hm) hlt) ?_
  refine LM.as rfl <| nB [(4, _), (6, _), (7, _), (8, _)] <| LM.mv rfl <| LM.mv rfl ?_
  refine LM.single Tryd.underlying22 Tryd.sizeOf3 Tryd.zeroValue3 rfl rfl rfl rfl rfl (fun b32 hb32 => ?_)
  refine LM.app Tryd.underlying22 Tryd.typeInfo3 rfl rfl rfl rfl rfl rfl rfl asm (by rfl) ir (by intro _ u hu; simp [fI] at hu; (repeat (first | (rcases hu with rfl | hu) | subst hu | rfl))) (by first | exact Nat.le_refl _ | omega) au10 (by first | omega | (unfold maxLen; omega)) (by simp only [Tryd.t3]; omega) (fun ad33 n33 cap33 m33 hn33 hs33 hin33 => ?_)
  refine LM.as rfl ?_
  refine LM.nil (QM.sub (e' := [(4, _), (6, _), (7, _), (8, _)]) au9 (QM.then (wpM.region ?_)))
  refine LM.mv rfl <| LM.mv rfl ?_
  refine cE Tryd.func26 rfl (fun w hm hc hg => without_spec _ _ w) ?_
  refine LM.as rfl <| nC [(4, _), (6, _), (7, _)] <| QM.block_normal ?_
  have hcw := card_witho hf.1; rw [hfi] at hs33 ⊢
  refine QM.againK ((witho left (fi : Nat), os ++ [(fi : Int)], ad33, n33, cap33, m33)) ⟨au2, (by first | rfl | exact lk rfl (by unfold allN; rw [← hn11]; rfl)), rfl, trivial⟩ au1 (fun _ h => h) ?_ ?_
  · exact ⟨by rw [List.length_append, List.length_singleton]; omega, by rw [hord, ordL_cons hA h3, hfi, List.append_assoc]; rfl, hcl.step hf, fun k hk => hlt k (has_wo.1 hk).1, hs33⟩
  · (dsimp only; omega)
 refine wpM.exit <| QM.then_exit <| QM.then_exit <| QM.block_hit <| tR <| LM.mv rfl <| LM.as rfl <| LM.as rfl <| nA [(2, _), (3, _)] <| wpM.ret ?_
 refine QM.leave (.inl rfl) [.tmp 2, .tmp 3] Tryd.results9 rfl ?_
 intro w' hm' hc' hg'
 have h0 : left = 0#64 := Classical.not_not.1 h3; rw [h0, ordL_zero, List.append_nil] at hord; have e : ordW s.C = os := (by unfold ordW; rw [if_pos hok, hord]); exact ⟨hc', mo, ⟨ado, no, capo, by rw [hok]; rfl, by rw [e]; exact hno, by rw [e]; exact hso⟩, hm'.pick mo, hso.ge⟩
set_option maxHeartbeats 1000000 in
theorem cycle_spec {s : StV} (w : World) (hT : Tab w) (hI : s.In w) : Ret Tryd.prog 10 #[s.val] w (New fI 3 1 (cycW s.C) w) := by
 have hlen := webO_len s.C; have hlow := webO_low s.C
 refine Ret.enterM Tryd.func10 rfl Tryd.ntmps10 rfl ([]) (no) (Mem.nil w) ?_
 refine wR ?_
 refine LM.box rfl rfl (fun b1 hb1 => ?_)
 refine LM.as rfl <| nB [(1, _)] ?_
 refine LM.rd (om_ldW Tryd.isAgg26 Tryd.sizeOf26 rfl rfl) ?_
 refine LM.callT (oc_call (enters_fn Tryd.func23 kr rfl) rfl) OfT.mono (fun w hm hc hg => web_spec w (hI.ext hc)) ?_
 rintro u11 m11 ⟨ad11, n11, cap11, rfl, hn11, hs11⟩ hge11
 refine LM.mv rfl <| LM.val (ov_extract rfl rfl) <| LM.val (ov_extract rfl rfl) <| LM.as rfl <| LM.as rfl <| nA [(3, _), (4, _)] <| wpM.seq <| wR <| LM.mv rfl ?_
 refine LM.val (ov_not rfl) ?_
 refine LM.mv rfl ?_
 refine LM.splitB (t := 16) rfl (fun h1 => ?_) (fun h1 => ?_)
 ·
  refine LM.dr 16 rfl rfl rfl <| LM.dr 16 rfl rfl rfl <| LM.val (ov_pickT rfl rfl) <| nA [(3, _), (19, _)] ?_
  refine wpM.condT rfl ?_
  refine wR <| LM.as rfl <| nA [(2, _)] <| wpM.ret <| QM.then_ret ?_
  refine qL Tryd.results10 rfl fun w' hm' hc' hg' => ?_
  rw [cycW_no (fun q => by rw [q.1] at h1; simp at h1)]; exact ⟨hc', [], .nil _ _ _ _, Mem.nil _⟩
 refine LM.sp 16 rfl rfl rfl <| LM.mv rfl <| LM.sp 16 rfl rfl rfl ?_
 refine cE Tryd.func24 rfl (fun w hm hc hg => ordd_spec w (hT.ext hc) hn11 (hs11.srM ir hm) hlen) ?_
 refine LM.val (ov_pickF rfl rfl) <| nA [(3, _), (19, _)] ?_
 refine wpM.condB rfl (fun h2 => ?_) (fun h2 => ?_)
 ·
  refine wR <| LM.as rfl <| nA [(2, _)] <| wpM.ret <| QM.then_ret ?_
  refine qL Tryd.results10 rfl fun w' hm' hc' hg' => ?_
  rw [cycW_no (fun q => by rw [q.2] at h2; simp at h2)]; exact ⟨hc', [], .nil _ _ _ _, Mem.nil _⟩
 have hmay : mayS s.C = true := (by simpa using h1); have hord1 : ordB (webO s.C) = false := h2; have hA : ¬ Acy (webO s.C) := (fun q => by rw [(ordB_iff _).2 q] at hord1; cases hord1); obtain ⟨hr1, hr2, hr3⟩ := rngI_spec hA; have hrr := (ovr_iff _ _ _).1 hr2; have ecy : cycW s.C = cycO (webO s.C) := if_pos ⟨hmay, hord1⟩
 refine wpM.skip <| tR <| LM.as rfl <| nA [(3, _), (5, _)] <| wpM.seq <| wpM.block ?_
 refine wpM.loopK0 (α := Nat) (fun i => [(5, .int .i64 (i : Nat))]) [(3, _)] (fun i => m11 ++ (stB b1 s :: [])) (fun i => i ≤ rngI (webO s.C) ∧ ∀ j, j < i → sHas (ovr (webO s.C) (ot (webO s.C) j)) (j : Nat) = false) (fun i => rngI (webO s.C) - i) (0) ⟨au2, rfl, trivial⟩ au1 ⟨Nat.zero_le _, fun j hj => absurd hj (Nat.not_lt_zero _)⟩ ?_
 rintro i ⟨hi, hb⟩
 change wpM _ _ _ _ _ _ _ (m11 ++ (stB b1 s :: [])) _ _ _
 refine wpM.seq <| wR <| LM.mv rfl <| LM.mv rfl ?_
 refine cE Tryd.func28 rfl (fun w hm hc hg => wreach_spec i w (hT.ext hc) hn11 (hs11.srM ir hm) hlow om) ?_
 refine LM.mv rfl ?_
 refine cE Tryd.func27 rfl (fun w hm hc hg => ihas_spec _ _ w) ?_
 refine LM.val (ov_not rfl) ?_
 refine nA [(3, _), (5, _), (25, _)] ?_
 refine wpM.condB rfl (fun h3 => ?_) (fun h3 => ?_)
 ·
  refine wpM.skip <| QM.then <| wpM.block ?_
  refine wpM.region ?_
  refine LM.mv rfl ?_
  refine LM.val (ov_add64 rfl rfl om) ?_
  refine LM.as rfl <| nC [(3, _), (5, _)] <| QM.block_normal ?_
  refine QM.againK (i + 1) ⟨au2, rfl, trivial⟩ au1 (fun _ h => h) ?_ ?_
  · have hne : i ≠ rngI (webO s.C) := (fun q => by rw [q, hr2] at h3; cases h3); exact ⟨by omega, fun j hj => by rcases Nat.lt_or_ge j i with q | q; exact hb j q; rw [show j = i by omega]; simpa using h3⟩
  · have hne : i ≠ rngI (webO s.C) := (fun q => by rw [q, hr2] at h3; cases h3); omega
 have hir : i = rngI (webO s.C) := rngI_uniq hA (by simpa using h3) hb; subst hir
 refine wpM.exit <| QM.then_exit <| QM.then_exit <| QM.block_hit <| tR <| LM.as rfl <| nB [(3, _), (5, _), (6, _)] <| LM.as rfl <| nA [(3, _), (5, _), (6, _), (7, _)] <| wpM.seq <| wR <| LM.mv rfl <| LM.as rfl <| nA [(3, _), (5, _), (6, _), (7, _), (8, _)] <| wpM.block ?_
 refine wpM.loopK0 (α := BitVec 64 × Nat × List Int × Option Addr × Nat × Nat × Mem0) (fun ⟨met, a, os, ado, no, capo, mo⟩ => [(6, .slice ado no capo), (7, U met), (8, .int .i64 (a : Nat))]) [(3, _), (5, _)] (fun ⟨met, a, os, ado, no, capo, mo⟩ => mo ++ (m11 ++ (stB b1 s :: []))) (fun ⟨met, a, os, ado, no, capo, mo⟩ => no = os.length ∧ cycO (webO s.C) = os ++ cycL (webO s.C) (rngI (webO s.C)) met a ∧ Rch (webO s.C) (ot (webO s.C) a) (rngI (webO s.C)) ∧ Sl fI 3 1 w.heap.size os (.slice ado no capo) mo) (fun ⟨met, a, os, ado, no, capo, mo⟩ => 64 - card met) ((0#64, rngI (webO s.C), [], none, 0, 0, [])) ⟨au2, au2, au2, rfl, rfl, trivial⟩ au1 ⟨rfl, rfl, hrr, .nil _ _ _ _⟩ ?_
 rintro ⟨met, a, os, ado, no, capo, mo⟩ ⟨hno, hcy, hra, hso⟩
 change wpM _ _ _ _ _ _ _ (mo ++ (m11 ++ (stB b1 s :: []))) _ _ _
 have hol := congrArg List.length hcy; rw [List.length_append] at hol; have hal := rch_in hra; have h65 : (cycO (webO s.C)).length ≤ 65 := cycF_len _ _ _ _ _
 refine wpM.seq <| wR <| LM.mv rfl <| LM.mv rfl ?_
 refine cE Tryd.func27 rfl (fun w hm hc hg => ihas_spec _ _ w) ?_
 refine LM.val (ov_not rfl) ?_
 refine nA [(3, _), (5, _), (6, _), (7, _), (8, _), (32, _)] ?_
 refine wpM.condB rfl (fun h4 => ?_) (fun h4 => ?_)
 ·
  refine wpM.skip <| QM.then <| wpM.seq <| wpM.block <| wR <| LM.mv rfl <| LM.mv rfl ?_
  refine LM.single Tryd.underlying22 Tryd.sizeOf3 Tryd.zeroValue3 rfl rfl rfl rfl rfl (fun b39 hb39 => ?_)
  refine LM.app Tryd.underlying22 Tryd.typeInfo3 rfl rfl rfl rfl rfl rfl rfl asm (by rfl) ir (by intro _ u hu; simp [fI] at hu; (repeat (first | (rcases hu with rfl | hu) | subst hu | rfl))) (by first | exact Nat.le_refl _ | omega) au10 (by first | omega | (unfold maxLen; omega)) (by simp only [Tryd.t3]; omega) (fun ad40 n40 cap40 m40 hn40 hs40 hin40 => ?_)
  refine LM.as rfl ?_
  refine LM.nil (QM.sub (e' := [(3, _), (5, _), (6, _), (7, _), (8, _)]) au9 (QM.then (wpM.region ?_)))
  refine LM.mv rfl <| LM.mv rfl ?_
  refine cE Tryd.func30 rfl (fun w hm hc hg => with_spec _ _ w) ?_
  refine LM.as rfl <| nC [(3, _), (5, _), (6, _), (7, _), (8, _)] <| QM.block_normal ?_
  refine QM.then (wpM.region ?_)
  refine LM.mv rfl <| LM.mv rfl <| LM.mv rfl ?_
  refine cE Tryd.func29 rfl (fun w hm hc hg => wnext_spec a (rngI (webO s.C)) w (hT.ext hc) hn11 (hs11.srM ir hm) hlow hal) ?_
  refine LM.as rfl <| nC [(3, _), (5, _), (6, _), (7, _), (8, _)] ?_
  refine QM.againK ((withS met (a : Nat), nxtI (webO s.C) a (rngI (webO s.C)), os ++ [(a : Int)], ad40, n40, cap40, m40)) ⟨au2, au2, au2, rfl, rfl, trivial⟩ au1 (fun _ h => h) ?_ ?_
  · exact ⟨by rw [List.length_append, List.length_singleton]; omega, by rw [hcy, cycL_next om om (show sHas met (a : Nat) = false by simpa using h4), List.append_assoc]; rfl, (nxtI_spec hra hrr).2, hs40⟩
  · have h9 := card_with (V := met) (w := (a : Nat)) om om (show sHas met (a : Nat) = false by simpa using h4); have h8 := card_le (withS met (a : Nat)); show 64 - card (withS met (a : Nat)) < 64 - card met; omega
 refine wpM.exit <| QM.then_exit <| QM.then_exit <| QM.block_hit <| tR <| LM.mv rfl <| LM.as rfl <| nA [(2, _)] <| wpM.ret ?_
 refine qL Tryd.results10 rfl fun w' hm' hc' hg' => ?_
 rw [cycL_stop (show sHas met (a : Nat) = true by simpa using h4), List.append_nil] at hcy; rw [ecy, hcy]; exact ⟨hc', mo, hso, hm'.pick mo⟩
abbrev oSl (b : Nat) (ad : Option Addr) (n cap : Nat) : Nat × Obj := (b, .cells #[.slice ad n cap] 22 (0, 0))
abbrev depP (G : Gr) (i k : Nat) : Int := ((1 + mxF (dep G) ((allL (ot G i)).take k) : Nat) : Int)
theorem depP_snoc {G : Gr} {i k nx : Nat} (h : (allL (ot G i))[k]? = some nx) : depP G i (k + 1) = max (depP G i k) ((dep G nx : Int) + 1) := by
  unfold depP; rw [List.take_add_one, h]; show ((1 + mxF (dep G) (_ ++ [nx]) : Nat) : Int) = _; rw [mxF_snoc]; omega
theorem mxT_bd (G : Gr) (l : List Int) : mxT G l ≤ 66 := mxF_bd
set_option maxHeartbeats 1000000 in
theorem depth_spec {s : StV} (w : World) (hT : Tab w) (hI : s.In w) : Ret Tryd.prog 13 #[s.val] w (fun v w' => v = .int .i64 (depW s.C : Nat) ∧ Ext w w') := by
 have hlen := webO_len s.C; have hlow := webO_low s.C
 refine Ret.enterM Tryd.func13 rfl Tryd.ntmps13 rfl ([]) (no) (Mem.nil w) ?_
 refine wR ?_
 refine LM.box rfl rfl (fun b1 hb1 => ?_)
 refine LM.as rfl <| nB [(1, _)] ?_
 refine LM.rd (om_ldW Tryd.isAgg26 Tryd.sizeOf26 rfl rfl) ?_
 refine LM.callT (oc_call (enters_fn Tryd.func23 kr rfl) rfl) OfT.mono (fun w hm hc hg => web_spec w (hI.ext hc)) ?_
 rintro u14 m14 ⟨ad14, n14, cap14, rfl, hn14, hs14⟩ hge14
 refine LM.mv rfl <| LM.val (ov_extract rfl rfl) <| LM.val (ov_extract rfl rfl) <| LM.as rfl <| LM.as rfl <| nB [(1, _), (3, _)] ?_
 refine LM.rd (om_ldW Tryd.isAgg26 Tryd.sizeOf26 rfl rfl) ?_
 refine LM.callT (oc_call (enters_fn Tryd.func9 kr rfl) rfl) OrT.mono (fun w hm hc hg => order_spec w (hT.ext hc) (hI.ext hc)) ?_
 rintro u19 m19 ⟨ad19, n19, cap19, rfl, hn19, hs19⟩ hge19
 refine LM.mv rfl <| LM.val (ov_extract rfl rfl) <| LM.val (ov_extract rfl rfl) <| LM.as rfl <| LM.as rfl <| nA [(3, _), (5, _), (6, _)] <| wpM.seq <| wR <| LM.mv rfl ?_
 refine LM.val (ov_not rfl) ?_
 refine nA [(3, _), (5, _), (23, _)] ?_
 refine wpM.condB rfl (fun h1 => ?_) (fun h1 => ?_)
 ·
  refine wR <| LM.as rfl <| nA [(2, _)] <| wpM.ret <| QM.then_ret ?_
  refine qL Tryd.results13 rfl fun w' hm' hc' hg' => ?_
  refine ⟨?_, hc'⟩; rw [depW_no (by simpa using h1)]; rfl
 have hok : okO s.C = true := (by simpa using h1); have hok2 := hok; unfold okO at hok2; rw [Bool.and_eq_true] at hok2; obtain ⟨hmay, hord1⟩ := hok2; have hA := (ordB_iff _).1 hord1; have eo : ordW s.C = ordO (webO s.C) := if_pos hok; rw [eo] at hs19 hn19; have hol := ordO_len hA hlen; have hm0 : mxT (webO s.C) ((ordO (webO s.C)).drop n19) = 0 := (by rw [List.drop_of_length_le om]; rfl)
 refine wpM.skip <| tR <| LM.mv rfl <| LM.val (ov_len Tryd.underlying56 rfl) ?_
 refine LM.makeS (f := fI) (a0 := 0) Tryd.underlying22 Tryd.typeInfo3 rfl rfl rfl rfl ir rfl rfl rfl om (by simp only [Tryd.t3]; omega) om (by unfold maxLen; omega) (fun ad26 n26 m26 hn26 hs26 => ?_)
 refine LM.alloc Tryd.zeroValue22 rfl (fun b7 hb7 => ?_)
 refine LM.st Tryd.sizeOf22 rfl rfl rfl au5 rfl au8 ?_
 refine nB [(3, _), (5, _), (7, _)] <| LM.as rfl <| nA [(3, _), (5, _), (7, _), (8, _)] <| wpM.seq <| wR <| LM.mv rfl <| LM.val (ov_len Tryd.underlying22 rfl) ?_
 refine LM.val (ov_sub64 rfl rfl om) ?_
 refine LM.as rfl <| nA [(3, _), (5, _), (7, _), (8, _), (9, _)] <| wpM.block ?_
 refine wpM.loopD (α := Nat × List Int × Mem0) (fun ⟨p, dp, md⟩ => [(8, .int .i64 (mxT (webO s.C) ((ordO (webO s.C)).drop p) : Nat)), (9, .int .i64 ((p : Int) - 1))]) [(3, _), (5, _), (7, _)] (fun ⟨p, dp, md⟩ => oSl b7 ad26 n26 n26 :: (md ++ (m19 ++ (m14 ++ (stB b1 s :: []))))) (fun ⟨p, dp, md⟩ => top) (fun ⟨p, dp, md⟩ => p ≤ n19 ∧ DepI (webO s.C) p dp ∧ Sl fI 3 1 w.heap.size dp (.slice ad26 n26 n26) md) (fun ⟨p, dp, md⟩ => p) ((n19, List.replicate n26 0, m26)) ⟨(by first | rfl | exact lk rfl (by rw [hm0]; rfl) | exact lk rfl (by rw [hmq, hfin]; congr 1; omega)), au2, rfl, rfl, rfl, trivial⟩ au1 (fun _ h => h) ⟨Nat.le_refl _, ⟨by rw [List.length_replicate]; omega, fun k hk => by rw [List.drop_of_length_le om] at hk; cases hk⟩, hs26⟩ ?_
 rintro ⟨p, dp, md⟩ ds1 hds1 ⟨hp, hDp, hs⟩
 change wpM _ _ _ _ _ _ _ (dM ds1 ++ (oSl b7 ad26 n26 n26 :: (md ++ (m19 ++ (m14 ++ (stB b1 s :: [])))))) _ _ _
 have hdl := hDp.1; have hmb := mxT_bd (webO s.C) ((ordO (webO s.C)).drop p)
 refine wpM.seq <| wR <| LM.mv rfl <| LM.val (ov_geq rfl rfl) <| nA [(3, _), (5, _), (7, _), (8, _), (9, _), (31, _)] ?_
 refine wpM.condD rfl (fun h2 => ?_) (fun h2 => ?_)
 ·
  obtain ⟨q, rfl⟩ : ∃ q, p = q + 1 := ⟨p - 1, by omega⟩; obtain ⟨i, l2, hgi, hil, hli, hdr0, hdr1, hsucc, hl2⟩ := ordO_at hA hlow hlen (p := q) om; have hdr : (ordO (webO s.C)).drop q = (i : Int) :: (ordO (webO s.C)).drop (q + 1) := (by have e := List.drop_eq_getElem_cons (l := ordO (webO s.C)) (i := q) om; rw [e]; congr 1; rw [← hgi, List.getD_eq_getElem?_getD, List.getElem?_eq_getElem om]; rfl); have hmq : mxT (webO s.C) ((ordO (webO s.C)).drop q) = max (dep (webO s.C) i) (mxT (webO s.C) ((ordO (webO s.C)).drop (q + 1))) := (by rw [hdr, mxT_cons]); rw [show ((q + 1 : Nat) : Int) - 1 = (q : Int) by omega]
  refine wpM.skip <| QM.then <| wpM.seq <| wpM.block <| wR <| LM.mv rfl <| LM.mv rfl ?_
  refine LM.val (ov_idxSN au6 Tryd.underlying22 Tryd.sizeOf3 rfl rfl om) ?_
  refine LM.rd (om_sl1 asm ir Tryd.isAgg3 rfl rfl (by exact getq 0 au4) (by rfl)) ?_
  rw [hgi]
  refine LM.alloc Tryd.zeroValue3 rfl (fun b10 hb10 => ?_)
  refine LM.st Tryd.sizeOf3 rfl rfl rfl au5 rfl au8 ?_
  refine nB [(3, _), (5, _), (7, _), (8, _), (9, _), (10, _)] ?_
  refine LM.rd (oml rfl rfl rfl) ?_
  refine LM.rd (oml rfl rfl rfl) ?_
  refine LM.val (ov_idxSN au6 Tryd.underlying22 Tryd.sizeOf3 rfl rfl om) ?_
  refine LM.stS ((1 : Int)) (j := 0) asm ir Tryd.sizeOf3 rfl rfl rfl (by exact getq 0 au4) rfl (by decide) (by rfl) rfl au10 (fun ms3 hss3 hmm3 => ?_)
  refine nA [(3, _), (5, _), (7, _), (8, _), (9, _), (10, _)] <| wpM.seq <| wR <| LM.mv rfl ?_
  refine LM.rd (oml rfl rfl rfl) ?_
  refine LM.val (ov_idxSN au6 Tryd.underlying56 Tryd.sizeOf34 rfl rfl om) ?_
  refine LM.rd (om_sl1 asm ir Tryd.isAgg34 rfl rfl (by exact getq 0#64 au4) (by rfl)) ?_
  refine LM.callT (oc_call (enters_fn Tryd.func34 kr rfl) rfl) AllT.mono (fun w hm hc hg => all_spec _ w) ?_
  rintro u45 m45 ⟨c1, rfl, rfl, hc1⟩ -
  refine nA [(3, _), (5, _), (7, _), (8, _), (9, _), (10, _), (45, _)] <| wpM.block ?_
  refine wpM.toRange (α := List Int × Mem0) (fun k ⟨dq, mq⟩ => dM ds1 ++ (uBx c1 (ot (webO s.C) i) :: oGI b10 (i : Nat) :: oSl b7 ad26 n26 n26 :: (mq ++ (m19 ++ (m14 ++ (stB b1 s :: [])))))) ((dp.set i 1, ms3)) au1 ?_
  refine wpM.range (α := List Int × Mem0) (β := Unit) (enters_fn Tryd.func55 kr rfl) rfl (all_seq (s := ot (webO s.C) i)) (fun k ⟨dq, mq⟩ => dM ds1 ++ (uBx c1 (ot (webO s.C) i) :: oGI b10 (i : Nat) :: oSl b7 ad26 n26 n26 :: (mq ++ (m19 ++ (m14 ++ (stB b1 s :: [])))))) (fun _ _ => top) (fun k ⟨dq, mq⟩ => k ≤ (allL (ot (webO s.C) i)).length ∧ dq = dp.set i (depP (webO s.C) i k) ∧ Sl fI 3 1 w.heap.size dq (.slice ad26 n26 n26) mq) (fun ⟨⟩ => []) (fun _ => top) (fun c ⟨⟩ => False) (dp.set i 1, ms3) rfl (fun _ h => h) ⟨Nat.zero_le _, rfl, hss3⟩ kr (by intro k av hav; obtain ⟨nx, hnx, rfl⟩ := allA_inv hav; have hlt := (List.getElem?_eq_some_iff.1 hnx).1; have hsn : sHas (ot (webO s.C) i) nx = true := allL_has.1 (List.mem_of_getElem? hnx); have hnl : nx < (webO s.C).length := hlow i nx hsn; have hne : i ≠ nx := (fun e => hA i (by rw [← e] at hsn; exact .base hsn)); have hdn : dp.getD nx 0 = (dep (webO s.C) nx : Int) := hDp.2 nx (by rw [hdr1]; exact (ordL_mem hA 64 _ (card_le _) _).2 ⟨nx, rfl, hsucc nx hsn⟩); have hb1 := dep_le (webO s.C) nx; rfl) (.inl trivial) (fun k a w hm hc _ _ => ⟨SubM.mem au1 w hm, hT.ext hc⟩) (fun _ _ _ _ => gl_top _) (fun _ _ _ => gl_top _) (fun k ⟨dq, mq⟩ h p hp => by rcases List.mem_append.1 hp with hp | hp; exact .inl (List.mem_append_left _ hp); exact (mm_cons rfl (mm_cons rfl (mm_cons rfl (mm_app h.2.2.wlk (mm_app hs19.wlk (mm_app hs14.wlk (mm_cons rfl mm_nil))))))) p hp) (fun c z _ => by ((repeat (refine mm_cons rfl ?_)); exact fun p hp => .inl (by first | exact hp | (simp at hp; done) | (simp [hp]; done) | (simp at hp ⊢; first | exact .inl hp | exact hp | (simp [hp]; done))))) ?_ ?_ ?_ ?_
  ·
   rintro k av ⟨dq, mq⟩ l D rc n1 W1 hD hll hput hrc hav ⟨hk, hdq, hsq⟩
   change wpM _ _ _ _ _ _ _ ((l, Obj.loop rc) :: ([(D, Obj.deferred (some []))] ++ (dM ds1 ++ (uBx c1 (ot (webO s.C) i) :: oGI b10 (i : Nat) :: oSl b7 ad26 n26 n26 :: (mq ++ (m19 ++ (m14 ++ (stB b1 s :: [])))))))) _ _ _
   obtain ⟨nx, hnx, rfl⟩ := allA_inv hav; have hlt := (List.getElem?_eq_some_iff.1 hnx).1; have hsn : sHas (ot (webO s.C) i) nx = true := allL_has.1 (List.mem_of_getElem? hnx); have hnl : nx < (webO s.C).length := hlow i nx hsn; have hne : i ≠ nx := (fun e => hA i (by rw [← e] at hsn; exact .base hsn)); have hdn : dp.getD nx 0 = (dep (webO s.C) nx : Int) := hDp.2 nx (by rw [hdr1]; exact (ordL_mem hA 64 _ (card_le _) _).2 ⟨nx, rfl, hsucc nx hsn⟩); have hb1 := dep_le (webO s.C) nx
   have hdql : dq.length = dp.length := (by rw [hdq, List.length_set]); have hqi : dq.getD i 0 = depP (webO s.C) i k := (by rw [hdq, set_getD om, if_pos rfl]); have hqn : dq.getD nx 0 = (dep (webO s.C) nx : Int) := (by rw [hdq, set_getD om, if_neg hne, hdn]); have hmb2 : depP (webO s.C) i k ≤ 67 := (by have := mxF_bd (G := webO s.C) (l := (allL (ot (webO s.C) i)).take k); unfold depP; omega)
   refine wpM.region ?_
   refine LM.as rfl <| nC [(7, _), (10, _), (11, _)] ?_
   refine QM.toBodyF (hput k ⟨dq, mq⟩) hll ?_
   refine wpM.block ?_
   refine wpM.draw [(0, 1), (1, 1), (2, 1), (3, 1), (4, 0), (5, 1), (6, 1), (7, 0), (8, 0), (9, 1), (10, 0), (11, 0), (12, 0), (13, 3)] kr kr ?_
   refine LD.rd rfl rfl (oml rfl rfl rfl) ?_
   refine LD.rd rfl rfl (oml rfl rfl rfl) ?_
   refine LD.rd rfl rfl (oml rfl rfl rfl) ?_
   refine LD.rd rfl rfl (oml rfl rfl rfl) ?_
   refine LD.val rfl rfl (ov_idxSN au6 Tryd.underlying22 Tryd.sizeOf3 rfl rfl om) ?_
   refine LD.rd rfl rfl (om_sl1 asm ir Tryd.isAgg3 rfl rfl (by exact getq 0 au4) (by rfl)) ?_
   refine LD.rd rfl rfl (oml rfl rfl rfl) ?_
   refine LD.val rfl rfl (ov_move rfl) ?_
   refine LD.val rfl rfl (ov_idxSN au6 Tryd.underlying22 Tryd.sizeOf3 rfl rfl om) ?_
   refine LD.rd rfl rfl (om_sl1 asm ir Tryd.isAgg3 rfl rfl (by exact getq 0 au4) (by rfl)) ?_
   refine LD.val rfl rfl (ov_add64 rfl rfl om) ?_
   refine LD.val rfl rfl (ov_max rfl rfl) ?_
   refine LD.val rfl rfl (ov_idxSN au6 Tryd.underlying22 Tryd.sizeOf3 rfl rfl om) ?_
   refine LD.tail rfl rfl ?_
   refine LM.stS _ (j := 0) asm ir Tryd.sizeOf3 rfl rfl rfl (by exact getq 0 au4) rfl (by decide) (by rfl) rfl au10 (fun ms hss hmm => ?_)
   refine LM.nil ?_
   refine QM.qn ?_
   refine QM.sub (e' := []) trivial ?_
   refine QM.block_normal ?_
   refine QM.next ((dq.set i (if dq.getD nx 0 + 1 > dq.getD i 0 then dq.getD nx 0 + 1 else dq.getD i 0), ms)) (SubM.mem au1) (fun _ h => h) ?_
   · exact ⟨by omega, by rw [hqi, hqn, hdq, set_set, depP_snoc hnx]; congr 1; split <;> omega, hss⟩
  ·
   rintro ⟨dq, mq⟩ D0 hD0 ⟨hk, hdq, hsq⟩
   dsimp only
   have hdql : dq.length = dp.length := (by rw [hdq, List.length_set])
   refine QM.sub (e' := [(3, _), (5, _), (7, _), (8, _), (9, _), (10, _)]) au9 ?_
   refine QM.block_normal ?_
   refine QM.then (wpM.region ?_)
   refine LM.mv rfl ?_
   refine LM.rd (oml rfl rfl rfl) ?_
   refine LM.rd (oml rfl rfl rfl) ?_
   refine LM.val (ov_idxSN au6 Tryd.underlying22 Tryd.sizeOf3 rfl rfl om) ?_
   refine LM.rd (om_sl1 asm ir Tryd.isAgg3 rfl rfl (by exact getq 0 au4) (by rfl)) ?_
   refine LM.val (ov_max rfl rfl) ?_
   refine LM.as rfl <| nC [(3, _), (5, _), (7, _), (8, _), (9, _)] <| QM.block_normal ?_
   refine QM.then (wpM.region ?_)
   refine LM.mv rfl ?_
   refine LM.val (ov_sub64 rfl rfl om) ?_
   refine LM.as rfl <| nC [(3, _), (5, _), (7, _), (8, _), (9, _)] ?_
   have hfin : dq.getD i 0 = (dep (webO s.C) i : Int) := (by rw [hdq, set_getD om, if_pos rfl, allA_len]; unfold depP; rw [List.take_of_length_le (Nat.le_refl _), ← dep_eq hA i])
   refine QM.againD ((q, dq, mq)) ⟨(by first | rfl | exact lk rfl (by rw [hm0]; rfl) | exact lk rfl (by rw [hmq, hfin]; congr 1; omega)), au2, rfl, rfl, rfl, trivial⟩ (by change SubM _ ((D0, Obj.deferred (some [])) :: (dM ds1 ++ ((fun ⟨p, dp, md⟩ => oSl b7 ad26 n26 n26 :: (md ++ (m19 ++ (m14 ++ (stB b1 s :: []))))) ((q, dq, mq))))); dsimp only; (repeat' (first | exact SubM.nil _ | refine SubM.cons rfl ?_ | refine SubM.app ?_))) (hd_cons hD0 hds1) (fun _ h => h) ?_ ?_
   · exact ⟨by omega, ⟨by rw [hdq, List.length_set]; exact hdl, fun k hk => by by_cases e : i = k; subst e; exact hfin; rw [hdq, set_getD om, if_neg e]; refine hDp.2 k ?_; rw [hdr] at hk; rcases List.mem_cons.1 hk with hk | hk; exact absurd om e; exact hk⟩, hsq⟩
   · omega
  ·
   rintro ⟨⟩ D0 hD0 hx
   exact hx.elim
  rintro id ⟨⟩ D0 hD0 hx
  exact hx.elim
 refine wpM.exit <| QM.then_exit <| QM.then_exit <| QM.block_hit <| tR <| LM.mv rfl <| LM.as rfl <| nA [(2, _)] <| wpM.ret ?_
 refine QM.leaveDF (ds := (ds1)) (.inl rfl) [.tmp 2] Tryd.results13 rfl hds1 ?_
 intro w' hm' hc'
 have hp0 : p = 0 := om; subst hp0; refine ⟨?_, hc'⟩; unfold depW; rw [if_pos hok, ← mx_ord hA hlen]; rfl
def OEdT (s : StV) (n0 : Nat) (v : Value) (m : Mem0) : Prop := ∃ c1, v = .func (.func 57) #[] #[.pointer (some ⟨c1, 0, none⟩)] ∧ m = [stB c1 s] ∧ n0 ≤ c1
theorem OEdT.mono {s : StV} : ∀ (k k' : Nat) u m, k' ≤ k → OEdT s k u m → OEdT s k' u m := fun k k' u m h ⟨b1, h1, h2, h3⟩ => ⟨b1, h1, h2, by omega⟩
theorem stp_or {G : Gr} {t i : Nat} (ht : t < 64) : sHas (ovr G (ot G i) ||| withS 0#64 (i : Nat)) (t : Nat) = stpB G t i := by
  rw [sHas_or, sHas_withS, sHas_zero, Bool.false_or, Bool.or_comm]
  unfold stpB
  congr 1
  by_cases e : i = t
  · rw [decide_eq_true e, decide_eq_true (show (t : Int) = i by omega)]; simp; omega
  · rw [decide_eq_false e, decide_eq_false (show ¬ (t : Int) = i by omega)]; rfl
def DonR (n : Nat) (done left : BitVec 64) : Prop := (∀ k : Nat, sHas left k = true → k < n) ∧ ∀ k : Nat, k < n → sHas done k = !sHas left k
theorem DonR.init {n : Nat} (h : n ≤ 12) : DonR n 0#64 (allN n) := ⟨fun k hk => by rw [allN_has h] at hk; exact of_decide_eq_true hk, fun k hk => by rw [allN_has h, sHas_zero, decide_eq_true hk]; rfl⟩
theorem DonR.step {n i : Nat} {done left : BitVec 64} (h : DonR n done left) (hn : n ≤ 12) (hi : i < n) : DonR n (withS done (i : Nat)) (witho left (i : Nat)) := by
  refine ⟨fun k hk => h.1 k (has_wo.1 hk).1, fun k hk => ?_⟩
  rw [sHas_withS, sHas_witho, h.2 k hk]
  by_cases e : (k : Int) = i
  · rw [decide_eq_true e]; simp; omega
  · rw [decide_eq_false e]; simp
theorem free_iff {G : Gr} {n i : Nat} {done left : BitVec 64} (h : DonR n done left) (hn : n = G.length) (hi : i < n) : Free G left i ↔ (sHas done (i : Nat) = false ∧ ∀ j, j < n → ¬ (sHas done (j : Nat) = false ∧ sHas (ot G j) i = true)) := by
  unfold Free
  rw [h.2 i hi]
  constructor
  · rintro ⟨h1, h2⟩
    refine ⟨by rw [h1]; rfl, fun j hj q => ?_⟩
    rw [h.2 j hj] at q
    have := h2 j (by simpa using q.1)
    rw [this] at q; cases q.2
  · rintro ⟨h1, h2⟩
    refine ⟨by simpa using h1, fun j hj => ?_⟩
    have hjn := h.1 j hj
    cases hb : sHas (ot G j) i
    · rfl
    · exact absurd ⟨by rw [h.2 j hjn, hj]; rfl, hb⟩ (h2 j hjn)
theorem oedges_spec (s : StV) (w : World) : Ret Tryd.prog 36 #[s.val] w (fun v w' => Ext w w' ∧ ∃ m, OEdT s w.heap.size v m ∧ Mem w' m ∧ ∀ p ∈ m, w.heap.size ≤ p.1) := by
 refine Ret.enterM Tryd.func36 rfl Tryd.ntmps36 rfl ([]) (no) (Mem.nil w) ?_
 refine wR ?_
 refine LM.box rfl rfl (fun b1 hb1 => ?_)
 refine LM.as rfl <| nB [(1, _)] ?_
 refine LM.val (ov_makeFunc rfl) ?_
 refine LM.as rfl <| nA [(2, _)] <| wpM.ret ?_
 refine qL Tryd.results36 rfl fun w' hm' hc' hg' => ?_
 exact ⟨hc', _, ⟨b1, rfl, rfl, hb1⟩, SubM.mem au1 _ hm', fun p hp => by simp only [List.mem_cons, List.not_mem_nil, or_false] at hp; subst hp; assumption⟩
theorem oedges_seq {b1 : Nat} {s : StV} : SeqCP Tryd.prog 57 #[.pointer (some ⟨b1, 0, none⟩)] (edB (webO s.C)) (fun w => Mem w [stB b1 s] ∧ s.In w ∧ Tab w) (True) := by
 have hlen := webO_len s.C
 refine SeqCP.enter (lb := [.pointer (some ⟨b1, 0, none⟩)]) Tryd.func57 rfl Tryd.ntmps57 rfl ?_
 intro l0 n0 J Jx w0 hn0 hfin hJr hL hy
 refine wpM.openJ (n := n0) (fun wj1 hmj1 hCj1 hjj1 hkj1 => ?_)
 refine wR ?_
 refine LM.box rfl rfl (fun b2 hb2 => ?_)
 refine nB [(1, _), (2, _)] ?_
 refine LM.rdC (fun w hm hc hg => om_loadA 0 Tryd.isAgg26 Tryd.sizeOf26 rfl rfl (vs := [_, _, _, _, _]) rfl ⟨rfl, rfl, rfl, rfl, rfl, trivial⟩ w ((hL.rd hJr hjj1 hc)).1) ?_
 refine LM.callT (oc_call (enters_fn Tryd.func23 kr rfl) rfl) OfT.mono (fun w hm hc hg => web_spec w ((hL.rd hJr hjj1 hc)).2.1) ?_
 rintro u10 m10 ⟨ad10, n10, cap10, rfl, hn10, hs10⟩ hge10
 refine LM.mv rfl <| LM.val (ov_extract rfl rfl) <| LM.val (ov_extract rfl rfl) <| LM.as rfl <| LM.as rfl <| nB [(2, _), (3, _)] <| LM.mv rfl <| LM.val (ov_len Tryd.underlying56 rfl) <| LM.mv rfl <| nA [(2, _), (13, _), (14, _), (15, _)] <| wpM.block ?_
 refine wpM.closeJ hL hCj1 hjj1 hkj1 (kk_top _) (((fun i => oYB b2 l0 :: (m10 ++ [])) : Nat → Mem0) (0)) (SubM.mem (by (try dsimp only); (repeat' (first | exact SubM.nil _ | refine SubM.cons rfl ?_ | refine SubM.app ?_)))) (by (try dsimp only); (repeat' (first | exact pn_nil | exact (fun p hp => ⟨.inl (hs10.ge p hp), hs10.wlk p hp⟩) | exact (fun p hp => ⟨.inr ⟨p, by simp [hp], rfl⟩, hs10.wlk p hp⟩) | refine pn_cons (by first | (left; omega) | (right; simp; done)) rfl ?_ | refine pn_app ?_ ?_))) ?_
 refine wpM.loopD (α := Nat) (fun i => [(15, .int .i64 (i : Nat))]) [(2, _), (13, _), (14, _)] (fun i => oYB b2 l0 :: (m10 ++ [])) (fun i => (fun w => J ((edN (webO s.C) i).length) (oYB b2 l0 :: (m10 ++ [])) w ∧ top w)) (fun i => i ≤ n10) (fun i => n10 - i) (0) ⟨au2, rfl, rfl, rfl, trivial⟩ au1 (fun _ h => h) (Nat.zero_le _) ?_
 rintro i ds1 hds1 hi
 change wpM _ _ _ _ _ _ _ (dM ds1 ++ (oYB b2 l0 :: (m10 ++ []))) _ _ _
 refine wpM.openJ (n := n0) (fun wj2 hmj2 hCj2 hjj2 hkj2 => ?_)
 refine wR <| LM.val (ov_lss rfl rfl) <| nA [(2, _), (13, _), (14, _), (15, _), (16, _)] <| wpM.seq ?_
 refine wpM.condD rfl (fun h1 => ?_) (fun h1 => ?_)
 ·
  refine wpM.skip <| QM.then <| wpM.seq <| wpM.block <| wR <| LM.mv rfl ?_
  refine LM.val (ov_idxSN au6 Tryd.underlying56 Tryd.sizeOf34 rfl rfl om) ?_
  refine LM.rd (om_sl1 asm ir Tryd.isAgg34 rfl rfl (by exact getq 0#64 au4) (by rfl)) ?_
  refine LM.alloc Tryd.zeroValue3 rfl (fun b5 hb5 => ?_)
  refine LM.st Tryd.sizeOf3 rfl rfl rfl au5 rfl (fun hlt => by first | exact absurd hlt om | (simp [inM]; done)) ?_
  refine LM.as rfl <| nB [(2, _), (5, _), (6, _), (13, _), (14, _), (15, _)] <| LM.mv rfl ?_
  refine LM.callT (oc_call (enters_fn Tryd.func34 kr rfl) rfl) AllT.mono (fun w hm hc hg => all_spec _ w) ?_
  rintro u21 m21 ⟨c1, rfl, rfl, hc1⟩ -
  refine nA [(2, _), (5, _), (13, _), (14, _), (15, _), (21, _)] <| wpM.block ?_
  refine wpM.closeJ hL hCj2 hjj2 hkj2 (kk_top _) (oYB b2 l0 :: oGI b5 (i : Nat) :: uBx c1 (ot (webO s.C) i) :: (m10 ++ [])) (SubM.mem (by (try dsimp only); (repeat' (first | exact SubM.nil _ | refine SubM.cons rfl ?_ | refine SubM.app ?_)))) (by (try dsimp only); (repeat' (first | exact pn_nil | exact (fun p hp => ⟨.inl (hs10.ge p hp), hs10.wlk p hp⟩) | exact (fun p hp => ⟨.inr ⟨p, by simp [hp], rfl⟩, hs10.wlk p hp⟩) | refine pn_cons (by first | (left; omega) | (right; simp; done)) rfl ?_ | refine pn_app ?_ ?_))) ?_
  refine wpM.toRange (α := Unit) (fun k ⟨⟩ => dM ds1 ++ (oYB b2 l0 :: oGI b5 (i : Nat) :: uBx c1 (ot (webO s.C) i) :: (m10 ++ []))) (⟨⟩) au1 ?_
  refine wpM.rangeJ (α := Unit) (β := Unit) (enters_fn Tryd.func55 kr rfl) rfl (all_seq (s := ot (webO s.C) i)) (fun k ⟨⟩ => dM ds1 ++ (oYB b2 l0 :: oGI b5 (i : Nat) :: uBx c1 (ot (webO s.C) i) :: (m10 ++ []))) (fun k ⟨⟩ => (fun w => J ((edN (webO s.C) i).length + k) (oYB b2 l0 :: oGI b5 (i : Nat) :: uBx c1 (ot (webO s.C) i) :: (m10 ++ [])) w ∧ top w)) (fun k ⟨⟩ => True) (fun ⟨⟩ => dM ds1 ++ []) (fun _ => (fun w => Jx w ∧ top w)) (fun c ⟨⟩ => c = .ret ∧ True) ⟨⟩ rfl (fun _ h => h) trivial kr (by intro k av hav; obtain ⟨nx, hnx, rfl⟩ := allA_inv hav; rfl) (.inl trivial) (fun k a w hm hc hg _ => ⟨SubM.mem au1 w hm, (hJr _ _ _ hg.1).2.2⟩) (fun w hg _ _ => gl_j hL (hL.le _ _ _ hg.1) (gl_top _)) (fun w hg _ => gl_x hL (hL.le _ _ _ hg.1) (gl_top _)) (fun k x _ => by ((repeat (refine mm_cons rfl ?_)); exact fun p hp => .inl (by first | exact hp | (simp at hp; done) | (simp [hp]; done) | (simp at hp ⊢; first | exact .inl hp | exact hp | (simp [hp]; done))))) (fun c z _ => by ((repeat (refine mm_cons rfl ?_)); exact fun p hp => .inl (by first | exact hp | (simp at hp; done) | (simp [hp]; done) | (simp at hp ⊢; first | exact .inl hp | exact hp | (simp [hp]; done))))) ?_ ?_ ?_ ?_
  ·
   rintro k av ⟨⟩ l D rc n1 W1 hnn hD hll hput hrc hav -
   have hnn1 : n0 ≤ n1 := (by obtain ⟨w, hg, hw⟩ := hnn; exact Nat.le_trans (hL.le _ _ _ hg.1) hw)
   change wpM _ _ _ _ _ _ _ ((l, Obj.loop rc) :: ([(D, Obj.deferred (some []))] ++ (dM ds1 ++ (oYB b2 l0 :: oGI b5 (i : Nat) :: uBx c1 (ot (webO s.C) i) :: (m10 ++ []))))) _ _ _
   obtain ⟨nx, hnx, rfl⟩ := allA_inv hav
   refine wpM.region ?_
   refine LM.as rfl <| nC [(2, _), (5, _), (7, _)] ?_
   refine QM.toBodyF (hput k ⟨⟩) hll ?_
   refine wpM.openJ2 (n := n0) (fun wj3 hmj3 hCj3 hjj3 hkj3 => ?_)
   refine wpM.block <| wR ?_
   refine LM.rd (oml rfl rfl rfl) ?_
   refine LM.rd (oml rfl rfl rfl) ?_
   refine LM.mv rfl ?_
   refine LM.val (ov_build (cs := #[_, _]) rfl (by first | rfl | kernel_rfl)) ?_
   refine LM.yieldJ (n := n0) (k := ((edN (webO s.C) i).length + k)) hL rfl rfl (fun m w hj => hy (((edN (webO s.C) i).length + k)) _ m w (edB_get hnx om) hj) hCj3 hjj3 hkj3 (kk_and (kk_top _) hnn1) ((l, Obj.loop (busyOf rc)) :: (D, Obj.deferred (some [])) :: (dM ds1 ++ ([]))) (oYB b2 l0 :: oGI b5 (i : Nat) :: uBx c1 (ot (webO s.C) i) :: (m10 ++ [])) ((l, Obj.loop (busyOf rc)) :: (D, Obj.deferred (some [])) :: (dM ds1 ++ (oYB b2 l0 :: oGI b5 (i : Nat) :: uBx c1 (ot (webO s.C) i) :: (m10 ++ [])))) (by simp only [List.append_assoc, List.cons_append, List.nil_append]) (SubM.mem au1) (by (repeat' (first | exact pn_nil | refine lo_cons om rfl ?_ | refine lo_dm (by intro D hD; first | (have := hds1 D hD; omega) | (have := hds2 D hD; omega)) ?_))) (by (try dsimp only); (repeat' (first | exact pn_nil | exact (fun p hp => ⟨.inl (hs10.ge p hp), hs10.wlk p hp⟩) | exact (fun p hp => ⟨.inr ⟨p, by simp [hp], rfl⟩, hs10.wlk p hp⟩) | refine pn_cons (by first | (left; omega) | (right; simp; done)) rfl ?_ | refine pn_app ?_ ?_))) (fun wj4 hmj4 hCj4 hjj4 hkj4 => ?_) (fun wj4 hmj4 hCj4 hjj4 hkj4 => ?_)
   ·
    change LM _ _ _ _ _ _ _ _ ((l, Obj.loop (busyOf rc)) :: (D, Obj.deferred (some [])) :: (dM ds1 ++ (oYB b2 l0 :: oGI b5 (i : Nat) :: uBx c1 (ot (webO s.C) i) :: (m10 ++ [])))) _ _ _
    refine LM.val (ov_not rfl) ?_
    refine nA [(28, _)] ?_
    refine wpM.condF rfl ?_
    refine wpM.skip <| QM.block_normal ?_
    refine QM.closeJ2 hL hCj4 hjj4 hkj4 (kk_and (kk_top _) hnn1) ((fun (k : Nat) => ((fun ⟨⟩ => oYB b2 l0 :: oGI b5 (i : Nat) :: uBx c1 (ot (webO s.C) i) :: (m10 ++ [])) : Unit → Mem0)) (k + 1) (⟨⟩)) (SubM.mem (by (try dsimp only); (repeat' (first | exact SubM.nil _ | refine SubM.cons rfl ?_ | refine SubM.app ?_)))) (by (try dsimp only); (repeat' (first | exact pn_nil | exact (fun p hp => ⟨.inl (hs10.ge p hp), hs10.wlk p hp⟩) | exact (fun p hp => ⟨.inr ⟨p, by simp [hp], rfl⟩, hs10.wlk p hp⟩) | refine pn_cons (by first | (left; omega) | (right; simp; done)) rfl ?_ | refine pn_app ?_ ?_))) ?_
    refine QM.next (⟨⟩) (SubM.mem au1) (fun _ h => h) ?_
    · trivial
   change LM _ _ _ _ _ _ _ _ ((l, Obj.loop (busyOf rc)) :: (D, Obj.deferred (some [])) :: (dM ds1 ++ ([]))) _ _ _
   refine LM.val (ov_not rfl) ?_
   refine nA [(28, _)] ?_
   refine wpM.condT rfl ?_
   refine wpM.ret <| QM.block_ret ?_
   refine QM.closeX2 hL hCj4 hjj4 hkj4 (kk_and (kk_top _) hnn1) ?_
   refine QM.rret (⟨⟩) (SubM.mem au1) (fun _ h => h) ?_
   · exact ⟨rfl, trivial⟩
  ·
   rintro ⟨⟩ D0 hD0 -
   refine QM.openJ (n := n0) (fun wj5 hmj5 hCj5 hjj5 hkj5 => ?_)
   refine QM.sub (e' := [(2, _), (13, _), (14, _), (15, _)]) au9 ?_
   refine QM.block_normal <| QM.block_normal ?_
   refine QM.then (wpM.region ?_)
   refine LM.val (ov_add64 rfl rfl om) ?_
   refine LM.mv rfl <| nC [(2, _), (13, _), (14, _), (15, _)] ?_
   refine QM.closeJ hL hCj5 hjj5 hkj5 (kk_top _) (((fun i => oYB b2 l0 :: (m10 ++ [])) : Nat → Mem0) (i + 1)) (SubM.mem (by (try dsimp only); (repeat' (first | exact SubM.nil _ | refine SubM.cons rfl ?_ | refine SubM.app ?_)))) (by (try dsimp only); (repeat' (first | exact pn_nil | exact (fun p hp => ⟨.inl (hs10.ge p hp), hs10.wlk p hp⟩) | exact (fun p hp => ⟨.inr ⟨p, by simp [hp], rfl⟩, hs10.wlk p hp⟩) | refine pn_cons (by first | (left; omega) | (right; simp; done)) rfl ?_ | refine pn_app ?_ ?_))) ?_
   refine QM.againD (i + 1) ⟨au2, rfl, rfl, rfl, trivial⟩ (by change SubM _ ((D0, Obj.deferred (some [])) :: (dM ds1 ++ ((fun i => oYB b2 l0 :: (m10 ++ [])) (i + 1)))); dsimp only; (repeat' (first | exact SubM.nil _ | refine SubM.cons rfl ?_ | refine SubM.app ?_))) (hd_cons hD0 hds1) (fun w h => by rw [← edN_next2]; rw [allA_len] at h; exact h) ?_ ?_
   · omega
   · omega
  ·
   rintro ⟨⟩ D0 hD0 hx
   obtain ⟨-, hx⟩ := hx
   refine QM.openX (n := n0) (fun wj6 hmj6 hCj6 hjj6 hkj6 => ?_)
   refine QM.block_ret <| QM.block_ret <| QM.then_ret <| QM.then_ret <| QM.block_ret ?_
   refine QM.closeX hL hCj6 hjj6 hkj6 (kk_top _) ?_
   refine QM.leaveDJ (ds := (D0 :: ds1)) (.inl rfl) [] Tryd.results57 rfl hn0 (hd_cons hD0 hds1) (gl_x hL (Nat.le_refl _) (gl_top _)) ?_
   intro w' hm' hg'
   exact .inr hg'.1
  rintro id ⟨⟩ D0 hD0 hx
  cases hx.1
 refine wpM.exit <| QM.then_exit <| QM.then_exit <| QM.block_hit ?_
 refine QM.closeJ hL hCj2 hjj2 hkj2 (kk_top _) ([]) (SubM.mem (by (try dsimp only); (repeat' (first | exact SubM.nil _ | refine SubM.cons rfl ?_ | refine SubM.app ?_)))) (by (try dsimp only); (repeat' (first | exact pn_nil | exact (fun p hp => ⟨.inl (hs10.ge p hp), hs10.wlk p hp⟩) | exact (fun p hp => ⟨.inr ⟨p, by simp [hp], rfl⟩, hs10.wlk p hp⟩) | refine pn_cons (by first | (left; omega) | (right; simp; done)) rfl ?_ | refine pn_app ?_ ?_))) ?_
 refine QM.leaveDJ (ds := (ds1)) (.inr rfl) [] Tryd.results57 rfl hn0 hds1 (gl_j hL (Nat.le_refl _) (gl_top _)) ?_
 intro w' hm' hg'
 have hil : i = (webO s.C).length := om; subst hil; exact .inl (by rw [edB_len]; exact hg'.1)
theorem rgraph_spec {s : StV} (w : World) (hI : s.In w) (h12 : s.ls.length ≤ 12) : Ret Tryd.prog 8 #[s.val] w (New fU 34 1 (webO s.C) w) := by
 have hln := hI.hln; have hpn := hI.hpn; have hp := hI.hp; have hcl : s.C.ps.length = s.ps.length := List.length_map ..; have hll : s.C.ls.length = s.ls.length := rfl
 refine Ret.enterM Tryd.func8 rfl Tryd.ntmps8 rfl ([]) (no) (Mem.nil w) ?_
 refine wR ?_
 refine LM.box rfl rfl (fun b1 hb1 => ?_)
 refine LM.as rfl <| nB [(1, _)] <| LM.val (ovf 23 rfl rfl rfl rfl) ?_
 refine LM.rd (oml rfl rfl rfl) ?_
 refine LM.val (ov_len Tryd.underlying23 rfl) ?_
 refine LM.makeS (f := fU) (a0 := 0#64) Tryd.underlying29 Tryd.typeInfo34 rfl rfl rfl rfl ir rfl rfl rfl om (by simp only [Tryd.t34]; omega) om (by unfold maxLen; omega) (fun ad9 n9 m9 hn9 hs9 => ?_)
 refine LM.as rfl <| nA [(1, _), (3, _)] <| wpM.seq <| wR ?_
 refine LM.rd (om_ldW Tryd.isAgg26 Tryd.sizeOf26 rfl rfl) ?_
 refine cE Tryd.func7 rfl (fun w hm hc hg => rmayS_spec (s := s) w (hI.ext hc)) ?_
 refine LM.val (ov_not rfl) ?_
 refine nA [(1, _), (3, _), (12, _)] ?_
 refine wpM.condB rfl (fun h1 => ?_) (fun h1 => ?_)
 ·
  refine wR <| LM.as rfl <| nA [(2, _)] <| wpM.ret <| QM.then_ret ?_
  refine qL Tryd.results8 rfl fun w' hm' hc' hg' => ?_
  have hmay : mayS s.C = false := (by simpa using h1); rw [webO_no hmay]; exact ⟨hc', [], .nil _ _ _ _, Mem.nil _⟩
 have hmay : mayS s.C = true := (by simpa using h1); obtain ⟨h8, h8p, -⟩ := mayS_ps' hmay
 refine wpM.skip <| QM.then <| wpM.seq <| wR <| LM.as rfl <| nA [(1, _), (3, _), (4, _)] <| wpM.block ?_
 refine wpM.loopK0 (α := Nat × Mem0) (fun ⟨i, m⟩ => [(4, .int .i64 (i : Nat))]) [(1, _), (3, _)] (fun ⟨i, m⟩ => m ++ (stB b1 s :: [])) (fun ⟨i, m⟩ => i ≤ n9 ∧ Sl fU 34 1 w.heap.size (webP s.C i 0) (.slice ad9 n9 n9) m) (fun ⟨i, m⟩ => n9 - i) ((0, m9)) ⟨au2, rfl, rfl, trivial⟩ au1 ⟨Nat.zero_le _, by have h := hs9; rw [webP_zero]; rw [show n9 = s.C.ls.length by omega] at h ⊢; exact h⟩ ?_
 rintro ⟨i, m⟩ ⟨hi, hs⟩
 change wpM _ _ _ _ _ _ _ (m ++ (stB b1 s :: [])) _ _ _
 have hwl := webP_len s.C i 0
 refine wpM.seq <| wR <| LM.mv rfl <| LM.mv rfl <| LM.val (ov_len Tryd.underlying29 rfl) <| LM.val (ov_lss rfl rfl) <| nA [(1, _), (3, _), (4, _), (16, _)] ?_
 refine wpM.condD rfl (fun h2 => ?_) (fun h2 => ?_)
 ·
  refine wpM.skip <| QM.then <| wpM.seq <| wpM.block <| wR <| LM.as rfl <| nA [(1, _), (3, _), (4, _), (5, _)] <| wpM.block ?_
  refine wpM.loopK0 (α := Nat × Mem0) (fun ⟨k, mi⟩ => [(5, .int .i64 (k : Nat))]) [(1, _), (3, _), (4, _)] (fun ⟨k, mi⟩ => mi ++ (stB b1 s :: [])) (fun ⟨k, mi⟩ => k ≤ s.pn ∧ Sl fU 34 1 w.heap.size (webP s.C i k) (.slice ad9 n9 n9) mi) (fun ⟨k, mi⟩ => s.pn - k) ((0, m)) ⟨au2, rfl, rfl, rfl, trivial⟩ au1 ⟨Nat.zero_le _, hs⟩ ?_
  rintro ⟨k, mi⟩ ⟨hk, hsi⟩
  change wpM _ _ _ _ _ _ _ (mi ++ (stB b1 s :: [])) _ _ _
  have hwl2 := webP_len s.C i k
  refine wpM.seq <| wR <| LM.mv rfl <| LM.val (ovf 24 rfl rfl rfl rfl) ?_
  refine LM.rd (oml rfl rfl rfl) ?_
  refine LM.val (ov_len Tryd.underlying24 rfl) <| LM.val (ov_lss rfl rfl) <| nA [(1, _), (3, _), (4, _), (5, _), (23, _)] ?_
  refine wpM.condD rfl (fun h3 => ?_) (fun h3 => ?_)
  ·
   have hpm : s.ps.getD k default ∈ s.ps := List.mem_of_getElem? (getq default om); have hpi := hI.ops _ hpm; have hpl : (s.ps.getD k default).c.xs.length ≤ 20 := mayS_len hmay (List.mem_map_of_mem hpm)
   refine wpM.skip <| QM.then <| wpM.seq <| wpM.block ?_
   refine wpM.draw [(0, 0), (1, 0), (2, 0), (3, 0), (4, 0), (5, 1), (6, 0), (7, 1), (8, 0), (9, 0), (10, 1), (11, 0), (12, 2), (13, 0), (14, 0), (15, 3)] kr kr ?_
   refine LD.val rfl rfl (ov_move rfl) <| LD.val rfl rfl (ov_move rfl) <| LD.val rfl rfl (ov_move rfl) <| LD.val rfl rfl (ov_move rfl) ?_
   refine LD.val rfl rfl (ov_idxSN au6 Tryd.underlying29 Tryd.sizeOf34 rfl rfl om) ?_
   refine LD.rd rfl rfl (om_sl1 asm ir Tryd.isAgg34 rfl rfl (by exact getq 0#64 au4) (by rfl)) ?_
   refine LD.val rfl rfl (ovf 24 rfl rfl rfl rfl) ?_
   refine LD.rd rfl rfl (oml rfl rfl rfl) ?_
   refine LD.val rfl rfl (ov_move rfl) ?_
   refine LD.val rfl rfl (ov_idxSN au6 Tryd.underlying24 Tryd.sizeOf37 rfl rfl om) ?_
   refine LD.rdC rfl rfl (om_srEA asm ir Tryd.isAgg37 Tryd.sizeOf37 rfl au3 id) ?_
   refine LD.val rfl rfl (ov_move rfl) ?_
   refine dE rfl rfl Tryd.func12 rfl (fun w hm hc hg => rwithin_spec41 _ w hpi.1 (hpi.2.ext hc) hpl) ?_
   refine LD.val rfl rfl (ov_uor rfl rfl) ?_
   refine LD.val rfl rfl (ov_idxSN au6 Tryd.underlying29 Tryd.sizeOf34 rfl rfl om) ?_
   refine LD.tail rfl rfl ?_
   refine LM.stS _ (j := 0) asm ir Tryd.sizeOf34 rfl rfl rfl (by exact getq 0#64 au4) rfl (by decide) (by rfl) rfl au10 (fun ms hss hmm => ?_)
   refine LM.nil ?_
   refine QM.qn ?_
   refine QM.sub (e' := [(1, _), (3, _), (4, _), (5, _)]) au9 ?_
   refine QM.block_normal ?_
   refine QM.then (wpM.region ?_)
   refine LM.mv rfl ?_
   refine LM.val (ov_add64 rfl rfl om) ?_
   refine LM.as rfl <| nC [(1, _), (3, _), (4, _), (5, _)] ?_
   refine QM.againK ((k + 1, ms)) ⟨au2, rfl, rfl, rfl, trivial⟩ au1 (fun _ h => h) ?_ ?_
   · have e := webP_set (s := s.C) (i := i) (k := k) om om; rw [show s.C.ps.getD k default = (s.ps.getD k default).c from map_getD] at e; exact ⟨by omega, by rw [← e]; exact hss⟩
   · (dsimp only; omega)
  refine wpM.exit <| QM.then_exit <| QM.then_exit <| QM.block_hit <| QM.block_normal ?_
  refine QM.then (wpM.region ?_)
  refine LM.mv rfl ?_
  refine LM.val (ov_add64 rfl rfl om) ?_
  refine LM.as rfl <| nC [(1, _), (3, _), (4, _)] ?_
  refine QM.againK ((i + 1, mi)) ⟨au2, rfl, rfl, trivial⟩ au1 (fun _ h => h) ?_ ?_
  · exact ⟨by omega, by rw [← webP_next, show s.C.ps.length = k by omega]; exact hsi⟩
  · (dsimp only; omega)
 refine wpM.exit <| QM.then_exit <| QM.then_exit <| QM.block_hit <| tR <| LM.mv rfl <| LM.as rfl <| nA [(2, _)] <| wpM.ret ?_
 refine qL Tryd.results8 rfl fun w' hm' hc' hg' => ?_
 have hin : i = s.C.ls.length := om; rw [hin, webP_end, ← webO_yes hmay] at hs; exact ⟨hc', m, hs, hm'.pick m⟩
theorem rreach_spec {G : Gr} {ad : Option Addr} {n cap : Nat} (i : Nat) (w : World) (hn : n = G.length) (hl : Sr fU 1 G (.slice ad n cap) w) (hlow : Low G) (hi : i < G.length) (hx : G.length ≤ 12) : Ret Tryd.prog 38 #[.slice ad n cap, .int .i64 (i : Nat)] w (fun v w' => v = U (ovr G (ot G i)) ∧ Ext w w') := by
 refine Ret.enterM Tryd.func38 rfl Tryd.ntmps38 rfl ([]) (no) (Mem.nil w) ?_
 refine wR <| LM.as rfl <| nB [(0, _), (1, _)] <| LM.mv rfl <| LM.mv rfl ?_
 refine LM.val (ov_idxSN au6 Tryd.underlying29 Tryd.sizeOf34 rfl rfl om) ?_
 refine LM.rdC (om_sr1 asm Tryd.isAgg34 rfl rfl (by exact getq 0#64 au4) (by rfl) id) ?_
 refine LM.as rfl <| nA [(0, _), (5, _)] <| wpM.seq <| wR <| LM.as rfl <| nA [(0, _), (5, _), (6, _)] <| wpM.block ?_
 refine wpM.loopK0 (α := Nat × BitVec 64) (fun ⟨k, s⟩ => [(5, U s), (6, .int .i64 (k : Nat))]) [(0, _)] (fun ⟨k, s⟩ => []) (fun ⟨k, s⟩ => k ≤ n ∧ s = rnds G (ot G i) k) (fun ⟨k, s⟩ => n - k) ((0, ot G i)) ⟨au2, au2, rfl, trivial⟩ au1 ⟨Nat.zero_le _, rfl⟩ ?_
 rintro ⟨k, s⟩ ⟨hk, hs⟩
 change wpM _ _ _ _ _ _ _ ([]) _ _ _
 refine wpM.seq <| wR <| LM.mv rfl <| LM.mv rfl <| LM.val (ov_len Tryd.underlying29 rfl) <| LM.val (ov_lss rfl rfl) <| nA [(0, _), (5, _), (6, _), (15, _)] ?_
 refine wpM.condD rfl (fun h1 => ?_) (fun h1 => ?_)
 ·
  refine wpM.skip <| QM.then <| wpM.seq <| wpM.block <| wR <| LM.as rfl <| nA [(0, _), (5, _), (6, _), (7, _)] <| wpM.block ?_
  refine wpM.loopK0 (α := Nat × BitVec 64) (fun ⟨j, s2⟩ => [(5, U s2), (7, .int .i64 (j : Nat))]) [(0, _), (6, _)] (fun ⟨j, s2⟩ => []) (fun ⟨j, s2⟩ => j ≤ n ∧ s2 = rndS G s j) (fun ⟨j, s2⟩ => n - j) ((0, s)) ⟨au2, au2, rfl, rfl, trivial⟩ au1 ⟨Nat.zero_le _, rfl⟩ ?_
  rintro ⟨j, s2⟩ ⟨hj, hs2⟩
  change wpM _ _ _ _ _ _ _ ([]) _ _ _
  refine wpM.seq <| wR <| LM.mv rfl <| LM.mv rfl <| LM.val (ov_len Tryd.underlying29 rfl) <| LM.val (ov_lss rfl rfl) <| nA [(0, _), (5, _), (6, _), (7, _), (21, _)] ?_
  refine wpM.condD rfl (fun h2 => ?_) (fun h2 => ?_)
  ·
   refine wpM.skip <| QM.then <| wpM.seq <| wpM.block <| wR <| LM.mv rfl <| LM.mv rfl ?_
   refine cE Tryd.func37 rfl (fun w hm hc hg => rhas_spec _ _ w) ?_
   refine nA [(0, _), (5, _), (6, _), (7, _), (26, _)] ?_
   refine wpM.condB rfl (fun h3 => ?_) (fun h3 => ?_)
   ·
    refine wpM.region ?_
    refine LM.mv rfl <| LM.mv rfl <| LM.mv rfl ?_
    refine LM.val (ov_idxSN au6 Tryd.underlying29 Tryd.sizeOf34 rfl rfl om) ?_
    refine LM.rdC (om_sr1 asm Tryd.isAgg34 rfl rfl (by exact getq 0#64 au4) (by rfl) id) ?_
    refine LM.val (ov_uor rfl rfl) ?_
    refine LM.as rfl <| nC [(0, _), (5, _), (6, _), (7, _)] <| QM.block_normal ?_
    refine QM.then (wpM.region ?_)
    refine LM.mv rfl ?_
    refine LM.val (ov_add64 rfl rfl om) ?_
    refine LM.as rfl <| nC [(0, _), (5, _), (6, _), (7, _)] ?_
    refine QM.againK ((j + 1, s2 ||| G.getD j 0#64)) ⟨au2, au2, rfl, rfl, trivial⟩ au1 (fun _ h => h) ?_ ?_
    · exact ⟨by omega, by rw [rndS_succ, ← hs2, if_pos h3]; rfl⟩
    · (dsimp only; omega)
   refine wpM.skip <| QM.block_normal ?_
   refine QM.then (wpM.region ?_)
   refine LM.mv rfl ?_
   refine LM.val (ov_add64 rfl rfl om) ?_
   refine LM.as rfl <| nC [(0, _), (5, _), (6, _), (7, _)] ?_
   refine QM.againK ((j + 1, s2)) ⟨au2, au2, rfl, rfl, trivial⟩ au1 (fun _ h => h) ?_ ?_
   · exact ⟨by omega, by rw [rndS_succ, ← hs2, if_neg (by rw [h3]; simp)]⟩
   · (dsimp only; omega)
  refine wpM.exit <| QM.then_exit <| QM.then_exit <| QM.block_hit <| QM.block_normal ?_
  refine QM.then (wpM.region ?_)
  refine LM.mv rfl ?_
  refine LM.val (ov_add64 rfl rfl om) ?_
  refine LM.as rfl <| nC [(0, _), (5, _), (6, _)] ?_
  refine QM.againK ((k + 1, s2)) ⟨au2, au2, rfl, trivial⟩ au1 (fun _ h => h) ?_ ?_
  · exact ⟨by omega, by rw [hs2, hs, show j = G.length by omega]; rfl⟩
  · (dsimp only; omega)
 refine wpM.exit <| QM.then_exit <| QM.then_exit <| QM.block_hit <| tR <| LM.mv rfl <| LM.as rfl <| nA [(4, _)] <| wpM.ret ?_
 refine qL Tryd.results38 rfl fun w' hm' hc' hg' => ?_
 refine ⟨?_, hc'⟩; rw [hs, show k = G.length by omega, rnds_end hlow]; rfl
theorem rordd_spec {G : Gr} {ad : Option Addr} {n cap : Nat} (w : World) (hn : n = G.length) (hl : Sr fU 1 G (.slice ad n cap) w) (hlow : Low G) (hx : G.length ≤ 12) : Ret Tryd.prog 15 #[.slice ad n cap] w (fun v w' => v = .bool (ordB G) ∧ Ext w w') := by
 refine Ret.enterM Tryd.func15 rfl Tryd.ntmps15 rfl ([]) (no) (Mem.nil w) ?_
 refine wR <| LM.as rfl <| nA [(0, _)] <| wpM.seq <| wR <| LM.as rfl <| nA [(0, _), (3, _)] <| wpM.block ?_
 refine wpM.loopK0 (α := Nat) (fun i => [(3, .int .i64 (i : Nat))]) [(0, _)] (fun i => []) (fun i => i ≤ n ∧ ∀ j, j < i → sHas (ovr G (ot G j)) (j : Nat) = false) (fun i => n - i) (0) ⟨au2, rfl, trivial⟩ au1 ⟨Nat.zero_le _, fun j hj => absurd hj (Nat.not_lt_zero _)⟩ ?_
 rintro i ⟨hi, hb⟩
 change wpM _ _ _ _ _ _ _ ([]) _ _ _
 refine wpM.seq <| wR <| LM.mv rfl <| LM.mv rfl <| LM.val (ov_len Tryd.underlying29 rfl) <| LM.val (ov_lss rfl rfl) <| nA [(0, _), (3, _), (7, _)] ?_
 refine wpM.condD rfl (fun h1 => ?_) (fun h1 => ?_)
 ·
  refine wpM.skip <| QM.then <| wpM.seq <| wpM.block <| wR <| LM.mv rfl <| LM.mv rfl ?_
  refine cE Tryd.func38 rfl (fun w hm hc hg => rreach_spec i w hn (hl.ext hc) hlow om hx) ?_
  refine LM.mv rfl ?_
  refine cE Tryd.func37 rfl (fun w hm hc hg => rhas_spec _ _ w) ?_
  refine nA [(0, _), (3, _), (14, _)] ?_
  refine wpM.condB rfl (fun h2 => ?_) (fun h2 => ?_)
  ·
   refine wR <| LM.as rfl <| nA [(2, _)] <| wpM.ret <| QM.block_ret <| QM.then_ret <| QM.then_ret <| QM.block_ret <| QM.then_ret ?_
   refine qL Tryd.results15 rfl fun w' hm' hc' hg' => ?_
   refine ⟨?_, hc'⟩; rw [ordB_no (fun hA => hA i ((ovr_iff _ _ _).1 h2))]; rfl
  refine wpM.skip <| QM.block_normal ?_
  refine QM.then (wpM.region ?_)
  refine LM.mv rfl ?_
  refine LM.val (ov_add64 rfl rfl om) ?_
  refine LM.as rfl <| nC [(0, _), (3, _)] ?_
  refine QM.againK (i + 1) ⟨au2, rfl, trivial⟩ au1 (fun _ h => h) ?_ ?_
  · exact ⟨by omega, fun j hj => by rcases Nat.lt_or_ge j i with q | q; exact hb j q; rw [show j = i by omega]; exact h2⟩
  · omega
 refine wpM.exit <| QM.then_exit <| QM.then_exit <| QM.block_hit <| tR <| LM.as rfl <| nA [(2, _)] <| wpM.ret ?_
 refine qL Tryd.results15 rfl fun w' hm' hc' hg' => ?_
 have hin : i = G.length := om; subst hin; refine ⟨?_, hc'⟩; rw [(ordB_iff G).2 (fun j hr => by have h1 := hb j (rch_in hr); rw [(ovr_iff _ _ _).2 hr] at h1; cases h1)]; rfl
def hasL (G : Gr) (i k : Nat) : List Nat := (List.range k).filter (fun j => sHas (ot G i) (j : Nat))
theorem hasL_succ (G : Gr) (i k : Nat) : mxF (dep G) (hasL G i (k + 1)) = if sHas (ot G i) (k : Nat) = true then max (mxF (dep G) (hasL G i k)) (dep G k) else mxF (dep G) (hasL G i k) := by
  unfold hasL
  rw [List.range_succ, List.filter_append]
  by_cases h : sHas (ot G i) (k : Nat) = true
  · rw [if_pos h, ← mxF_snoc]; simp only [List.filter_cons, List.filter_nil, h, if_true]
  · rw [if_neg h]; simp only [List.filter_cons, List.filter_nil, h]; simp
theorem hasL_end {G : Gr} (hlow : Low G) (i : Nat) : mxF (dep G) (hasL G i G.length) = mxF (dep G) (allL (ot G i)) := mxF_same (fun k => by
  unfold hasL
  rw [List.mem_filter, List.mem_range, allL_has]
  exact ⟨fun h => h.2, fun h => ⟨hlow i k h, h⟩⟩)
theorem range_max (G : Gr) (k : Nat) : mxF (dep G) (List.range (k + 1)) = max (mxF (dep G) (List.range k)) (dep G k) := by rw [List.range_succ, mxF_snoc]
set_option maxHeartbeats 1000000 in
theorem rorder_spec {G : Gr} {ad : Option Addr} {n cap : Nat} (w : World) (hn : n = G.length) (hl : Sr fU 1 G (.slice ad n cap) w) (hlow : Low G) (hx : G.length ≤ 12) (hA : Acy G) : Ret Tryd.prog 18 #[.slice ad n cap] w (New fI 3 1 (ordO G) w) := by
 refine Ret.enterM Tryd.func18 rfl Tryd.ntmps18 rfl ([]) (no) (Mem.nil w) ?_
 refine wR <| LM.as rfl <| nB [(0, _)] <| LM.as rfl <| nB [(0, _), (3, _)] <| LM.as rfl <| nA [(0, _), (3, _), (4, _)] <| wpM.seq <| wpM.block ?_
 refine wpM.loopK0 (α := BitVec 64 × BitVec 64 × List Int × Option Addr × Nat × Nat × Mem0) (fun ⟨done, left, os, ado, no, capo, mo⟩ => [(3, .slice ado no capo), (4, U done)]) [(0, _)] (fun ⟨done, left, os, ado, no, capo, mo⟩ => mo ++ []) (fun ⟨done, left, os, ado, no, capo, mo⟩ => no = os.length ∧ ordO G = os ++ ordL G left ∧ DonR n done left ∧ ClL G left ∧ Sl fI 3 1 w.heap.size os (.slice ado no capo) mo) (fun ⟨done, left, os, ado, no, capo, mo⟩ => card left) ((0#64, allN G.length, [], none, 0, 0, [])) ⟨au2, au2, rfl, trivial⟩ au1 ⟨rfl, rfl, by rw [hn]; exact DonR.init hx, ClL.all hlow hx, .nil _ _ _ _⟩ ?_
 rintro ⟨done, left, os, ado, no, capo, mo⟩ ⟨hno, hord, hdr, hcl, hso⟩
 change wpM _ _ _ _ _ _ _ (mo ++ []) _ _ _
 have hol := congrArg List.length hord; rw [ordO_len hA hx, List.length_append, ordL_len hA 64 _ (card_le _)] at hol
 refine wpM.seq <| wR <| LM.mv rfl <| LM.val (ov_len Tryd.underlying22 rfl) <| LM.mv rfl <| LM.val (ov_len Tryd.underlying29 rfl) <| LM.val (ov_lss rfl rfl) <| nA [(0, _), (3, _), (4, _), (12, _)] ?_
 refine wpM.condD rfl (fun h1 => ?_) (fun h1 => ?_)
 ·
  have hne : left ≠ 0#64 := (fun e => by rw [e] at hol; have : card 0#64 = 0 := (by decide); omega)
  refine wpM.skip <| QM.then <| wpM.block <| wR <| LM.as rfl <| nA [(0, _), (3, _), (4, _), (5, _)] <| wpM.block ?_
  refine wpM.loopK0 (α := Nat) (fun i => [(3, .slice ado no capo), (4, U done), (5, .int .i64 (i : Nat))]) [(0, _)] (fun i => mo ++ []) (fun i => i ≤ n ∧ ∀ j, j < i → ¬ Free G left j) (fun i => n - i) (0) ⟨au2, au2, au2, rfl, trivial⟩ au1 ⟨Nat.zero_le _, fun j hj => absurd hj (Nat.not_lt_zero _)⟩ ?_
  rintro i ⟨hi, hnf⟩
  change wpM _ _ _ _ _ _ _ (mo ++ []) _ _ _
  refine wpM.seq <| wR <| LM.mv rfl <| LM.mv rfl <| LM.val (ov_len Tryd.underlying29 rfl) <| LM.val (ov_lss rfl rfl) <| nA [(0, _), (3, _), (4, _), (5, _), (16, _)] ?_
  refine wpM.condD rfl (fun h2 => ?_) (fun h2 => ?_)
  ·
   refine wpM.skip <| QM.then <| wpM.seq <| wpM.block <| wR <| LM.mv rfl <| LM.mv rfl ?_
   refine cE Tryd.func37 rfl (fun w hm hc hg => rhas_spec _ _ w) ?_
   refine LM.val (ov_not rfl) ?_
   refine LM.as rfl <| nA [(0, _), (3, _), (4, _), (5, _), (6, _)] <| wpM.seq <| wR <| LM.as rfl <| nA [(0, _), (3, _), (4, _), (5, _), (6, _), (7, _)] <| wpM.block ?_
   refine wpM.loopK0 (α := Nat × Bool) (fun ⟨k, fr⟩ => [(6, .bool fr), (7, .int .i64 (k : Nat))]) [(0, _), (3, _), (4, _), (5, _)] (fun ⟨k, fr⟩ => mo ++ []) (fun ⟨k, fr⟩ => k ≤ n ∧ (fr = true ↔ (sHas done (i : Nat) = false ∧ ∀ j, j < k → ¬ (sHas done (j : Nat) = false ∧ sHas (ot G j) i = true)))) (fun ⟨k, fr⟩ => n - k) ((0, !sHas done (i : Nat))) ⟨au2, au2, rfl, rfl, rfl, rfl, trivial⟩ au1 ⟨Nat.zero_le _, by rw [Bool.not_eq_true']; exact ⟨fun h => ⟨h, fun j hj => absurd hj (Nat.not_lt_zero _)⟩, fun h => h.1⟩⟩ ?_
   rintro ⟨k, fr⟩ ⟨hk, hfr⟩
   change wpM _ _ _ _ _ _ _ (mo ++ []) _ _ _
   refine wpM.seq <| wR <| LM.mv rfl <| LM.mv rfl <| LM.val (ov_len Tryd.underlying29 rfl) <| LM.val (ov_lss rfl rfl) <| nA [(0, _), (3, _), (4, _), (5, _), (6, _), (7, _), (26, _)] ?_
   refine wpM.condD rfl (fun h3 => ?_) (fun h3 => ?_)
   ·
    refine wpM.skip <| QM.then <| wpM.seq <| wpM.block <| wR <| LM.mv rfl <| LM.mv rfl ?_
    refine cE Tryd.func37 rfl (fun w hm hc hg => rhas_spec _ _ w) ?_
    refine LM.val (ov_not rfl) ?_
    refine LM.mv rfl ?_
    refine LM.splitB (t := 33) rfl (fun h4 => ?_) (fun h4 => ?_)
    ·
     refine LM.sp 33 rfl rfl rfl <| LM.mv rfl <| LM.sp 33 rfl rfl rfl <| LM.mv rfl <| LM.sp 33 rfl rfl rfl ?_
     refine LM.val (ov_idxSN au6 Tryd.underlying29 Tryd.sizeOf34 rfl rfl om) ?_
     refine LM.sp 33 rfl rfl rfl ?_
     refine LM.rdC (om_sr1 asm Tryd.isAgg34 rfl rfl (by exact getq 0#64 au4) (by rfl) id) ?_
     refine LM.sp 33 rfl rfl rfl <| LM.mv rfl <| LM.sp 33 rfl rfl rfl ?_
     refine cE Tryd.func37 rfl (fun w hm hc hg => rhas_spec _ _ w) ?_
     refine LM.val (ov_pickT rfl rfl) <| nA [(0, _), (3, _), (4, _), (5, _), (6, _), (7, _), (40, _)] ?_
     refine wpM.condB rfl (fun h5 => ?_) (fun h5 => ?_)
     ·
      refine wpM.region ?_
      refine LM.as rfl <| nC [(0, _), (3, _), (4, _), (5, _), (6, _), (7, _)] <| QM.block_normal ?_
      refine QM.then (wpM.region ?_)
      refine LM.mv rfl ?_
      refine LM.val (ov_add64 rfl rfl om) ?_
      refine LM.as rfl <| nC [(0, _), (3, _), (4, _), (5, _), (6, _), (7, _)] ?_
      refine QM.againK ((k + 1, false)) ⟨au2, au2, rfl, rfl, rfl, rfl, trivial⟩ au1 (fun _ h => h) ?_ ?_
      · exact ⟨by omega, by simp only [Bool.false_eq_true, false_iff]; intro q; exact q.2 k om ⟨by simpa using h4, h5⟩⟩
      · (dsimp only; omega)
     refine wpM.skip <| QM.block_normal ?_
     refine QM.then (wpM.region ?_)
     refine LM.mv rfl ?_
     refine LM.val (ov_add64 rfl rfl om) ?_
     refine LM.as rfl <| nC [(0, _), (3, _), (4, _), (5, _), (6, _), (7, _)] ?_
     refine QM.againK ((k + 1, fr)) ⟨au2, au2, rfl, rfl, rfl, rfl, trivial⟩ au1 (fun _ h => h) ?_ ?_
     · exact ⟨by omega, by rw [hfr]; exact ⟨fun q => ⟨q.1, fun j hj z => by rcases Nat.lt_or_ge j k with u | u; exact q.2 j u z; rw [show j = k by omega] at z; rw [show ot G k = G.getD k 0#64 from rfl, h5] at z; cases z.2⟩, fun q => ⟨q.1, fun j hj => q.2 j om⟩⟩⟩
     · (dsimp only; omega)
    refine LM.dr 33 rfl rfl rfl <| LM.dr 33 rfl rfl rfl <| LM.dr 33 rfl rfl rfl <| LM.dr 33 rfl rfl rfl <| LM.dr 33 rfl rfl rfl <| LM.dr 33 rfl rfl rfl <| LM.val (ov_pickF rfl rfl) <| nA [(0, _), (3, _), (4, _), (5, _), (6, _), (7, _), (40, _)] ?_
    refine wpM.condF rfl ?_
    refine wpM.skip <| QM.block_normal ?_
    refine QM.then (wpM.region ?_)
    refine LM.mv rfl ?_
    refine LM.val (ov_add64 rfl rfl om) ?_
    refine LM.as rfl <| nC [(0, _), (3, _), (4, _), (5, _), (6, _), (7, _)] ?_
    refine QM.againK ((k + 1, fr)) ⟨au2, au2, rfl, rfl, rfl, rfl, trivial⟩ au1 (fun _ h => h) ?_ ?_
    · exact ⟨by omega, by rw [hfr]; exact ⟨fun q => ⟨q.1, fun j hj z => by rcases Nat.lt_or_ge j k with u | u; exact q.2 j u z; rw [show j = k by omega] at z; rw [z.1] at h4; simp at h4⟩, fun q => ⟨q.1, fun j hj => q.2 j om⟩⟩⟩
    · (dsimp only; omega)
   refine wpM.exit <| QM.then_exit <| QM.then_exit <| QM.block_hit <| tR <| LM.mv rfl <| nA [(0, _), (3, _), (4, _), (5, _), (41, _)] ?_
   refine wpM.condB rfl (fun h6 => ?_) (fun h6 => ?_)
   ·
    have hfr2 := hfr.1 h6; have hf : Free G left i := (free_iff hdr hn om).2 ⟨hfr2.1, fun j hj => hfr2.2 j om⟩; have hfi := freI_first hf hnf
    refine wR <| LM.mv rfl <| LM.mv rfl ?_
    refine LM.single Tryd.underlying22 Tryd.sizeOf3 Tryd.zeroValue3 rfl rfl rfl rfl rfl (fun b44 hb44 => ?_)
    refine LM.app Tryd.underlying22 Tryd.typeInfo3 rfl rfl rfl rfl rfl rfl rfl asm (by rfl) ir (by intro _ u hu; simp [fI] at hu; (repeat (first | (rcases hu with rfl | hu) | subst hu | rfl))) (by first | exact Nat.le_refl _ | omega) au10 (by first | omega | (unfold maxLen; omega)) (by simp only [Tryd.t3]; omega) (fun ad45 n45 cap45 m45 hn45 hs45 hin45 => ?_)
    refine LM.as rfl <| nB [(0, _), (3, _), (4, _), (5, _)] <| LM.mv rfl <| LM.mv rfl ?_
    refine cE Tryd.func33 rfl (fun w hm hc hg => rwith_spec _ _ w) ?_
    refine LM.as rfl <| nA [(0, _), (3, _), (4, _)] <| wpM.exit <| QM.block_miss rfl <| QM.then_exit <| QM.then_exit <| QM.block_hit <| QM.block_normal ?_
    have hcw := card_witho hf.1
    refine QM.againK ((withS done (i : Nat), witho left (i : Nat), os ++ [(i : Int)], ad45, n45, cap45, m45)) ⟨au2, au2, rfl, trivial⟩ au1 (fun _ h => h) ?_ ?_
    · exact ⟨by rw [List.length_append, List.length_singleton]; omega, by rw [hord, ordL_cons hA hne, hfi, List.append_assoc]; rfl, hdr.step om om, hcl.step hf, hs45⟩
    · (dsimp only; omega)
   refine wpM.skip <| QM.block_normal ?_
   refine QM.then (wpM.region ?_)
   refine LM.mv rfl ?_
   refine LM.val (ov_add64 rfl rfl om) ?_
   refine LM.as rfl <| nC [(0, _), (3, _), (4, _), (5, _)] ?_
   refine QM.againK (i + 1) ⟨au2, au2, au2, rfl, trivial⟩ au1 (fun _ h => h) ?_ ?_
   · exact ⟨by omega, fun j hj => by rcases Nat.lt_or_ge j i with q | q; exact hnf j q; rw [show j = i by omega]; intro hf; have := (free_iff hdr hn om).1 hf; have e := hfr.2 ⟨this.1, fun j hj => this.2 j om⟩; rw [e] at h6; cases h6⟩
   · omega
  exfalso; obtain ⟨q, hq, -, hqf, -⟩ := freI_at (freS_ne hA hne); have := hdr.1 q hqf.1; exact hnf q om hqf
 refine wpM.exit <| QM.then_exit <| QM.then_exit <| QM.block_hit <| tR <| LM.mv rfl <| LM.as rfl <| nA [(2, _)] <| wpM.ret ?_
 refine qL Tryd.results18 rfl fun w' hm' hc' hg' => ?_
 have hc0 : card left = 0 := om; rw [card_zero hc0, ordL_zero, List.append_nil] at hord; rw [hord]; exact ⟨hc', mo, hso, hm'.pick mo⟩
set_option maxHeartbeats 1000000 in
theorem rcycle_spec {G : Gr} {ad : Option Addr} {n cap : Nat} (w : World) (hn : n = G.length) (hl : Sr fU 1 G (.slice ad n cap) w) (hlow : Low G) (hx : G.length ≤ 12) (hA : ¬ Acy G) : Ret Tryd.prog 17 #[.slice ad n cap] w (New fI 3 1 (cycO G) w) := by
 obtain ⟨hr1, hr2, hr3⟩ := rngI_spec hA; have hrr := (ovr_iff _ _ _).1 hr2; have h65 : (cycO G).length ≤ 65 := cycF_len _ _ _ _ _
 refine Ret.enterM Tryd.func17 rfl Tryd.ntmps17 rfl ([]) (no) (Mem.nil w) ?_
 refine wR <| LM.as rfl <| nB [(0, _)] <| LM.as rfl <| nA [(0, _), (3, _)] <| wpM.seq <| wpM.block ?_
 refine wpM.loopK0 (α := Nat) (fun i => [(3, .int .i64 (i : Nat))]) [(0, _)] (fun i => []) (fun i => i ≤ rngI G ∧ ∀ j, j < i → sHas (ovr G (ot G j)) (j : Nat) = false) (fun i => rngI G - i) (0) ⟨au2, rfl, trivial⟩ au1 ⟨Nat.zero_le _, fun j hj => absurd hj (Nat.not_lt_zero _)⟩ ?_
 rintro i ⟨hi, hb⟩
 change wpM _ _ _ _ _ _ _ ([]) _ _ _
 refine wpM.seq <| wR <| LM.mv rfl <| LM.mv rfl ?_
 refine cE Tryd.func38 rfl (fun w hm hc hg => rreach_spec i w hn (hl.ext hc) hlow om hx) ?_
 refine LM.mv rfl ?_
 refine cE Tryd.func37 rfl (fun w hm hc hg => rhas_spec _ _ w) ?_
 refine LM.val (ov_not rfl) ?_
 refine nA [(0, _), (3, _), (13, _)] ?_
 refine wpM.condB rfl (fun h1 => ?_) (fun h1 => ?_)
 ·
  refine wpM.skip <| QM.then <| wpM.block ?_
  refine wpM.region ?_
  refine LM.mv rfl ?_
  refine LM.val (ov_add64 rfl rfl om) ?_
  refine LM.as rfl <| nC [(0, _), (3, _)] <| QM.block_normal ?_
  refine QM.againK (i + 1) ⟨au2, rfl, trivial⟩ au1 (fun _ h => h) ?_ ?_
  · have hne : i ≠ rngI G := (fun q => by rw [q, hr2] at h1; cases h1); exact ⟨by omega, fun j hj => by rcases Nat.lt_or_ge j i with q | q; exact hb j q; rw [show j = i by omega]; simpa using h1⟩
  · have hne : i ≠ rngI G := (fun q => by rw [q, hr2] at h1; cases h1); omega
 have hir : i = rngI G := rngI_uniq hA (by simpa using h1) hb; subst hir
 refine wpM.exit <| QM.then_exit <| QM.then_exit <| QM.block_hit <| tR <| LM.as rfl <| nB [(0, _), (3, _), (4, _)] <| LM.as rfl <| nB [(0, _), (3, _), (4, _), (5, _)] <| LM.mv rfl <| LM.as rfl <| nA [(0, _), (3, _), (4, _), (5, _), (6, _)] <| wpM.seq <| wpM.block ?_
 refine wpM.loopK0 (α := BitVec 64 × Nat × List Int × Option Addr × Nat × Nat × Mem0) (fun ⟨met, a, os, ado, no, capo, mo⟩ => [(4, .slice ado no capo), (5, U met), (6, .int .i64 (a : Nat))]) [(0, _), (3, _)] (fun ⟨met, a, os, ado, no, capo, mo⟩ => mo ++ []) (fun ⟨met, a, os, ado, no, capo, mo⟩ => no = os.length ∧ cycO G = os ++ cycL G (rngI G) met a ∧ Rch G (ot G a) (rngI G) ∧ Sl fI 3 1 w.heap.size os (.slice ado no capo) mo) (fun ⟨met, a, os, ado, no, capo, mo⟩ => 64 - card met) ((0#64, rngI G, [], none, 0, 0, [])) ⟨au2, au2, au2, rfl, rfl, trivial⟩ au1 ⟨rfl, rfl, hrr, .nil _ _ _ _⟩ ?_
 rintro ⟨met, a, os, ado, no, capo, mo⟩ ⟨hno, hcy, hra, hso⟩
 change wpM _ _ _ _ _ _ _ (mo ++ []) _ _ _
 have hol := congrArg List.length hcy; rw [List.length_append] at hol; have hal := rch_in hra
 refine wpM.seq <| wR <| LM.mv rfl <| LM.mv rfl ?_
 refine cE Tryd.func37 rfl (fun w hm hc hg => rhas_spec _ _ w) ?_
 refine LM.val (ov_not rfl) ?_
 refine nA [(0, _), (3, _), (4, _), (5, _), (6, _), (20, _)] ?_
 refine wpM.condB rfl (fun h2 => ?_) (fun h2 => ?_)
 ·
  refine wpM.skip <| QM.then <| wpM.block <| wR <| LM.mv rfl <| LM.mv rfl ?_
  refine LM.single Tryd.underlying22 Tryd.sizeOf3 Tryd.zeroValue3 rfl rfl rfl rfl rfl (fun b23 hb23 => ?_)
  refine LM.app Tryd.underlying22 Tryd.typeInfo3 rfl rfl rfl rfl rfl rfl rfl asm (by rfl) ir (by intro _ u hu; simp [fI] at hu; (repeat (first | (rcases hu with rfl | hu) | subst hu | rfl))) (by first | exact Nat.le_refl _ | omega) au10 (by first | omega | (unfold maxLen; omega)) (by simp only [Tryd.t3]; omega) (fun ad24 n24 cap24 m24 hn24 hs24 hin24 => ?_)
  refine LM.as rfl <| nB [(0, _), (3, _), (4, _), (5, _), (6, _)] <| LM.mv rfl <| LM.mv rfl ?_
  refine cE Tryd.func33 rfl (fun w hm hc hg => rwith_spec _ _ w) ?_
  refine LM.as rfl <| nB [(0, _), (3, _), (4, _), (5, _), (6, _)] <| LM.as rfl <| nA [(0, _), (3, _), (4, _), (5, _), (6, _), (7, _)] <| wpM.block ?_
  refine wpM.loopK0 (α := Nat) (fun j => [(6, .int .i64 (a : Nat)), (7, .int .i64 (j : Nat))]) [(0, _), (3, _), (4, _), (5, _)] (fun j => m24 ++ []) (fun j => j ≤ n ∧ ∀ q, q < j → ¬ (sHas (ot G a) (q : Nat) = true ∧ stpB G (rngI G) q = true)) (fun j => n - j) (0) ⟨au2, au2, rfl, rfl, rfl, rfl, trivial⟩ au1 ⟨Nat.zero_le _, fun j hj => absurd hj (Nat.not_lt_zero _)⟩ ?_
  rintro j ⟨hj, hnj⟩
  change wpM _ _ _ _ _ _ _ (m24 ++ []) _ _ _
  refine wpM.seq <| wR <| LM.mv rfl <| LM.mv rfl <| LM.val (ov_len Tryd.underlying29 rfl) <| LM.val (ov_lss rfl rfl) <| nA [(0, _), (3, _), (4, _), (5, _), (6, _), (7, _), (31, _)] ?_
  refine wpM.condD rfl (fun h3 => ?_) (fun h3 => ?_)
  ·
   refine wpM.skip <| QM.then <| wpM.seq <| wpM.block <| wR <| LM.mv rfl <| LM.mv rfl ?_
   refine LM.val (ov_idxSN au6 Tryd.underlying29 Tryd.sizeOf34 rfl rfl om) ?_
   refine LM.rdC (om_sr1 asm Tryd.isAgg34 rfl rfl (by exact getq 0#64 au4) (by rfl) id) ?_
   refine LM.mv rfl ?_
   refine cE Tryd.func37 rfl (fun w hm hc hg => rhas_spec _ _ w) ?_
   refine LM.mv rfl ?_
   refine LM.splitB (t := 40) rfl (fun h4 => ?_) (fun h4 => ?_)
   ·
    refine LM.sp 40 rfl rfl rfl <| LM.mv rfl <| LM.sp 40 rfl rfl rfl <| LM.mv rfl <| LM.sp 40 rfl rfl rfl ?_
    refine cE Tryd.func38 rfl (fun w hm hc hg => rreach_spec j w hn (hl.ext hc) hlow om hx) ?_
    refine LM.sp 40 rfl rfl rfl <| LM.mv rfl <| LM.sp 40 rfl rfl rfl ?_
    refine cE Tryd.func33 rfl (fun w hm hc hg => rwith_spec 0#64 _ w) ?_
    refine LM.sp 40 rfl rfl rfl ?_
    refine LM.val (ov_uor rfl rfl) ?_
    refine LM.sp 40 rfl rfl rfl <| LM.mv rfl <| LM.sp 40 rfl rfl rfl ?_
    refine cE Tryd.func37 rfl (fun w hm hc hg => rhas_spec _ _ w) ?_
    refine LM.val (ov_pickT rfl rfl) <| nA [(0, _), (3, _), (4, _), (5, _), (6, _), (7, _), (49, _)] ?_
    refine wpM.condB rfl (fun h5 => ?_) (fun h5 => ?_)
    ·
     have hst : stpB G (rngI G) j = true := (by rw [← stp_or om]; exact h5)
     refine wR <| LM.mv rfl <| LM.as rfl <| nA [(0, _), (3, _), (4, _), (5, _), (6, _)] <| wpM.exit <| QM.block_miss rfl <| QM.then_exit <| QM.then_exit <| QM.block_hit <| QM.block_normal ?_
     refine QM.againK ((withS met (a : Nat), j, os ++ [(a : Int)], ad24, n24, cap24, m24)) ⟨au2, au2, au2, rfl, rfl, trivial⟩ au1 (fun _ h => h) ?_ ?_
     · have hnx : nxtI G a (rngI G) = j := nxtI_first h4 hst (fun j hj h => by cases hq : stpB G (rngI G) j; rfl; exact absurd ⟨h, hq⟩ (hnj j hj)); exact ⟨by rw [List.length_append, List.length_singleton]; omega, by rw [hcy, cycL_next om om (show sHas met (a : Nat) = false by simpa using h2), List.append_assoc, hnx]; rfl, by rw [← hnx]; exact (nxtI_spec hra hrr).2, hs24⟩
     · have h9 := card_with (V := met) (w := (a : Nat)) om om (show sHas met (a : Nat) = false by simpa using h2); have h8 := card_le (withS met (a : Nat)); show 64 - card (withS met (a : Nat)) < 64 - card met; omega
    refine wpM.skip <| QM.block_normal ?_
    refine QM.then (wpM.region ?_)
    refine LM.mv rfl ?_
    refine LM.val (ov_add64 rfl rfl om) ?_
    refine LM.as rfl <| nC [(0, _), (3, _), (4, _), (5, _), (6, _), (7, _)] ?_
    refine QM.againK (j + 1) ⟨au2, au2, rfl, rfl, rfl, rfl, trivial⟩ au1 (fun _ h => h) ?_ ?_
    · exact ⟨by omega, fun q hq z => by rcases Nat.lt_or_ge q j with u | u; exact hnj q u z; rw [show q = j by omega, ← stp_or om] at z; rw [h5] at z; cases z.2⟩
    · omega
   refine LM.dr 40 rfl rfl rfl <| LM.dr 40 rfl rfl rfl <| LM.dr 40 rfl rfl rfl <| LM.dr 40 rfl rfl rfl <| LM.dr 40 rfl rfl rfl <| LM.dr 40 rfl rfl rfl <| LM.dr 40 rfl rfl rfl <| LM.dr 40 rfl rfl rfl <| LM.val (ov_pickF rfl rfl) <| nA [(0, _), (3, _), (4, _), (5, _), (6, _), (7, _), (49, _)] ?_
   refine wpM.condF rfl ?_
   refine wpM.skip <| QM.block_normal ?_
   refine QM.then (wpM.region ?_)
   refine LM.mv rfl ?_
   refine LM.val (ov_add64 rfl rfl om) ?_
   refine LM.as rfl <| nC [(0, _), (3, _), (4, _), (5, _), (6, _), (7, _)] ?_
   refine QM.againK (j + 1) ⟨au2, au2, rfl, rfl, rfl, rfl, trivial⟩ au1 (fun _ h => h) ?_ ?_
   · exact ⟨by omega, fun q hq z => by rcases Nat.lt_or_ge q j with u | u; exact hnj q u z; rw [show q = j by omega] at z; rw [show ot G a = G.getD a 0#64 from rfl, h4] at z; cases z.1⟩
   · omega
  exfalso; obtain ⟨q, hq1, hq2⟩ := nxt_ex hra; have := hlow a q hq1; exact hnj q om ⟨hq1, hq2⟩
 refine wpM.exit <| QM.then_exit <| QM.then_exit <| QM.block_hit <| tR <| LM.mv rfl <| LM.as rfl <| nA [(2, _)] <| wpM.ret ?_
 refine qL Tryd.results17 rfl fun w' hm' hc' hg' => ?_
 rw [cycL_stop (show sHas met (a : Nat) = true by simpa using h2), List.append_nil] at hcy; rw [hcy]; exact ⟨hc', mo, hso, hm'.pick mo⟩
theorem rdepth_step {G : Gr} {ad : Option Addr} {n cap : Nat} (i : Nat) (w : World) (hn : n = G.length) (hl : Sr fU 1 G (.slice ad n cap) w) (hlow : Low G) (hx : G.length ≤ 12) (hA : Acy G) (hi : i < G.length) (ih : ∀ (k : Nat) (w : World), k < G.length → sHas (ot G i) (k : Nat) = true → Sr fU 1 G (.slice ad n cap) w → Ret Tryd.prog 39 #[.slice ad n cap, .int .i64 (k : Nat)] w (fun v w' => v = .int .i64 (dep G k : Nat) ∧ Ext w w')) : Ret Tryd.prog 39 #[.slice ad n cap, .int .i64 (i : Nat)] w (fun v w' => v = .int .i64 (dep G i : Nat) ∧ Ext w w') := by
 refine Ret.enterM Tryd.func39 rfl Tryd.ntmps39 rfl ([]) (no) (Mem.nil w) ?_
 refine wR <| LM.as rfl <| nB [(0, _), (1, _)] <| LM.as rfl <| nA [(0, _), (1, _), (5, _)] <| wpM.seq <| wR <| LM.as rfl <| nA [(0, _), (1, _), (5, _), (6, _)] <| wpM.block ?_
 refine wpM.loopK0 (α := Nat × Nat) (fun ⟨k, b⟩ => [(5, .int .i64 (b : Nat)), (6, .int .i64 (k : Nat))]) [(0, _), (1, _)] (fun ⟨k, b⟩ => []) (fun ⟨k, b⟩ => k ≤ n ∧ b = mxF (dep G) (hasL G i k)) (fun ⟨k, b⟩ => n - k) ((0, 0)) ⟨au2, au2, rfl, rfl, trivial⟩ au1 ⟨Nat.zero_le _, rfl⟩ ?_
 rintro ⟨k, b⟩ ⟨hk, hb⟩
 change wpM _ _ _ _ _ _ _ ([]) _ _ _
 have hbb : b ≤ 66 := (by rw [hb]; exact mxF_bd); have hd6 := dep_le G k
 refine wpM.seq <| wR <| LM.mv rfl <| LM.mv rfl <| LM.val (ov_len Tryd.underlying29 rfl) <| LM.val (ov_lss rfl rfl) <| nA [(0, _), (1, _), (5, _), (6, _), (11, _)] ?_
 refine wpM.condD rfl (fun h1 => ?_) (fun h1 => ?_)
 ·
  refine wpM.skip <| QM.then <| wpM.seq <| wpM.block <| wR <| LM.mv rfl <| LM.mv rfl ?_
  refine LM.val (ov_idxSN au6 Tryd.underlying29 Tryd.sizeOf34 rfl rfl om) ?_
  refine LM.rdC (om_sr1 asm Tryd.isAgg34 rfl rfl (by exact getq 0#64 au4) (by rfl) id) ?_
  refine LM.mv rfl ?_
  refine cE Tryd.func37 rfl (fun w hm hc hg => rhas_spec _ _ w) ?_
  refine nA [(0, _), (1, _), (5, _), (6, _), (19, _)] ?_
  refine wpM.condB rfl (fun h2 => ?_) (fun h2 => ?_)
  ·
   refine wR <| LM.mv rfl <| LM.mv rfl ?_
   refine cE Tryd.func39 rfl (fun w hm hc hg => ih k w om h2 (hl.ext hc)) ?_
   refine LM.as rfl <| nB [(0, _), (1, _), (5, _), (6, _), (7, _)] <| LM.mv rfl <| LM.mv rfl <| LM.val (ov_gtr rfl rfl) <| nA [(0, _), (1, _), (5, _), (6, _), (7, _), (25, _)] ?_
   refine wpM.condD rfl (fun h3 => ?_) (fun h3 => ?_)
   ·
    refine wpM.region ?_
    refine LM.mv rfl <| LM.as rfl <| nC [(0, _), (1, _), (5, _), (6, _)] <| QM.block_normal ?_
    refine QM.then (wpM.region ?_)
    refine LM.mv rfl ?_
    refine LM.val (ov_add64 rfl rfl om) ?_
    refine LM.as rfl <| nC [(0, _), (1, _), (5, _), (6, _)] ?_
    refine QM.againK ((k + 1, dep G k)) ⟨au2, au2, rfl, rfl, trivial⟩ au1 (fun _ h => h) ?_ ?_
    · exact ⟨by omega, by rw [hasL_succ, ← hb]; rw [if_pos (show sHas (ot G i) (k : Nat) = true from h2)]; omega⟩
    · (dsimp only; omega)
   refine wpM.skip <| QM.block_normal ?_
   refine QM.then (wpM.region ?_)
   refine LM.mv rfl ?_
   refine LM.val (ov_add64 rfl rfl om) ?_
   refine LM.as rfl <| nC [(0, _), (1, _), (5, _), (6, _)] ?_
   refine QM.againK ((k + 1, b)) ⟨au2, au2, rfl, rfl, trivial⟩ au1 (fun _ h => h) ?_ ?_
   · exact ⟨by omega, by rw [hasL_succ, ← hb]; rw [if_pos (show sHas (ot G i) (k : Nat) = true from h2)]; omega⟩
   · (dsimp only; omega)
  refine wpM.skip <| QM.block_normal ?_
  refine QM.then (wpM.region ?_)
  refine LM.mv rfl ?_
  refine LM.val (ov_add64 rfl rfl om) ?_
  refine LM.as rfl <| nC [(0, _), (1, _), (5, _), (6, _)] ?_
  refine QM.againK ((k + 1, b)) ⟨au2, au2, rfl, rfl, trivial⟩ au1 (fun _ h => h) ?_ ?_
  · exact ⟨by omega, by rw [hasL_succ, ← hb]; rw [if_neg (by rw [show ot G i = G.getD i 0#64 from rfl, h2]; simp)]⟩
  · (dsimp only; omega)
 refine wpM.exit <| QM.then_exit <| QM.then_exit <| QM.block_hit <| tR <| LM.mv rfl ?_
 refine LM.val (ov_add64 rfl rfl om) ?_
 refine LM.as rfl <| nA [(4, _)] <| wpM.ret ?_
 refine qL Tryd.results39 rfl fun w' hm' hc' hg' => ?_
 have hkn : k = G.length := om; rw [hkn, hasL_end hlow] at hb; refine ⟨?_, hc'⟩; show Value.int .i64 ((b : Int) + 1) = Value.int .i64 (dep G i : Nat); rw [hb, dep_eq hA i]; congr 1; omega
theorem rdepth_spec {G : Gr} {ad : Option Addr} {n cap : Nat} (hn : n = G.length) (hlow : Low G) (hx : G.length ≤ 12) (hA : Acy G) : ∀ (m i : Nat) (w : World), card (ovr G (ot G i)) < m → i < G.length → Sr fU 1 G (.slice ad n cap) w →
    Ret Tryd.prog 39 #[.slice ad n cap, .int .i64 (i : Nat)] w (fun v w' => v = .int .i64 (dep G i : Nat) ∧ Ext w w')
  | 0, _, _, h, _, _ => absurd h (Nat.not_lt_zero _)
  | m + 1, i, w, h, hi, hl => rdepth_step i w hn hl hlow hx hA hi (fun k w hk hs hl => rdepth_spec hn hlow hx hA m k w (by have := rch_card hA hs; omega) hk hl)
theorem rdep_spec {G : Gr} {ad : Option Addr} {n cap : Nat} (w : World) (hn : n = G.length) (hl : Sr fU 1 G (.slice ad n cap) w) (hlow : Low G) (hx : G.length ≤ 12) (hA : Acy G) : Ret Tryd.prog 19 #[.slice ad n cap] w (fun v w' => v = .int .i64 (dpt G : Nat) ∧ Ext w w') := by
 refine Ret.enterM Tryd.func19 rfl Tryd.ntmps19 rfl ([]) (no) (Mem.nil w) ?_
 refine wR <| LM.as rfl <| nB [(0, _)] <| LM.as rfl <| nA [(0, _), (3, _)] <| wpM.seq <| wR <| LM.as rfl <| nA [(0, _), (3, _), (4, _)] <| wpM.block ?_
 refine wpM.loopK0 (α := Nat × Nat) (fun ⟨k, b⟩ => [(3, .int .i64 (b : Nat)), (4, .int .i64 (k : Nat))]) [(0, _)] (fun ⟨k, b⟩ => []) (fun ⟨k, b⟩ => k ≤ n ∧ b = mxF (dep G) (List.range k)) (fun ⟨k, b⟩ => n - k) ((0, 0)) ⟨au2, au2, rfl, trivial⟩ au1 ⟨Nat.zero_le _, rfl⟩ ?_
 rintro ⟨k, b⟩ ⟨hk, hb⟩
 change wpM _ _ _ _ _ _ _ ([]) _ _ _
 refine wpM.seq <| wR <| LM.mv rfl <| LM.mv rfl <| LM.val (ov_len Tryd.underlying29 rfl) <| LM.val (ov_lss rfl rfl) <| nA [(0, _), (3, _), (4, _), (9, _)] ?_
 refine wpM.condD rfl (fun h1 => ?_) (fun h1 => ?_)
 ·
  refine wpM.skip <| QM.then <| wpM.seq <| wpM.block <| wR <| LM.mv rfl <| LM.mv rfl ?_
  refine cE Tryd.func39 rfl (fun w hm hc hg => rdepth_spec hn hlow hx hA 65 k w (by have := card_le (ovr G (ot G k)); omega) om (hl.ext hc)) ?_
  refine LM.as rfl <| nB [(0, _), (3, _), (4, _), (5, _)] <| LM.mv rfl <| LM.mv rfl <| LM.val (ov_gtr rfl rfl) <| nA [(0, _), (3, _), (4, _), (5, _), (17, _)] ?_
  refine wpM.condD rfl (fun h2 => ?_) (fun h2 => ?_)
  ·
   refine wpM.region ?_
   refine LM.mv rfl <| LM.as rfl <| nC [(0, _), (3, _), (4, _)] <| QM.block_normal ?_
   refine QM.then (wpM.region ?_)
   refine LM.mv rfl ?_
   refine LM.val (ov_add64 rfl rfl om) ?_
   refine LM.as rfl <| nC [(0, _), (3, _), (4, _)] ?_
   refine QM.againK ((k + 1, dep G k)) ⟨au2, au2, rfl, trivial⟩ au1 (fun _ h => h) ?_ ?_
   · exact ⟨by omega, by rw [range_max, ← hb]; omega⟩
   · (dsimp only; omega)
  refine wpM.skip <| QM.block_normal ?_
  refine QM.then (wpM.region ?_)
  refine LM.mv rfl ?_
  refine LM.val (ov_add64 rfl rfl om) ?_
  refine LM.as rfl <| nC [(0, _), (3, _), (4, _)] ?_
  refine QM.againK ((k + 1, b)) ⟨au2, au2, rfl, trivial⟩ au1 (fun _ h => h) ?_ ?_
  · exact ⟨by omega, by rw [range_max, ← hb]; omega⟩
  · (dsimp only; omega)
 refine wpM.exit <| QM.then_exit <| QM.then_exit <| QM.block_hit <| tR <| LM.mv rfl <| LM.as rfl <| nA [(2, _)] <| wpM.ret ?_
 refine qL Tryd.results19 rfl fun w' hm' hc' hg' => ?_
 have hkn : k = G.length := om; rw [hkn] at hb; refine ⟨?_, hc'⟩; rw [hb]; rfl
end Go.Eng
namespace Go.Eng
open Go Go.RowKit
structure Act where
  k : Int
  a : Int
  b : Int
  c : Int
  d : Int
deriving DecidableEq
instance : Inhabited Act := ⟨⟨0, 0, 0, 0, 0⟩⟩
def fA (o : Act) : List Value := [.int .i64 o.k, .int .i64 o.a, .int .i64 o.b, .int .i64 o.c, .int .i64 o.d]
def acW : List (List UInt8) := [[], [116, 105, 99, 107], [102, 105, 114, 101], [98, 97, 108, 97, 110, 99, 101], [115, 112, 97, 119, 110], [107, 105, 108, 108], [103, 114, 111, 117, 112], [109, 111, 118, 101], [114, 111, 117, 110, 100]]
def acT (k : Int) : List UInt8 := if 0 ≤ k ∧ k < 9 then acW.getD k.toNat [] else []
def manyA (k : Int) : Nat := if k = 1 ∨ k = 5 ∨ k = 8 then 1 else if k = 6 ∨ k = 7 then 2 else if k = 4 then 4 else 0
theorem manyA_le (k : Int) : manyA k ≤ 4 := by unfold manyA; (repeat' split) <;> omega
def manyL : List Int := [0, 1, 0, 0, 4, 1, 2, 2, 1]
theorem manyL_get {k : Int} (h : 0 ≤ k ∧ k < 9) : manyL.getD k.toNat 0 = (manyA k : Int) := by
  have : k = 0 ∨ k = 1 ∨ k = 2 ∨ k = 3 ∨ k = 4 ∨ k = 5 ∨ k = 6 ∨ k = 7 ∨ k = 8 := by omega
  rcases this with rfl | rfl | rfl | rfl | rfl | rfl | rfl | rfl | rfl <;> rfl
def kindAT (t : List UInt8) : Int := mx0 (fixI (fun y => decide (t = y)) acW)
def kindA (ws : List Wrd) (i : Nat) : Int := if (decide (i < ws.length) && decide ((ws.getD i default).k = 1)) then kindAT (ws.getD i default).t else 0
def refA (t : List UInt8) : Nat → Int
  | 0 => 0
  | k + 1 => if t = acW.getD (k + 1) [] then ((k + 1 : Nat) : Int) else refA t k
theorem refA_eq (t : List UInt8) : refA t 8 = kindAT t := by
  by_cases h : t ∈ acW
  · simp only [acW, List.mem_cons, List.not_mem_nil, or_false] at h
    rcases h with rfl | rfl | rfl | rfl | rfl | rfl | rfl | rfl | rfl <;> decide +kernel
  · have h2 : fixI (fun y => decide (t = y)) acW = -1 := fix_miss (by
      rw [List.any_eq_false]; intro y hy; simp only [decide_eq_true_eq]; rintro rfl; exact h hy)
    unfold kindAT; rw [h2]
    simp only [acW, List.mem_cons, List.not_mem_nil, or_false, not_or] at h
    obtain ⟨-, a1, a2, a3, a4, a5, a6, a7, a8⟩ := h
    simp only [refA, acW, List.getD_cons_succ, List.getD_cons_zero, if_neg a1, if_neg a2, if_neg a3, if_neg a4, if_neg a5, if_neg a6, if_neg a7, if_neg a8]
    rfl
theorem kindAT_rng (t : List UInt8) : 0 ≤ kindAT t ∧ kindAT t ≤ 8 := by
  rw [← refA_eq]
  have : ∀ k : Nat, 0 ≤ refA t k ∧ refA t k ≤ (k : Int) := by
    intro k
    induction k with
    | zero => exact ⟨Int.le_refl _, Int.le_refl _⟩
    | succ k ih => unfold refA; split <;> omega
  exact this 8
theorem kindA_rng (ws : List Wrd) (i : Nat) : 0 ≤ kindA ws i ∧ kindA ws i ≤ 8 := by
  unfold kindA; split
  · exact kindAT_rng _
  · omega
def numG (ws : List Wrd) : Nat → Nat → Nat → List Int → Nat × Int × List Int
  | 0, j, _, xs => (j, 0, xs)
  | f + 1, j, i, xs => if (decide (ws.length ≤ j) || decide ((ws.getD j default).k ≠ 2)) then (j, 5, xs) else numG ws f (j + 1) (i + 1) (xs.set i (ws.getD j default).n)
def toA (k : Int) (xs : List Int) : Act := ⟨k, xs.getD 0 0, xs.getD 1 0, xs.getD 2 0, xs.getD 3 0⟩
def zer4 : List Int := [0, 0, 0, 0]
def numK (ws : List Wrd) (i : Nat) : Nat × Int × List Int := numG ws (manyA (kindA ws i)) (i + 1) 0 zer4
theorem numG_le (ws : List Wrd) : ∀ (f j i : Nat) (xs : List Int), j ≤ ws.length → j ≤ (numG ws f j i xs).1 ∧ (numG ws f j i xs).1 ≤ ws.length
  | 0, j, i, xs, h => ⟨Nat.le_refl _, h⟩
  | f + 1, j, i, xs, h => by
    unfold numG; split
    · exact ⟨Nat.le_refl _, h⟩
    · rename_i q
      simp only [Bool.or_eq_true, decide_eq_true_eq, not_or] at q
      have := numG_le ws f (j + 1) (i + 1) (xs.set i (ws.getD j default).n) om
      omega
def oneA (ws : List Wrd) (i : Nat) : Act × Nat × Int :=
  if kindA ws i = 0 then (default, i, 5)
  else if (numK ws i).2.1 ≠ 0 then (default, (numK ws i).1, (numK ws i).2.1)
  else if isR ws (numK ws i).1 3 [59] then (toA (kindA ws i) (numK ws i).2.2, (numK ws i).1 + 1, 0)
  else (default, (numK ws i).1, 5)
theorem kindA_lt {ws : List Wrd} {i : Nat} (h : kindA ws i ≠ 0) : i < ws.length := by
  unfold kindA at h; split at h
  · rename_i q; simp only [Bool.and_eq_true, decide_eq_true_eq] at q; exact q.1
  · exact absurd rfl h
theorem oneA_lt {ws : List Wrd} {i : Nat} (h : (oneA ws i).2.2 = 0) : i < (oneA ws i).2.1 ∧ (oneA ws i).2.1 ≤ ws.length := by
  unfold oneA at h ⊢
  split at h
  · cases h
  rename_i h1
  rw [if_neg h1]
  split at h
  · rename_i h2; exact absurd h h2
  rename_i h2
  rw [if_neg h2]
  split at h
  · rename_i h3
    rw [if_pos h3]
    have h4 := numG_le ws (manyA (kindA ws i)) (i + 1) 0 zer4 (kindA_lt h1)
    have h5 := isR_lt h3
    unfold numK at h5 ⊢
    simp only; omega
  · cases h
def loopAF : Nat → List Wrd → Nat → List Act → List Act × Int × Int
  | 0, _, i, out => (out, (i : Nat), 0)
  | f + 1, ws, i, out =>
    if ws.length ≤ i then (out, (i : Nat), 0)
    else if kindA ws i = 0 then ([], (i : Nat), 5)
    else if out.length = 4000 then ([], (i : Nat), 6)
    else if (oneA ws i).2.2 ≠ 0 then ([], ((oneA ws i).2.1 : Nat), (oneA ws i).2.2)
    else loopAF f ws (oneA ws i).2.1 (out ++ [(oneA ws i).1])
theorem loopAF_fuel (ws : List Wrd) : ∀ (f g i : Nat) (out : List Act), ws.length - i ≤ f → ws.length - i ≤ g → loopAF f ws i out = loopAF g ws i out
  | 0, 0, i, out, _, _ => rfl
  | 0, g + 1, i, out, h1, h2 => by rw [loopAF, loopAF, if_pos om]
  | f + 1, 0, i, out, h1, h2 => by rw [loopAF, loopAF, if_pos om]
  | f + 1, g + 1, i, out, h1, h2 => by
    simp only [loopAF]
    split
    · rfl
    split
    · rfl
    split
    · rfl
    split
    · rfl
    · rename_i h4
      have := oneA_lt (Classical.not_not.1 h4)
      exact loopAF_fuel ws f g _ _ om om
def loopA (ws : List Wrd) (i : Nat) (out : List Act) : List Act × Int × Int := loopAF (ws.length - i) ws i out
theorem loopA_end {ws : List Wrd} {i : Nat} {out : List Act} (h : ws.length ≤ i) : loopA ws i out = (out, (i : Int), 0) := by
  unfold loopA; rw [show ws.length - i = 0 by omega]; rfl
theorem loopA_step {ws : List Wrd} {i : Nat} {out : List Act} (h : i < ws.length) : loopA ws i out =
    if kindA ws i = 0 then ([], (i : Int), 5)
    else if out.length = 4000 then ([], (i : Int), 6)
    else if (oneA ws i).2.2 ≠ 0 then ([], ((oneA ws i).2.1 : Int), (oneA ws i).2.2)
    else loopA ws (oneA ws i).2.1 (out ++ [(oneA ws i).1]) := by
  unfold loopA
  obtain ⟨f, hf⟩ : ∃ f, ws.length - i = f + 1 := ⟨ws.length - i - 1, by omega⟩
  rw [hf, loopAF, if_neg om]
  split
  · rfl
  split
  · rfl
  split
  · rfl
  · rename_i h4
    have := oneA_lt (Classical.not_not.1 h4)
    exact loopAF_fuel ws _ _ _ _ om om
def actsO (ws : List Wrd) (p : Int) : List Act × Int × Int := if p < 0 ∨ (ws.length : Int) < p then ([], 0, 5) else loopA ws p.toNat []
theorem acts_nat {ws : List Wrd} {i : Nat} (hi : i ≤ ws.length) : actsO ws (i : Int) = loopA ws i [] := by
  unfold actsO; rw [if_neg om, Int.toNat_natCast]
/-! what is parsed may be -/
end Go.Eng
