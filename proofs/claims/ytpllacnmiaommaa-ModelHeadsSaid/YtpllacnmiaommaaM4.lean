/- The walk of the document's parser of setups. No condition. -/
import Derived.Test.YtpllacnmiaommaaM2
import Derived.Test.YtpllacnmiaommaaM3
import Derived.Test.YtpllacnmiaommaaRows
set_option linter.unusedVariables false
set_option linter.unusedSimpArgs false
set_option maxRecDepth 100000
namespace Go.Eng
open Go Go.Proofs Go.RowKit
def gpM (ws : List Wrd) (i : Nat) (e : Int) (gs : List Int) : List Int × Nat × Int := if gs.length = 0 then (if e = 0 then gpO ws i e else ([], i, e)) else gpL ws i e gs
theorem gpM_stop {ws : List Wrd} {i : Nat} {e : Int} {gs : List Int} (h : (isE ws i e 1 wGroup || (decide (gs.length = 0) && decide (e = 0))) = false) : gpM ws i e gs = (gs, i, e) := by
  simp only [Bool.or_eq_false_iff, Bool.and_eq_false_iff, decide_eq_false_iff_not] at h
  unfold gpM
  by_cases h0 : gs.length = 0
  · rw [if_pos h0, if_neg (h.2.resolve_left (fun q => q h0)), List.length_eq_zero_iff.1 h0]
  · rw [if_neg h0, gpL_stop h.1]
theorem gpM_full {ws : List Wrd} {i : Nat} {e : Int} {gs : List Int} (h : isE ws i e 1 wGroup = true) (hl : 4 ≤ gs.length) : gpM ws i e gs = (gs, i, 6) := by
  unfold gpM; rw [if_neg om, gpL_full h hl]
theorem gpM_next {ws : List Wrd} {i : Nat} {e : Int} {gs : List Int} (h : (isE ws i e 1 wGroup || (decide (gs.length = 0) && decide (e = 0))) = true) (hl : gs.length < 4) : gpM ws i e gs = gpM ws (linE ws i e wGroup 16).1 (linE ws i e wGroup 16).2.1 (gs ++ [(linE ws i e wGroup 16).2.2]) := by
  simp only [Bool.or_eq_true, Bool.and_eq_true, decide_eq_true_eq] at h
  unfold gpM
  rw [if_neg (show ¬ (gs ++ [(linE ws i e wGroup 16).2.2]).length = 0 by simp)]
  by_cases h0 : gs.length = 0
  · have he : e = 0 := h.elim (fun q => (isE_lt q).2) (fun q => q.2)
    rw [if_pos h0, if_pos he, List.length_eq_zero_iff.1 h0]; rfl
  · rw [if_neg h0, gpL_next (h.resolve_right (fun q => h0 q.1)) hl]
theorem gpM_sG {ws : List Wrd} {i0 : Nat} {gs : List Int} {i : Nat} {e : Int} (h : gpM ws (sB2 ws i0).1 (sB2 ws i0).2.1 [] = (gs, i, e)) : (sG ws i0).2 = (i, e) ∧ (e = 0 → sG ws i0 = (gs, i, e)) := by
  unfold gpM at h
  rw [if_pos (show ([] : List Int).length = 0 from rfl)] at h
  unfold sG
  by_cases h0 : (sB2 ws i0).2.1 = 0
  · rw [if_pos h0] at h; rw [h]; exact ⟨rfl, fun _ => rfl⟩
  · rw [if_neg h0] at h
    simp only [Prod.mk.injEq] at h
    obtain ⟨_, h2, h3⟩ := h
    rw [← h2, ← h3]
    refine ⟨?_, fun q => absurd q h0⟩
    unfold gpO; rw [lin_bad h0]; simp only; rw [gpL_stop (isE_bad h0)]
theorem isP_eq {ws : List Wrd} {i : Nat} {e : Int} {ps : List PgC} : isP ws i e ps = (isE ws i e 1 wProg || (decide (ps.length = 0) && decide (e = 0))) := by
  unfold isP
  by_cases h : e = 0
  · rw [decide_eq_true h, Bool.true_and, Bool.and_true, Bool.or_comm]
  · rw [isE_bad h, decide_eq_false h]; simp
structure SetI (ws : List Wrd) (i0 : Nat) (gs : List Int) (i1 : Nat) (e1 : Int) (ls : List CLk) (i2 : Nat) (e2 : Int) (ps : List PgC) (pl : List Int) (i3 : Nat) (e3 : Int) : Prop where
  g : (sG ws i0).2 = (i1, e1) ∧ (e1 = 0 → (sG ws i0).1 = gs)
  l : lkL ws i1 e1 [] = (ls, i2, e2)
  p : pgL ws i2 e2 [] [] = (ps, pl, i3, e3)
theorem SetI.two {ws : List Wrd} {i0 : Nat} {gs : List Int} {i1 : Nat} {e1 : Int} {ls : List CLk} {i2 : Nat} {e2 : Int} {ps : List PgC} {pl : List Int} {i3 : Nat} {e3 : Int} (h : SetI ws i0 gs i1 e1 ls i2 e2 ps pl i3 e3) : sL ws i0 = (ls, i2, e2) ∧ sP ws i0 = (ps, pl, i3, e3) := by
  have a : sL ws i0 = (ls, i2, e2) := by unfold Go.Eng.sL; rw [h.g.1]; exact h.l
  exact ⟨a, by unfold sP; rw [a]; exact h.p⟩
theorem SetI.bad {ws : List Wrd} {i0 : Nat} {gs : List Int} {i1 : Nat} {e1 : Int} {ls : List CLk} {i2 : Nat} {e2 : Int} {ps : List PgC} {pl : List Int} {i3 : Nat} {e3 : Int} (h : SetI ws i0 gs i1 e1 ls i2 e2 ps pl i3 e3) (he : e3 ≠ 0) : stpR ws i0 = (default, (i3 : Int), e3) := by
  unfold stpR; rw [h.two.2]; simp only; rw [if_pos he]
theorem SetI.mis {ws : List Wrd} {i0 : Nat} {gs : List Int} {i1 : Nat} {e1 : Int} {ls : List CLk} {i2 : Nat} {e2 : Int} {ps : List PgC} {pl : List Int} {i3 : Nat} {e3 : Int} (h : SetI ws i0 gs i1 e1 ls i2 e2 ps pl i3 e3) (he : e3 = 0) {j : Nat} (hj : j < ps.length) (h0 : (ps.take j).any (misB ls ps.length) = false) (h1 : misB ls ps.length (ps.getD j default) = true) : stpR ws i0 = (default, pl.getD j 0, (ckO (ps.getD j default).fv (ps.getD j default).xs ls (ps.length : Int)).2) := by
  have e := fix_hit default h0 hj h1
  have e' : misI ls ps = (j : Nat) := e
  unfold stpR; rw [h.two.2, h.two.1]; simp only; rw [if_neg (by simp [he]), e', if_pos om, Int.toNat_natCast]
  unfold misE; rw [if_neg om, Int.toNat_natCast]
theorem SetI.ok {ws : List Wrd} {i0 : Nat} {gs : List Int} {i1 : Nat} {e1 : Int} {ls : List CLk} {i2 : Nat} {e2 : Int} {ps : List PgC} {pl : List Int} {i3 : Nat} {e3 : Int} (h : SetI ws i0 gs i1 e1 ls i2 e2 ps pl i3 e3) (he : e3 = 0) (h0 : ps.any (misB ls ps.length) = false) : stpR ws i0 = (⟨(sA ws i0).2.2, (sB2 ws i0).2.2, gs, ls, ps⟩, (i3 : Int), 0) := by
  have z2 : e2 = 0 := by
    have := pgF_zero (ws := ws) _ i2 e2 [] [] (by have := h.p; unfold pgL at this; rw [this]; exact he)
    exact this
  have z1 : e1 = 0 := by
    have := lkF_zero (ws := ws) _ i1 e1 [] (by have := h.l; unfold lkL at this; rw [this]; exact z2)
    exact this
  have e' : misI ls ps = -1 := fix_miss h0
  unfold stpR; rw [h.two.2, h.two.1]; simp only; rw [if_neg (by simp [he]), e', if_neg (by decide), h.g.2 z1]
theorem par_pos {ws : List Wrd} {i : Nat} (h : i ≤ ws.length) : 0 ≤ (parseO ws (i : Int)).2.2.1 ∧ (parseO ws (i : Int)).2.2.1.toNat ≤ ws.length := by
  have key : ∀ (f i : Nat) (ops : List COp), i ≤ ws.length → 0 ≤ (loopP f ws i ops).2.1 ∧ (loopP f ws i ops).2.1.toNat ≤ ws.length := by
    intro f
    induction f with
    | zero => intro i ops hi; exact ⟨by show (0 : Int) ≤ (i : Int); omega, by show ((i : Int)).toNat ≤ _; omega⟩
    | succ f ih =>
      intro i ops hi
      unfold loopP
      split
      · rename_i q
        have := isR_lt q
        split
        · exact ⟨by show (0 : Int) ≤ (i : Int); omega, by show ((i : Int)).toNat ≤ _; omega⟩
        · exact ⟨by show (0 : Int) ≤ ((i + 1 : Nat) : Int); omega, by show (((i + 1 : Nat) : Int)).toNat ≤ _; omega⟩
      · have hp := opR_pos (k := ops.length) hi
        split
        · exact ⟨by show (0 : Int) ≤ ((opR ws i ops.length).1 : Int); omega, by show (((opR ws i ops.length).1 : Int)).toNat ≤ _; omega⟩
        · exact ih _ _ hp
  rw [parse_nat h]
  simp only
  unfold bodyR
  split
  · rename_i q
    have := isR_lt q
    have hh : (headR ws i).2 ≤ ws.length := by
      unfold headR; simp only; split
      · rename_i q; have := isR_lt q; omega
      · omega
    split
    · rename_i q2
      have := isR_lt q2
      exact key _ _ _ om
    · exact ⟨by show (0 : Int) ≤ ((headR ws i).2 : Int); omega, by show (((headR ws i).2 : Int)).toNat ≤ _; omega⟩
  · exact ⟨by show (0 : Int) ≤ (i : Int); omega, by show ((i : Int)).toNat ≤ _; omega⟩
def StT (r : StC × Int × Int) (n0 : Nat) (v : Value) (m : Mem0) : Prop := ∃ sv : StV, v = .tuple #[sv.val, .int .i64 r.2.1, .int .i64 r.2.2] ∧ sv.C = r.1 ∧ ∀ w, Mem w m → sv.In w
theorem StT.mono {r : StC × Int × Int} : ∀ (k k' : Nat) u m, k' ≤ k → StT r k u m → StT r k' u m := fun k k' u m h q => q
theorem StT.none {p e : Int} {n0 : Nat} : StT (default, p, e) n0 (.tuple #[(default : StV).val, .int .i64 p, .int .i64 e]) [] :=
  ⟨default, rfl, rfl, fun w _ => ⟨rfl, .nil _ _ _, rfl, .nil _ _ _, rfl, .nil _ _ _, fun p hp => by cases hp⟩⟩
abbrev sO (c g : Int) (ga : Option Addr) (gn gc : Nat) (la : Option Addr) (ln lc : Nat) (pa : Option Addr) (pn pc : Nat) : Obj := .cells #[.int .i64 c, .int .i64 g, .slice ga gn gc, .slice la ln lc, .slice pa pn pc] 26 (0, 0)
abbrev z0 : Obj := sO 0 0 none 0 0 none 0 0 none 0 0
theorem snoc_map {ps : List PgV} {p : PgV} : (ps ++ [p]).map PgV.c = ps.map PgV.c ++ [p.c] := by simp
theorem snoc_in {ps : List PgV} {p : PgV} {w : World} (h : PgsIn ps w) (k : p.In w) : PgsIn (ps ++ [p]) w := fun q hq => by
  rcases List.mem_append.1 hq with hq | hq
  · exact h q hq
  · rw [List.mem_singleton] at hq; subst hq; exact k
theorem sr_of_sl {α : Type} {f : α → List Value} {E s n0 : Nat} {xs : List α} {v : Value} {m : Mem0} {w : World} (h : Sl f E s n0 xs v m) (hf : ∀ a, (f a).length = s) (hm : Mem w m) : Sr f s xs v w := h.sr hf (fun p hp => hm.2 p hp)
theorem cond0 (n : Nat) : decide ((n : Int) = 0) = decide (n = 0) := decide_eq_decide.2 om
set_option maxHeartbeats 4000000 in
theorem rsetup_spec {ws : List Wrd} {ad : Option Addr} {n cap : Nat} (p : Int) (w : World) (hn : n = ws.length) (hx : ws.length ≤ 1000000000) (hl : Sr fW 4 ws (.slice ad n cap) w) : Ret Try.prog 12 #[.slice ad n cap, .int .i64 p] w (fun v w' => Ext w w' ∧ ∃ m, StT (setO ws p) w.heap.size v m ∧ Mem w' m ∧ ∀ p ∈ m, w.heap.size ≤ p.1) := by
 refine Ret.enterM Try.func12 rfl Try.ntmps12 rfl ([]) (no) (Mem.nil w) ?_
 refine wR ?_
 refine LM.alloc Try.zeroValue26 rfl (fun b4 hb4 => ?_)
 refine LM.as rfl <| LM.as rfl <| nA [(0, _), (1, _), (4, _)] <| wpM.seq <| wR <| LM.mv rfl <| LM.val (ov_lss rfl rfl) <| LM.mv rfl ?_
 refine LM.splitD (t := 19) rfl (fun h1 => ?_) (fun h1 => ?_)
 ·
  refine LM.dr 19 rfl rfl rfl <| LM.dr 19 rfl rfl rfl <| LM.dr 19 rfl rfl rfl <| LM.dr 19 rfl rfl rfl <| LM.val (ov_pickT rfl rfl) <| nA [(0, _), (1, _), (4, _), (24, _)] ?_
  refine wpM.condT rfl ?_
  refine wR ?_
  refine LM.val (ov_build (cs := #[_, _, _, _, _]) rfl (by first | rfl | kernel_rfl)) ?_
  refine LM.stW Try.sizeOf26 rfl rfl rfl rfl au7 au8 ?_
  refine LM.as rfl <| LM.as rfl <| nA [(4, _), (5, _), (6, _)] <| wpM.ret <| QM.then_ret ?_
  refine QM.leaveCs (ds := ([])) (.inl rfl) [.cell 4 26, .tmp 5, .tmp 6] Try.results12 hd_nil (rc_w rfl Try.isAgg26 Try.sizeOf26 rfl (rc_tmp rfl (rc_tmp rfl rc_nil))) ?_
  intro w' hm' hc'
  have hpar : setO ws p = (default, 0, 5) := (by unfold setO; rw [if_pos om]); rw [hpar]; exact ⟨hc', [], StT.none, Mem.nil _, fun p hp => by cases hp⟩
 refine LM.sp 19 rfl rfl rfl <| LM.mv rfl <| LM.sp 19 rfl rfl rfl <| LM.mv rfl <| LM.sp 19 rfl rfl rfl <| LM.val (ov_len Try.underlying49 rfl) <| LM.sp 19 rfl rfl rfl <| LM.val (ov_gtr rfl rfl) <| LM.val (ov_pickF rfl rfl) <| nA [(0, _), (1, _), (4, _), (24, _)] ?_
 refine wpM.condD rfl (fun h2 => ?_) (fun h2 => ?_)
 ·
  refine wR ?_
  refine LM.val (ov_build (cs := #[_, _, _, _, _]) rfl (by first | rfl | kernel_rfl)) ?_
  refine LM.stW Try.sizeOf26 rfl rfl rfl rfl au7 au8 ?_
  refine LM.as rfl <| LM.as rfl <| nA [(4, _), (5, _), (6, _)] <| wpM.ret <| QM.then_ret ?_
  refine QM.leaveCs (ds := ([])) (.inl rfl) [.cell 4 26, .tmp 5, .tmp 6] Try.results12 hd_nil (rc_w rfl Try.isAgg26 Try.sizeOf26 rfl (rc_tmp rfl (rc_tmp rfl rc_nil))) ?_
  intro w' hm' hc'
  have hpar : setO ws p = (default, 0, 5) := (by unfold setO; rw [if_pos om]); rw [hpar]; exact ⟨hc', [], StT.none, Mem.nil _, fun p hp => by cases hp⟩
 obtain ⟨i0, rfl⟩ : ∃ i0 : Nat, p = (i0 : Nat) := ⟨p.toNat, by omega⟩; have hi0 : i0 ≤ ws.length := om
 refine wpM.skip <| tR <| LM.mv rfl <| LM.mv rfl ?_
 refine LM.val (ov_build (cs := #[_, _, _]) rfl (by first | rfl | kernel_rfl)) ?_
 refine LM.box rfl rfl (fun b29 hb29 => ?_)
 refine LM.as rfl <| nB [(0, _), (4, _), (7, _)] ?_
 have hab29 : 0 < ws.length → adB ad ≠ b29 := (fun h0 => by have := hl.adlt h0; omega)
 refine LM.val (ov_build (cs := #[_, _, _, _, _]) rfl (by first | rfl | kernel_rfl)) ?_
 refine LM.alloc Try.zeroValue26 rfl (fun b8 hb8 => ?_)
 refine LM.stW Try.sizeOf26 rfl rfl rfl rfl au7 au8 ?_
 refine nB [(0, _), (4, _), (7, _), (8, _)] <| LM.mv rfl ?_
 refine LM.cW (oc_call (enters_fn Try.func20 kr rfl) rfl) (fun w hm hc hg => qfield_spec b29 i0 0 4 wCores w hn hx (hl.ext hc) hab29 (SubM.mem au1 w hm)) rfl au8 ?_
 refine LM.val (ovf 3 rfl rfl rfl rfl) ?_
 refine LM.st Try.sizeOf3 rfl rfl rfl au5 rfl au8 ?_
 refine nB [(0, _), (4, _), (7, _), (8, _)] <| LM.mv rfl ?_
 refine LM.cW (oc_call (enters_fn Try.func21 kr rfl) rfl) (fun w hm hc hg => qneed_spec b29 (fldE ws i0 0 wCores 4).1 (fldE ws i0 0 wCores 4).2.1 3 [59] w hn hx (hl.ext hc) hab29 (SubM.mem au1 w hm)) rfl au8 ?_
 refine nB [(0, _), (4, _), (7, _), (8, _)] <| LM.mv rfl ?_
 refine LM.cW (oc_call (enters_fn Try.func20 kr rfl) rfl) (fun w hm hc hg => qfield_spec b29 (sA ws i0).1 (sA ws i0).2.1 8 wGrain w hn hx (hl.ext hc) hab29 (SubM.mem au1 w hm)) rfl au8 ?_
 refine LM.val (ovf 3 rfl rfl rfl rfl) ?_
 refine LM.st Try.sizeOf3 rfl rfl rfl au5 rfl au8 ?_
 refine nB [(0, _), (4, _), (7, _), (8, _)] <| LM.mv rfl ?_
 refine LM.cW (oc_call (enters_fn Try.func21 kr rfl) rfl) (fun w hm hc hg => qneed_spec b29 (fldE ws (sA ws i0).1 (sA ws i0).2.1 wGrain 8).1 (fldE ws (sA ws i0).1 (sA ws i0).2.1 wGrain 8).2.1 3 [59] w hn hx (hl.ext hc) hab29 (SubM.mem au1 w hm)) rfl au8 ?_
 refine nA [(0, _), (4, _), (7, _), (8, _)] <| wpM.seq ?_
 refine wpM.joinK (α := Nat × Int × List Int × Option Addr × Nat × Nat × Mem0) (fun ⟨i1, e1, gs, adg, ng, cg, mg⟩ => []) [(0, _), (4, _), (7, _), (8, _)] (fun ⟨i1, e1, gs, adg, ng, cg, mg⟩ => mg ++ qB b29 ad n cap i1 e1 :: (b8, sO (sA ws i0).2.2 (sB2 ws i0).2.2 adg ng cg none 0 0 none 0 0) :: (b4, z0) :: []) (fun ⟨i1, e1, gs, adg, ng, cg, mg⟩ => gpM ws (sB2 ws i0).1 (sB2 ws i0).2.1 [] = (gs, i1, e1) ∧ i1 ≤ ws.length ∧ gs.length ≤ 4 ∧ ng = gs.length ∧ Sl fI 3 1 w.heap.size gs (.slice adg ng cg) mg) ⟨rfl, rfl, rfl, rfl, trivial⟩ ?_ ?_
 ·
  refine wpM.block ?_
  refine wpM.loopK0 (α := Nat × Int × List Int × Option Addr × Nat × Nat × Mem0) (fun ⟨i, e, gs, adg, ng, cg, mg⟩ => []) [(0, _), (4, _), (7, _), (8, _)] (fun ⟨i, e, gs, adg, ng, cg, mg⟩ => mg ++ qB b29 ad n cap i e :: (b8, sO (sA ws i0).2.2 (sB2 ws i0).2.2 adg ng cg none 0 0 none 0 0) :: (b4, z0) :: []) (fun ⟨i, e, gs, adg, ng, cg, mg⟩ => gpM ws i e gs = gpM ws (sB2 ws i0).1 (sB2 ws i0).2.1 [] ∧ i ≤ ws.length ∧ gs.length ≤ 4 ∧ ng = gs.length ∧ Sl fI 3 1 w.heap.size gs (.slice adg ng cg) mg) (fun ⟨i, e, gs, adg, ng, cg, mg⟩ => 5 - gs.length) (((sB2 ws i0).1, (sB2 ws i0).2.1, [], none, 0, 0, [])) ⟨rfl, rfl, rfl, rfl, trivial⟩ au1 ⟨rfl, lin_le (lin_le om), by decide, rfl, .nil _ _ _ _⟩ ?_
  rintro ⟨i, e, gs, adg, ng, cg, mg⟩ ⟨hG, hi, hg4, hng, hsg⟩
  change wpM _ _ _ _ _ _ _ (mg ++ qB b29 ad n cap i e :: (b8, sO (sA ws i0).2.2 (sB2 ws i0).2.2 adg ng cg none 0 0 none 0 0) :: (b4, z0) :: []) _ _ _
  refine wpM.seq <| wpM.seq ?_
  refine wpM.joinK (α := Bool) (fun q => [(55, .bool q)]) [(0, _), (4, _), (7, _), (8, _)] (fun q => mg ++ qB b29 ad n cap i e :: (b8, sO (sA ws i0).2.2 (sB2 ws i0).2.2 adg ng cg none 0 0 none 0 0) :: (b4, z0) :: []) (fun q => q = (isE ws i e 1 wGroup || (decide ((ng : Int) = 0) && decide (e = 0)))) ⟨rfl, rfl, rfl, rfl, trivial⟩ ?_ ?_
  ·
   refine wpM.region ?_
   refine LM.mv rfl ?_
   refine cE Try.func22 rfl (fun w hm hc hg => qis_spec b29 i e 1 wGroup w hn (hl.ext hc) (SubM.mem au1 w hm)) ?_
   refine LM.mv rfl ?_
   refine LM.splitB (t := 43) rfl (fun h3 => ?_) (fun h3 => ?_)
   ·
    refine LM.dr 43 rfl rfl rfl <| LM.dr 43 rfl rfl rfl <| LM.dr 43 rfl rfl rfl <| LM.dr 43 rfl rfl rfl ?_
    refine LM.dropU (t := 43) rfl rfl rfl ?_
    refine LM.dropX (t := 48) rfl rfl ?_
    refine LM.dropX (t := 48) rfl rfl ?_
    refine LM.dropX (t := 48) rfl rfl ?_
    refine LM.dropX (t := 48) rfl rfl ?_
    refine LM.dropX (t := 48) rfl rfl ?_
    refine LM.dr 43 rfl rfl rfl <| LM.val (ov_pickT rfl rfl) <| nC [(0, _), (4, _), (7, _), (8, _), (55, _)] ?_
    refine QM.meetK (_) ⟨au2, rfl, rfl, rfl, rfl, trivial⟩ au1 ?_
    · (simp [h1, h2, h3]; done)
   refine LM.sp 43 rfl rfl rfl <| LM.val (ovf 22 rfl rfl rfl rfl) <| LM.sp 43 rfl rfl rfl ?_
   refine LM.rd (oml rfl rfl rfl) ?_
   refine LM.sp 43 rfl rfl rfl <| LM.val (ov_len Try.underlying22 rfl) <| LM.sp 43 rfl rfl rfl <| LM.val (ov_eql rfl rfl) <| LM.sp 43 rfl rfl rfl <| LM.mv rfl ?_
   refine LM.splitD (t := 48) rfl (fun h4 => ?_) (fun h4 => ?_)
   ·
    refine LM.sp 48 rfl rfl rfl <| LM.mv rfl <| LM.sp 48 rfl rfl rfl <| LM.nc rfl <| LM.sp 48 rfl rfl rfl <| LM.val (ovf 3 rfl rfl rfl rfl) <| LM.sp 48 rfl rfl rfl ?_
    refine LM.rd (oml rfl rfl rfl) ?_
    refine LM.sp 48 rfl rfl rfl <| LM.val (ov_eql rfl rfl) <| LM.sp 43 rfl rfl rfl <| LM.val (ov_pickT rfl rfl) <| LM.val (ov_pickF rfl rfl) <| nC [(0, _), (4, _), (7, _), (8, _), (55, _)] ?_
    refine QM.meetK (_) ⟨au2, rfl, rfl, rfl, rfl, trivial⟩ au1 ?_
    · (simp [h1, h2, h3, h4]; done)
   refine LM.dr 48 rfl rfl rfl <| LM.dr 48 rfl rfl rfl <| LM.dr 48 rfl rfl rfl <| LM.dr 48 rfl rfl rfl <| LM.dr 48 rfl rfl rfl <| LM.sp 43 rfl rfl rfl <| LM.val (ov_pickF rfl rfl) <| LM.val (ov_pickF rfl rfl) <| nC [(0, _), (4, _), (7, _), (8, _), (55, _)] ?_
   refine QM.meetK (_) ⟨au2, rfl, rfl, rfl, rfl, trivial⟩ au1 ?_
   · (have h0 := decide_eq_false (show ¬ ((ng : Nat) : Int) = 0 by omega); simp only [h0, h1, h2, h3, h4, Bool.false_and, Bool.or_false]; rfl)
  rintro q hq
  change QM _ _ _ _ _ (mg ++ qB b29 ad n cap i e :: (b8, sO (sA ws i0).2.2 (sB2 ws i0).2.2 adg ng cg none 0 0 none 0 0) :: (b4, z0) :: []) _ _ _
  refine QM.then ?_
  refine wpM.condB rfl (fun h5 => ?_) (fun h5 => ?_)
  ·
   have hQ : (isE ws i e 1 wGroup || (decide (gs.length = 0) && decide (e = 0))) = true := (by rw [← h5, hq, hng, cond0])
   refine wpM.skip <| QM.then <| wpM.block <| wpM.seq <| wR <| LM.mv rfl ?_
   refine cE Try.func22 rfl (fun w hm hc hg => qis_spec b29 i e 1 wGroup w hn (hl.ext hc) (SubM.mem au1 w hm)) ?_
   refine LM.mv rfl ?_
   refine LM.splitB (t := 58) rfl (fun h6 => ?_) (fun h6 => ?_)
   ·
    refine LM.sp 58 rfl rfl rfl <| LM.mv rfl <| LM.sp 58 rfl rfl rfl <| LM.val (ovf 22 rfl rfl rfl rfl) <| LM.sp 58 rfl rfl rfl ?_
    refine LM.rd (oml rfl rfl rfl) ?_
    refine LM.sp 58 rfl rfl rfl <| LM.val (ov_len Try.underlying22 rfl) <| LM.sp 58 rfl rfl rfl ?_
    refine LM.cW (oc_call (enters_fn Try.func23 kr rfl) rfl) (fun w hm hc hg => qlong_spec (ws := ws) b29 i e (ng : Nat) 4 w (SubM.mem au1 w hm)) rfl au8 ?_
    refine LM.val (ov_pickT rfl rfl) <| nA [(0, _), (4, _), (7, _), (8, _), (64, _)] ?_
    refine wpM.condB rfl (fun h7 => ?_) (fun h7 => ?_)
    ·
     have he0 := (isE_lt h6).2; have h4 : (4 : Int) ≤ (ng : Nat) := (by simpa [he0] using h7); rw [if_pos ⟨he0, h4⟩]
     refine wpM.exit <| QM.then_exit <| QM.block_miss rfl <| QM.then_exit <| QM.block_hit ?_
     refine QM.meetK ((i, 6, gs, adg, ng, cg, mg)) ⟨rfl, rfl, rfl, rfl, trivial⟩ au1 ?_
     · exact ⟨by rw [← hG]; exact gpM_full h6 om, hi, hg4, hng, hsg⟩
    have h4 : ¬ (4 : Int) ≤ (ng : Nat) := (fun q => by rw [decide_eq_true q] at h7; simp at h7); rw [if_neg (fun q => h4 q.2)]
    refine wpM.skip <| QM.then <| wpM.seq ?_
    refine wpM.keep ((b8, _) :: []) (fun _ => True) (.one 0 0 (.one 1 1 (.one 2 0 (.one 3 2 (.one 4 2 (.one 5 2 (.one 6 0 (.last 7)))))))) kr kr au1 (fun _ _ => trivial) ?_
    refine KD.val rfl rfl (ovf 22 rfl rfl rfl rfl) ?_
    refine KD.rd rfl rfl (oml rfl rfl rfl) ?_
    refine KD.val rfl rfl (ov_move rfl) <| KD.one rfl ?_
    refine LM.cW (oc_call (enters_fn Try.func20 kr rfl) rfl) (fun w hm hc hg => qfield_spec b29 i e 16 wGroup w hn hx (hl.ext hc) hab29 (SubM.mem au1 w hm)) rfl au8 ?_
    refine LM.nil ?_
    refine kq1 ?_
    refine KD.one rfl ?_
    refine LM.single Try.underlying22 Try.sizeOf3 Try.zeroValue3 rfl rfl rfl rfl rfl (fun b69 hb69 => ?_)
    refine LM.nil ?_
    refine kq1 ?_
    refine KD.one rfl ?_
    refine LM.app (a := (fldE ws i e wGroup 16).2.2) Try.underlying22 Try.typeInfo3 rfl rfl rfl rfl rfl rfl rfl asm (by rfl) ir (by intro _ u hu; simp [fI] at hu; (repeat (first | (rcases hu with rfl | hu) | subst hu | rfl))) (by first | exact Nat.le_refl _ | omega) au10 (by first | omega | (unfold maxLen; omega)) (by simp only [Try.t3]; omega) (fun ad70 n70 cap70 m70 hn70 hs70 hin70 => ?_)
    refine LM.nil ?_
    refine kq1 ?_
    refine KD.val rfl rfl (ovf 22 rfl rfl rfl rfl) ?_
    refine KD.last rfl ?_
    refine LM.st Try.sizeOf22 rfl rfl rfl au5 rfl au8 ?_
    refine LM.nil ?_
    refine QM.qn ?_
    refine QM.sub (e' := [(0, _), (4, _), (7, _), (8, _)]) au9 (QM.then (wpM.region ?_))
    refine LM.mv rfl ?_
    refine LM.cW (oc_call (enters_fn Try.func21 kr rfl) rfl) (fun w hm hc hg => qneed_spec b29 (fldE ws i e wGroup 16).1 (fldE ws i e wGroup 16).2.1 3 [59] w hn hx (hl.ext hc) hab29 (SubM.mem au1 w hm)) rfl au8 ?_
    refine nC [(0, _), (4, _), (7, _), (8, _)] <| QM.block_normal ?_
    refine QM.againK (((linE ws i e wGroup 16).1, (linE ws i e wGroup 16).2.1, gs ++ [(linE ws i e wGroup 16).2.2], ad70, n70, cap70, m70)) ⟨rfl, rfl, rfl, rfl, trivial⟩ au1 (fun _ h => h) ?_ ?_
    · exact ⟨by rw [← gpM_next hQ om]; exact hG, lin_le hi, by simp; omega, by rw [hn70]; simp, hs70⟩
    · dsimp only; rw [List.length_append, List.length_singleton]; omega
   have hg0 : gs.length = 0 := (by have h := hQ; simp only [h6, Bool.false_or, Bool.and_eq_true, decide_eq_true_eq] at h; exact h.1)
   refine LM.dr 58 rfl rfl rfl <| LM.dr 58 rfl rfl rfl <| LM.dr 58 rfl rfl rfl <| LM.dr 58 rfl rfl rfl <| LM.dr 58 rfl rfl rfl <| LM.val (ov_pickF rfl rfl) <| nA [(0, _), (4, _), (7, _), (8, _), (64, _)] ?_
   refine wpM.condF rfl ?_
   refine wpM.skip <| QM.then <| wpM.seq ?_
   refine wpM.keep ((b8, _) :: []) (fun _ => True) (.one 0 0 (.one 1 1 (.one 2 0 (.one 3 2 (.one 4 2 (.one 5 2 (.one 6 0 (.last 7)))))))) kr kr au1 (fun _ _ => trivial) ?_
   refine KD.val rfl rfl (ovf 22 rfl rfl rfl rfl) ?_
   refine KD.rd rfl rfl (oml rfl rfl rfl) ?_
   refine KD.val rfl rfl (ov_move rfl) <| KD.one rfl ?_
   refine LM.cW (oc_call (enters_fn Try.func20 kr rfl) rfl) (fun w hm hc hg => qfield_spec b29 i e 16 wGroup w hn hx (hl.ext hc) hab29 (SubM.mem au1 w hm)) rfl au8 ?_
   refine LM.nil ?_
   refine kq1 ?_
   refine KD.one rfl ?_
   refine LM.single Try.underlying22 Try.sizeOf3 Try.zeroValue3 rfl rfl rfl rfl rfl (fun b69 hb69 => ?_)
   refine LM.nil ?_
   refine kq1 ?_
   refine KD.one rfl ?_
   refine LM.app (a := (fldE ws i e wGroup 16).2.2) Try.underlying22 Try.typeInfo3 rfl rfl rfl rfl rfl rfl rfl asm (by rfl) ir (by intro _ u hu; simp [fI] at hu; (repeat (first | (rcases hu with rfl | hu) | subst hu | rfl))) (by first | exact Nat.le_refl _ | omega) au10 (by first | omega | (unfold maxLen; omega)) (by simp only [Try.t3]; omega) (fun ad70 n70 cap70 m70 hn70 hs70 hin70 => ?_)
   refine LM.nil ?_
   refine kq1 ?_
   refine KD.val rfl rfl (ovf 22 rfl rfl rfl rfl) ?_
   refine KD.last rfl ?_
   refine LM.st Try.sizeOf22 rfl rfl rfl au5 rfl au8 ?_
   refine LM.nil ?_
   refine QM.qn ?_
   refine QM.sub (e' := [(0, _), (4, _), (7, _), (8, _)]) au9 (QM.then (wpM.region ?_))
   refine LM.mv rfl ?_
   refine LM.cW (oc_call (enters_fn Try.func21 kr rfl) rfl) (fun w hm hc hg => qneed_spec b29 (fldE ws i e wGroup 16).1 (fldE ws i e wGroup 16).2.1 3 [59] w hn hx (hl.ext hc) hab29 (SubM.mem au1 w hm)) rfl au8 ?_
   refine nC [(0, _), (4, _), (7, _), (8, _)] <| QM.block_normal ?_
   refine QM.againK (((linE ws i e wGroup 16).1, (linE ws i e wGroup 16).2.1, gs ++ [(linE ws i e wGroup 16).2.2], ad70, n70, cap70, m70)) ⟨rfl, rfl, rfl, rfl, trivial⟩ au1 (fun _ h => h) ?_ ?_
   · exact ⟨by rw [← gpM_next hQ om]; exact hG, lin_le hi, by simp; omega, by rw [hn70]; simp, hs70⟩
   · dsimp only; rw [List.length_append, List.length_singleton]; omega
  refine wpM.exit <| QM.then_exit <| QM.then_exit <| QM.block_hit ?_
  refine QM.meetK ((i, e, gs, adg, ng, cg, mg)) ⟨rfl, rfl, rfl, rfl, trivial⟩ au1 ?_
  · exact ⟨by rw [← hG]; exact gpM_stop (by rw [← h5, hq, hng, cond0]), hi, hg4, hng, hsg⟩
 rintro ⟨i1, e1, gs, adg, ng, cg, mg⟩ ⟨hG, hi1, hg4, hng, hsg⟩
 change QM _ _ _ _ _ (mg ++ qB b29 ad n cap i1 e1 :: (b8, sO (sA ws i0).2.2 (sB2 ws i0).2.2 adg ng cg none 0 0 none 0 0) :: (b4, z0) :: []) _ _ _
 refine QM.then <| wpM.seq ?_
 refine wpM.joinK (α := Nat × Int × List CLk × Option Addr × Nat × Nat × Mem0) (fun ⟨i2, e2, ls, adl, nl, cl, ml⟩ => []) [(0, _), (4, _), (7, _), (8, _)] (fun ⟨i2, e2, ls, adl, nl, cl, ml⟩ => ml ++ (mg ++ (qB b29 ad n cap i2 e2 :: (b8, sO (sA ws i0).2.2 (sB2 ws i0).2.2 adg ng cg adl nl cl none 0 0) :: (b4, z0) :: []))) (fun ⟨i2, e2, ls, adl, nl, cl, ml⟩ => lkL ws i1 e1 [] = (ls, i2, e2) ∧ i2 ≤ ws.length ∧ ls.length ≤ 8 ∧ nl = ls.length ∧ Sl fL 78 5 w.heap.size ls (.slice adl nl cl) ml) ⟨rfl, rfl, rfl, rfl, trivial⟩ ?_ ?_
 ·
  refine wpM.block ?_
  refine wpM.loopK0 (α := Nat × Int × List CLk × Option Addr × Nat × Nat × Mem0) (fun ⟨i, e, ls, adl, nl, cl, ml⟩ => []) [(0, _), (4, _), (7, _), (8, _)] (fun ⟨i, e, ls, adl, nl, cl, ml⟩ => ml ++ (mg ++ (qB b29 ad n cap i e :: (b8, sO (sA ws i0).2.2 (sB2 ws i0).2.2 adg ng cg adl nl cl none 0 0) :: (b4, z0) :: []))) (fun ⟨i, e, ls, adl, nl, cl, ml⟩ => lkL ws i e ls = lkL ws i1 e1 [] ∧ i ≤ ws.length ∧ ls.length ≤ 8 ∧ nl = ls.length ∧ Sl fL 78 5 w.heap.size ls (.slice adl nl cl) ml) (fun ⟨i, e, ls, adl, nl, cl, ml⟩ => 9 - ls.length) ((i1, e1, [], none, 0, 0, [])) ⟨rfl, rfl, rfl, rfl, trivial⟩ au1 ⟨rfl, hi1, by decide, rfl, .nil _ _ _ _⟩ ?_
  rintro ⟨i, e, ls, adl, nl, cl, ml⟩ ⟨hL, hi, hl8, hnl, hsl⟩
  change wpM _ _ _ _ _ _ _ (ml ++ (mg ++ (qB b29 ad n cap i e :: (b8, sO (sA ws i0).2.2 (sB2 ws i0).2.2 adg ng cg adl nl cl none 0 0) :: (b4, z0) :: []))) _ _ _
  refine wpM.seq <| wpM.seq ?_
  refine wpM.joinK (α := Bool) (fun q => [(79, .bool q)]) [(0, _), (4, _), (7, _), (8, _)] (fun q => ml ++ (mg ++ (qB b29 ad n cap i e :: (b8, sO (sA ws i0).2.2 (sB2 ws i0).2.2 adg ng cg adl nl cl none 0 0) :: (b4, z0) :: []))) (fun q => q = isL ws i e) ⟨rfl, rfl, rfl, rfl, trivial⟩ ?_ ?_
  ·
   refine wpM.region ?_
   refine LM.mv rfl ?_
   refine cE Try.func22 rfl (fun w hm hc hg => qis_spec b29 i e 1 wLock w hn (hl.ext hc) (SubM.mem au1 w hm)) ?_
   refine LM.mv rfl ?_
   refine LM.splitB (t := 76) rfl (fun h8 => ?_) (fun h8 => ?_)
   ·
    refine LM.dr 76 rfl rfl rfl <| LM.dr 76 rfl rfl rfl <| LM.val (ov_pickT rfl rfl) <| nC [(0, _), (4, _), (7, _), (8, _), (79, _)] ?_
    refine QM.meetK (_) ⟨au2, rfl, rfl, rfl, rfl, trivial⟩ au1 ?_
    · simp [isL, h1, h2, h8]
   refine LM.sp 76 rfl rfl rfl <| LM.mv rfl <| LM.sp 76 rfl rfl rfl ?_
   refine cE Try.func22 rfl (fun w hm hc hg => qis_spec b29 i e 1 wShared w hn (hl.ext hc) (SubM.mem au1 w hm)) ?_
   refine LM.val (ov_pickF rfl rfl) <| nC [(0, _), (4, _), (7, _), (8, _), (79, _)] ?_
   refine QM.meetK (_) ⟨au2, rfl, rfl, rfl, rfl, trivial⟩ au1 ?_
   · simp [isL, h1, h2, h8]
  rintro q hq
  change QM _ _ _ _ _ (ml ++ (mg ++ (qB b29 ad n cap i e :: (b8, sO (sA ws i0).2.2 (sB2 ws i0).2.2 adg ng cg adl nl cl none 0 0) :: (b4, z0) :: []))) _ _ _
  refine QM.then ?_
  refine wpM.condB rfl (fun h9 => ?_) (fun h9 => ?_)
  ·
   have hQ : isL ws i e = true := (by rw [← hq, h9]); have he0 := (isL_lt hQ).2; have hlt := (isL_lt hQ).1
   refine wpM.skip <| QM.then <| wpM.block <| wpM.seq <| wR <| LM.mv rfl <| LM.val (ovf 23 rfl rfl rfl rfl) ?_
   refine LM.rd (oml rfl rfl rfl) ?_
   refine LM.val (ov_len Try.underlying23 rfl) ?_
   refine LM.cW (oc_call (enters_fn Try.func23 kr rfl) rfl) (fun w hm hc hg => qlong_spec (ws := ws) b29 i e (nl : Nat) 8 w (SubM.mem au1 w hm)) rfl au8 ?_
   refine nA [(0, _), (4, _), (7, _), (8, _), (84, _)] ?_
   refine wpM.condB rfl (fun h10 => ?_) (fun h10 => ?_)
   ·
    have h4 : (8 : Int) ≤ (nl : Nat) := (by simpa [he0] using h10); rw [if_pos ⟨he0, h4⟩]
    refine wpM.exit <| QM.then_exit <| QM.block_miss rfl <| QM.then_exit <| QM.block_hit ?_
    refine QM.meetK ((i, 6, ls, adl, nl, cl, ml)) ⟨rfl, rfl, rfl, rfl, trivial⟩ au1 ?_
    · exact ⟨by rw [← hL]; exact lkL_full hQ om, hi, hl8, hnl, hsl⟩
   have h4 : ¬ (8 : Int) ≤ (nl : Nat) := (fun q => by rw [decide_eq_true q] at h10; simp at h10); rw [if_neg (fun q => h4 q.2)]
   refine wpM.skip <| tR <| LM.mv rfl ?_
   refine cE Try.func22 rfl (fun w hm hc hg => qis_spec b29 i e 1 wShared w hn (hl.ext hc) (SubM.mem au1 w hm)) ?_
   refine LM.as rfl <| nB [(0, _), (4, _), (7, _), (8, _), (9, _)] <| LM.mv rfl <| LM.nc rfl <| LM.val (ovf 3 rfl rfl rfl rfl) ?_
   refine LM.rd (oml rfl rfl rfl) ?_
   refine LM.val (ov_add64 rfl rfl om) ?_
   refine LM.nc rfl <| LM.val (ovf 3 rfl rfl rfl rfl) ?_
   refine LM.st Try.sizeOf3 rfl rfl rfl au5 rfl au8 ?_
   refine nA [(0, _), (4, _), (7, _), (8, _), (9, _)] ?_
   refine wpM.keep ((b8, _) :: []) (fun _ => True) (.one 0 0 (.one 1 1 (.one 2 0 (.one 3 0 (.one 4 2 (.one 5 2 (.one 6 2 (.one 7 0 (.last 8))))))))) kr kr au1 (fun _ _ => trivial) ?_
   refine KD.val rfl rfl (ovf 23 rfl rfl rfl rfl) ?_
   refine KD.rd rfl rfl (oml rfl rfl rfl) ?_
   refine KD.val rfl rfl (ov_move rfl) <| KD.val rfl rfl (ov_move rfl) <| KD.one rfl ?_
   refine LM.cW (oc_call (enters_fn Try.func24 kr rfl) rfl) (fun w hm hc hg => qlock_spec (isE ws i e 1 wShared) b29 (i + 1) e w hn hx (hl.ext hc) hab29 (SubM.mem au1 w hm)) rfl au8 ?_
   refine LM.nil ?_
   refine kq1 ?_
   refine KD.one rfl ?_
   refine LM.single Try.underlying23 Try.sizeOf78 Try.zeroValue78 rfl rfl rfl rfl rfl (fun b99 hb99 => ?_)
   refine LM.nil ?_
   refine kq1 ?_
   refine KD.one rfl ?_
   refine LM.app (a := (lckE ws (isE ws i e 1 wShared) (i + 1) e).2.2) Try.underlying23 Try.typeInfo78 rfl rfl rfl rfl rfl rfl rfl asm (by rfl) ir (by intro _ u hu; simp [fL] at hu; (repeat (first | (rcases hu with rfl | hu) | subst hu | rfl))) (by first | exact Nat.le_refl _ | omega) au10 (by first | omega | (unfold maxLen; omega)) (by simp only [Try.t78]; omega) (fun ad100 n100 cap100 m100 hn100 hs100 hin100 => ?_)
   refine LM.nil ?_
   refine kq1 ?_
   refine KD.val rfl rfl (ovf 23 rfl rfl rfl rfl) ?_
   refine KD.last rfl ?_
   refine LM.st Try.sizeOf23 rfl rfl rfl au5 rfl au8 ?_
   refine LM.nil ?_
   refine QM.qn ?_
   refine QM.sub (e' := [(0, _), (4, _), (7, _), (8, _)]) au9 ?_
   refine QM.block_normal ?_
   refine QM.againK (((lckE ws (isE ws i e 1 wShared) (i + 1) e).1, (lckE ws (isE ws i e 1 wShared) (i + 1) e).2.1, ls ++ [(lckE ws (isE ws i e 1 wShared) (i + 1) e).2.2], ad100, n100, cap100, m100)) ⟨rfl, rfl, rfl, rfl, trivial⟩ au1 (fun _ h => h) ?_ ?_
   · exact ⟨by rw [← lkL_next hQ om]; exact hL, lck_le om, by simp; omega, by rw [hn100]; simp, hs100⟩
   · dsimp only; rw [List.length_append, List.length_singleton]; omega
  refine wpM.exit <| QM.then_exit <| QM.then_exit <| QM.block_hit ?_
  refine QM.meetK ((i, e, ls, adl, nl, cl, ml)) ⟨rfl, rfl, rfl, rfl, trivial⟩ au1 ?_
  · exact ⟨by rw [← hL]; exact lkL_stop (by rw [← hq, h9]), hi, hl8, hnl, hsl⟩
 rintro ⟨i2, e2, ls, adl, nl, cl, ml⟩ ⟨hL, hi2, hl8, hnl, hsl⟩
 change QM _ _ _ _ _ (ml ++ (mg ++ (qB b29 ad n cap i2 e2 :: (b8, sO (sA ws i0).2.2 (sB2 ws i0).2.2 adg ng cg adl nl cl none 0 0) :: (b4, z0) :: []))) _ _ _
 refine tR <| LM.as rfl <| nA [(0, _), (4, _), (7, _), (8, _), (10, _)] <| wpM.seq ?_
 refine wpM.joinK (α := Nat × Int × List PgV × Option Addr × Nat × Nat × Mem0 × List Int × Option Addr × Nat × Nat × Mem0 × Mem0) (fun ⟨i3, e3, ps, adp, np, cp, mp, pl, adq, nq, cq, mq, mo⟩ => [(10, .slice adq nq cq)]) [(4, _), (7, _), (8, _)] (fun ⟨i3, e3, ps, adp, np, cp, mp, pl, adq, nq, cq, mq, mo⟩ => mo ++ (mp ++ (mq ++ (ml ++ (mg ++ (qB b29 ad n cap i3 e3 :: (b8, sO (sA ws i0).2.2 (sB2 ws i0).2.2 adg ng cg adl nl cl adp np cp) :: (b4, z0) :: [])))))) (fun ⟨i3, e3, ps, adp, np, cp, mp, pl, adq, nq, cq, mq, mo⟩ => pgL ws i2 e2 [] [] = (ps.map PgV.c, pl, i3, e3) ∧ i3 ≤ ws.length ∧ ps.length ≤ 8 ∧ np = ps.length ∧ Sl fPg 45 2 w.heap.size ps (.slice adp np cp) mp ∧ pl.length = ps.length ∧ nq = pl.length ∧ Sl fI 3 1 w.heap.size pl (.slice adq nq cq) mq ∧ (∀ w, Mem w mo → PgsIn ps w) ∧ (∀ p ∈ mo, w.heap.size ≤ p.1)) ⟨rfl, rfl, rfl, trivial⟩ ?_ ?_
 ·
  refine wpM.block ?_
  refine wpM.loopK0 (α := Nat × Int × List PgV × Option Addr × Nat × Nat × Mem0 × List Int × Option Addr × Nat × Nat × Mem0 × Mem0) (fun ⟨i, e, ps, adp, np, cp, mp, pl, adq, nq, cq, mq, mo⟩ => [(10, .slice adq nq cq)]) [(0, _), (4, _), (7, _), (8, _)] (fun ⟨i, e, ps, adp, np, cp, mp, pl, adq, nq, cq, mq, mo⟩ => mo ++ (mp ++ (mq ++ (ml ++ (mg ++ (qB b29 ad n cap i e :: (b8, sO (sA ws i0).2.2 (sB2 ws i0).2.2 adg ng cg adl nl cl adp np cp) :: (b4, z0) :: [])))))) (fun ⟨i, e, ps, adp, np, cp, mp, pl, adq, nq, cq, mq, mo⟩ => pgL ws i e (ps.map PgV.c) pl = pgL ws i2 e2 [] [] ∧ i ≤ ws.length ∧ ps.length ≤ 8 ∧ np = ps.length ∧ Sl fPg 45 2 w.heap.size ps (.slice adp np cp) mp ∧ pl.length = ps.length ∧ nq = pl.length ∧ Sl fI 3 1 w.heap.size pl (.slice adq nq cq) mq ∧ (∀ w, Mem w mo → PgsIn ps w) ∧ (∀ p ∈ mo, w.heap.size ≤ p.1)) (fun ⟨i, e, ps, adp, np, cp, mp, pl, adq, nq, cq, mq, mo⟩ => 9 - ps.length) ((i2, e2, [], none, 0, 0, [], [], none, 0, 0, [], [])) ⟨au2, rfl, rfl, rfl, rfl, trivial⟩ au1 ⟨rfl, hi2, by decide, rfl, .nil _ _ _ _, rfl, rfl, .nil _ _ _ _, (fun w _ p hp => by cases hp), (fun p hp => by cases hp)⟩ ?_
  rintro ⟨i, e, ps, adp, np, cp, mp, pl, adq, nq, cq, mq, mo⟩ ⟨hP, hi, hp8, hnp, hsp, hplp, hnq, hsq, hop, hog⟩
  change wpM _ _ _ _ _ _ _ (mo ++ (mp ++ (mq ++ (ml ++ (mg ++ (qB b29 ad n cap i e :: (b8, sO (sA ws i0).2.2 (sB2 ws i0).2.2 adg ng cg adl nl cl adp np cp) :: (b4, z0) :: [])))))) _ _ _
  refine wpM.seq <| wpM.seq ?_
  refine wpM.joinK (α := Bool) (fun q => [(116, .bool q)]) [(0, _), (4, _), (7, _), (8, _), (10, _)] (fun q => mo ++ (mp ++ (mq ++ (ml ++ (mg ++ (qB b29 ad n cap i e :: (b8, sO (sA ws i0).2.2 (sB2 ws i0).2.2 adg ng cg adl nl cl adp np cp) :: (b4, z0) :: [])))))) (fun q => q = (isE ws i e 1 wProg || (decide ((np : Int) = 0) && decide (e = 0)))) ⟨rfl, rfl, rfl, rfl, rfl, trivial⟩ ?_ ?_
  ·
   refine wpM.region ?_
   refine LM.mv rfl ?_
   refine cE Try.func22 rfl (fun w hm hc hg => qis_spec b29 i e 1 wProg w hn (hl.ext hc) (SubM.mem au1 w hm)) ?_
   refine LM.mv rfl ?_
   refine LM.splitB (t := 104) rfl (fun h11 => ?_) (fun h11 => ?_)
   ·
    refine LM.dr 104 rfl rfl rfl <| LM.dr 104 rfl rfl rfl <| LM.dr 104 rfl rfl rfl <| LM.dr 104 rfl rfl rfl ?_
    refine LM.dropU (t := 104) rfl rfl rfl ?_
    refine LM.dropX (t := 109) rfl rfl ?_
    refine LM.dropX (t := 109) rfl rfl ?_
    refine LM.dropX (t := 109) rfl rfl ?_
    refine LM.dropX (t := 109) rfl rfl ?_
    refine LM.dropX (t := 109) rfl rfl ?_
    refine LM.dr 104 rfl rfl rfl <| LM.val (ov_pickT rfl rfl) <| nC [(0, _), (4, _), (7, _), (8, _), (10, _), (116, _)] ?_
    refine QM.meetK (_) ⟨au2, rfl, rfl, rfl, rfl, rfl, trivial⟩ au1 ?_
    · (simp [h1, h2, h11]; done)
   refine LM.sp 104 rfl rfl rfl <| LM.val (ovf 24 rfl rfl rfl rfl) <| LM.sp 104 rfl rfl rfl ?_
   refine LM.rd (oml rfl rfl rfl) ?_
   refine LM.sp 104 rfl rfl rfl <| LM.val (ov_len Try.underlying24 rfl) <| LM.sp 104 rfl rfl rfl <| LM.val (ov_eql rfl rfl) <| LM.sp 104 rfl rfl rfl <| LM.mv rfl ?_
   refine LM.splitD (t := 109) rfl (fun h12 => ?_) (fun h12 => ?_)
   ·
    refine LM.sp 109 rfl rfl rfl <| LM.mv rfl <| LM.sp 109 rfl rfl rfl <| LM.nc rfl <| LM.sp 109 rfl rfl rfl <| LM.val (ovf 3 rfl rfl rfl rfl) <| LM.sp 109 rfl rfl rfl ?_
    refine LM.rd (oml rfl rfl rfl) ?_
    refine LM.sp 109 rfl rfl rfl <| LM.val (ov_eql rfl rfl) <| LM.sp 104 rfl rfl rfl <| LM.val (ov_pickT rfl rfl) <| LM.val (ov_pickF rfl rfl) <| nC [(0, _), (4, _), (7, _), (8, _), (10, _), (116, _)] ?_
    refine QM.meetK (_) ⟨au2, rfl, rfl, rfl, rfl, rfl, trivial⟩ au1 ?_
    · (simp [h1, h2, h11, h12]; done)
   refine LM.dr 109 rfl rfl rfl <| LM.dr 109 rfl rfl rfl <| LM.dr 109 rfl rfl rfl <| LM.dr 109 rfl rfl rfl <| LM.dr 109 rfl rfl rfl <| LM.sp 104 rfl rfl rfl <| LM.val (ov_pickF rfl rfl) <| LM.val (ov_pickF rfl rfl) <| nC [(0, _), (4, _), (7, _), (8, _), (10, _), (116, _)] ?_
   refine QM.meetK (_) ⟨au2, rfl, rfl, rfl, rfl, rfl, trivial⟩ au1 ?_
   · (have h0 := decide_eq_false (show ¬ ((np : Nat) : Int) = 0 by omega); simp only [h0, h1, h2, h11, h12, Bool.false_and, Bool.or_false]; rfl)
  rintro q hq
  change QM _ _ _ _ _ (mo ++ (mp ++ (mq ++ (ml ++ (mg ++ (qB b29 ad n cap i e :: (b8, sO (sA ws i0).2.2 (sB2 ws i0).2.2 adg ng cg adl nl cl adp np cp) :: (b4, z0) :: [])))))) _ _ _
  refine QM.then ?_
  refine wpM.condB rfl (fun h13 => ?_) (fun h13 => ?_)
  ·
   have hQ : isP ws i e (ps.map PgV.c) = true := (by rw [isP_eq, List.length_map, ← h13, hq, hnp, cond0]); have he0 := isP_zero hQ
   refine wpM.skip <| QM.then <| wpM.block <| wpM.seq <| wR <| LM.mv rfl <| LM.val (ovf 24 rfl rfl rfl rfl) ?_
   refine LM.rd (oml rfl rfl rfl) ?_
   refine LM.val (ov_len Try.underlying24 rfl) ?_
   refine LM.cW (oc_call (enters_fn Try.func23 kr rfl) rfl) (fun w hm hc hg => qlong_spec (ws := ws) b29 i e (np : Nat) 8 w (SubM.mem au1 w hm)) rfl au8 ?_
   refine nA [(0, _), (4, _), (7, _), (8, _), (10, _), (121, _)] ?_
   refine wpM.condB rfl (fun h14 => ?_) (fun h14 => ?_)
   ·
    have h4 : (8 : Int) ≤ (np : Nat) := (by simpa [he0] using h14); rw [if_pos ⟨he0, h4⟩]
    refine wpM.exit <| QM.then_exit <| QM.block_miss rfl <| QM.then_exit <| QM.block_hit ?_
    refine QM.meetK ((i, 6, ps, adp, np, cp, mp, pl, adq, nq, cq, mq, mo)) ⟨au2, rfl, rfl, rfl, trivial⟩ au1 ?_
    · exact ⟨by rw [← hP]; exact pgL_full hQ (by simp; omega), hi, hp8, hnp, hsp, hplp, hnq, hsq, hop, hog⟩
   have h4 : ¬ (8 : Int) ≤ (np : Nat) := (fun q => by rw [decide_eq_true q] at h14; simp at h14); rw [if_neg (fun q => h4 q.2)]
   refine wpM.skip <| tR <| LM.mv rfl <| LM.mv rfl <| LM.nc rfl <| LM.val (ovf 3 rfl rfl rfl rfl) ?_
   refine LM.rd (oml rfl rfl rfl) ?_
   refine LM.single Try.underlying22 Try.sizeOf3 Try.zeroValue3 rfl rfl rfl rfl rfl (fun b127 hb127 => ?_)
   refine LM.app (a := (i : Int)) Try.underlying22 Try.typeInfo3 rfl rfl rfl rfl rfl rfl rfl asm (by rfl) ir (by intro _ u hu; simp [fI] at hu; (repeat (first | (rcases hu with rfl | hu) | subst hu | rfl))) (by first | exact Nat.le_refl _ | omega) au10 (by first | omega | (unfold maxLen; omega)) (by simp only [Try.t3]; omega) (fun ad128 n128 cap128 m128 hn128 hs128 hin128 => ?_)
   refine LM.as rfl <| nB [(0, _), (4, _), (7, _), (8, _), (10, _)] <| LM.mv rfl <| LM.mv rfl <| LM.nc rfl <| LM.val (ovf 3 rfl rfl rfl rfl) ?_
   refine LM.rd (oml rfl rfl rfl) ?_
   refine LM.callT (oc_call (enters_fn Try.func25 kr rfl) rfl) ParT.mono (fun w hm hc hg => rparse_spec (i : Nat) w hn hx (hl.ext hc)) ?_
   rintro u135 m135 ⟨ad135, n135, cap135, rfl, hn135, hs135⟩ hge135; have hpp := par_pos hi; obtain ⟨j9, hj9⟩ : ∃ j : Nat, (parseO ws (i : Int)).2.2.1 = (j : Int) := ⟨_, (Int.toNat_of_nonneg hpp.1).symm⟩; rw [hj9]
   refine LM.mv rfl <| LM.val (ov_extract rfl rfl) <| LM.val (ov_extract rfl rfl) <| LM.val (ov_extract rfl rfl) ?_
   refine LM.alloc Try.zeroValue45 rfl (fun b11 hb11 => ?_)
   refine LM.stW Try.sizeOf45 rfl rfl rfl rfl au7 au8 ?_
   refine LM.as rfl <| LM.as rfl <| nB [(0, _), (4, _), (7, _), (8, _), (10, _), (11, _), (12, _), (13, _)] <| LM.val (ovf 24 rfl rfl rfl rfl) ?_
   refine LM.rd (oml rfl rfl rfl) ?_
   refine LM.rd (om_ldW Try.isAgg45 Try.sizeOf45 rfl rfl) ?_
   refine LM.single Try.underlying24 Try.sizeOf45 Try.zeroValue45 rfl rfl rfl rfl rfl (fun b142 hb142 => ?_)
   refine LM.app (a := (⟨prC (parseO ws (i : Int)), ad135, n135, cap135⟩ : PgV)) Try.underlying24 Try.typeInfo45 rfl rfl rfl rfl rfl rfl rfl asm (by rfl) ir (by intro _ u hu; simp [fPg] at hu; (repeat (first | (rcases hu with rfl | hu) | subst hu | rfl))) (by first | exact Nat.le_refl _ | omega) au10 (by first | omega | (unfold maxLen; omega)) (by simp only [Try.t45]; omega) (fun ad143 n143 cap143 m143 hn143 hs143 hin143 => ?_)
   refine LM.val (ovf 24 rfl rfl rfl rfl) ?_
   refine LM.st Try.sizeOf24 rfl rfl rfl au5 rfl au8 ?_
   refine nB [(0, _), (4, _), (7, _), (8, _), (10, _), (12, _), (13, _)] <| LM.mv rfl <| LM.mv rfl <| LM.nc rfl <| LM.val (ovf 3 rfl rfl rfl rfl) ?_
   refine LM.st Try.sizeOf3 rfl rfl rfl au5 rfl au8 ?_
   refine LM.nil (QM.sub (e' := [(0, _), (4, _), (7, _), (8, _), (10, _), (13, _)]) au9 (QM.then (wpM.region ?_)))
   refine LM.mv rfl <| LM.mv rfl <| LM.nc rfl <| LM.val (ovf 3 rfl rfl rfl rfl) ?_
   refine LM.st Try.sizeOf3 rfl rfl rfl au5 rfl au8 ?_
   refine nC [(0, _), (4, _), (7, _), (8, _), (10, _)] <| QM.block_normal ?_
   refine QM.againK ((j9, (parseO ws (i : Int)).2.2.2, ps ++ [(⟨prC (parseO ws (i : Int)), ad135, n135, cap135⟩ : PgV)], ad143, n143, cap143, m143, pl ++ [(i : Int)], ad128, n128, cap128, m128, m135 ++ mo)) ⟨au2, rfl, rfl, rfl, rfl, trivial⟩ au1 (fun _ h => h) ?_ ?_
   · exact ⟨by rw [snoc_map, ← hP, pgL_next hQ (by simp; omega), hj9, Int.toNat_natCast], by have := hpp.2; rw [hj9, Int.toNat_natCast] at this; exact this, by simp; omega, by rw [hn143]; simp, hs143, by simp [hplp], by rw [hn128]; simp, hs128, (fun w hm => snoc_in (hop w (hm.sub (List.sublist_append_right _ _))) ⟨hn135, sr_of_sl hs135 (fun _ => rfl) (hm.sub (List.sublist_append_left _ _))⟩), List.forall_mem_append.2 ⟨hge135, hog⟩⟩
   · dsimp only; rw [List.length_append, List.length_singleton]; omega
  refine wpM.exit <| QM.then_exit <| QM.then_exit <| QM.block_hit ?_
  refine QM.meetK ((i, e, ps, adp, np, cp, mp, pl, adq, nq, cq, mq, mo)) ⟨au2, rfl, rfl, rfl, trivial⟩ au1 ?_
  · exact ⟨by rw [← hP]; exact pgL_stop (by rw [isP_eq, List.length_map, ← h13, hq, hnp, cond0]), hi, hp8, hnp, hsp, hplp, hnq, hsq, hop, hog⟩
 rintro ⟨i3, e3, ps, adp, np, cp, mp, pl, adq, nq, cq, mq, mo⟩ ⟨hP, hi3, hp8, hnp, hsp, hplp, hnq, hsq, hop, hog⟩
 change QM _ _ _ _ _ (mo ++ (mp ++ (mq ++ (ml ++ (mg ++ (qB b29 ad n cap i3 e3 :: (b8, sO (sA ws i0).2.2 (sB2 ws i0).2.2 adg ng cg adl nl cl adp np cp) :: (b4, z0) :: [])))))) _ _ _
 refine QM.then <| wpM.seq <| wR <| LM.mv rfl <| LM.nc rfl <| LM.val (ovf 3 rfl rfl rfl rfl) ?_
 refine LM.rd (oml rfl rfl rfl) ?_
 refine LM.val (ov_neq rfl rfl) <| nA [(4, _), (7, _), (8, _), (10, _), (157, _)] ?_
 refine wpM.condD rfl (fun h15 => ?_) (fun h15 => ?_)
 ·
  have hI : SetI ws i0 gs i1 e1 ls i2 e2 (ps.map PgV.c) pl i3 e3 := ⟨⟨(gpM_sG hG).1, fun q => by rw [(gpM_sG hG).2 q]⟩, hL, hP⟩
  refine wpM.seq ?_
  refine wpM.keep ((b29, _) :: []) (fun _ => True) (.one 0 0 (.one 1 0 (.one 2 0 (.one 3 0 (.one 4 1 (.one 5 0 (.one 6 0 (.one 7 0 (.one 8 1 (.one 9 2 (.one 10 0 (.one 11 0 .nil)))))))))))) kr kr au1 (fun _ _ => trivial) ?_
  refine KD.val rfl rfl (ov_build (cs := #[_, _, _, _, _]) rfl (by first | rfl | kernel_rfl)) ?_
  refine KD.val rfl rfl (ov_move rfl) <| KD.val rfl rfl (ov_nilCheck rfl) <| KD.val rfl rfl (ovf 3 rfl rfl rfl rfl) ?_
  refine KD.rd rfl rfl (oml rfl rfl rfl) ?_
  refine KD.val rfl rfl (ov_move rfl) <| KD.val rfl rfl (ov_nilCheck rfl) <| KD.val rfl rfl (ovf 3 rfl rfl rfl rfl) ?_
  refine KD.rd rfl rfl (oml rfl rfl rfl) ?_
  refine KD.one rfl ?_
  refine LM.stW Try.sizeOf26 rfl rfl rfl rfl au7 au8 ?_
  refine LM.nil ?_
  refine kq1 ?_
  refine KD.val rfl rfl (ov_assign rfl) <| KD.val rfl rfl (ov_assign rfl) <| KD.nil ?_
  refine QM.sub (e' := [(4, _), (5, _), (6, _)]) au9 (QM.then ?_)
  refine wpM.ret <| QM.then_ret ?_
  refine QM.leaveCs (ds := ([])) (.inl rfl) [.cell 4 26, .tmp 5, .tmp 6] Try.results12 hd_nil (rc_w rfl Try.isAgg26 Try.sizeOf26 rfl (rc_tmp rfl (rc_tmp rfl rc_nil))) ?_
  intro w' hm' hc'
  rw [set_nat hi0, hI.bad h15]; exact ⟨hc', [], StT.none, Mem.nil _, fun p hp => by cases hp⟩
 have he3 : e3 = 0 := Classical.not_not.1 h15; have hI : SetI ws i0 gs i1 e1 ls i2 e2 (ps.map PgV.c) pl i3 e3 := ⟨⟨(gpM_sG hG).1, fun q => by rw [(gpM_sG hG).2 q]⟩, hL, hP⟩
 refine wpM.skip <| QM.then <| wpM.seq <| wR <| LM.as rfl <| nA [(4, _), (7, _), (8, _), (10, _), (14, _)] <| wpM.block ?_
 refine wpM.loopK0 (α := Nat) (fun j => [(14, .int .i64 (j : Nat))]) [(4, _), (7, _), (8, _), (10, _)] (fun j => mo ++ (mp ++ (mq ++ (ml ++ (mg ++ (qB b29 ad n cap i3 e3 :: (b8, sO (sA ws i0).2.2 (sB2 ws i0).2.2 adg ng cg adl nl cl adp np cp) :: (b4, z0) :: [])))))) (fun j => j ≤ ps.length ∧ ((ps.map PgV.c).take j).any (misB ls ps.length) = false) (fun j => ps.length - j) (0) ⟨au2, rfl, rfl, rfl, rfl, trivial⟩ au1 ⟨Nat.zero_le _, rfl⟩ ?_
 rintro j ⟨hj, hmis⟩
 change wpM _ _ _ _ _ _ _ (mo ++ (mp ++ (mq ++ (ml ++ (mg ++ (qB b29 ad n cap i3 e3 :: (b8, sO (sA ws i0).2.2 (sB2 ws i0).2.2 adg ng cg adl nl cl adp np cp) :: (b4, z0) :: [])))))) _ _ _
 refine wpM.seq <| wR <| LM.mv rfl <| LM.val (ovf 24 rfl rfl rfl rfl) ?_
 refine LM.rd (oml rfl rfl rfl) ?_
 refine LM.val (ov_len Try.underlying24 rfl) <| LM.val (ov_lss rfl rfl) <| nA [(4, _), (7, _), (8, _), (10, _), (14, _), (171, _)] ?_
 refine wpM.condD rfl (fun h16 => ?_) (fun h16 => ?_)
 ·
  have hjl : j < ps.length := om; have hpm : ps.getD j default ∈ ps := List.mem_of_getElem? (getq default hjl)
  refine wpM.skip <| QM.then <| wpM.seq <| wpM.block <| wpM.seq ?_
  refine wpM.draw [(0, 0), (1, 1), (2, 0), (3, 0), (4, 1), (5, 0), (6, 1), (7, 0), (8, 1), (9, 0), (10, 2), (11, 0), (12, 0), (13, 0), (14, 0), (15, 0)] kr kr ?_
  refine LD.val rfl rfl (ovf 24 rfl rfl rfl rfl) ?_
  refine LD.rd rfl rfl (oml rfl rfl rfl) ?_
  refine LD.val rfl rfl (ov_move rfl) ?_
  refine LD.val rfl rfl (ov_idxSN au6 Try.underlying24 Try.sizeOf45 rfl rfl om) ?_
  refine LD.rd rfl rfl (om_slA asm ir Try.isAgg45 Try.sizeOf45 rfl au3) ?_
  refine LD.val rfl rfl (ovf 23 rfl rfl rfl rfl) ?_
  refine LD.rd rfl rfl (oml rfl rfl rfl) ?_
  refine LD.val rfl rfl (ovf 24 rfl rfl rfl rfl) ?_
  refine LD.rd rfl rfl (oml rfl rfl rfl) ?_
  refine LD.val rfl rfl (ov_len Try.underlying24 rfl) ?_
  refine dE rfl rfl Try.func26 rfl (fun w hm hc hg => rcheck_spec (np : Nat) w (hop w (hm.pick mo) _ hpm).1 (hop w (hm.pick mo) _ hpm).2 hnl (hsl.srM ir hm)) ?_
  refine LD.val rfl rfl (ov_move rfl) ?_
  refine LD.val rfl rfl (ov_extract rfl rfl) ?_
  refine LD.val rfl rfl (ov_extract rfl rfl) ?_
  refine LD.val rfl rfl (ov_assign rfl) <| LD.val rfl rfl (ov_assign rfl) <| LD.nil ?_
  refine QM.sub (e' := [(4, _), (7, _), (8, _), (10, _), (14, _), (16, _)]) au9 (QM.then (wpM.seq (wpM.region ?_)))
  refine LM.mv rfl <| LM.val (ov_neq rfl rfl) <| nA [(4, _), (7, _), (8, _), (10, _), (14, _), (16, _), (189, _)] ?_
  refine wpM.condD rfl (fun h17 => ?_) (fun h17 => ?_)
  ·
   refine wpM.seq ?_
   refine wpM.keep (mq ++ []) (fun _ => True) (.one 0 0 (.one 1 0 (.one 2 0 (.one 3 0 (.one 4 1 (.one 5 0 (.one 6 2 (.one 7 0 (.one 8 0 .nil))))))))) kr kr au1 (fun _ _ => trivial) ?_
   refine KD.val rfl rfl (ov_build (cs := #[_, _, _, _, _]) rfl (by first | rfl | kernel_rfl)) ?_
   refine KD.val rfl rfl (ov_move rfl) <| KD.val rfl rfl (ov_move rfl) ?_
   refine KD.val rfl rfl (ov_idxSN au6 Try.underlying22 Try.sizeOf3 rfl rfl om) ?_
   refine KD.rd rfl rfl (om_sl1 asm ir Try.isAgg3 rfl rfl (by exact getq 0 au4) (by rfl)) ?_
   refine KD.val rfl rfl (ov_move rfl) <| KD.one rfl ?_
   refine LM.stW Try.sizeOf26 rfl rfl rfl rfl au7 au8 ?_
   refine LM.nil ?_
   refine kq1 ?_
   refine KD.val rfl rfl (ov_assign rfl) <| KD.val rfl rfl (ov_assign rfl) <| KD.nil ?_
   refine QM.sub (e' := [(4, _), (5, _), (6, _)]) au9 (QM.then ?_)
   refine wpM.ret <| QM.block_ret <| QM.then_ret <| QM.then_ret <| QM.block_ret <| QM.then_ret ?_
   refine QM.leaveCs (ds := ([])) (.inl rfl) [.cell 4 26, .tmp 5, .tmp 6] Try.results12 hd_nil (rc_w rfl Try.isAgg26 Try.sizeOf26 rfl (rc_tmp rfl (rc_tmp rfl rc_nil))) ?_
   intro w' hm' hc'
   rw [set_nat hi0, hI.mis he3 (j := j) (by simpa using hjl) (by rw [List.length_map]; exact hmis) (by rw [map_getD, List.length_map]; unfold misB; rw [← hnp]; simpa using h17), map_getD, List.length_map, ← hnp]; exact ⟨hc', [], StT.none, Mem.nil _, fun p hp => by cases hp⟩
  refine wpM.skip <| QM.block_normal ?_
  refine QM.then (wpM.region ?_)
  refine LM.mv rfl ?_
  refine LM.val (ov_add64 rfl rfl om) ?_
  refine LM.as rfl <| nC [(4, _), (7, _), (8, _), (10, _), (14, _)] ?_
  refine QM.againK (j + 1) ⟨au2, rfl, rfl, rfl, rfl, trivial⟩ au1 (fun _ h => h) ?_ ?_
  · exact ⟨by omega, by rw [any_snoc default (by simp; omega), hmis, Bool.false_or, map_getD]; unfold misB; rw [← hnp]; simpa using h17⟩
  · omega
 refine wpM.exit <| QM.then_exit <| QM.then_exit <| QM.block_hit <| QM.then <| wpM.seq ?_
 refine wpM.keep ((b29, _) :: (b8, _) :: []) (fun _ => True) (.one 0 1 (.one 1 0 (.one 2 0 (.one 3 0 (.one 4 1 (.one 5 2 (.one 6 0 (.one 7 0 .nil)))))))) kr kr au1 (fun _ _ => trivial) ?_
 refine KD.rd rfl rfl (om_ldW Try.isAgg26 Try.sizeOf26 rfl rfl) ?_
 refine KD.val rfl rfl (ov_move rfl) <| KD.val rfl rfl (ov_nilCheck rfl) <| KD.val rfl rfl (ovf 3 rfl rfl rfl rfl) ?_
 refine KD.rd rfl rfl (oml rfl rfl rfl) ?_
 refine KD.one rfl ?_
 refine LM.stW Try.sizeOf26 rfl rfl rfl rfl au7 au8 ?_
 refine LM.nil ?_
 refine kq1 ?_
 refine KD.val rfl rfl (ov_assign rfl) <| KD.val rfl rfl (ov_assign rfl) <| KD.nil ?_
 refine QM.sub (e' := [(4, _), (5, _), (6, _)]) au9 (QM.then ?_)
 refine wpM.ret ?_
 refine QM.leaveCs (ds := ([])) (.inl rfl) [.cell 4 26, .tmp 5, .tmp 6] Try.results12 hd_nil (rc_w rfl Try.isAgg26 Try.sizeOf26 rfl (rc_tmp rfl (rc_tmp rfl rc_nil))) ?_
 intro w' hm' hc'
 rw [set_nat hi0, hI.ok he3 (by have hjl : j = ps.length := om; have h9 := hmis; rw [hjl, List.take_of_length_le (by simp)] at h9; rw [List.length_map]; exact h9)]; refine ⟨hc', mo ++ (mp ++ (ml ++ (mg ++ []))), ⟨⟨(sA ws i0).2.2, (sB2 ws i0).2.2, gs, adg, ng, cg, ls, adl, nl, cl, ps, adp, np, cp⟩, rfl, rfl, fun w hm => ⟨hng, sr_of_sl hsg (fun _ => rfl) (hm.pick mg), hnl, sr_of_sl hsl (fun _ => rfl) (hm.pick ml), hnp, sr_of_sl hsp (fun _ => rfl) (hm.pick mp), hop w (hm.pick mo)⟩⟩, SubM.mem (by (repeat' (first | exact SubM.nil _ | refine SubM.app ?_))) w' hm', ?_⟩; intro p hp; simp only [List.mem_append, List.not_mem_nil, or_false] at hp; rcases hp with hp | hp | hp | hp; exact hog p hp; exact Sl.ge hsp p hp; exact Sl.ge hsl p hp; exact Sl.ge hsg p hp
abbrev stB (b : Nat) (s : StV) : Nat × Obj := (b, sO s.cr s.gr s.ga s.gn s.gc s.la s.ln s.lc s.pa s.pn s.pc)
def headB (s : StC) : Bool := winB s.cr 4 && (winB s.gr 8 && (winB (s.gs.length : Int) 4 && (decide (s.ls.length ≤ 8) && winB (s.ps.length : Int) 8)))
theorem mayS_split (s : StC) : mayS s = (headB s && (s.gs.all (fun n => winB n 16) && (s.ls.all lokB && !s.ps.any (misB s.ls s.ps.length)))) := by
  unfold mayS headB
  ac_rfl
theorem all_ff {α : Type} {p : α → Bool} {xs : List α} {i : Nat} (d : α) (h : i < xs.length) (hp : p (xs.getD i d) = false) : xs.all p = false := by
  cases hm : xs.all p with
  | false => rfl
  | true => rw [List.all_eq_true.1 hm _ (List.mem_of_getElem? (getq d h))] at hp; cases hp
theorem head_eq {s : StV} (h1 : s.gn = s.gs.length) (h2 : s.ln = s.ls.length) (h3 : s.pn = s.ps.length) : headB s.C = !(!winB s.cr 4 || (!winB s.gr 8 || (!winB (s.gn : Int) 4 || (decide ((s.ln : Int) > 8) || !winB (s.pn : Int) 8)))) := by
  unfold headB StV.C
  simp only [List.length_map, ← h1, ← h2, ← h3]
  rw [show decide (s.ln ≤ 8) = !decide ((s.ln : Int) > 8) by rw [← decide_not]; exact decide_eq_decide.2 om]
  cases winB s.cr 4 <;> cases winB s.gr 8 <;> cases winB (s.gn : Int) 4 <;> cases decide ((s.ln : Int) > 8) <;> cases winB (s.pn : Int) 8 <;> rfl
def smallS (s : StC) : Bool := decide (s.gs.length ≤ 12) && decide (s.ls.length ≤ 12) && decide (s.ps.length ≤ 12) && s.ps.all (fun p => decide (p.xs.length ≤ 20))
theorem mayS_head {s : StC} (h : headB s = false) : mayS s = false := by rw [mayS_split, h]; rfl
theorem mayS_gs {s : StC} (h : s.gs.all (fun n => winB n 16) = false) : mayS s = false := by rw [mayS_split, h]; simp
theorem mayS_ls {s : StC} (h : s.ls.all lokB = false) : mayS s = false := by rw [mayS_split, h]; simp
theorem swithin_spec (n most : Int) (w : World) : Ret Try.prog 31 #[.int .i64 n, .int .i64 most] w (fun v w' => v = .bool (winB n most) ∧ Ext w w') := by
 refine Ret.enterM Try.func31 rfl Try.ntmps31 rfl ([]) (no) (Mem.nil w) ?_
 refine wR <| LM.as rfl <| nB [(0, _), (1, _)] <| LM.mv rfl <| LM.val (ov_geq rfl rfl) <| LM.mv rfl ?_
 refine LM.splitD (t := 7) rfl (fun h1 => ?_) (fun h1 => ?_)
 ·
  refine LM.sp 7 rfl rfl rfl <| LM.mv rfl <| LM.sp 7 rfl rfl rfl <| LM.mv rfl <| LM.sp 7 rfl rfl rfl <| LM.val (ov_leq rfl rfl) <| LM.val (ov_pickT rfl rfl) <| LM.as rfl <| nA [(4, _)] <| wpM.ret ?_
  refine qL Try.results31 rfl fun w' hm' hc' hg' => ?_
  refine ⟨?_, hc'⟩; simp only [resV, winB]; first | (rw [decide_eq_true (show 1 ≤ n by omega), Bool.true_and]; done) | (rw [decide_eq_false (show ¬ 1 ≤ n by omega), Bool.false_and]; done)
 refine LM.dr 7 rfl rfl rfl <| LM.dr 7 rfl rfl rfl <| LM.dr 7 rfl rfl rfl <| LM.val (ov_pickF rfl rfl) <| LM.as rfl <| nA [(4, _)] <| wpM.ret ?_
 refine qL Try.results31 rfl fun w' hm' hc' hg' => ?_
 refine ⟨?_, hc'⟩; simp only [resV, winB]; first | (rw [decide_eq_true (show 1 ≤ n by omega), Bool.true_and]; done) | (rw [decide_eq_false (show ¬ 1 ≤ n by omega), Bool.false_and]; done)
theorem small12_spec {s : StV} (w : World) (hI : s.In w) : Ret Try.prog 5 #[s.val] w (fun v w' => v = .bool (smallS s.C) ∧ Ext w w') := by
 have hgn := hI.hgn; have hln := hI.hln; have hpn := hI.hpn; have hp := hI.hp
 refine Ret.enterM Try.func5 rfl Try.ntmps5 rfl ([]) (no) (Mem.nil w) ?_
 refine wR ?_
 refine LM.box rfl rfl (fun b1 hb1 => ?_)
 refine LM.as rfl <| nA [(1, _)] <| wpM.seq <| wR <| LM.val (ovf 22 rfl rfl rfl rfl) ?_
 refine LM.rd (oml rfl rfl rfl) ?_
 refine LM.val (ov_len Try.underlying22 rfl) <| LM.val (ov_gtr rfl rfl) <| LM.mv rfl ?_
 refine LM.splitD (t := 9) rfl (fun h1 => ?_) (fun h1 => ?_)
 ·
  refine LM.dr 9 rfl rfl rfl <| LM.dr 9 rfl rfl rfl <| LM.dr 9 rfl rfl rfl <| LM.dr 9 rfl rfl rfl <| LM.val (ov_pickT rfl rfl) <| LM.mv rfl <| LM.dr 15 rfl rfl rfl <| LM.dr 15 rfl rfl rfl <| LM.dr 15 rfl rfl rfl <| LM.dr 15 rfl rfl rfl <| LM.val (ov_pickT rfl rfl) <| nA [(1, _), (20, _)] ?_
  refine wpM.condT rfl ?_
  refine wR <| LM.as rfl <| nA [(2, _)] <| wpM.ret <| QM.then_ret ?_
  refine qL Try.results5 rfl fun w' hm' hc' hg' => ?_
  refine ⟨?_, hc'⟩; show Value.bool false = Value.bool (smallS s.C); unfold smallS; rw [decide_eq_false (show ¬ s.C.gs.length ≤ 12 by show ¬ s.gs.length ≤ 12; omega)]; rfl
 refine LM.sp 9 rfl rfl rfl <| LM.val (ovf 23 rfl rfl rfl rfl) <| LM.sp 9 rfl rfl rfl ?_
 refine LM.rd (oml rfl rfl rfl) ?_
 refine LM.sp 9 rfl rfl rfl <| LM.val (ov_len Try.underlying23 rfl) <| LM.sp 9 rfl rfl rfl <| LM.val (ov_gtr rfl rfl) <| LM.val (ov_pickF rfl rfl) <| LM.mv rfl ?_
 refine LM.splitD (t := 15) rfl (fun h2 => ?_) (fun h2 => ?_)
 ·
  refine LM.dr 15 rfl rfl rfl <| LM.dr 15 rfl rfl rfl <| LM.dr 15 rfl rfl rfl <| LM.dr 15 rfl rfl rfl <| LM.val (ov_pickT rfl rfl) <| nA [(1, _), (20, _)] ?_
  refine wpM.condT rfl ?_
  refine wR <| LM.as rfl <| nA [(2, _)] <| wpM.ret <| QM.then_ret ?_
  refine qL Try.results5 rfl fun w' hm' hc' hg' => ?_
  refine ⟨?_, hc'⟩; show Value.bool false = Value.bool (smallS s.C); unfold smallS; rw [decide_eq_false (show ¬ s.C.ls.length ≤ 12 by show ¬ s.ls.length ≤ 12; omega)]; simp
 refine LM.sp 15 rfl rfl rfl <| LM.val (ovf 24 rfl rfl rfl rfl) <| LM.sp 15 rfl rfl rfl ?_
 refine LM.rd (oml rfl rfl rfl) ?_
 refine LM.sp 15 rfl rfl rfl <| LM.val (ov_len Try.underlying24 rfl) <| LM.sp 15 rfl rfl rfl <| LM.val (ov_gtr rfl rfl) <| LM.val (ov_pickF rfl rfl) <| nA [(1, _), (20, _)] ?_
 refine wpM.condD rfl (fun h3 => ?_) (fun h3 => ?_)
 ·
  refine wR <| LM.as rfl <| nA [(2, _)] <| wpM.ret <| QM.then_ret ?_
  refine qL Try.results5 rfl fun w' hm' hc' hg' => ?_
  refine ⟨?_, hc'⟩; show Value.bool false = Value.bool (smallS s.C); unfold smallS; rw [decide_eq_false (show ¬ s.C.ps.length ≤ 12 by show ¬ (s.ps.map PgV.c).length ≤ 12; rw [List.length_map]; omega)]; simp
 refine wpM.skip <| QM.then <| wpM.seq <| wR <| LM.val (ovf 24 rfl rfl rfl rfl) ?_
 refine LM.rd (oml rfl rfl rfl) ?_
 refine LM.val (ov_len Try.underlying24 rfl) <| LM.mv rfl <| nA [(22, _), (23, _), (24, _)] <| wpM.block ?_
 refine wpM.loopK0 (α := Nat) (fun i => [(24, .int .i64 (i : Nat))]) [(22, _), (23, _)] (fun i => stB b1 s :: []) (fun i => i ≤ s.ps.length ∧ (s.ps.take i).all (fun p => decide (p.c.xs.length ≤ 20)) = true) (fun i => s.ps.length - i) (0) ⟨au2, rfl, rfl, trivial⟩ au1 ⟨Nat.zero_le _, rfl⟩ ?_
 rintro i ⟨hi, ha⟩
 change wpM _ _ _ _ _ _ _ (stB b1 s :: []) _ _ _
 refine wR <| LM.val (ov_lss rfl rfl) <| nA [(22, _), (23, _), (24, _), (25, _)] <| wpM.seq ?_
 refine wpM.condD rfl (fun h4 => ?_) (fun h4 => ?_)
 ·
  have hpi : (s.ps.getD i default).In w := hI.ops _ (List.mem_of_getElem? (getq default om)); have hpl := hpi.1
  refine wpM.skip <| QM.then <| wpM.seq <| wpM.block <| wR ?_
  refine LM.val (ov_idxSN au6 Try.underlying24 Try.sizeOf45 rfl rfl om) ?_
  refine LM.rdC (om_srEA asm ir Try.isAgg45 Try.sizeOf45 rfl au3 id) ?_
  refine LM.alloc Try.zeroValue45 rfl (fun b4 hb4 => ?_)
  refine LM.stW Try.sizeOf45 rfl rfl rfl rfl au7 au8 ?_
  refine nB [(4, _), (22, _), (23, _), (24, _)] <| LM.val (ovf 43 rfl rfl rfl rfl) ?_
  refine LM.rd (oml rfl rfl rfl) ?_
  refine LM.val (ov_len Try.underlying43 rfl) <| LM.val (ov_gtr rfl rfl) <| nA [(22, _), (23, _), (24, _), (31, _)] ?_
  refine wpM.condD rfl (fun h5 => ?_) (fun h5 => ?_)
  ·
   refine wR <| LM.as rfl <| nA [(2, _)] <| wpM.ret <| QM.block_ret <| QM.then_ret <| QM.then_ret <| QM.block_ret <| QM.then_ret ?_
   refine qL Try.results5 rfl fun w' hm' hc' hg' => ?_
   refine ⟨?_, hc'⟩; show Value.bool false = Value.bool (smallS s.C); unfold smallS; rw [all_ff (xs := s.C.ps) (i := i) default (by show i < (s.ps.map PgV.c).length; rw [List.length_map]; omega) (by show decide (((s.ps.map PgV.c).getD i default).xs.length ≤ 20) = false; rw [map_getD]; exact decide_eq_false om)]; simp
  refine wpM.skip <| QM.block_normal ?_
  refine QM.then (wpM.region ?_)
  refine LM.val (ov_add64 rfl rfl om) ?_
  refine LM.mv rfl <| nC [(22, _), (23, _), (24, _)] ?_
  refine QM.againK (i + 1) ⟨au2, rfl, rfl, trivial⟩ au1 (fun _ h => h) ?_ ?_
  · exact ⟨by omega, by rw [all_snoc default om, ha, Bool.true_and]; exact decide_eq_true om⟩
  · omega
 refine wpM.exit <| QM.then_exit <| QM.then_exit <| QM.block_hit <| tR <| LM.as rfl <| nA [(2, _)] <| wpM.ret ?_
 refine qL Try.results5 rfl fun w' hm' hc' hg' => ?_
 refine ⟨?_, hc'⟩; have hil : i = s.ps.length := om; subst hil; rw [List.take_length] at ha; show Value.bool true = Value.bool (smallS s.C); unfold smallS; rw [decide_eq_true (show s.C.gs.length ≤ 12 by show s.gs.length ≤ 12; omega), decide_eq_true (show s.C.ls.length ≤ 12 by show s.ls.length ≤ 12; omega), decide_eq_true (show s.C.ps.length ≤ 12 by show (s.ps.map PgV.c).length ≤ 12; rw [List.length_map]; omega), show s.C.ps.all (fun p => decide (p.xs.length ≤ 20)) = true by show (s.ps.map PgV.c).all _ = true; rw [List.all_map]; exact ha]; rfl
theorem smay1_spec (n : Int) (w : World) : Ret Try.prog 33 #[.int .i64 n] w (fun v w' => v = .bool (!winB n 16) ∧ Ext w w') := by
 refine Ret.enterM Try.func33 rfl Try.ntmps33 rfl ([]) (no) (Mem.nil w) ?_
 refine wR <| LM.as rfl <| nB [(0, _)] <| LM.mv rfl ?_
 refine cE Try.func31 rfl (fun w hm hc hg => swithin_spec n 16 w) ?_
 refine LM.val (ov_not rfl) ?_
 refine LM.as rfl <| nA [(2, _)] <| wpM.ret ?_
 refine qL Try.results33 rfl fun w' hm' hc' hg' => ?_
 exact ⟨rfl, hc'⟩
theorem lockMay_spec (x : CLk) (w : World) : Ret Try.prog 36 #[.agg (fL x).toArray] w (fun v w' => v = .bool (lokB x) ∧ Ext w w') := by
 refine Ret.enterM Try.func36 rfl Try.ntmps36 rfl ([]) (no) (Mem.nil w) ?_
 refine wR ?_
 refine LM.box rfl rfl (fun b1 hb1 => ?_)
 refine LM.as rfl <| nA [(1, _)] <| wpM.seq ?_
 refine wpM.joinK (α := Bool) (fun q => [(3, .bool q)]) [(1, _)] (fun q => (b1, .cells (fL x).toArray 78 (0, 0)) :: []) (fun q => q = (decide (x.rd = 0) && decide (x.wr = 0))) ⟨rfl, trivial⟩ ?_ ?_
 ·
  refine wpM.region ?_
  refine LM.val (ovf 3 rfl rfl rfl rfl) ?_
  refine LM.rd (oml rfl rfl rfl) ?_
  refine LM.val (ov_eql rfl rfl) <| LM.mv rfl ?_
  refine LM.splitD (t := 7) rfl (fun h1 => ?_) (fun h1 => ?_)
  ·
   refine LM.sp 7 rfl rfl rfl <| LM.val (ovf 3 rfl rfl rfl rfl) <| LM.sp 7 rfl rfl rfl ?_
   refine LM.rd (oml rfl rfl rfl) ?_
   refine LM.sp 7 rfl rfl rfl <| LM.val (ov_eql rfl rfl) <| LM.val (ov_pickT rfl rfl) <| LM.as rfl <| nC [(1, _), (3, _)] ?_
   refine QM.meetK (_) ⟨au2, rfl, trivial⟩ au1 ?_
   · (simp [h1, -List.getD_eq_getElem?_getD]; done)
  refine LM.dr 7 rfl rfl rfl <| LM.dr 7 rfl rfl rfl <| LM.dr 7 rfl rfl rfl <| LM.val (ov_pickF rfl rfl) <| LM.as rfl <| nC [(1, _), (3, _)] ?_
  refine QM.meetK (_) ⟨au2, rfl, trivial⟩ au1 ?_
  · (simp [h1, -List.getD_eq_getElem?_getD]; done)
 rintro q hq
 change QM _ _ _ _ _ ((b1, .cells (fL x).toArray 78 (0, 0)) :: []) _ _ _
 refine QM.then <| wpM.seq <| wR <| LM.val (ovf 4 rfl rfl rfl rfl) ?_
 refine LM.rd (oml rfl rfl rfl) ?_
 refine nA [(1, _), (3, _), (13, _)] ?_
 refine wpM.joinK (α := Bool) (fun q2 => [(3, .bool q2)]) [(1, _)] (fun q2 => (b1, .cells (fL x).toArray 78 (0, 0)) :: []) (fun q2 => q2 = (if x.sh then winB x.rd 16 && winB x.wr 16 else decide (x.rd = 0) && decide (x.wr = 0))) ⟨rfl, trivial⟩ ?_ ?_
 ·
  refine wpM.condB rfl (fun h2 => ?_) (fun h2 => ?_)
  ·
   refine wpM.region ?_
   refine LM.val (ovf 3 rfl rfl rfl rfl) ?_
   refine LM.rd (oml rfl rfl rfl) ?_
   refine cE Try.func31 rfl (fun w hm hc hg => swithin_spec _ _ w) ?_
   refine LM.mv rfl ?_
   refine LM.splitB (t := 17) rfl (fun h3 => ?_) (fun h3 => ?_)
   ·
    refine LM.sp 17 rfl rfl rfl <| LM.val (ovf 3 rfl rfl rfl rfl) <| LM.sp 17 rfl rfl rfl ?_
    refine LM.rd (oml rfl rfl rfl) ?_
    refine LM.sp 17 rfl rfl rfl ?_
    refine cE Try.func31 rfl (fun w hm hc hg => swithin_spec _ _ w) ?_
    refine LM.val (ov_pickT rfl rfl) <| LM.as rfl <| nC [(1, _), (3, _)] ?_
    refine QM.meetK (_) ⟨au2, rfl, trivial⟩ au1 ?_
    · (simp [h2, h3, -List.getD_eq_getElem?_getD]; done)
   refine LM.dr 17 rfl rfl rfl <| LM.dr 17 rfl rfl rfl <| LM.dr 17 rfl rfl rfl <| LM.val (ov_pickF rfl rfl) <| LM.as rfl <| nC [(1, _), (3, _)] ?_
   refine QM.meetK (_) ⟨au2, rfl, trivial⟩ au1 ?_
   · (simp [h2, h3, -List.getD_eq_getElem?_getD]; done)
  refine wpM.skip ?_
  refine QM.meetK (_) ⟨au2, rfl, trivial⟩ au1 ?_
  · (simp_all [-List.getD_eq_getElem?_getD]; done)
 rintro q2 hq2
 change QM _ _ _ _ _ ((b1, .cells (fL x).toArray 78 (0, 0)) :: []) _ _ _
 refine tR <| LM.mv rfl <| LM.mv rfl ?_
 refine LM.splitB (t := 23) rfl (fun h4 => ?_) (fun h4 => ?_)
 ·
  refine LM.sp 23 rfl rfl rfl <| LM.val (ovf 3 rfl rfl rfl rfl) <| LM.sp 23 rfl rfl rfl ?_
  refine LM.rd (oml rfl rfl rfl) ?_
  refine LM.sp 23 rfl rfl rfl ?_
  refine cE Try.func31 rfl (fun w hm hc hg => swithin_spec _ _ w) ?_
  refine LM.val (ov_pickT rfl rfl) <| LM.mv rfl ?_
  refine LM.splitB (t := 28) rfl (fun h5 => ?_) (fun h5 => ?_)
  ·
   refine LM.sp 28 rfl rfl rfl <| LM.val (ovf 3 rfl rfl rfl rfl) <| LM.sp 28 rfl rfl rfl ?_
   refine LM.rd (oml rfl rfl rfl) ?_
   refine LM.sp 28 rfl rfl rfl ?_
   refine cE Try.func31 rfl (fun w hm hc hg => swithin_spec _ _ w) ?_
   refine LM.val (ov_pickT rfl rfl) <| LM.as rfl <| nA [(2, _)] <| wpM.ret ?_
   refine qL Try.results36 rfl fun w' hm' hc' hg' => ?_
   refine ⟨?_, hc'⟩; simp only [resV, lokB, ← hq2]; simp [h4, h5]
  refine LM.dr 28 rfl rfl rfl <| LM.dr 28 rfl rfl rfl <| LM.dr 28 rfl rfl rfl <| LM.val (ov_pickF rfl rfl) <| LM.as rfl <| nA [(2, _)] <| wpM.ret ?_
  refine qL Try.results36 rfl fun w' hm' hc' hg' => ?_
  refine ⟨?_, hc'⟩; simp only [resV, lokB, ← hq2]; simp [h4, h5]
 refine LM.dr 23 rfl rfl rfl <| LM.dr 23 rfl rfl rfl <| LM.dr 23 rfl rfl rfl <| LM.val (ov_pickF rfl rfl) <| LM.mv rfl <| LM.dr 28 rfl rfl rfl <| LM.dr 28 rfl rfl rfl <| LM.dr 28 rfl rfl rfl <| LM.val (ov_pickF rfl rfl) <| LM.as rfl <| nA [(2, _)] <| wpM.ret ?_
 refine qL Try.results36 rfl fun w' hm' hc' hg' => ?_
 refine ⟨?_, hc'⟩; simp only [resV, lokB, ← hq2]; simp [h4]
theorem smay2_spec (x : CLk) (w : World) : Ret Try.prog 35 #[.agg (fL x).toArray] w (fun v w' => v = .bool (!lokB x) ∧ Ext w w') := by
 refine Ret.enterM Try.func35 rfl Try.ntmps35 rfl ([]) (no) (Mem.nil w) ?_
 refine wR ?_
 refine LM.box rfl rfl (fun b1 hb1 => ?_)
 refine LM.as rfl <| nB [(1, _)] ?_
 refine LM.rd (om_ldW Try.isAgg78 Try.sizeOf78 rfl rfl) ?_
 refine cE Try.func36 rfl (fun w hm hc hg => lockMay_spec x w) ?_
 refine LM.val (ov_not rfl) ?_
 refine LM.as rfl <| nA [(2, _)] <| wpM.ret ?_
 refine qL Try.results35 rfl fun w' hm' hc' hg' => ?_
 exact ⟨rfl, hc'⟩
theorem ixf_g {xs : List Int} {ad : Option Addr} {n cap : Nat} (w : World) (hn : n = xs.length) (hl : Sr fI 1 xs (.slice ad n cap) w) (hx : xs.length ≤ 1000000) : Ret Try.prog 51 #[.slice ad n cap, .func (.func 33) #[] #[]] w (fun v w' => v = .int .i64 (fixI (fun o => (!winB o 16)) xs) ∧ Ext w w') := by
 refine Ret.enterM Try.func51 rfl Try.ntmps51 rfl ([]) (no) (Mem.nil w) ?_
 refine wR <| LM.as rfl <| nA [(0, _), (1, _)] <| wpM.seq <| wR <| LM.mv rfl <| LM.val (ov_len Try.underlying22 rfl) <| LM.mv rfl <| nA [(0, _), (1, _), (7, _), (8, _)] <| wpM.block ?_
 refine wpM.loopK0 (α := Nat) (fun i => [(8, .int .i64 (i : Nat))]) [(0, _), (1, _), (7, _)] (fun i => []) (fun i => i ≤ xs.length ∧ (xs.take i).any (fun o => (!winB o 16)) = false) (fun i => xs.length - i) (0) ⟨au2, rfl, rfl, rfl, trivial⟩ au1 ⟨Nat.zero_le _, rfl⟩ ?_
 rintro i ⟨hi, ha⟩
 change wpM _ _ _ _ _ _ _ ([]) _ _ _
 refine wR <| LM.val (ov_lss rfl rfl) <| nA [(0, _), (1, _), (7, _), (8, _), (9, _)] <| wpM.seq ?_
 refine wpM.condD rfl (fun h1 => ?_) (fun h1 => ?_)
 ·
  refine wpM.skip <| QM.then <| wpM.seq <| wpM.block <| wR <| LM.mv rfl <| LM.as rfl <| nB [(0, _), (1, _), (5, _), (7, _), (8, _)] <| LM.mv rfl <| LM.mv rfl <| LM.mv rfl ?_
  refine LM.val (ov_idxSN au6 Try.underlying22 Try.sizeOf3 rfl rfl om) ?_
  refine LM.rdC (om_sr1 asm Try.isAgg3 rfl rfl (by exact getq 0 au4) (by rfl) id) ?_
  refine LM.callE (oc_callV rfl (enters_fn Try.func33 kr rfl) rfl) (fun w hm hc hg => smay1_spec _ w) ?_
  refine nA [(0, _), (1, _), (5, _), (7, _), (8, _), (16, _)] ?_
  refine wpM.condB rfl (fun h2 => ?_) (fun h2 => ?_)
  ·
   refine wR <| LM.mv rfl <| LM.as rfl <| nA [(4, _)] <| wpM.ret <| QM.block_ret <| QM.then_ret <| QM.then_ret <| QM.block_ret <| QM.then_ret ?_
   refine qL Try.results51 rfl fun w' hm' hc' hg' => ?_
   exact ⟨by show Value.int .i64 _ = _; rw [fix_hit 0 ha om (by simpa using h2)], hc'⟩
  refine wpM.skip <| QM.block_normal ?_
  refine QM.then (wpM.region ?_)
  refine LM.val (ov_add64 rfl rfl om) ?_
  refine LM.mv rfl <| nC [(0, _), (1, _), (7, _), (8, _)] ?_
  refine QM.againK (i + 1) ⟨au2, rfl, rfl, rfl, trivial⟩ au1 (fun _ h => h) ?_ ?_
  · exact ⟨by omega, by rw [any_snoc 0 om, ha, Bool.false_or]; simpa using h2⟩
  · omega
 refine wpM.exit <| QM.then_exit <| QM.then_exit <| QM.block_hit <| tR <| LM.as rfl <| nA [(4, _)] <| wpM.ret ?_
 refine qL Try.results51 rfl fun w' hm' hc' hg' => ?_
 have hil : i = xs.length := om; subst hil; rw [List.take_length] at ha; exact ⟨by show Value.int .i64 _ = _; rw [fix_miss ha], hc'⟩
theorem cof_g {xs : List Int} {ad : Option Addr} {n cap : Nat} (w : World) (hn : n = xs.length) (hl : Sr fI 1 xs (.slice ad n cap) w) (hx : xs.length ≤ 1000000) : Ret Try.prog 32 #[.slice ad n cap, .func (.func 33) #[] #[]] w (fun v w' => v = .bool (xs.any (fun o => (!winB o 16))) ∧ Ext w w') := by
 refine Ret.enterM Try.func32 rfl Try.ntmps32 rfl ([]) (no) (Mem.nil w) ?_
 refine wR <| LM.as rfl <| nB [(0, _), (1, _)] <| LM.mv rfl <| LM.mv rfl ?_
 refine cE Try.func51 rfl (fun w hm hc hg => ixf_g w hn (hl.ext hc) hx) ?_
 refine LM.val (ov_geq rfl rfl) <| LM.as rfl <| nA [(4, _)] <| wpM.ret ?_
 refine qL Try.results32 rfl fun w' hm' hc' hg' => ?_
 exact ⟨by show Value.bool _ = _; rw [← fix_pos], hc'⟩
theorem ixf_l {xs : List CLk} {ad : Option Addr} {n cap : Nat} (w : World) (hn : n = xs.length) (hl : Sr fL 5 xs (.slice ad n cap) w) (hx : xs.length ≤ 1000000) : Ret Try.prog 52 #[.slice ad n cap, .func (.func 35) #[] #[]] w (fun v w' => v = .int .i64 (fixI (fun o => (!lokB o)) xs) ∧ Ext w w') := by
 refine Ret.enterM Try.func52 rfl Try.ntmps52 rfl ([]) (no) (Mem.nil w) ?_
 refine wR <| LM.as rfl <| nA [(0, _), (1, _)] <| wpM.seq <| wR <| LM.mv rfl <| LM.val (ov_len Try.underlying23 rfl) <| LM.mv rfl <| nA [(0, _), (1, _), (7, _), (8, _)] <| wpM.block ?_
 refine wpM.loopK0 (α := Nat) (fun i => [(8, .int .i64 (i : Nat))]) [(0, _), (1, _), (7, _)] (fun i => []) (fun i => i ≤ xs.length ∧ (xs.take i).any (fun o => (!lokB o)) = false) (fun i => xs.length - i) (0) ⟨au2, rfl, rfl, rfl, trivial⟩ au1 ⟨Nat.zero_le _, rfl⟩ ?_
 rintro i ⟨hi, ha⟩
 change wpM _ _ _ _ _ _ _ ([]) _ _ _
 refine wR <| LM.val (ov_lss rfl rfl) <| nA [(0, _), (1, _), (7, _), (8, _), (9, _)] <| wpM.seq ?_
 refine wpM.condD rfl (fun h1 => ?_) (fun h1 => ?_)
 ·
  refine wpM.skip <| QM.then <| wpM.seq <| wpM.block <| wR <| LM.mv rfl <| LM.as rfl <| nB [(0, _), (1, _), (5, _), (7, _), (8, _)] <| LM.mv rfl <| LM.mv rfl <| LM.mv rfl ?_
  refine LM.val (ov_idxSN au6 Try.underlying23 Try.sizeOf78 rfl rfl om) ?_
  refine LM.rdC (om_srEA asm ir Try.isAgg78 Try.sizeOf78 rfl au3 id) ?_
  refine LM.callE (oc_callV rfl (enters_fn Try.func35 kr rfl) rfl) (fun w hm hc hg => smay2_spec _ w) ?_
  refine nA [(0, _), (1, _), (5, _), (7, _), (8, _), (16, _)] ?_
  refine wpM.condB rfl (fun h2 => ?_) (fun h2 => ?_)
  ·
   refine wR <| LM.mv rfl <| LM.as rfl <| nA [(4, _)] <| wpM.ret <| QM.block_ret <| QM.then_ret <| QM.then_ret <| QM.block_ret <| QM.then_ret ?_
   refine qL Try.results52 rfl fun w' hm' hc' hg' => ?_
   exact ⟨by show Value.int .i64 _ = _; rw [fix_hit default ha om (by simpa using h2)], hc'⟩
  refine wpM.skip <| QM.block_normal ?_
  refine QM.then (wpM.region ?_)
  refine LM.val (ov_add64 rfl rfl om) ?_
  refine LM.mv rfl <| nC [(0, _), (1, _), (7, _), (8, _)] ?_
  refine QM.againK (i + 1) ⟨au2, rfl, rfl, rfl, trivial⟩ au1 (fun _ h => h) ?_ ?_
  · exact ⟨by omega, by rw [any_snoc default om, ha, Bool.false_or]; simpa using h2⟩
  · omega
 refine wpM.exit <| QM.then_exit <| QM.then_exit <| QM.block_hit <| tR <| LM.as rfl <| nA [(4, _)] <| wpM.ret ?_
 refine qL Try.results52 rfl fun w' hm' hc' hg' => ?_
 have hil : i = xs.length := om; subst hil; rw [List.take_length] at ha; exact ⟨by show Value.int .i64 _ = _; rw [fix_miss ha], hc'⟩
theorem cof_l {xs : List CLk} {ad : Option Addr} {n cap : Nat} (w : World) (hn : n = xs.length) (hl : Sr fL 5 xs (.slice ad n cap) w) (hx : xs.length ≤ 1000000) : Ret Try.prog 34 #[.slice ad n cap, .func (.func 35) #[] #[]] w (fun v w' => v = .bool (xs.any (fun o => (!lokB o))) ∧ Ext w w') := by
 refine Ret.enterM Try.func34 rfl Try.ntmps34 rfl ([]) (no) (Mem.nil w) ?_
 refine wR <| LM.as rfl <| nB [(0, _), (1, _)] <| LM.mv rfl <| LM.mv rfl ?_
 refine cE Try.func52 rfl (fun w hm hc hg => ixf_l w hn (hl.ext hc) hx) ?_
 refine LM.val (ov_geq rfl rfl) <| LM.as rfl <| nA [(4, _)] <| wpM.ret ?_
 refine qL Try.results34 rfl fun w' hm' hc' hg' => ?_
 exact ⟨by show Value.bool _ = _; rw [← fix_pos], hc'⟩
theorem misfit_spec {s : StV} (w : World) (hI : s.In w) (hx : s.ps.length ≤ 1000000) : Ret Try.prog 37 #[s.val] w (fun v w' => v = .tuple #[.int .i64 (misI s.ls (s.ps.map PgV.c)), .int .i64 (misE s.ls (s.ps.map PgV.c) (misI s.ls (s.ps.map PgV.c)))] ∧ Ext w w') := by
 have hgn := hI.hgn; have hln := hI.hln; have hpn := hI.hpn; have hp := hI.hp; have hg := hI.hg; have hl := hI.hl; have hcl : (s.ps.map PgV.c).length = s.ps.length := List.length_map ..
 refine Ret.enterM Try.func37 rfl Try.ntmps37 rfl ([]) (no) (Mem.nil w) ?_
 refine wR ?_
 refine LM.box rfl rfl (fun b1 hb1 => ?_)
 refine LM.as rfl <| LM.as rfl <| nA [(1, _)] <| wpM.seq <| wR <| LM.val (ovf 24 rfl rfl rfl rfl) ?_
 refine LM.rd (oml rfl rfl rfl) ?_
 refine LM.val (ov_len Try.underlying24 rfl) <| LM.mv rfl <| nA [(1, _), (9, _), (10, _), (11, _)] <| wpM.block ?_
 refine wpM.loopK0 (α := Nat) (fun k => [(11, .int .i64 (k : Nat))]) [(1, _), (9, _), (10, _)] (fun k => stB b1 s :: []) (fun k => k ≤ s.ps.length ∧ ((s.ps.map PgV.c).take k).any (misB s.ls (s.pn : Nat)) = false) (fun k => s.ps.length - k) (0) ⟨au2, rfl, rfl, rfl, trivial⟩ au1 ⟨Nat.zero_le _, rfl⟩ ?_
 rintro k ⟨hk, hap⟩
 change wpM _ _ _ _ _ _ _ (stB b1 s :: []) _ _ _
 refine wR <| LM.val (ov_lss rfl rfl) <| nA [(1, _), (9, _), (10, _), (11, _), (12, _)] <| wpM.seq ?_
 refine wpM.condD rfl (fun h1 => ?_) (fun h1 => ?_)
 ·
  have hpm : s.ps.getD k default ∈ s.ps := List.mem_of_getElem? (getq default om)
  refine wpM.skip <| QM.then <| wpM.seq <| wpM.block <| wR <| LM.mv rfl ?_
  refine LM.val (ov_idxSN au6 Try.underlying24 Try.sizeOf45 rfl rfl om) ?_
  refine LM.rdC (om_srEA asm ir Try.isAgg45 Try.sizeOf45 rfl au3 id) ?_
  refine LM.alloc Try.zeroValue45 rfl (fun b5 hb5 => ?_)
  refine LM.as rfl ?_
  refine LM.stW Try.sizeOf45 rfl rfl rfl rfl au7 au8 ?_
  refine nB [(1, _), (4, _), (5, _), (9, _), (10, _), (11, _)] ?_
  refine LM.rd (om_ldW Try.isAgg45 Try.sizeOf45 rfl rfl) ?_
  refine LM.val (ovf 23 rfl rfl rfl rfl) ?_
  refine LM.rd (oml rfl rfl rfl) ?_
  refine LM.val (ovf 24 rfl rfl rfl rfl) ?_
  refine LM.rd (oml rfl rfl rfl) ?_
  refine LM.val (ov_len Try.underlying24 rfl) ?_
  refine cE Try.func53 rfl (fun w hm hc hg => check_spec (s.pn : Nat) w (hI.ops _ hpm).1 ((hI.ops _ hpm).2.ext hc) hln (hl.ext hc)) ?_
  refine LM.mv rfl <| LM.val (ov_extract rfl rfl) <| LM.val (ov_extract rfl rfl) <| LM.as rfl <| LM.as rfl <| nB [(1, _), (4, _), (7, _), (9, _), (10, _), (11, _)] <| LM.mv rfl <| LM.val (ov_neq rfl rfl) <| nA [(1, _), (4, _), (7, _), (9, _), (10, _), (11, _), (27, _)] ?_
  refine wpM.condD rfl (fun h2 => ?_) (fun h2 => ?_)
  ·
   refine wR <| LM.mv rfl <| LM.mv rfl <| LM.as rfl <| LM.as rfl <| nA [(2, _), (3, _)] <| wpM.ret <| QM.block_ret <| QM.then_ret <| QM.then_ret <| QM.block_ret <| QM.then_ret ?_
   refine QM.leave (.inl rfl) [.tmp 2, .tmp 3] Try.results37 rfl ?_
   intro w' hm' hc' hg'
   have e : misI s.ls (s.ps.map PgV.c) = (k : Nat) := fix_hit default (by rw [hcl, ← hpn]; exact hap) (by rw [hcl]; omega) (by rw [map_getD, hcl, ← hpn]; unfold misB; exact decide_eq_true h2); refine ⟨?_, hc'⟩; rw [e]; unfold misE; rw [if_neg om, Int.toNat_natCast, map_getD, hcl, ← hpn]; rfl
  refine wpM.skip <| QM.block_normal ?_
  refine QM.then (wpM.region ?_)
  refine LM.val (ov_add64 rfl rfl om) ?_
  refine LM.mv rfl <| nC [(1, _), (9, _), (10, _), (11, _)] ?_
  refine QM.againK (k + 1) ⟨au2, rfl, rfl, rfl, trivial⟩ au1 (fun _ h => h) ?_ ?_
  · exact ⟨by omega, by rw [any_snoc default (by rw [hcl]; omega), hap, Bool.false_or, map_getD]; unfold misB; simpa using h2⟩
  · omega
 refine wpM.exit <| QM.then_exit <| QM.then_exit <| QM.block_hit <| tR <| LM.as rfl <| LM.as rfl <| nA [(2, _), (3, _)] <| wpM.ret ?_
 refine QM.leave (.inl rfl) [.tmp 2, .tmp 3] Try.results37 rfl ?_
 intro w' hm' hc' hg'
 have hkp : k = s.ps.length := om; rw [hkp, List.take_of_length_le om] at hap; have e : misI s.ls (s.ps.map PgV.c) = -1 := fix_miss (by rw [hcl, ← hpn]; exact hap); refine ⟨?_, hc'⟩; rw [e]; rfl
theorem mayS_spec {s : StV} (w : World) (hI : s.In w) : Ret Try.prog 17 #[s.val] w (fun v w' => v = .bool (mayS s.C) ∧ Ext w w') := by
 have hgn := hI.hgn; have hln := hI.hln; have hpn := hI.hpn; have hp := hI.hp; have hg := hI.hg; have hl := hI.hl; have hcl : (s.ps.map PgV.c).length = s.ps.length := List.length_map ..
 refine Ret.enterM Try.func17 rfl Try.ntmps17 rfl ([]) (no) (Mem.nil w) ?_
 refine wR ?_
 refine LM.box rfl rfl (fun b1 hb1 => ?_)
 refine LM.as rfl <| nA [(1, _)] <| wpM.seq <| wpM.block <| wR <| LM.val (ovf 3 rfl rfl rfl rfl) ?_
 refine LM.rd (oml rfl rfl rfl) ?_
 refine cE Try.func31 rfl (fun w hm hc hg => swithin_spec _ _ w) ?_
 refine LM.val (ov_not rfl) ?_
 refine LM.mv rfl ?_
 refine LM.splitB (t := 10) rfl (fun h1 => ?_) (fun h1 => ?_)
 ·
  refine LM.dr 10 rfl rfl rfl <| LM.dr 10 rfl rfl rfl <| LM.dr 10 rfl rfl rfl <| LM.dr 10 rfl rfl rfl <| LM.val (ov_pickT rfl rfl) <| LM.as rfl <| nA [(1, _), (5, _)] ?_
  refine wpM.condT rfl ?_
  refine wR <| LM.as rfl <| nA [(2, _)] <| wpM.ret <| QM.block_ret <| QM.then_ret ?_
  refine qL Try.results17 rfl fun w' hm' hc' hg' => ?_
  refine ⟨?_, hc'⟩; rw [mayS_head (by rw [head_eq hgn hln hpn]; simp [h1])]; rfl
 refine LM.sp 10 rfl rfl rfl <| LM.val (ovf 3 rfl rfl rfl rfl) <| LM.sp 10 rfl rfl rfl ?_
 refine LM.rd (oml rfl rfl rfl) ?_
 refine LM.sp 10 rfl rfl rfl ?_
 refine cE Try.func31 rfl (fun w hm hc hg => swithin_spec _ _ w) ?_
 refine LM.sp 10 rfl rfl rfl ?_
 refine LM.val (ov_not rfl) ?_
 refine LM.val (ov_pickF rfl rfl) <| LM.as rfl <| nA [(1, _), (5, _)] ?_
 refine wpM.condB rfl (fun h2 => ?_) (fun h2 => ?_)
 ·
  refine wR <| LM.as rfl <| nA [(2, _)] <| wpM.ret <| QM.block_ret <| QM.then_ret ?_
  refine qL Try.results17 rfl fun w' hm' hc' hg' => ?_
  refine ⟨?_, hc'⟩; rw [mayS_head (by rw [head_eq hgn hln hpn]; simp [h1, h2])]; rfl
 refine wR <| LM.val (ovf 22 rfl rfl rfl rfl) ?_
 refine LM.rd (oml rfl rfl rfl) ?_
 refine LM.val (ov_len Try.underlying22 rfl) ?_
 refine cE Try.func31 rfl (fun w hm hc hg => swithin_spec _ _ w) ?_
 refine LM.val (ov_not rfl) ?_
 refine LM.mv rfl ?_
 refine LM.splitB (t := 22) rfl (fun h3 => ?_) (fun h3 => ?_)
 ·
  refine LM.dr 22 rfl rfl rfl <| LM.dr 22 rfl rfl rfl <| LM.dr 22 rfl rfl rfl <| LM.val (ov_pickT rfl rfl) <| LM.as rfl <| nA [(1, _), (16, _)] ?_
  refine wpM.condT rfl ?_
  refine wR <| LM.as rfl <| nA [(2, _)] <| wpM.ret <| QM.block_ret <| QM.then_ret ?_
  refine qL Try.results17 rfl fun w' hm' hc' hg' => ?_
  refine ⟨?_, hc'⟩; rw [mayS_head (by rw [head_eq hgn hln hpn]; simp [h1, h2, h3])]; rfl
 refine LM.sp 22 rfl rfl rfl <| LM.val (ovf 22 rfl rfl rfl rfl) <| LM.sp 22 rfl rfl rfl ?_
 refine LM.rd (oml rfl rfl rfl) ?_
 refine LM.sp 22 rfl rfl rfl ?_
 refine cE Try.func32 rfl (fun w hm hc hg => cof_g w hgn (hI.hg.ext hc) (by have h9 : winB (s.gn : Int) 4 = true := (by simpa using h3); have := (winL _ _).1 h9; omega)) ?_
 refine LM.val (ov_pickF rfl rfl) <| LM.as rfl <| nA [(1, _), (16, _)] ?_
 refine wpM.condB rfl (fun h4 => ?_) (fun h4 => ?_)
 ·
  refine wR <| LM.as rfl <| nA [(2, _)] <| wpM.ret <| QM.block_ret <| QM.then_ret ?_
  refine qL Try.results17 rfl fun w' hm' hc' hg' => ?_
  refine ⟨?_, hc'⟩; rw [mayS_gs (s := s.C) (by show s.gs.all _ = false; rw [all_any, h4]; rfl)]; rfl
 refine wR <| LM.val (ovf 23 rfl rfl rfl rfl) ?_
 refine LM.rd (oml rfl rfl rfl) ?_
 refine LM.val (ov_len Try.underlying23 rfl) <| LM.val (ov_gtr rfl rfl) <| LM.mv rfl ?_
 refine LM.splitD (t := 32) rfl (fun h5 => ?_) (fun h5 => ?_)
 ·
  refine LM.dr 32 rfl rfl rfl <| LM.dr 32 rfl rfl rfl <| LM.dr 32 rfl rfl rfl <| LM.val (ov_pickT rfl rfl) <| LM.as rfl <| nA [(1, _), (27, _)] ?_
  refine wpM.condT rfl ?_
  refine wR <| LM.as rfl <| nA [(2, _)] <| wpM.ret <| QM.block_ret <| QM.then_ret ?_
  refine qL Try.results17 rfl fun w' hm' hc' hg' => ?_
  refine ⟨?_, hc'⟩; rw [mayS_head (by rw [head_eq hgn hln hpn]; simp [h1, h2, h3, h4, h5])]; rfl
 refine LM.sp 32 rfl rfl rfl <| LM.val (ovf 23 rfl rfl rfl rfl) <| LM.sp 32 rfl rfl rfl ?_
 refine LM.rd (oml rfl rfl rfl) ?_
 refine LM.sp 32 rfl rfl rfl ?_
 refine cE Try.func34 rfl (fun w hm hc hg => cof_l w hln (hl.ext hc) om) ?_
 refine LM.val (ov_pickF rfl rfl) <| LM.as rfl <| nA [(1, _), (27, _)] ?_
 refine wpM.condB rfl (fun h6 => ?_) (fun h6 => ?_)
 ·
  refine wR <| LM.as rfl <| nA [(2, _)] <| wpM.ret <| QM.block_ret <| QM.then_ret ?_
  refine qL Try.results17 rfl fun w' hm' hc' hg' => ?_
  refine ⟨?_, hc'⟩; rw [mayS_ls (s := s.C) (by show s.ls.all _ = false; rw [all_any, h6]; rfl)]; rfl
 refine wR <| LM.val (ovf 24 rfl rfl rfl rfl) ?_
 refine LM.rd (oml rfl rfl rfl) ?_
 refine LM.val (ov_len Try.underlying24 rfl) ?_
 refine cE Try.func31 rfl (fun w hm hc hg => swithin_spec _ _ w) ?_
 refine LM.val (ov_not rfl) ?_
 refine LM.as rfl <| nA [(1, _), (37, _)] ?_
 refine wpM.condB rfl (fun h7 => ?_) (fun h7 => ?_)
 ·
  refine wR <| LM.as rfl <| nA [(2, _)] <| wpM.ret <| QM.block_ret <| QM.then_ret ?_
  refine qL Try.results17 rfl fun w' hm' hc' hg' => ?_
  refine ⟨?_, hc'⟩; rw [mayS_head (by rw [head_eq hgn hln hpn]; simp [h1, h2, h3, h4, h5, h6, h7])]; rfl
 refine wpM.skip <| QM.block_normal <| tR ?_
 refine LM.rd (om_ldW Try.isAgg26 Try.sizeOf26 rfl rfl) ?_
 refine cE Try.func37 rfl (fun w hm hc hg => misfit_spec w (hI.ext hc) (by have h9 : winB (s.pn : Int) 8 = true := (by simpa using h7); have := (winL _ _).1 h9; omega)) ?_
 refine LM.mv rfl <| LM.val (ov_extract rfl rfl) <| LM.val (ov_extract rfl rfl) <| LM.as rfl <| LM.as rfl <| nB [(3, _)] <| LM.mv rfl <| LM.val (ov_lss rfl rfl) <| LM.as rfl <| nA [(2, _)] <| wpM.ret ?_
 refine qL Try.results17 rfl fun w' hm' hc' hg' => ?_
 have hhd : headB s.C = true := (by rw [head_eq hgn hln hpn]; simp [h1, h2, h3, h4, h5, h6, h7]); have hgs : s.gs.all (fun n => winB n 16) = true := (by rw [all_any, h4]; rfl); have hls : s.ls.all lokB = true := (by rw [all_any, h6]; rfl); have hmi : decide (misI s.ls (s.ps.map PgV.c) < 0) = !(s.ps.map PgV.c).any (misB s.ls (s.ps.map PgV.c).length) := (by unfold misI; rw [← fix_pos, ← decide_not]; exact decide_eq_decide.2 om); refine ⟨?_, hc'⟩; rw [mayS_split, hhd]; show Value.bool (decide (misI s.ls (s.ps.map PgV.c) < 0)) = Value.bool (true && (s.gs.all (fun n => winB n 16) && (s.ls.all lokB && !(s.ps.map PgV.c).any (misB s.ls (s.ps.map PgV.c).length)))); rw [hmi, hgs, hls]; rfl
theorem bit_spec (i : Int) (w : World) : Ret Try.prog 50 #[.int .i64 i] w (fun v w' => v = U (bitU i) ∧ Ext w w') := by
 refine Ret.enterM Try.func50 rfl Try.ntmps50 rfl ([]) (no) (Mem.nil w) ?_
 refine wR <| LM.as rfl <| nA [(0, _)] <| wpM.seq <| wR <| LM.mv rfl <| LM.val (ov_lss rfl rfl) <| LM.mv rfl ?_
 refine LM.splitD (t := 5) rfl (fun h1 => ?_) (fun h1 => ?_)
 ·
  refine LM.dr 5 rfl rfl rfl <| LM.dr 5 rfl rfl rfl <| LM.val (ov_pickT rfl rfl) <| nA [(0, _), (8, _)] ?_
  refine wpM.condT rfl ?_
  refine wR <| LM.as rfl <| nA [(2, _)] <| wpM.ret <| QM.then_ret ?_
  refine qL Try.results50 rfl fun w' hm' hc' hg' => ?_
  refine ⟨?_, hc'⟩; simp only [resV, bitU]; first | (rw [if_pos om]; done) | (rw [if_neg om]; done) | (rw [if_pos om]; rfl)
 refine LM.sp 5 rfl rfl rfl <| LM.mv rfl <| LM.sp 5 rfl rfl rfl <| LM.val (ov_gtr rfl rfl) <| LM.val (ov_pickF rfl rfl) <| nA [(0, _), (8, _)] ?_
 refine wpM.condD rfl (fun h2 => ?_) (fun h2 => ?_)
 ·
  refine wR <| LM.as rfl <| nA [(2, _)] <| wpM.ret <| QM.then_ret ?_
  refine qL Try.results50 rfl fun w' hm' hc' hg' => ?_
  refine ⟨?_, hc'⟩; simp only [resV, bitU]; first | (rw [if_pos om]; done) | (rw [if_neg om]; done) | (rw [if_pos om]; rfl)
 refine wpM.skip <| tR <| LM.mv rfl ?_
 refine LM.val (ov_ushl (a := 1#64) rfl rfl om) ?_
 refine LM.as rfl <| nA [(2, _)] <| wpM.ret ?_
 refine qL Try.results50 rfl fun w' hm' hc' hg' => ?_
 refine ⟨?_, hc'⟩; simp only [resV, bitU]; first | (rw [if_pos om]; done) | (rw [if_neg om]; done) | (rw [if_pos om]; rfl)
theorem ihas_spec (s : BitVec 64) (i : Int) (w : World) : Ret Try.prog 75 #[U s, .int .i64 i] w (fun v w' => v = .bool (sHas s i) ∧ Ext w w') := by
 refine Ret.enterM Try.func75 rfl Try.ntmps75 rfl ([]) (no) (Mem.nil w) ?_
 refine wR <| LM.as rfl <| nB [(0, _), (1, _)] <| LM.mv rfl <| LM.mv rfl ?_
 refine cE Try.func50 rfl (fun w hm hc hg => bit_spec _ w) ?_
 refine LM.val (ov_uand rfl rfl) ?_
 refine LM.val (ov_uneq (b := 0#64) rfl rfl) ?_
 refine LM.as rfl <| nA [(4, _)] <| wpM.ret ?_
 refine qL Try.results75 rfl fun w' hm' hc' hg' => ?_
 exact ⟨by simp only [resV]; rw [has_bit], hc'⟩
theorem with_spec (s : BitVec 64) (i : Int) (w : World) : Ret Try.prog 30 #[U s, .int .i64 i] w (fun v w' => v = U (withS s i) ∧ Ext w w') := by
 refine Ret.enterM Try.func30 rfl Try.ntmps30 rfl ([]) (no) (Mem.nil w) ?_
 refine wR <| LM.as rfl <| nB [(0, _), (1, _)] <| LM.mv rfl <| LM.mv rfl ?_
 refine cE Try.func50 rfl (fun w hm hc hg => bit_spec _ w) ?_
 refine LM.val (ov_uor rfl rfl) ?_
 refine LM.as rfl <| nA [(4, _)] <| wpM.ret ?_
 refine qL Try.results30 rfl fun w' hm' hc' hg' => ?_
 exact ⟨rfl, hc'⟩
theorem without_spec (s : BitVec 64) (i : Int) (w : World) : Ret Try.prog 85 #[U s, .int .i64 i] w (fun v w' => v = U (witho s i) ∧ Ext w w') := by
 refine Ret.enterM Try.func85 rfl Try.ntmps85 rfl ([]) (no) (Mem.nil w) ?_
 refine wR <| LM.as rfl <| nB [(0, _), (1, _)] <| LM.mv rfl <| LM.mv rfl ?_
 refine cE Try.func50 rfl (fun w hm hc hg => bit_spec _ w) ?_
 refine LM.val (ov_uandNot rfl rfl) ?_
 refine LM.as rfl <| nA [(4, _)] <| wpM.ret ?_
 refine qL Try.results85 rfl fun w' hm' hc' hg' => ?_
 exact ⟨rfl, hc'⟩
def fTk (t : Tkm) : List Value := [.int .i64 t.core, .int .i64 t.how, .int .i64 t.lock]
def fMe (e : Mev) : List Value := [U e.tm, .int .i64 e.k, .int .i64 e.t, .int .i64 e.l, .int .i64 e.n]
abbrev woC (b : Nat) (s : StV) (now : BitVec 64) (adt : Option Addr) (nt capt : Nat) (adr : Option Addr) (adw : Option Addr) : Nat × Obj :=
  (b, .cells #[.int .i64 s.cr, .int .i64 s.gr, .slice s.ga s.gn s.gc, .slice s.la s.ln s.lc, .slice s.pa s.pn s.pc, U now, .slice adt nt capt, .slice adr s.ln s.ln, .slice adw s.ln s.ln] 60 (0, 0))
structure WoK (s : StV) (x : Wom) : Prop where
  r : x.rd.length = s.ln
  w : x.wr.length = s.ln
  t : x.ts.length ≤ 64
  l : s.ln ≤ 8
  h : x.sh = s.ls.map (·.sh)
  c : x.cores = s.cr
  n : s.ln = s.ls.length
theorem WoK.hl {s : StV} {x : Wom} (h : WoK s x) : x.sh.length = s.ln := by rw [h.h, List.length_map, h.n]
theorem WoK.of {s : StV} {x y : Wom} (h : WoK s x) (h1 : y.rd.length = x.rd.length) (h2 : y.wr.length = x.wr.length) (h3 : y.ts.length ≤ 64) (h4 : y.sh = x.sh) (h5 : y.cores = x.cores) : WoK s y := ⟨h1.trans h.r, h2.trans h.w, h3, h.l, h4.trans h.h, h5.trans h.c, h.n⟩
abbrev woM0 (b : Nat) (s : StV) (x : Wom) (adt : Option Addr) (nt capt : Nat) (adr adw : Option Addr) (mt mr mw : Mem0) : Mem0 := woC b s x.now adt nt capt adr adw :: (mt ++ (mr ++ mw))
def WoM (n0 b : Nat) (s : StV) (x : Wom) (m : Mem0) : Prop := ∃ adt nt capt adr adw mt mr mw, m = woM0 b s x adt nt capt adr adw mt mr mw ∧ nt = x.ts.length ∧ Sl fTk 63 3 n0 x.ts (.slice adt nt capt) mt ∧ Sl fU 38 1 n0 x.rd (.slice adr s.ln s.ln) mr ∧ Sl fU 38 1 n0 x.wr (.slice adw s.ln s.ln) mw ∧ WoK s x ∧ n0 ≤ b
theorem WoM.k {n0 b : Nat} {s : StV} {x : Wom} {m : Mem0} (h : WoM n0 b s x m) : WoK s x := by obtain ⟨_, _, _, _, _, _, _, _, _, _, _, _, _, h, _⟩ := h; exact h
theorem WoM.wlk {n0 b : Nat} {s : StV} {x : Wom} {m : Mem0} (h : WoM n0 b s x m) : ∀ p ∈ m, wlk p.2 = false := by
  obtain ⟨adt, nt, capt, adr, adw, mt, mr, mw, rfl, -, h1, h2, h3, -, -⟩ := h
  intro p hp
  rcases List.mem_cons.1 hp with rfl | hp
  · rfl
  rcases List.mem_append.1 hp with hp | hp
  · exact h1.wlk p hp
  rcases List.mem_append.1 hp with hp | hp
  · exact h2.wlk p hp
  · exact h3.wlk p hp
theorem WoM.ge {n0 b : Nat} {s : StV} {x : Wom} {m : Mem0} (h : WoM n0 b s x m) : ∀ p ∈ m, n0 ≤ p.1 := by
  obtain ⟨adt, nt, capt, adr, adw, mt, mr, mw, rfl, -, h1, h2, h3, -, hb⟩ := h
  intro p hp
  rcases List.mem_cons.1 hp with rfl | hp
  · exact hb
  rcases List.mem_append.1 hp with hp | hp
  · exact h1.ge p hp
  rcases List.mem_append.1 hp with hp | hp
  · exact h2.ge p hp
  · exact h3.ge p hp
theorem wom_leaf {n0 b nt capt : Nat} {s : StV} {adt adr adw : Option Addr} {x : Wom} {m mt mr mw M : Mem0} {u0 : Value} {w w' : World} (hnt : nt = x.ts.length) (hst : Sl fTk 63 3 n0 x.ts (.slice adt nt capt) mt) (hsr : Sl fU 38 1 n0 x.rd (.slice adr s.ln s.ln) mr) (hsw : Sl fU 38 1 n0 x.wr (.slice adw s.ln s.ln) mw) (hk : WoK s x) (hb : n0 ≤ b) (hm : Mem w' M)
    (hs : SubM M (woC b s x.now adt nt capt adr adw :: (mt ++ (mr ++ (mw ++ []))))) (hc : Chg (inM m) w w') (hbm : inM m b) (h1 : inn m w.heap.size mt) (h2 : inn m w.heap.size mr) (h3 : inn m w.heap.size mw) :
    Upd m (fun u m' => u = u0 ∧ WoM n0 b s x m') w u0 w' := by
  rw [List.append_nil] at hs
  exact ⟨hc, _, ⟨rfl, adt, nt, capt, adr, adw, mt, mr, mw, rfl, hnt, hst, hsr, hsw, hk, hb⟩, hs.mem w' hm, inn_cons hbm (inn_app h1 (inn_app h2 h3))⟩
theorem lck_row (k : Int) : [(4 : Int), 5, 6, 12, 8].any (fun y => decide (k = y)) = lckB k := by unfold lckB; simp only [List.any_cons, List.any_nil, Bool.or_false]
theorem bar_row (k : Int) : [(5 : Int), 6, 12, 11].any (fun y => decide (k = y)) = barB k := by unfold barB; simp only [List.any_cons, List.any_nil, Bool.or_false]
theorem err_row (k : Int) : [(3 : Int), 7, 8, 9].any (fun y => decide (k = y)) = errB k := by unfold errB; simp only [List.any_cons, List.any_nil, Bool.or_false]
theorem mHoldsN_spec {n0 b : Nat} {s : StV} {x : Wom} {m : Mem0} (id : Int) (l : Nat) (w : World) (h : WoM n0 b s x m) (hl : l < s.ln) (hM : Mem w m) : Ret Try.prog 73 #[.pointer (some ⟨b, 0, none⟩), .int .i64 id, .int .i64 (l : Nat)] w (fun u w' => u = .bool (hldM x id l) ∧ Ext w w') := by
 obtain ⟨adt, nt, capt, adr, adw, mt, mr, mw, rfl, hnt, hst, hsr, hsw, hk, hb⟩ := h; have hkr := hk.r; have hkw := hk.w
 refine Ret.enterM Try.func73 rfl Try.ntmps73 rfl (woC b s x.now adt nt capt adr adw :: (mt ++ (mr ++ (mw ++ [])))) (no) aM ?_
 refine wR <| LM.as rfl <| nA [(0, _), (1, _), (2, _)] <| wpM.seq ?_
 refine wpM.draw [(0, 0), (1, 0), (2, 0), (3, 1), (4, 0), (5, 0), (6, 1), (7, 0), (8, 0), (9, 0), (10, 1), (11, 0), (12, 0), (13, 1), (14, 0), (15, 0), (16, 2), (17, 0)] kr kr ?_
 refine LD.val rfl rfl (ov_move rfl) <| LD.val rfl rfl (ov_nilCheck rfl) <| LD.val rfl rfl (ovf 58 rfl rfl rfl rfl) ?_
 refine LD.rd rfl rfl (oml rfl rfl rfl) ?_
 refine LD.val rfl rfl (ov_move rfl) ?_
 refine LD.val rfl rfl (ov_idxSN au6 Try.underlying58 Try.sizeOf38 rfl rfl om) ?_
 refine LD.rd rfl rfl (om_sl1 asm ir Try.isAgg38 rfl rfl (by exact getq 0#64 au4) (by rfl)) ?_
 refine LD.val rfl rfl (ov_move rfl) <| LD.val rfl rfl (ov_nilCheck rfl) <| LD.val rfl rfl (ovf 58 rfl rfl rfl rfl) ?_
 refine LD.rd rfl rfl (oml rfl rfl rfl) ?_
 refine LD.val rfl rfl (ov_move rfl) ?_
 refine LD.val rfl rfl (ov_idxSN au6 Try.underlying58 Try.sizeOf38 rfl rfl om) ?_
 refine LD.rd rfl rfl (om_sl1 asm ir Try.isAgg38 rfl rfl (by exact getq 0#64 au4) (by rfl)) ?_
 refine LD.val rfl rfl (ov_uor rfl rfl) ?_
 refine LD.val rfl rfl (ov_move rfl) ?_
 refine dE rfl rfl Try.func75 rfl (fun w hm hc hg => ihas_spec _ _ w) ?_
 refine LD.val rfl rfl (ov_assign rfl) <| LD.nil ?_
 refine QM.sub (e' := [(6, _)]) ⟨rfl, trivial⟩ (QM.then ?_)
 refine wpM.ret ?_
 refine qL Try.results73 rfl fun w' hm' hc' hg' => ?_
 exact ⟨rfl, hc'⟩
theorem mHolds_spec {n0 b : Nat} {s : StV} {x : Wom} {m : Mem0} (id lock : Int) (w : World) (h : WoM n0 b s x m) (h0 : 0 ≤ lock) (hl : lock < s.ln) (hM : Mem w m) :
    Ret Try.prog 73 #[.pointer (some ⟨b, 0, none⟩), .int .i64 id, .int .i64 lock] w (fun u w' => u = .bool (hldM x id lock.toNat) ∧ Ext w w') := by
  obtain ⟨l, rfl⟩ : ∃ l : Nat, lock = l := ⟨lock.toNat, by omega⟩
  exact mHoldsN_spec id l w h om hM
theorem mDropN_spec {n0 b : Nat} {s : StV} {x : Wom} {m : Mem0} (id : Int) (l : Nat) (w : World) (h : WoM n0 b s x m) (hl : l < s.ln) (hM : Mem w m) : Ret Try.prog 74 #[.pointer (some ⟨b, 0, none⟩), .int .i64 id, .int .i64 (l : Nat)] w (Upd m (fun u m' => WoM n0 b s (drpM x id l) m') w) := by
 obtain ⟨adt, nt, capt, adr, adw, mt, mr, mw, rfl, hnt, hst, hsr, hsw, hk, hb⟩ := h; have hkr := hk.r; have hkw := hk.w
 refine Ret.enterM Try.func74 rfl Try.ntmps74 rfl (woC b s x.now adt nt capt adr adw :: (mt ++ (mr ++ (mw ++ [])))) ((inM (woM0 b s x adt nt capt adr adw mt mr mw))) aM ?_
 refine wpM.draw [(0, 0), (1, 0), (2, 0), (3, 1), (4, 0), (5, 0), (6, 0), (7, 0), (8, 1), (9, 0), (10, 0), (11, 0), (12, 0), (13, 1), (14, 0), (15, 0), (16, 1), (17, 0), (19, 0), (20, 0), (21, 0), (22, 1), (23, 0), (24, 0), (25, 1), (26, 0), (18, 2), (27, 2), (28, 0), (29, 3), (30, 3), (31, 3)] kr kr ?_
 refine LD.val rfl rfl (ov_move rfl) <| LD.val rfl rfl (ov_nilCheck rfl) <| LD.val rfl rfl (ovf 58 rfl rfl rfl rfl) ?_
 refine LD.rd rfl rfl (oml rfl rfl rfl) ?_
 refine LD.val rfl rfl (ov_move rfl) <| LD.val rfl rfl (ov_move rfl) <| LD.val rfl rfl (ov_nilCheck rfl) <| LD.val rfl rfl (ovf 58 rfl rfl rfl rfl) ?_
 refine LD.rd rfl rfl (oml rfl rfl rfl) ?_
 refine LD.val rfl rfl (ov_move rfl) <| LD.val rfl rfl (ov_move rfl) <| LD.val rfl rfl (ov_nilCheck rfl) <| LD.val rfl rfl (ovf 58 rfl rfl rfl rfl) ?_
 refine LD.rd rfl rfl (oml rfl rfl rfl) ?_
 refine LD.val rfl rfl (ov_move rfl) ?_
 refine LD.val rfl rfl (ov_idxSN au6 Try.underlying58 Try.sizeOf38 rfl rfl om) ?_
 refine LD.rd rfl rfl (om_sl1 asm ir Try.isAgg38 rfl rfl (by exact getq 0#64 au4) (by rfl)) ?_
 refine LD.val rfl rfl (ov_move rfl) <| LD.val rfl rfl (ov_move rfl) <| LD.val rfl rfl (ov_nilCheck rfl) <| LD.val rfl rfl (ovf 58 rfl rfl rfl rfl) ?_
 refine LD.rd rfl rfl (oml rfl rfl rfl) ?_
 refine LD.val rfl rfl (ov_move rfl) ?_
 refine LD.val rfl rfl (ov_idxSN au6 Try.underlying58 Try.sizeOf38 rfl rfl om) ?_
 refine LD.rd rfl rfl (om_sl1 asm ir Try.isAgg38 rfl rfl (by exact getq 0#64 au4) (by rfl)) ?_
 refine LD.val rfl rfl (ov_move rfl) ?_
 refine dE rfl rfl Try.func85 rfl (fun w hm hc hg => without_spec _ _ w) ?_
 refine dE rfl rfl Try.func85 rfl (fun w hm hc hg => without_spec _ _ w) ?_
 refine LD.val rfl rfl (ov_idxSN au6 Try.underlying58 Try.sizeOf38 rfl rfl om) ?_
 refine LD.tail rfl rfl ?_
 refine LM.stS ((witho (x.rd.getD l 0#64) id)) (j := 0) asm ir Try.sizeOf38 rfl rfl rfl (by exact getq 0#64 au4) rfl (by decide) (by rfl) rfl (fun p hp _ => ⟨p, by simp [hp], rfl⟩) (fun ms1 hss1 hmm1 => ?_)
 refine LM.val (ov_idxSN au6 Try.underlying58 Try.sizeOf38 rfl rfl om) ?_
 refine LM.stS ((witho (x.wr.getD l 0#64) id)) (j := 0) asm ir Try.sizeOf38 rfl rfl rfl (by exact getq 0#64 au4) rfl (by decide) (by rfl) rfl (fun p hp _ => ⟨p, by simp [hp], rfl⟩) (fun ms2 hss2 hmm2 => ?_)
 refine LM.nil ?_
 refine QM.qn ?_
 refine QM.sub (e' := []) trivial ?_
 refine QM.leave (.inr rfl) [] Try.results74 rfl ?_
 intro w' hm' hc' hg'
 exact Upd.imp (wom_leaf (u0 := resV []) (x := drpM x id l) hnt hst hss1 hss2 (hk.of (List.length_set ..) (List.length_set ..) hk.t rfl rfl) hb hm' au1 hc' inM_0 inS (inn_tr (inn_of hmm1) (fun p hp => by simp [hp])) (inn_tr (inn_of hmm2) (fun p hp => by simp [hp]))) (fun u m' h => h.2)
theorem mDrop_spec {n0 b : Nat} {s : StV} {x : Wom} {m : Mem0} (id lock : Int) (w : World) (h : WoM n0 b s x m) (h0 : 0 ≤ lock) (hl : lock < s.ln) (hM : Mem w m) :
    Ret Try.prog 74 #[.pointer (some ⟨b, 0, none⟩), .int .i64 id, .int .i64 lock] w (Upd m (fun u m' => WoM n0 b s (drpM x id lock.toNat) m') w) := by
  obtain ⟨l, rfl⟩ : ∃ l : Nat, lock = l := ⟨lock.toNat, by omega⟩
  exact mDropN_spec id l w h om hM
theorem mlocked_spec (k : Int) (w : World) : Ret Try.prog 54 #[.int .i64 k] w (fun v w' => v = .bool (lckB k) ∧ Ext w w') := by
 refine Ret.enterM Try.func54 rfl Try.ntmps54 rfl ([]) (no) (Mem.nil w) ?_
 refine wR <| LM.as rfl <| nB [(0, _)] ?_
 refine LM.row (vs := [_, _, _, _, _]) Try.underlying22 Try.sizeOf3 Try.zeroValue3 rfl rfl rfl rfl rfl rfl (fun b3 hb3 => ?_)
 refine LM.mv rfl ?_
 refine cE Try.func70 rfl (fun w hm hc hg => contains_int (xs := [4, 5, 6, 12, 8]) k w rfl (row_sr 5 (hm.at b3) rfl rfl (fun _ => rfl)) (by decide)) ?_
 refine LM.as rfl <| nA [(2, _)] <| wpM.ret ?_
 refine qL Try.results54 rfl fun w' hm' hc' hg' => ?_
 exact ⟨by show Value.bool _ = _; rw [lck_row], hc'⟩
theorem mbare_spec (k : Int) (w : World) : Ret Try.prog 55 #[.int .i64 k] w (fun v w' => v = .bool (barB k) ∧ Ext w w') := by
 refine Ret.enterM Try.func55 rfl Try.ntmps55 rfl ([]) (no) (Mem.nil w) ?_
 refine wR <| LM.as rfl <| nB [(0, _)] ?_
 refine LM.row (vs := [_, _, _, _]) Try.underlying22 Try.sizeOf3 Try.zeroValue3 rfl rfl rfl rfl rfl rfl (fun b3 hb3 => ?_)
 refine LM.mv rfl ?_
 refine cE Try.func70 rfl (fun w hm hc hg => contains_int (xs := [5, 6, 12, 11]) k w rfl (row_sr 4 (hm.at b3) rfl rfl (fun _ => rfl)) (by decide)) ?_
 refine LM.as rfl <| nA [(2, _)] <| wpM.ret ?_
 refine qL Try.results55 rfl fun w' hm' hc' hg' => ?_
 exact ⟨by show Value.bool _ = _; rw [bar_row], hc'⟩
abbrev meB (b : Nat) (e : Mev) : Nat × Obj := (b, .cells (fMe e).toArray 40 (0, 0))
abbrev cI (b : Nat) (x : Int) : Nat × Obj := (b, .cells #[.int .i64 x] 3 (0, 0))
abbrev pT (adt : Option Addr) (i : Nat) : Value := .pointer (some ⟨adB adt, adO adt + i * 3, none⟩)
theorem set_id {α : Type} {l : List α} {i : Nat} (d : α) (h : i < l.length) : l.set i (l.getD i d) = l := by
  apply List.ext_getElem (by rw [List.length_set])
  intro j h1 h2
  rw [List.getElem_set]
  split
  · rename_i e; subst e; rw [List.getD_eq_getElem?_getD, List.getElem?_eq_getElem h2]; rfl
  · rfl
theorem trn_no {t : Tkm} {fr to : Int} {may : Bool} (h : trnB t fr may = false) : trnT t fr to may = t := by unfold trnT; rw [h]; rfl
theorem wak_1 {t : Tkm} {may : Bool} (h : trnB t 3 may = true) : wakB t may = true ∧ wakT t may = trnT t 3 1 may := by
  have hb : wakB t may = true := by unfold trnB at h; unfold wakB; simp_all
  exact ⟨hb, by unfold wakT trnT; rw [hb, h]⟩
theorem wak_2 {t : Tkm} {may : Bool} (h0 : trnB t 3 may = false) (h : trnB t 6 may = true) : wakB t may = true ∧ wakT t may = trnT t 6 1 may := by
  have hb : wakB t may = true := by unfold trnB at h; unfold wakB; simp_all
  exact ⟨hb, by unfold wakT trnT; rw [hb, h]⟩
theorem wak_3 {t : Tkm} {may : Bool} (h0 : trnB t 3 may = false) (h1 : trnB t 6 may = false) : wakB t may = trnB t 7 may ∧ wakT t may = trnT t 7 1 may := by
  have hb : wakB t may = trnB t 7 may := by
    unfold trnB at h0 h1 ⊢; unfold wakB
    cases may
    · simp
    · simp only [Bool.and_true] at h0 h1 ⊢; rw [h0, h1]; rfl
  exact ⟨hb, by unfold wakT trnT; rw [hb]⟩
theorem fal_1 {t : Tkm} {e : Mev} (h : t.how = 2) (h2 : errB e.n = true) : falB t e = true ∧ falT t e = t := by
  unfold falB falT; rw [decide_eq_true h, h2]; exact ⟨rfl, rfl⟩
theorem fal_2 {t : Tkm} {e : Mev} (h : ¬ (t.how = 2 ∧ errB e.n = true)) : falB t e = trnB t 4 (decide (t.lock = e.l) && decide (e.n = 10)) ∧ falT t e = trnT t 4 7 (decide (t.lock = e.l) && decide (e.n = 10)) := by
  have : (decide (t.how = 2) && errB e.n) = false := by
    cases hq : (decide (t.how = 2) && errB e.n)
    · rfl
    · rw [Bool.and_eq_true, decide_eq_true_eq] at hq; exact absurd hq h
  unfold falB falT; rw [this]; exact ⟨rfl, rfl⟩
def TskU (n0 i : Nat) (ts : List Tkm) (adt : Option Addr) (nt capt : Nat) (q : Bool) (t : Tkm) : Value → Mem0 → Prop := fun u m' => u = .bool q ∧ Sl fTk 63 3 n0 (ts.set i t) (.slice adt nt capt) m'
theorem mFits_spec {n0 b : Nat} {s : StV} {x : Wom} {m : Mem0} (e : Mev) (w : World) (h : WoM n0 b s x m) (hM : Mem w m) : Ret Try.prog 38 #[.pointer (some ⟨b, 0, none⟩), .agg (fMe e).toArray] w (fun u w' => u = .bool (fitB x e) ∧ Ext w w') := by
 obtain ⟨adt, nt, capt, adr, adw, mt, mr, mw, rfl, hnt, hst, hsr, hsw, hk, hb⟩ := h; have hsh := hk.hl
 refine Ret.enterM Try.func38 rfl Try.ntmps38 rfl (woC b s x.now adt nt capt adr adw :: (mt ++ (mr ++ (mw ++ [])))) (no) aM ?_
 refine wR ?_
 refine LM.box rfl rfl (fun b3 hb3 => ?_)
 refine LM.as rfl <| nB [(0, _), (3, _)] <| LM.val (ovf 3 rfl rfl rfl rfl) ?_
 refine LM.rd (oml rfl rfl rfl) ?_
 refine LM.val (ov_eql rfl rfl) <| LM.as rfl <| nA [(0, _), (3, _), (5, _)] <| wpM.seq <| wR <| LM.val (ovf 3 rfl rfl rfl rfl) ?_
 refine LM.rd (oml rfl rfl rfl) ?_
 refine cE Try.func54 rfl (fun w hm hc hg => mlocked_spec _ w) ?_
 refine nA [(0, _), (3, _), (5, _), (11, _)] ?_
 refine wpM.joinK (α := Bool) (fun q => [(5, .bool q)]) [(0, _), (3, _)] (fun q => meB b3 e :: woC b s x.now adt nt capt adr adw :: (mt ++ (mr ++ (mw ++ [])))) (fun q => q = (if lckB e.k = true then (decide (0 ≤ e.l) && decide (e.l < x.sh.length)) || (decide (e.l = -1) && (decide (e.k = 8) && decide (e.n = 3))) else decide (e.l = -1))) ⟨rfl, rfl, trivial⟩ ?_ ?_
 ·
  refine wpM.condB rfl (fun h1 => ?_) (fun h1 => ?_)
  ·
   refine wpM.draw [(0, 0), (1, 1), (2, 0), (3, 0), (4, 0), (5, 1), (6, 0), (7, 0), (8, 0), (9, 0), (10, 1), (11, 0), (12, 0), (13, 0), (14, 0), (15, 0), (16, 1), (17, 0), (18, 0), (19, 0), (20, 1), (21, 0), (22, 0), (23, 0), (24, 0), (25, 1), (26, 0), (27, 0), (28, 0), (29, 0)] kr kr ?_
   refine LD.val rfl rfl (ovf 3 rfl rfl rfl rfl) ?_
   refine LD.rd rfl rfl (oml rfl rfl rfl) ?_
   refine LD.val rfl rfl (ov_geq rfl rfl) ?_
   refine LD.val rfl rfl (ov_move rfl) ?_
   refine LD.splitD (t := 15) rfl (fun h2 => ?_) (fun h2 => ?_)
   ·
    refine LD.val rfl ⟨15, _, rfl, rfl, rfl⟩ (ovf 3 rfl rfl rfl rfl) ?_
    refine LD.rd rfl ⟨15, _, rfl, rfl, rfl⟩ (oml rfl rfl rfl) ?_
    refine LD.val rfl ⟨15, _, rfl, rfl, rfl⟩ (ov_move rfl) <| LD.val rfl ⟨15, _, rfl, rfl, rfl⟩ (ov_nilCheck rfl) <| LD.val rfl ⟨15, _, rfl, rfl, rfl⟩ (ovf 26 rfl rfl rfl rfl) <| LD.val rfl ⟨15, _, rfl, rfl, rfl⟩ (ovf 23 rfl rfl rfl rfl) ?_
    refine LD.rd rfl ⟨15, _, rfl, rfl, rfl⟩ (oml rfl rfl rfl) ?_
    refine LD.val rfl ⟨15, _, rfl, rfl, rfl⟩ (ov_len Try.underlying23 rfl) ?_
    refine LD.val rfl ⟨15, _, rfl, rfl, rfl⟩ (ov_lss rfl rfl) ?_
    refine LD.val rfl rfl (ov_pickT rfl rfl) ?_
    refine LD.val rfl rfl (ov_move rfl) ?_
    refine LD.splitD (t := 26) rfl (fun h3 => ?_) (fun h3 => ?_)
    ·
     refine LD.drop rfl rfl ⟨26, _, rfl, rfl, rfl⟩ <| LD.drop rfl rfl ⟨26, _, rfl, rfl, rfl⟩ <| LD.drop rfl rfl ⟨26, _, rfl, rfl, rfl⟩ ?_
     refine LD.dropU rfl rfl ⟨26, _, rfl, rfl, rfl⟩ ?_
     refine LD.dropX rfl rfl rfl rfl <| LD.dropX rfl rfl rfl rfl <| LD.dropX rfl rfl rfl rfl <| LD.drop rfl rfl ⟨26, _, rfl, rfl, rfl⟩ ?_
     refine LD.dropU rfl rfl ⟨26, _, rfl, rfl, rfl⟩ ?_
     refine LD.dropX rfl rfl rfl rfl <| LD.dropX rfl rfl rfl rfl <| LD.dropX rfl rfl rfl rfl <| LD.drop rfl rfl ⟨26, _, rfl, rfl, rfl⟩ ?_
     refine LD.val rfl rfl (ov_pickT rfl rfl) ?_
     refine LD.val rfl rfl (ov_assign rfl) <| LD.nil ?_
     refine QM.sub (e' := [(0, _), (3, _), (5, _)]) au9 ?_
     refine QM.meetK (_) ⟨au2, rfl, rfl, trivial⟩ au1 ?_
     · rw [if_pos h1, hsh]; first | (simp_all; done) | (simp_all; omega)
    refine LD.val rfl ⟨26, _, rfl, rfl, rfl⟩ (ovf 3 rfl rfl rfl rfl) ?_
    refine LD.rd rfl ⟨26, _, rfl, rfl, rfl⟩ (oml rfl rfl rfl) ?_
    refine LD.val rfl ⟨26, _, rfl, rfl, rfl⟩ (ov_eql rfl rfl) ?_
    refine LD.val rfl ⟨26, _, rfl, rfl, rfl⟩ (ov_move rfl) ?_
    refine LD.splitD (t := 30) rfl (fun h4 => ?_) (fun h4 => ?_)
    ·
     refine LD.val rfl ⟨30, _, rfl, rfl, rfl⟩ (ovf 3 rfl rfl rfl rfl) ?_
     refine LD.rd rfl ⟨30, _, rfl, rfl, rfl⟩ (oml rfl rfl rfl) ?_
     refine LD.val rfl ⟨30, _, rfl, rfl, rfl⟩ (ov_eql rfl rfl) ?_
     refine LD.val rfl ⟨26, _, rfl, rfl, rfl⟩ (ov_pickT rfl rfl) ?_
     refine LD.val rfl ⟨26, _, rfl, rfl, rfl⟩ (ov_move rfl) ?_
     refine LD.splitD (t := 35) rfl (fun h5 => ?_) (fun h5 => ?_)
     ·
      refine LD.val rfl ⟨35, _, rfl, rfl, rfl⟩ (ovf 3 rfl rfl rfl rfl) ?_
      refine LD.rd rfl ⟨35, _, rfl, rfl, rfl⟩ (oml rfl rfl rfl) ?_
      refine LD.val rfl ⟨35, _, rfl, rfl, rfl⟩ (ov_eql rfl rfl) ?_
      refine LD.val rfl ⟨26, _, rfl, rfl, rfl⟩ (ov_pickT rfl rfl) ?_
      refine LD.val rfl rfl (ov_pickF rfl rfl) ?_
      refine LD.val rfl rfl (ov_assign rfl) <| LD.nil ?_
      refine QM.sub (e' := [(0, _), (3, _), (5, _)]) au9 ?_
      refine QM.meetK (_) ⟨au2, rfl, rfl, trivial⟩ au1 ?_
      · rw [if_pos h1, hsh]; first | (simp_all; done) | (simp_all; omega)
     refine LD.drop rfl rfl ⟨35, _, rfl, rfl, rfl⟩ <| LD.drop rfl rfl ⟨35, _, rfl, rfl, rfl⟩ <| LD.drop rfl rfl ⟨35, _, rfl, rfl, rfl⟩ ?_
     refine LD.val rfl ⟨26, _, rfl, rfl, rfl⟩ (ov_pickF rfl rfl) ?_
     refine LD.val rfl rfl (ov_pickF rfl rfl) ?_
     refine LD.val rfl rfl (ov_assign rfl) <| LD.nil ?_
     refine QM.sub (e' := [(0, _), (3, _), (5, _)]) au9 ?_
     refine QM.meetK (_) ⟨au2, rfl, rfl, trivial⟩ au1 ?_
     · rw [if_pos h1, hsh]; first | (simp_all; done) | (simp_all; omega)
    refine LD.drop rfl rfl ⟨30, _, rfl, rfl, rfl⟩ <| LD.drop rfl rfl ⟨30, _, rfl, rfl, rfl⟩ <| LD.drop rfl rfl ⟨30, _, rfl, rfl, rfl⟩ ?_
    refine LD.val rfl ⟨26, _, rfl, rfl, rfl⟩ (ov_pickF rfl rfl) ?_
    refine LD.val rfl ⟨26, _, rfl, rfl, rfl⟩ (ov_move rfl) <| LD.drop rfl rfl ⟨35, _, rfl, rfl, rfl⟩ <| LD.drop rfl rfl ⟨35, _, rfl, rfl, rfl⟩ <| LD.drop rfl rfl ⟨35, _, rfl, rfl, rfl⟩ ?_
    refine LD.val rfl ⟨26, _, rfl, rfl, rfl⟩ (ov_pickF rfl rfl) ?_
    refine LD.val rfl rfl (ov_pickF rfl rfl) ?_
    refine LD.val rfl rfl (ov_assign rfl) <| LD.nil ?_
    refine QM.sub (e' := [(0, _), (3, _), (5, _)]) au9 ?_
    refine QM.meetK (_) ⟨au2, rfl, rfl, trivial⟩ au1 ?_
    · rw [if_pos h1, hsh]; first | (simp_all; done) | (simp_all; omega)
   refine LD.drop rfl rfl ⟨15, _, rfl, rfl, rfl⟩ <| LD.drop rfl rfl ⟨15, _, rfl, rfl, rfl⟩ <| LD.drop rfl rfl ⟨15, _, rfl, rfl, rfl⟩ <| LD.drop rfl rfl ⟨15, _, rfl, rfl, rfl⟩ <| LD.drop rfl rfl ⟨15, _, rfl, rfl, rfl⟩ <| LD.drop rfl rfl ⟨15, _, rfl, rfl, rfl⟩ <| LD.drop rfl rfl ⟨15, _, rfl, rfl, rfl⟩ <| LD.drop rfl rfl ⟨15, _, rfl, rfl, rfl⟩ <| LD.drop rfl rfl ⟨15, _, rfl, rfl, rfl⟩ ?_
   refine LD.val rfl rfl (ov_pickF rfl rfl) ?_
   refine LD.val rfl rfl (ov_move rfl) <| LD.val rfl ⟨26, _, rfl, rfl, rfl⟩ (ovf 3 rfl rfl rfl rfl) ?_
   refine LD.rd rfl ⟨26, _, rfl, rfl, rfl⟩ (oml rfl rfl rfl) ?_
   refine LD.val rfl ⟨26, _, rfl, rfl, rfl⟩ (ov_eql rfl rfl) ?_
   refine LD.val rfl ⟨26, _, rfl, rfl, rfl⟩ (ov_move rfl) ?_
   refine LD.splitD (t := 30) rfl (fun h6 => ?_) (fun h6 => ?_)
   ·
    refine LD.val rfl ⟨30, _, rfl, rfl, rfl⟩ (ovf 3 rfl rfl rfl rfl) ?_
    refine LD.rd rfl ⟨30, _, rfl, rfl, rfl⟩ (oml rfl rfl rfl) ?_
    refine LD.val rfl ⟨30, _, rfl, rfl, rfl⟩ (ov_eql rfl rfl) ?_
    refine LD.val rfl ⟨26, _, rfl, rfl, rfl⟩ (ov_pickT rfl rfl) ?_
    refine LD.val rfl ⟨26, _, rfl, rfl, rfl⟩ (ov_move rfl) ?_
    refine LD.splitD (t := 35) rfl (fun h7 => ?_) (fun h7 => ?_)
    ·
     refine LD.val rfl ⟨35, _, rfl, rfl, rfl⟩ (ovf 3 rfl rfl rfl rfl) ?_
     refine LD.rd rfl ⟨35, _, rfl, rfl, rfl⟩ (oml rfl rfl rfl) ?_
     refine LD.val rfl ⟨35, _, rfl, rfl, rfl⟩ (ov_eql rfl rfl) ?_
     refine LD.val rfl ⟨26, _, rfl, rfl, rfl⟩ (ov_pickT rfl rfl) ?_
     refine LD.val rfl rfl (ov_pickF rfl rfl) ?_
     refine LD.val rfl rfl (ov_assign rfl) <| LD.nil ?_
     refine QM.sub (e' := [(0, _), (3, _), (5, _)]) au9 ?_
     refine QM.meetK (_) ⟨au2, rfl, rfl, trivial⟩ au1 ?_
     · rw [if_pos h1, hsh]; first | (simp_all; done) | (simp_all; omega)
    refine LD.drop rfl rfl ⟨35, _, rfl, rfl, rfl⟩ <| LD.drop rfl rfl ⟨35, _, rfl, rfl, rfl⟩ <| LD.drop rfl rfl ⟨35, _, rfl, rfl, rfl⟩ ?_
    refine LD.val rfl ⟨26, _, rfl, rfl, rfl⟩ (ov_pickF rfl rfl) ?_
    refine LD.val rfl rfl (ov_pickF rfl rfl) ?_
    refine LD.val rfl rfl (ov_assign rfl) <| LD.nil ?_
    refine QM.sub (e' := [(0, _), (3, _), (5, _)]) au9 ?_
    refine QM.meetK (_) ⟨au2, rfl, rfl, trivial⟩ au1 ?_
    · rw [if_pos h1, hsh]; first | (simp_all; done) | (simp_all; omega)
   refine LD.drop rfl rfl ⟨30, _, rfl, rfl, rfl⟩ <| LD.drop rfl rfl ⟨30, _, rfl, rfl, rfl⟩ <| LD.drop rfl rfl ⟨30, _, rfl, rfl, rfl⟩ ?_
   refine LD.val rfl ⟨26, _, rfl, rfl, rfl⟩ (ov_pickF rfl rfl) ?_
   refine LD.val rfl ⟨26, _, rfl, rfl, rfl⟩ (ov_move rfl) <| LD.drop rfl rfl ⟨35, _, rfl, rfl, rfl⟩ <| LD.drop rfl rfl ⟨35, _, rfl, rfl, rfl⟩ <| LD.drop rfl rfl ⟨35, _, rfl, rfl, rfl⟩ ?_
   refine LD.val rfl ⟨26, _, rfl, rfl, rfl⟩ (ov_pickF rfl rfl) ?_
   refine LD.val rfl rfl (ov_pickF rfl rfl) ?_
   refine LD.val rfl rfl (ov_assign rfl) <| LD.nil ?_
   refine QM.sub (e' := [(0, _), (3, _), (5, _)]) au9 ?_
   refine QM.meetK (_) ⟨au2, rfl, rfl, trivial⟩ au1 ?_
   · rw [if_pos h1, hsh]; first | (simp_all; done) | (simp_all; omega)
  refine wpM.skip ?_
  refine QM.meetK (_) ⟨au2, rfl, rfl, trivial⟩ au1 ?_
  · rw [if_neg (by rw [h1]; simp)]
 rintro q hq
 change QM _ _ _ _ _ (meB b3 e :: woC b s x.now adt nt capt adr adw :: (mt ++ (mr ++ (mw ++ [])))) _ _ _
 refine QM.then <| wpM.seq ?_
 refine wpM.draw [(0, 0), (1, 1), (2, 0), (3, 0), (4, 0), (5, 1), (6, 0), (7, 0), (8, 0), (9, 0), (10, 0), (11, 0), (12, 1), (13, 0), (14, 0), (15, 0), (16, 1), (17, 2), (18, 0), (19, 0), (20, 0), (21, 0)] kr kr ?_
 refine LD.val rfl rfl (ovf 38 rfl rfl rfl rfl) ?_
 refine LD.rd rfl rfl (oml rfl rfl rfl) ?_
 refine LD.val rfl rfl (ov_move rfl) <| LD.val rfl rfl (ov_nilCheck rfl) <| LD.val rfl rfl (ovf 38 rfl rfl rfl rfl) ?_
 refine LD.rd rfl rfl (oml rfl rfl rfl) ?_
 refine LD.val rfl rfl (ov_ugeq rfl rfl) ?_
 refine LD.val rfl rfl (ov_move rfl) ?_
 refine LD.splitD (t := 48) rfl (fun h8 => ?_) (fun h8 => ?_)
 ·
  refine LD.val rfl ⟨48, _, rfl, rfl, rfl⟩ (ov_move rfl) ?_
  refine LD.val rfl rfl (ov_pickT rfl rfl) ?_
  refine LD.val rfl rfl (ov_move rfl) ?_
  refine LD.splitB (t := 51) rfl (fun h9 => ?_) (fun h9 => ?_)
  ·
   refine LD.val rfl ⟨51, _, rfl, rfl, rfl⟩ (ovf 3 rfl rfl rfl rfl) ?_
   refine LD.rd rfl ⟨51, _, rfl, rfl, rfl⟩ (oml rfl rfl rfl) ?_
   refine LD.val rfl ⟨51, _, rfl, rfl, rfl⟩ (ov_eql rfl rfl) ?_
   refine LD.val rfl ⟨51, _, rfl, rfl, rfl⟩ (ov_move rfl) ?_
   refine LD.splitD (t := 55) rfl (fun h10 => ?_) (fun h10 => ?_)
   ·
    refine LD.drop rfl rfl ⟨55, _, rfl, rfl, rfl⟩ <| LD.drop rfl rfl ⟨55, _, rfl, rfl, rfl⟩ <| LD.drop rfl rfl ⟨55, _, rfl, rfl, rfl⟩ <| LD.drop rfl rfl ⟨55, _, rfl, rfl, rfl⟩ ?_
    refine LD.val rfl ⟨51, _, rfl, rfl, rfl⟩ (ov_pickT rfl rfl) ?_
    refine LD.val rfl rfl (ov_pickT rfl rfl) ?_
    refine LD.val rfl rfl (ov_assign rfl) <| LD.nil ?_
    refine QM.sub (e' := [(4, _)]) ⟨rfl, trivial⟩ (QM.then ?_)
    refine wpM.ret ?_
    refine qL Try.results38 rfl fun w' hm' hc' hg' => ?_
    refine ⟨?_, hc'⟩; simp only [resV, fitB, ← hq]; simp_all
   refine LD.val rfl ⟨55, _, rfl, rfl, rfl⟩ (ovf 3 rfl rfl rfl rfl) ?_
   refine LD.rd rfl ⟨55, _, rfl, rfl, rfl⟩ (oml rfl rfl rfl) ?_
   refine dE rfl ⟨55, _, rfl, rfl, rfl⟩ Try.func55 rfl (fun w hm hc hg => mbare_spec _ w) ?_
   refine LD.val rfl ⟨55, _, rfl, rfl, rfl⟩ (ov_not rfl) ?_
   refine LD.val rfl ⟨51, _, rfl, rfl, rfl⟩ (ov_pickF rfl rfl) ?_
   refine LD.val rfl rfl (ov_pickT rfl rfl) ?_
   refine LD.val rfl rfl (ov_assign rfl) <| LD.nil ?_
   refine QM.sub (e' := [(4, _)]) ⟨rfl, trivial⟩ (QM.then ?_)
   refine wpM.ret ?_
   refine qL Try.results38 rfl fun w' hm' hc' hg' => ?_
   refine ⟨?_, hc'⟩; simp only [resV, fitB, ← hq]; simp_all
  refine LD.drop rfl rfl ⟨51, _, rfl, rfl, rfl⟩ <| LD.drop rfl rfl ⟨51, _, rfl, rfl, rfl⟩ <| LD.drop rfl rfl ⟨51, _, rfl, rfl, rfl⟩ ?_
  refine LD.dropU rfl rfl ⟨51, _, rfl, rfl, rfl⟩ ?_
  refine LD.dropX rfl rfl rfl rfl <| LD.dropX rfl rfl rfl rfl ?_
  refine LD.dropV rfl rfl rfl ?_
  refine LD.dropX rfl rfl rfl rfl <| LD.drop rfl rfl ⟨51, _, rfl, rfl, rfl⟩ ?_
  refine LD.val rfl rfl (ov_pickF rfl rfl) ?_
  refine LD.val rfl rfl (ov_assign rfl) <| LD.nil ?_
  refine QM.sub (e' := [(4, _)]) ⟨rfl, trivial⟩ (QM.then ?_)
  refine wpM.ret ?_
  refine qL Try.results38 rfl fun w' hm' hc' hg' => ?_
  refine ⟨?_, hc'⟩; show Value.bool false = Value.bool (fitB x e); unfold fitB; rw [← hq]; first | (simp; done) | (rw [h9]; simp)
 refine LD.drop rfl rfl ⟨48, _, rfl, rfl, rfl⟩ ?_
 refine LD.val rfl rfl (ov_pickF rfl rfl) ?_
 refine LD.val rfl rfl (ov_move rfl) <| LD.drop rfl rfl ⟨51, _, rfl, rfl, rfl⟩ <| LD.drop rfl rfl ⟨51, _, rfl, rfl, rfl⟩ <| LD.drop rfl rfl ⟨51, _, rfl, rfl, rfl⟩ ?_
 refine LD.dropU rfl rfl ⟨51, _, rfl, rfl, rfl⟩ ?_
 refine LD.dropX rfl rfl rfl rfl <| LD.dropX rfl rfl rfl rfl ?_
 refine LD.dropV rfl rfl rfl ?_
 refine LD.dropX rfl rfl rfl rfl <| LD.drop rfl rfl ⟨51, _, rfl, rfl, rfl⟩ ?_
 refine LD.val rfl rfl (ov_pickF rfl rfl) ?_
 refine LD.val rfl rfl (ov_assign rfl) <| LD.nil ?_
 refine QM.sub (e' := [(4, _)]) ⟨rfl, trivial⟩ (QM.then ?_)
 refine wpM.ret ?_
 refine qL Try.results38 rfl fun w' hm' hc' hg' => ?_
 refine ⟨?_, hc'⟩; show Value.bool false = Value.bool (fitB x e); unfold fitB; rw [decide_eq_false (show ¬ x.now.toNat ≤ e.tm.toNat by omega)]; rfl
theorem mTurns_spec {n0 i : Nat} {ts : List Tkm} {adt : Option Addr} {nt capt : Nat} {mt : Mem0} (fr to : Int) (may : Bool) (w : World) (hst : Sl fTk 63 3 n0 ts (.slice adt nt capt) mt) (hi : i < ts.length) (hM : Mem w mt) : Ret Try.prog 56 #[pT adt i, .int .i64 fr, .int .i64 to, .bool may] w (Upd mt (TskU n0 i ts adt nt capt (trnB (ts.getD i default) fr may) (trnT (ts.getD i default) fr to may)) w) := by
 refine Ret.enterM Try.func56 rfl Try.ntmps56 rfl (mt ++ []) ((inM mt)) aM ?_
 refine wR <| LM.as rfl <| nA [(0, _), (1, _), (2, _), (3, _)] <| wpM.seq <| wR <| LM.mv rfl <| LM.nc rfl <| LM.val (ovf 3 rfl rfl rfl rfl) ?_
 refine LM.rd (om_slE (j := 1) asm ir Try.isAgg3 rfl rfl au3 rfl (by rfl)) ?_
 refine LM.mv rfl <| LM.val (ov_neq rfl rfl) <| LM.mv rfl ?_
 refine LM.splitD (t := 15) rfl (fun h1 => ?_) (fun h1 => ?_)
 ·
  refine LM.dr 15 rfl rfl rfl <| LM.dr 15 rfl rfl rfl <| LM.val (ov_pickT rfl rfl) <| nA [(0, _), (2, _), (18, _)] ?_
  refine wpM.condT rfl ?_
  refine wR <| LM.as rfl <| nA [(8, _)] <| wpM.ret <| QM.then_ret ?_
  refine qL Try.results56 rfl fun w' hm' hc' hg' => ?_
  have hb0 : trnB (ts.getD i default) fr may = false := (by unfold trnB; simp_all); exact upd_m (m' := mt) ⟨by rw [hb0]; rfl, by unfold trnT; rw [hb0]; simp only [Bool.false_eq_true, if_false]; rw [set_id default hi]; exact hst⟩ hm' au1 hc' (inn_refl _ _)
 refine LM.sp 15 rfl rfl rfl <| LM.mv rfl <| LM.sp 15 rfl rfl rfl ?_
 refine LM.val (ov_not rfl) ?_
 refine LM.val (ov_pickF rfl rfl) <| nA [(0, _), (2, _), (18, _)] ?_
 refine wpM.condB rfl (fun h2 => ?_) (fun h2 => ?_)
 ·
  refine wR <| LM.as rfl <| nA [(8, _)] <| wpM.ret <| QM.then_ret ?_
  refine qL Try.results56 rfl fun w' hm' hc' hg' => ?_
  have hb0 : trnB (ts.getD i default) fr may = false := (by unfold trnB; simp_all); exact upd_m (m' := mt) ⟨by rw [hb0]; rfl, by unfold trnT; rw [hb0]; simp only [Bool.false_eq_true, if_false]; rw [set_id default hi]; exact hst⟩ hm' au1 hc' (inn_refl _ _)
 refine wpM.skip <| tR <| LM.mv rfl <| LM.mv rfl <| LM.nc rfl <| LM.val (ovf 3 rfl rfl rfl rfl) ?_
 refine LM.stS ({ ts.getD i default with how := to }) (j := 1) asm ir Try.sizeOf3 rfl rfl rfl au3 rfl (by decide) (by rfl) rfl (fun p hp _ => ⟨p, by simp [hp], rfl⟩) (fun ms1 hss1 hmm1 => ?_)
 refine LM.nil (QM.sub (e' := []) trivial (QM.then (wpM.seq (wpM.region ?_))))
 refine LM.as rfl <| nA [(8, _)] <| wpM.ret ?_
 refine qL Try.results56 rfl fun w' hm' hc' hg' => ?_
 have hb0 : trnB (ts.getD i default) fr may = true := (by unfold trnB; simp_all); exact upd_m (m' := ms1) ⟨by rw [hb0]; rfl, by unfold trnT; rw [hb0]; simp only [if_true]; exact hss1⟩ hm' au1 hc' (inn_of hmm1)
theorem mIdl1_spec (t : Tkm) (c : Nat) (core : Int) (w : World) (hM : Mem w [cI c core]) : Ret Try.prog 72 #[.agg (fTk t).toArray, .pointer (some ⟨c, 0, none⟩)] w (fun u w' => u = .bool (decide (t.how = 2) && decide (t.core = core)) ∧ Ext w w') := by
 refine Ret.enterM Try.func72 rfl Try.ntmps72 rfl ([cI c core]) (no) hM ?_
 refine wR ?_
 refine LM.box rfl rfl (fun b2 hb2 => ?_)
 refine LM.as rfl <| nB [(1, _), (2, _)] <| LM.val (ovf 3 rfl rfl rfl rfl) ?_
 refine LM.rd (oml rfl rfl rfl) ?_
 refine LM.val (ov_eql rfl rfl) <| LM.mv rfl ?_
 refine LM.splitD (t := 7) rfl (fun h1 => ?_) (fun h1 => ?_)
 ·
  refine LM.sp 7 rfl rfl rfl <| LM.val (ovf 3 rfl rfl rfl rfl) <| LM.sp 7 rfl rfl rfl ?_
  refine LM.rd (oml rfl rfl rfl) ?_
  refine LM.sp 7 rfl rfl rfl ?_
  refine LM.rd (oml rfl rfl rfl) ?_
  refine LM.sp 7 rfl rfl rfl <| LM.val (ov_eql rfl rfl) <| LM.val (ov_pickT rfl rfl) <| LM.as rfl <| nA [(3, _)] <| wpM.ret ?_
  refine qL Try.results72 rfl fun w' hm' hc' hg' => ?_
  refine ⟨?_, hc'⟩; simp only [resV]; simp_all
 refine LM.dr 7 rfl rfl rfl <| LM.dr 7 rfl rfl rfl <| LM.dr 7 rfl rfl rfl <| LM.dr 7 rfl rfl rfl <| LM.val (ov_pickF rfl rfl) <| LM.as rfl <| nA [(3, _)] <| wpM.ret ?_
 refine qL Try.results72 rfl fun w' hm' hc' hg' => ?_
 refine ⟨?_, hc'⟩; simp only [resV]; simp_all
theorem ixf_task {xs : List Tkm} {ad : Option Addr} {n cap c : Nat} (core : Int) (w : World) (hn : n = xs.length) (hl : Sr fTk 3 xs (.slice ad n cap) w) (hx : xs.length ≤ 64) (hM : Mem w [cI c core]) : Ret Try.prog 84 #[.slice ad n cap, .func (.func 72) #[] #[.pointer (some ⟨c, 0, none⟩)]] w (fun v w' => v = .int .i64 (fixI (fun t => decide (t.how = 2) && decide (t.core = core)) xs) ∧ Ext w w') := by
 refine Ret.enterM Try.func84 rfl Try.ntmps84 rfl ([cI c core]) (no) hM ?_
 refine wR <| LM.as rfl <| nA [(0, _), (1, _)] <| wpM.seq <| wR <| LM.mv rfl <| LM.val (ov_len Try.underlying57 rfl) <| LM.mv rfl <| nA [(0, _), (1, _), (7, _), (8, _)] <| wpM.block ?_
 refine wpM.loopK0 (α := Nat) (fun i => [(8, .int .i64 (i : Nat))]) [(0, _), (1, _), (7, _)] (fun i => [cI c core]) (fun i => i ≤ xs.length ∧ (xs.take i).any (fun t => decide (t.how = 2) && decide (t.core = core)) = false) (fun i => xs.length - i) (0) ⟨au2, rfl, rfl, rfl, trivial⟩ au1 ⟨Nat.zero_le _, rfl⟩ ?_
 rintro i ⟨hi, ha⟩
 change wpM _ _ _ _ _ _ _ ([cI c core]) _ _ _
 refine wR <| LM.val (ov_lss rfl rfl) <| nA [(0, _), (1, _), (7, _), (8, _), (9, _)] <| wpM.seq ?_
 refine wpM.condD rfl (fun h1 => ?_) (fun h1 => ?_)
 ·
  refine wpM.skip <| QM.then <| wpM.seq <| wpM.block <| wR <| LM.mv rfl <| LM.as rfl <| nB [(0, _), (1, _), (5, _), (7, _), (8, _)] <| LM.mv rfl <| LM.mv rfl <| LM.mv rfl ?_
  refine LM.val (ov_idxSN au6 Try.underlying57 Try.sizeOf63 rfl rfl om) ?_
  refine LM.rdC (om_srEA asm ir Try.isAgg63 Try.sizeOf63 rfl au3 id) ?_
  refine LM.callE (oc_callV rfl (enters_fn Try.func72 kr rfl) rfl) (fun w hm hc hg => mIdl1_spec _ c core w (hm.pick _)) ?_
  refine nA [(0, _), (1, _), (5, _), (7, _), (8, _), (16, _)] ?_
  refine wpM.condB rfl (fun h2 => ?_) (fun h2 => ?_)
  ·
   refine wR <| LM.mv rfl <| LM.as rfl <| nA [(4, _)] <| wpM.ret <| QM.block_ret <| QM.then_ret <| QM.then_ret <| QM.block_ret <| QM.then_ret ?_
   refine qL Try.results84 rfl fun w' hm' hc' hg' => ?_
   exact ⟨by show Value.int .i64 _ = _; rw [fix_hit default ha om h2], hc'⟩
  refine wpM.skip <| QM.block_normal ?_
  refine QM.then (wpM.region ?_)
  refine LM.val (ov_add64 rfl rfl om) ?_
  refine LM.mv rfl <| nC [(0, _), (1, _), (7, _), (8, _)] ?_
  refine QM.againK (i + 1) ⟨au2, rfl, rfl, rfl, trivial⟩ au1 (fun _ h => h) ?_ ?_
  · exact ⟨by omega, by rw [any_snoc default om, ha, Bool.false_or]; exact h2⟩
  · omega
 refine wpM.exit <| QM.then_exit <| QM.then_exit <| QM.block_hit <| tR <| LM.as rfl <| nA [(4, _)] <| wpM.ret ?_
 refine qL Try.results84 rfl fun w' hm' hc' hg' => ?_
 have hil : i = xs.length := om; subst hil; rw [List.take_length] at ha; exact ⟨by show Value.int .i64 _ = _; rw [fix_miss ha], hc'⟩
theorem cof_task {xs : List Tkm} {ad : Option Addr} {n cap c : Nat} (core : Int) (w : World) (hn : n = xs.length) (hl : Sr fTk 3 xs (.slice ad n cap) w) (hx : xs.length ≤ 64) (hM : Mem w [cI c core]) : Ret Try.prog 71 #[.slice ad n cap, .func (.func 72) #[] #[.pointer (some ⟨c, 0, none⟩)]] w (fun v w' => v = .bool (xs.any (fun t => decide (t.how = 2) && decide (t.core = core))) ∧ Ext w w') := by
 refine Ret.enterM Try.func71 rfl Try.ntmps71 rfl ([cI c core]) (no) hM ?_
 refine wR <| LM.as rfl <| nB [(0, _), (1, _)] <| LM.mv rfl <| LM.mv rfl ?_
 refine cE Try.func84 rfl (fun w hm hc hg => ixf_task core w hn (hl.ext hc) hx (hm.pick _)) ?_
 refine LM.val (ov_geq rfl rfl) <| LM.as rfl <| nA [(4, _)] <| wpM.ret ?_
 refine qL Try.results71 rfl fun w' hm' hc' hg' => ?_
 exact ⟨by show Value.bool _ = _; rw [← fix_pos], hc'⟩
theorem mIdle_spec {n0 b : Nat} {s : StV} {x : Wom} {m : Mem0} (core : Int) (w : World) (h : WoM n0 b s x m) (hM : Mem w m) : Ret Try.prog 57 #[.pointer (some ⟨b, 0, none⟩), .int .i64 core] w (fun u w' => u = .bool (idlB x core) ∧ Ext w w') := by
 obtain ⟨adt, nt, capt, adr, adw, mt, mr, mw, rfl, hnt, hst, hsr, hsw, hk, hb⟩ := h
 refine Ret.enterM Try.func57 rfl Try.ntmps57 rfl (woC b s x.now adt nt capt adr adw :: (mt ++ (mr ++ (mw ++ [])))) (no) aM ?_
 refine wR ?_
 refine LM.box rfl rfl (fun b3 hb3 => ?_)
 refine LM.as rfl <| nB [(0, _), (3, _)] <| LM.mv rfl <| LM.nc rfl <| LM.val (ovf 57 rfl rfl rfl rfl) ?_
 refine LM.rd (oml rfl rfl rfl) ?_
 refine LM.val (ov_makeFunc rfl) ?_
 refine cE Try.func71 rfl (fun w hm hc hg => cof_task core w hnt (hst.srM ir hm) hk.t (hm.pick [(b3, .cells (Value.int .i64 core).cells 3 (0, 0))])) ?_
 refine LM.val (ov_not rfl) ?_
 refine LM.as rfl <| nA [(4, _)] <| wpM.ret ?_
 refine qL Try.results57 rfl fun w' hm' hc' hg' => ?_
 exact ⟨rfl, hc'⟩
theorem index_err {xs : List Int} {ad : Option Addr} {n cap : Nat} (x : Int) (w : World) (hn : n = xs.length) (hl : Sr fI 1 xs (.slice ad n cap) w) (hx : xs.length ≤ 1000) : Ret Try.prog 86 #[.slice ad n cap, .int .i64 x] w (fun v w' => v = .int .i64 (fixI (fun y => decide (x = y)) xs) ∧ Ext w w') := by
 refine Ret.enterM Try.func86 rfl Try.ntmps86 rfl ([]) (no) (Mem.nil w) ?_
 refine wR <| LM.as rfl <| nA [(0, _), (1, _)] <| wpM.seq <| wR <| LM.mv rfl <| LM.val (ov_len Try.underlying127 rfl) <| LM.mv rfl <| nA [(0, _), (1, _), (7, _), (8, _)] <| wpM.block ?_
 refine wpM.loopK0 (α := Nat) (fun i => [(8, .int .i64 (i : Nat))]) [(0, _), (1, _), (7, _)] (fun i => []) (fun i => i ≤ xs.length ∧ (xs.take i).any (fun y => decide (x = y)) = false) (fun i => xs.length - i) (0) ⟨au2, rfl, rfl, rfl, trivial⟩ au1 ⟨Nat.zero_le _, rfl⟩ ?_
 rintro i ⟨hi, ha⟩
 change wpM _ _ _ _ _ _ _ ([]) _ _ _
 refine wR <| LM.val (ov_lss rfl rfl) <| nA [(0, _), (1, _), (7, _), (8, _), (9, _)] <| wpM.seq ?_
 refine wpM.condD rfl (fun h1 => ?_) (fun h1 => ?_)
 ·
  refine wpM.skip <| QM.then <| wpM.seq <| wpM.block <| wR <| LM.mv rfl <| LM.as rfl <| nB [(0, _), (1, _), (5, _), (7, _), (8, _)] <| LM.mv rfl <| LM.mv rfl <| LM.mv rfl ?_
  refine LM.val (ov_idxSN au6 Try.underlying127 Try.sizeOf94 rfl rfl om) ?_
  refine LM.rdC (om_sr1 asm Try.isAgg94 rfl rfl (by exact getq 0 au4) (by rfl) id) ?_
  refine LM.val (ov_eql rfl rfl) <| nA [(0, _), (1, _), (5, _), (7, _), (8, _), (16, _)] ?_
  refine wpM.condD rfl (fun h2 => ?_) (fun h2 => ?_)
  ·
   refine wR <| LM.mv rfl <| LM.as rfl <| nA [(4, _)] <| wpM.ret <| QM.block_ret <| QM.then_ret <| QM.then_ret <| QM.block_ret <| QM.then_ret ?_
   refine qL Try.results86 rfl fun w' hm' hc' hg' => ?_
   exact ⟨by show Value.int .i64 _ = _; rw [fix_hit 0 ha om (decide_eq_true h2)], hc'⟩
  refine wpM.skip <| QM.block_normal ?_
  refine QM.then (wpM.region ?_)
  refine LM.val (ov_add64 rfl rfl om) ?_
  refine LM.mv rfl <| nC [(0, _), (1, _), (7, _), (8, _)] ?_
  refine QM.againK (i + 1) ⟨au2, rfl, rfl, rfl, trivial⟩ au1 (fun _ h => h) ?_ ?_
  · exact ⟨by omega, by rw [any_snoc 0 om, ha, Bool.false_or]; exact decide_eq_false h2⟩
  · omega
 refine wpM.exit <| QM.then_exit <| QM.then_exit <| QM.block_hit <| tR <| LM.as rfl <| nA [(4, _)] <| wpM.ret ?_
 refine qL Try.results86 rfl fun w' hm' hc' hg' => ?_
 have hil : i = xs.length := om; subst hil; rw [List.take_length] at ha; exact ⟨by show Value.int .i64 _ = _; rw [fix_miss ha], hc'⟩
theorem contains_err {xs : List Int} {ad : Option Addr} {n cap : Nat} (x : Int) (w : World) (hn : n = xs.length) (hl : Sr fI 1 xs (.slice ad n cap) w) (hx : xs.length ≤ 1000) : Ret Try.prog 76 #[.slice ad n cap, .int .i64 x] w (fun v w' => v = .bool (xs.any (fun y => decide (x = y))) ∧ Ext w w') := by
 refine Ret.enterM Try.func76 rfl Try.ntmps76 rfl ([]) (no) (Mem.nil w) ?_
 refine wR <| LM.as rfl <| nB [(0, _), (1, _)] <| LM.mv rfl <| LM.mv rfl ?_
 refine cE Try.func86 rfl (fun w hm hc hg => index_err x w hn (hl.ext hc) hx) ?_
 refine LM.val (ov_geq rfl rfl) <| LM.as rfl <| nA [(4, _)] <| wpM.ret ?_
 refine qL Try.results76 rfl fun w' hm' hc' hg' => ?_
 exact ⟨by show Value.bool _ = _; rw [← fix_pos], hc'⟩
theorem mFails_spec {n0 i : Nat} {ts : List Tkm} {adt : Option Addr} {nt capt : Nat} {mt : Mem0} (e : Mev) (w : World) (hst : Sl fTk 63 3 n0 ts (.slice adt nt capt) mt) (hi : i < ts.length) (hM : Mem w mt) : Ret Try.prog 62 #[pT adt i, .agg (fMe e).toArray] w (Upd mt (TskU n0 i ts adt nt capt (falB (ts.getD i default) e) (falT (ts.getD i default) e)) w) := by
 refine Ret.enterM Try.func62 rfl Try.ntmps62 rfl (mt ++ []) ((inM mt)) aM ?_
 refine wR ?_
 refine LM.box rfl rfl (fun b3 hb3 => ?_)
 refine LM.as rfl <| nA [(0, _), (3, _)] <| wpM.seq <| wR <| LM.mv rfl <| LM.nc rfl <| LM.val (ovf 3 rfl rfl rfl rfl) ?_
 refine LM.rd (om_slE (j := 1) asm ir Try.isAgg3 rfl rfl au3 rfl (by rfl)) ?_
 refine LM.val (ov_eql rfl rfl) <| LM.mv rfl ?_
 refine LM.splitD (t := 10) rfl (fun h1 => ?_) (fun h1 => ?_)
 ·
  refine LM.sp 10 rfl rfl rfl ?_
  refine LM.row (vs := [_, _, _, _]) Try.underlying127 Try.sizeOf94 Try.zeroValue94 rfl rfl rfl rfl rfl rfl (fun b11 hb11 => ?_)
  refine LM.sp 10 rfl rfl rfl <| LM.val (ovf 3 rfl rfl rfl rfl) <| LM.sp 10 rfl rfl rfl ?_
  refine LM.rd (oml rfl rfl rfl) ?_
  refine LM.sp 10 rfl rfl rfl ?_
  refine cE Try.func76 rfl (fun w hm hc hg => contains_err (xs := [3, 7, 8, 9]) _ w rfl (row_sr 4 (hm.at b11) rfl rfl (fun _ => rfl)) (by decide)) ?_
  refine LM.val (ov_pickT rfl rfl) <| nA [(0, _), (3, _), (15, _)] ?_
  refine wpM.condB rfl (fun h2 => ?_) (fun h2 => ?_)
  ·
   refine wR <| LM.as rfl <| nA [(4, _)] <| wpM.ret <| QM.then_ret ?_
   refine qL Try.results62 rfl fun w' hm' hc' hg' => ?_
   obtain ⟨e1, e2⟩ := fal_1 (t := ts.getD i default) (e := e) (by simp_all) (by rw [← err_row]; simp_all); rw [e1, e2]; exact upd_m (m' := mt) ⟨rfl, by rw [set_id default hi]; exact hst⟩ hm' au1 hc' (inn_refl _ _)
  refine wpM.skip <| QM.then <| wpM.seq ?_
  refine wpM.draw [(0, 0), (1, 0), (2, 0), (3, 0), (4, 1), (5, 0), (6, 1), (7, 0), (8, 0), (9, 0), (10, 1), (11, 0), (12, 0), (13, 3), (14, 3)] kr kr ?_
  refine LD.val rfl rfl (ov_move rfl) <| LD.val rfl rfl (ov_move rfl) <| LD.val rfl rfl (ov_nilCheck rfl) <| LD.val rfl rfl (ovf 3 rfl rfl rfl rfl) ?_
  refine LD.rd rfl rfl (om_slE (j := 2) asm ir Try.isAgg3 rfl rfl au3 rfl (by rfl)) ?_
  refine LD.val rfl rfl (ovf 3 rfl rfl rfl rfl) ?_
  refine LD.rd rfl rfl (oml rfl rfl rfl) ?_
  refine LD.val rfl rfl (ov_eql rfl rfl) ?_
  refine LD.val rfl rfl (ov_move rfl) ?_
  refine LD.splitD (t := 24) rfl (fun h3 => ?_) (fun h3 => ?_)
  ·
   refine LD.val rfl ⟨24, _, rfl, rfl, rfl⟩ (ovf 3 rfl rfl rfl rfl) ?_
   refine LD.rd rfl ⟨24, _, rfl, rfl, rfl⟩ (oml rfl rfl rfl) ?_
   refine LD.val rfl ⟨24, _, rfl, rfl, rfl⟩ (ov_eql rfl rfl) ?_
   refine LD.val rfl rfl (ov_pickT rfl rfl) ?_
   refine LD.tail rfl rfl ?_
   refine cU Try.func56 rfl (fun w hm hc hg => mTurns_spec 4 7 _ w hst hi (hm.pick mt)) hst.wlk (fun p hp _ => ⟨p, hp, rfl⟩) ?_
   rintro u29 m29 ⟨rfl, hs29⟩ hin29
   refine LM.as rfl ?_
   refine LM.nil ?_
   refine QM.qn ?_
   refine QM.sub (e' := [(4, _)]) ⟨rfl, trivial⟩ (QM.then ?_)
   refine wpM.ret ?_
   refine qL Try.results62 rfl fun w' hm' hc' hg' => ?_
   obtain ⟨e1, e2⟩ := fal_2 (t := ts.getD i default) (e := e) (by rw [← err_row]; simp_all); rw [e1, e2]; refine upd_m (m' := m29) ⟨?_, ?_⟩ hm' au1 hc' hin29; (simp only [h1, h2, h3, decide_true, decide_false, Bool.true_and, Bool.false_and, Bool.and_true, Bool.and_false, Bool.not_true, Bool.not_false, Bool.true_or, Bool.false_or, Bool.or_true, Bool.or_false, ne_eq, not_true_eq_false, not_false_eq_true, Bool.and_self]; rfl); (simp only [h1, h2, h3, decide_true, decide_false, Bool.true_and, Bool.false_and, Bool.and_true, Bool.and_false, Bool.not_true, Bool.not_false, Bool.true_or, Bool.false_or, Bool.or_true, Bool.or_false, ne_eq, not_true_eq_false, not_false_eq_true, Bool.and_self] at hs29 ⊢; exact hs29)
  refine LD.drop rfl rfl ⟨24, _, rfl, rfl, rfl⟩ <| LD.drop rfl rfl ⟨24, _, rfl, rfl, rfl⟩ <| LD.drop rfl rfl ⟨24, _, rfl, rfl, rfl⟩ ?_
  refine LD.val rfl rfl (ov_pickF rfl rfl) ?_
  refine LD.tail rfl rfl ?_
  refine cU Try.func56 rfl (fun w hm hc hg => mTurns_spec 4 7 _ w hst hi (hm.pick mt)) hst.wlk (fun p hp _ => ⟨p, hp, rfl⟩) ?_
  rintro u29 m29 ⟨rfl, hs29⟩ hin29
  refine LM.as rfl ?_
  refine LM.nil ?_
  refine QM.qn ?_
  refine QM.sub (e' := [(4, _)]) ⟨rfl, trivial⟩ (QM.then ?_)
  refine wpM.ret ?_
  refine qL Try.results62 rfl fun w' hm' hc' hg' => ?_
  obtain ⟨e1, e2⟩ := fal_2 (t := ts.getD i default) (e := e) (by rw [← err_row]; simp_all); rw [e1, e2]; refine upd_m (m' := m29) ⟨?_, ?_⟩ hm' au1 hc' hin29; (simp only [h1, h2, h3, decide_true, decide_false, Bool.true_and, Bool.false_and, Bool.and_true, Bool.and_false, Bool.not_true, Bool.not_false, Bool.true_or, Bool.false_or, Bool.or_true, Bool.or_false, ne_eq, not_true_eq_false, not_false_eq_true, Bool.and_self]; rfl); (simp only [h1, h2, h3, decide_true, decide_false, Bool.true_and, Bool.false_and, Bool.and_true, Bool.and_false, Bool.not_true, Bool.not_false, Bool.true_or, Bool.false_or, Bool.or_true, Bool.or_false, ne_eq, not_true_eq_false, not_false_eq_true, Bool.and_self] at hs29 ⊢; exact hs29)
 refine LM.dr 10 rfl rfl rfl <| LM.dr 10 rfl rfl rfl <| LM.dr 10 rfl rfl rfl <| LM.dr 10 rfl rfl rfl <| LM.val (ov_pickF rfl rfl) <| nA [(0, _), (3, _), (15, _)] ?_
 refine wpM.condF rfl ?_
 refine wpM.skip <| QM.then <| wpM.seq ?_
 refine wpM.draw [(0, 0), (1, 0), (2, 0), (3, 0), (4, 1), (5, 0), (6, 1), (7, 0), (8, 0), (9, 0), (10, 1), (11, 0), (12, 0), (13, 3), (14, 3)] kr kr ?_
 refine LD.val rfl rfl (ov_move rfl) <| LD.val rfl rfl (ov_move rfl) <| LD.val rfl rfl (ov_nilCheck rfl) <| LD.val rfl rfl (ovf 3 rfl rfl rfl rfl) ?_
 refine LD.rd rfl rfl (om_slE (j := 2) asm ir Try.isAgg3 rfl rfl au3 rfl (by rfl)) ?_
 refine LD.val rfl rfl (ovf 3 rfl rfl rfl rfl) ?_
 refine LD.rd rfl rfl (oml rfl rfl rfl) ?_
 refine LD.val rfl rfl (ov_eql rfl rfl) ?_
 refine LD.val rfl rfl (ov_move rfl) ?_
 refine LD.splitD (t := 24) rfl (fun h4 => ?_) (fun h4 => ?_)
 ·
  refine LD.val rfl ⟨24, _, rfl, rfl, rfl⟩ (ovf 3 rfl rfl rfl rfl) ?_
  refine LD.rd rfl ⟨24, _, rfl, rfl, rfl⟩ (oml rfl rfl rfl) ?_
  refine LD.val rfl ⟨24, _, rfl, rfl, rfl⟩ (ov_eql rfl rfl) ?_
  refine LD.val rfl rfl (ov_pickT rfl rfl) ?_
  refine LD.tail rfl rfl ?_
  refine cU Try.func56 rfl (fun w hm hc hg => mTurns_spec 4 7 _ w hst hi (hm.pick mt)) hst.wlk (fun p hp _ => ⟨p, hp, rfl⟩) ?_
  rintro u29 m29 ⟨rfl, hs29⟩ hin29
  refine LM.as rfl ?_
  refine LM.nil ?_
  refine QM.qn ?_
  refine QM.sub (e' := [(4, _)]) ⟨rfl, trivial⟩ (QM.then ?_)
  refine wpM.ret ?_
  refine qL Try.results62 rfl fun w' hm' hc' hg' => ?_
  obtain ⟨e1, e2⟩ := fal_2 (t := ts.getD i default) (e := e) (by rw [← err_row]; simp_all); rw [e1, e2]; refine upd_m (m' := m29) ⟨?_, ?_⟩ hm' au1 hc' hin29; (simp only [h1, h4, decide_true, decide_false, Bool.true_and, Bool.false_and, Bool.and_true, Bool.and_false, Bool.not_true, Bool.not_false, Bool.true_or, Bool.false_or, Bool.or_true, Bool.or_false, ne_eq, not_true_eq_false, not_false_eq_true, Bool.and_self]; rfl); (simp only [h1, h4, decide_true, decide_false, Bool.true_and, Bool.false_and, Bool.and_true, Bool.and_false, Bool.not_true, Bool.not_false, Bool.true_or, Bool.false_or, Bool.or_true, Bool.or_false, ne_eq, not_true_eq_false, not_false_eq_true, Bool.and_self] at hs29 ⊢; exact hs29)
 refine LD.drop rfl rfl ⟨24, _, rfl, rfl, rfl⟩ <| LD.drop rfl rfl ⟨24, _, rfl, rfl, rfl⟩ <| LD.drop rfl rfl ⟨24, _, rfl, rfl, rfl⟩ ?_
 refine LD.val rfl rfl (ov_pickF rfl rfl) ?_
 refine LD.tail rfl rfl ?_
 refine cU Try.func56 rfl (fun w hm hc hg => mTurns_spec 4 7 _ w hst hi (hm.pick mt)) hst.wlk (fun p hp _ => ⟨p, hp, rfl⟩) ?_
 rintro u29 m29 ⟨rfl, hs29⟩ hin29
 refine LM.as rfl ?_
 refine LM.nil ?_
 refine QM.qn ?_
 refine QM.sub (e' := [(4, _)]) ⟨rfl, trivial⟩ (QM.then ?_)
 refine wpM.ret ?_
 refine qL Try.results62 rfl fun w' hm' hc' hg' => ?_
 obtain ⟨e1, e2⟩ := fal_2 (t := ts.getD i default) (e := e) (by rw [← err_row]; simp_all); rw [e1, e2]; refine upd_m (m' := m29) ⟨?_, ?_⟩ hm' au1 hc' hin29; (simp only [h1, h4, decide_true, decide_false, Bool.true_and, Bool.false_and, Bool.and_true, Bool.and_false, Bool.not_true, Bool.not_false, Bool.true_or, Bool.false_or, Bool.or_true, Bool.or_false, ne_eq, not_true_eq_false, not_false_eq_true, Bool.and_self]; rfl); (simp only [h1, h4, decide_true, decide_false, Bool.true_and, Bool.false_and, Bool.and_true, Bool.and_false, Bool.not_true, Bool.not_false, Bool.true_or, Bool.false_or, Bool.or_true, Bool.or_false, ne_eq, not_true_eq_false, not_false_eq_true, Bool.and_self] at hs29 ⊢; exact hs29)
theorem mWakes_spec {n0 i : Nat} {ts : List Tkm} {adt : Option Addr} {nt capt : Nat} {mt : Mem0} (may : Bool) (w : World) (hst : Sl fTk 63 3 n0 ts (.slice adt nt capt) mt) (hi : i < ts.length) (hM : Mem w mt) : Ret Try.prog 61 #[pT adt i, .bool may] w (Upd mt (TskU n0 i ts adt nt capt (wakB (ts.getD i default) may) (wakT (ts.getD i default) may)) w) := by
 refine Ret.enterM Try.func61 rfl Try.ntmps61 rfl (mt ++ []) ((inM mt)) aM ?_
 refine wR <| LM.as rfl <| nB [(0, _), (1, _)] <| LM.mv rfl <| LM.mv rfl ?_
 refine cU Try.func56 rfl (fun w hm hc hg => mTurns_spec 3 1 may w hst hi (hm.pick mt)) hst.wlk (fun p hp _ => ⟨p, hp, rfl⟩) ?_
 rintro u7 m7 ⟨rfl, hs7⟩ hin7
 refine LM.mv rfl ?_
 refine LM.splitB (t := 8) rfl (fun h1 => ?_) (fun h1 => ?_)
 ·
  refine LM.dr 8 rfl rfl rfl <| LM.dr 8 rfl rfl rfl <| LM.dr 8 rfl rfl rfl <| LM.val (ov_pickT rfl rfl) <| LM.mv rfl <| LM.dr 13 rfl rfl rfl <| LM.dr 13 rfl rfl rfl <| LM.dr 13 rfl rfl rfl <| LM.val (ov_pickT rfl rfl) <| LM.as rfl <| nA [(4, _)] <| wpM.ret ?_
  refine qL Try.results61 rfl fun w' hm' hc' hg' => ?_
  obtain ⟨e1, e2⟩ := wak_1 h1; rw [e1, e2]; exact upd_m (m' := m7) ⟨rfl, hs7⟩ hm' au1 hc' hin7
 rw [trn_no h1, set_id default hi] at hs7
 refine LM.sp 8 rfl rfl rfl <| LM.mv rfl <| LM.sp 8 rfl rfl rfl <| LM.mv rfl <| LM.sp 8 rfl rfl rfl ?_
 refine cU Try.func56 rfl (fun w hm hc hg => mTurns_spec 6 1 may w hs7 hi (hm.pick m7)) hs7.wlk (inM_inn hin7) ?_
 rintro u11 m11 ⟨rfl, hs11⟩ hin11
 refine LM.val (ov_pickF rfl rfl) <| LM.mv rfl ?_
 refine LM.splitB (t := 13) rfl (fun h2 => ?_) (fun h2 => ?_)
 ·
  refine LM.dr 13 rfl rfl rfl <| LM.dr 13 rfl rfl rfl <| LM.dr 13 rfl rfl rfl <| LM.val (ov_pickT rfl rfl) <| LM.as rfl <| nA [(4, _)] <| wpM.ret ?_
  refine qL Try.results61 rfl fun w' hm' hc' hg' => ?_
  obtain ⟨e1, e2⟩ := wak_2 h1 h2; rw [e1, e2]; exact upd_m (m' := m11) ⟨rfl, hs11⟩ hm' au1 hc' (inn_trans hin7 hin11)
 rw [trn_no h2, set_id default hi] at hs11
 refine LM.sp 13 rfl rfl rfl <| LM.mv rfl <| LM.sp 13 rfl rfl rfl <| LM.mv rfl <| LM.sp 13 rfl rfl rfl ?_
 refine cU Try.func56 rfl (fun w hm hc hg => mTurns_spec 7 1 may w hs11 hi (hm.pick m11)) hs11.wlk (inM_inn (inn_trans hin7 hin11)) ?_
 rintro u16 m16 ⟨rfl, hs16⟩ hin16
 refine LM.val (ov_pickF rfl rfl) <| LM.as rfl <| nA [(4, _)] <| wpM.ret ?_
 refine qL Try.results61 rfl fun w' hm' hc' hg' => ?_
 obtain ⟨e1, e2⟩ := wak_3 h1 h2; rw [e1, e2]; exact upd_m (m' := m16) ⟨rfl, hs16⟩ hm' au1 hc' (inn_trans hin7 (inn_trans hin11 hin16))
theorem mFree_spec {n0 b : Nat} {s : StV} {x : Wom} {m : Mem0} (id : Int) (w : World) (h : WoM n0 b s x m) (hM : Mem w m) : Ret Try.prog 63 #[.pointer (some ⟨b, 0, none⟩), .int .i64 id] w (fun u w' => u = .bool (freB x id) ∧ Ext w w') := by
 have hW := h; obtain ⟨adt, nt, capt, adr, adw, mt, mr, mw, rfl, hnt, hst, hsr, hsw, hk, hb⟩ := h; have hsh := hk.hl; have hl8 := hk.l
 refine Ret.enterM Try.func63 rfl Try.ntmps63 rfl (woC b s x.now adt nt capt adr adw :: (mt ++ (mr ++ (mw ++ [])))) (no) aM ?_
 refine wR <| LM.as rfl <| nA [(0, _), (1, _)] <| wpM.seq <| wR <| LM.mv rfl <| LM.nc rfl <| LM.val (ovf 26 rfl rfl rfl rfl) <| LM.val (ovf 23 rfl rfl rfl rfl) ?_
 refine LM.rd (oml rfl rfl rfl) ?_
 refine LM.val (ov_len Try.underlying23 rfl) <| LM.mv rfl <| nA [(0, _), (1, _), (11, _), (12, _)] <| wpM.block ?_
 refine wpM.loopK0 (α := Nat) (fun l => [(12, .int .i64 (l : Nat))]) [(0, _), (1, _), (11, _)] (fun l => woC b s x.now adt nt capt adr adw :: (mt ++ (mr ++ (mw ++ [])))) (fun l => l ≤ s.ln ∧ ∀ j, j < l → hldM x id j = false) (fun l => s.ln - l) (0) ⟨au2, rfl, rfl, rfl, trivial⟩ au1 ⟨Nat.zero_le _, fun j hj => absurd hj (Nat.not_lt_zero _)⟩ ?_
 rintro l ⟨hl, h0⟩
 change wpM _ _ _ _ _ _ _ (woC b s x.now adt nt capt adr adw :: (mt ++ (mr ++ (mw ++ [])))) _ _ _
 refine wR <| LM.val (ov_lss rfl rfl) <| nA [(0, _), (1, _), (11, _), (12, _), (13, _)] <| wpM.seq ?_
 refine wpM.condD rfl (fun h1 => ?_) (fun h1 => ?_)
 ·
  refine wpM.skip <| QM.then <| wpM.seq <| wpM.block <| wR <| LM.mv rfl <| LM.as rfl <| nB [(0, _), (1, _), (5, _), (11, _), (12, _)] <| LM.mv rfl <| LM.mv rfl <| LM.mv rfl ?_
  refine cE Try.func73 rfl (fun w hm hc hg => mHoldsN_spec _ l w hW om (hm.pick (woC b s x.now adt nt capt adr adw :: (mt ++ (mr ++ mw))))) ?_
  refine nA [(0, _), (1, _), (11, _), (12, _), (18, _)] ?_
  refine wpM.condB rfl (fun h2 => ?_) (fun h2 => ?_)
  ·
   refine wR <| LM.as rfl <| nA [(4, _)] <| wpM.ret <| QM.block_ret <| QM.then_ret <| QM.then_ret <| QM.block_ret <| QM.then_ret ?_
   refine qL Try.results63 rfl fun w' hm' hc' hg' => ?_
   refine ⟨?_, hc'⟩; show Value.bool false = Value.bool (freB x id); unfold freB; rw [show (List.range x.sh.length).all (fun l => !hldM x id l) = false from List.all_eq_false.2 ⟨l, List.mem_range.2 om, by rw [h2]; simp⟩]
  refine wpM.skip <| QM.block_normal ?_
  refine QM.then (wpM.region ?_)
  refine LM.val (ov_add64 rfl rfl om) ?_
  refine LM.mv rfl <| nC [(0, _), (1, _), (11, _), (12, _)] ?_
  refine QM.againK (l + 1) ⟨au2, rfl, rfl, rfl, trivial⟩ au1 (fun _ h => h) ?_ ?_
  · exact ⟨by omega, fun j hj => by rcases Nat.lt_or_ge j l with q | q; exact h0 j q; rw [show j = l by omega]; exact h2⟩
  · omega
 refine wpM.exit <| QM.then_exit <| QM.then_exit <| QM.block_hit <| tR <| LM.as rfl <| nA [(4, _)] <| wpM.ret ?_
 refine qL Try.results63 rfl fun w' hm' hc' hg' => ?_
 refine ⟨?_, hc'⟩; show Value.bool true = Value.bool (freB x id); unfold freB; rw [show (List.range x.sh.length).all (fun l => !hldM x id l) = true from List.all_eq_true.2 (fun j hj => by rw [h0 j (by have := List.mem_range.1 hj; omega)]; rfl)]
def WoA (n0 b : Nat) (s : StV) (x : Wom) (adt : Option Addr) (nt capt : Nat) (m : Mem0) : Prop := ∃ adr adw mt mr mw, m = woM0 b s x adt nt capt adr adw mt mr mw ∧ nt = x.ts.length ∧ Sl fTk 63 3 n0 x.ts (.slice adt nt capt) mt ∧ Sl fU 38 1 n0 x.rd (.slice adr s.ln s.ln) mr ∧ Sl fU 38 1 n0 x.wr (.slice adw s.ln s.ln) mw ∧ WoK s x ∧ n0 ≤ b
theorem WoA.m {n0 b : Nat} {s : StV} {x : Wom} {adt : Option Addr} {nt capt : Nat} {m : Mem0} (h : WoA n0 b s x adt nt capt m) : WoM n0 b s x m := by
  obtain ⟨adr, adw, mt, mr, mw, h⟩ := h; exact ⟨adt, nt, capt, adr, adw, mt, mr, mw, h⟩
theorem WoM.a {n0 b : Nat} {s : StV} {x : Wom} {m : Mem0} (h : WoM n0 b s x m) : ∃ adt nt capt, WoA n0 b s x adt nt capt m := by
  obtain ⟨adt, nt, capt, adr, adw, mt, mr, mw, h⟩ := h; exact ⟨adt, nt, capt, adr, adw, mt, mr, mw, h⟩
theorem lk_off {n0 b : Nat} {s : StV} {x : Wom} {m : Mem0} (hks : 0 < s.ls.length → adB s.la < n0) (h : WoM n0 b s x m) : 0 < s.ls.length → ¬ inM m (adB s.la) := fun q ⟨p, hp, he⟩ => by have := h.ge p hp; have := hks q; omega
theorem spwM_no {x : Wom} {e : Mev} (h : spwB x e = false) : spwM x e = x := if_neg (by rw [h]; simp)
theorem acqM_no {x : Wom} {i : Nat} {e : Mev} (h : acqB x (gTm x i) e = false) : acqM x i e = x := if_neg (by rw [h]; simp)
theorem lesM_no {x : Wom} {e : Mev} {may : Bool} (h : lesB x e may = false) : lesM x e may = x := if_neg (by rw [h]; simp)
theorem blkM_no {x : Wom} {i : Nat} {e : Mev} (h : blkB x (gTm x i) e = false) : blkM x i e = x := if_neg (by rw [h]; simp)
theorem gd_set {α : Type} {l : List α} {i : Nat} {x d : α} (h : i < l.length) : (l.set i x).getD i d = x := by
  rw [List.getD_eq_getElem?_getD, List.getElem?_set, if_pos rfl, if_pos h]; rfl
theorem blk_ts {x : Wom} {i : Nat} {e : Mev} {ts2 : List Tkm} (h : trnB (x.ts.getD i default) 2 (blkH x e) = true) (hi : i < x.ts.length) (ht : ts2 = x.ts.set i (trnT (x.ts.getD i default) 2 4 (blkH x e))) : ts2.set i { ts2.getD i default with lock := e.l } = x.ts.set i { gTm x i with how := 4, lock := e.l } := by
  rw [ht, List.set_set, gd_set hi]; unfold trnT; rw [h]; rfl
theorem mSpawn_spec {n0 b : Nat} {s : StV} {x : Wom} {m : Mem0} (e : Mev) (w : World) (h : WoM n0 b s x m) (hn0 : n0 ≤ w.heap.size) (hM : Mem w m) : Ret Try.prog 39 #[.pointer (some ⟨b, 0, none⟩), .agg (fMe e).toArray] w (Upd m (fun u m' => u = .bool (spwB x e) ∧ WoM n0 b s (spwM x e) m') w) := by
 obtain ⟨adt, nt, capt, adr, adw, mt, mr, mw, rfl, hnt, hst, hsr, hsw, hk, hb⟩ := h; have hkc := hk.c; have hkt := hk.t
 refine Ret.enterM Try.func39 rfl Try.ntmps39 rfl (woC b s x.now adt nt capt adr adw :: (mt ++ (mr ++ (mw ++ [])))) ((inM (woM0 b s x adt nt capt adr adw mt mr mw))) aM ?_
 refine wR ?_
 refine LM.box rfl rfl (fun b3 hb3 => ?_)
 refine LM.as rfl <| nA [(0, _), (3, _)] <| wpM.seq <| wpM.seq ?_
 refine wpM.draw [(0, 0), (1, 1), (2, 0), (3, 0), (4, 0), (5, 1), (6, 0), (7, 0), (8, 0), (9, 0), (10, 1), (11, 0), (12, 0), (13, 0), (14, 0), (15, 1), (16, 0), (17, 0), (18, 0), (19, 0), (20, 1), (21, 0), (22, 0), (23, 0), (24, 0), (25, 1), (26, 0), (27, 0)] kr kr ?_
 refine LD.val rfl rfl (ovf 3 rfl rfl rfl rfl) ?_
 refine LD.rd rfl rfl (oml rfl rfl rfl) ?_
 refine LD.val rfl rfl (ov_move rfl) <| LD.val rfl rfl (ov_nilCheck rfl) <| LD.val rfl rfl (ovf 57 rfl rfl rfl rfl) ?_
 refine LD.rd rfl rfl (oml rfl rfl rfl) ?_
 refine LD.val rfl rfl (ov_len Try.underlying57 rfl) ?_
 refine LD.val rfl rfl (ov_neq rfl rfl) ?_
 refine LD.val rfl rfl (ov_move rfl) ?_
 refine LD.splitD (t := 13) rfl (fun h1 => ?_) (fun h1 => ?_)
 ·
  refine LD.drop rfl rfl ⟨13, _, rfl, rfl, rfl⟩ <| LD.drop rfl rfl ⟨13, _, rfl, rfl, rfl⟩ <| LD.drop rfl rfl ⟨13, _, rfl, rfl, rfl⟩ ?_
  refine LD.val rfl rfl (ov_pickT rfl rfl) ?_
  refine LD.val rfl rfl (ov_move rfl) <| LD.drop rfl rfl ⟨18, _, rfl, rfl, rfl⟩ <| LD.drop rfl rfl ⟨18, _, rfl, rfl, rfl⟩ <| LD.drop rfl rfl ⟨18, _, rfl, rfl, rfl⟩ ?_
  refine LD.val rfl rfl (ov_pickT rfl rfl) ?_
  refine LD.val rfl rfl (ov_move rfl) <| LD.drop rfl rfl ⟨23, _, rfl, rfl, rfl⟩ <| LD.drop rfl rfl ⟨23, _, rfl, rfl, rfl⟩ <| LD.drop rfl rfl ⟨23, _, rfl, rfl, rfl⟩ <| LD.drop rfl rfl ⟨23, _, rfl, rfl, rfl⟩ <| LD.drop rfl rfl ⟨23, _, rfl, rfl, rfl⟩ <| LD.drop rfl rfl ⟨23, _, rfl, rfl, rfl⟩ <| LD.drop rfl rfl ⟨23, _, rfl, rfl, rfl⟩ <| LD.drop rfl rfl ⟨23, _, rfl, rfl, rfl⟩ ?_
  refine LD.val rfl rfl (ov_pickT rfl rfl) ?_
  refine LD.nil ?_
  refine QM.sub (e' := [(0, _), (3, _), (32, _)]) au9 (QM.then ?_)
  refine wpM.condT rfl ?_
  refine wR <| LM.as rfl <| nA [(4, _)] <| wpM.ret <| QM.then_ret ?_
  refine qL Try.results39 rfl fun w' hm' hc' hg' => ?_
  have hb0 : spwB x e = false := (by unfold spwB; first | (simp_all; done) | (simp_all; intros; omega)); rw [hb0, spwM_no hb0]; exact wom_leaf hnt hst hsr hsw hk hb hm' au1 hc' inM_0 inS inS inS
 refine LD.val rfl ⟨13, _, rfl, rfl, rfl⟩ (ovf 3 rfl rfl rfl rfl) ?_
 refine LD.rd rfl ⟨13, _, rfl, rfl, rfl⟩ (oml rfl rfl rfl) ?_
 refine LD.val rfl ⟨13, _, rfl, rfl, rfl⟩ (ov_geq rfl rfl) ?_
 refine LD.val rfl rfl (ov_pickF rfl rfl) ?_
 refine LD.val rfl rfl (ov_move rfl) ?_
 refine LD.splitD (t := 18) rfl (fun h2 => ?_) (fun h2 => ?_)
 ·
  refine LD.drop rfl rfl ⟨18, _, rfl, rfl, rfl⟩ <| LD.drop rfl rfl ⟨18, _, rfl, rfl, rfl⟩ <| LD.drop rfl rfl ⟨18, _, rfl, rfl, rfl⟩ ?_
  refine LD.val rfl rfl (ov_pickT rfl rfl) ?_
  refine LD.val rfl rfl (ov_move rfl) <| LD.drop rfl rfl ⟨23, _, rfl, rfl, rfl⟩ <| LD.drop rfl rfl ⟨23, _, rfl, rfl, rfl⟩ <| LD.drop rfl rfl ⟨23, _, rfl, rfl, rfl⟩ <| LD.drop rfl rfl ⟨23, _, rfl, rfl, rfl⟩ <| LD.drop rfl rfl ⟨23, _, rfl, rfl, rfl⟩ <| LD.drop rfl rfl ⟨23, _, rfl, rfl, rfl⟩ <| LD.drop rfl rfl ⟨23, _, rfl, rfl, rfl⟩ <| LD.drop rfl rfl ⟨23, _, rfl, rfl, rfl⟩ ?_
  refine LD.val rfl rfl (ov_pickT rfl rfl) ?_
  refine LD.nil ?_
  refine QM.sub (e' := [(0, _), (3, _), (32, _)]) au9 (QM.then ?_)
  refine wpM.condT rfl ?_
  refine wR <| LM.as rfl <| nA [(4, _)] <| wpM.ret <| QM.then_ret ?_
  refine qL Try.results39 rfl fun w' hm' hc' hg' => ?_
  have hb0 : spwB x e = false := (by unfold spwB; first | (simp_all; done) | (simp_all; intros; omega)); rw [hb0, spwM_no hb0]; exact wom_leaf hnt hst hsr hsw hk hb hm' au1 hc' inM_0 inS inS inS
 refine LD.val rfl ⟨18, _, rfl, rfl, rfl⟩ (ovf 3 rfl rfl rfl rfl) ?_
 refine LD.rd rfl ⟨18, _, rfl, rfl, rfl⟩ (oml rfl rfl rfl) ?_
 refine LD.val rfl ⟨18, _, rfl, rfl, rfl⟩ (ov_lss rfl rfl) ?_
 refine LD.val rfl rfl (ov_pickF rfl rfl) ?_
 refine LD.val rfl rfl (ov_move rfl) ?_
 refine LD.splitD (t := 23) rfl (fun h3 => ?_) (fun h3 => ?_)
 ·
  refine LD.drop rfl rfl ⟨23, _, rfl, rfl, rfl⟩ <| LD.drop rfl rfl ⟨23, _, rfl, rfl, rfl⟩ <| LD.drop rfl rfl ⟨23, _, rfl, rfl, rfl⟩ <| LD.drop rfl rfl ⟨23, _, rfl, rfl, rfl⟩ <| LD.drop rfl rfl ⟨23, _, rfl, rfl, rfl⟩ <| LD.drop rfl rfl ⟨23, _, rfl, rfl, rfl⟩ <| LD.drop rfl rfl ⟨23, _, rfl, rfl, rfl⟩ <| LD.drop rfl rfl ⟨23, _, rfl, rfl, rfl⟩ ?_
  refine LD.val rfl rfl (ov_pickT rfl rfl) ?_
  refine LD.nil ?_
  refine QM.sub (e' := [(0, _), (3, _), (32, _)]) au9 (QM.then ?_)
  refine wpM.condT rfl ?_
  refine wR <| LM.as rfl <| nA [(4, _)] <| wpM.ret <| QM.then_ret ?_
  refine qL Try.results39 rfl fun w' hm' hc' hg' => ?_
  have hb0 : spwB x e = false := (by unfold spwB; first | (simp_all; done) | (simp_all; intros; omega)); rw [hb0, spwM_no hb0]; exact wom_leaf hnt hst hsr hsw hk hb hm' au1 hc' inM_0 inS inS inS
 refine LD.val rfl ⟨23, _, rfl, rfl, rfl⟩ (ovf 3 rfl rfl rfl rfl) ?_
 refine LD.rd rfl ⟨23, _, rfl, rfl, rfl⟩ (oml rfl rfl rfl) ?_
 refine LD.val rfl ⟨23, _, rfl, rfl, rfl⟩ (ov_move rfl) <| LD.val rfl ⟨23, _, rfl, rfl, rfl⟩ (ov_nilCheck rfl) <| LD.val rfl ⟨23, _, rfl, rfl, rfl⟩ (ovf 26 rfl rfl rfl rfl) <| LD.val rfl ⟨23, _, rfl, rfl, rfl⟩ (ovf 3 rfl rfl rfl rfl) ?_
 refine LD.rd rfl ⟨23, _, rfl, rfl, rfl⟩ (oml rfl rfl rfl) ?_
 refine LD.val rfl ⟨23, _, rfl, rfl, rfl⟩ (ov_geq rfl rfl) ?_
 refine LD.val rfl rfl (ov_pickF rfl rfl) ?_
 refine LD.nil ?_
 refine QM.sub (e' := [(0, _), (3, _), (32, _)]) au9 (QM.then ?_)
 refine wpM.condD rfl (fun h4 => ?_) (fun h4 => ?_)
 ·
  refine wR <| LM.as rfl <| nA [(4, _)] <| wpM.ret <| QM.then_ret ?_
  refine qL Try.results39 rfl fun w' hm' hc' hg' => ?_
  have hb0 : spwB x e = false := (by unfold spwB; first | (simp_all; done) | (simp_all; intros; omega)); rw [hb0, spwM_no hb0]; exact wom_leaf hnt hst hsr hsw hk hb hm' au1 hc' inM_0 inS inS inS
 refine wpM.skip <| QM.then <| wpM.seq ?_
 refine wpM.keep (woC b s x.now adt nt capt adr adw :: meB b3 e :: []) (fun _ => True) (.one 0 0 (.one 1 0 (.one 2 0 (.one 3 0 (.one 4 1 (.one 5 0 (.one 6 1 (.one 7 0 (.one 8 2 (.one 9 2 (.one 10 0 (.one 11 0 (.last 12))))))))))))) kr kr au1 (fun _ _ => trivial) ?_
 refine KD.val rfl rfl (ov_move rfl) <| KD.val rfl rfl (ov_move rfl) <| KD.val rfl rfl (ov_nilCheck rfl) <| KD.val rfl rfl (ovf 57 rfl rfl rfl rfl) ?_
 refine KD.rd rfl rfl (oml rfl rfl rfl) ?_
 refine KD.val rfl rfl (ovf 3 rfl rfl rfl rfl) ?_
 refine KD.rd rfl rfl (oml rfl rfl rfl) ?_
 refine KD.val rfl rfl (ov_build (cs := (fTk ⟨e.n, 1, 0⟩).toArray) rfl kr) ?_
 refine KD.one rfl ?_
 refine LM.single Try.underlying57 Try.sizeOf63 Try.zeroValue63 rfl rfl rfl rfl rfl (fun b41 hb41 => ?_)
 refine LM.nil ?_
 refine kq1 ?_
 refine KD.one rfl ?_
 refine LM.app (a := (⟨e.n, 1, 0⟩ : Tkm)) Try.underlying57 Try.typeInfo63 rfl rfl rfl rfl rfl rfl rfl asm (by rfl) ir (by intro _ u hu; simp [fTk] at hu; (repeat (first | (rcases hu with rfl | hu) | subst hu | rfl))) (by first | exact Nat.le_refl _ | omega) (fun p hp _ => ⟨p, by simp [hp], rfl⟩) (by first | omega | (unfold maxLen; omega)) (by simp only [Try.t63]; omega) (fun ad42 n42 cap42 m42 hn42 hs42 hin42 => ?_)
 refine LM.nil ?_
 refine kq1 ?_
 refine KD.val rfl rfl (ov_nilCheck rfl) <| KD.val rfl rfl (ovf 57 rfl rfl rfl rfl) ?_
 refine KD.last rfl ?_
 refine LM.st Try.sizeOf57 rfl rfl rfl au5 rfl auH ?_
 refine LM.nil ?_
 refine QM.qn ?_
 refine QM.sub (e' := []) trivial (QM.then (wpM.seq (wpM.region ?_)))
 refine LM.as rfl <| nA [(4, _)] <| wpM.ret ?_
 refine qL Try.results39 rfl fun w' hm' hc' hg' => ?_
 have hb0 : spwB x e = true := (by unfold spwB; simp_all); have e1 : spwM x e = { x with ts := x.ts ++ [⟨e.n, 1, 0⟩] } := if_pos hb0; rw [hb0, e1]; exact wom_leaf (x := { x with ts := x.ts ++ [⟨e.n, 1, 0⟩] }) (by show n42 = (x.ts ++ [_]).length; rw [List.length_append, List.length_singleton]; omega) hs42 hsr hsw (hk.of rfl rfl (by show (x.ts ++ [_]).length ≤ 64; rw [List.length_append, List.length_singleton]; omega) rfl rfl) hb hm' au1 hc' inM_0 (inn_tr hin42 (fun p hp => by simp [hp])) inS inS
theorem mLets_spec {n0 b : Nat} {s : StV} {x : Wom} {m : Mem0} (e : Mev) (may : Bool) (w : World) (h : WoM n0 b s x m) (h0 : 0 ≤ e.l) (hl : e.l < s.ln) (hM : Mem w m) : Ret Try.prog 59 #[.pointer (some ⟨b, 0, none⟩), .agg (fMe e).toArray, .bool may] w (Upd m (fun u m' => u = .bool (lesB x e may) ∧ WoM n0 b s (lesM x e may) m') w) := by
 refine Ret.enterM Try.func59 rfl Try.ntmps59 rfl (m ++ []) ((inM m)) aM ?_
 refine wR ?_
 refine LM.box rfl rfl (fun b4 hb4 => ?_)
 refine LM.as rfl <| nA [(0, _), (2, _), (4, _)] <| wpM.seq <| wR <| LM.mv rfl ?_
 refine LM.val (ov_not rfl) ?_
 refine LM.mv rfl ?_
 refine LM.splitB (t := 9) rfl (fun h1 => ?_) (fun h1 => ?_)
 ·
  refine LM.dr 9 rfl rfl rfl <| LM.dr 9 rfl rfl rfl <| LM.dr 9 rfl rfl rfl <| LM.dr 9 rfl rfl rfl <| LM.dr 9 rfl rfl rfl <| LM.dr 9 rfl rfl rfl <| LM.dr 9 rfl rfl rfl <| LM.val (ov_pickT rfl rfl) <| nA [(0, _), (4, _), (17, _)] ?_
  refine wpM.condT rfl ?_
  refine wR <| LM.as rfl <| nA [(6, _)] <| wpM.ret <| QM.then_ret ?_
  refine qL Try.results59 rfl fun w' hm' hc' hg' => ?_
  have hb0 : lesB x e may = false := (by unfold lesB; simp_all); rw [hb0, lesM_no hb0]; exact upd_m (m' := m) ⟨rfl, h⟩ hm' au1 hc' (inn_refl _ _)
 refine LM.sp 9 rfl rfl rfl <| LM.mv rfl <| LM.sp 9 rfl rfl rfl <| LM.val (ovf 3 rfl rfl rfl rfl) <| LM.sp 9 rfl rfl rfl ?_
 refine LM.rd (oml rfl rfl rfl) ?_
 refine LM.sp 9 rfl rfl rfl <| LM.val (ovf 3 rfl rfl rfl rfl) <| LM.sp 9 rfl rfl rfl ?_
 refine LM.rd (oml rfl rfl rfl) ?_
 refine LM.sp 9 rfl rfl rfl ?_
 refine cE Try.func73 rfl (fun w hm hc hg => mHolds_spec _ _ w h h0 hl (hm.pick m)) ?_
 refine LM.sp 9 rfl rfl rfl ?_
 refine LM.val (ov_not rfl) ?_
 refine LM.val (ov_pickF rfl rfl) <| nA [(0, _), (4, _), (17, _)] ?_
 refine wpM.condB rfl (fun h2 => ?_) (fun h2 => ?_)
 ·
  refine wR <| LM.as rfl <| nA [(6, _)] <| wpM.ret <| QM.then_ret ?_
  refine qL Try.results59 rfl fun w' hm' hc' hg' => ?_
  have hb0 : lesB x e may = false := (by unfold lesB; simp_all); rw [hb0, lesM_no hb0]; exact upd_m (m' := m) ⟨rfl, h⟩ hm' au1 hc' (inn_refl _ _)
 refine wpM.skip <| tR <| LM.mv rfl <| LM.val (ovf 3 rfl rfl rfl rfl) ?_
 refine LM.rd (oml rfl rfl rfl) ?_
 refine LM.val (ovf 3 rfl rfl rfl rfl) ?_
 refine LM.rd (oml rfl rfl rfl) ?_
 refine cU Try.func74 rfl (fun w hm hc hg => mDrop_spec _ _ w h h0 hl (hm.pick m)) h.wlk (fun p hp _ => ⟨p, hp, rfl⟩) ?_
 rintro u23 m23 h23 hin23
 refine LM.nil (QM.sub (e' := []) trivial (QM.then (wpM.seq (wpM.region ?_))))
 refine LM.as rfl <| nA [(6, _)] <| wpM.ret ?_
 refine qL Try.results59 rfl fun w' hm' hc' hg' => ?_
 have hb0 : lesB x e may = true := (by unfold lesB; simp_all); rw [hb0, show lesM x e may = drpM x e.t e.l.toNat from if_pos hb0]; exact upd_m (m' := m23) ⟨rfl, h23⟩ hm' au1 hc' hin23
theorem mBlock_spec {n0 b nt capt i : Nat} {s : StV} {x : Wom} {adt : Option Addr} {m : Mem0} (e : Mev) (w : World) (h : WoA n0 b s x adt nt capt m) (hi : i < x.ts.length) (h0 : 0 ≤ e.l) (hl : e.l < s.ln) (hM : Mem w m) : Ret Try.prog 60 #[.pointer (some ⟨b, 0, none⟩), pT adt i, .agg (fMe e).toArray] w (Upd m (fun u m' => u = .bool (blkB x (gTm x i) e) ∧ WoM n0 b s (blkM x i e) m') w) := by
 obtain ⟨adr, adw, mt, mr, mw, rfl, hnt, hst, hsr, hsw, hk, hb⟩ := h; have hkr := hk.r; have hkw := hk.w
 refine Ret.enterM Try.func60 rfl Try.ntmps60 rfl (woC b s x.now adt nt capt adr adw :: (mt ++ (mr ++ (mw ++ [])))) ((inM (woM0 b s x adt nt capt adr adw mt mr mw))) aM ?_
 refine wR ?_
 refine LM.box rfl rfl (fun b5 hb5 => ?_)
 refine LM.as rfl <| nA [(0, _), (1, _), (5, _)] <| wpM.seq ?_
 refine wpM.draw [(0, 0), (1, 0), (2, 0), (3, 1), (4, 0), (5, 1), (6, 0), (7, 1), (8, 0), (9, 0), (10, 0), (11, 1), (12, 0), (13, 1), (14, 0), (15, 1), (16, 0), (17, 0)] kr kr ?_
 refine LD.val rfl rfl (ov_move rfl) <| LD.val rfl rfl (ov_nilCheck rfl) <| LD.val rfl rfl (ovf 58 rfl rfl rfl rfl) ?_
 refine LD.rd rfl rfl (oml rfl rfl rfl) ?_
 refine LD.val rfl rfl (ovf 3 rfl rfl rfl rfl) ?_
 refine LD.rd rfl rfl (oml rfl rfl rfl) ?_
 refine LD.val rfl rfl (ov_idxS au6 Try.underlying58 Try.sizeOf38 rfl rfl om) ?_
 refine LD.rd rfl rfl (om_sl1 asm ir Try.isAgg38 rfl rfl (by exact getq 0#64 au4) (by rfl)) ?_
 refine LD.val rfl rfl (ov_move rfl) <| LD.val rfl rfl (ov_nilCheck rfl) <| LD.val rfl rfl (ovf 58 rfl rfl rfl rfl) ?_
 refine LD.rd rfl rfl (oml rfl rfl rfl) ?_
 refine LD.val rfl rfl (ovf 3 rfl rfl rfl rfl) ?_
 refine LD.rd rfl rfl (oml rfl rfl rfl) ?_
 refine LD.val rfl rfl (ov_idxS au6 Try.underlying58 Try.sizeOf38 rfl rfl om) ?_
 refine LD.rd rfl rfl (om_sl1 asm ir Try.isAgg38 rfl rfl (by exact getq 0#64 au4) (by rfl)) ?_
 refine LD.val rfl rfl (ov_uor rfl rfl) ?_
 refine LD.val rfl rfl (ov_assign rfl) <| LD.nil ?_
 refine QM.sub (e' := [(1, _), (5, _), (7, _)]) au9 (QM.then ?_)
 refine wpM.seq <| wR <| LM.mv rfl <| LM.mv rfl ?_
 refine LM.val (ov_uneq (b := 0#64) rfl rfl) ?_
 refine LM.mv rfl ?_
 refine LM.splitD (t := 28) rfl (fun h1 => ?_) (fun h1 => ?_)
 ·
  have hmay : (!sHas (x.rd.getD e.l.toNat 0#64 ||| x.wr.getD e.l.toNat 0#64) e.t) = blkH x e := (by unfold blkH; rw [decide_eq_true (show gRd x e.l.toNat ||| gWr x e.l.toNat ≠ 0#64 from h1)]; rfl)
  refine LM.sp 28 rfl rfl rfl <| LM.mv rfl <| LM.sp 28 rfl rfl rfl <| LM.val (ovf 3 rfl rfl rfl rfl) <| LM.sp 28 rfl rfl rfl ?_
  refine LM.rd (oml rfl rfl rfl) ?_
  refine LM.sp 28 rfl rfl rfl ?_
  refine cE Try.func75 rfl (fun w hm hc hg => ihas_spec _ _ w) ?_
  refine LM.sp 28 rfl rfl rfl ?_
  refine LM.val (ov_not rfl) ?_
  refine LM.val (ov_pickT rfl rfl) ?_
  refine cU Try.func56 rfl (fun w hm hc hg => mTurns_spec 2 4 _ w hst hi (hm.pick mt)) hst.wlk (fun p hp _ => ⟨p, by simp [hp], rfl⟩) ?_
  rintro u35 m35 ⟨rfl, hs35⟩ hin35; obtain ⟨ts2, hts2, hs35⟩ : ∃ ts2, ts2 = _ ∧ Sl fTk 63 3 n0 ts2 (.slice adt nt capt) m35 := ⟨_, rfl, hs35⟩; have hl2 : ts2.length = x.ts.length := (by rw [hts2, List.length_set])
  refine LM.val (ov_not rfl) ?_
  refine nA [(1, _), (5, _), (36, _)] ?_
  refine wpM.condB rfl (fun h2 => ?_) (fun h2 => ?_)
  ·
   refine wR <| LM.as rfl <| nA [(6, _)] <| wpM.ret <| QM.then_ret ?_
   refine qL Try.results60 rfl fun w' hm' hc' hg' => ?_
   have hb1 : trnB (x.ts.getD i default) 2 (blkH x e) = false := (by rw [← hmay]; first | simpa using h2 | (unfold trnB; simp)); have hb0 : blkB x (gTm x i) e = false := hb1; rw [hb0, blkM_no hb0]; rw [hmay, trn_no hb1, set_id default hi] at hts2; rw [hts2] at hs35; exact wom_leaf hnt hs35 hsr hsw hk hb hm' au1 hc' inM_0 (inn_tr (x := mt) hin35 (fun p hp => by simp [hp])) inS inS
  refine wpM.skip <| tR <| LM.mv rfl <| LM.val (ovf 3 rfl rfl rfl rfl) ?_
  refine LM.rd (oml rfl rfl rfl) ?_
  refine LM.nc rfl <| LM.val (ovf 3 rfl rfl rfl rfl) ?_
  refine LM.stS ({ ts2.getD i default with lock := e.l }) (j := 2) asm ir Try.sizeOf3 rfl rfl rfl au3 rfl (by decide) (by rfl) rfl (fun p hp hlt => inM_inn (inn_tr (x := mt) hin35 (fun p hp => by simp [hp])) p hp hlt) (fun ms1 hss1 hmm1 => ?_)
  refine LM.nil (QM.sub (e' := []) trivial (QM.then (wpM.seq (wpM.region ?_))))
  refine LM.as rfl <| nA [(6, _)] <| wpM.ret ?_
  refine qL Try.results60 rfl fun w' hm' hc' hg' => ?_
  rw [hmay] at hts2 h2; have hb1 : trnB (x.ts.getD i default) 2 (blkH x e) = true := (by simpa using h2); have hb0 : blkB x (gTm x i) e = true := hb1; rw [hb0, show blkM x i e = x.put i { gTm x i with how := 4, lock := e.l } from if_pos hb0]; have et := blk_ts hb1 hi hts2; rw [et] at hss1; exact wom_leaf (x := x.put i { gTm x i with how := 4, lock := e.l }) (by show nt = (x.ts.set i _).length; rw [List.length_set]; exact hnt) hss1 hsr hsw (hk.of rfl rfl (by show (x.ts.set i _).length ≤ 64; rw [List.length_set]; exact hk.t) rfl rfl) hb hm' au1 hc' inM_0 (inn_tr (inn_trans hin35 (inn_of hmm1)) (fun p hp => by simp [hp])) inS inS
 have hmay : false = blkH x e := (by unfold blkH; rw [decide_eq_false (show ¬ (gRd x e.l.toNat ||| gWr x e.l.toNat ≠ 0#64) from h1)]; rfl)
 refine LM.dr 28 rfl rfl rfl <| LM.dr 28 rfl rfl rfl <| LM.dr 28 rfl rfl rfl <| LM.dr 28 rfl rfl rfl <| LM.dr 28 rfl rfl rfl <| LM.val (ov_pickF rfl rfl) ?_
 refine cU Try.func56 rfl (fun w hm hc hg => mTurns_spec 2 4 _ w hst hi (hm.pick mt)) hst.wlk (fun p hp _ => ⟨p, by simp [hp], rfl⟩) ?_
 rintro u35 m35 ⟨rfl, hs35⟩ hin35; obtain ⟨ts2, hts2, hs35⟩ : ∃ ts2, ts2 = _ ∧ Sl fTk 63 3 n0 ts2 (.slice adt nt capt) m35 := ⟨_, rfl, hs35⟩; have hl2 : ts2.length = x.ts.length := (by rw [hts2, List.length_set])
 refine LM.val (ov_not rfl) ?_
 refine nA [(1, _), (5, _), (36, _)] ?_
 refine wpM.condB rfl (fun h3 => ?_) (fun h3 => ?_)
 ·
  refine wR <| LM.as rfl <| nA [(6, _)] <| wpM.ret <| QM.then_ret ?_
  refine qL Try.results60 rfl fun w' hm' hc' hg' => ?_
  have hb1 : trnB (x.ts.getD i default) 2 (blkH x e) = false := (by rw [← hmay]; first | simpa using h2 | (unfold trnB; simp)); have hb0 : blkB x (gTm x i) e = false := hb1; rw [hb0, blkM_no hb0]; rw [hmay, trn_no hb1, set_id default hi] at hts2; rw [hts2] at hs35; exact wom_leaf hnt hs35 hsr hsw hk hb hm' au1 hc' inM_0 (inn_tr (x := mt) hin35 (fun p hp => by simp [hp])) inS inS
 refine wpM.skip <| tR <| LM.mv rfl <| LM.val (ovf 3 rfl rfl rfl rfl) ?_
 refine LM.rd (oml rfl rfl rfl) ?_
 refine LM.nc rfl <| LM.val (ovf 3 rfl rfl rfl rfl) ?_
 refine LM.stS ({ ts2.getD i default with lock := e.l }) (j := 2) asm ir Try.sizeOf3 rfl rfl rfl au3 rfl (by decide) (by rfl) rfl (fun p hp hlt => inM_inn (inn_tr (x := mt) hin35 (fun p hp => by simp [hp])) p hp hlt) (fun ms1 hss1 hmm1 => ?_)
 refine LM.nil (QM.sub (e' := []) trivial (QM.then (wpM.seq (wpM.region ?_))))
 refine LM.as rfl <| nA [(6, _)] <| wpM.ret ?_
 refine qL Try.results60 rfl fun w' hm' hc' hg' => ?_
 exfalso; unfold trnB at h3; simp at h3
section
variable {x : Wom} {i : Nat} {e : Mev}
theorem of_2 (h : e.k = 2) : ofB x i e = trnB (gTm x i) 1 (decide (e.n = (gTm x i).core) && idlB x (gTm x i).core) ∧ ofM x i e = x.put i (trnT (gTm x i) 1 2 (decide (e.n = (gTm x i).core) && idlB x (gTm x i).core)) := by unfold ofB ofM; rw [h]; exact ⟨rfl, rfl⟩
theorem of_3 (h : e.k = 3 ∨ e.k = 10) : ofB x i e = trnB (gTm x i) 2 (decide (e.n = (gTm x i).core)) ∧ ofM x i e = x.put i (trnT (gTm x i) 2 1 (decide (e.n = (gTm x i).core))) := by unfold ofB ofM; rw [if_neg om, if_pos h, if_neg om, if_pos h]; exact ⟨rfl, rfl⟩
theorem of_4 (h : e.k = 4) : ofB x i e = acqB x (gTm x i) e ∧ ofM x i e = acqM x i e := by unfold ofB ofM; rw [h]; exact ⟨rfl, rfl⟩
theorem of_5 (h : e.k = 5) : ofB x i e = lesB x e (decide ((gTm x i).how = 2)) ∧ ofM x i e = lesM x e (decide ((gTm x i).how = 2)) := by unfold ofB ofM; rw [h]; exact ⟨rfl, rfl⟩
theorem of_12 (h : e.k = 12) : ofB x i e = lesB x e (decide ((gTm x i).how ≠ 5)) ∧ ofM x i e = lesM x e (decide ((gTm x i).how ≠ 5)) := by unfold ofB ofM; rw [h]; exact ⟨rfl, rfl⟩
theorem of_6 (h : e.k = 6) : ofB x i e = blkB x (gTm x i) e ∧ ofM x i e = blkM x i e := by unfold ofB ofM; rw [h]; exact ⟨rfl, rfl⟩
theorem of_7 (h : e.k = 7) : ofB x i e = wakB (gTm x i) (decide (e.n = (gTm x i).core)) ∧ ofM x i e = x.put i (wakT (gTm x i) (decide (e.n = (gTm x i).core))) := by unfold ofB ofM; rw [h]; exact ⟨rfl, rfl⟩
theorem of_8 (h : e.k = 8) : ofB x i e = falB (gTm x i) e ∧ ofM x i e = x.put i (falT (gTm x i) e) := by unfold ofB ofM; rw [h]; exact ⟨rfl, rfl⟩
theorem of_9 (h : e.k = 9) : ofB x i e = trnB (gTm x i) 2 (decide (1 ≤ e.n) && decide (e.n ≤ 64)) ∧ ofM x i e = x.put i (trnT (gTm x i) 2 3 (decide (1 ≤ e.n) && decide (e.n ≤ 64))) := by unfold ofB ofM; rw [h]; exact ⟨rfl, rfl⟩
theorem of_14 (h : e.k = 14) : ofB x i e = trnB (gTm x i) 2 (decide (1 ≤ e.n) && decide (e.n ≤ 16)) ∧ ofM x i e = x.put i (trnT (gTm x i) 2 2 (decide (1 ≤ e.n) && decide (e.n ≤ 16))) := by unfold ofB ofM; rw [h]; exact ⟨rfl, rfl⟩
theorem of_11 (h : e.k = 11) : ofB x i e = (decide ((gTm x i).how ≠ 5) && freB x e.t) ∧ ofM x i e = (if (decide ((gTm x i).how ≠ 5) && freB x e.t) = true then x.put i { gTm x i with how := 5 } else x) := by
  have h1 : ofB x i e = (decide ((gTm x i).how ≠ 5) && freB x e.t) := by unfold ofB; rw [h]; rfl
  exact ⟨h1, by unfold ofM; rw [h1, h]; rfl⟩
theorem of_13 (h : e.k = 13) : ofB x i e = trnB (gTm x i) 1 (decide (e.n ≠ (gTm x i).core) && (decide (0 ≤ e.n) && decide (e.n < x.cores))) ∧ ofM x i e = (if trnB (gTm x i) 1 (decide (e.n ≠ (gTm x i).core) && (decide (0 ≤ e.n) && decide (e.n < x.cores))) = true then x.put i { gTm x i with core := e.n } else x) := by
  have h1 : ofB x i e = trnB (gTm x i) 1 (decide (e.n ≠ (gTm x i).core) && (decide (0 ≤ e.n) && decide (e.n < x.cores))) := by unfold ofB; rw [h]; rfl
  exact ⟨h1, by unfold ofM; rw [h1, h]; rfl⟩
theorem of_no (h : e.k ≠ 2 ∧ e.k ≠ 3 ∧ e.k ≠ 10 ∧ e.k ≠ 4 ∧ e.k ≠ 5 ∧ e.k ≠ 12 ∧ e.k ≠ 6 ∧ e.k ≠ 7 ∧ e.k ≠ 8 ∧ e.k ≠ 9 ∧ e.k ≠ 14 ∧ e.k ≠ 11 ∧ e.k ≠ 13) : ofB x i e = false ∧ ofM x i e = x := by
  unfold ofB ofM; simp only [h, if_false, or_self]; exact ⟨trivial, trivial⟩
end
theorem put_id {x : Wom} {i : Nat} (h : i < x.ts.length) : x.put i (gTm x i) = x := by unfold Wom.put; rw [set_id default h]
theorem of_turn {n0 b nt capt i : Nat} {s : StV} {adt adr adw : Option Addr} {x : Wom} {mt mr mw m' M : Mem0} {T : Tkm} {q : Bool} {w w' : World} (hnt : nt = x.ts.length) (hs : Sl fTk 63 3 n0 (x.ts.set i T) (.slice adt nt capt) m') (hin : inn mt w.heap.size m') (hsr : Sl fU 38 1 n0 x.rd (.slice adr s.ln s.ln) mr) (hsw : Sl fU 38 1 n0 x.wr (.slice adw s.ln s.ln) mw) (hk : WoK s x) (hb : n0 ≤ b) (hm : Mem w' M)
    (hM : SubM M (woC b s x.now adt nt capt adr adw :: (m' ++ (mr ++ (mw ++ []))))) (hc : Chg (inM (woM0 b s x adt nt capt adr adw mt mr mw)) w w') : Upd (woM0 b s x adt nt capt adr adw mt mr mw) (fun u m' => u = .bool q ∧ WoM n0 b s (x.put i T) m') w (.bool q) w' :=
  wom_leaf (x := x.put i T) (by show nt = (x.ts.set i _).length; rw [List.length_set]; exact hnt) hs hsr hsw (hk.of rfl rfl (by show (x.ts.set i _).length ≤ 64; rw [List.length_set]; exact hk.t) rfl rfl) hb hm hM hc inM_0 (inn_tr (x := mt) hin (fun p hp => by simp [hp])) inS inS
theorem ext_trn {t : Tkm} {q : Bool} : trnB t t.how q = q := by unfold trnB; rw [decide_eq_true rfl, Bool.true_and]
theorem ext_put {x : Wom} {i : Nat} {q : Bool} (h : i < x.ts.length) : (if q = true then x.put i { gTm x i with how := 5 } else x) = x.put i (trnT (gTm x i) (gTm x i).how 5 q) := by
  unfold trnT; rw [ext_trn]
  cases q
  · exact (put_id h).symm
  · rfl
theorem mig_ts {x : Wom} {i : Nat} {e : Mev} {ts2 : List Tkm} {may : Bool} (h : trnB (gTm x i) 1 may = true) (hi : i < x.ts.length) (ht : ts2 = x.ts.set i (trnT (x.ts.getD i default) 1 1 may)) : ts2.set i { ts2.getD i default with core := e.n } = x.ts.set i { gTm x i with core := e.n } := by
  rw [ht, List.set_set, gd_set hi]; unfold trnT; rw [h]
  unfold trnB at h; rw [Bool.and_eq_true, decide_eq_true_eq] at h
  have h1 := h.1
  congr 1
  show (⟨e.n, 1, (x.ts.getD i default).lock⟩ : Tkm) = ⟨e.n, (x.ts.getD i default).how, (x.ts.getD i default).lock⟩
  rw [h1]
set_option maxHeartbeats 2000000 in
theorem mAcq_spec {n0 b nt capt i : Nat} {s : StV} {x : Wom} {adt : Option Addr} {m : Mem0} (e : Mev) (w : World) (h : WoA n0 b s x adt nt capt m) (hi : i < x.ts.length) (h0 : 0 ≤ e.l) (hl : e.l < s.ln) (hl5 : Sr fL 5 s.ls (.slice s.la s.ln s.lc) w) (hks : 0 < s.ls.length → adB s.la < n0) (hM : Mem w m) : Ret Try.prog 58 #[.pointer (some ⟨b, 0, none⟩), pT adt i, .agg (fMe e).toArray] w (Upd m (fun u m' => u = .bool (acqB x (gTm x i) e) ∧ WoM n0 b s (acqM x i e) m') w) := by
 have hWm := h.m; obtain ⟨adr, adw, mt, mr, mw, rfl, hnt, hst, hsr, hsw, hk, hb⟩ := h; have hkr := hk.r; have hkw := hk.w; have hkn := hk.n; have hab : 0 < s.ls.length → ¬ inM (woM0 b s x adt nt capt adr adw mt mr mw) (adB s.la) := (fun q ⟨p, hp, he⟩ => by have := hWm.ge p hp; have := hks q; omega); have hshl : (s.ls.getD e.l.toNat default).sh = x.sh.getD e.l.toNat false := (by rw [hk.h, List.getD_eq_getElem?_getD, List.getD_eq_getElem?_getD, List.getElem?_map, List.getElem?_eq_getElem (show e.l.toNat < s.ls.length by omega)]; rfl)
 refine Ret.enterM Try.func58 rfl Try.ntmps58 rfl (woC b s x.now adt nt capt adr adw :: (mt ++ (mr ++ (mw ++ [])))) ((inM (woM0 b s x adt nt capt adr adw mt mr mw))) aM ?_
 refine wR ?_
 refine LM.box rfl rfl (fun b5 hb5 => ?_)
 refine LM.as rfl <| nA [(0, _), (1, _), (5, _)] <| wpM.seq ?_
 refine wpM.joinK (α := Bool) (fun q => [(7, .bool q)]) [(0, _), (1, _), (5, _)] (fun q => meB b5 e :: woC b s x.now adt nt capt adr adw :: (mt ++ (mr ++ (mw ++ [])))) (fun q => q = wtsB (gTm x i) e) ⟨rfl, rfl, rfl, trivial⟩ ?_ ?_
 ·
  refine wpM.draw [(0, 0), (1, 0), (2, 0), (3, 1), (4, 0), (5, 0), (6, 0), (7, 0), (8, 0), (9, 1), (10, 0), (11, 1), (12, 0), (13, 0), (14, 0)] kr kr ?_
  refine LD.val rfl rfl (ov_move rfl) <| LD.val rfl rfl (ov_nilCheck rfl) <| LD.val rfl rfl (ovf 3 rfl rfl rfl rfl) ?_
  refine LD.rd rfl rfl (om_slE (j := 1) asm ir Try.isAgg3 rfl rfl au3 rfl (by rfl)) ?_
  refine LD.val rfl rfl (ov_eql rfl rfl) ?_
  refine LD.val rfl rfl (ov_move rfl) ?_
  refine LD.splitD (t := 14) rfl (fun h1 => ?_) (fun h1 => ?_)
  ·
   refine LD.val rfl ⟨14, _, rfl, rfl, rfl⟩ (ov_move rfl) <| LD.val rfl ⟨14, _, rfl, rfl, rfl⟩ (ov_nilCheck rfl) <| LD.val rfl ⟨14, _, rfl, rfl, rfl⟩ (ovf 3 rfl rfl rfl rfl) ?_
   refine LD.rd rfl ⟨14, _, rfl, rfl, rfl⟩ (om_slE (j := 2) asm ir Try.isAgg3 rfl rfl au3 rfl (by rfl)) ?_
   refine LD.val rfl ⟨14, _, rfl, rfl, rfl⟩ (ovf 3 rfl rfl rfl rfl) ?_
   refine LD.rd rfl ⟨14, _, rfl, rfl, rfl⟩ (oml rfl rfl rfl) ?_
   refine LD.val rfl ⟨14, _, rfl, rfl, rfl⟩ (ov_eql rfl rfl) ?_
   refine LD.val rfl rfl (ov_pickT rfl rfl) ?_
   refine LD.val rfl rfl (ov_assign rfl) <| LD.nil ?_
   refine QM.sub (e' := [(0, _), (1, _), (5, _), (7, _)]) au9 ?_
   refine QM.meetK (_) ⟨au2, rfl, rfl, rfl, trivial⟩ au1 ?_
   · unfold wtsB; simp_all
  refine LD.drop rfl rfl ⟨14, _, rfl, rfl, rfl⟩ <| LD.drop rfl rfl ⟨14, _, rfl, rfl, rfl⟩ <| LD.drop rfl rfl ⟨14, _, rfl, rfl, rfl⟩ <| LD.drop rfl rfl ⟨14, _, rfl, rfl, rfl⟩ <| LD.drop rfl rfl ⟨14, _, rfl, rfl, rfl⟩ <| LD.drop rfl rfl ⟨14, _, rfl, rfl, rfl⟩ <| LD.drop rfl rfl ⟨14, _, rfl, rfl, rfl⟩ ?_
  refine LD.val rfl rfl (ov_pickF rfl rfl) ?_
  refine LD.val rfl rfl (ov_assign rfl) <| LD.nil ?_
  refine QM.sub (e' := [(0, _), (1, _), (5, _), (7, _)]) au9 ?_
  refine QM.meetK (_) ⟨au2, rfl, rfl, rfl, trivial⟩ au1 ?_
  · unfold wtsB; simp_all
 rintro q hq
 change QM _ _ _ _ _ (meB b5 e :: woC b s x.now adt nt capt adr adw :: (mt ++ (mr ++ (mw ++ [])))) _ _ _
 refine tR <| LM.val (ovf 3 rfl rfl rfl rfl) ?_
 refine LM.rd (oml rfl rfl rfl) ?_
 refine LM.val (ov_geq rfl rfl) <| LM.as rfl <| nA [(0, _), (1, _), (5, _), (7, _), (8, _)] <| wpM.seq ?_
 refine wpM.joinK (α := Unit) (fun ⟨⟩ => []) [(0, _), (1, _), (5, _), (7, _), (8, _)] (fun ⟨⟩ => meB b5 e :: woC b s x.now adt nt capt adr adw :: (mt ++ (mr ++ (mw ++ [])))) (fun ⟨⟩ => acqB x (gTm x i) e = true) ⟨rfl, rfl, rfl, rfl, rfl, trivial⟩ ?_ ?_
 ·
  refine wpM.block <| wpM.seq <| wR <| LM.mv rfl <| LM.nc rfl <| LM.val (ovf 3 rfl rfl rfl rfl) ?_
  refine LM.rd (om_slE (j := 1) asm ir Try.isAgg3 rfl rfl au3 rfl (by rfl)) ?_
  refine LM.val (ov_neq rfl rfl) <| LM.mv rfl ?_
  refine LM.splitD (t := 32) rfl (fun h2 => ?_) (fun h2 => ?_)
  ·
   refine LM.sp 32 rfl rfl rfl <| LM.mv rfl <| LM.sp 32 rfl rfl rfl ?_
   refine LM.val (ov_not rfl) ?_
   refine LM.val (ov_pickT rfl rfl) <| LM.as rfl <| nA [(0, _), (1, _), (5, _), (7, _), (8, _), (26, _)] ?_
   refine wpM.condXB (t := 26) rfl (fun h3 => ?_) (fun h3 => ?_)
   ·
    refine wpM.skip <| QM.then ?_
    refine wpM.condT rfl ?_
    refine wR <| LM.as rfl <| nA [(6, _)] <| wpM.ret <| QM.block_ret ?_
    refine QM.join_ret ?_
    refine QM.then_ret ?_
    refine qL Try.results58 rfl fun w' hm' hc' hg' => ?_
    have hb0 : acqB x (gTm x i) e = false := (by unfold acqB; rw [← hq, ← hshl]; first | (simp_all; done) | (simp_all; omega)); rw [hb0, acqM_no hb0]; exact wom_leaf hnt hst hsr hsw hk hb hm' au1 hc' inM_0 inS inS inS
   refine wR <| LM.mv rfl <| LM.val (ovf 3 rfl rfl rfl rfl) ?_
   refine LM.rd (oml rfl rfl rfl) ?_
   refine LM.val (ovf 3 rfl rfl rfl rfl) ?_
   refine LM.rd (oml rfl rfl rfl) ?_
   refine cE Try.func73 rfl (fun w hm hc hg => mHolds_spec _ _ w hWm h0 hl (hm.pick (woM0 b s x adt nt capt adr adw mt mr mw))) ?_
   refine LM.as rfl <| nA [(0, _), (1, _), (5, _), (7, _), (8, _), (26, _)] ?_
   refine wpM.condXB (t := 26) rfl (fun h4 => ?_) (fun h4 => ?_)
   ·
    refine wpM.skip <| QM.then ?_
    refine wpM.condT rfl ?_
    refine wR <| LM.as rfl <| nA [(6, _)] <| wpM.ret <| QM.block_ret ?_
    refine QM.join_ret ?_
    refine QM.then_ret ?_
    refine qL Try.results58 rfl fun w' hm' hc' hg' => ?_
    have hb0 : acqB x (gTm x i) e = false := (by unfold acqB; rw [← hq, ← hshl]; first | (simp_all; done) | (simp_all; omega)); rw [hb0, acqM_no hb0]; exact wom_leaf hnt hst hsr hsw hk hb hm' au1 hc' inM_0 inS inS inS
   refine wR <| LM.val (ovf 3 rfl rfl rfl rfl) ?_
   refine LM.rd (oml rfl rfl rfl) ?_
   refine LM.val (ov_lss rfl rfl) <| LM.as rfl <| nA [(0, _), (1, _), (5, _), (7, _), (8, _), (26, _)] ?_
   refine wpM.condXD (t := 26) rfl (fun h5 => ?_) (fun h5 => ?_)
   ·
    refine wpM.skip <| QM.then ?_
    refine wpM.condT rfl ?_
    refine wR <| LM.as rfl <| nA [(6, _)] <| wpM.ret <| QM.block_ret ?_
    refine QM.join_ret ?_
    refine QM.then_ret ?_
    refine qL Try.results58 rfl fun w' hm' hc' hg' => ?_
    have hb0 : acqB x (gTm x i) e = false := (by unfold acqB; rw [← hq, ← hshl]; first | (simp_all; done) | (simp_all; omega)); rw [hb0, acqM_no hb0]; exact wom_leaf hnt hst hsr hsw hk hb hm' au1 hc' inM_0 inS inS inS
   refine wpM.region ?_
   refine LM.val (ovf 3 rfl rfl rfl rfl) ?_
   refine LM.rd (oml rfl rfl rfl) ?_
   refine LM.val (ov_gtr rfl rfl) <| LM.as rfl <| nA [(0, _), (1, _), (5, _), (7, _), (8, _), (26, _)] ?_
   refine wpM.condD rfl (fun h6 => ?_) (fun h6 => ?_)
   ·
    refine wR <| LM.as rfl <| nA [(6, _)] <| wpM.ret <| QM.block_ret ?_
    refine QM.join_ret ?_
    refine QM.then_ret ?_
    refine qL Try.results58 rfl fun w' hm' hc' hg' => ?_
    have hb0 : acqB x (gTm x i) e = false := (by unfold acqB; rw [← hq, ← hshl]; first | (simp_all; done) | (simp_all; omega)); rw [hb0, acqM_no hb0]; exact wom_leaf hnt hst hsr hsw hk hb hm' au1 hc' inM_0 inS inS inS
   refine wpM.seq <| wpM.seq ?_
   refine wpM.draw [(0, 0), (1, 0), (2, 0), (3, 1), (4, 0), (5, 1), (6, 0), (7, 1), (8, 0), (9, 0)] kr kr ?_
   refine LD.val rfl rfl (ov_move rfl) <| LD.val rfl rfl (ov_nilCheck rfl) <| LD.val rfl rfl (ovf 58 rfl rfl rfl rfl) ?_
   refine LD.rd rfl rfl (oml rfl rfl rfl) ?_
   refine LD.val rfl rfl (ovf 3 rfl rfl rfl rfl) ?_
   refine LD.rd rfl rfl (oml rfl rfl rfl) ?_
   refine LD.val rfl rfl (ov_idxS au6 Try.underlying58 Try.sizeOf38 rfl rfl om) ?_
   refine LD.rd rfl rfl (om_sl1 asm ir Try.isAgg38 rfl rfl (by exact getq 0#64 au4) (by rfl)) ?_
   refine LD.val rfl rfl (ov_uneq (b := 0#64) rfl rfl) ?_
   refine LD.val rfl rfl (ov_assign rfl) <| LD.nil ?_
   refine QM.sub (e' := [(0, _), (1, _), (5, _), (7, _), (8, _), (48, _)]) au9 (QM.then ?_)
   refine wpM.condXD (t := 48) rfl (fun h7 => ?_) (fun h7 => ?_)
   ·
    refine wpM.skip <| QM.then ?_
    refine wpM.condT rfl ?_
    refine wR <| LM.as rfl <| nA [(6, _)] <| wpM.ret <| QM.block_ret ?_
    refine QM.join_ret ?_
    refine QM.then_ret ?_
    refine qL Try.results58 rfl fun w' hm' hc' hg' => ?_
    have hb0 : acqB x (gTm x i) e = false := (by unfold acqB; rw [← hq, ← hshl]; first | (simp_all; done) | (simp_all; omega)); rw [hb0, acqM_no hb0]; exact wom_leaf hnt hst hsr hsw hk hb hm' au1 hc' inM_0 inS inS inS
   refine wpM.seq ?_
   refine wpM.draw [(0, 0), (1, 0), (2, 0), (3, 0), (4, 0), (5, 0), (6, 1), (7, 0), (8, 1), (9, 0), (10, 0), (11, 1), (12, 0), (13, 0), (14, 0)] kr kr ?_
   refine LD.val rfl rfl (ov_move rfl) <| LD.val rfl rfl (ov_move rfl) ?_
   refine LD.splitD (t := 59) rfl (fun h8 => ?_) (fun h8 => ?_)
   ·
    refine LD.val rfl ⟨59, _, rfl, rfl, rfl⟩ (ov_move rfl) <| LD.val rfl ⟨59, _, rfl, rfl, rfl⟩ (ov_nilCheck rfl) <| LD.val rfl ⟨59, _, rfl, rfl, rfl⟩ (ovf 26 rfl rfl rfl rfl) <| LD.val rfl ⟨59, _, rfl, rfl, rfl⟩ (ovf 23 rfl rfl rfl rfl) ?_
    refine LD.rd rfl ⟨59, _, rfl, rfl, rfl⟩ (oml rfl rfl rfl) ?_
    refine LD.val rfl ⟨59, _, rfl, rfl, rfl⟩ (ovf 3 rfl rfl rfl rfl) ?_
    refine LD.rd rfl ⟨59, _, rfl, rfl, rfl⟩ (oml rfl rfl rfl) ?_
    refine LD.val rfl ⟨59, _, rfl, rfl, rfl⟩ (ov_idxS au6 Try.underlying23 Try.sizeOf78 rfl rfl om) ?_
    refine LD.val rfl ⟨59, _, rfl, rfl, rfl⟩ (ovf 4 rfl rfl rfl rfl) ?_
    refine LD.rdC rfl ⟨59, _, rfl, rfl, rfl⟩ (om_srE (j := 0) asm Try.isAgg4 rfl rfl au3 (by rfl) (by rfl) (by exact hab om)) ?_
    refine LD.val rfl ⟨59, _, rfl, rfl, rfl⟩ (ov_not rfl) ?_
    refine LD.val rfl rfl (ov_pickT rfl rfl) ?_
    refine LD.val rfl rfl (ov_assign rfl) <| LD.nil ?_
    refine QM.sub (e' := [(0, _), (1, _), (5, _), (7, _), (8, _), (48, _)]) au9 (QM.then ?_)
    refine wpM.condXB (t := 48) rfl (fun h9 => ?_) (fun h9 => ?_)
    ·
     refine wpM.skip <| QM.then ?_
     refine wpM.condT rfl ?_
     refine wR <| LM.as rfl <| nA [(6, _)] <| wpM.ret <| QM.block_ret ?_
     refine QM.join_ret ?_
     refine QM.then_ret ?_
     refine qL Try.results58 rfl fun w' hm' hc' hg' => ?_
     have hb0 : acqB x (gTm x i) e = false := (by unfold acqB; rw [← hq, ← hshl]; first | (simp_all; done) | (simp_all; omega)); rw [hb0, acqM_no hb0]; exact wom_leaf hnt hst hsr hsw hk hb hm' au1 hc' inM_0 inS inS inS
    refine wpM.draw [(0, 0), (1, 0), (2, 0), (3, 0), (4, 0), (5, 0), (6, 1), (7, 0), (8, 1), (9, 0), (10, 1), (11, 0), (12, 0), (13, 0)] kr kr ?_
    refine LD.val rfl rfl (ov_move rfl) ?_
    refine LD.val rfl rfl (ov_notD rfl) ?_
    refine LD.val rfl rfl (ov_move rfl) ?_
    refine LD.splitD (t := 74) rfl (fun h10 => ?_) (fun h10 => ?_)
    ·
     refine LD.val rfl ⟨74, _, rfl, rfl, rfl⟩ (ov_move rfl) <| LD.val rfl ⟨74, _, rfl, rfl, rfl⟩ (ov_nilCheck rfl) <| LD.val rfl ⟨74, _, rfl, rfl, rfl⟩ (ovf 58 rfl rfl rfl rfl) ?_
     refine LD.rd rfl ⟨74, _, rfl, rfl, rfl⟩ (oml rfl rfl rfl) ?_
     refine LD.val rfl ⟨74, _, rfl, rfl, rfl⟩ (ovf 3 rfl rfl rfl rfl) ?_
     refine LD.rd rfl ⟨74, _, rfl, rfl, rfl⟩ (oml rfl rfl rfl) ?_
     refine LD.val rfl ⟨74, _, rfl, rfl, rfl⟩ (ov_idxS au6 Try.underlying58 Try.sizeOf38 rfl rfl om) ?_
     refine LD.rd rfl ⟨74, _, rfl, rfl, rfl⟩ (om_sl1 asm ir Try.isAgg38 rfl rfl (by exact getq 0#64 au4) (by rfl)) ?_
     refine LD.val rfl ⟨74, _, rfl, rfl, rfl⟩ (ov_uneq (b := 0#64) rfl rfl) ?_
     refine LD.val rfl rfl (ov_pickT rfl rfl) ?_
     refine LD.val rfl rfl (ov_assign rfl) <| LD.nil ?_
     refine QM.sub (e' := [(0, _), (1, _), (5, _), (7, _), (8, _), (48, _)]) au9 (QM.then ?_)
     refine wpM.condD rfl (fun h11 => ?_) (fun h11 => ?_)
     ·
      refine wR <| LM.as rfl <| nA [(6, _)] <| wpM.ret <| QM.block_ret ?_
      refine QM.join_ret ?_
      refine QM.then_ret ?_
      refine qL Try.results58 rfl fun w' hm' hc' hg' => ?_
      have hb0 : acqB x (gTm x i) e = false := (by unfold acqB; rw [← hq, ← hshl]; first | (simp_all; done) | (simp_all; omega)); rw [hb0, acqM_no hb0]; exact wom_leaf hnt hst hsr hsw hk hb hm' au1 hc' inM_0 inS inS inS
     refine wpM.skip <| QM.block_normal ?_
     refine QM.meetK (⟨⟩) ⟨rfl, rfl, rfl, rfl, rfl, trivial⟩ au1 ?_
     · unfold acqB; rw [← hq, ← hshl]; first | (simp_all; done) | (simp_all; omega)
    refine LD.drop rfl rfl ⟨74, _, rfl, rfl, rfl⟩ <| LD.drop rfl rfl ⟨74, _, rfl, rfl, rfl⟩ <| LD.drop rfl rfl ⟨74, _, rfl, rfl, rfl⟩ <| LD.drop rfl rfl ⟨74, _, rfl, rfl, rfl⟩ <| LD.drop rfl rfl ⟨74, _, rfl, rfl, rfl⟩ <| LD.drop rfl rfl ⟨74, _, rfl, rfl, rfl⟩ <| LD.drop rfl rfl ⟨74, _, rfl, rfl, rfl⟩ <| LD.drop rfl rfl ⟨74, _, rfl, rfl, rfl⟩ <| LD.drop rfl rfl ⟨74, _, rfl, rfl, rfl⟩ ?_
    refine LD.val rfl rfl (ov_pickF rfl rfl) ?_
    refine LD.val rfl rfl (ov_assign rfl) <| LD.nil ?_
    refine QM.sub (e' := [(0, _), (1, _), (5, _), (7, _), (8, _), (48, _)]) au9 (QM.then ?_)
    refine wpM.condF rfl ?_
    refine wpM.skip <| QM.block_normal ?_
    refine QM.meetK (⟨⟩) ⟨rfl, rfl, rfl, rfl, rfl, trivial⟩ au1 ?_
    · unfold acqB; rw [← hq, ← hshl]; first | (simp_all; done) | (simp_all; omega)
   refine LD.drop rfl rfl ⟨59, _, rfl, rfl, rfl⟩ <| LD.drop rfl rfl ⟨59, _, rfl, rfl, rfl⟩ <| LD.drop rfl rfl ⟨59, _, rfl, rfl, rfl⟩ <| LD.drop rfl rfl ⟨59, _, rfl, rfl, rfl⟩ <| LD.drop rfl rfl ⟨59, _, rfl, rfl, rfl⟩ <| LD.drop rfl rfl ⟨59, _, rfl, rfl, rfl⟩ <| LD.drop rfl rfl ⟨59, _, rfl, rfl, rfl⟩ <| LD.drop rfl rfl ⟨59, _, rfl, rfl, rfl⟩ <| LD.drop rfl rfl ⟨59, _, rfl, rfl, rfl⟩ <| LD.drop rfl rfl ⟨59, _, rfl, rfl, rfl⟩ <| LD.drop rfl rfl ⟨59, _, rfl, rfl, rfl⟩ ?_
   refine LD.val rfl rfl (ov_pickF rfl rfl) ?_
   refine LD.val rfl rfl (ov_assign rfl) <| LD.nil ?_
   refine QM.sub (e' := [(0, _), (1, _), (5, _), (7, _), (8, _), (48, _)]) au9 (QM.then ?_)
   refine wpM.condF rfl ?_
   refine wpM.draw [(0, 0), (1, 0), (2, 0), (3, 0), (4, 0), (5, 0), (6, 1), (7, 0), (8, 1), (9, 0), (10, 1), (11, 0), (12, 0), (13, 0)] kr kr ?_
   refine LD.val rfl rfl (ov_move rfl) ?_
   refine LD.val rfl rfl (ov_notD rfl) ?_
   refine LD.val rfl rfl (ov_move rfl) ?_
   refine LD.splitD (t := 74) rfl (fun h12 => ?_) (fun h12 => ?_)
   ·
    refine LD.val rfl ⟨74, _, rfl, rfl, rfl⟩ (ov_move rfl) <| LD.val rfl ⟨74, _, rfl, rfl, rfl⟩ (ov_nilCheck rfl) <| LD.val rfl ⟨74, _, rfl, rfl, rfl⟩ (ovf 58 rfl rfl rfl rfl) ?_
    refine LD.rd rfl ⟨74, _, rfl, rfl, rfl⟩ (oml rfl rfl rfl) ?_
    refine LD.val rfl ⟨74, _, rfl, rfl, rfl⟩ (ovf 3 rfl rfl rfl rfl) ?_
    refine LD.rd rfl ⟨74, _, rfl, rfl, rfl⟩ (oml rfl rfl rfl) ?_
    refine LD.val rfl ⟨74, _, rfl, rfl, rfl⟩ (ov_idxS au6 Try.underlying58 Try.sizeOf38 rfl rfl om) ?_
    refine LD.rd rfl ⟨74, _, rfl, rfl, rfl⟩ (om_sl1 asm ir Try.isAgg38 rfl rfl (by exact getq 0#64 au4) (by rfl)) ?_
    refine LD.val rfl ⟨74, _, rfl, rfl, rfl⟩ (ov_uneq (b := 0#64) rfl rfl) ?_
    refine LD.val rfl rfl (ov_pickT rfl rfl) ?_
    refine LD.val rfl rfl (ov_assign rfl) <| LD.nil ?_
    refine QM.sub (e' := [(0, _), (1, _), (5, _), (7, _), (8, _), (48, _)]) au9 (QM.then ?_)
    refine wpM.condD rfl (fun h13 => ?_) (fun h13 => ?_)
    ·
     refine wR <| LM.as rfl <| nA [(6, _)] <| wpM.ret <| QM.block_ret ?_
     refine QM.join_ret ?_
     refine QM.then_ret ?_
     refine qL Try.results58 rfl fun w' hm' hc' hg' => ?_
     have hb0 : acqB x (gTm x i) e = false := (by unfold acqB; rw [← hq, ← hshl]; first | (simp_all; done) | (simp_all; omega)); rw [hb0, acqM_no hb0]; exact wom_leaf hnt hst hsr hsw hk hb hm' au1 hc' inM_0 inS inS inS
    refine wpM.skip <| QM.block_normal ?_
    refine QM.meetK (⟨⟩) ⟨rfl, rfl, rfl, rfl, rfl, trivial⟩ au1 ?_
    · unfold acqB; rw [← hq, ← hshl]; first | (simp_all; done) | (simp_all; omega)
   refine LD.drop rfl rfl ⟨74, _, rfl, rfl, rfl⟩ <| LD.drop rfl rfl ⟨74, _, rfl, rfl, rfl⟩ <| LD.drop rfl rfl ⟨74, _, rfl, rfl, rfl⟩ <| LD.drop rfl rfl ⟨74, _, rfl, rfl, rfl⟩ <| LD.drop rfl rfl ⟨74, _, rfl, rfl, rfl⟩ <| LD.drop rfl rfl ⟨74, _, rfl, rfl, rfl⟩ <| LD.drop rfl rfl ⟨74, _, rfl, rfl, rfl⟩ <| LD.drop rfl rfl ⟨74, _, rfl, rfl, rfl⟩ <| LD.drop rfl rfl ⟨74, _, rfl, rfl, rfl⟩ ?_
   refine LD.val rfl rfl (ov_pickF rfl rfl) ?_
   refine LD.val rfl rfl (ov_assign rfl) <| LD.nil ?_
   refine QM.sub (e' := [(0, _), (1, _), (5, _), (7, _), (8, _), (48, _)]) au9 (QM.then ?_)
   refine wpM.condF rfl ?_
   refine wpM.skip <| QM.block_normal ?_
   refine QM.meetK (⟨⟩) ⟨rfl, rfl, rfl, rfl, rfl, trivial⟩ au1 ?_
   · unfold acqB; rw [← hq, ← hshl]; first | (simp_all; done) | (simp_all; omega)
  refine LM.dr 32 rfl rfl rfl <| LM.dr 32 rfl rfl rfl <| LM.val (ov_pickF rfl rfl) <| LM.as rfl <| nA [(0, _), (1, _), (5, _), (7, _), (8, _), (26, _)] ?_
  refine wpM.condF rfl ?_
  refine wR <| LM.mv rfl <| LM.val (ovf 3 rfl rfl rfl rfl) ?_
  refine LM.rd (oml rfl rfl rfl) ?_
  refine LM.val (ovf 3 rfl rfl rfl rfl) ?_
  refine LM.rd (oml rfl rfl rfl) ?_
  refine cE Try.func73 rfl (fun w hm hc hg => mHolds_spec _ _ w hWm h0 hl (hm.pick (woM0 b s x adt nt capt adr adw mt mr mw))) ?_
  refine LM.as rfl <| nA [(0, _), (1, _), (5, _), (7, _), (8, _), (26, _)] ?_
  refine wpM.condXB (t := 26) rfl (fun h14 => ?_) (fun h14 => ?_)
  ·
   refine wpM.skip <| QM.then ?_
   refine wpM.condT rfl ?_
   refine wR <| LM.as rfl <| nA [(6, _)] <| wpM.ret <| QM.block_ret ?_
   refine QM.join_ret ?_
   refine QM.then_ret ?_
   refine qL Try.results58 rfl fun w' hm' hc' hg' => ?_
   have hb0 : acqB x (gTm x i) e = false := (by unfold acqB; rw [← hq, ← hshl]; first | (simp_all; done) | (simp_all; omega)); rw [hb0, acqM_no hb0]; exact wom_leaf hnt hst hsr hsw hk hb hm' au1 hc' inM_0 inS inS inS
  refine wR <| LM.val (ovf 3 rfl rfl rfl rfl) ?_
  refine LM.rd (oml rfl rfl rfl) ?_
  refine LM.val (ov_lss rfl rfl) <| LM.as rfl <| nA [(0, _), (1, _), (5, _), (7, _), (8, _), (26, _)] ?_
  refine wpM.condXD (t := 26) rfl (fun h15 => ?_) (fun h15 => ?_)
  ·
   refine wpM.skip <| QM.then ?_
   refine wpM.condT rfl ?_
   refine wR <| LM.as rfl <| nA [(6, _)] <| wpM.ret <| QM.block_ret ?_
   refine QM.join_ret ?_
   refine QM.then_ret ?_
   refine qL Try.results58 rfl fun w' hm' hc' hg' => ?_
   have hb0 : acqB x (gTm x i) e = false := (by unfold acqB; rw [← hq, ← hshl]; first | (simp_all; done) | (simp_all; omega)); rw [hb0, acqM_no hb0]; exact wom_leaf hnt hst hsr hsw hk hb hm' au1 hc' inM_0 inS inS inS
  refine wpM.region ?_
  refine LM.val (ovf 3 rfl rfl rfl rfl) ?_
  refine LM.rd (oml rfl rfl rfl) ?_
  refine LM.val (ov_gtr rfl rfl) <| LM.as rfl <| nA [(0, _), (1, _), (5, _), (7, _), (8, _), (26, _)] ?_
  refine wpM.condD rfl (fun h16 => ?_) (fun h16 => ?_)
  ·
   refine wR <| LM.as rfl <| nA [(6, _)] <| wpM.ret <| QM.block_ret ?_
   refine QM.join_ret ?_
   refine QM.then_ret ?_
   refine qL Try.results58 rfl fun w' hm' hc' hg' => ?_
   have hb0 : acqB x (gTm x i) e = false := (by unfold acqB; rw [← hq, ← hshl]; first | (simp_all; done) | (simp_all; omega)); rw [hb0, acqM_no hb0]; exact wom_leaf hnt hst hsr hsw hk hb hm' au1 hc' inM_0 inS inS inS
  refine wpM.seq <| wpM.seq ?_
  refine wpM.draw [(0, 0), (1, 0), (2, 0), (3, 1), (4, 0), (5, 1), (6, 0), (7, 1), (8, 0), (9, 0)] kr kr ?_
  refine LD.val rfl rfl (ov_move rfl) <| LD.val rfl rfl (ov_nilCheck rfl) <| LD.val rfl rfl (ovf 58 rfl rfl rfl rfl) ?_
  refine LD.rd rfl rfl (oml rfl rfl rfl) ?_
  refine LD.val rfl rfl (ovf 3 rfl rfl rfl rfl) ?_
  refine LD.rd rfl rfl (oml rfl rfl rfl) ?_
  refine LD.val rfl rfl (ov_idxS au6 Try.underlying58 Try.sizeOf38 rfl rfl om) ?_
  refine LD.rd rfl rfl (om_sl1 asm ir Try.isAgg38 rfl rfl (by exact getq 0#64 au4) (by rfl)) ?_
  refine LD.val rfl rfl (ov_uneq (b := 0#64) rfl rfl) ?_
  refine LD.val rfl rfl (ov_assign rfl) <| LD.nil ?_
  refine QM.sub (e' := [(0, _), (1, _), (5, _), (7, _), (8, _), (48, _)]) au9 (QM.then ?_)
  refine wpM.condXD (t := 48) rfl (fun h17 => ?_) (fun h17 => ?_)
  ·
   refine wpM.skip <| QM.then ?_
   refine wpM.condT rfl ?_
   refine wR <| LM.as rfl <| nA [(6, _)] <| wpM.ret <| QM.block_ret ?_
   refine QM.join_ret ?_
   refine QM.then_ret ?_
   refine qL Try.results58 rfl fun w' hm' hc' hg' => ?_
   have hb0 : acqB x (gTm x i) e = false := (by unfold acqB; rw [← hq, ← hshl]; first | (simp_all; done) | (simp_all; omega)); rw [hb0, acqM_no hb0]; exact wom_leaf hnt hst hsr hsw hk hb hm' au1 hc' inM_0 inS inS inS
  refine wpM.seq ?_
  refine wpM.draw [(0, 0), (1, 0), (2, 0), (3, 0), (4, 0), (5, 0), (6, 1), (7, 0), (8, 1), (9, 0), (10, 0), (11, 1), (12, 0), (13, 0), (14, 0)] kr kr ?_
  refine LD.val rfl rfl (ov_move rfl) <| LD.val rfl rfl (ov_move rfl) ?_
  refine LD.splitD (t := 59) rfl (fun h18 => ?_) (fun h18 => ?_)
  ·
   refine LD.val rfl ⟨59, _, rfl, rfl, rfl⟩ (ov_move rfl) <| LD.val rfl ⟨59, _, rfl, rfl, rfl⟩ (ov_nilCheck rfl) <| LD.val rfl ⟨59, _, rfl, rfl, rfl⟩ (ovf 26 rfl rfl rfl rfl) <| LD.val rfl ⟨59, _, rfl, rfl, rfl⟩ (ovf 23 rfl rfl rfl rfl) ?_
   refine LD.rd rfl ⟨59, _, rfl, rfl, rfl⟩ (oml rfl rfl rfl) ?_
   refine LD.val rfl ⟨59, _, rfl, rfl, rfl⟩ (ovf 3 rfl rfl rfl rfl) ?_
   refine LD.rd rfl ⟨59, _, rfl, rfl, rfl⟩ (oml rfl rfl rfl) ?_
   refine LD.val rfl ⟨59, _, rfl, rfl, rfl⟩ (ov_idxS au6 Try.underlying23 Try.sizeOf78 rfl rfl om) ?_
   refine LD.val rfl ⟨59, _, rfl, rfl, rfl⟩ (ovf 4 rfl rfl rfl rfl) ?_
   refine LD.rdC rfl ⟨59, _, rfl, rfl, rfl⟩ (om_srE (j := 0) asm Try.isAgg4 rfl rfl au3 (by rfl) (by rfl) (by exact hab om)) ?_
   refine LD.val rfl ⟨59, _, rfl, rfl, rfl⟩ (ov_not rfl) ?_
   refine LD.val rfl rfl (ov_pickT rfl rfl) ?_
   refine LD.val rfl rfl (ov_assign rfl) <| LD.nil ?_
   refine QM.sub (e' := [(0, _), (1, _), (5, _), (7, _), (8, _), (48, _)]) au9 (QM.then ?_)
   refine wpM.condXB (t := 48) rfl (fun h19 => ?_) (fun h19 => ?_)
   ·
    refine wpM.skip <| QM.then ?_
    refine wpM.condT rfl ?_
    refine wR <| LM.as rfl <| nA [(6, _)] <| wpM.ret <| QM.block_ret ?_
    refine QM.join_ret ?_
    refine QM.then_ret ?_
    refine qL Try.results58 rfl fun w' hm' hc' hg' => ?_
    have hb0 : acqB x (gTm x i) e = false := (by unfold acqB; rw [← hq, ← hshl]; first | (simp_all; done) | (simp_all; omega)); rw [hb0, acqM_no hb0]; exact wom_leaf hnt hst hsr hsw hk hb hm' au1 hc' inM_0 inS inS inS
   refine wpM.draw [(0, 0), (1, 0), (2, 0), (3, 0), (4, 0), (5, 0), (6, 1), (7, 0), (8, 1), (9, 0), (10, 1), (11, 0), (12, 0), (13, 0)] kr kr ?_
   refine LD.val rfl rfl (ov_move rfl) ?_
   refine LD.val rfl rfl (ov_notD rfl) ?_
   refine LD.val rfl rfl (ov_move rfl) ?_
   refine LD.splitD (t := 74) rfl (fun h20 => ?_) (fun h20 => ?_)
   ·
    refine LD.val rfl ⟨74, _, rfl, rfl, rfl⟩ (ov_move rfl) <| LD.val rfl ⟨74, _, rfl, rfl, rfl⟩ (ov_nilCheck rfl) <| LD.val rfl ⟨74, _, rfl, rfl, rfl⟩ (ovf 58 rfl rfl rfl rfl) ?_
    refine LD.rd rfl ⟨74, _, rfl, rfl, rfl⟩ (oml rfl rfl rfl) ?_
    refine LD.val rfl ⟨74, _, rfl, rfl, rfl⟩ (ovf 3 rfl rfl rfl rfl) ?_
    refine LD.rd rfl ⟨74, _, rfl, rfl, rfl⟩ (oml rfl rfl rfl) ?_
    refine LD.val rfl ⟨74, _, rfl, rfl, rfl⟩ (ov_idxS au6 Try.underlying58 Try.sizeOf38 rfl rfl om) ?_
    refine LD.rd rfl ⟨74, _, rfl, rfl, rfl⟩ (om_sl1 asm ir Try.isAgg38 rfl rfl (by exact getq 0#64 au4) (by rfl)) ?_
    refine LD.val rfl ⟨74, _, rfl, rfl, rfl⟩ (ov_uneq (b := 0#64) rfl rfl) ?_
    refine LD.val rfl rfl (ov_pickT rfl rfl) ?_
    refine LD.val rfl rfl (ov_assign rfl) <| LD.nil ?_
    refine QM.sub (e' := [(0, _), (1, _), (5, _), (7, _), (8, _), (48, _)]) au9 (QM.then ?_)
    refine wpM.condD rfl (fun h21 => ?_) (fun h21 => ?_)
    ·
     refine wR <| LM.as rfl <| nA [(6, _)] <| wpM.ret <| QM.block_ret ?_
     refine QM.join_ret ?_
     refine QM.then_ret ?_
     refine qL Try.results58 rfl fun w' hm' hc' hg' => ?_
     have hb0 : acqB x (gTm x i) e = false := (by unfold acqB; rw [← hq, ← hshl]; first | (simp_all; done) | (simp_all; omega)); rw [hb0, acqM_no hb0]; exact wom_leaf hnt hst hsr hsw hk hb hm' au1 hc' inM_0 inS inS inS
    refine wpM.skip <| QM.block_normal ?_
    refine QM.meetK (⟨⟩) ⟨rfl, rfl, rfl, rfl, rfl, trivial⟩ au1 ?_
    · unfold acqB; rw [← hq, ← hshl]; first | (simp_all; done) | (simp_all; omega)
   refine LD.drop rfl rfl ⟨74, _, rfl, rfl, rfl⟩ <| LD.drop rfl rfl ⟨74, _, rfl, rfl, rfl⟩ <| LD.drop rfl rfl ⟨74, _, rfl, rfl, rfl⟩ <| LD.drop rfl rfl ⟨74, _, rfl, rfl, rfl⟩ <| LD.drop rfl rfl ⟨74, _, rfl, rfl, rfl⟩ <| LD.drop rfl rfl ⟨74, _, rfl, rfl, rfl⟩ <| LD.drop rfl rfl ⟨74, _, rfl, rfl, rfl⟩ <| LD.drop rfl rfl ⟨74, _, rfl, rfl, rfl⟩ <| LD.drop rfl rfl ⟨74, _, rfl, rfl, rfl⟩ ?_
   refine LD.val rfl rfl (ov_pickF rfl rfl) ?_
   refine LD.val rfl rfl (ov_assign rfl) <| LD.nil ?_
   refine QM.sub (e' := [(0, _), (1, _), (5, _), (7, _), (8, _), (48, _)]) au9 (QM.then ?_)
   refine wpM.condF rfl ?_
   refine wpM.skip <| QM.block_normal ?_
   refine QM.meetK (⟨⟩) ⟨rfl, rfl, rfl, rfl, rfl, trivial⟩ au1 ?_
   · unfold acqB; rw [← hq, ← hshl]; first | (simp_all; done) | (simp_all; omega)
  refine LD.drop rfl rfl ⟨59, _, rfl, rfl, rfl⟩ <| LD.drop rfl rfl ⟨59, _, rfl, rfl, rfl⟩ <| LD.drop rfl rfl ⟨59, _, rfl, rfl, rfl⟩ <| LD.drop rfl rfl ⟨59, _, rfl, rfl, rfl⟩ <| LD.drop rfl rfl ⟨59, _, rfl, rfl, rfl⟩ <| LD.drop rfl rfl ⟨59, _, rfl, rfl, rfl⟩ <| LD.drop rfl rfl ⟨59, _, rfl, rfl, rfl⟩ <| LD.drop rfl rfl ⟨59, _, rfl, rfl, rfl⟩ <| LD.drop rfl rfl ⟨59, _, rfl, rfl, rfl⟩ <| LD.drop rfl rfl ⟨59, _, rfl, rfl, rfl⟩ <| LD.drop rfl rfl ⟨59, _, rfl, rfl, rfl⟩ ?_
  refine LD.val rfl rfl (ov_pickF rfl rfl) ?_
  refine LD.val rfl rfl (ov_assign rfl) <| LD.nil ?_
  refine QM.sub (e' := [(0, _), (1, _), (5, _), (7, _), (8, _), (48, _)]) au9 (QM.then ?_)
  refine wpM.condF rfl ?_
  refine wpM.draw [(0, 0), (1, 0), (2, 0), (3, 0), (4, 0), (5, 0), (6, 1), (7, 0), (8, 1), (9, 0), (10, 1), (11, 0), (12, 0), (13, 0)] kr kr ?_
  refine LD.val rfl rfl (ov_move rfl) ?_
  refine LD.val rfl rfl (ov_notD rfl) ?_
  refine LD.val rfl rfl (ov_move rfl) ?_
  refine LD.splitD (t := 74) rfl (fun h22 => ?_) (fun h22 => ?_)
  ·
   refine LD.val rfl ⟨74, _, rfl, rfl, rfl⟩ (ov_move rfl) <| LD.val rfl ⟨74, _, rfl, rfl, rfl⟩ (ov_nilCheck rfl) <| LD.val rfl ⟨74, _, rfl, rfl, rfl⟩ (ovf 58 rfl rfl rfl rfl) ?_
   refine LD.rd rfl ⟨74, _, rfl, rfl, rfl⟩ (oml rfl rfl rfl) ?_
   refine LD.val rfl ⟨74, _, rfl, rfl, rfl⟩ (ovf 3 rfl rfl rfl rfl) ?_
   refine LD.rd rfl ⟨74, _, rfl, rfl, rfl⟩ (oml rfl rfl rfl) ?_
   refine LD.val rfl ⟨74, _, rfl, rfl, rfl⟩ (ov_idxS au6 Try.underlying58 Try.sizeOf38 rfl rfl om) ?_
   refine LD.rd rfl ⟨74, _, rfl, rfl, rfl⟩ (om_sl1 asm ir Try.isAgg38 rfl rfl (by exact getq 0#64 au4) (by rfl)) ?_
   refine LD.val rfl ⟨74, _, rfl, rfl, rfl⟩ (ov_uneq (b := 0#64) rfl rfl) ?_
   refine LD.val rfl rfl (ov_pickT rfl rfl) ?_
   refine LD.val rfl rfl (ov_assign rfl) <| LD.nil ?_
   refine QM.sub (e' := [(0, _), (1, _), (5, _), (7, _), (8, _), (48, _)]) au9 (QM.then ?_)
   refine wpM.condD rfl (fun h23 => ?_) (fun h23 => ?_)
   ·
    refine wR <| LM.as rfl <| nA [(6, _)] <| wpM.ret <| QM.block_ret ?_
    refine QM.join_ret ?_
    refine QM.then_ret ?_
    refine qL Try.results58 rfl fun w' hm' hc' hg' => ?_
    have hb0 : acqB x (gTm x i) e = false := (by unfold acqB; rw [← hq, ← hshl]; first | (simp_all; done) | (simp_all; omega)); rw [hb0, acqM_no hb0]; exact wom_leaf hnt hst hsr hsw hk hb hm' au1 hc' inM_0 inS inS inS
   refine wpM.skip <| QM.block_normal ?_
   refine QM.meetK (⟨⟩) ⟨rfl, rfl, rfl, rfl, rfl, trivial⟩ au1 ?_
   · unfold acqB; rw [← hq, ← hshl]; first | (simp_all; done) | (simp_all; omega)
  refine LD.drop rfl rfl ⟨74, _, rfl, rfl, rfl⟩ <| LD.drop rfl rfl ⟨74, _, rfl, rfl, rfl⟩ <| LD.drop rfl rfl ⟨74, _, rfl, rfl, rfl⟩ <| LD.drop rfl rfl ⟨74, _, rfl, rfl, rfl⟩ <| LD.drop rfl rfl ⟨74, _, rfl, rfl, rfl⟩ <| LD.drop rfl rfl ⟨74, _, rfl, rfl, rfl⟩ <| LD.drop rfl rfl ⟨74, _, rfl, rfl, rfl⟩ <| LD.drop rfl rfl ⟨74, _, rfl, rfl, rfl⟩ <| LD.drop rfl rfl ⟨74, _, rfl, rfl, rfl⟩ ?_
  refine LD.val rfl rfl (ov_pickF rfl rfl) ?_
  refine LD.val rfl rfl (ov_assign rfl) <| LD.nil ?_
  refine QM.sub (e' := [(0, _), (1, _), (5, _), (7, _), (8, _), (48, _)]) au9 (QM.then ?_)
  refine wpM.condF rfl ?_
  refine wpM.skip <| QM.block_normal ?_
  refine QM.meetK (⟨⟩) ⟨rfl, rfl, rfl, rfl, rfl, trivial⟩ au1 ?_
  · unfold acqB; rw [← hq, ← hshl]; first | (simp_all; done) | (simp_all; omega)
 rintro ⟨⟩ hb1
 change QM _ _ _ _ _ (meB b5 e :: woC b s x.now adt nt capt adr adw :: (mt ++ (mr ++ (mw ++ [])))) _ _ _
 refine QM.then <| wpM.seq <| wR <| LM.mv rfl <| nA [(0, _), (1, _), (5, _), (7, _), (85, _)] ?_
 refine wpM.condD rfl (fun h24 => ?_) (fun h24 => ?_)
 ·
  refine wpM.draw [(0, 0), (1, 0), (2, 0), (3, 1), (4, 0), (5, 1), (6, 0), (7, 0), (8, 0), (9, 1), (10, 0), (11, 1), (12, 0), (13, 1), (14, 0), (15, 1), (16, 2), (17, 0), (18, 3)] kr kr ?_
  refine LD.val rfl rfl (ov_move rfl) <| LD.val rfl rfl (ov_nilCheck rfl) <| LD.val rfl rfl (ovf 58 rfl rfl rfl rfl) ?_
  refine LD.rd rfl rfl (oml rfl rfl rfl) ?_
  refine LD.val rfl rfl (ovf 3 rfl rfl rfl rfl) ?_
  refine LD.rd rfl rfl (oml rfl rfl rfl) ?_
  refine LD.val rfl rfl (ov_move rfl) <| LD.val rfl rfl (ov_nilCheck rfl) <| LD.val rfl rfl (ovf 58 rfl rfl rfl rfl) ?_
  refine LD.rd rfl rfl (oml rfl rfl rfl) ?_
  refine LD.val rfl rfl (ovf 3 rfl rfl rfl rfl) ?_
  refine LD.rd rfl rfl (oml rfl rfl rfl) ?_
  refine LD.val rfl rfl (ov_idxS au6 Try.underlying58 Try.sizeOf38 rfl rfl om) ?_
  refine LD.rd rfl rfl (om_sl1 asm ir Try.isAgg38 rfl rfl (by exact getq 0#64 au4) (by rfl)) ?_
  refine LD.val rfl rfl (ovf 3 rfl rfl rfl rfl) ?_
  refine LD.rd rfl rfl (oml rfl rfl rfl) ?_
  refine dE rfl rfl Try.func30 rfl (fun w hm hc hg => with_spec _ _ w) ?_
  refine LD.val rfl rfl (ov_idxS au6 Try.underlying58 Try.sizeOf38 rfl rfl om) ?_
  refine LD.tail rfl rfl ?_
  refine LM.stS ((withS (gRd x e.l.toNat) e.t)) (j := 0) asm ir Try.sizeOf38 rfl rfl rfl (by exact getq 0#64 au4) rfl (by decide) (by rfl) rfl (fun p hp _ => ⟨p, by simp [hp], rfl⟩) (fun ms1 hss1 hmm1 => ?_)
  refine LM.nil ?_
  refine QM.qn ?_
  refine QM.sub (e' := [(1, _), (7, _)]) au9 (QM.then ?_)
  refine wpM.seq <| wR <| LM.mv rfl <| nA [(1, _), (122, _)] ?_
  refine wpM.condB rfl (fun h25 => ?_) (fun h25 => ?_)
  ·
   refine wpM.region ?_
   refine LM.mv rfl <| LM.nc rfl <| LM.val (ovf 3 rfl rfl rfl rfl) ?_
   refine LM.stS ({ x.ts.getD i default with how := 6 }) (j := 1) asm ir Try.sizeOf3 rfl rfl rfl au3 rfl (by decide) (by rfl) rfl (fun p hp _ => ⟨p, by simp [hp], rfl⟩) (fun ms2 hss2 hmm2 => ?_)
   refine LM.nil (QM.sub (e' := []) trivial (QM.then (wpM.seq (wpM.region ?_))))
   refine LM.as rfl <| nA [(6, _)] <| wpM.ret ?_
   refine qL Try.results58 rfl fun w' hm' hc' hg' => ?_
   have e1 : acqM x i e = ({ x with rd := x.rd.set e.l.toNat (withS (gRd x e.l.toNat) e.t) } : Wom).put i { gTm x i with how := 6 } := (by unfold acqM acqW; rw [if_pos hb1, if_pos (by rw [← hq]; first | exact h25 | rfl), if_pos h24]); rw [hb1, e1]; exact wom_leaf (x := ({ x with rd := x.rd.set e.l.toNat (withS (gRd x e.l.toNat) e.t) } : Wom).put i { gTm x i with how := 6 }) (by show nt = (x.ts.set i _).length; rw [List.length_set]; exact hnt) hss2 hss1 hsw (hk.of (List.length_set ..) rfl (by show (x.ts.set i _).length ≤ 64; rw [List.length_set]; exact hk.t) rfl rfl) hb hm' au1 hc' inM_0 (inn_tr (inn_of hmm2) (fun p hp => by simp [hp])) (inn_tr (inn_of hmm1) (fun p hp => by simp [hp])) inS
  refine wpM.skip <| tR <| LM.as rfl <| nA [(6, _)] <| wpM.ret ?_
  refine qL Try.results58 rfl fun w' hm' hc' hg' => ?_
  have e1 : acqM x i e = { x with rd := x.rd.set e.l.toNat (withS (gRd x e.l.toNat) e.t) } := (by unfold acqM acqW; rw [if_pos hb1, if_neg (by rw [← hq]; first | (rw [h25]; simp) | simp), if_pos h24]); rw [hb1, e1]; exact wom_leaf (x := { x with rd := x.rd.set e.l.toNat (withS (gRd x e.l.toNat) e.t) }) hnt hst hss1 hsw (hk.of (List.length_set ..) rfl hk.t rfl rfl) hb hm' au1 hc' inM_0 inS (inn_tr (inn_of hmm1) (fun p hp => by simp [hp])) inS
 refine wpM.draw [(0, 0), (1, 0), (2, 0), (3, 1), (4, 0), (5, 1), (6, 0), (7, 0), (8, 0), (9, 1), (10, 0), (11, 1), (12, 0), (13, 1), (14, 0), (15, 1), (16, 2), (17, 0), (18, 3)] kr kr ?_
 refine LD.val rfl rfl (ov_move rfl) <| LD.val rfl rfl (ov_nilCheck rfl) <| LD.val rfl rfl (ovf 58 rfl rfl rfl rfl) ?_
 refine LD.rd rfl rfl (oml rfl rfl rfl) ?_
 refine LD.val rfl rfl (ovf 3 rfl rfl rfl rfl) ?_
 refine LD.rd rfl rfl (oml rfl rfl rfl) ?_
 refine LD.val rfl rfl (ov_move rfl) <| LD.val rfl rfl (ov_nilCheck rfl) <| LD.val rfl rfl (ovf 58 rfl rfl rfl rfl) ?_
 refine LD.rd rfl rfl (oml rfl rfl rfl) ?_
 refine LD.val rfl rfl (ovf 3 rfl rfl rfl rfl) ?_
 refine LD.rd rfl rfl (oml rfl rfl rfl) ?_
 refine LD.val rfl rfl (ov_idxS au6 Try.underlying58 Try.sizeOf38 rfl rfl om) ?_
 refine LD.rd rfl rfl (om_sl1 asm ir Try.isAgg38 rfl rfl (by exact getq 0#64 au4) (by rfl)) ?_
 refine LD.val rfl rfl (ovf 3 rfl rfl rfl rfl) ?_
 refine LD.rd rfl rfl (oml rfl rfl rfl) ?_
 refine dE rfl rfl Try.func30 rfl (fun w hm hc hg => with_spec _ _ w) ?_
 refine LD.val rfl rfl (ov_idxS au6 Try.underlying58 Try.sizeOf38 rfl rfl om) ?_
 refine LD.tail rfl rfl ?_
 refine LM.stS ((withS (gWr x e.l.toNat) e.t)) (j := 0) asm ir Try.sizeOf38 rfl rfl rfl (by exact getq 0#64 au4) rfl (by decide) (by rfl) rfl (fun p hp _ => ⟨p, by simp [hp], rfl⟩) (fun ms1 hss1 hmm1 => ?_)
 refine LM.nil ?_
 refine QM.qn ?_
 refine QM.sub (e' := [(1, _), (7, _)]) au9 (QM.then ?_)
 refine wpM.seq <| wR <| LM.mv rfl <| nA [(1, _), (122, _)] ?_
 refine wpM.condB rfl (fun h26 => ?_) (fun h26 => ?_)
 ·
  refine wpM.region ?_
  refine LM.mv rfl <| LM.nc rfl <| LM.val (ovf 3 rfl rfl rfl rfl) ?_
  refine LM.stS ({ x.ts.getD i default with how := 6 }) (j := 1) asm ir Try.sizeOf3 rfl rfl rfl au3 rfl (by decide) (by rfl) rfl (fun p hp _ => ⟨p, by simp [hp], rfl⟩) (fun ms2 hss2 hmm2 => ?_)
  refine LM.nil (QM.sub (e' := []) trivial (QM.then (wpM.seq (wpM.region ?_))))
  refine LM.as rfl <| nA [(6, _)] <| wpM.ret ?_
  refine qL Try.results58 rfl fun w' hm' hc' hg' => ?_
  have e1 : acqM x i e = ({ x with wr := x.wr.set e.l.toNat (withS (gWr x e.l.toNat) e.t) } : Wom).put i { gTm x i with how := 6 } := (by unfold acqM acqW; rw [if_pos hb1, if_pos (by rw [← hq]; first | exact h26 | rfl), if_neg h24]); rw [hb1, e1]; exact wom_leaf (x := ({ x with wr := x.wr.set e.l.toNat (withS (gWr x e.l.toNat) e.t) } : Wom).put i { gTm x i with how := 6 }) (by show nt = (x.ts.set i _).length; rw [List.length_set]; exact hnt) hss2 hsr hss1 (hk.of rfl (List.length_set ..) (by show (x.ts.set i _).length ≤ 64; rw [List.length_set]; exact hk.t) rfl rfl) hb hm' au1 hc' inM_0 (inn_tr (inn_of hmm2) (fun p hp => by simp [hp])) inS (inn_tr (inn_of hmm1) (fun p hp => by simp [hp]))
 refine wpM.skip <| tR <| LM.as rfl <| nA [(6, _)] <| wpM.ret ?_
 refine qL Try.results58 rfl fun w' hm' hc' hg' => ?_
 have e1 : acqM x i e = { x with wr := x.wr.set e.l.toNat (withS (gWr x e.l.toNat) e.t) } := (by unfold acqM acqW; rw [if_pos hb1, if_neg (by rw [← hq]; first | (rw [h26]; simp) | simp), if_neg h24]); rw [hb1, e1]; exact wom_leaf (x := { x with wr := x.wr.set e.l.toNat (withS (gWr x e.l.toNat) e.t) }) hnt hst hsr hss1 (hk.of rfl (List.length_set ..) hk.t rfl rfl) hb hm' au1 hc' inM_0 inS inS (inn_tr (inn_of hmm1) (fun p hp => by simp [hp]))
set_option maxHeartbeats 4000000 in
theorem mOf_spec {n0 b nt capt i : Nat} {s : StV} {x : Wom} {adt : Option Addr} {m : Mem0} (e : Mev) (w : World) (h : WoA n0 b s x adt nt capt m) (hi : i < x.ts.length) (hlk : (e.k = 4 ∨ e.k = 5 ∨ e.k = 12 ∨ e.k = 6) → 0 ≤ e.l ∧ e.l < s.ln) (hl5 : Sr fL 5 s.ls (.slice s.la s.ln s.lc) w) (hks : 0 < s.ls.length → adB s.la < n0) (hM : Mem w m) : Ret Try.prog 40 #[.pointer (some ⟨b, 0, none⟩), pT adt i, .agg (fMe e).toArray] w (Upd m (fun u m' => u = .bool (ofB x i e) ∧ WoM n0 b s (ofM x i e) m') w) := by
 have hWa := h; have hWm := h.m; obtain ⟨adr, adw, mt, mr, mw, rfl, hnt, hst, hsr, hsw, hk, hb⟩ := h; have hkc := hk.c
 refine Ret.enterM Try.func40 rfl Try.ntmps40 rfl (woC b s x.now adt nt capt adr adw :: (mt ++ (mr ++ (mw ++ [])))) ((inM (woM0 b s x adt nt capt adr adw mt mr mw))) aM ?_
 refine wR ?_
 refine LM.box rfl rfl (fun b5 hb5 => ?_)
 refine LM.as rfl <| nA [(0, _), (1, _), (5, _)] <| wpM.seq ?_
 refine wpM.draw [(0, 0), (1, 1), (2, 0), (3, 0), (4, 0), (5, 1), (6, 0), (7, 0)] kr kr ?_
 refine LD.val rfl rfl (ovf 3 rfl rfl rfl rfl) ?_
 refine LD.rd rfl rfl (oml rfl rfl rfl) ?_
 refine LD.val rfl rfl (ov_move rfl) <| LD.val rfl rfl (ov_nilCheck rfl) <| LD.val rfl rfl (ovf 3 rfl rfl rfl rfl) ?_
 refine LD.rd rfl rfl (om_slE (j := 0) asm ir Try.isAgg3 rfl rfl au3 rfl (by rfl)) ?_
 refine LD.val rfl rfl (ov_eql rfl rfl) ?_
 refine LD.val rfl rfl (ov_assign rfl) <| LD.nil ?_
 refine QM.sub (e' := [(0, _), (1, _), (5, _), (7, _)]) au9 (QM.then ?_)
 refine wpM.seq <| wR <| LM.val (ovf 3 rfl rfl rfl rfl) ?_
 refine LM.rd (oml rfl rfl rfl) ?_
 refine nA [(0, _), (1, _), (5, _), (7, _), (16, _)] <| wpM.block <| wR <| LM.val (ov_eql rfl rfl) <| LM.as rfl <| nA [(0, _), (1, _), (5, _), (7, _), (16, _), (17, _)] ?_
 refine wpM.condD rfl (fun h1 => ?_) (fun h1 => ?_)
 ·
  refine wR <| LM.mv rfl <| LM.mv rfl <| LM.mv rfl ?_
  refine LM.splitD (t := 21) rfl (fun h2 => ?_) (fun h2 => ?_)
  ·
   refine LM.sp 21 rfl rfl rfl <| LM.mv rfl <| LM.sp 21 rfl rfl rfl <| LM.mv rfl <| LM.sp 21 rfl rfl rfl <| LM.nc rfl <| LM.sp 21 rfl rfl rfl <| LM.val (ovf 3 rfl rfl rfl rfl) <| LM.sp 21 rfl rfl rfl ?_
   refine LM.rd (om_slE (j := 0) asm ir Try.isAgg3 rfl rfl au3 rfl (by rfl)) ?_
   refine LM.sp 21 rfl rfl rfl ?_
   refine cE Try.func57 rfl (fun w hm hc hg => mIdle_spec _ w hWm (hm.pick (woM0 b s x adt nt capt adr adw mt mr mw))) ?_
   refine LM.val (ov_pickT rfl rfl) ?_
   refine cU Try.func56 rfl (fun w hm hc hg => mTurns_spec 1 2 _ w hst hi (hm.pick mt)) hst.wlk (fun p hp _ => ⟨p, by simp [hp], rfl⟩) ?_
   rintro u29 m29 ⟨rfl, hs29⟩ hin29
   refine LM.as rfl <| nA [(6, _)] <| wpM.ret <| QM.block_ret <| QM.then_ret ?_
   refine qL Try.results40 rfl fun w' hm' hc' hg' => ?_
   obtain ⟨e1, e2⟩ := of_2 (x := x) (i := i) h1; rw [e1, e2]; rw [decide_eq_true (show e.n = (gTm x i).core from h2), Bool.true_and]; exact of_turn hnt hs29 hin29 hsr hsw hk hb hm' au1 hc'
  refine LM.dr 21 rfl rfl rfl <| LM.dr 21 rfl rfl rfl <| LM.dr 21 rfl rfl rfl <| LM.dr 21 rfl rfl rfl <| LM.dr 21 rfl rfl rfl <| LM.dr 21 rfl rfl rfl <| LM.val (ov_pickF rfl rfl) ?_
  refine cU Try.func56 rfl (fun w hm hc hg => mTurns_spec 1 2 _ w hst hi (hm.pick mt)) hst.wlk (fun p hp _ => ⟨p, by simp [hp], rfl⟩) ?_
  rintro u29 m29 ⟨rfl, hs29⟩ hin29
  refine LM.as rfl <| nA [(6, _)] <| wpM.ret <| QM.block_ret <| QM.then_ret ?_
  refine qL Try.results40 rfl fun w' hm' hc' hg' => ?_
  obtain ⟨e1, e2⟩ := of_2 (x := x) (i := i) h1; rw [e1, e2]; rw [decide_eq_false (show ¬ e.n = (gTm x i).core from h2), Bool.false_and]; exact of_turn hnt hs29 hin29 hsr hsw hk hb hm' au1 hc'
 refine wpM.seq <| wR <| LM.val (ov_eql rfl rfl) <| LM.as rfl <| nA [(0, _), (1, _), (5, _), (7, _), (16, _), (30, _)] ?_
 refine wpM.condXD (t := 30) rfl (fun h3 => ?_) (fun h3 => ?_)
 ·
  refine wpM.skip <| QM.then ?_
  refine wpM.condT rfl ?_
  refine wR <| LM.mv rfl <| LM.mv rfl ?_
  refine cU Try.func56 rfl (fun w hm hc hg => mTurns_spec 2 1 _ w hst hi (hm.pick mt)) hst.wlk (fun p hp _ => ⟨p, by simp [hp], rfl⟩) ?_
  rintro u35 m35 ⟨rfl, hs35⟩ hin35
  refine LM.as rfl <| nA [(6, _)] <| wpM.ret <| QM.block_ret <| QM.then_ret ?_
  refine qL Try.results40 rfl fun w' hm' hc' hg' => ?_
  obtain ⟨e1, e2⟩ := of_3 (x := x) (i := i) (.inl h3); rw [e1, e2]; exact of_turn hnt hs35 hin35 hsr hsw hk hb hm' au1 hc'
 refine wpM.region ?_
 refine LM.val (ov_eql rfl rfl) <| LM.as rfl <| nA [(0, _), (1, _), (5, _), (7, _), (16, _), (30, _)] ?_
 refine wpM.condD rfl (fun h4 => ?_) (fun h4 => ?_)
 ·
  refine wR <| LM.mv rfl <| LM.mv rfl ?_
  refine cU Try.func56 rfl (fun w hm hc hg => mTurns_spec 2 1 _ w hst hi (hm.pick mt)) hst.wlk (fun p hp _ => ⟨p, by simp [hp], rfl⟩) ?_
  rintro u35 m35 ⟨rfl, hs35⟩ hin35
  refine LM.as rfl <| nA [(6, _)] <| wpM.ret <| QM.block_ret <| QM.then_ret ?_
  refine qL Try.results40 rfl fun w' hm' hc' hg' => ?_
  obtain ⟨e1, e2⟩ := of_3 (x := x) (i := i) (.inr h4); rw [e1, e2]; exact of_turn hnt hs35 hin35 hsr hsw hk hb hm' au1 hc'
 refine wR <| LM.val (ov_eql rfl rfl) <| LM.as rfl <| nA [(0, _), (1, _), (5, _), (7, _), (16, _), (36, _)] ?_
 refine wpM.condD rfl (fun h5 => ?_) (fun h5 => ?_)
 ·
  refine wR <| LM.mv rfl <| LM.mv rfl ?_
  refine LM.rd (om_ldW Try.isAgg40 Try.sizeOf40 rfl rfl) ?_
  refine cU Try.func58 rfl (fun w hm hc hg => mAcq_spec e w hWa hi (hlk om).1 (hlk om).2 (hl5.keep0 hc (lk_off hks hWm)) hks (hm.pick (woM0 b s x adt nt capt adr adw mt mr mw))) hWm.wlk (fun p hp _ => ⟨p, hp, rfl⟩) ?_
  rintro u41 m41 ⟨rfl, h41⟩ hin41
  refine LM.as rfl <| nA [(6, _)] <| wpM.ret <| QM.block_ret <| QM.then_ret ?_
  refine qL Try.results40 rfl fun w' hm' hc' hg' => ?_
  obtain ⟨e1, e2⟩ := of_4 (x := x) (i := i) h5; rw [e1, e2]; exact upd_m (m' := m41) ⟨rfl, h41⟩ hm' au1 hc' hin41
 refine wR <| LM.val (ov_eql rfl rfl) <| LM.as rfl <| nA [(0, _), (1, _), (5, _), (7, _), (16, _), (42, _)] ?_
 refine wpM.condD rfl (fun h6 => ?_) (fun h6 => ?_)
 ·
  refine wpM.seq ?_
  refine wpM.draw [(0, 0), (1, 1), (2, 0), (3, 0), (4, 0), (5, 1), (6, 0), (7, 3), (8, 3)] kr kr ?_
  refine LD.val rfl rfl (ov_move rfl) ?_
  refine LD.rd rfl rfl (om_ldW Try.isAgg40 Try.sizeOf40 rfl rfl) ?_
  refine LD.val rfl rfl (ov_move rfl) <| LD.val rfl rfl (ov_nilCheck rfl) <| LD.val rfl rfl (ovf 3 rfl rfl rfl rfl) ?_
  refine LD.rd rfl rfl (om_slE (j := 1) asm ir Try.isAgg3 rfl rfl au3 rfl (by rfl)) ?_
  refine LD.val rfl rfl (ov_eql rfl rfl) ?_
  refine LD.tail rfl rfl ?_
  refine cU Try.func59 rfl (fun w hm hc hg => mLets_spec e _ w hWm (hlk om).1 (hlk om).2 (hm.pick (woM0 b s x adt nt capt adr adw mt mr mw))) hWm.wlk (fun p hp _ => ⟨p, hp, rfl⟩) ?_
  rintro u51 m51 ⟨rfl, h51⟩ hin51
  refine LM.as rfl ?_
  refine LM.nil ?_
  refine QM.qn ?_
  refine QM.sub (e' := [(6, _)]) ⟨rfl, trivial⟩ (QM.then ?_)
  refine wpM.ret <| QM.block_ret <| QM.then_ret ?_
  refine qL Try.results40 rfl fun w' hm' hc' hg' => ?_
  obtain ⟨e1, e2⟩ := of_5 (x := x) (i := i) h6; rw [e1, e2]; exact upd_m (m' := m51) ⟨rfl, h51⟩ hm' au1 hc' hin51
 refine wR <| LM.val (ov_eql rfl rfl) <| LM.as rfl <| nA [(0, _), (1, _), (5, _), (7, _), (16, _), (52, _)] ?_
 refine wpM.condD rfl (fun h7 => ?_) (fun h7 => ?_)
 ·
  refine wpM.seq ?_
  refine wpM.draw [(0, 0), (1, 1), (2, 0), (3, 0), (4, 0), (5, 1), (6, 0), (7, 3), (8, 3)] kr kr ?_
  refine LD.val rfl rfl (ov_move rfl) ?_
  refine LD.rd rfl rfl (om_ldW Try.isAgg40 Try.sizeOf40 rfl rfl) ?_
  refine LD.val rfl rfl (ov_move rfl) <| LD.val rfl rfl (ov_nilCheck rfl) <| LD.val rfl rfl (ovf 3 rfl rfl rfl rfl) ?_
  refine LD.rd rfl rfl (om_slE (j := 1) asm ir Try.isAgg3 rfl rfl au3 rfl (by rfl)) ?_
  refine LD.val rfl rfl (ov_neq rfl rfl) ?_
  refine LD.tail rfl rfl ?_
  refine cU Try.func59 rfl (fun w hm hc hg => mLets_spec e _ w hWm (hlk om).1 (hlk om).2 (hm.pick (woM0 b s x adt nt capt adr adw mt mr mw))) hWm.wlk (fun p hp _ => ⟨p, hp, rfl⟩) ?_
  rintro u51 m51 ⟨rfl, h51⟩ hin51
  refine LM.as rfl ?_
  refine LM.nil ?_
  refine QM.qn ?_
  refine QM.sub (e' := [(6, _)]) ⟨rfl, trivial⟩ (QM.then ?_)
  refine wpM.ret <| QM.block_ret <| QM.then_ret ?_
  refine qL Try.results40 rfl fun w' hm' hc' hg' => ?_
  obtain ⟨e1, e2⟩ := of_12 (x := x) (i := i) h7; rw [e1, e2]; exact upd_m (m' := m51) ⟨rfl, h51⟩ hm' au1 hc' hin51
 refine wR <| LM.val (ov_eql rfl rfl) <| LM.as rfl <| nA [(0, _), (1, _), (5, _), (7, _), (16, _), (62, _)] ?_
 refine wpM.condD rfl (fun h8 => ?_) (fun h8 => ?_)
 ·
  refine wR <| LM.mv rfl <| LM.mv rfl ?_
  refine LM.rd (om_ldW Try.isAgg40 Try.sizeOf40 rfl rfl) ?_
  refine cU Try.func60 rfl (fun w hm hc hg => mBlock_spec e w hWa hi (hlk om).1 (hlk om).2 (hm.pick (woM0 b s x adt nt capt adr adw mt mr mw))) hWm.wlk (fun p hp _ => ⟨p, hp, rfl⟩) ?_
  rintro u67 m67 ⟨rfl, h67⟩ hin67
  refine LM.as rfl <| nA [(6, _)] <| wpM.ret <| QM.block_ret <| QM.then_ret ?_
  refine qL Try.results40 rfl fun w' hm' hc' hg' => ?_
  obtain ⟨e1, e2⟩ := of_6 (x := x) (i := i) h8; rw [e1, e2]; exact upd_m (m' := m67) ⟨rfl, h67⟩ hm' au1 hc' hin67
 refine wR <| LM.val (ov_eql rfl rfl) <| LM.as rfl <| nA [(0, _), (1, _), (5, _), (7, _), (16, _), (68, _)] ?_
 refine wpM.condD rfl (fun h9 => ?_) (fun h9 => ?_)
 ·
  refine wR <| LM.mv rfl <| LM.mv rfl ?_
  refine cU Try.func61 rfl (fun w hm hc hg => mWakes_spec _ w hst hi (hm.pick mt)) hst.wlk (fun p hp _ => ⟨p, by simp [hp], rfl⟩) ?_
  rintro u72 m72 ⟨rfl, hs72⟩ hin72
  refine LM.as rfl <| nA [(6, _)] <| wpM.ret <| QM.block_ret <| QM.then_ret ?_
  refine qL Try.results40 rfl fun w' hm' hc' hg' => ?_
  obtain ⟨e1, e2⟩ := of_7 (x := x) (i := i) h9; rw [e1, e2]; exact of_turn hnt hs72 hin72 hsr hsw hk hb hm' au1 hc'
 refine wR <| LM.val (ov_eql rfl rfl) <| LM.as rfl <| nA [(0, _), (1, _), (5, _), (7, _), (16, _), (73, _)] ?_
 refine wpM.condD rfl (fun h10 => ?_) (fun h10 => ?_)
 ·
  refine wR <| LM.mv rfl ?_
  refine LM.rd (om_ldW Try.isAgg40 Try.sizeOf40 rfl rfl) ?_
  refine cU Try.func62 rfl (fun w hm hc hg => mFails_spec e w hst hi (hm.pick mt)) hst.wlk (fun p hp _ => ⟨p, by simp [hp], rfl⟩) ?_
  rintro u77 m77 ⟨rfl, hs77⟩ hin77
  refine LM.as rfl <| nA [(6, _)] <| wpM.ret <| QM.block_ret <| QM.then_ret ?_
  refine qL Try.results40 rfl fun w' hm' hc' hg' => ?_
  obtain ⟨e1, e2⟩ := of_8 (x := x) (i := i) h10; rw [e1, e2]; exact of_turn hnt hs77 hin77 hsr hsw hk hb hm' au1 hc'
 refine wR <| LM.val (ov_eql rfl rfl) <| LM.as rfl <| nA [(0, _), (1, _), (5, _), (7, _), (16, _), (78, _)] ?_
 refine wpM.condD rfl (fun h11 => ?_) (fun h11 => ?_)
 ·
  refine wR <| LM.mv rfl <| LM.val (ovf 3 rfl rfl rfl rfl) ?_
  refine LM.rd (oml rfl rfl rfl) ?_
  refine LM.val (ov_geq rfl rfl) <| LM.mv rfl ?_
  refine LM.splitD (t := 84) rfl (fun h12 => ?_) (fun h12 => ?_)
  ·
   refine LM.sp 84 rfl rfl rfl <| LM.val (ovf 3 rfl rfl rfl rfl) <| LM.sp 84 rfl rfl rfl ?_
   refine LM.rd (oml rfl rfl rfl) ?_
   refine LM.sp 84 rfl rfl rfl <| LM.val (ov_leq rfl rfl) <| LM.val (ov_pickT rfl rfl) ?_
   refine cU Try.func56 rfl (fun w hm hc hg => mTurns_spec 2 3 _ w hst hi (hm.pick mt)) hst.wlk (fun p hp _ => ⟨p, by simp [hp], rfl⟩) ?_
   rintro u89 m89 ⟨rfl, hs89⟩ hin89
   refine LM.as rfl <| nA [(6, _)] <| wpM.ret <| QM.block_ret <| QM.then_ret ?_
   refine qL Try.results40 rfl fun w' hm' hc' hg' => ?_
   obtain ⟨e1, e2⟩ := of_9 (x := x) (i := i) h11; rw [e1, e2]; rw [decide_eq_true (show 1 ≤ e.n from h12), Bool.true_and]; exact of_turn hnt hs89 hin89 hsr hsw hk hb hm' au1 hc'
  refine LM.dr 84 rfl rfl rfl <| LM.dr 84 rfl rfl rfl <| LM.dr 84 rfl rfl rfl <| LM.val (ov_pickF rfl rfl) ?_
  refine cU Try.func56 rfl (fun w hm hc hg => mTurns_spec 2 3 _ w hst hi (hm.pick mt)) hst.wlk (fun p hp _ => ⟨p, by simp [hp], rfl⟩) ?_
  rintro u89 m89 ⟨rfl, hs89⟩ hin89
  refine LM.as rfl <| nA [(6, _)] <| wpM.ret <| QM.block_ret <| QM.then_ret ?_
  refine qL Try.results40 rfl fun w' hm' hc' hg' => ?_
  obtain ⟨e1, e2⟩ := of_9 (x := x) (i := i) h11; rw [e1, e2]; rw [decide_eq_false (show ¬ 1 ≤ e.n from h12), Bool.false_and]; exact of_turn hnt hs89 hin89 hsr hsw hk hb hm' au1 hc'
 refine wR <| LM.val (ov_eql rfl rfl) <| LM.as rfl <| nA [(0, _), (1, _), (5, _), (7, _), (16, _), (90, _)] ?_
 refine wpM.condD rfl (fun h13 => ?_) (fun h13 => ?_)
 ·
  refine wR <| LM.mv rfl <| LM.val (ovf 3 rfl rfl rfl rfl) ?_
  refine LM.rd (oml rfl rfl rfl) ?_
  refine LM.val (ov_geq rfl rfl) <| LM.mv rfl ?_
  refine LM.splitD (t := 96) rfl (fun h14 => ?_) (fun h14 => ?_)
  ·
   refine LM.sp 96 rfl rfl rfl <| LM.val (ovf 3 rfl rfl rfl rfl) <| LM.sp 96 rfl rfl rfl ?_
   refine LM.rd (oml rfl rfl rfl) ?_
   refine LM.sp 96 rfl rfl rfl <| LM.val (ov_leq rfl rfl) <| LM.val (ov_pickT rfl rfl) ?_
   refine cU Try.func56 rfl (fun w hm hc hg => mTurns_spec 2 2 _ w hst hi (hm.pick mt)) hst.wlk (fun p hp _ => ⟨p, by simp [hp], rfl⟩) ?_
   rintro u101 m101 ⟨rfl, hs101⟩ hin101
   refine LM.as rfl <| nA [(6, _)] <| wpM.ret <| QM.block_ret <| QM.then_ret ?_
   refine qL Try.results40 rfl fun w' hm' hc' hg' => ?_
   obtain ⟨e1, e2⟩ := of_14 (x := x) (i := i) h13; rw [e1, e2]; rw [decide_eq_true (show 1 ≤ e.n from h14), Bool.true_and]; exact of_turn hnt hs101 hin101 hsr hsw hk hb hm' au1 hc'
  refine LM.dr 96 rfl rfl rfl <| LM.dr 96 rfl rfl rfl <| LM.dr 96 rfl rfl rfl <| LM.val (ov_pickF rfl rfl) ?_
  refine cU Try.func56 rfl (fun w hm hc hg => mTurns_spec 2 2 _ w hst hi (hm.pick mt)) hst.wlk (fun p hp _ => ⟨p, by simp [hp], rfl⟩) ?_
  rintro u101 m101 ⟨rfl, hs101⟩ hin101
  refine LM.as rfl <| nA [(6, _)] <| wpM.ret <| QM.block_ret <| QM.then_ret ?_
  refine qL Try.results40 rfl fun w' hm' hc' hg' => ?_
  obtain ⟨e1, e2⟩ := of_14 (x := x) (i := i) h13; rw [e1, e2]; rw [decide_eq_false (show ¬ 1 ≤ e.n from h14), Bool.false_and]; exact of_turn hnt hs101 hin101 hsr hsw hk hb hm' au1 hc'
 refine wR <| LM.val (ov_eql rfl rfl) <| LM.as rfl <| nA [(0, _), (1, _), (5, _), (7, _), (16, _), (102, _)] ?_
 refine wpM.condD rfl (fun h15 => ?_) (fun h15 => ?_)
 ·
  refine wpM.seq ?_
  refine wpM.draw [(0, 0), (1, 0), (2, 0), (3, 1), (4, 0), (5, 0), (6, 0), (7, 0), (8, 0), (9, 0), (10, 1), (11, 0), (12, 0), (13, 1), (14, 2), (15, 3), (16, 3), (17, 3)] kr kr ?_
  refine LD.val rfl rfl (ov_move rfl) <| LD.val rfl rfl (ov_nilCheck rfl) <| LD.val rfl rfl (ovf 3 rfl rfl rfl rfl) ?_
  refine LD.rd rfl rfl (om_slE (j := 1) asm ir Try.isAgg3 rfl rfl au3 rfl (by rfl)) ?_
  refine LD.val rfl rfl (ov_neq rfl rfl) ?_
  refine LD.val rfl rfl (ov_move rfl) ?_
  refine LD.splitD (t := 109) rfl (fun h16 => ?_) (fun h16 => ?_)
  ·
   refine LD.val rfl ⟨109, _, rfl, rfl, rfl⟩ (ov_move rfl) <| LD.val rfl ⟨109, _, rfl, rfl, rfl⟩ (ov_move rfl) <| LD.val rfl ⟨109, _, rfl, rfl, rfl⟩ (ov_nilCheck rfl) <| LD.val rfl ⟨109, _, rfl, rfl, rfl⟩ (ovf 3 rfl rfl rfl rfl) ?_
   refine LD.rd rfl ⟨109, _, rfl, rfl, rfl⟩ (om_slE (j := 1) asm ir Try.isAgg3 rfl rfl au3 rfl (by rfl)) ?_
   refine LD.val rfl ⟨109, _, rfl, rfl, rfl⟩ (ov_move rfl) <| LD.val rfl ⟨109, _, rfl, rfl, rfl⟩ (ovf 3 rfl rfl rfl rfl) ?_
   refine LD.rd rfl ⟨109, _, rfl, rfl, rfl⟩ (oml rfl rfl rfl) ?_
   refine dE rfl ⟨109, _, rfl, rfl, rfl⟩ Try.func63 rfl (fun w hm hc hg => mFree_spec _ w hWm (hm.pick (woM0 b s x adt nt capt adr adw mt mr mw))) ?_
   refine LD.tail rfl rfl ?_
   refine LM.sp 109 rfl rfl rfl ?_
   refine cU Try.func56 rfl (fun w hm hc hg => mTurns_spec _ 5 _ w hst hi (hm.pick mt)) hst.wlk (fun p hp _ => ⟨p, by simp [hp], rfl⟩) ?_
   rintro u119 m119 ⟨rfl, hs119⟩ hin119
   refine LM.val (ov_pickT rfl rfl) <| LM.as rfl ?_
   refine LM.nil ?_
   refine QM.qn ?_
   refine QM.sub (e' := [(6, _)]) ⟨rfl, trivial⟩ (QM.then ?_)
   refine wpM.ret <| QM.block_ret <| QM.then_ret ?_
   refine qL Try.results40 rfl fun w' hm' hc' hg' => ?_
   obtain ⟨e1, e2⟩ := of_11 (x := x) (i := i) h15; rw [e1, e2, decide_eq_true (show (gTm x i).how ≠ 5 from h16), Bool.true_and, ext_put hi]; rw [ext_trn] at *; exact of_turn hnt hs119 hin119 hsr hsw hk hb hm' au1 hc'
  refine LD.drop rfl rfl ⟨109, _, rfl, rfl, rfl⟩ <| LD.drop rfl rfl ⟨109, _, rfl, rfl, rfl⟩ <| LD.drop rfl rfl ⟨109, _, rfl, rfl, rfl⟩ <| LD.drop rfl rfl ⟨109, _, rfl, rfl, rfl⟩ <| LD.drop rfl rfl ⟨109, _, rfl, rfl, rfl⟩ <| LD.drop rfl rfl ⟨109, _, rfl, rfl, rfl⟩ <| LD.drop rfl rfl ⟨109, _, rfl, rfl, rfl⟩ <| LD.drop rfl rfl ⟨109, _, rfl, rfl, rfl⟩ <| LD.drop rfl rfl ⟨109, _, rfl, rfl, rfl⟩ ?_
  refine LD.tail rfl rfl ?_
  refine LM.dr 109 rfl rfl rfl <| LM.val (ov_pickF rfl rfl) <| LM.as rfl ?_
  refine LM.nil ?_
  refine QM.qn ?_
  refine QM.sub (e' := [(6, _)]) ⟨rfl, trivial⟩ (QM.then ?_)
  refine wpM.ret <| QM.block_ret <| QM.then_ret ?_
  refine qL Try.results40 rfl fun w' hm' hc' hg' => ?_
  obtain ⟨e1, e2⟩ := of_11 (x := x) (i := i) h15; rw [e1, e2, decide_eq_false (show ¬ (gTm x i).how ≠ 5 from h16), Bool.false_and, if_neg (by simp)]; exact wom_leaf hnt hst hsr hsw hk hb hm' au1 hc' inM_0 inS inS inS
 refine wR <| LM.val (ov_eql rfl rfl) <| LM.as rfl <| nA [(0, _), (1, _), (5, _), (7, _), (121, _)] ?_
 refine wpM.condD rfl (fun h17 => ?_) (fun h17 => ?_)
 ·
  refine wpM.seq <| wpM.seq ?_
  refine wpM.draw [(0, 0), (1, 0), (2, 0), (3, 0), (4, 0), (5, 1), (6, 0), (7, 0), (8, 0), (9, 0), (10, 1), (11, 0), (12, 0), (13, 0), (14, 0), (15, 1), (16, 0), (17, 0), (18, 3), (19, 3)] kr kr ?_
  refine LD.val rfl rfl (ov_move rfl) <| LD.val rfl rfl (ov_move rfl) ?_
  refine LD.val rfl rfl (ov_notD rfl) ?_
  refine LD.val rfl rfl (ov_move rfl) ?_
  refine LD.splitD (t := 126) rfl (fun h18 => ?_) (fun h18 => ?_)
  ·
   refine LD.val rfl ⟨126, _, rfl, rfl, rfl⟩ (ovf 3 rfl rfl rfl rfl) ?_
   refine LD.rd rfl ⟨126, _, rfl, rfl, rfl⟩ (oml rfl rfl rfl) ?_
   refine LD.val rfl ⟨126, _, rfl, rfl, rfl⟩ (ov_geq rfl rfl) ?_
   refine LD.val rfl rfl (ov_pickT rfl rfl) ?_
   refine LD.val rfl rfl (ov_move rfl) ?_
   refine LD.splitD (t := 131) rfl (fun h19 => ?_) (fun h19 => ?_)
   ·
    refine LD.val rfl ⟨131, _, rfl, rfl, rfl⟩ (ovf 3 rfl rfl rfl rfl) ?_
    refine LD.rd rfl ⟨131, _, rfl, rfl, rfl⟩ (oml rfl rfl rfl) ?_
    refine LD.val rfl ⟨131, _, rfl, rfl, rfl⟩ (ov_move rfl) <| LD.val rfl ⟨131, _, rfl, rfl, rfl⟩ (ov_nilCheck rfl) <| LD.val rfl ⟨131, _, rfl, rfl, rfl⟩ (ovf 26 rfl rfl rfl rfl) <| LD.val rfl ⟨131, _, rfl, rfl, rfl⟩ (ovf 3 rfl rfl rfl rfl) ?_
    refine LD.rd rfl ⟨131, _, rfl, rfl, rfl⟩ (oml rfl rfl rfl) ?_
    refine LD.val rfl ⟨131, _, rfl, rfl, rfl⟩ (ov_lss rfl rfl) ?_
    refine LD.val rfl rfl (ov_pickT rfl rfl) ?_
    refine LD.tail rfl rfl ?_
    refine cU Try.func56 rfl (fun w hm hc hg => mTurns_spec 1 1 _ w hst hi (hm.pick mt)) hst.wlk (fun p hp _ => ⟨p, by simp [hp], rfl⟩) ?_
    rintro u141 m141 ⟨rfl, hs141⟩ hin141; obtain ⟨ts2, hts2, hs141⟩ : ∃ ts2, ts2 = _ ∧ Sl fTk 63 3 n0 ts2 (.slice adt nt capt) m141 := ⟨_, rfl, hs141⟩; have hl2 : ts2.length = x.ts.length := (by rw [hts2, List.length_set])
    refine LM.val (ov_not rfl) ?_
    refine LM.nil ?_
    refine QM.qn ?_
    refine QM.sub (e' := [(1, _), (5, _), (142, _)]) au9 (QM.then ?_)
    refine wpM.condB rfl (fun h20 => ?_) (fun h20 => ?_)
    ·
     refine wR <| LM.as rfl <| nA [(6, _)] <| wpM.ret <| QM.then_ret <| QM.block_ret <| QM.then_ret ?_
     refine qL Try.results40 rfl fun w' hm' hc' hg' => ?_
     obtain ⟨e1, e2⟩ := of_13 (x := x) (i := i) h17; have hmy : decide (e.n < s.cr) = (decide (e.n ≠ (gTm x i).core) && (decide (0 ≤ e.n) && decide (e.n < x.cores))) := (by rw [decide_eq_true (show e.n ≠ (gTm x i).core from h18), decide_eq_true (show 0 ≤ e.n from h19), hkc]; rfl); rw [hmy] at hts2 h20; have hb0 : trnB (gTm x i) 1 (decide (e.n ≠ (gTm x i).core) && (decide (0 ≤ e.n) && decide (e.n < x.cores))) = false := (by simpa using h20); rw [e1, e2, if_neg (by rw [hb0]; simp), hb0]; rw [trn_no hb0, set_id default hi] at hts2; rw [hts2] at hs141; exact wom_leaf hnt hs141 hsr hsw hk hb hm' au1 hc' inM_0 (inn_tr (x := mt) hin141 (fun p hp => by simp [hp])) inS inS
    refine wpM.skip <| tR <| LM.mv rfl <| LM.val (ovf 3 rfl rfl rfl rfl) ?_
    refine LM.rd (oml rfl rfl rfl) ?_
    refine LM.nc rfl <| LM.val (ovf 3 rfl rfl rfl rfl) ?_
    refine LM.stS ({ ts2.getD i default with core := e.n }) (j := 0) asm ir Try.sizeOf3 rfl rfl rfl au3 rfl (by decide) (by rfl) rfl (fun p hp hlt => inM_inn (inn_tr (x := mt) asm (fun p hp => by simp [hp])) p hp hlt) (fun ms1 hss1 hmm1 => ?_)
    refine LM.nil (QM.sub (e' := []) trivial (QM.then (wpM.seq (wpM.region ?_))))
    refine LM.as rfl <| nA [(6, _)] <| wpM.ret <| QM.block_ret <| QM.then_ret ?_
    refine qL Try.results40 rfl fun w' hm' hc' hg' => ?_
    obtain ⟨e1, e2⟩ := of_13 (x := x) (i := i) h17; have hmy : decide (e.n < s.cr) = (decide (e.n ≠ (gTm x i).core) && (decide (0 ≤ e.n) && decide (e.n < x.cores))) := (by rw [decide_eq_true (show e.n ≠ (gTm x i).core from h18), decide_eq_true (show 0 ≤ e.n from h19), hkc]; rfl); rw [hmy] at hts2 h20; have hb0 : trnB (gTm x i) 1 (decide (e.n ≠ (gTm x i).core) && (decide (0 ≤ e.n) && decide (e.n < x.cores))) = true := (by simpa using h20); rw [e1, e2, if_pos hb0, hb0]; have et := mig_ts (e := e) hb0 hi hts2; rw [et] at hss1; exact of_turn hnt hss1 (inn_trans hin141 (inn_of hmm1)) hsr hsw hk hb hm' au1 hc'
   refine LD.drop rfl rfl ⟨131, _, rfl, rfl, rfl⟩ <| LD.drop rfl rfl ⟨131, _, rfl, rfl, rfl⟩ <| LD.drop rfl rfl ⟨131, _, rfl, rfl, rfl⟩ <| LD.drop rfl rfl ⟨131, _, rfl, rfl, rfl⟩ <| LD.drop rfl rfl ⟨131, _, rfl, rfl, rfl⟩ <| LD.drop rfl rfl ⟨131, _, rfl, rfl, rfl⟩ <| LD.drop rfl rfl ⟨131, _, rfl, rfl, rfl⟩ <| LD.drop rfl rfl ⟨131, _, rfl, rfl, rfl⟩ ?_
   refine LD.val rfl rfl (ov_pickF rfl rfl) ?_
   refine LD.tail rfl rfl ?_
   refine cU Try.func56 rfl (fun w hm hc hg => mTurns_spec 1 1 _ w hst hi (hm.pick mt)) hst.wlk (fun p hp _ => ⟨p, by simp [hp], rfl⟩) ?_
   rintro u141 m141 ⟨rfl, hs141⟩ hin141; obtain ⟨ts2, hts2, hs141⟩ : ∃ ts2, ts2 = _ ∧ Sl fTk 63 3 n0 ts2 (.slice adt nt capt) m141 := ⟨_, rfl, hs141⟩; have hl2 : ts2.length = x.ts.length := (by rw [hts2, List.length_set])
   refine LM.val (ov_not rfl) ?_
   refine LM.nil ?_
   refine QM.qn ?_
   refine QM.sub (e' := [(1, _), (5, _), (142, _)]) au9 (QM.then ?_)
   refine wpM.condB rfl (fun h21 => ?_) (fun h21 => ?_)
   ·
    refine wR <| LM.as rfl <| nA [(6, _)] <| wpM.ret <| QM.then_ret <| QM.block_ret <| QM.then_ret ?_
    refine qL Try.results40 rfl fun w' hm' hc' hg' => ?_
    obtain ⟨e1, e2⟩ := of_13 (x := x) (i := i) h17; have hmy : false = (decide (e.n ≠ (gTm x i).core) && (decide (0 ≤ e.n) && decide (e.n < x.cores))) := (by rw [decide_eq_false (show ¬ 0 ≤ e.n from h19)]; simp); rw [hmy] at hts2 h21; have hb0 : trnB (gTm x i) 1 (decide (e.n ≠ (gTm x i).core) && (decide (0 ≤ e.n) && decide (e.n < x.cores))) = false := (by simpa using h21); rw [e1, e2, if_neg (by rw [hb0]; simp), hb0]; rw [trn_no hb0, set_id default hi] at hts2; rw [hts2] at hs141; exact wom_leaf hnt hs141 hsr hsw hk hb hm' au1 hc' inM_0 (inn_tr (x := mt) hin141 (fun p hp => by simp [hp])) inS inS
   refine wpM.skip <| tR <| LM.mv rfl <| LM.val (ovf 3 rfl rfl rfl rfl) ?_
   refine LM.rd (oml rfl rfl rfl) ?_
   refine LM.nc rfl <| LM.val (ovf 3 rfl rfl rfl rfl) ?_
   refine LM.stS ({ ts2.getD i default with core := e.n }) (j := 0) asm ir Try.sizeOf3 rfl rfl rfl au3 rfl (by decide) (by rfl) rfl (fun p hp hlt => inM_inn (inn_tr (x := mt) asm (fun p hp => by simp [hp])) p hp hlt) (fun ms1 hss1 hmm1 => ?_)
   refine LM.nil (QM.sub (e' := []) trivial (QM.then (wpM.seq (wpM.region ?_))))
   refine LM.as rfl <| nA [(6, _)] <| wpM.ret <| QM.block_ret <| QM.then_ret ?_
   refine qL Try.results40 rfl fun w' hm' hc' hg' => ?_
   exfalso; unfold trnB at h21; simp at h21
  refine LD.drop rfl rfl ⟨126, _, rfl, rfl, rfl⟩ <| LD.drop rfl rfl ⟨126, _, rfl, rfl, rfl⟩ <| LD.drop rfl rfl ⟨126, _, rfl, rfl, rfl⟩ ?_
  refine LD.val rfl rfl (ov_pickF rfl rfl) ?_
  refine LD.val rfl rfl (ov_move rfl) <| LD.drop rfl rfl ⟨131, _, rfl, rfl, rfl⟩ <| LD.drop rfl rfl ⟨131, _, rfl, rfl, rfl⟩ <| LD.drop rfl rfl ⟨131, _, rfl, rfl, rfl⟩ <| LD.drop rfl rfl ⟨131, _, rfl, rfl, rfl⟩ <| LD.drop rfl rfl ⟨131, _, rfl, rfl, rfl⟩ <| LD.drop rfl rfl ⟨131, _, rfl, rfl, rfl⟩ <| LD.drop rfl rfl ⟨131, _, rfl, rfl, rfl⟩ <| LD.drop rfl rfl ⟨131, _, rfl, rfl, rfl⟩ ?_
  refine LD.val rfl rfl (ov_pickF rfl rfl) ?_
  refine LD.tail rfl rfl ?_
  refine cU Try.func56 rfl (fun w hm hc hg => mTurns_spec 1 1 _ w hst hi (hm.pick mt)) hst.wlk (fun p hp _ => ⟨p, by simp [hp], rfl⟩) ?_
  rintro u141 m141 ⟨rfl, hs141⟩ hin141; obtain ⟨ts2, hts2, hs141⟩ : ∃ ts2, ts2 = _ ∧ Sl fTk 63 3 n0 ts2 (.slice adt nt capt) m141 := ⟨_, rfl, hs141⟩; have hl2 : ts2.length = x.ts.length := (by rw [hts2, List.length_set])
  refine LM.val (ov_not rfl) ?_
  refine LM.nil ?_
  refine QM.qn ?_
  refine QM.sub (e' := [(1, _), (5, _), (142, _)]) au9 (QM.then ?_)
  refine wpM.condB rfl (fun h22 => ?_) (fun h22 => ?_)
  ·
   refine wR <| LM.as rfl <| nA [(6, _)] <| wpM.ret <| QM.then_ret <| QM.block_ret <| QM.then_ret ?_
   refine qL Try.results40 rfl fun w' hm' hc' hg' => ?_
   obtain ⟨e1, e2⟩ := of_13 (x := x) (i := i) h17; have hmy : false = (decide (e.n ≠ (gTm x i).core) && (decide (0 ≤ e.n) && decide (e.n < x.cores))) := (by rw [decide_eq_false (show ¬ e.n ≠ (gTm x i).core from h18)]; rfl); rw [hmy] at hts2 h22; have hb0 : trnB (gTm x i) 1 (decide (e.n ≠ (gTm x i).core) && (decide (0 ≤ e.n) && decide (e.n < x.cores))) = false := (by simpa using h22); rw [e1, e2, if_neg (by rw [hb0]; simp), hb0]; rw [trn_no hb0, set_id default hi] at hts2; rw [hts2] at hs141; exact wom_leaf hnt hs141 hsr hsw hk hb hm' au1 hc' inM_0 (inn_tr (x := mt) hin141 (fun p hp => by simp [hp])) inS inS
  refine wpM.skip <| tR <| LM.mv rfl <| LM.val (ovf 3 rfl rfl rfl rfl) ?_
  refine LM.rd (oml rfl rfl rfl) ?_
  refine LM.nc rfl <| LM.val (ovf 3 rfl rfl rfl rfl) ?_
  refine LM.stS ({ ts2.getD i default with core := e.n }) (j := 0) asm ir Try.sizeOf3 rfl rfl rfl au3 rfl (by decide) (by rfl) rfl (fun p hp hlt => inM_inn (inn_tr (x := mt) asm (fun p hp => by simp [hp])) p hp hlt) (fun ms1 hss1 hmm1 => ?_)
  refine LM.nil (QM.sub (e' := []) trivial (QM.then (wpM.seq (wpM.region ?_))))
  refine LM.as rfl <| nA [(6, _)] <| wpM.ret <| QM.block_ret <| QM.then_ret ?_
  refine qL Try.results40 rfl fun w' hm' hc' hg' => ?_
  exfalso; unfold trnB at h22; simp at h22
 refine wpM.skip <| QM.block_normal <| tR <| LM.as rfl <| nA [(6, _)] <| wpM.ret ?_
 refine qL Try.results40 rfl fun w' hm' hc' hg' => ?_
 obtain ⟨e1, e2⟩ := of_no (x := x) (i := i) ⟨h1, h3, h4, h5, h6, h7, h8, h9, h10, h11, h13, h15, h17⟩; rw [e1, e2]; exact wom_leaf hnt hst hsr hsw hk hb hm' au1 hc' inM_0 inS inS inS
end Go.Eng
namespace Go.Eng
open Go Go.RowKit
theorem mayS_ps' {s : StC} (h : mayS s = true) : s.ls.length ≤ 8 ∧ s.ps.length ≤ 8 ∧ ∀ p ∈ s.ps, (ckO p.fv p.xs s.ls (s.ps.length : Int)).2 = 0 := by
  unfold mayS winB at h
  simp only [Bool.and_eq_true, decide_eq_true_eq, Bool.not_eq_true'] at h
  refine ⟨h.1.1.2.1, by omega, fun p hp => ?_⟩
  have := List.any_eq_false.1 h.2 p hp
  unfold misB at this
  simpa using this
end Go.Eng
