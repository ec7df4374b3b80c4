/- The walk of the program's parser of programs: the whole. No condition. -/
import Derived.Test.YtoeojcnodjjpgaaDoorPgmC
set_option linter.unusedVariables false
set_option linter.unusedSimpArgs false
namespace Go.Eng
open Go Go.Proofs Go.RowKit

theorem Sr.adlt {α : Type} {f : α → List Value} {s : Nat} {xs : List α} {ad : Option Addr} {n cap : Nat} {w : World} (h : Sr f s xs (.slice ad n cap) w) (h0 : 0 < xs.length) : adB ad < w.heap.size := by
  obtain ⟨rfl, _, h3⟩ := h.open
  obtain ⟨b, off, cs, E, fz, rfl, hb, _⟩ := h3 h0
  exact (Array.getElem?_eq_some_iff.1 hb).1
def ParT (r : Bool × List COp × Int × Int) (n0 : Nat) (v : Value) (m : Mem0) : Prop := ∃ ad n cap, v = .tuple #[.agg #[.bool r.1, .slice ad n cap], .int .i64 r.2.2.1, .int .i64 r.2.2.2] ∧ n = r.2.1.length ∧ Sl fO 69 3 n0 r.2.1 (.slice ad n cap) m
theorem ParT.mono {r : Bool × List COp × Int × Int} : ∀ (k k' : Nat) u m, k' ≤ k → ParT r k u m → ParT r k' u m := fun k k' u m h ⟨ad, n, cap, h1, h2, h3⟩ => ⟨ad, n, cap, h1, h2, h3.mono h⟩
def pA (ws : List Wrd) (i : Nat) : Nat × Int := needE ws i 0 1 wProg
def pFv (ws : List Wrd) (i : Nat) : Bool := isE ws (pA ws i).1 (pA ws i).2 1 wForever
def pB1 (ws : List Wrd) (i : Nat) : Nat := mayE ws (pA ws i).1 (pA ws i).2 1 wForever
def pC (ws : List Wrd) (i : Nat) : Nat × Int := needE ws (pB1 ws i) (pA ws i).2 3 [123]
def StI (ws : List Wrd) (R : List COp × Int × Int) (i : Nat) (e : Int) (ops : List COp) : Prop := (e = 0 → loopR ws i ops = R) ∧ (e ≠ 0 → R = ([], (i : Int), e)) ∧ i ≤ ws.length
theorem isE_0 {ws : List Wrd} {i : Nat} {k : Int} {t : List UInt8} : isE ws i 0 k t = isR ws i k t := by rw [isE_eq]; rfl
theorem isE_bad {ws : List Wrd} {i : Nat} {e k : Int} {t : List UInt8} (h : e ≠ 0) : isE ws i e k t = false := by rw [isE_eq, decide_eq_false h]; rfl
theorem start_inv {ws : List Wrd} {i : Nat} (hi : i ≤ ws.length) : StI ws (bodyR ws i) (pC ws i).1 (pC ws i).2 [] ∧ ((bodyR ws i).2.2 = 0 → pFv ws i = (headR ws i).1) := by
  unfold StI bodyR
  cases h1 : isR ws i 1 wProg with
  | false =>
    have a : pA ws i = (i, 5) := by unfold pA needE; rw [isE_0, h1, if_neg (by simp), if_pos rfl]
    have b : pB1 ws i = i := by unfold pB1 mayE; rw [a, isE_bad (by simp), if_neg (by simp)]
    have c : pC ws i = (i, 5) := by unfold pC needE; rw [a, b, isE_bad (by simp), if_neg (by simp), if_neg (by simp)]
    rw [c]; simp [hi]
  | true =>
    have hlt := isR_lt h1
    have a : pA ws i = (i + 1, 0) := by unfold pA needE; rw [isE_0, h1, if_pos rfl]
    have f : pFv ws i = (headR ws i).1 := by unfold pFv; rw [a, isE_0]; rfl
    have b : pB1 ws i = (headR ws i).2 := by unfold pB1 mayE headR; rw [a, isE_0]
    have hb : (headR ws i).2 ≤ ws.length := by
      unfold headR; simp only; split
      · rename_i q; have := isR_lt q; omega
      · omega
    rw [if_pos rfl]
    cases h2 : isR ws (headR ws i).2 3 [123] with
    | false =>
      have c : pC ws i = ((headR ws i).2, 5) := by unfold pC needE; rw [a, b, isE_0, h2, if_neg (by simp), if_pos rfl]
      rw [c]; simp [hb]
    | true =>
      have hlt2 := isR_lt h2
      have c : pC ws i = ((headR ws i).2 + 1, 0) := by unfold pC needE; rw [a, b, isE_0, h2, if_pos rfl]
      rw [c, if_pos rfl]; exact ⟨⟨fun _ => rfl, fun h => absurd rfl h, hlt2⟩, fun _ => f⟩
def measP (L i : Nat) (e : Int) : Nat := if e = 0 then L - i + 1 else 0
theorem meas_lt {ws : List Wrd} {i k : Nat} (hi : i ≤ ws.length) : measP ws.length (opR ws i k).1 (opR ws i k).2.1 < measP ws.length i 0 := by
  unfold measP
  rw [if_pos rfl]
  split
  · rename_i h; have := opR_lt h; omega
  · omega
theorem opR_pos {ws : List Wrd} {i k : Nat} (hi : i ≤ ws.length) : (opR ws i k).1 ≤ ws.length := by
  by_cases h1 : kindR ws i = 0
  · rw [op_a h1]; exact hi
  · by_cases h2 : 12 ≤ k
    · rw [op_b h1 h2]; exact hi
    · rw [op_need h1 (by omega)]
      have h3 := opB_le h1
      unfold needE; split
      · rename_i q; have := (isE_lt q).1; simp only; omega
      · split <;> simp only <;> omega
theorem StI.next {ws : List Wrd} {R : List COp × Int × Int} {i : Nat} {ops : List COp} (h : StI ws R i 0 ops) (hn : isR ws i 3 [125] = false) : StI ws R (opR ws i ops.length).1 (opR ws i ops.length).2.1 (ops ++ [(opR ws i ops.length).2.2]) := by
  obtain ⟨h1, _, h3⟩ := h
  have h1 := h1 rfl
  refine ⟨fun q => ?_, fun q => ?_, opR_pos h3⟩
  · rw [← loopR_next hn q]; exact h1
  · rw [← h1, loopR_bad hn q]
theorem parse_nat {ws : List Wrd} {i : Nat} (hi : i ≤ ws.length) : parseO ws (i : Int) = (decide ((bodyR ws i).2.2 = 0) && (headR ws i).1, bodyR ws i) := by
  unfold parseO; rw [if_neg (by omega), Int.toNat_natCast]
theorem fin_bad {ws : List Wrd} {i0 : Nat} {i e : Int} {n0 : Nat} (hi : i0 ≤ ws.length) (h : bodyR ws i0 = ([], i, e)) (he : e ≠ 0) : ParT (parseO ws (i0 : Int)) n0 (.tuple #[.agg #[.bool false, .slice none 0 0], .int .i64 i, .int .i64 e]) [] := by
  rw [parse_nat hi, h, decide_eq_false he]; exact ⟨none, 0, 0, rfl, rfl, .nil _ _ _ _⟩
theorem fin_ok {ws : List Wrd} {i0 : Nat} {i : Int} {n0 : Nat} {ops : List COp} {ad : Option Addr} {n cap : Nat} {m : Mem0} (hi : i0 ≤ ws.length) (h : bodyR ws i0 = (ops, i, 0)) (hn : n = ops.length) (hs : Sl fO 69 3 n0 ops (.slice ad n cap) m) : ParT (parseO ws (i0 : Int)) n0 (.tuple #[.agg #[.bool (pFv ws i0), .slice ad n cap], .int .i64 i, .int .i64 0]) m := by
  have hf := (start_inv hi).2 (by rw [h])
  rw [parse_nat hi, h, hf]; exact ⟨ad, n, cap, rfl, hn, hs⟩
set_option maxRecDepth 100000 in
set_option maxHeartbeats 2000000 in
theorem parse_spec {ws : List Wrd} {ad : Option Addr} {n cap : Nat} (p : Int) (w : World) (hn : n = ws.length) (hx : ws.length ≤ 1000000000) (hl : Sr fW 4 ws (.slice ad n cap) w) : Ret Tryd.prog 26 #[.slice ad n cap, .int .i64 p] w (fun v w' => Ext w w' ∧ ∃ m, ParT (parseO ws p) w.heap.size v m ∧ Mem w' m ∧ ∀ p ∈ m, w.heap.size ≤ p.1) := by
  refine Ret.enterM (l := [.slice ad n cap, .int .i64 p]) Tryd.func26 rfl Tryd.ntmps26 rfl ([]) (no) (Mem.nil w) ?_
  refine wpM.seq ?_
  refine wpM.region ?_
  refine LM.alloc Tryd.zeroValue53 rfl (fun b4 hb4 => ?_)
  refine LM.val (ov_assign rfl) ?_
  refine LM.val (ov_assign rfl) ?_
  refine LM.nil ?_
  refine QM.sub (e' := [(0, _), (1, _), (4, _)]) ⟨rfl, rfl, rfl, trivial⟩ ?_
  refine QM.then ?_
  refine wpM.seq ?_
  refine wpM.seq ?_
  refine wpM.region ?_
  refine LM.val (ov_move rfl) ?_
  refine LM.val (ov_lss rfl rfl) ?_
  refine LM.val (ov_move rfl) ?_
  first | refine LM.splitD (t := 11) rfl (fun h1 => ?_) (fun h1 => ?_) | refine LM.splitB (t := 11) rfl (fun h1 => ?_) (fun h1 => ?_)
  ·
    refine LM.drop (t := 11) rfl rfl rfl ?_
    refine LM.drop (t := 11) rfl rfl rfl ?_
    refine LM.drop (t := 11) rfl rfl rfl ?_
    refine LM.drop (t := 11) rfl rfl rfl ?_
    refine LM.val (ov_pickT rfl rfl) ?_
    refine LM.nil ?_
    refine QM.sub (e' := [(0, _), (1, _), (4, _), (16, _)]) ⟨rfl, rfl, rfl, rfl, trivial⟩ ?_
    refine QM.then ?_
    refine wpM.condT rfl ?_
    refine wpM.seq ?_
    refine wpM.region ?_
    refine LM.val (ov_build (cs := #[_, _]) rfl (by first | rfl | kernel_rfl)) ?_
    first | refine LM.stW Tryd.sizeOf53 rfl rfl rfl rfl (by first | rfl | decide | (simp; done)) (fun hlt => absurd hlt (by omega)) ?_ | refine LM.st Tryd.sizeOf53 rfl rfl rfl (by first | decide | exact Nat.le_of_ble_eq_true rfl | (simp; done) | (simp; omega)) rfl (fun hlt => absurd hlt (by omega)) ?_
    refine LM.val (ov_assign rfl) ?_
    refine LM.val (ov_assign rfl) ?_
    refine LM.nil ?_
    refine QM.sub (e' := [(4, _), (5, _), (6, _)]) ⟨rfl, rfl, rfl, trivial⟩ ?_
    refine QM.then ?_
    refine wpM.ret ?_
    refine QM.then_ret ?_
    refine QM.leaveCs (ds := ([])) (.inl rfl) [.cell 4 53, .tmp 5, .tmp 6] Tryd.results26 hd_nil (rc_w rfl Tryd.isAgg53 Tryd.sizeOf53 rfl (rc_tmp rfl (rc_tmp rfl rc_nil))) ?_
    intro w' hm' hc'
    -- leaf 1: h1+
    have hpar : parseO ws p = (false, [], 0, 5) := (by unfold parseO; rw [if_pos (by omega)]); rw [hpar]; exact ⟨hc', [], ⟨none, 0, 0, rfl, rfl, .nil _ _ _ _⟩, Mem.nil _, fun p hp => by cases hp⟩
  ·
    refine LM.strip (t := 11) rfl rfl rfl ?_
    refine LM.val (ov_move rfl) ?_
    refine LM.strip (t := 11) rfl rfl rfl ?_
    refine LM.val (ov_move rfl) ?_
    refine LM.strip (t := 11) rfl rfl rfl ?_
    refine LM.val (ov_len Tryd.underlying24 rfl) ?_
    refine LM.strip (t := 11) rfl rfl rfl ?_
    refine LM.val (ov_gtr rfl rfl) ?_
    refine LM.val (ov_pickF rfl rfl) ?_
    refine LM.nil ?_
    refine QM.sub (e' := [(0, _), (1, _), (4, _), (16, _)]) ⟨rfl, rfl, rfl, rfl, trivial⟩ ?_
    refine QM.then ?_
    first | refine wpM.condD rfl (fun h2 => ?_) (fun h2 => ?_) | refine wpM.condB rfl (fun h2 => ?_) (fun h2 => ?_)
    ·
      refine wpM.seq ?_
      refine wpM.region ?_
      refine LM.val (ov_build (cs := #[_, _]) rfl (by first | rfl | kernel_rfl)) ?_
      first | refine LM.stW Tryd.sizeOf53 rfl rfl rfl rfl (by first | rfl | decide | (simp; done)) (fun hlt => absurd hlt (by omega)) ?_ | refine LM.st Tryd.sizeOf53 rfl rfl rfl (by first | decide | exact Nat.le_of_ble_eq_true rfl | (simp; done) | (simp; omega)) rfl (fun hlt => absurd hlt (by omega)) ?_
      refine LM.val (ov_assign rfl) ?_
      refine LM.val (ov_assign rfl) ?_
      refine LM.nil ?_
      refine QM.sub (e' := [(4, _), (5, _), (6, _)]) ⟨rfl, rfl, rfl, trivial⟩ ?_
      refine QM.then ?_
      refine wpM.ret ?_
      refine QM.then_ret ?_
      refine QM.leaveCs (ds := ([])) (.inl rfl) [.cell 4 53, .tmp 5, .tmp 6] Tryd.results26 hd_nil (rc_w rfl Tryd.isAgg53 Tryd.sizeOf53 rfl (rc_tmp rfl (rc_tmp rfl rc_nil))) ?_
      intro w' hm' hc'
      -- leaf 2: h1- h2+
      have hpar : parseO ws p = (false, [], 0, 5) := (by unfold parseO; rw [if_pos (by omega)]); rw [hpar]; exact ⟨hc', [], ⟨none, 0, 0, rfl, rfl, .nil _ _ _ _⟩, Mem.nil _, fun p hp => by cases hp⟩
    ·
      obtain ⟨i0, rfl⟩ : ∃ i0 : Nat, p = (i0 : Nat) := ⟨p.toNat, by omega⟩; have hi0 : i0 ≤ ws.length := (by omega)
      refine wpM.skip ?_
      refine QM.then ?_
      refine wpM.seq ?_
      refine wpM.region ?_
      refine LM.val (ov_move rfl) ?_
      refine LM.val (ov_move rfl) ?_
      refine LM.val (ov_build (cs := #[_, _, _]) rfl (by first | rfl | kernel_rfl)) ?_
      refine LM.box rfl rfl (fun b21 hb21 => ?_)
      refine LM.val (ov_assign rfl) ?_
      refine LM.nil ?_
      refine QM.sub (e' := [(4, _), (7, _)]) ⟨rfl, rfl, trivial⟩ ?_
      refine QM.then ?_
      refine wpM.seq ?_
      refine wpM.region ?_
      have hab21 : 0 < ws.length → adB ad ≠ b21 := (fun h0 => by have := hl.adlt h0; omega)
      refine LM.val (ov_move rfl) ?_
      refine LM.cW (oc_call (enters_fn Tryd.func58 (by kernel_rfl) rfl) rfl) (fun w hm hc hg => need_spec b21 i0 0 1 wProg w hn hx (hl.ext hc) hab21 (SubM.mem (by (repeat' (first | exact SubM.nil _ | refine SubM.cons rfl ?_ | refine SubM.app ?_))) w hm)) rfl (fun hlt => absurd hlt (by omega)) ?_
      refine LM.nil ?_
      refine QM.sub (e' := [(4, _), (7, _)]) ⟨rfl, rfl, trivial⟩ ?_
      refine QM.then ?_
      refine wpM.seq ?_
      refine wpM.region ?_
      refine LM.val (ov_move rfl) ?_
      refine LM.cW (oc_call (enters_fn Tryd.func59 (by kernel_rfl) rfl) rfl) (fun w hm hc hg => maybe_spec b21 (pA ws i0).1 (pA ws i0).2 1 wForever w hn hx (hl.ext hc) hab21 (SubM.mem (by (repeat' (first | exact SubM.nil _ | refine SubM.cons rfl ?_ | refine SubM.app ?_))) w hm)) rfl (fun hlt => absurd hlt (by omega)) ?_
      refine LM.val (ov_build (cs := #[_, _]) rfl (by first | rfl | kernel_rfl)) ?_
      refine LM.alloc Tryd.zeroValue53 rfl (fun b8 hb8 => ?_)
      first | refine LM.stW Tryd.sizeOf53 rfl rfl rfl rfl (by first | rfl | decide | (simp; done)) (fun hlt => absurd hlt (by omega)) ?_ | refine LM.st Tryd.sizeOf53 rfl rfl rfl (by first | decide | exact Nat.le_of_ble_eq_true rfl | (simp; done) | (simp; omega)) rfl (fun hlt => absurd hlt (by omega)) ?_
      refine LM.nil ?_
      refine QM.sub (e' := [(4, _), (7, _), (8, _)]) ⟨rfl, rfl, rfl, trivial⟩ ?_
      refine QM.then ?_
      refine wpM.seq ?_
      refine wpM.region ?_
      refine LM.val (ov_move rfl) ?_
      refine LM.cW (oc_call (enters_fn Tryd.func58 (by kernel_rfl) rfl) rfl) (fun w hm hc hg => need_spec b21 (pB1 ws i0) (pA ws i0).2 3 [123] w hn hx (hl.ext hc) hab21 (SubM.mem (by (repeat' (first | exact SubM.nil _ | refine SubM.cons rfl ?_ | refine SubM.app ?_))) w hm)) rfl (fun hlt => absurd hlt (by omega)) ?_
      refine LM.nil ?_
      refine QM.sub (e' := [(4, _), (7, _), (8, _)]) ⟨rfl, rfl, rfl, trivial⟩ ?_
      refine QM.then ?_
      refine wpM.seq ?_
      refine wpM.block ?_
      refine wpM.loopK0 (α := Nat × Int × List COp × Option Addr × Nat × Nat × Mem0) (fun ⟨i, e, ops, ado, no, capo, mo⟩ => []) [(4, _), (7, _), (8, _)] (fun ⟨i, e, ops, ado, no, capo, mo⟩ => mo ++ ((b8, .cells #[.bool (pFv ws i0), .slice ado no capo] 53 (0, 0)) :: rB b21 ad n cap i e :: (b4, .cells #[.bool false, .slice none 0 0] 53 (0, 0)) :: [])) (fun ⟨i, e, ops, ado, no, capo, mo⟩ => StI ws (bodyR ws i0) i e ops ∧ no = ops.length ∧ Sl fO 69 3 w.heap.size ops (.slice ado no capo) mo ∧ (e = 0 → ops.length ≤ i)) (fun ⟨i, e, ops, ado, no, capo, mo⟩ => measP ws.length i e) (((pC ws i0).1, (pC ws i0).2, [], none, 0, 0, [])) ⟨rfl, rfl, rfl, trivial⟩ (by (repeat' (first | exact SubM.nil _ | refine SubM.cons rfl ?_ | refine SubM.app ?_))) ⟨(start_inv (by omega)).1, rfl, .nil _ _ _ _, fun _ => Nat.zero_le _⟩ ?_
      rintro ⟨i, e, ops, ado, no, capo, mo⟩ ⟨hI, hno, hso, hol⟩
      change wpM _ _ _ _ _ _ _ (mo ++ ((b8, .cells #[.bool (pFv ws i0), .slice ado no capo] 53 (0, 0)) :: rB b21 ad n cap i e :: (b4, .cells #[.bool false, .slice none 0 0] 53 (0, 0)) :: [])) _ _ _
      have hile := hI.2.2
      refine wpM.seq ?_
      refine wpM.seq ?_
      refine wpM.region ?_
      refine LM.val (ov_move rfl) ?_
      refine LM.val (ov_nilCheck rfl) ?_
      refine LM.val (ov_field Tryd.underlying101 rfl Tryd.sizeOf25 rfl (k := 2) rfl rfl) ?_
      first | refine LM.rd (om_ld Tryd.isAgg25 rfl rfl) ?_
      refine LM.val (ov_eql rfl rfl) ?_
      refine LM.val (ov_move rfl) ?_
      first | refine LM.splitD (t := 34) rfl (fun h3 => ?_) (fun h3 => ?_) | refine LM.splitB (t := 34) rfl (fun h3 => ?_) (fun h3 => ?_)
      ·
        refine LM.strip (t := 34) rfl rfl rfl ?_
        refine LM.val (ov_move rfl) ?_
        refine LM.strip (t := 34) rfl rfl rfl ?_
        refine LM.callE (oc_call (enters_fn Tryd.func60 (by kernel_rfl) rfl) rfl) (fun w hm hc hg => is_spec b21 i e 3 [125] w hn (hl.ext hc) (SubM.mem (by (repeat' (first | exact SubM.nil _ | refine SubM.cons rfl ?_ | refine SubM.app ?_))) w hm)) ?_
        refine LM.strip (t := 34) rfl rfl rfl ?_
        first | refine LM.val (ov_notD rfl) ?_ | refine LM.val (ov_not rfl) ?_
        refine LM.val (ov_pickT rfl rfl) ?_
        refine LM.nil ?_
        refine QM.sub (e' := [(4, _), (7, _), (8, _), (38, _)]) ⟨rfl, rfl, rfl, rfl, trivial⟩ ?_
        refine QM.then ?_
        first | refine wpM.condD rfl (fun h4 => ?_) (fun h4 => ?_) | refine wpM.condB rfl (fun h4 => ?_) (fun h4 => ?_)
        ·
          refine wpM.skip ?_
          refine QM.then ?_
          refine wpM.block ?_
          refine wpM.keep ((b8, .cells #[.bool (pFv ws i0), .slice ado no capo] 53 (0, 0)) :: []) (fun _ => True) (.one 0 0 (.one 1 1 (.one 2 0 (.one 3 0 (.one 4 1 (.one 5 0 (.one 6 2 (.one 7 2 (.one 8 2 (.one 9 0 (.last 10))))))))))) (by kernel_rfl) (by kernel_rfl) (by (repeat' (first | exact SubM.nil _ | refine SubM.cons rfl ?_ | refine SubM.app ?_))) (fun _ _ => trivial) ?_
          refine KD.val rfl rfl (ov_field Tryd.underlying53 rfl Tryd.sizeOf51 rfl (k := 1) rfl rfl) ?_
          first | refine KD.rd rfl rfl (om_ld Tryd.isAgg51 rfl rfl) ?_
          refine KD.val rfl rfl (ov_move rfl) ?_
          refine KD.val rfl rfl (ov_field Tryd.underlying53 rfl Tryd.sizeOf51 rfl (k := 1) rfl rfl) ?_
          first | refine KD.rd rfl rfl (om_ld Tryd.isAgg51 rfl rfl) ?_
          refine KD.val rfl rfl (ov_len Tryd.underlying51 rfl) ?_
          refine KD.one rfl ?_
          rw [h3]
          refine LM.cW (oc_call (enters_fn Tryd.func61 (by kernel_rfl) rfl) rfl) (fun w hm hc hg => op_spec b21 i no w hn hx (hl.ext hc) hab21 (SubM.mem (by (repeat' (first | exact SubM.nil _ | refine SubM.cons rfl ?_ | refine SubM.app ?_))) w hm)) rfl (fun hlt => absurd hlt (by omega)) ?_
          refine LM.nil ?_
          refine QM.one (by (repeat' (first | exact SubM.nil _ | refine SubM.cons rfl ?_ | refine SubM.app ?_))) (fun _ _ => trivial) ?_
          refine KD.one rfl ?_
          refine LM.single Tryd.underlying51 Tryd.sizeOf69 Tryd.zeroValue69 rfl rfl rfl rfl rfl (fun b46 hb46 => ?_)
          refine LM.nil ?_
          refine QM.one (by (repeat' (first | exact SubM.nil _ | refine SubM.cons rfl ?_ | refine SubM.app ?_))) (fun _ _ => trivial) ?_
          refine KD.one rfl ?_
          refine LM.app (a := (opR ws i no).2.2) Tryd.underlying51 Tryd.typeInfo69 rfl rfl rfl rfl rfl rfl rfl (by assumption) (by rfl) (by intro _; rfl) (by intro _ u hu; simp [fO] at hu; (repeat (first | (rcases hu with rfl | hu) | subst hu | rfl))) (by first | exact Nat.le_refl _ | omega) (fun p hp hlt => absurd hlt (Nat.not_lt_of_le (Sl.ge (by assumption) p hp))) (by first | omega | (unfold maxLen; omega)) (by simp only [Tryd.t69]; omega) (fun ad47 n47 cap47 m47 hn47 hs47 hin47 => ?_)
          refine LM.nil ?_
          refine QM.one (by (repeat' (first | exact SubM.nil _ | refine SubM.cons rfl ?_ | refine SubM.app ?_))) (fun _ _ => trivial) ?_
          refine KD.val rfl rfl (ov_field Tryd.underlying53 rfl Tryd.sizeOf51 rfl (k := 1) rfl rfl) ?_
          refine KD.last rfl ?_
          refine LM.st Tryd.sizeOf51 rfl rfl rfl (by first | decide | exact Nat.le_of_ble_eq_true rfl | (simp; done) | (simp; omega)) rfl (fun hlt => absurd hlt (by omega)) ?_
          refine LM.nil ?_
          refine QM.qn ?_
          refine QM.sub (e' := [(4, _), (7, _), (8, _)]) ⟨rfl, rfl, rfl, trivial⟩ ?_
          refine QM.block_normal ?_
          -- again1: h1- h2- h3+ h4+
          have hn0 : isR ws i 3 [125] = false := (by rw [h3, isE_0] at h4; simpa using h4)
          refine QM.againK (((opR ws i no).1, (opR ws i no).2.1, ops ++ [(opR ws i no).2.2], ad47, n47, cap47, m47)) ⟨rfl, rfl, rfl, trivial⟩ (by (repeat' (first | exact SubM.nil _ | refine SubM.cons rfl ?_ | refine SubM.app ?_))) (fun _ h => h) ?_ ?_
          · refine ⟨?_, by rw [hn47]; simp, hs47, fun q => ?_⟩; (rw [hno]; exact StI.next (h3 ▸ hI) hn0); (have h8 := opR_lt q; have h9 := hol h3; simp; omega)
          · show measP _ _ _ < measP _ _ _; first | exact meas_lt hile | (rw [h3]; exact meas_lt hile)
        ·
          refine wpM.exit ?_
          refine QM.then_exit ?_
          refine QM.then_exit ?_
          refine QM.block_hit ?_
          refine QM.then ?_
          refine wpM.seq ?_
          refine wpM.seq ?_
          refine wpM.region ?_
          refine LM.val (ov_field Tryd.underlying53 rfl Tryd.sizeOf51 rfl (k := 1) rfl rfl) ?_
          first | refine LM.rd (om_ld Tryd.isAgg51 rfl rfl) ?_
          refine LM.val (ov_len Tryd.underlying51 rfl) ?_
          refine LM.val (ov_eql rfl rfl) ?_
          refine LM.nil ?_
          refine QM.sub (e' := [(4, _), (7, _), (8, _), (52, _)]) ⟨rfl, rfl, rfl, rfl, trivial⟩ ?_
          refine QM.then ?_
          first | refine wpM.condD rfl (fun h5 => ?_) (fun h5 => ?_) | refine wpM.condB rfl (fun h5 => ?_) (fun h5 => ?_)
          ·
            refine wpM.region ?_
            refine LM.val (ov_move rfl) ?_
            refine LM.cW (oc_call (enters_fn Tryd.func62 (by kernel_rfl) rfl) rfl) (fun w hm hc hg => fail_spec b21 (ad := ad) (n := n) (cap := cap) i e 4 w (SubM.mem (by (repeat' (first | exact SubM.nil _ | refine SubM.cons rfl ?_ | refine SubM.app ?_))) w hm)) rfl (fun hlt => absurd hlt (by omega)) ?_
            refine LM.nil ?_
            refine QM.sub (e' := [(4, _), (7, _), (8, _)]) ⟨rfl, rfl, rfl, trivial⟩ ?_
            refine QM.then ?_
            refine wpM.seq ?_
            refine wpM.seq ?_
            refine wpM.region ?_
            refine LM.val (ov_move rfl) ?_
            refine LM.val (ov_nilCheck rfl) ?_
            refine LM.val (ov_field Tryd.underlying101 rfl Tryd.sizeOf25 rfl (k := 2) rfl rfl) ?_
            first | refine LM.rd (om_ld Tryd.isAgg25 rfl rfl) ?_
            refine LM.val (ov_neq rfl rfl) ?_
            refine LM.nil ?_
            refine QM.sub (e' := [(4, _), (7, _), (8, _), (59, _)]) ⟨rfl, rfl, rfl, rfl, trivial⟩ ?_
            refine QM.then ?_
            first | refine wpM.condD rfl (fun h6 => ?_) (fun h6 => ?_) | refine wpM.condB rfl (fun h6 => ?_) (fun h6 => ?_)
            ·
              refine wpM.seq ?_
              refine wpM.keep ((b21, _) :: []) (fun _ => True) (.one 0 0 (.one 1 0 (.one 2 0 (.one 3 0 (.one 4 1 (.one 5 0 (.one 6 0 (.one 7 0 (.one 8 1 (.one 9 2 (.one 10 0 (.one 11 0 .nil)))))))))))) (by kernel_rfl) (by kernel_rfl) (by (repeat' (first | exact SubM.nil _ | refine SubM.cons rfl ?_ | refine SubM.app ?_))) (fun _ _ => trivial) ?_
              refine KD.val rfl rfl (ov_build (cs := #[_, _]) rfl (by first | rfl | kernel_rfl)) ?_
              refine KD.val rfl rfl (ov_move rfl) ?_
              refine KD.val rfl rfl (ov_nilCheck rfl) ?_
              refine KD.val rfl rfl (ov_field Tryd.underlying101 rfl Tryd.sizeOf3 rfl (k := 1) rfl rfl) ?_
              first | refine KD.rd rfl rfl (om_ld Tryd.isAgg3 rfl rfl) ?_
              refine KD.val rfl rfl (ov_move rfl) ?_
              refine KD.val rfl rfl (ov_nilCheck rfl) ?_
              refine KD.val rfl rfl (ov_field Tryd.underlying101 rfl Tryd.sizeOf25 rfl (k := 2) rfl rfl) ?_
              first | refine KD.rd rfl rfl (om_ld Tryd.isAgg25 rfl rfl) ?_
              refine KD.one rfl ?_
              first | refine LM.stW Tryd.sizeOf53 rfl rfl rfl rfl (by first | rfl | decide | (simp; done)) (fun hlt => absurd hlt (by omega)) ?_ | refine LM.st Tryd.sizeOf53 rfl rfl rfl (by first | decide | exact Nat.le_of_ble_eq_true rfl | (simp; done) | (simp; omega)) rfl (fun hlt => absurd hlt (by omega)) ?_
              refine LM.nil ?_
              refine QM.one (by (repeat' (first | exact SubM.nil _ | refine SubM.cons rfl ?_ | refine SubM.app ?_))) (fun _ _ => trivial) ?_
              refine KD.val rfl rfl (ov_assign rfl) ?_
              refine KD.val rfl rfl (ov_assign rfl) ?_
              refine KD.nil ?_
              refine QM.sub (e' := [(4, _), (5, _), (6, _)]) ⟨rfl, rfl, rfl, trivial⟩ ?_
              refine QM.then ?_
              refine wpM.ret ?_
              refine QM.then_ret ?_
              refine QM.leaveCs (ds := ([])) (.inl rfl) [.cell 4 53, .tmp 5, .tmp 6] Tryd.results26 hd_nil (rc_w rfl Tryd.isAgg53 Tryd.sizeOf53 rfl (rc_tmp rfl (rc_tmp rfl rc_nil))) ?_
              intro w' hm' hc'
              -- leaf 3: h1- h2- h3+ h4- h5+ h6+
              have hn0 : isR ws i 3 [125] = true := (by rw [h3, isE_0] at h4; simpa using h4); have hb := hI.1 h3; rw [loopR_done hn0, if_pos (by omega)] at hb; refine ⟨hc', [], ?_, Mem.nil _, fun p hp => by cases hp⟩; show ParT _ _ (.tuple #[.agg #[.bool false, .slice none 0 0], .int .i64 (i : Nat), .int .i64 (if e = 0 then 4 else e)]) []; rw [if_pos h3]; exact fin_bad hi0 hb.symm (by decide)
            ·
              refine wpM.skip ?_
              refine QM.then ?_
              refine wpM.seq ?_
              refine wpM.keep ((b21, _) :: (b8, _) :: []) (fun _ => True) (.one 0 1 (.one 1 0 (.one 2 0 (.one 3 0 (.one 4 1 (.one 5 0 (.one 6 2 (.one 7 0 (.one 8 0 .nil))))))))) (by kernel_rfl) (by kernel_rfl) (by (repeat' (first | exact SubM.nil _ | refine SubM.cons rfl ?_ | refine SubM.app ?_))) (fun _ _ => trivial) ?_
              first | refine KD.rd rfl rfl (om_ldW Tryd.isAgg53 Tryd.sizeOf53 rfl rfl) ?_ | refine KD.rd rfl rfl (om_ldA Tryd.isAgg53 Tryd.sizeOf53 rfl (vs := [_, _]) rfl ⟨rfl, rfl, trivial⟩) ?_
              refine KD.val rfl rfl (ov_move rfl) ?_
              refine KD.val rfl rfl (ov_nilCheck rfl) ?_
              refine KD.val rfl rfl (ov_field Tryd.underlying101 rfl Tryd.sizeOf3 rfl (k := 1) rfl rfl) ?_
              first | refine KD.rd rfl rfl (om_ld Tryd.isAgg3 rfl rfl) ?_
              refine KD.val rfl rfl (ov_add64 rfl rfl (by omega)) ?_
              refine KD.one rfl ?_
              first | refine LM.stW Tryd.sizeOf53 rfl rfl rfl rfl (by first | rfl | decide | (simp; done)) (fun hlt => absurd hlt (by omega)) ?_ | refine LM.st Tryd.sizeOf53 rfl rfl rfl (by first | decide | exact Nat.le_of_ble_eq_true rfl | (simp; done) | (simp; omega)) rfl (fun hlt => absurd hlt (by omega)) ?_
              refine LM.nil ?_
              refine QM.one (by (repeat' (first | exact SubM.nil _ | refine SubM.cons rfl ?_ | refine SubM.app ?_))) (fun _ _ => trivial) ?_
              refine KD.val rfl rfl (ov_assign rfl) ?_
              refine KD.val rfl rfl (ov_assign rfl) ?_
              refine KD.nil ?_
              refine QM.sub (e' := [(4, _), (5, _), (6, _)]) ⟨rfl, rfl, rfl, trivial⟩ ?_
              refine QM.then ?_
              refine wpM.ret ?_
              refine QM.leaveCs (ds := ([])) (.inl rfl) [.cell 4 53, .tmp 5, .tmp 6] Tryd.results26 hd_nil (rc_w rfl Tryd.isAgg53 Tryd.sizeOf53 rfl (rc_tmp rfl (rc_tmp rfl rc_nil))) ?_
              intro w' hm' hc'
              -- leaf 4: h1- h2- h3+ h4- h5+ h6-
              exact absurd h6 (by rw [if_pos h3]; decide)
          ·
            refine wpM.skip ?_
            refine QM.then ?_
            refine wpM.seq ?_
            refine wpM.seq ?_
            refine wpM.region ?_
            refine LM.val (ov_move rfl) ?_
            refine LM.val (ov_nilCheck rfl) ?_
            refine LM.val (ov_field Tryd.underlying101 rfl Tryd.sizeOf25 rfl (k := 2) rfl rfl) ?_
            first | refine LM.rd (om_ld Tryd.isAgg25 rfl rfl) ?_
            refine LM.val (ov_neq rfl rfl) ?_
            refine LM.nil ?_
            refine QM.sub (e' := [(4, _), (7, _), (8, _), (59, _)]) ⟨rfl, rfl, rfl, rfl, trivial⟩ ?_
            refine QM.then ?_
            first | refine wpM.condD rfl (fun h7 => ?_) (fun h7 => ?_) | refine wpM.condB rfl (fun h7 => ?_) (fun h7 => ?_)
            ·
              refine wpM.seq ?_
              refine wpM.keep ((b21, _) :: []) (fun _ => True) (.one 0 0 (.one 1 0 (.one 2 0 (.one 3 0 (.one 4 1 (.one 5 0 (.one 6 0 (.one 7 0 (.one 8 1 (.one 9 2 (.one 10 0 (.one 11 0 .nil)))))))))))) (by kernel_rfl) (by kernel_rfl) (by (repeat' (first | exact SubM.nil _ | refine SubM.cons rfl ?_ | refine SubM.app ?_))) (fun _ _ => trivial) ?_
              refine KD.val rfl rfl (ov_build (cs := #[_, _]) rfl (by first | rfl | kernel_rfl)) ?_
              refine KD.val rfl rfl (ov_move rfl) ?_
              refine KD.val rfl rfl (ov_nilCheck rfl) ?_
              refine KD.val rfl rfl (ov_field Tryd.underlying101 rfl Tryd.sizeOf3 rfl (k := 1) rfl rfl) ?_
              first | refine KD.rd rfl rfl (om_ld Tryd.isAgg3 rfl rfl) ?_
              refine KD.val rfl rfl (ov_move rfl) ?_
              refine KD.val rfl rfl (ov_nilCheck rfl) ?_
              refine KD.val rfl rfl (ov_field Tryd.underlying101 rfl Tryd.sizeOf25 rfl (k := 2) rfl rfl) ?_
              first | refine KD.rd rfl rfl (om_ld Tryd.isAgg25 rfl rfl) ?_
              refine KD.one rfl ?_
              first | refine LM.stW Tryd.sizeOf53 rfl rfl rfl rfl (by first | rfl | decide | (simp; done)) (fun hlt => absurd hlt (by omega)) ?_ | refine LM.st Tryd.sizeOf53 rfl rfl rfl (by first | decide | exact Nat.le_of_ble_eq_true rfl | (simp; done) | (simp; omega)) rfl (fun hlt => absurd hlt (by omega)) ?_
              refine LM.nil ?_
              refine QM.one (by (repeat' (first | exact SubM.nil _ | refine SubM.cons rfl ?_ | refine SubM.app ?_))) (fun _ _ => trivial) ?_
              refine KD.val rfl rfl (ov_assign rfl) ?_
              refine KD.val rfl rfl (ov_assign rfl) ?_
              refine KD.nil ?_
              refine QM.sub (e' := [(4, _), (5, _), (6, _)]) ⟨rfl, rfl, rfl, trivial⟩ ?_
              refine QM.then ?_
              refine wpM.ret ?_
              refine QM.then_ret ?_
              refine QM.leaveCs (ds := ([])) (.inl rfl) [.cell 4 53, .tmp 5, .tmp 6] Tryd.results26 hd_nil (rc_w rfl Tryd.isAgg53 Tryd.sizeOf53 rfl (rc_tmp rfl (rc_tmp rfl rc_nil))) ?_
              intro w' hm' hc'
              -- leaf 5: h1- h2- h3+ h4- h5- h7+
              exact absurd h3 h7
            ·
              refine wpM.skip ?_
              refine QM.then ?_
              refine wpM.seq ?_
              refine wpM.keep ((b21, _) :: (b8, _) :: []) (fun _ => True) (.one 0 1 (.one 1 0 (.one 2 0 (.one 3 0 (.one 4 1 (.one 5 0 (.one 6 2 (.one 7 0 (.one 8 0 .nil))))))))) (by kernel_rfl) (by kernel_rfl) (by (repeat' (first | exact SubM.nil _ | refine SubM.cons rfl ?_ | refine SubM.app ?_))) (fun _ _ => trivial) ?_
              first | refine KD.rd rfl rfl (om_ldW Tryd.isAgg53 Tryd.sizeOf53 rfl rfl) ?_ | refine KD.rd rfl rfl (om_ldA Tryd.isAgg53 Tryd.sizeOf53 rfl (vs := [_, _]) rfl ⟨rfl, rfl, trivial⟩) ?_
              refine KD.val rfl rfl (ov_move rfl) ?_
              refine KD.val rfl rfl (ov_nilCheck rfl) ?_
              refine KD.val rfl rfl (ov_field Tryd.underlying101 rfl Tryd.sizeOf3 rfl (k := 1) rfl rfl) ?_
              first | refine KD.rd rfl rfl (om_ld Tryd.isAgg3 rfl rfl) ?_
              refine KD.val rfl rfl (ov_add64 rfl rfl (by omega)) ?_
              refine KD.one rfl ?_
              first | refine LM.stW Tryd.sizeOf53 rfl rfl rfl rfl (by first | rfl | decide | (simp; done)) (fun hlt => absurd hlt (by omega)) ?_ | refine LM.st Tryd.sizeOf53 rfl rfl rfl (by first | decide | exact Nat.le_of_ble_eq_true rfl | (simp; done) | (simp; omega)) rfl (fun hlt => absurd hlt (by omega)) ?_
              refine LM.nil ?_
              refine QM.one (by (repeat' (first | exact SubM.nil _ | refine SubM.cons rfl ?_ | refine SubM.app ?_))) (fun _ _ => trivial) ?_
              refine KD.val rfl rfl (ov_assign rfl) ?_
              refine KD.val rfl rfl (ov_assign rfl) ?_
              refine KD.nil ?_
              refine QM.sub (e' := [(4, _), (5, _), (6, _)]) ⟨rfl, rfl, rfl, trivial⟩ ?_
              refine QM.then ?_
              refine wpM.ret ?_
              refine QM.leaveCs (ds := ([])) (.inl rfl) [.cell 4 53, .tmp 5, .tmp 6] Tryd.results26 hd_nil (rc_w rfl Tryd.isAgg53 Tryd.sizeOf53 rfl (rc_tmp rfl (rc_tmp rfl rc_nil))) ?_
              intro w' hm' hc'
              -- leaf 6: h1- h2- h3+ h4- h5- h7-
              have hn0 : isR ws i 3 [125] = true := (by rw [h3, isE_0] at h4; simpa using h4); have hb := hI.1 h3; rw [loopR_done hn0, if_neg (by omega)] at hb; exact ⟨hc', mo, fin_ok hi0 hb.symm hno hso, hm'.pick mo, fun p hp => Sl.ge hso p hp⟩
      ·
        refine LM.drop (t := 34) rfl rfl rfl ?_
        refine LM.drop (t := 34) rfl rfl rfl ?_
        refine LM.drop (t := 34) rfl rfl rfl ?_
        refine LM.val (ov_pickF rfl rfl) ?_
        refine LM.nil ?_
        refine QM.sub (e' := [(4, _), (7, _), (8, _), (38, _)]) ⟨rfl, rfl, rfl, rfl, trivial⟩ ?_
        refine QM.then ?_
        refine wpM.condF rfl ?_
        refine wpM.exit ?_
        refine QM.then_exit ?_
        refine QM.then_exit ?_
        refine QM.block_hit ?_
        refine QM.then ?_
        refine wpM.seq ?_
        refine wpM.seq ?_
        refine wpM.region ?_
        refine LM.val (ov_field Tryd.underlying53 rfl Tryd.sizeOf51 rfl (k := 1) rfl rfl) ?_
        first | refine LM.rd (om_ld Tryd.isAgg51 rfl rfl) ?_
        refine LM.val (ov_len Tryd.underlying51 rfl) ?_
        refine LM.val (ov_eql rfl rfl) ?_
        refine LM.nil ?_
        refine QM.sub (e' := [(4, _), (7, _), (8, _), (52, _)]) ⟨rfl, rfl, rfl, rfl, trivial⟩ ?_
        refine QM.then ?_
        first | refine wpM.condD rfl (fun h8 => ?_) (fun h8 => ?_) | refine wpM.condB rfl (fun h8 => ?_) (fun h8 => ?_)
        ·
          refine wpM.region ?_
          refine LM.val (ov_move rfl) ?_
          refine LM.cW (oc_call (enters_fn Tryd.func62 (by kernel_rfl) rfl) rfl) (fun w hm hc hg => fail_spec b21 (ad := ad) (n := n) (cap := cap) i e 4 w (SubM.mem (by (repeat' (first | exact SubM.nil _ | refine SubM.cons rfl ?_ | refine SubM.app ?_))) w hm)) rfl (fun hlt => absurd hlt (by omega)) ?_
          refine LM.nil ?_
          refine QM.sub (e' := [(4, _), (7, _), (8, _)]) ⟨rfl, rfl, rfl, trivial⟩ ?_
          refine QM.then ?_
          refine wpM.seq ?_
          refine wpM.seq ?_
          refine wpM.region ?_
          refine LM.val (ov_move rfl) ?_
          refine LM.val (ov_nilCheck rfl) ?_
          refine LM.val (ov_field Tryd.underlying101 rfl Tryd.sizeOf25 rfl (k := 2) rfl rfl) ?_
          first | refine LM.rd (om_ld Tryd.isAgg25 rfl rfl) ?_
          refine LM.val (ov_neq rfl rfl) ?_
          refine LM.nil ?_
          refine QM.sub (e' := [(4, _), (7, _), (8, _), (59, _)]) ⟨rfl, rfl, rfl, rfl, trivial⟩ ?_
          refine QM.then ?_
          first | refine wpM.condD rfl (fun h9 => ?_) (fun h9 => ?_) | refine wpM.condB rfl (fun h9 => ?_) (fun h9 => ?_)
          ·
            refine wpM.seq ?_
            refine wpM.keep ((b21, _) :: []) (fun _ => True) (.one 0 0 (.one 1 0 (.one 2 0 (.one 3 0 (.one 4 1 (.one 5 0 (.one 6 0 (.one 7 0 (.one 8 1 (.one 9 2 (.one 10 0 (.one 11 0 .nil)))))))))))) (by kernel_rfl) (by kernel_rfl) (by (repeat' (first | exact SubM.nil _ | refine SubM.cons rfl ?_ | refine SubM.app ?_))) (fun _ _ => trivial) ?_
            refine KD.val rfl rfl (ov_build (cs := #[_, _]) rfl (by first | rfl | kernel_rfl)) ?_
            refine KD.val rfl rfl (ov_move rfl) ?_
            refine KD.val rfl rfl (ov_nilCheck rfl) ?_
            refine KD.val rfl rfl (ov_field Tryd.underlying101 rfl Tryd.sizeOf3 rfl (k := 1) rfl rfl) ?_
            first | refine KD.rd rfl rfl (om_ld Tryd.isAgg3 rfl rfl) ?_
            refine KD.val rfl rfl (ov_move rfl) ?_
            refine KD.val rfl rfl (ov_nilCheck rfl) ?_
            refine KD.val rfl rfl (ov_field Tryd.underlying101 rfl Tryd.sizeOf25 rfl (k := 2) rfl rfl) ?_
            first | refine KD.rd rfl rfl (om_ld Tryd.isAgg25 rfl rfl) ?_
            refine KD.one rfl ?_
            first | refine LM.stW Tryd.sizeOf53 rfl rfl rfl rfl (by first | rfl | decide | (simp; done)) (fun hlt => absurd hlt (by omega)) ?_ | refine LM.st Tryd.sizeOf53 rfl rfl rfl (by first | decide | exact Nat.le_of_ble_eq_true rfl | (simp; done) | (simp; omega)) rfl (fun hlt => absurd hlt (by omega)) ?_
            refine LM.nil ?_
            refine QM.one (by (repeat' (first | exact SubM.nil _ | refine SubM.cons rfl ?_ | refine SubM.app ?_))) (fun _ _ => trivial) ?_
            refine KD.val rfl rfl (ov_assign rfl) ?_
            refine KD.val rfl rfl (ov_assign rfl) ?_
            refine KD.nil ?_
            refine QM.sub (e' := [(4, _), (5, _), (6, _)]) ⟨rfl, rfl, rfl, trivial⟩ ?_
            refine QM.then ?_
            refine wpM.ret ?_
            refine QM.then_ret ?_
            refine QM.leaveCs (ds := ([])) (.inl rfl) [.cell 4 53, .tmp 5, .tmp 6] Tryd.results26 hd_nil (rc_w rfl Tryd.isAgg53 Tryd.sizeOf53 rfl (rc_tmp rfl (rc_tmp rfl rc_nil))) ?_
            intro w' hm' hc'
            -- leaf 7: h1- h2- h3- h8+ h9+
            refine ⟨hc', [], ?_, Mem.nil _, fun p hp => by cases hp⟩; show ParT _ _ (.tuple #[.agg #[.bool false, .slice none 0 0], .int .i64 (i : Nat), .int .i64 (if e = 0 then 4 else e)]) []; rw [if_neg h3]; exact fin_bad hi0 (hI.2.1 h3) h3
          ·
            refine wpM.skip ?_
            refine QM.then ?_
            refine wpM.seq ?_
            refine wpM.keep ((b21, _) :: (b8, _) :: []) (fun _ => True) (.one 0 1 (.one 1 0 (.one 2 0 (.one 3 0 (.one 4 1 (.one 5 0 (.one 6 2 (.one 7 0 (.one 8 0 .nil))))))))) (by kernel_rfl) (by kernel_rfl) (by (repeat' (first | exact SubM.nil _ | refine SubM.cons rfl ?_ | refine SubM.app ?_))) (fun _ _ => trivial) ?_
            first | refine KD.rd rfl rfl (om_ldW Tryd.isAgg53 Tryd.sizeOf53 rfl rfl) ?_ | refine KD.rd rfl rfl (om_ldA Tryd.isAgg53 Tryd.sizeOf53 rfl (vs := [_, _]) rfl ⟨rfl, rfl, trivial⟩) ?_
            refine KD.val rfl rfl (ov_move rfl) ?_
            refine KD.val rfl rfl (ov_nilCheck rfl) ?_
            refine KD.val rfl rfl (ov_field Tryd.underlying101 rfl Tryd.sizeOf3 rfl (k := 1) rfl rfl) ?_
            first | refine KD.rd rfl rfl (om_ld Tryd.isAgg3 rfl rfl) ?_
            refine KD.val rfl rfl (ov_add64 rfl rfl (by omega)) ?_
            refine KD.one rfl ?_
            first | refine LM.stW Tryd.sizeOf53 rfl rfl rfl rfl (by first | rfl | decide | (simp; done)) (fun hlt => absurd hlt (by omega)) ?_ | refine LM.st Tryd.sizeOf53 rfl rfl rfl (by first | decide | exact Nat.le_of_ble_eq_true rfl | (simp; done) | (simp; omega)) rfl (fun hlt => absurd hlt (by omega)) ?_
            refine LM.nil ?_
            refine QM.one (by (repeat' (first | exact SubM.nil _ | refine SubM.cons rfl ?_ | refine SubM.app ?_))) (fun _ _ => trivial) ?_
            refine KD.val rfl rfl (ov_assign rfl) ?_
            refine KD.val rfl rfl (ov_assign rfl) ?_
            refine KD.nil ?_
            refine QM.sub (e' := [(4, _), (5, _), (6, _)]) ⟨rfl, rfl, rfl, trivial⟩ ?_
            refine QM.then ?_
            refine wpM.ret ?_
            refine QM.leaveCs (ds := ([])) (.inl rfl) [.cell 4 53, .tmp 5, .tmp 6] Tryd.results26 hd_nil (rc_w rfl Tryd.isAgg53 Tryd.sizeOf53 rfl (rc_tmp rfl (rc_tmp rfl rc_nil))) ?_
            intro w' hm' hc'
            -- leaf 8: h1- h2- h3- h8+ h9-
            exact absurd h9 (by rw [if_neg h3]; exact fun q => q h3)
        ·
          refine wpM.skip ?_
          refine QM.then ?_
          refine wpM.seq ?_
          refine wpM.seq ?_
          refine wpM.region ?_
          refine LM.val (ov_move rfl) ?_
          refine LM.val (ov_nilCheck rfl) ?_
          refine LM.val (ov_field Tryd.underlying101 rfl Tryd.sizeOf25 rfl (k := 2) rfl rfl) ?_
          first | refine LM.rd (om_ld Tryd.isAgg25 rfl rfl) ?_
          refine LM.val (ov_neq rfl rfl) ?_
          refine LM.nil ?_
          refine QM.sub (e' := [(4, _), (7, _), (8, _), (59, _)]) ⟨rfl, rfl, rfl, rfl, trivial⟩ ?_
          refine QM.then ?_
          first | refine wpM.condD rfl (fun h10 => ?_) (fun h10 => ?_) | refine wpM.condB rfl (fun h10 => ?_) (fun h10 => ?_)
          ·
            refine wpM.seq ?_
            refine wpM.keep ((b21, _) :: []) (fun _ => True) (.one 0 0 (.one 1 0 (.one 2 0 (.one 3 0 (.one 4 1 (.one 5 0 (.one 6 0 (.one 7 0 (.one 8 1 (.one 9 2 (.one 10 0 (.one 11 0 .nil)))))))))))) (by kernel_rfl) (by kernel_rfl) (by (repeat' (first | exact SubM.nil _ | refine SubM.cons rfl ?_ | refine SubM.app ?_))) (fun _ _ => trivial) ?_
            refine KD.val rfl rfl (ov_build (cs := #[_, _]) rfl (by first | rfl | kernel_rfl)) ?_
            refine KD.val rfl rfl (ov_move rfl) ?_
            refine KD.val rfl rfl (ov_nilCheck rfl) ?_
            refine KD.val rfl rfl (ov_field Tryd.underlying101 rfl Tryd.sizeOf3 rfl (k := 1) rfl rfl) ?_
            first | refine KD.rd rfl rfl (om_ld Tryd.isAgg3 rfl rfl) ?_
            refine KD.val rfl rfl (ov_move rfl) ?_
            refine KD.val rfl rfl (ov_nilCheck rfl) ?_
            refine KD.val rfl rfl (ov_field Tryd.underlying101 rfl Tryd.sizeOf25 rfl (k := 2) rfl rfl) ?_
            first | refine KD.rd rfl rfl (om_ld Tryd.isAgg25 rfl rfl) ?_
            refine KD.one rfl ?_
            first | refine LM.stW Tryd.sizeOf53 rfl rfl rfl rfl (by first | rfl | decide | (simp; done)) (fun hlt => absurd hlt (by omega)) ?_ | refine LM.st Tryd.sizeOf53 rfl rfl rfl (by first | decide | exact Nat.le_of_ble_eq_true rfl | (simp; done) | (simp; omega)) rfl (fun hlt => absurd hlt (by omega)) ?_
            refine LM.nil ?_
            refine QM.one (by (repeat' (first | exact SubM.nil _ | refine SubM.cons rfl ?_ | refine SubM.app ?_))) (fun _ _ => trivial) ?_
            refine KD.val rfl rfl (ov_assign rfl) ?_
            refine KD.val rfl rfl (ov_assign rfl) ?_
            refine KD.nil ?_
            refine QM.sub (e' := [(4, _), (5, _), (6, _)]) ⟨rfl, rfl, rfl, trivial⟩ ?_
            refine QM.then ?_
            refine wpM.ret ?_
            refine QM.then_ret ?_
            refine QM.leaveCs (ds := ([])) (.inl rfl) [.cell 4 53, .tmp 5, .tmp 6] Tryd.results26 hd_nil (rc_w rfl Tryd.isAgg53 Tryd.sizeOf53 rfl (rc_tmp rfl (rc_tmp rfl rc_nil))) ?_
            intro w' hm' hc'
            -- leaf 9: h1- h2- h3- h8- h10+
            exact ⟨hc', [], fin_bad hi0 (hI.2.1 h3) h3, Mem.nil _, fun p hp => by cases hp⟩
          ·
            refine wpM.skip ?_
            refine QM.then ?_
            refine wpM.seq ?_
            refine wpM.keep ((b21, _) :: (b8, _) :: []) (fun _ => True) (.one 0 1 (.one 1 0 (.one 2 0 (.one 3 0 (.one 4 1 (.one 5 0 (.one 6 2 (.one 7 0 (.one 8 0 .nil))))))))) (by kernel_rfl) (by kernel_rfl) (by (repeat' (first | exact SubM.nil _ | refine SubM.cons rfl ?_ | refine SubM.app ?_))) (fun _ _ => trivial) ?_
            first | refine KD.rd rfl rfl (om_ldW Tryd.isAgg53 Tryd.sizeOf53 rfl rfl) ?_ | refine KD.rd rfl rfl (om_ldA Tryd.isAgg53 Tryd.sizeOf53 rfl (vs := [_, _]) rfl ⟨rfl, rfl, trivial⟩) ?_
            refine KD.val rfl rfl (ov_move rfl) ?_
            refine KD.val rfl rfl (ov_nilCheck rfl) ?_
            refine KD.val rfl rfl (ov_field Tryd.underlying101 rfl Tryd.sizeOf3 rfl (k := 1) rfl rfl) ?_
            first | refine KD.rd rfl rfl (om_ld Tryd.isAgg3 rfl rfl) ?_
            refine KD.val rfl rfl (ov_add64 rfl rfl (by omega)) ?_
            refine KD.one rfl ?_
            first | refine LM.stW Tryd.sizeOf53 rfl rfl rfl rfl (by first | rfl | decide | (simp; done)) (fun hlt => absurd hlt (by omega)) ?_ | refine LM.st Tryd.sizeOf53 rfl rfl rfl (by first | decide | exact Nat.le_of_ble_eq_true rfl | (simp; done) | (simp; omega)) rfl (fun hlt => absurd hlt (by omega)) ?_
            refine LM.nil ?_
            refine QM.one (by (repeat' (first | exact SubM.nil _ | refine SubM.cons rfl ?_ | refine SubM.app ?_))) (fun _ _ => trivial) ?_
            refine KD.val rfl rfl (ov_assign rfl) ?_
            refine KD.val rfl rfl (ov_assign rfl) ?_
            refine KD.nil ?_
            refine QM.sub (e' := [(4, _), (5, _), (6, _)]) ⟨rfl, rfl, rfl, trivial⟩ ?_
            refine QM.then ?_
            refine wpM.ret ?_
            refine QM.leaveCs (ds := ([])) (.inl rfl) [.cell 4 53, .tmp 5, .tmp 6] Tryd.results26 hd_nil (rc_w rfl Tryd.isAgg53 Tryd.sizeOf53 rfl (rc_tmp rfl (rc_tmp rfl rc_nil))) ?_
            intro w' hm' hc'
            -- leaf 10: h1- h2- h3- h8- h10-
            exact absurd h3 h10

end Go.Eng

