/- The walks of the text of words: joined. No condition. -/
import Derived.Test.YtbndlommbpkijaaDoorLay
import Derived.Test.YtbndlommbpkijaaDoorEng14
import Derived.Test.YtbndlommbpkijaaDoorTextLaw
import Derived.Test.YtbndlommbpkijaaDoorWordsB
set_option linter.unusedVariables false
set_option linter.unusedSimpArgs false
namespace Go.Eng
open Go Go.Proofs Go.RowKit

def Tb (w : World) : Prop := Lib.TabIs Tryd.prog w "internal/strconv.uint64pow10" .u64 Lib.pow10Tab
theorem Tb.ext {w w' : World} (h : Tb w) (k : Ext w w') : Tb w' := by
  unfold Tb Lib.TabIs World.var? at h ⊢
  cases hg : Tryd.prog.globalNamed "internal/strconv.uint64pow10" with
  | none => rw [hg] at h; cases h
  | some g =>
    rw [hg] at h
    simp only [Option.bind_some] at h ⊢
    cases ho : w.heap[g]? with
    | none => rw [ho] at h; cases h
    | some o => rw [ho] at h; rw [k.get ho]; exact h
theorem itoa_ret {n : Int} (h0 : 0 ≤ n) (h1 : n ≤ 999999999) (w : World) (hT : Tb w) : Ret Tryd.prog 49 #[.int .i64 n] w (fun v w' => v = vS (digF 10 n.toNat) ∧ Ext w w') :=
  (Any.strconv_Itoa lm171 n (by omega) (by omega) w hT).mono (fun e w' ⟨he, k, os, hw⟩ => ⟨_, he, by rw [itoa_digF h0 h1], by rw [hw]; exact Ext.of_below (Lib.below_grow _ w (Nat.le_refl _) k os)⟩)
theorem trim_ret (t : List UInt8) (hx : t.length ≤ 9223372036854775807) (w : World) : Ret Tryd.prog 114 #[vS t, vS lettersL] w (fun v w' => v = vS (Lib.trimS t lettersL) ∧ Ext w w') :=
  (Any.strings_Trim_laid l160 l160set (bs t) (bs lettersL) w (by rw [bs_size]; exact hx) (by decide) (ascii_of_all (by decide))).mono (fun e w' ⟨he, hb⟩ => ⟨_, he, rfl, Ext.of_below hb⟩)
theorem contains_ret {t : List UInt8} (h1 : t.length = 1) (w : World) : Ret Tryd.prog 115 #[vS marksL, vS t] w (fun v w' => v = .bool (t.all markB) ∧ Ext w w') := by
  match t, h1 with
  | [c], _ =>
    exact (Any.strings_Contains_one l144 (bs marksL) c w).mono (fun e w' ⟨he, hw⟩ => ⟨_, he, by
      show Value.bool (decide (0 ≤ Lib.indexByte marksL c)) = _
      rw [marks_mark]; simp, by rw [hw]; exact Chg.refl _ _⟩)
abbrev BldI (n0 b : Nat) (s : List UInt8) (w : World) : Prop := Lib.IsBuilderF 91 5 n0 b (Lib.byteCells s) w
theorem blen_ret {n0 b : Nat} {s : List UInt8} {w : World} (h : BldI n0 b s w) : Ret Tryd.prog 79 #[.pointer (some ⟨b, 0, none⟩)] w (fun v w' => v = .int .i64 (s.length : Nat) ∧ Ext w w') :=
  (Any.Builder_Len_f l170 n0 b (Lib.byteCells s) w h).mono (fun e w' ⟨he, hw⟩ => ⟨_, he, by rw [Lib.byteCells_length], by rw [hw]; exact Chg.refl _ _⟩)
theorem bc_app (s t : List UInt8) : Lib.byteCells (s ++ t) = Lib.byteCells s ++ Lib.strCells (bs t) := by simp [Lib.byteCells, Lib.strCells]
theorem bc_snoc (s : List UInt8) (c : UInt8) : Lib.byteCells (s ++ [c]) = Lib.byteCells s ++ [.int .u8 (c.toNat : Nat)] := by simp [Lib.byteCells]
theorem bbyte_ret {n0 b : Nat} {s : List UInt8} (c : UInt8) {w : World} (h : BldI n0 b s w) (hsz : n0 ≤ w.heap.size) (hl : s.length ≤ 100000000000) : Calls Tryd.prog 80 #[.pointer (some ⟨b, 0, none⟩), .int .u8 (c.toNat : Nat)] w (fun en w' => en = .returned .nilIface ∧ (BldI n0 b (s ++ [c]) w' ∧ Below n0 w w' ∧ Lib.OthersKept 5 (some b) w w')) :=
  (Any.Builder_WriteByte_k l167 bx n0 b (Lib.byteCells s) (c.toNat : Nat) w h (by rw [Lib.byteCells_length]; omega) hsz).mono (fun e w' ⟨he, h1, h2, h3⟩ => ⟨he, .inr (bc_snoc s c ▸ h1), h2, h3⟩)
theorem bstr_ret {n0 b : Nat} {s : List UInt8} (t : List UInt8) {w : World} (h : BldI n0 b s w) (hsz : n0 ≤ w.heap.size) (hl : s.length + t.length ≤ 100000000000) : Calls Tryd.prog 47 #[.pointer (some ⟨b, 0, none⟩), vS t] w (fun en w' => en = .returned (.tuple #[.int .i64 (t.length : Nat), .nilIface]) ∧ (BldI n0 b (s ++ t) w' ∧ Below n0 w w' ∧ Lib.OthersKept 5 (some b) w w')) :=
  (Any.Builder_WriteString_k l166 bx n0 b (Lib.byteCells s) (bs t) w h (by rw [Lib.byteCells_length, bs_size]; omega) hsz).mono (fun e w' ⟨he, h1, h2, h3⟩ => ⟨by rw [he, bs_size], .inr (bc_app s t ▸ h1), h2, h3⟩)
theorem bget_ret {n0 b : Nat} {s : List UInt8} {w : World} (h : BldI n0 b s w) (hsz : n0 ≤ w.heap.size) : Calls Tryd.prog 48 #[.pointer (some ⟨b, 0, none⟩)] w (fun en w' => en = .returned (vS s) ∧ (BldI n0 b s w' ∧ Below n0 w w' ∧ Lib.OthersKept 5 (some b) w w')) :=
  (Any.Builder_String_any_k l169 bx n0 b s w h hsz).mono (fun e w' ⟨he, h1, h2, h3⟩ => ⟨he, h1, h2, h3⟩)
theorem isNum_rng {x : Wrd} (h : isNum x = true) : 0 ≤ x.n ∧ x.n ≤ 999999999 := by
  unfold isNum at h; simp only [Bool.and_eq_true, decide_eq_true_eq] at h; exact ⟨h.1.2, h.2⟩
set_option maxRecDepth 100000 in
set_option maxHeartbeats 1000000 in
theorem text_spec (x : Wrd) (w : World) (hx : x.t.length ≤ 9223372036854775807) (hT : Tb w) : Ret Tryd.prog 78 #[.agg (fW x).toArray] w (fun v w' => v = .tuple #[vS (textO x).1, .int .i64 (textO x).2] ∧ Ext w w') := by
 refine Ret.enterM (l := [.agg (fW x).toArray]) Tryd.func78 rfl Tryd.ntmps78 rfl ([]) (no) (Mem.nil w) ?_
 refine wpM.seq ?_
 refine wpM.region ?_
 refine LM.box rfl rfl (fun b1 hb1 => ?_)
 refine LM.val (ov_assign rfl) ?_
 refine LM.val (ov_assign rfl) ?_
 refine LM.nil ?_
 refine QM.sub (e' := [(1, _)]) ⟨rfl, trivial⟩ ?_
 refine QM.then ?_
 refine wpM.seq ?_
 refine wpM.block ?_
 refine wpM.seq ?_
 refine wpM.joinK (α := Bool) (fun qa => [(4, .bool qa)]) [(1, _)] (fun qa => (b1, .cells (fW x).toArray 80 (0, 0)) :: []) (fun qa => qa = isNum x) ⟨rfl, trivial⟩ ?_ ?_
 ·
  refine wpM.region ?_
  refine LM.val (ov_field Tryd.underlying80 rfl Tryd.sizeOf3 rfl (k := 0) rfl rfl) ?_
  first | refine LM.rd (om_ld Tryd.isAgg3 rfl rfl) ?_
  refine LM.val (ov_eql rfl rfl) ?_
  refine LM.val (ov_move rfl) ?_
  first | refine LM.splitD (t := 8) rfl (fun h1 => ?_) (fun h1 => ?_) | refine LM.splitB (t := 8) rfl (fun h1 => ?_) (fun h1 => ?_)
  ·
   refine LM.strip (t := 8) rfl rfl rfl ?_
   refine LM.val (ov_field Tryd.underlying80 rfl Tryd.sizeOf9 rfl (k := 1) rfl rfl) ?_
   refine LM.strip (t := 8) rfl rfl rfl ?_
   first | refine LM.rd (om_ld Tryd.isAgg9 rfl rfl) ?_
   refine LM.strip (t := 8) rfl rfl rfl ?_
   refine LM.val (ov_seqlL rfl rfl) ?_
   refine LM.val (ov_pickT rfl rfl) ?_
   refine LM.val (ov_move rfl) ?_
   first | refine LM.splitD (t := 13) rfl (fun h2 => ?_) (fun h2 => ?_) | refine LM.splitB (t := 13) rfl (fun h2 => ?_) (fun h2 => ?_)
   ·
    refine LM.strip (t := 13) rfl rfl rfl ?_
    refine LM.val (ov_field Tryd.underlying80 rfl Tryd.sizeOf3 rfl (k := 2) rfl rfl) ?_
    refine LM.strip (t := 13) rfl rfl rfl ?_
    first | refine LM.rd (om_ld Tryd.isAgg3 rfl rfl) ?_
    refine LM.strip (t := 13) rfl rfl rfl ?_
    refine LM.val (ov_geq rfl rfl) ?_
    refine LM.val (ov_pickT rfl rfl) ?_
    refine LM.val (ov_move rfl) ?_
    first | refine LM.splitD (t := 18) rfl (fun h3 => ?_) (fun h3 => ?_) | refine LM.splitB (t := 18) rfl (fun h3 => ?_) (fun h3 => ?_)
    ·
     refine LM.strip (t := 18) rfl rfl rfl ?_
     refine LM.val (ov_field Tryd.underlying80 rfl Tryd.sizeOf3 rfl (k := 2) rfl rfl) ?_
     refine LM.strip (t := 18) rfl rfl rfl ?_
     first | refine LM.rd (om_ld Tryd.isAgg3 rfl rfl) ?_
     refine LM.strip (t := 18) rfl rfl rfl ?_
     refine LM.val (ov_leq rfl rfl) ?_
     refine LM.val (ov_pickT rfl rfl) ?_
     refine LM.val (ov_assign rfl) ?_
     refine LM.nil ?_
     refine QM.sub (e' := [(1, _), (4, _)]) ⟨rfl, rfl, trivial⟩ ?_
     refine QM.meetK (_) ⟨(by first | rfl | exact lk rfl (by congr 1; omega) | exact lk rfl (by simp)), rfl, trivial⟩ (by (repeat' (first | exact SubM.nil _ | refine SubM.cons rfl ?_ | refine SubM.app ?_))) ?_
     · unfold isNum; first | (simp only [h1, h2, h3, decide_true, decide_false, Bool.true_and, Bool.false_and, Bool.and_true, Bool.and_false, Bool.not_true, Bool.not_false, Bool.true_or, Bool.false_or, Bool.or_true, Bool.or_false, ne_eq, not_true_eq_false, not_false_eq_true, Bool.and_self]; done) | (simp only [h1, h2, h3, decide_true, decide_false, Bool.true_and, Bool.false_and, Bool.and_true, Bool.and_false, Bool.not_true, Bool.not_false, Bool.true_or, Bool.false_or, Bool.or_true, Bool.or_false, ne_eq, not_true_eq_false, not_false_eq_true, Bool.and_self]; rfl)
    ·
     refine LM.drop (t := 18) rfl rfl rfl ?_
     refine LM.drop (t := 18) rfl rfl rfl ?_
     refine LM.drop (t := 18) rfl rfl rfl ?_
     refine LM.val (ov_pickF rfl rfl) ?_
     refine LM.val (ov_assign rfl) ?_
     refine LM.nil ?_
     refine QM.sub (e' := [(1, _), (4, _)]) ⟨rfl, rfl, trivial⟩ ?_
     refine QM.meetK (_) ⟨(by first | rfl | exact lk rfl (by congr 1; omega) | exact lk rfl (by simp)), rfl, trivial⟩ (by (repeat' (first | exact SubM.nil _ | refine SubM.cons rfl ?_ | refine SubM.app ?_))) ?_
     · unfold isNum; first | (simp only [h1, h2, h3, decide_true, decide_false, Bool.true_and, Bool.false_and, Bool.and_true, Bool.and_false, Bool.not_true, Bool.not_false, Bool.true_or, Bool.false_or, Bool.or_true, Bool.or_false, ne_eq, not_true_eq_false, not_false_eq_true, Bool.and_self]; done) | (simp only [h1, h2, h3, decide_true, decide_false, Bool.true_and, Bool.false_and, Bool.and_true, Bool.and_false, Bool.not_true, Bool.not_false, Bool.true_or, Bool.false_or, Bool.or_true, Bool.or_false, ne_eq, not_true_eq_false, not_false_eq_true, Bool.and_self]; rfl)
   ·
    refine LM.drop (t := 13) rfl rfl rfl ?_
    refine LM.drop (t := 13) rfl rfl rfl ?_
    refine LM.drop (t := 13) rfl rfl rfl ?_
    refine LM.val (ov_pickF rfl rfl) ?_
    refine LM.val (ov_move rfl) ?_
    refine LM.drop (t := 18) rfl rfl rfl ?_
    refine LM.drop (t := 18) rfl rfl rfl ?_
    refine LM.drop (t := 18) rfl rfl rfl ?_
    refine LM.val (ov_pickF rfl rfl) ?_
    refine LM.val (ov_assign rfl) ?_
    refine LM.nil ?_
    refine QM.sub (e' := [(1, _), (4, _)]) ⟨rfl, rfl, trivial⟩ ?_
    refine QM.meetK (_) ⟨(by first | rfl | exact lk rfl (by congr 1; omega) | exact lk rfl (by simp)), rfl, trivial⟩ (by (repeat' (first | exact SubM.nil _ | refine SubM.cons rfl ?_ | refine SubM.app ?_))) ?_
    · unfold isNum; first | (simp only [h1, h2, decide_true, decide_false, Bool.true_and, Bool.false_and, Bool.and_true, Bool.and_false, Bool.not_true, Bool.not_false, Bool.true_or, Bool.false_or, Bool.or_true, Bool.or_false, ne_eq, not_true_eq_false, not_false_eq_true, Bool.and_self]; done) | (simp only [h1, h2, decide_true, decide_false, Bool.true_and, Bool.false_and, Bool.and_true, Bool.and_false, Bool.not_true, Bool.not_false, Bool.true_or, Bool.false_or, Bool.or_true, Bool.or_false, ne_eq, not_true_eq_false, not_false_eq_true, Bool.and_self]; rfl)
  ·
   refine LM.drop (t := 8) rfl rfl rfl ?_
   refine LM.drop (t := 8) rfl rfl rfl ?_
   refine LM.drop (t := 8) rfl rfl rfl ?_
   refine LM.val (ov_pickF rfl rfl) ?_
   refine LM.val (ov_move rfl) ?_
   refine LM.drop (t := 13) rfl rfl rfl ?_
   refine LM.drop (t := 13) rfl rfl rfl ?_
   refine LM.drop (t := 13) rfl rfl rfl ?_
   refine LM.val (ov_pickF rfl rfl) ?_
   refine LM.val (ov_move rfl) ?_
   refine LM.drop (t := 18) rfl rfl rfl ?_
   refine LM.drop (t := 18) rfl rfl rfl ?_
   refine LM.drop (t := 18) rfl rfl rfl ?_
   refine LM.val (ov_pickF rfl rfl) ?_
   refine LM.val (ov_assign rfl) ?_
   refine LM.nil ?_
   refine QM.sub (e' := [(1, _), (4, _)]) ⟨rfl, rfl, trivial⟩ ?_
   refine QM.meetK (_) ⟨(by first | rfl | exact lk rfl (by congr 1; omega) | exact lk rfl (by simp)), rfl, trivial⟩ (by (repeat' (first | exact SubM.nil _ | refine SubM.cons rfl ?_ | refine SubM.app ?_))) ?_
   · unfold isNum; first | (simp only [h1, decide_true, decide_false, Bool.true_and, Bool.false_and, Bool.and_true, Bool.and_false, Bool.not_true, Bool.not_false, Bool.true_or, Bool.false_or, Bool.or_true, Bool.or_false, ne_eq, not_true_eq_false, not_false_eq_true, Bool.and_self]; done) | (simp only [h1, decide_true, decide_false, Bool.true_and, Bool.false_and, Bool.and_true, Bool.and_false, Bool.not_true, Bool.not_false, Bool.true_or, Bool.false_or, Bool.or_true, Bool.or_false, ne_eq, not_true_eq_false, not_false_eq_true, Bool.and_self]; rfl)
 ·
  rintro qa hqa
  change QM _ _ _ _ _ ((b1, .cells (fW x).toArray 80 (0, 0)) :: []) _ _ _
  refine QM.then ?_
  first | refine wpM.condD rfl (fun h4 => ?_) (fun h4 => ?_) | refine wpM.condB rfl (fun h4 => ?_) (fun h4 => ?_)
  ·
   have hnum := isNum_rng (hqa ▸ h4 : isNum x = true)
   refine wpM.seq ?_
   refine wpM.region ?_
   refine LM.val (ov_field Tryd.underlying80 rfl Tryd.sizeOf3 rfl (k := 2) rfl rfl) ?_
   first | refine LM.rd (om_ld Tryd.isAgg3 rfl rfl) ?_
   refine LM.callE (oc_call (enters_fn Tryd.func49 (by kernel_rfl) rfl) rfl) (fun w hm hc hg => itoa_ret hnum.1 hnum.2 w (hT.ext hc)) ?_
   refine LM.val (ov_assign rfl) ?_
   refine LM.val (ov_assign rfl) ?_
   refine LM.nil ?_
   refine QM.sub (e' := [(2, _), (3, _)]) ⟨rfl, rfl, trivial⟩ ?_
   refine QM.then ?_
   refine wpM.ret ?_
   refine QM.block_ret ?_
   refine QM.then_ret ?_
   refine QM.leave (.inl rfl) [.tmp 2, .tmp 3] Tryd.results78 rfl ?_
   intro w' hm' hc' hg'
   refine ⟨?_, hc'⟩; unfold textO; rw [← hqa, h4]; rfl
  ·
   refine wpM.seq ?_
   refine wpM.joinK (α := Bool) (fun qb => [(26, .bool qb)]) [(1, _)] (fun qb => (b1, .cells (fW x).toArray 80 (0, 0)) :: []) (fun qb => qb = isBad x) ⟨rfl, trivial⟩ ?_ ?_
   ·
    refine wpM.region ?_
    refine LM.val (ov_field Tryd.underlying80 rfl Tryd.sizeOf3 rfl (k := 2) rfl rfl) ?_
    first | refine LM.rd (om_ld Tryd.isAgg3 rfl rfl) ?_
    refine LM.val (ov_neq rfl rfl) ?_
    refine LM.val (ov_move rfl) ?_
    first | refine LM.splitD (t := 30) rfl (fun h5 => ?_) (fun h5 => ?_) | refine LM.splitB (t := 30) rfl (fun h5 => ?_) (fun h5 => ?_)
    ·
     refine LM.drop (t := 30) rfl rfl rfl ?_
     refine LM.drop (t := 30) rfl rfl rfl ?_
     refine LM.drop (t := 30) rfl rfl rfl ?_
     refine LM.val (ov_pickT rfl rfl) ?_
     refine LM.val (ov_assign rfl) ?_
     refine LM.nil ?_
     refine QM.sub (e' := [(1, _), (26, _)]) ⟨rfl, rfl, trivial⟩ ?_
     refine QM.meetK (_) ⟨(by first | rfl | exact lk rfl (by congr 1; omega) | exact lk rfl (by simp)), rfl, trivial⟩ (by (repeat' (first | exact SubM.nil _ | refine SubM.cons rfl ?_ | refine SubM.app ?_))) ?_
     · unfold isBad; first | (simp only [h4, h5, decide_true, decide_false, Bool.true_and, Bool.false_and, Bool.and_true, Bool.and_false, Bool.not_true, Bool.not_false, Bool.true_or, Bool.false_or, Bool.or_true, Bool.or_false, ne_eq, not_true_eq_false, not_false_eq_true, Bool.and_self]; done) | (simp only [h4, h5, decide_true, decide_false, Bool.true_and, Bool.false_and, Bool.and_true, Bool.and_false, Bool.not_true, Bool.not_false, Bool.true_or, Bool.false_or, Bool.or_true, Bool.or_false, ne_eq, not_true_eq_false, not_false_eq_true, Bool.and_self]; rfl)
    ·
     refine LM.strip (t := 30) rfl rfl rfl ?_
     refine LM.val (ov_field Tryd.underlying80 rfl Tryd.sizeOf9 rfl (k := 1) rfl rfl) ?_
     refine LM.strip (t := 30) rfl rfl rfl ?_
     first | refine LM.rd (om_ld Tryd.isAgg9 rfl rfl) ?_
     refine LM.strip (t := 30) rfl rfl rfl ?_
     refine LM.val (ov_seqlL rfl rfl) ?_
     refine LM.val (ov_pickF rfl rfl) ?_
     refine LM.val (ov_assign rfl) ?_
     refine LM.nil ?_
     refine QM.sub (e' := [(1, _), (26, _)]) ⟨rfl, rfl, trivial⟩ ?_
     refine QM.meetK (_) ⟨(by first | rfl | exact lk rfl (by congr 1; omega) | exact lk rfl (by simp)), rfl, trivial⟩ (by (repeat' (first | exact SubM.nil _ | refine SubM.cons rfl ?_ | refine SubM.app ?_))) ?_
     · unfold isBad; first | (simp only [h4, h5, decide_true, decide_false, Bool.true_and, Bool.false_and, Bool.and_true, Bool.and_false, Bool.not_true, Bool.not_false, Bool.true_or, Bool.false_or, Bool.or_true, Bool.or_false, ne_eq, not_true_eq_false, not_false_eq_true, Bool.and_self]; done) | (simp only [h4, h5, decide_true, decide_false, Bool.true_and, Bool.false_and, Bool.and_true, Bool.and_false, Bool.not_true, Bool.not_false, Bool.true_or, Bool.false_or, Bool.or_true, Bool.or_false, ne_eq, not_true_eq_false, not_false_eq_true, Bool.and_self]; rfl)
   ·
    rintro qb hqb
    change QM _ _ _ _ _ ((b1, .cells (fW x).toArray 80 (0, 0)) :: []) _ _ _
    refine QM.then ?_
    first | refine wpM.condD rfl (fun h6 => ?_) (fun h6 => ?_) | refine wpM.condB rfl (fun h6 => ?_) (fun h6 => ?_)
    ·
     refine wpM.skip ?_
     refine QM.block_normal ?_
     refine QM.then ?_
     refine wpM.seq ?_
     refine wpM.region ?_
     refine LM.val (ov_assign rfl) ?_
     refine LM.val (ov_assign rfl) ?_
     refine LM.nil ?_
     refine QM.sub (e' := [(2, _), (3, _)]) ⟨rfl, rfl, trivial⟩ ?_
     refine QM.then ?_
     refine wpM.ret ?_
     refine QM.leave (.inl rfl) [.tmp 2, .tmp 3] Tryd.results78 rfl ?_
     intro w' hm' hc' hg'
     refine ⟨?_, hc'⟩; unfold textO; rw [← hqa, h4, ← hqb, h6]; rfl
    ·
     refine wpM.seq ?_
     refine wpM.joinK (α := Bool) (fun qc => [(35, .bool qc)]) [(1, _)] (fun qc => (b1, .cells (fW x).toArray 80 (0, 0)) :: []) (fun qc => qc = isName x) ⟨rfl, trivial⟩ ?_ ?_
     ·
      refine wpM.region ?_
      refine LM.val (ov_field Tryd.underlying80 rfl Tryd.sizeOf3 rfl (k := 0) rfl rfl) ?_
      first | refine LM.rd (om_ld Tryd.isAgg3 rfl rfl) ?_
      refine LM.val (ov_eql rfl rfl) ?_
      refine LM.val (ov_move rfl) ?_
      first | refine LM.splitD (t := 39) rfl (fun h7 => ?_) (fun h7 => ?_) | refine LM.splitB (t := 39) rfl (fun h7 => ?_) (fun h7 => ?_)
      ·
       refine LM.strip (t := 39) rfl rfl rfl ?_
       refine LM.val (ov_field Tryd.underlying80 rfl Tryd.sizeOf9 rfl (k := 1) rfl rfl) ?_
       refine LM.strip (t := 39) rfl rfl rfl ?_
       first | refine LM.rd (om_ld Tryd.isAgg9 rfl rfl) ?_
       refine LM.strip (t := 39) rfl rfl rfl ?_
       refine LM.val (ov_slenL Tryd.underlying9 rfl) ?_
       refine LM.strip (t := 39) rfl rfl rfl ?_
       refine LM.val (ov_leq rfl rfl) ?_
       refine LM.val (ov_pickT rfl rfl) ?_
       refine LM.val (ov_move rfl) ?_
       first | refine LM.splitD (t := 45) rfl (fun h8 => ?_) (fun h8 => ?_) | refine LM.splitB (t := 45) rfl (fun h8 => ?_) (fun h8 => ?_)
       ·
        refine LM.strip (t := 45) rfl rfl rfl ?_
        refine LM.val (ov_field Tryd.underlying80 rfl Tryd.sizeOf9 rfl (k := 1) rfl rfl) ?_
        refine LM.strip (t := 45) rfl rfl rfl ?_
        first | refine LM.rd (om_ld Tryd.isAgg9 rfl rfl) ?_
        refine LM.strip (t := 45) rfl rfl rfl ?_
        refine LM.callE (oc_call (enters_fn Tryd.func114 (by kernel_rfl) rfl) rfl) (fun w hm hc hg => trim_ret x.t hx w) ?_
        refine LM.strip (t := 45) rfl rfl rfl ?_
        refine LM.val (ov_seqlL rfl rfl) ?_
        refine LM.val (ov_pickT rfl rfl) ?_
        refine LM.val (ov_assign rfl) ?_
        refine LM.nil ?_
        refine QM.sub (e' := [(1, _), (35, _)]) ⟨rfl, rfl, trivial⟩ ?_
        refine QM.meetK (_) ⟨(by first | rfl | exact lk rfl (by congr 1; omega) | exact lk rfl (by simp)), rfl, trivial⟩ (by (repeat' (first | exact SubM.nil _ | refine SubM.cons rfl ?_ | refine SubM.app ?_))) ?_
        · unfold isName; rw [decide_eq_true h7, decide_eq_true (show x.t.length ≤ 12 by omega), trim_letters]; rfl
       ·
        refine LM.drop (t := 45) rfl rfl rfl ?_
        refine LM.drop (t := 45) rfl rfl rfl ?_
        refine LM.drop (t := 45) rfl rfl rfl ?_
        refine LM.drop (t := 45) rfl rfl rfl ?_
        refine LM.val (ov_pickF rfl rfl) ?_
        refine LM.val (ov_assign rfl) ?_
        refine LM.nil ?_
        refine QM.sub (e' := [(1, _), (35, _)]) ⟨rfl, rfl, trivial⟩ ?_
        refine QM.meetK (_) ⟨(by first | rfl | exact lk rfl (by congr 1; omega) | exact lk rfl (by simp)), rfl, trivial⟩ (by (repeat' (first | exact SubM.nil _ | refine SubM.cons rfl ?_ | refine SubM.app ?_))) ?_
        · unfold isName; rw [decide_eq_false (show ¬ x.t.length ≤ 12 by omega)]; simp
      ·
       refine LM.drop (t := 39) rfl rfl rfl ?_
       refine LM.drop (t := 39) rfl rfl rfl ?_
       refine LM.drop (t := 39) rfl rfl rfl ?_
       refine LM.drop (t := 39) rfl rfl rfl ?_
       refine LM.val (ov_pickF rfl rfl) ?_
       refine LM.val (ov_move rfl) ?_
       refine LM.drop (t := 45) rfl rfl rfl ?_
       refine LM.drop (t := 45) rfl rfl rfl ?_
       refine LM.drop (t := 45) rfl rfl rfl ?_
       refine LM.drop (t := 45) rfl rfl rfl ?_
       refine LM.val (ov_pickF rfl rfl) ?_
       refine LM.val (ov_assign rfl) ?_
       refine LM.nil ?_
       refine QM.sub (e' := [(1, _), (35, _)]) ⟨rfl, rfl, trivial⟩ ?_
       refine QM.meetK (_) ⟨(by first | rfl | exact lk rfl (by congr 1; omega) | exact lk rfl (by simp)), rfl, trivial⟩ (by (repeat' (first | exact SubM.nil _ | refine SubM.cons rfl ?_ | refine SubM.app ?_))) ?_
       · unfold isName; first | (simp only [h4, h6, h7, decide_true, decide_false, Bool.true_and, Bool.false_and, Bool.and_true, Bool.and_false, Bool.not_true, Bool.not_false, Bool.true_or, Bool.false_or, Bool.or_true, Bool.or_false, ne_eq, not_true_eq_false, not_false_eq_true, Bool.and_self]; done) | (simp only [h4, h6, h7, decide_true, decide_false, Bool.true_and, Bool.false_and, Bool.and_true, Bool.and_false, Bool.not_true, Bool.not_false, Bool.true_or, Bool.false_or, Bool.or_true, Bool.or_false, ne_eq, not_true_eq_false, not_false_eq_true, Bool.and_self]; rfl)
     ·
      rintro qc hqc
      change QM _ _ _ _ _ ((b1, .cells (fW x).toArray 80 (0, 0)) :: []) _ _ _
      refine QM.then ?_
      first | refine wpM.condD rfl (fun h9 => ?_) (fun h9 => ?_) | refine wpM.condB rfl (fun h9 => ?_) (fun h9 => ?_)
      ·
       refine wpM.seq ?_
       refine wpM.region ?_
       refine LM.val (ov_field Tryd.underlying80 rfl Tryd.sizeOf9 rfl (k := 1) rfl rfl) ?_
       first | refine LM.rd (om_ld Tryd.isAgg9 rfl rfl) ?_
       refine LM.val (ov_assign rfl) ?_
       refine LM.val (ov_assign rfl) ?_
       refine LM.nil ?_
       refine QM.sub (e' := [(2, _), (3, _)]) ⟨rfl, rfl, trivial⟩ ?_
       refine QM.then ?_
       refine wpM.ret ?_
       refine QM.block_ret ?_
       refine QM.then_ret ?_
       refine QM.leave (.inl rfl) [.tmp 2, .tmp 3] Tryd.results78 rfl ?_
       intro w' hm' hc' hg'
       refine ⟨?_, hc'⟩; unfold textO; rw [← hqa, h4, ← hqb, h6, ← hqc, h9]; rfl
      ·
       refine wpM.seq ?_
       refine wpM.joinK (α := Bool) (fun qd => [(53, .bool qd)]) [(1, _)] (fun qd => (b1, .cells (fW x).toArray 80 (0, 0)) :: []) (fun qd => qd = isMark x) ⟨rfl, trivial⟩ ?_ ?_
       ·
        refine wpM.region ?_
        refine LM.val (ov_field Tryd.underlying80 rfl Tryd.sizeOf3 rfl (k := 0) rfl rfl) ?_
        first | refine LM.rd (om_ld Tryd.isAgg3 rfl rfl) ?_
        refine LM.val (ov_eql rfl rfl) ?_
        refine LM.val (ov_move rfl) ?_
        first | refine LM.splitD (t := 57) rfl (fun h10 => ?_) (fun h10 => ?_) | refine LM.splitB (t := 57) rfl (fun h10 => ?_) (fun h10 => ?_)
        ·
         refine LM.strip (t := 57) rfl rfl rfl ?_
         refine LM.val (ov_field Tryd.underlying80 rfl Tryd.sizeOf9 rfl (k := 1) rfl rfl) ?_
         refine LM.strip (t := 57) rfl rfl rfl ?_
         first | refine LM.rd (om_ld Tryd.isAgg9 rfl rfl) ?_
         refine LM.strip (t := 57) rfl rfl rfl ?_
         refine LM.val (ov_slenL Tryd.underlying9 rfl) ?_
         refine LM.strip (t := 57) rfl rfl rfl ?_
         refine LM.val (ov_eql rfl rfl) ?_
         refine LM.val (ov_pickT rfl rfl) ?_
         refine LM.val (ov_move rfl) ?_
         first | refine LM.splitD (t := 63) rfl (fun h11 => ?_) (fun h11 => ?_) | refine LM.splitB (t := 63) rfl (fun h11 => ?_) (fun h11 => ?_)
         ·
          have hone : x.t.length = 1 := (by omega)
          refine LM.strip (t := 63) rfl rfl rfl ?_
          refine LM.val (ov_field Tryd.underlying80 rfl Tryd.sizeOf9 rfl (k := 1) rfl rfl) ?_
          refine LM.strip (t := 63) rfl rfl rfl ?_
          first | refine LM.rd (om_ld Tryd.isAgg9 rfl rfl) ?_
          refine LM.strip (t := 63) rfl rfl rfl ?_
          refine LM.callE (oc_call (enters_fn Tryd.func115 (by kernel_rfl) rfl) rfl) (fun w hm hc hg => contains_ret hone w) ?_
          refine LM.val (ov_pickT rfl rfl) ?_
          refine LM.val (ov_assign rfl) ?_
          refine LM.nil ?_
          refine QM.sub (e' := [(1, _), (53, _)]) ⟨rfl, rfl, trivial⟩ ?_
          refine QM.meetK (_) ⟨(by first | rfl | exact lk rfl (by congr 1; omega) | exact lk rfl (by simp)), rfl, trivial⟩ (by (repeat' (first | exact SubM.nil _ | refine SubM.cons rfl ?_ | refine SubM.app ?_))) ?_
          · unfold isMark; rw [decide_eq_true h10, decide_eq_true (show x.t.length = 1 by omega)]; rfl
         ·
          refine LM.drop (t := 63) rfl rfl rfl ?_
          refine LM.drop (t := 63) rfl rfl rfl ?_
          refine LM.drop (t := 63) rfl rfl rfl ?_
          refine LM.val (ov_pickF rfl rfl) ?_
          refine LM.val (ov_assign rfl) ?_
          refine LM.nil ?_
          refine QM.sub (e' := [(1, _), (53, _)]) ⟨rfl, rfl, trivial⟩ ?_
          refine QM.meetK (_) ⟨(by first | rfl | exact lk rfl (by congr 1; omega) | exact lk rfl (by simp)), rfl, trivial⟩ (by (repeat' (first | exact SubM.nil _ | refine SubM.cons rfl ?_ | refine SubM.app ?_))) ?_
          · unfold isMark; rw [decide_eq_false (show ¬ x.t.length = 1 by omega)]; simp
        ·
         refine LM.drop (t := 57) rfl rfl rfl ?_
         refine LM.drop (t := 57) rfl rfl rfl ?_
         refine LM.drop (t := 57) rfl rfl rfl ?_
         refine LM.drop (t := 57) rfl rfl rfl ?_
         refine LM.val (ov_pickF rfl rfl) ?_
         refine LM.val (ov_move rfl) ?_
         refine LM.drop (t := 63) rfl rfl rfl ?_
         refine LM.drop (t := 63) rfl rfl rfl ?_
         refine LM.drop (t := 63) rfl rfl rfl ?_
         refine LM.val (ov_pickF rfl rfl) ?_
         refine LM.val (ov_assign rfl) ?_
         refine LM.nil ?_
         refine QM.sub (e' := [(1, _), (53, _)]) ⟨rfl, rfl, trivial⟩ ?_
         refine QM.meetK (_) ⟨(by first | rfl | exact lk rfl (by congr 1; omega) | exact lk rfl (by simp)), rfl, trivial⟩ (by (repeat' (first | exact SubM.nil _ | refine SubM.cons rfl ?_ | refine SubM.app ?_))) ?_
         · unfold isMark; first | (simp only [h4, h6, h9, h10, decide_true, decide_false, Bool.true_and, Bool.false_and, Bool.and_true, Bool.and_false, Bool.not_true, Bool.not_false, Bool.true_or, Bool.false_or, Bool.or_true, Bool.or_false, ne_eq, not_true_eq_false, not_false_eq_true, Bool.and_self]; done) | (simp only [h4, h6, h9, h10, decide_true, decide_false, Bool.true_and, Bool.false_and, Bool.and_true, Bool.and_false, Bool.not_true, Bool.not_false, Bool.true_or, Bool.false_or, Bool.or_true, Bool.or_false, ne_eq, not_true_eq_false, not_false_eq_true, Bool.and_self]; rfl)
       ·
        rintro qd hqd
        change QM _ _ _ _ _ ((b1, .cells (fW x).toArray 80 (0, 0)) :: []) _ _ _
        refine QM.then ?_
        first | refine wpM.condD rfl (fun h12 => ?_) (fun h12 => ?_) | refine wpM.condB rfl (fun h12 => ?_) (fun h12 => ?_)
        ·
         refine wpM.seq ?_
         refine wpM.region ?_
         refine LM.val (ov_field Tryd.underlying80 rfl Tryd.sizeOf9 rfl (k := 1) rfl rfl) ?_
         first | refine LM.rd (om_ld Tryd.isAgg9 rfl rfl) ?_
         refine LM.val (ov_assign rfl) ?_
         refine LM.val (ov_assign rfl) ?_
         refine LM.nil ?_
         refine QM.sub (e' := [(2, _), (3, _)]) ⟨rfl, rfl, trivial⟩ ?_
         refine QM.then ?_
         refine wpM.ret ?_
         refine QM.block_ret ?_
         refine QM.then_ret ?_
         refine QM.leave (.inl rfl) [.tmp 2, .tmp 3] Tryd.results78 rfl ?_
         intro w' hm' hc' hg'
         refine ⟨?_, hc'⟩; unfold textO; rw [← hqa, h4, ← hqb, h6, ← hqc, h9, ← hqd, h12]; rfl
        ·
         refine wpM.skip ?_
         refine QM.block_normal ?_
         refine QM.then ?_
         refine wpM.seq ?_
         refine wpM.region ?_
         refine LM.val (ov_assign rfl) ?_
         refine LM.val (ov_assign rfl) ?_
         refine LM.nil ?_
         refine QM.sub (e' := [(2, _), (3, _)]) ⟨rfl, rfl, trivial⟩ ?_
         refine QM.then ?_
         refine wpM.ret ?_
         refine QM.leave (.inl rfl) [.tmp 2, .tmp 3] Tryd.results78 rfl ?_
         intro w' hm' hc' hg'
         refine ⟨?_, hc'⟩; unfold textO; rw [← hqa, h4, ← hqb, h6, ← hqc, h9, ← hqd, h12]; rfl

set_option maxRecDepth 100000 in
set_option maxHeartbeats 1000000 in
theorem join_spec {ws : List Wrd} {ad : Option Addr} {n cap : Nat} (w : World) (hn : n = ws.length) (hx : ws.length ≤ 1000000000) (hl : Sr fW 4 ws (.slice ad n cap) w) (ht : ∀ x ∈ ws, x.t.length ≤ 9223372036854775807) (hT : Tb w) : Ret Tryd.prog 42 #[.slice ad n cap] w (fun v w' => v = .tuple #[vS (joinO ws).1, .int .i64 (joinO ws).2] ∧ Ext w w') := by
 refine Ret.enterM (l := [.slice ad n cap]) Tryd.func42 rfl Tryd.ntmps42 rfl ([]) (no) (Mem.nil w) ?_
 refine wpM.seq ?_
 refine wpM.region ?_
 refine LM.val (ov_assign rfl) ?_
 refine LM.val (ov_assign rfl) ?_
 refine LM.nil ?_
 refine QM.sub (e' := [(0, _)]) ⟨rfl, trivial⟩ ?_
 refine QM.then ?_
 refine wpM.seq ?_
 refine wpM.region ?_
 refine LM.alloc Tryd.zeroValue91 rfl (fun b4 hb4 => ?_)
 refine LM.nil ?_
 refine QM.sub (e' := [(0, _), (4, _)]) ⟨rfl, rfl, trivial⟩ ?_
 refine QM.then ?_
 refine wpM.seq ?_
 refine wpM.seq ?_
 refine wpM.region ?_
 refine LM.val (ov_move rfl) ?_
 refine LM.val (ov_len Tryd.underlying24 rfl) ?_
 refine LM.val (ov_move rfl) ?_
 refine LM.nil ?_
 refine QM.sub (e' := [(4, _), (9, _), (10, _), (11, _)]) ⟨rfl, rfl, rfl, rfl, trivial⟩ ?_
 refine QM.then ?_
 refine wpM.block ?_
 refine wpM.loopK0 (α := Nat × List UInt8 × Mem0) (fun ⟨i, out, mb⟩ => [(11, .int .i64 (i : Nat))]) [(4, _), (9, _), (10, _)] (fun ⟨i, out, mb⟩ => mb ++ []) (fun ⟨i, out, mb⟩ => i ≤ ws.length ∧ joinF (ws.drop i) out = joinO ws ∧ Bld 91 5 w.heap.size b4 out mb ∧ out.length ≤ i * 13) (fun ⟨i, out, mb⟩ => ws.length - i) ((0, [], [(b4, .cells #[.pointer none, .slice none 0 0] 91 (0, 0))])) ⟨(by first | rfl | exact lk rfl (by congr 1; omega) | exact lk rfl (by simp)), rfl, rfl, rfl, trivial⟩ (by (repeat' (first | exact SubM.nil _ | refine SubM.cons rfl ?_ | refine SubM.app ?_))) ⟨Nat.zero_le _, rfl, Bld.new hb4, Nat.zero_le _⟩ ?_
 rintro ⟨i, out, mb⟩ ⟨hi0, hj, hB, hol⟩
 change wpM _ _ _ _ _ _ _ (mb ++ []) _ _ _
 have htl := text_len (ws.getD i default); have hgl := glue_len out (ws.getD i default)
 refine wpM.seq ?_
 refine wpM.region ?_
 refine LM.val (ov_lss rfl rfl) ?_
 refine LM.nil ?_
 refine QM.sub (e' := [(4, _), (9, _), (10, _), (11, _), (12, _)]) ⟨rfl, rfl, rfl, rfl, rfl, trivial⟩ ?_
 refine QM.then ?_
 refine wpM.seq ?_
 first | refine wpM.condD rfl (fun h1 => ?_) (fun h1 => ?_) | refine wpM.condB rfl (fun h1 => ?_) (fun h1 => ?_)
 ·
  refine wpM.skip ?_
  refine QM.then ?_
  refine wpM.seq ?_
  refine wpM.block ?_
  refine wpM.seq ?_
  refine wpM.region ?_
  first | refine LM.val (ov_idxSN (by first | exact Sr.spt (by assumption) | exact Sl.spt (by assumption)) Tryd.underlying24 Tryd.sizeOf80 rfl rfl (by omega)) ?_ | refine LM.val (ov_idxS (by first | exact Sr.spt (by assumption) | exact Sl.spt (by assumption)) Tryd.underlying24 Tryd.sizeOf80 rfl rfl (by omega)) ?_ | refine LM.val (ov_idx Tryd.underlying24 Tryd.sizeOf80 rfl rfl (by omega)) ?_
  first | refine LM.rd (om_slA (by assumption) (by intro _; rfl) Tryd.isAgg80 Tryd.sizeOf80 rfl (by exact getq default (by first | omega | (simp only [List.length_set, List.length_append, List.length_cons, List.length_nil]; omega)))) ?_ | refine LM.rdC (om_srEA (by assumption) (by intro _; rfl) Tryd.isAgg80 Tryd.sizeOf80 rfl (by exact getq default (by first | omega | (simp only [List.length_set, List.length_append, List.length_cons, List.length_nil]; omega))) id) ?_ | refine LM.rd (om_ldW Tryd.isAgg80 Tryd.sizeOf80 rfl rfl) ?_ | refine LM.rd (om_ldA Tryd.isAgg80 Tryd.sizeOf80 rfl (vs := [_, _, _, _]) rfl ⟨rfl, rfl, rfl, rfl, trivial⟩) ?_
  refine LM.alloc Tryd.zeroValue80 rfl (fun b6 hb6 => ?_)
  first | refine LM.stW Tryd.sizeOf80 rfl rfl rfl rfl (by first | rfl | decide | (simp; done)) (fun hlt => absurd hlt (by omega)) ?_ | refine LM.st Tryd.sizeOf80 rfl rfl rfl (by first | decide | exact Nat.le_of_ble_eq_true rfl | (simp; done) | (simp; omega)) rfl (fun hlt => absurd hlt (by omega)) ?_
  refine LM.nil ?_
  refine QM.sub (e' := [(4, _), (6, _), (9, _), (10, _), (11, _)]) ⟨rfl, rfl, rfl, rfl, rfl, trivial⟩ ?_
  refine QM.then ?_
  refine wpM.seq ?_
  refine wpM.region ?_
  first | refine LM.rd (om_ldW Tryd.isAgg80 Tryd.sizeOf80 rfl rfl) ?_ | refine LM.rd (om_ldA Tryd.isAgg80 Tryd.sizeOf80 rfl (vs := [_, _, _, _]) rfl ⟨rfl, rfl, rfl, rfl, trivial⟩) ?_
  refine LM.callE (oc_call (enters_fn Tryd.func78 (by kernel_rfl) rfl) rfl) (fun w hm hc hg => text_spec _ w (ht _ (List.mem_of_getElem? (getq default (by omega)))) (hT.ext hc)) ?_
  refine LM.val (ov_move rfl) ?_
  refine LM.val (ov_extract rfl rfl) ?_
  refine LM.val (ov_extract rfl rfl) ?_
  refine LM.val (ov_assign rfl) ?_
  refine LM.val (ov_assign rfl) ?_
  refine LM.nil ?_
  refine QM.sub (e' := [(4, _), (7, _), (8, _), (9, _), (10, _), (11, _)]) ⟨rfl, rfl, rfl, rfl, rfl, rfl, trivial⟩ ?_
  refine QM.then ?_
  refine wpM.seq ?_
  refine wpM.seq ?_
  refine wpM.region ?_
  refine LM.val (ov_move rfl) ?_
  refine LM.val (ov_neq rfl rfl) ?_
  refine LM.nil ?_
  refine QM.sub (e' := [(4, _), (7, _), (8, _), (9, _), (10, _), (11, _), (21, _)]) ⟨rfl, rfl, rfl, rfl, rfl, rfl, rfl, trivial⟩ ?_
  refine QM.then ?_
  first | refine wpM.condD rfl (fun h2 => ?_) (fun h2 => ?_) | refine wpM.condB rfl (fun h2 => ?_) (fun h2 => ?_)
  ·
   refine wpM.seq ?_
   refine wpM.region ?_
   refine LM.val (ov_move rfl) ?_
   refine LM.val (ov_assign rfl) ?_
   refine LM.val (ov_assign rfl) ?_
   refine LM.nil ?_
   refine QM.sub (e' := [(2, _), (3, _)]) ⟨rfl, rfl, trivial⟩ ?_
   refine QM.then ?_
   refine wpM.ret ?_
   refine QM.then_ret ?_
   refine QM.block_ret ?_
   refine QM.then_ret ?_
   refine QM.then_ret ?_
   refine QM.block_ret ?_
   refine QM.then_ret ?_
   refine QM.leave (.inl rfl) [.tmp 2, .tmp 3] Tryd.results42 rfl ?_
   intro w' hm' hc' hg'
   have hb := hj; rw [joinF_bad (by omega) h2] at hb; refine ⟨?_, hc'⟩; rw [← hb]; show Value.tuple #[vS [], .int .i64 (textO (ws.getD i default)).2] = _; rw [(text_bad h2).2]
  ·
   refine wpM.skip ?_
   refine QM.then ?_
   refine wpM.seq ?_
   refine wpM.seq ?_
   refine wpM.joinK (α := Bool) (fun q => [(28, .bool q)]) [(4, _), (7, _), (9, _), (10, _), (11, _)] (fun q => (b6, .cells (fW (ws.getD i default)).toArray 80 (0, 0)) :: (mb ++ [])) (fun q => q = (decide (0 < out.length) && decide ((textO (ws.getD i default)).1 ≠ [59]))) ⟨rfl, rfl, rfl, rfl, rfl, trivial⟩ ?_ ?_
   ·
    refine wpM.region ?_
    refine LM.callE (oc_call (enters_fn Tryd.func79 (by kernel_rfl) rfl) rfl) (fun w hm hc hg => blen_ret (hB.is (hm.pick mb))) ?_
    refine LM.val (ov_gtr rfl rfl) ?_
    refine LM.val (ov_move rfl) ?_
    first | refine LM.splitD (t := 25) rfl (fun h3 => ?_) (fun h3 => ?_) | refine LM.splitB (t := 25) rfl (fun h3 => ?_) (fun h3 => ?_)
    ·
     refine LM.strip (t := 25) rfl rfl rfl ?_
     refine LM.val (ov_move rfl) ?_
     refine LM.strip (t := 25) rfl rfl rfl ?_
     refine LM.val (ov_sneqL rfl rfl) ?_
     refine LM.val (ov_pickT rfl rfl) ?_
     refine LM.nil ?_
     refine QM.sub (e' := [(4, _), (7, _), (9, _), (10, _), (11, _), (28, _)]) ⟨rfl, rfl, rfl, rfl, rfl, rfl, trivial⟩ ?_
     refine QM.meetK (_) ⟨(by first | rfl | exact lk rfl (by congr 1; omega) | exact lk rfl (by simp)), rfl, rfl, rfl, rfl, rfl, trivial⟩ (by (repeat' (first | exact SubM.nil _ | refine SubM.cons rfl ?_ | refine SubM.app ?_))) ?_
     · rw [decide_eq_true (show 0 < out.length by omega), Bool.true_and]
    ·
     refine LM.drop (t := 25) rfl rfl rfl ?_
     refine LM.drop (t := 25) rfl rfl rfl ?_
     refine LM.val (ov_pickF rfl rfl) ?_
     refine LM.nil ?_
     refine QM.sub (e' := [(4, _), (7, _), (9, _), (10, _), (11, _), (28, _)]) ⟨rfl, rfl, rfl, rfl, rfl, rfl, trivial⟩ ?_
     refine QM.meetK (_) ⟨(by first | rfl | exact lk rfl (by congr 1; omega) | exact lk rfl (by simp)), rfl, rfl, rfl, rfl, rfl, trivial⟩ (by (repeat' (first | exact SubM.nil _ | refine SubM.cons rfl ?_ | refine SubM.app ?_))) ?_
     · rw [decide_eq_false (show ¬ 0 < out.length by omega)]; rfl
   ·
    rintro q hq
    change QM _ _ _ _ _ ((b6, .cells (fW (ws.getD i default)).toArray 80 (0, 0)) :: (mb ++ [])) _ _ _
    refine QM.then ?_
    refine wpM.joinK (α := List UInt8 × Mem0) (fun ⟨o2, mb2⟩ => []) [(4, _), (7, _), (9, _), (10, _), (11, _)] (fun ⟨o2, mb2⟩ => mb2 ++ ((b6, .cells (fW (ws.getD i default)).toArray 80 (0, 0)) :: [])) (fun ⟨o2, mb2⟩ => Bld 91 5 w.heap.size b4 o2 mb2 ∧ o2 ++ (textO (ws.getD i default)).1 = glue out (textO (ws.getD i default)).1 ∧ o2.length ≤ out.length + 1) ⟨rfl, rfl, rfl, rfl, rfl, trivial⟩ ?_ ?_
    ·
     first | refine wpM.condD rfl (fun h4 => ?_) (fun h4 => ?_) | refine wpM.condB rfl (fun h4 => ?_) (fun h4 => ?_)
     ·
      refine wpM.region ?_
      refine LM.cB (s' := out ++ [32]) hB (fun _ => trivial) (by repeat (first | exact nr_nil | refine nr_cons (by intro c fz h; cases h) ?_)) (oc_call (enters_fn Tryd.func80 (by kernel_rfl) rfl) rfl) (fun w hi hsz => bbyte_ret 32 hi hsz (by omega)) (fun m29 hB29 => ?_)
      refine LM.nil ?_
      refine QM.sub (e' := [(4, _), (7, _), (9, _), (10, _), (11, _)]) ⟨rfl, rfl, rfl, rfl, rfl, trivial⟩ ?_
      refine QM.meetK ((out ++ [32], m29)) ⟨rfl, rfl, rfl, rfl, rfl, trivial⟩ (by (repeat' (first | exact SubM.nil _ | refine SubM.cons rfl ?_ | refine SubM.app ?_))) ?_
      · exact ⟨hB29, by unfold glue; rw [if_pos (by rw [← hq]; exact h4)], by simp⟩
     ·
      refine wpM.skip ?_
      refine QM.meetK ((out, mb)) ⟨rfl, rfl, rfl, rfl, rfl, trivial⟩ (by (repeat' (first | exact SubM.nil _ | refine SubM.cons rfl ?_ | refine SubM.app ?_))) ?_
      · exact ⟨hB, by unfold glue; rw [if_neg (by rw [← hq, h4]; simp)], by omega⟩
    ·
     rintro ⟨o2, mb2⟩ ⟨hB2, hg2, hl2⟩
     change QM _ _ _ _ _ (mb2 ++ ((b6, .cells (fW (ws.getD i default)).toArray 80 (0, 0)) :: [])) _ _ _
     refine QM.then ?_
     refine wpM.region ?_
     refine LM.val (ov_move rfl) ?_
     refine LM.cB (s' := glue out (textO (ws.getD i default)).1) hB2 (fun _ => trivial) (by repeat (first | exact nr_nil | refine nr_cons (by intro c fz h; cases h) ?_)) (oc_call (enters_fn Tryd.func47 (by kernel_rfl) rfl) rfl) (fun w hi hsz => hg2 ▸ bstr_ret _ hi hsz (by omega)) (fun m31 hB31 => ?_)
     refine LM.nil ?_
     refine QM.sub (e' := [(4, _), (9, _), (10, _), (11, _)]) ⟨rfl, rfl, rfl, rfl, trivial⟩ ?_
     refine QM.block_normal ?_
     refine QM.then ?_
     refine wpM.region ?_
     refine LM.val (ov_add64 rfl rfl (by omega)) ?_
     refine LM.val (ov_move rfl) ?_
     refine LM.nil ?_
     refine QM.sub (e' := [(4, _), (9, _), (10, _), (11, _)]) ⟨rfl, rfl, rfl, rfl, trivial⟩ ?_
     refine QM.againK ((i + 1, glue out (textO (ws.getD i default)).1, m31)) ⟨(by first | rfl | exact lk rfl (by congr 1; omega) | exact lk rfl (by simp)), rfl, rfl, rfl, trivial⟩ (by (repeat' (first | exact SubM.nil _ | refine SubM.cons rfl ?_ | refine SubM.app ?_))) (fun _ h => h) ?_ ?_
     · exact ⟨by omega, (joinF_next (by omega) (Classical.not_not.1 h2)).symm.trans hj, hB31, by omega⟩
     · first | omega | (dsimp only; omega)
 ·
  refine wpM.exit ?_
  refine QM.then_exit ?_
  refine QM.then_exit ?_
  refine QM.block_hit ?_
  refine QM.then ?_
  refine wpM.seq ?_
  refine wpM.seq ?_
  refine wpM.region ?_
  refine LM.callE (oc_call (enters_fn Tryd.func79 (by kernel_rfl) rfl) rfl) (fun w hm hc hg => blen_ret (hB.is (hm.pick mb))) ?_
  refine LM.val (ov_gtr rfl rfl) ?_
  refine LM.nil ?_
  refine QM.sub (e' := [(4, _), (34, _)]) ⟨rfl, rfl, trivial⟩ ?_
  refine QM.then ?_
  first | refine wpM.condD rfl (fun h5 => ?_) (fun h5 => ?_) | refine wpM.condB rfl (fun h5 => ?_) (fun h5 => ?_)
  ·
   refine wpM.seq ?_
   refine wpM.region ?_
   refine LM.val (ov_assign rfl) ?_
   refine LM.val (ov_assign rfl) ?_
   refine LM.nil ?_
   refine QM.sub (e' := [(2, _), (3, _)]) ⟨rfl, rfl, trivial⟩ ?_
   refine QM.then ?_
   refine wpM.ret ?_
   refine QM.then_ret ?_
   refine QM.leave (.inl rfl) [.tmp 2, .tmp 3] Tryd.results42 rfl ?_
   intro w' hm' hc' hg'
   have hb := hj; rw [joinF_end (by omega), if_pos (by omega)] at hb; refine ⟨?_, hc'⟩; rw [← hb]; rfl
  ·
   refine wpM.skip ?_
   refine QM.then ?_
   refine wpM.seq ?_
   refine wpM.region ?_
   refine LM.cB (s' := out) hB (fun _ => trivial) (by repeat (first | exact nr_nil | refine nr_cons (by intro c fz h; cases h) ?_)) (oc_call (enters_fn Tryd.func48 (by kernel_rfl) rfl) rfl) (fun w hi hsz => bget_ret hi hsz) (fun m35 hB35 => ?_)
   refine LM.val (ov_assign rfl) ?_
   refine LM.val (ov_assign rfl) ?_
   refine LM.nil ?_
   refine QM.sub (e' := [(2, _), (3, _)]) ⟨rfl, rfl, trivial⟩ ?_
   refine QM.then ?_
   refine wpM.ret ?_
   refine QM.leave (.inl rfl) [.tmp 2, .tmp 3] Tryd.results42 rfl ?_
   intro w' hm' hc' hg'
   have hb := hj; rw [joinF_end (by omega), if_neg (by omega)] at hb; refine ⟨?_, hc'⟩; rw [← hb]; rfl

end Go.Eng

