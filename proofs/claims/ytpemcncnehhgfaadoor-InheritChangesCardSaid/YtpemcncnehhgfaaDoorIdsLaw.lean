/- Sets of numbers up to 63 as words: their members, the least, how many; no program. No condition. -/
import Derived.Test.YtpemcncnehhgfaaDoorEng9
set_option linter.unusedVariables false
set_option linter.unusedSimpArgs false
namespace Go.Eng
open Go Go.RowKit

def debT : List Int := [0, 1, 56, 2, 57, 49, 28, 3, 61, 58, 42, 50, 38, 29, 17, 4, 62, 47, 59, 36, 45, 43, 51, 22, 53, 39, 33, 30, 24, 18, 12, 5, 63, 55, 48, 27, 60, 41, 37, 16, 46, 35, 44, 21, 52, 32, 23, 11, 54, 26, 40, 15, 34, 20, 31, 10, 25, 14, 19, 9, 13, 8, 7, 6]
/-- the least member; 64: none -/
def lsb (x : BitVec 64) : Nat := ((List.range 64).find? (fun i => x.getLsbD i)).getD 64
theorem lsb_spec {x : BitVec 64} (h : x ≠ 0#64) : lsb x < 64 ∧ x.getLsbD (lsb x) = true ∧ ∀ j, j < lsb x → x.getLsbD j = false := by
  unfold lsb
  cases hf : (List.range 64).find? (fun i => x.getLsbD i) with
  | none =>
    exfalso; apply h
    rw [List.find?_eq_none] at hf
    apply BitVec.eq_of_getLsbD_eq
    intro i hi
    have := hf i (List.mem_range.2 hi)
    simpa using this
  | some i =>
    rw [List.find?_range_eq_some] at hf
    simp only [Option.getD_some]
    obtain ⟨h1, h2, h3⟩ := hf
    exact ⟨by simpa using h2, h1, fun j hj => by simpa using h3 j hj⟩
theorem lsb_zero : lsb 0#64 = 64 := by decide
theorem lsb_uniq {x : BitVec 64} {i : Nat} (hi : i < 64) (h : x.getLsbD i = true) (hl : ∀ j, j < i → x.getLsbD j = false) : lsb x = i := by
  have hx : x ≠ 0#64 := by intro e; subst e; simp at h
  obtain ⟨h1, h2, h3⟩ := lsb_spec hx
  rcases Nat.lt_trichotomy (lsb x) i with h4 | h4 | h4
  · rw [hl _ h4] at h2; cases h2
  · exact h4
  · rw [h3 _ h4] at h; cases h
theorem ex_below {x : BitVec 64} (h : x ≠ 0#64) (i : Nat) : (∃ j, j < i ∧ x.getLsbD j = true) ↔ lsb x < i := by
  obtain ⟨h1, h2, h3⟩ := lsb_spec h
  constructor
  · rintro ⟨j, hj, hb⟩
    apply Nat.lt_of_not_le; intro hle
    have : j < lsb x := by omega
    rw [h3 j this] at hb; cases hb
  · intro hlt; exact ⟨_, hlt, h2⟩
theorem and_neg {x : BitVec 64} (h : x ≠ 0#64) : x &&& -x = BitVec.twoPow 64 (lsb x) := by
  obtain ⟨h1, h2, h3⟩ := lsb_spec h
  apply BitVec.eq_of_getLsbD_eq
  intro i hi
  rw [BitVec.getLsbD_and, BitVec.getLsbD_neg, BitVec.getLsbD_twoPow, decide_eq_decide.2 (ex_below h i), decide_eq_true hi, decide_eq_true h1]
  rcases Nat.lt_trichotomy i (lsb x) with h4 | h4 | h4
  · rw [h3 i h4, decide_eq_false (show ¬ lsb x = i by omega)]; rfl
  · subst h4; rw [h2, decide_eq_false (Nat.lt_irrefl _)]; simp
  · rw [decide_eq_true (show lsb x < i from h4), decide_eq_false (show ¬ lsb x = i by omega)]; cases x.getLsbD i <;> rfl
theorem and_pred {x : BitVec 64} (h : x ≠ 0#64) (i : Nat) : (x &&& (x - 1#64)).getLsbD i = (x.getLsbD i && decide (lsb x < i)) := by
  by_cases hi : i < 64
  · rw [BitVec.getLsbD_and, ← BitVec.not_neg, BitVec.getLsbD_not, BitVec.getLsbD_neg, decide_eq_decide.2 (ex_below h i), decide_eq_true hi]
    cases x.getLsbD i <;> cases decide (lsb x < i) <;> rfl
  · rw [BitVec.getLsbD_of_ge _ _ (by omega), BitVec.getLsbD_of_ge x _ (by omega)]; rfl
theorem deb_at : ∀ i, i < 64 → debT.getD ((BitVec.twoPow 64 i * 285870213051353865#64) >>> 58).toNat 0 = (i : Int) ∧ ((BitVec.twoPow 64 i * 285870213051353865#64) >>> 58).toNat < 64 := by decide

/-! the members -/
def allL (s : BitVec 64) : List Nat := (List.range 64).filter (fun i => s.getLsbD i)
theorem allL_mem {s : BitVec 64} {i : Nat} : i ∈ allL s ↔ s.getLsbD i = true := by
  unfold allL
  rw [List.mem_filter, List.mem_range]
  constructor
  · exact fun h => h.2
  · intro h; refine ⟨?_, h⟩; apply Nat.lt_of_not_le; intro hle; rw [BitVec.getLsbD_of_ge _ _ hle] at h; cases h
theorem allL_sorted (s : BitVec 64) : (allL s).Pairwise (· < ·) := List.Pairwise.filter _ List.pairwise_lt_range
theorem sorted_eq : ∀ {l l' : List Nat}, l.Pairwise (· < ·) → l'.Pairwise (· < ·) → (∀ i, i ∈ l ↔ i ∈ l') → l = l'
  | [], [], _, _, _ => rfl
  | [], b :: l', _, _, h => by have := (h b).2 (List.mem_cons_self ..); cases this
  | a :: l, [], _, _, h => by have := (h a).1 (List.mem_cons_self ..); cases this
  | a :: l, b :: l', h1, h2, h => by
    rw [List.pairwise_cons] at h1 h2
    have e : a = b := by
      rcases List.mem_cons.1 ((h a).1 (List.mem_cons_self ..)) with e | e
      · exact e
      · rcases List.mem_cons.1 ((h b).2 (List.mem_cons_self ..)) with e' | e'
        · exact e'.symm
        · have := h1.1 b e'; have := h2.1 a e; omega
    subst e
    rw [sorted_eq h1.2 h2.2 (fun i => ⟨fun hi => by
        rcases List.mem_cons.1 ((h i).1 (List.mem_cons_of_mem _ hi)) with e | e
        · subst e; exact absurd (h1.1 i hi) (Nat.lt_irrefl _)
        · exact e, fun hi => by
        rcases List.mem_cons.1 ((h i).2 (List.mem_cons_of_mem _ hi)) with e | e
        · subst e; exact absurd (h2.1 i hi) (Nat.lt_irrefl _)
        · exact e⟩)]
theorem allL_cons {s : BitVec 64} (h : s ≠ 0#64) : allL s = lsb s :: allL (s &&& (s - 1#64)) := by
  obtain ⟨h1, h2, h3⟩ := lsb_spec h
  refine sorted_eq (allL_sorted s) ?_ ?_
  · rw [List.pairwise_cons]
    refine ⟨fun i hi => ?_, allL_sorted _⟩
    rw [allL_mem, and_pred h, Bool.and_eq_true, decide_eq_true_eq] at hi; exact hi.2
  · intro i
    rw [List.mem_cons, allL_mem, allL_mem, and_pred h, Bool.and_eq_true, decide_eq_true_eq]
    constructor
    · intro hb
      rcases Nat.lt_trichotomy i (lsb s) with h4 | h4 | h4
      · rw [h3 i h4] at hb; cases hb
      · exact .inl h4
      · exact .inr ⟨hb, h4⟩
    · rintro (rfl | h5)
      · exact h2
      · exact h5.1
theorem allL_zero : allL 0#64 = [] := by decide
theorem allL_nil {s : BitVec 64} (h : allL s = []) : s = 0#64 := by
  apply Classical.byContradiction; intro hs; rw [allL_cons hs] at h; cases h
def firstI (s : BitVec 64) : Int := if s = 0#64 then -1 else (lsb s : Nat)
theorem firstI_head (s : BitVec 64) : firstI s = match allL s with | [] => -1 | i :: _ => (i : Int) := by
  unfold firstI
  by_cases h : s = 0#64
  · rw [if_pos h, h, allL_zero]
  · rw [if_neg h, allL_cons h]

/-! one number -/
def bitU (i : Int) : BitVec 64 := if i < 0 ∨ 63 < i then 0#64 else 1#64 <<< i.toNat
def hasB (s : BitVec 64) (i : Int) : Bool := decide (0 ≤ i) && (decide (i < 64) && s.getLsbD i.toNat)
theorem bitU_get (i : Int) (j : Nat) : (bitU i).getLsbD j = (decide ((j : Int) = i) && decide (j < 64)) := by
  unfold bitU
  split
  · rename_i h
    rw [BitVec.getLsbD_zero]
    by_cases hj : (j : Int) = i
    · rw [decide_eq_false (show ¬ j < 64 by omega)]; simp
    · rw [decide_eq_false hj]; rfl
  · rename_i h
    rw [BitVec.getLsbD_shiftLeft, BitVec.getLsbD_one]
    by_cases hj : (j : Int) = i
    · have : i.toNat = j := by omega
      subst hj
      simp [show j < 64 by omega]
    · rw [decide_eq_false hj]
      by_cases h1 : j < i.toNat
      · simp [h1]
      · have : ¬ j - i.toNat = 0 := by omega
        simp [this]
theorem has_bit (s : BitVec 64) (i : Int) : decide (s &&& bitU i ≠ 0#64) = hasB s i := by
  unfold hasB
  rw [Bool.eq_iff_iff]
  simp only [decide_eq_true_eq, Bool.and_eq_true]
  constructor
  · intro h
    have hi : 0 ≤ i ∧ i < 64 := by
      apply Classical.byContradiction; intro hn; apply h
      have : bitU i = 0#64 := by unfold bitU; rw [if_pos (by omega)]
      rw [this]; simp
    refine ⟨hi.1, hi.2, ?_⟩
    apply Classical.byContradiction; intro hb; apply h
    apply BitVec.eq_of_getLsbD_eq
    intro j hj
    rw [BitVec.getLsbD_and, bitU_get, BitVec.getLsbD_zero]
    by_cases e : (j : Int) = i
    · have : i.toNat = j := by omega
      rw [this] at hb; simp [hb]
    · rw [decide_eq_false e]; simp
  · rintro ⟨h1, h2, h3⟩ e
    have : (s &&& bitU i).getLsbD i.toNat = true := by
      rw [BitVec.getLsbD_and, h3, bitU_get, decide_eq_true (show ((i.toNat : Nat) : Int) = i by omega), decide_eq_true (show i.toNat < 64 by omega)]; rfl
    rw [e, BitVec.getLsbD_zero] at this; cases this
theorem hasB_nat {s : BitVec 64} {i : Nat} : hasB s (i : Int) = s.getLsbD i := by
  unfold hasB
  by_cases h : i < 64
  · rw [decide_eq_true (show (0 : Int) ≤ i by omega), decide_eq_true (show (i : Int) < 64 by omega), Int.toNat_natCast]; rfl
  · have := BitVec.getLsbD_of_ge s i (by omega)
    rw [decide_eq_false (show ¬ (i : Int) < 64 by omega), this]; simp
def withS (s : BitVec 64) (i : Int) : BitVec 64 := s ||| bitU i
def witho (s : BitVec 64) (i : Int) : BitVec 64 := s &&& ~~~(bitU i)
theorem hasB_withS (s : BitVec 64) (i k : Int) : hasB (withS s i) k = (hasB s k || (decide (k = i) && (decide (0 ≤ k) && decide (k < 64)))) := by
  unfold hasB withS
  rw [BitVec.getLsbD_or, bitU_get]
  by_cases h1 : 0 ≤ k <;> by_cases h2 : k < 64
  · have e : decide (((k.toNat : Nat) : Int) = i) = decide (k = i) := decide_eq_decide.2 (by omega)
    rw [e, decide_eq_true (show k.toNat < 64 by omega), decide_eq_true h1, decide_eq_true h2]; cases s.getLsbD k.toNat <;> cases decide (k = i) <;> rfl
  all_goals simp [h1, h2]
theorem hasB_witho (s : BitVec 64) (i k : Int) : hasB (witho s i) k = (hasB s k && !(decide (k = i))) := by
  unfold hasB witho
  rw [BitVec.getLsbD_and, BitVec.getLsbD_not, bitU_get]
  by_cases h1 : 0 ≤ k <;> by_cases h2 : k < 64
  · have e : decide (((k.toNat : Nat) : Int) = i) = decide (k = i) := decide_eq_decide.2 (by omega)
    rw [e, decide_eq_true (show k.toNat < 64 by omega), decide_eq_true h1, decide_eq_true h2]; cases s.getLsbD k.toNat <;> cases decide (k = i) <;> rfl
  all_goals simp [h1, h2]
theorem set_ext {a b : BitVec 64} (h : ∀ i : Nat, i < 64 → hasB a i = hasB b i) : a = b := by
  apply BitVec.eq_of_getLsbD_eq
  intro i hi
  have := h i hi
  rwa [hasB_nat, hasB_nat] at this
theorem hasB_or (a b : BitVec 64) (i : Int) : hasB (a ||| b) i = (hasB a i || hasB b i) := by
  unfold hasB; rw [BitVec.getLsbD_or]; cases decide (0 ≤ i) <;> cases decide (i < 64) <;> simp
theorem hasB_and (a b : BitVec 64) (i : Int) : hasB (a &&& b) i = (hasB a i && hasB b i) := by
  unfold hasB; rw [BitVec.getLsbD_and]; cases decide (0 ≤ i) <;> cases decide (i < 64) <;> simp
theorem hasB_zero (i : Int) : hasB 0#64 i = false := by unfold hasB; simp
theorem with_out {s : BitVec 64} {i : Int} (h : i < 0 ∨ 63 < i) : withS s i = s := by unfold withS bitU; rw [if_pos h]; simp
theorem with_has {s : BitVec 64} {i : Int} (h : hasB s i = true) : withS s i = s := by
  apply set_ext; intro k hk
  rw [hasB_withS]
  by_cases e : (k : Int) = i
  · rw [e, h]; rfl
  · rw [decide_eq_false e]; simp
theorem witho_no {s : BitVec 64} {i : Int} (h : hasB s i = false) : witho s i = s := by
  apply set_ext; intro k hk
  rw [hasB_witho]
  by_cases e : (k : Int) = i
  · rw [e, h]; rfl
  · rw [decide_eq_false e]; simp
theorem hasB_rng {s : BitVec 64} {i : Int} (h : hasB s i = true) : 0 ≤ i ∧ i < 64 := by
  simp only [hasB, Bool.and_eq_true, decide_eq_true_eq] at h; exact ⟨h.1, h.2.1⟩
/-- one has all of the other -/
def sub6 (a b : BitVec 64) : Prop := a &&& ~~~b = 0#64
instance (a b : BitVec 64) : Decidable (sub6 a b) := inferInstanceAs (Decidable (_ = _))
theorem sub6_iff {a b : BitVec 64} : a &&& ~~~b = 0#64 ↔ ∀ i : Nat, i < 64 → hasB a i = true → hasB b i = true := by
  constructor
  · intro h i hi ha
    rw [hasB_nat] at *
    have h1 : (a &&& ~~~b).getLsbD i = false := by rw [h]; simp
    rw [BitVec.getLsbD_and, BitVec.getLsbD_not, ha, decide_eq_true hi] at h1
    simpa using h1
  · intro h
    apply BitVec.eq_of_getLsbD_eq
    intro i hi
    have := h i hi
    rw [hasB_nat, hasB_nat] at this
    rw [BitVec.getLsbD_and, BitVec.getLsbD_not, decide_eq_true hi, BitVec.getLsbD_zero]
    cases h1 : a.getLsbD i
    · rfl
    · rw [this h1]; rfl

/-! the document's -/
theorem shr_mod (s : BitVec 64) (n : Nat) : decide ((s >>> n) % 2#64 = 1#64) = s.getLsbD n := by
  rw [Bool.eq_iff_iff, decide_eq_true_eq, BitVec.getLsbD, Nat.testBit]
  rw [← BitVec.toNat_inj, BitVec.toNat_umod, BitVec.toNat_ushiftRight]
  have h2 : (2#64).toNat = 2 := rfl
  have h1 : (1#64).toNat = 1 := rfl
  rw [h2, h1, Nat.one_and_eq_mod_two]
  have := Nat.mod_two_eq_zero_or_one (s.toNat >>> n)
  rcases this with h | h <;> simp [h]
theorem add_bit {s : BitVec 64} {i : Int} (h : ¬ (i < 0 ∨ 63 < i)) (hb : hasB s i = false) : s + 1#64 <<< i.toNat = withS s i := by
  have e : bitU i = 1#64 <<< i.toNat := by unfold bitU; rw [if_neg h]
  unfold withS
  rw [← e]
  apply BitVec.add_eq_or_of_and_eq_zero
  apply Classical.byContradiction; intro hn
  have := has_bit s i
  rw [hb, decide_eq_false_iff_not] at this
  exact this hn
theorem sub_bit {s : BitVec 64} {i : Int} (h : hasB s i = true) : s - 1#64 <<< i.toNat = witho s i := by
  have hi : 0 ≤ i ∧ i < 64 ∧ s.getLsbD i.toNat = true := by simpa [hasB] using h
  have e : bitU i = 1#64 <<< i.toNat := by unfold bitU; rw [if_neg (by omega)]
  unfold witho
  rw [← e]
  have h1 : s = (s &&& ~~~(bitU i)) ||| bitU i := by
    apply set_ext
    intro k hk
    have h2 := hasB_withS (witho s i) i k
    have h3 := hasB_witho s i k
    show hasB s k = hasB (withS (witho s i) i) k
    rw [h2, h3, decide_eq_true (show (0 : Int) ≤ k by omega), decide_eq_true (show (k : Int) < 64 by omega)]
    by_cases hki : (k : Int) = i
    · rw [decide_eq_true hki, hki, h]; rfl
    · rw [decide_eq_false hki]; simp
  have h2 : (s &&& ~~~(bitU i)) &&& bitU i = 0#64 := by
    apply BitVec.eq_of_getLsbD_eq; intro k hk
    rw [BitVec.getLsbD_and, BitVec.getLsbD_and, BitVec.getLsbD_not, BitVec.getLsbD_zero]
    cases (bitU i).getLsbD k <;> simp
  rw [← BitVec.add_eq_or_of_and_eq_zero _ _ h2] at h1
  conv => lhs; rw [h1]
  exact BitVec.add_sub_cancel _ _

/-- The library's table lies there. -/
def Tab (w : World) : Prop := ∃ cs E fz, w.heap[0]? = some (.cells cs E fz) ∧ ∀ i, i < 64 → cs[i]? = some (.int .u8 (debT.getD i 0))
theorem Tab.ext {w w' : World} (h : Tab w) (k : Ext w w') : Tab w' := by obtain ⟨cs, E, fz, h1, h2⟩ := h; exact ⟨cs, E, fz, k.get h1, h2⟩
theorem Tab.keep {S : Nat → Prop} {w w' : World} (h : Tab w) (k : Chg S w w') (hS : ¬ S 0) : Tab w' := by obtain ⟨cs, E, fz, h1, h2⟩ := h; exact ⟨cs, E, fz, k.get h1 hS, h2⟩
theorem Tab.bk {n : Nat} {w w' : World} (h : Tab w) (k : Bk n w w') : Tab w' := by obtain ⟨cs, E, fz, h1, h2⟩ := h; exact ⟨cs, E, fz, k.same 0 _ h1 (.inr rfl), h2⟩
theorem Tab.pos {w : World} (h : Tab w) : 0 < w.heap.size := by obtain ⟨cs, E, fz, h1, _⟩ := h; exact (Array.getElem?_eq_some_iff.1 h1).1
theorem tab_of_cells {w : World} (h : ∀ i, i < 64 → w.cell? ⟨0, i, none⟩ = some (.int .u8 (debT.getD i 0))) : Tab w := by
  have h0 := h 0 (by omega)
  unfold World.cell? at h0
  simp only at h0
  split at h0
  · rename_i cs E fz hb
    refine ⟨cs, E, fz, hb, fun i hi => ?_⟩
    have := h i hi
    unfold World.cell? at this
    simp only [hb] at this
    exact this
  · cases h0
theorem om_tab {P : Program} {e : Env} {x : Operand} {t ty : TypeId} {i off : Nat} {w : World} (hw : Tab w) (hT : ∀ w, (isAgg t).run P w = .ok false w) (ha : ev e x = some (.pointer (some ⟨0, off, none⟩))) (ho : off = i) (hi : i < 64) : OpV P (.load t x) ty e w (.int .u8 (debT.getD i 0)) w := by
  subst ho
  obtain ⟨cs, E, fz, h1, h2⟩ := hw
  have h := run_load_cell (P := P) h1 (h2 off hi)
  intro ρ hρ _ _ _ _
  simp [execOp, Instr.loadAt, Instr.sureAddr, hρ x _ ha, loadVar, hT, h, Result.andThen]
/-- bits of integers -/
def iand (a b : Int) : Int := IntKind.i64.wrap ((BitVec.ofInt 64 a &&& BitVec.ofInt 64 b).toNat : Int)
theorem ov_and64 {P : Program} {e : Env} {x y : Operand} {t u ty : TypeId} {a b : Int} (hx : ev e x = some (.int .i64 a)) (hy : ev e y = some (.int .i64 b)) : OpP P (.binOp .and t x y u) ty e (.int .i64 (iand a b)) := ov_arith hx hy (fun w => rfl)
/-- how many, as the library reckons -/
def pcA (x : BitVec 64) : BitVec 64 := (x >>> 1 &&& 6148914691236517205#64) + (x &&& 6148914691236517205#64)
def pcB (x : BitVec 64) : BitVec 64 := (x >>> 2 &&& 3689348814741910323#64) + (x &&& 3689348814741910323#64)
def pcC (x : BitVec 64) : BitVec 64 := (x >>> 4 + x) &&& 1085102592571150095#64
def pcD (x : BitVec 64) : BitVec 64 := x + x >>> 8
def pcE (x : BitVec 64) : BitVec 64 := x + x >>> 16
def pcF (x : BitVec 64) : BitVec 64 := x + x >>> 32
def pc64 (x : BitVec 64) : BitVec 64 := pcF (pcE (pcD (pcC (pcB (pcA x)))))
end Go.Eng
