/- The walks of the scanner of scripts: runs, blanks and remarks, numbers. No condition. -/
import Derived.Test.YtbndlommbpkijaaDoorTokC
import Derived.Lib.AtoiErrMem
set_option linter.unusedVariables false
set_option linter.unusedSimpArgs false
namespace Go.Eng
open Go Go.Proofs Go.RowKit

section
variable {P : Program} {ty : TypeId} {e : Env} {x lo hi : Operand} {t : TypeId} {l : List UInt8}
theorem ov_sslcLo {k : IntKind} {i : Int} (ht : P.underlying t = some .string) (hx : ev e x = some (vS l)) (hl : ev e lo = some (.int k i)) (h1 : 0 ≤ i) (h2 : i ≤ l.length) :
    OpP P (.slice t x (some lo) none none) ty e (vS (l.drop i.toNat)) := fun w ρ hρ _ _ _ _ => by
  have a1 : 0 ≤ ((bs l).size : Int) ∧ ((bs l).size : Int) ≤ ((bs l).size : Int) := by omega
  have a2 : 0 ≤ i ∧ i ≤ (((bs l).size : Nat) : Int) := by rw [bs_size]; omega
  have h4 : (bs l).extract i.toNat (bs l).size = bs (l.drop i.toNat) := by
    rw [bs_size]
    have := Lib.extract_eq (bs l) i.toNat l.length
    refine this.trans ?_
    show bs ((l.drop i.toNat).take (l.length - i.toNat)) = _
    rw [List.take_of_length_le (by rw [List.length_drop]; omega)]
  simp [execOp, Instr.sliceAt, Instr.slice, Instr.sliceBounds, Instr.sliceBound, asIntOf, hρ x _ hx, hρ lo _ hl, Result.andThen, run_underlying ht, a2, h4]
theorem ov_sslcHi {k : IntKind} {j : Int} (ht : P.underlying t = some .string) (hx : ev e x = some (vS l)) (hh : ev e hi = some (.int k j)) (h1 : 0 ≤ j) (h3 : j ≤ l.length) :
    OpP P (.slice t x none (some hi) none) ty e (vS (l.take j.toNat)) := fun w ρ hρ _ _ _ _ => by
  have a1 : 0 ≤ j ∧ j ≤ ((bs l).size : Int) := by rw [bs_size]; omega
  have h4 : (bs l).extract 0 j.toNat = bs (l.take j.toNat) := by
    have := Lib.extract_eq (bs l) 0 j.toNat
    simpa using this
  simp [execOp, Instr.sliceAt, Instr.slice, Instr.sliceBounds, Instr.sliceBound, asIntOf, hρ x _ hx, hρ hi _ hh, Result.andThen, run_underlying ht, a1, h4]
end
abbrev blankL : List UInt8 := [32, 9, 10]
abbrev digitL : List UInt8 := [48, 49, 50, 51, 52, 53, 54, 55, 56, 57]
theorem blanks_blank (c : UInt8) : blankL.contains c = blankB c := all256 (fun c => blankL.contains c) blankB (by decide +kernel) c
theorem digits_dig (c : UInt8) : digitL.contains c = digB c := all256 (fun c => digitL.contains c) digB (by decide +kernel) c
theorem letters_at (c : UInt8) : decide (0 ≤ Lib.indexByte lettersL c) = letB c := all256 (fun c => decide (0 ≤ Lib.indexByte lettersL c)) letB (by decide +kernel) c
theorem digits_at (c : UInt8) : decide (0 ≤ Lib.indexByte digitL c) = digB c := all256 (fun c => decide (0 ≤ Lib.indexByte digitL c)) digB (by decide +kernel) c
theorem trim_len {of : List UInt8} {p : UInt8 → Bool} (hp : ∀ c, of.contains c = p c) (s : List UInt8) (i : Nat) : (Lib.trimLeftS (s.drop i) of).length = s.length - i - runL p s i ∧ runL p s i ≤ s.length - i := by
  have hf : (fun c => of.contains c) = p := funext hp
  have h1 : (s.drop i).length = ((s.drop i).takeWhile p).length + ((s.drop i).dropWhile p).length := by
    conv => lhs; rw [← List.takeWhile_append_dropWhile (p := p) (l := s.drop i)]
    rw [List.length_append]
  unfold Lib.trimLeftS runL
  rw [hf]
  rw [List.length_drop] at h1
  omega
theorem tw_take (p : UInt8 → Bool) : ∀ (l : List UInt8), l.take (l.takeWhile p).length = l.takeWhile p
  | [] => rfl
  | c :: l => by
    rw [List.takeWhile_cons]
    cases h : p c with
    | true => rw [if_pos rfl, List.length_cons, List.take_succ_cons, tw_take p l]
    | false => rfl
theorem run_pre (p : UInt8 → Bool) (s : List UInt8) (i : Nat) : (s.drop i).take (runL p s i) = (s.drop i).takeWhile p := tw_take p _
/-! blanks and remarks -/
def skipF : Nat → List UInt8 → Nat → Nat
  | 0, s, i => i + runL blankB s i
  | f + 1, s, i => if decide (i + runL blankB s i < s.length) && hashB (s.getD (i + runL blankB s i) 0) then skipF f s (i + runL blankB s i + runL notNl s (i + runL blankB s i)) else i + runL blankB s i
theorem hash_go {s : List UInt8} {j : Nat} (h : j < s.length) (hh : hashB (s.getD j 0) = true) : j < j + runL notNl s j := by
  have := runL_step (p := notNl) h (hash_nl hh); omega
theorem skipF_fuel (s : List UInt8) : ∀ (f g i : Nat), s.length - i ≤ f → s.length - i ≤ g → skipF f s i = skipF g s i
  | 0, 0, i, _, _ => rfl
  | 0, g + 1, i, h1, h2 => by rw [skipF, skipF, if_neg (by simp; omega)]
  | f + 1, 0, i, h1, h2 => by rw [skipF, skipF, if_neg (by simp; omega)]
  | f + 1, g + 1, i, h1, h2 => by
    simp only [skipF]
    split
    · rename_i q
      simp only [Bool.and_eq_true, decide_eq_true_eq] at q
      have := hash_go q.1 q.2
      exact skipF_fuel s f g _ (by omega) (by omega)
    · rfl
def skipO (s : List UInt8) (i : Nat) : Nat := skipF (s.length - i) s i
theorem skip_stop {s : List UInt8} {i : Nat} (h : (decide (i + runL blankB s i < s.length) && hashB (s.getD (i + runL blankB s i) 0)) = false) : skipO s i = i + runL blankB s i := by
  unfold skipO
  cases hf : s.length - i with
  | zero => rfl
  | succ f => rw [skipF, if_neg (by rw [h]; simp)]
theorem skip_go {s : List UInt8} {i : Nat} (h : (decide (i + runL blankB s i < s.length) && hashB (s.getD (i + runL blankB s i) 0)) = true) : skipO s i = skipO s (i + runL blankB s i + runL notNl s (i + runL blankB s i)) := by
  have q := h
  simp only [Bool.and_eq_true, decide_eq_true_eq] at q
  have := hash_go q.1 q.2
  unfold skipO
  obtain ⟨f, hf⟩ : ∃ f, s.length - i = f + 1 := ⟨s.length - i - 1, by omega⟩
  rw [hf, skipF, if_pos h]
  exact skipF_fuel s _ _ _ (by omega) (Nat.le_refl _)
theorem skipF_end (s : List UInt8) : ∀ (f i : Nat), i ≤ s.length → s.length - i ≤ f → i ≤ skipF f s i ∧ skipF f s i ≤ s.length ∧ (skipF f s i < s.length → blankB (s.getD (skipF f s i) 0) = false ∧ hashB (s.getD (skipF f s i) 0) = false)
  | f, i, h, hf => by
    have hb := runL_le blankB s i
    have stop : (decide (i + runL blankB s i < s.length) && hashB (s.getD (i + runL blankB s i) 0)) = false → i ≤ i + runL blankB s i ∧ i + runL blankB s i ≤ s.length ∧ (i + runL blankB s i < s.length → blankB (s.getD (i + runL blankB s i) 0) = false ∧ hashB (s.getD (i + runL blankB s i) 0) = false) := fun q => by
      refine ⟨by omega, by omega, fun hl => ?_⟩
      rw [decide_eq_true hl, Bool.true_and] at q
      refine ⟨?_, q⟩
      cases hc : blankB (s.getD (i + runL blankB s i) 0) with
      | false => rfl
      | true =>
        exfalso
        have e1 : (s.drop i).takeWhile blankB = (s.drop i).take (runL blankB s i) := (run_pre blankB s i).symm
        have h3 : (s.drop i)[runL blankB s i]? = some (s.getD (i + runL blankB s i) 0) := by
          rw [List.getElem?_drop]; exact getq 0 hl
        have := takeWhile_next (p := blankB) (l := s.drop i) h3
        rw [this] at hc; cases hc
    cases f with
    | zero =>
      rw [skipF]; exact stop (by rw [decide_eq_false (by omega)]; rfl)
    | succ f =>
      rw [skipF]
      split
      · rename_i q
        simp only [Bool.and_eq_true, decide_eq_true_eq] at q
        have h1 := hash_go q.1 q.2
        have h2 := runL_le notNl s (i + runL blankB s i)
        have := skipF_end s f (i + runL blankB s i + runL notNl s (i + runL blankB s i)) (by omega) (by omega)
        exact ⟨by omega, this.2⟩
      · rename_i q
        exact stop (by simpa using q)
where
  takeWhile_next {p : UInt8 → Bool} {l : List UInt8} {c : UInt8} (h : l[(l.takeWhile p).length]? = some c) : p c = false := by
    induction l with
    | nil => simp at h
    | cons a l ih =>
      rw [List.takeWhile_cons] at h
      cases ha : p a with
      | true => rw [ha, if_pos rfl, List.length_cons, List.getElem?_cons_succ] at h; exact ih h
      | false => rw [ha] at h; simp at h; rw [← h]; exact ha
theorem skip_end {s : List UInt8} {i : Nat} (h : i ≤ s.length) : i ≤ skipO s i ∧ skipO s i ≤ s.length ∧ (skipO s i < s.length → blankB (s.getD (skipO s i) 0) = false ∧ hashB (s.getD (skipO s i) 0) = false) := skipF_end s _ i h (Nat.le_refl _)
theorem hash_blank {c : UInt8} (h : hashB c = true) : blankB c = false := by
  have := all256 (fun c => !hashB c || !blankB c) (fun _ => true) (by decide +kernel) c
  rw [h] at this; simpa using this
theorem scanR_blanks {s : List UInt8} {last : Int} {out : List Wrd} : ∀ (n i : Nat), n = runL blankB s i → i ≤ s.length → scanR s i last out = scanR s (i + n) last out
  | 0, i, _, _ => rfl
  | n + 1, i, h, hi => by
    have hl := runL_le blankB s i
    have hlt : i < s.length := by omega
    have hb : blankB (s.getD i 0) = true := by
      cases hb : blankB (s.getD i 0) with
      | true => rfl
      | false => rw [runL_stop hlt hb] at h; cases h
    have h1 := runL_step hlt hb
    rw [scanR_blank hlt hb, scanR_blanks n (i + 1) (by omega) (by omega), show i + 1 + n = i + (n + 1) by omega]
theorem scanR_skipF {s : List UInt8} {last : Int} {out : List Wrd} : ∀ (f i : Nat), i ≤ s.length → scanR s i last out = scanR s (skipF f s i) last out
  | 0, i, h => scanR_blanks _ i rfl h
  | f + 1, i, h => by
    rw [scanR_blanks _ i rfl h, skipF]
    split
    · rename_i q
      simp only [Bool.and_eq_true, decide_eq_true_eq] at q
      have hb := hash_blank q.2
      have h2 := runL_le notNl s (i + runL blankB s i)
      rw [scanR_hash q.1 hb q.2 rfl]
      refine scanR_skipF f _ ?_; omega
    · rfl
theorem scanR_skip {s : List UInt8} {i : Nat} {last : Int} {out : List Wrd} (h : i ≤ s.length) : scanR s i last out = scanR s (skipO s i) last out := scanR_skipF _ i h
theorem idx_nl : ∀ (l : List UInt8), Lib.indexByte l 10 = if (l.takeWhile notNl).length = l.length then -1 else ((l.takeWhile notNl).length : Int)
  | [] => rfl
  | c :: l => by
    have ih := idx_nl l
    have hle := (List.takeWhile_sublist (l := l) notNl).length_le
    rw [Lib.indexByte, ih, List.takeWhile_cons]
    have hc : notNl c = !(c == 10) := all256 notNl (fun c => !(c == 10)) (by decide +kernel) c
    cases hq : c == 10 with
    | true => rw [hc, hq]; simp
    | false =>
      rw [hc, hq]
      simp only [Bool.not_false, if_true, Bool.false_eq_true, if_false, List.length_cons]
      by_cases h2 : (l.takeWhile notNl).length = l.length
      · simp [h2]
      · have h3 : ¬ (((l.takeWhile notNl).length : Int) = -1) := by omega
        simp [h2, h3]
theorem pre_hash {s : List UInt8} {j : Nat} : Lib.hasPrefix (s.drop j) [35] = (decide (j < s.length) && hashB (s.getD j 0)) := by
  unfold Lib.hasPrefix
  by_cases h : j < s.length
  · rw [drop_get h, decide_eq_true h, Bool.true_and]
    have := all256 (fun c => List.isPrefixOf [35] (c :: ([] : List UInt8))) hashB (by decide +kernel) (s.getD j 0)
    simpa [List.isPrefixOf] using this
  · rw [List.drop_of_length_le (by omega), decide_eq_false h]; rfl
/-! numbers -/
def okT (t : List UInt8) : Bool := decide (t ≠ []) && decide (t.length ≤ 9) && !(decide (1 < t.length) && decide ((((t.getD 0 0).toNat : Nat) : Int) = 48))
theorem dec_num : ∀ (l : List UInt8) (k acc : Nat), l.length ≤ k → l.all digB = true → ∃ m : Nat, Lib.decFrom acc l = some m ∧ (m : Int) = numF k l acc
  | [], k, acc, _, _ => ⟨acc, rfl, by cases k <;> rfl⟩
  | c :: l, 0, acc, h, _ => absurd h (by simp)
  | c :: l, k + 1, acc, h, ha => by
    rw [List.all_cons, Bool.and_eq_true] at ha
    have hr := dig_rng ha.1
    obtain ⟨m, h1, h2⟩ := dec_num l k (acc * 10 + (c.toNat - 48)) (by simpa using h) ha.2
    refine ⟨m, ?_, ?_⟩
    · rw [Lib.decFrom, Lib.digitVal, if_pos (by omega)]; exact h1
    · rw [numF, if_pos ha.1, h2]; congr 1; omega
theorem atoi_num {t : List UInt8} (h0 : t ≠ []) (h : t.length ≤ 9) (ha : t.all digB = true) : Lib.atoi t = some (numF 9 t 0) := by
  match t, h0 with
  | c :: l, _ =>
    have hc : digB c = true := by rw [List.all_cons, Bool.and_eq_true] at ha; exact ha.1
    have hr := dig_rng hc
    have n1 : (c == 45) = false := by rw [beq_eq_false_iff_ne]; intro q; subst q; simp at hr
    have n2 : (c == 43) = false := by rw [beq_eq_false_iff_ne]; intro q; subst q; simp at hr
    obtain ⟨m, h1, h2⟩ := dec_num (c :: l) 9 0 h ha
    have e : Lib.atoi (c :: l) = if (c == 45) = true then (Lib.decNat l).map fun (m : Nat) => -(m : Int) else if (c == 43) = true then (Lib.decNat l).map fun (m : Nat) => (m : Int) else (Lib.decNat (c :: l)).map fun (m : Nat) => (m : Int) := rfl
    have e2 : Lib.decNat (c :: l) = Lib.decFrom 0 (c :: l) := rfl
    rw [e, n1, n2, if_neg (by simp), if_neg (by simp), e2, h1, Option.map_some, h2]; rfl
theorem numF_tw : ∀ (k : Nat) (l : List UInt8) (n : Int), numF k (l.takeWhile digB) n = numF k l n
  | 0, l, n => by cases l <;> (try (rw [List.takeWhile_cons]; split)) <;> rfl
  | k + 1, [], n => rfl
  | k + 1, c :: l, n => by
    rw [List.takeWhile_cons]
    cases h : digB c with
    | true => rw [if_pos rfl, numF, if_pos h, numF, if_pos h, numF_tw k l]
    | false => rw [if_neg (by simp)]; rw [numF, numF, if_neg (by rw [h]; simp)]
theorem atoi_ret {t : List UInt8} (h0 : t ≠ []) (h : t.length ≤ 9) (ha : t.all digB = true) (w : World) : Ret Tryd.prog 118 #[vS t] w (fun v w' => v = .tuple #[.int .i64 (numF 9 t 0), .nilIface] ∧ Ext w w') :=
  (Any.strconv_Atoi l172 (bs t) (numF 9 t 0) (by rw [bs_size]; omega) (atoi_num h0 h ha) w).mono (fun e w' ⟨he, k, hw⟩ => ⟨_, he, rfl, by rw [hw]; exact Ext.of_below (Lib.bytesWorld_below w _ _)⟩)
theorem tleft_ret (t of : List UInt8) (hx : of.length < 4294967281) (ha : of.all (fun b => decide (b.toNat < 128)) = true) (w : World) : Ret Tryd.prog 116 #[vS t, vS of] w (fun v w' => v = vS (Lib.trimLeftS t of) ∧ Ext w w') :=
  (Any.strings_TrimLeft_laid l161 l160set (bs t) (bs of) w (by rw [bs_size]; exact hx) (ascii_of_all ha)).mono (fun e w' ⟨he, hb⟩ => ⟨_, he, rfl, Ext.of_below hb⟩)
theorem pre_ret (t p : List UInt8) (w : World) : Ret Tryd.prog 82 #[vS t, vS p] w (fun v w' => v = .bool (Lib.hasPrefix t p) ∧ Ext w w') :=
  (Any.strings_HasPrefix l99 (bs t) (bs p) w).mono (fun e w' ⟨he, hw⟩ => ⟨_, he, rfl, by rw [hw]; exact Chg.refl _ _⟩)
theorem idx_ret (t : List UInt8) (c : Int) (w : World) : Ret Tryd.prog 55 #[vS t, .int .u8 c] w (fun v w' => v = .int .i64 (Lib.indexByte t c.toNat.toUInt8) ∧ Ext w w') :=
  (Any.strings_IndexByte l137 (bs t) c w).mono (fun e w' ⟨he, hw⟩ => ⟨_, he, rfl, by rw [hw]; exact Chg.refl _ _⟩)
end Go.Eng

