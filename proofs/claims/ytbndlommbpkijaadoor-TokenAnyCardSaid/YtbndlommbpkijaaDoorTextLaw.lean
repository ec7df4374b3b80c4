/- The text of words; no program. No condition. -/
import Derived.Test.YtbndlommbpkijaaDoorPgmLaw
import Derived.Lib.ItoaNum
import Derived.Lib.SlTrimSet
import Derived.Lib.Bytealg
set_option linter.unusedVariables false
set_option linter.unusedSimpArgs false
namespace Go.Eng
open Go Go.RowKit

/-- decimal digits -/
def digF : Nat → Nat → List UInt8
  | 0, _ => []
  | f + 1, u => if u < 10 then [UInt8.ofNat (48 + u)] else digF f (u / 10) ++ [UInt8.ofNat (48 + u % 10)]
theorem digF_eq : ∀ (f u : Nat), u < 10 ^ (f + 1) → digF (f + 1) u = Lib.decDigits u
  | 0, u, h => by
    rw [digF, Lib.decDigits, if_pos (by simpa using h), dif_pos (by simpa using h)]
  | f + 1, u, h => by
    rw [digF, Lib.decDigits]
    split
    · rfl
    · rw [digF_eq f (u / 10) (by rw [Nat.pow_succ] at h; omega)]
theorem digF_len (f u : Nat) : (digF f u).length ≤ f := by
  induction f generalizing u with
  | zero => simp [digF]
  | succ f ih => unfold digF; split; simp; have := ih (u / 10); simp; omega
theorem itoa_digF {n : Int} (h0 : 0 ≤ n) (h1 : n ≤ 999999999) : Lib.itoa n = digF 10 n.toNat := by
  unfold Lib.itoa; rw [if_neg (by omega), digF_eq 9 n.toNat (by omega)]
abbrev lettersL : List UInt8 := [97, 98, 99, 100, 101, 102, 103, 104, 105, 106, 107, 108, 109, 110, 111, 112, 113, 114, 115, 116, 117, 118, 119, 120, 121, 122]
abbrev marksL : List UInt8 := [123, 125, 59, 46, 61]
theorem all256 (p q : UInt8 → Bool) (h : (List.range 256).all (fun n => p (UInt8.ofNat n) == q (UInt8.ofNat n)) = true) (c : UInt8) : p c = q c := by
  have h1 := List.all_eq_true.1 h c.toNat (List.mem_range.2 (by have := c.toNat_lt; omega))
  simpa using h1
theorem letters_let (c : UInt8) : lettersL.contains c = letB c := all256 (fun c => lettersL.contains c) letB (by decide +kernel) c
theorem marks_mark (c : UInt8) : decide (0 ≤ Lib.indexByte marksL c) = markB c := all256 (fun c => decide (0 ≤ Lib.indexByte marksL c)) markB (by decide +kernel) c
theorem dropWhile_nil {p : UInt8 → Bool} : ∀ {l : List UInt8}, l.dropWhile p = [] ↔ l.all p = true
  | [] => by simp
  | c :: l => by
    rw [List.dropWhile_cons, List.all_cons]
    cases h : p c with
    | true => rw [if_pos rfl, Bool.true_and]; exact dropWhile_nil
    | false => simp
theorem all_tw (p : UInt8 → Bool) : ∀ (l : List UInt8), (l.takeWhile p).all p = true
  | [] => rfl
  | c :: l => by
    rw [List.takeWhile_cons]
    cases h : p c with
    | true => rw [if_pos rfl, List.all_cons, h, Bool.true_and]; exact all_tw p l
    | false => rfl
theorem trim_letters (t : List UInt8) : decide (Lib.trimS t lettersL = []) = t.all letB := by
  have hp : (fun c => lettersL.contains c) = letB := funext letters_let
  unfold Lib.trimS Lib.trimLeftS Lib.trimRightS
  rw [hp]
  have key : (List.dropWhile letB (List.dropWhile letB t.reverse).reverse = []) ↔ t.all letB = true := by
    rw [dropWhile_nil]
    have h1 : t.reverse = t.reverse.takeWhile letB ++ t.reverse.dropWhile letB := (List.takeWhile_append_dropWhile ..).symm
    have h2 : (t.reverse.takeWhile letB).all letB = true := all_tw _ _
    have h3 : t.reverse.all letB = (t.reverse.dropWhile letB).all letB := by
      conv => lhs; rw [h1]
      rw [List.all_append, h2, Bool.true_and]
    rw [List.all_reverse, ← h3, List.all_reverse]
  rw [Bool.eq_iff_iff, decide_eq_true_eq]; exact key
def isNum (w : Wrd) : Bool := decide (w.k = 2) && decide (w.t = []) && decide (0 ≤ w.n) && decide (w.n ≤ 999999999)
def isBad (w : Wrd) : Bool := decide (w.n ≠ 0) || decide (w.t = [])
def isName (w : Wrd) : Bool := decide (w.k = 1) && decide (w.t.length ≤ 12) && w.t.all letB
def isMark (w : Wrd) : Bool := decide (w.k = 3) && decide (w.t.length = 1) && w.t.all markB
/-- a word's text, and the error -/
def textO (w : Wrd) : List UInt8 × Int :=
  if isNum w then (digF 10 w.n.toNat, 0)
  else if isBad w then ([], 1)
  else if isName w then (w.t, 0)
  else if isMark w then (w.t, 0)
  else ([], 1)
theorem text_len (w : Wrd) : (textO w).1.length ≤ 12 := by
  unfold textO
  split
  · have := digF_len 10 w.n.toNat; simp only; omega
  split
  · simp
  split
  · rename_i h; unfold isName at h; simp only [Bool.and_eq_true, decide_eq_true_eq] at h; exact h.1.2
  split
  · rename_i h; unfold isMark at h; simp only [Bool.and_eq_true, decide_eq_true_eq] at h; simp only; omega
  · simp
theorem text_bad {w : Wrd} (h : (textO w).2 ≠ 0) : (textO w).1 = [] ∧ (textO w).2 = 1 := by
  unfold textO at h ⊢
  (repeat' split) <;> simp_all
def glue (out s : List UInt8) : List UInt8 := (if decide (0 < out.length) && decide (s ≠ [59]) then out ++ [32] else out) ++ s
/-- all of them, joined, and the error -/
def joinF : List Wrd → List UInt8 → List UInt8 × Int
  | [], out => if 8000 < out.length then ([], 6) else (out, 0)
  | w :: l, out => if (textO w).2 ≠ 0 then ([], 1) else joinF l (glue out (textO w).1)
def joinO (l : List Wrd) : List UInt8 × Int := joinF l []
theorem joinF_end {ws : List Wrd} {i : Nat} {out : List UInt8} (h : ws.length ≤ i) : joinF (ws.drop i) out = if 8000 < out.length then ([], 6) else (out, 0) := by
  rw [List.drop_of_length_le h]; rfl
theorem dropW {ws : List Wrd} {i : Nat} (h : i < ws.length) : ws.drop i = ws.getD i default :: ws.drop (i + 1) := by
  have e := getq (default : Wrd) h
  rw [List.getElem?_eq_getElem h] at e
  rw [List.drop_eq_getElem_cons h, Option.some.inj e]
theorem joinF_bad {ws : List Wrd} {i : Nat} {out : List UInt8} (h : i < ws.length) (h2 : (textO (ws.getD i default)).2 ≠ 0) : joinF (ws.drop i) out = ([], 1) := by
  rw [dropW h, joinF, if_pos h2]
theorem joinF_next {ws : List Wrd} {i : Nat} {out : List UInt8} (h : i < ws.length) (h2 : (textO (ws.getD i default)).2 = 0) : joinF (ws.drop i) out = joinF (ws.drop (i + 1)) (glue out (textO (ws.getD i default)).1) := by
  rw [dropW h, joinF, if_neg (by rw [h2]; simp)]
theorem glue_len (out : List UInt8) (w : Wrd) : (glue out (textO w).1).length ≤ out.length + 13 := by
  have := text_len w
  unfold glue; split <;> simp <;> omega
end Go.Eng
