/- Words: how a text is cut into them; no program. No condition. -/
import Derived.Test.YtbndlommbpkijaaDoorEng13
import Derived.Test.YtbndlommbpkijaaDoorOpen
set_option linter.unusedVariables false
set_option linter.unusedSimpArgs false
namespace Go.Eng
open Go Go.RowKit

structure Wrd where
  k : Int
  t : List UInt8
  n : Int
  p : Int
deriving DecidableEq
instance : Inhabited Wrd := ⟨⟨0, [], 0, 0⟩⟩
def fW (w : Wrd) : List Value := [.int .i64 w.k, .string (bs w.t), .int .i64 w.n, .int .i64 w.p]
def letN (n : Int) : Bool := decide (97 ≤ n) && decide (n ≤ 122)
def digN (n : Int) : Bool := decide (48 ≤ n) && decide (n ≤ 57)
def markN (n : Int) : Bool := decide (n = 123) || decide (n = 125) || decide (n = 59) || decide (n = 46) || decide (n = 61)
def letB (c : UInt8) : Bool := letN (c.toNat : Nat)
def digB (c : UInt8) : Bool := digN (c.toNat : Nat)
def markB (c : UInt8) : Bool := markN (c.toNat : Nat)
def notNl (c : UInt8) : Bool := decide (((c.toNat : Nat) : Int) ≠ 10)
/-- how far some bytes go on -/
def runL (p : UInt8 → Bool) (s : List UInt8) (i : Nat) : Nat := ((s.drop i).takeWhile p).length
theorem runL_le (p : UInt8 → Bool) (s : List UInt8) (i : Nat) : runL p s i ≤ s.length - i := by
  unfold runL; have := (List.takeWhile_sublist (l := s.drop i) p).length_le; rwa [List.length_drop] at this
theorem drop_get {s : List UInt8} {i : Nat} (h : i < s.length) : s.drop i = s.getD i 0 :: s.drop (i + 1) := by
  have e := getq (0 : UInt8) h
  rw [List.getElem?_eq_getElem h] at e
  rw [List.drop_eq_getElem_cons h, Option.some.inj e]
theorem runL_step {p : UInt8 → Bool} {s : List UInt8} {i : Nat} (h : i < s.length) (hp : p (s.getD i 0) = true) : runL p s i = runL p s (i + 1) + 1 := by
  unfold runL; rw [drop_get h, List.takeWhile_cons, if_pos hp]; rfl
theorem runL_stop {p : UInt8 → Bool} {s : List UInt8} {i : Nat} (h : i < s.length) (hp : p (s.getD i 0) = false) : runL p s i = 0 := by
  unfold runL; rw [drop_get h, List.takeWhile_cons, if_neg (by rw [hp]; simp)]; rfl
theorem runL_end {p : UInt8 → Bool} {s : List UInt8} {i : Nat} (h : s.length ≤ i) : runL p s i = 0 := by
  have := runL_le p s i; omega
/-- up to so many digits -/
def numF : Nat → List UInt8 → Int → Int
  | 0, _, n => n
  | _ + 1, [], n => n
  | k + 1, c :: l, n => if digB c then numF k l (n * 10 + ((c.toNat : Nat) : Int) - 48) else n
theorem numF_step {s : List UInt8} {i k : Nat} {n : Int} (h : i < s.length) (hp : digB (s.getD i 0) = true) : numF (k + 1) (s.drop i) n = numF k (s.drop (i + 1)) (n * 10 + (((s.getD i 0).toNat : Nat) : Int) - 48) := by
  rw [drop_get h, numF, if_pos hp]
theorem numF_stop {s : List UInt8} {i k : Nat} {n : Int} (h : s.length ≤ i ∨ digB (s.getD i 0) = false) : numF k (s.drop i) n = n := by
  cases k with
  | zero => rfl
  | succ k =>
    rcases Nat.lt_or_ge i s.length with hi | hi
    · rcases h with h | h
      · omega
      · rw [drop_get hi, numF, if_neg (by rw [h]; simp)]
    · rw [List.drop_of_length_le hi]; rfl
def oneO (s : List UInt8) (i : Nat) : Wrd × Nat × Bool :=
  if letB (s.getD i 0) then (⟨1, (s.drop i).take (runL letB s i), 0, (i : Nat)⟩, i + runL letB s i, decide (runL letB s i ≤ 12))
  else if digB (s.getD i 0) then (⟨2, [], numF 9 (s.drop i) 0, (i : Nat)⟩, i + runL digB s i, decide (runL digB s i ≤ 9) && (decide ((((s.getD i 0).toNat : Nat) : Int) ≠ 48) || decide (runL digB s i = 1)))
  else (⟨3, (s.drop i).take 1, 0, (i : Nat)⟩, i + 1, markB (s.getD i 0))
theorem one_lt {s : List UInt8} {i : Nat} (h : i < s.length) : i < (oneO s i).2.1 ∧ (oneO s i).2.1 ≤ s.length := by
  unfold oneO
  split
  · rename_i hl
    have h1 := runL_step h hl
    have h2 := runL_le letB s i
    simp only; omega
  · split
    · rename_i hl
      have h1 := runL_step h hl
      have h2 := runL_le digB s i
      simp only; omega
    · simp only; omega
def blankB (c : UInt8) : Bool := decide (((c.toNat : Nat) : Int) = 32) || decide (((c.toNat : Nat) : Int) = 9) || decide (((c.toNat : Nat) : Int) = 10)
def hashB (c : UInt8) : Bool := decide (((c.toNat : Nat) : Int) = 35)
def badO (r : Wrd × Nat × Bool) (i : Nat) (last : Int) (out : List Wrd) : Bool := !r.2.2 || (decide (last = (i : Nat)) && decide (r.1.k ≠ 3) && decide ((out.getD (out.length - 1) default).k ≠ 3))
def scanF : Nat → List UInt8 → Nat → Int → List Wrd → List Wrd × Int × Int
  | 0, _, _, _, out => (out, 0, 0)
  | f + 1, s, i, last, out =>
    if s.length ≤ i then (out, 0, 0)
    else if blankB (s.getD i 0) then scanF f s (i + 1) last out
    else if hashB (s.getD i 0) then scanF f s (i + runL notNl s i) last out
    else if badO (oneO s i) i last out then ([], (i : Nat), 5)
    else scanF f s (oneO s i).2.1 ((oneO s i).2.1 : Nat) (out ++ [(oneO s i).1])
theorem hash_nl {c : UInt8} (h : hashB c = true) : notNl c = true := by
  unfold hashB at h; unfold notNl; simp only [decide_eq_true_eq] at h ⊢; omega
theorem scanF_fuel (s : List UInt8) : ∀ (f g i : Nat) (last : Int) (out : List Wrd), s.length - i ≤ f → s.length - i ≤ g → scanF f s i last out = scanF g s i last out
  | 0, 0, _, _, _, _, _ => rfl
  | 0, g + 1, i, last, out, h1, h2 => by rw [scanF, scanF, if_pos (by omega)]
  | f + 1, 0, i, last, out, h1, h2 => by rw [scanF, scanF, if_pos (by omega)]
  | f + 1, g + 1, i, last, out, h1, h2 => by
    simp only [scanF]
    split
    · rfl
    rename_i hi
    have hlt : i < s.length := by omega
    split
    · exact scanF_fuel s f g _ _ _ (by omega) (by omega)
    split
    · rename_i hh
      have h3 := runL_step hlt (hash_nl hh)
      exact scanF_fuel s f g _ _ _ (by omega) (by omega)
    split
    · rfl
    · have h4 := one_lt hlt
      exact scanF_fuel s f g _ _ _ (by omega) (by omega)
def scanR (s : List UInt8) (i : Nat) (last : Int) (out : List Wrd) : List Wrd × Int × Int := scanF (s.length - i) s i last out
theorem scanR_end {s : List UInt8} {i : Nat} {last : Int} {out : List Wrd} (h : s.length ≤ i) : scanR s i last out = (out, 0, 0) := by
  unfold scanR; rw [show s.length - i = 0 by omega]; rfl
theorem scanR_step {s : List UInt8} {i : Nat} {last : Int} {out : List Wrd} (h : i < s.length) : scanR s i last out =
    if blankB (s.getD i 0) then scanR s (i + 1) last out
    else if hashB (s.getD i 0) then scanR s (i + runL notNl s i) last out
    else if badO (oneO s i) i last out then ([], (i : Nat), 5)
    else scanR s (oneO s i).2.1 ((oneO s i).2.1 : Nat) (out ++ [(oneO s i).1]) := by
  unfold scanR
  obtain ⟨f, hf⟩ : ∃ f, s.length - i = f + 1 := ⟨s.length - i - 1, by omega⟩
  rw [hf, scanF, if_neg (by omega)]
  split
  · exact scanF_fuel s _ _ _ _ _ (by omega) (by omega)
  split
  · rename_i hh
    have h3 := runL_step h (hash_nl hh)
    exact scanF_fuel s _ _ _ _ _ (by omega) (by omega)
  split
  · rfl
  · have h4 := one_lt h
    exact scanF_fuel s _ _ _ _ _ (by omega) (by omega)
theorem scanR_blank {s : List UInt8} {i : Nat} {last : Int} {out : List Wrd} (h : i < s.length) (hb : blankB (s.getD i 0) = true) : scanR s i last out = scanR s (i + 1) last out := by rw [scanR_step h, if_pos hb]
theorem scanR_hash {s : List UInt8} {i j : Nat} {last : Int} {out : List Wrd} (h : i < s.length) (hb : blankB (s.getD i 0) = false) (hh : hashB (s.getD i 0) = true) (hj : i + runL notNl s i = j) : scanR s i last out = scanR s j last out := by
  rw [scanR_step h, if_neg (by rw [hb]; simp), if_pos hh, hj]
theorem scanR_bad {s : List UInt8} {i : Nat} {last : Int} {out : List Wrd} (h : i < s.length) (hb : blankB (s.getD i 0) = false) (hh : hashB (s.getD i 0) = false) (hq : badO (oneO s i) i last out = true) : scanR s i last out = ([], (i : Int), 5) := by
  rw [scanR_step h, if_neg (by rw [hb]; simp), if_neg (by rw [hh]; simp), if_pos hq]
theorem scanR_word {s : List UInt8} {i : Nat} {last : Int} {out : List Wrd} (h : i < s.length) (hb : blankB (s.getD i 0) = false) (hh : hashB (s.getD i 0) = false) (hq : badO (oneO s i) i last out = false) : scanR s i last out = scanR s (oneO s i).2.1 ((oneO s i).2.1 : Nat) (out ++ [(oneO s i).1]) := by
  rw [scanR_step h, if_neg (by rw [hb]; simp), if_neg (by rw [hh]; simp), if_neg (by rw [hq]; simp)]
def scanO (s : List UInt8) : List Wrd × Int × Int := if 8000 < s.length then ([], 8000, 6) else scanR s 0 (-1) []
end Go.Eng
