/- A lottery's law: who wins, what is lent; no program. No condition. -/
import Derived.Test.YtpemcncnehhgfaaRingLaw
import Derived.Test.YtpemcncnehhgfaaMixLaw
set_option linter.unusedVariables false
set_option linter.unusedSimpArgs false
namespace Go.Eng
open Go Go.RowKit

def brg (n : Int) : Int := if n < 0 then 0 else if n > 1000000 then 1000000 else n
theorem brg_rng (n : Int) : 0 ≤ brg n ∧ brg n ≤ 1000000 := by unfold brg; split <;> (try split) <;> omega
def bringL (xs : List Int) : List Int := (xs.take 16).map brg
theorem bringL_len (xs : List Int) : (bringL xs).length = min 16 xs.length := by simp [bringL]
theorem bringL_rng {xs : List Int} {i : Nat} : 0 ≤ (bringL xs).getD i 0 ∧ (bringL xs).getD i 0 ≤ 1000000 := by
  rw [List.getD_eq_getElem?_getD, bringL, List.getElem?_map]
  cases (xs.take 16)[i]? with
  | none => simp
  | some a => simpa using brg_rng a
def sumL : List Int → Int
  | [] => 0
  | x :: l => x + sumL l
theorem sumL_append (a b : List Int) : sumL (a ++ b) = sumL a + sumL b := by induction a with
  | nil => simp [sumL]
  | cons x l ih => simp only [List.cons_append, sumL, ih]; omega
theorem sumL_rng (l : List Int) (h : ∀ x ∈ l, 0 ≤ x ∧ x ≤ 1000000) : 0 ≤ sumL l ∧ sumL l ≤ 1000000 * l.length := by
  induction l with
  | nil => simp [sumL]
  | cons x l ih =>
    have h1 := h x (List.mem_cons_self ..)
    have h2 := ih (fun y hy => h y (List.mem_cons_of_mem _ hy))
    simp only [sumL, List.length_cons]; omega
theorem sum_bring_rng (xs : List Int) : 0 ≤ sumL (bringL xs) ∧ sumL (bringL xs) ≤ 16000000 := by
  have h := sumL_rng (bringL xs) (fun x hx => by
    obtain ⟨a, _, rfl⟩ := List.mem_map.1 hx; exact brg_rng a)
  have := bringL_len xs
  omega
theorem take_succ_getD {l : List Int} {i : Nat} (h : i < l.length) : l.take (i + 1) = l.take i ++ [l.getD i 0] := by
  rw [List.take_add_one, List.getD_eq_getElem?_getD, List.getElem?_eq_getElem h]; rfl
theorem sumL_take {l : List Int} {i : Nat} (h : i < l.length) : sumL (l.take (i + 1)) = sumL (l.take i) + l.getD i 0 := by
  rw [take_succ_getD h, sumL_append]; simp [sumL]
theorem sumL_drop {l : List Int} {i : Nat} (h : i < l.length) : sumL (l.drop i) = l.getD i 0 + sumL (l.drop (i + 1)) := by
  rw [List.drop_eq_getElem_cons h, sumL, List.getD_eq_getElem?_getD, List.getElem?_eq_getElem h]; rfl
theorem bringL_get {xs : List Int} {i : Nat} (h : i < xs.length) (h2 : i < 16) : (bringL xs).getD i 0 = brg (xs.getD i 0) := by
  rw [List.getD_eq_getElem?_getD, List.getD_eq_getElem?_getD, bringL, List.getElem?_map, List.getElem?_take, if_pos h2, List.getElem?_eq_getElem h]; rfl
/-- out of so many the first i are brought -/
theorem bringL_take {xs : List Int} {i : Nat} (h : i < xs.length) (h2 : i < 16) : (bringL xs).take i ++ [brg (xs.getD i 0)] = (bringL xs).take (i + 1) := by
  rw [← bringL_get h h2, take_succ_getD (by rw [bringL_len]; omega)]

def pick : List Int → Int → Nat
  | [], _ => 0
  | x :: l, k => if k < x then 0 else pick l (k - x) + 1
theorem pick_lt : ∀ (l : List Int) (k : Int), 0 ≤ k → k < sumL l → pick l k < l.length
  | [], k, h0, h => by simp [sumL] at h; omega
  | x :: l, k, h0, h => by
    unfold pick
    split
    · simp
    · simp only [sumL] at h; have := pick_lt l (k - x) (by omega) (by omega); simp; omega
theorem pick_drop {l : List Int} {i : Nat} {r : Int} (h : i < l.length) (hr : ¬ r < l.getD i 0) : pick (l.drop i) r = pick (l.drop (i + 1)) (r - l.getD i 0) + 1 := by
  rw [List.drop_eq_getElem_cons h]
  have : l.getD i 0 = l[i] := by rw [List.getD_eq_getElem?_getD, List.getElem?_eq_getElem h]; rfl
  rw [this] at hr ⊢
  rw [pick, if_neg hr]
theorem pick_here {l : List Int} {i : Nat} {r : Int} (h : i < l.length) (hr : r < l.getD i 0) : pick (l.drop i) r = 0 := by
  rw [List.drop_eq_getElem_cons h]
  have : l.getD i 0 = l[i] := by rw [List.getD_eq_getElem?_getD, List.getElem?_eq_getElem h]; rfl
  rw [this] at hr
  rw [pick, if_pos hr]
/-- the draw's number -/
def drawK (l : List Int) (n : BitVec 64) : Int := (((mixF n).toNat % (sumL l).toNat : Nat) : Int)
def winL (l : List Int) (n : BitVec 64) : Int := if sumL l = 0 then -1 else (pick l (drawK l n) : Int)
def winI (xs : List Int) (n : BitVec 64) : Int := winL (bringL xs) n
theorem drawK_rng {l : List Int} {n : BitVec 64} (h : 0 < sumL l) : 0 ≤ drawK l n ∧ drawK l n < sumL l := by
  have := Nat.mod_lt (mixF n).toNat (show 0 < (sumL l).toNat by omega)
  unfold drawK; omega
theorem winI_rng (xs : List Int) (n : BitVec 64) : -1 ≤ winI xs n ∧ winI xs n < 16 ∧ (sumL (bringL xs) = 0 → winI xs n = -1) ∧ (sumL (bringL xs) ≠ 0 → 0 ≤ winI xs n ∧ winI xs n < (bringL xs).length) := by
  have hs := sum_bring_rng xs
  have hl := bringL_len xs
  unfold winI winL
  split
  · refine ⟨by omega, by omega, fun _ => rfl, fun h => by omega⟩
  · have hd := drawK_rng (l := bringL xs) (n := n) (by omega)
    have := pick_lt _ _ hd.1 hd.2
    refine ⟨by omega, by omega, fun h => by omega, fun _ => by omega⟩

theorem toNat_ofInt' {r : Int} (h : 0 ≤ r ∧ r < 9223372036854775808) : (BitVec.ofInt 64 r).toNat = r.toNat := by
  rw [BitVec.toNat_ofInt]; omega
theorem ofInt_sub' {a b : Int} : BitVec.ofInt 64 a - BitVec.ofInt 64 b = BitVec.ofInt 64 (a - b) := by
  apply BitVec.eq_of_toNat_eq
  rw [BitVec.toNat_sub, BitVec.toNat_ofInt, BitVec.toNat_ofInt, BitVec.toNat_ofInt]; omega
theorem ofInt_add' {a b : Int} : BitVec.ofInt 64 a + BitVec.ofInt 64 b = BitVec.ofInt 64 (a + b) := by
  rw [BitVec.ofInt_add]
theorem ofInt_zero_iff {r : Int} (h : 0 ≤ r ∧ r < 9223372036854775808) : BitVec.ofInt 64 r = 0#64 ↔ r = 0 := by
  constructor
  · intro e; have := congrArg BitVec.toNat e; rw [toNat_ofInt' h] at this; simp at this; omega
  · rintro rfl; rfl
theorem mod_draw {l : List Int} {n : BitVec 64} (h : 0 ≤ sumL l ∧ sumL l ≤ 16000000) (h0 : sumL l ≠ 0) : mixF n % BitVec.ofInt 64 (sumL l) = BitVec.ofInt 64 (drawK l n) := by
  have hd := drawK_rng (l := l) (n := n) (by omega)
  apply BitVec.eq_of_toNat_eq
  rw [BitVec.toNat_umod, toNat_ofInt' (by omega), toNat_ofInt' (by omega)]
  unfold drawK; omega
theorem toInt_ofInt' {r : Int} (h : 0 ≤ r ∧ r < 9223372036854775808) : (BitVec.ofInt 64 r).toInt = r := by
  rw [BitVec.toInt_ofInt, Int.bmod_def]; omega

/-- how often each wins, of the first k -/
def countL (xs : List Int) (seed : BitVec 64) : Nat → List Int
  | 0 => List.replicate (bringL xs).length 0
  | k + 1 => if sumL (bringL xs) = 0 then countL xs seed k else (countL xs seed k).set (winI xs (seed + BitVec.ofNat 64 k)).toNat ((countL xs seed k).getD (winI xs (seed + BitVec.ofNat 64 k)).toNat 0 + 1)
theorem countL_len (xs : List Int) (seed : BitVec 64) : ∀ k, (countL xs seed k).length = (bringL xs).length
  | 0 => by simp [countL]
  | k + 1 => by unfold countL; split <;> simp [countL_len xs seed k]
theorem countL_zero (xs : List Int) (seed : BitVec 64) (h : sumL (bringL xs) = 0) : ∀ k, countL xs seed k = List.replicate (bringL xs).length 0
  | 0 => rfl
  | k + 1 => by unfold countL; rw [if_pos h]; exact countL_zero xs seed h k
theorem countL_rng (xs : List Int) (seed : BitVec 64) : ∀ k i, 0 ≤ (countL xs seed k).getD i 0 ∧ (countL xs seed k).getD i 0 ≤ k
  | 0, i => by
    rw [countL, List.getD_eq_getElem?_getD, List.getElem?_replicate]; split <;> simp
  | k + 1, i => by
    have h := countL_rng xs seed k i
    unfold countL
    split
    · omega
    · rw [List.getD_eq_getElem?_getD, List.getElem?_set]
      split
      · split
        · have := countL_rng xs seed k (winI xs (seed + BitVec.ofNat 64 k)).toNat; simp only [Option.getD_some]; omega
        · simp; omega
      · rw [← List.getD_eq_getElem?_getD]; omega
def cntN (n : Int) : Nat := (min (max n 0) 10000).toNat

/-- the draws, as many as are wanted -/
def drawA (xs : List Int) (seed : BitVec 64) (N : Nat) : List (Array Value) :=
  if sumL (bringL xs) = 0 then [] else (List.range N).map fun k => #[U (seed + BitVec.ofNat 64 k), .int .i64 (winI xs (seed + BitVec.ofNat 64 k))]
theorem drawA_len (xs : List Int) (seed : BitVec 64) (N : Nat) : (drawA xs seed N).length = if sumL (bringL xs) = 0 then 0 else N := by unfold drawA; split <;> simp
theorem drawA_get {xs : List Int} {seed : BitVec 64} {N k : Nat} (h : sumL (bringL xs) ≠ 0) (hk : k < N) : (drawA xs seed N)[k]? = some #[U (seed + BitVec.ofNat 64 k), .int .i64 (winI xs (seed + BitVec.ofNat 64 k))] := by
  rw [drawA, if_neg h, List.getElem?_map, List.getElem?_range hk]; rfl
theorem drawA_inv {xs : List Int} {seed : BitVec 64} {N k : Nat} {av : Array Value} (h : (drawA xs seed N)[k]? = some av) : sumL (bringL xs) ≠ 0 ∧ k < N ∧ av = #[U (seed + BitVec.ofNat 64 k), .int .i64 (winI xs (seed + BitVec.ofNat 64 k))] := by
  have hk := (List.getElem?_eq_some_iff.1 h).1
  rw [drawA_len] at hk
  split at hk
  · omega
  · rename_i h0
    rw [drawA_get h0 hk] at h
    exact ⟨h0, hk, (Option.some.inj h).symm⟩
theorem cntN_if (n : Int) : (if (10000 : Int) < (if (0 : Int) > n then 0 else n) then (10000 : Int) else (if (0 : Int) > n then 0 else n)) = ((cntN n : Nat) : Int) := by
  unfold cntN; split <;> split <;> omega
theorem cntN_le (n : Int) : cntN n ≤ 10000 := by unfold cntN; omega
theorem add_sub_seed (seed : BitVec 64) {k : Nat} (h : k ≤ 20000) : (seed + BitVec.ofNat 64 k - seed).toNat = k := by
  rw [BitVec.add_comm, BitVec.add_sub_cancel]; simp; omega

/-- what comes of lending: the list, and the error -/
def lendErr (l : List Int) (i j n : Int) : Int :=
  if i < 0 ∨ (l.length : Int) ≤ i ∨ j < 0 ∨ (l.length : Int) ≤ j ∨ i = j ∨ n < 0 then 1 else if l.getD i.toNat 0 < n then 4 else if 1000000 < l.getD j.toNat 0 + n then 2 else 0
def lendL (l : List Int) (i j n : Int) : List Int :=
  if lendErr l i j n = 0 then (l.set i.toNat (l.getD i.toNat 0 - n)).set j.toNat (l.getD j.toNat 0 + n) else []
theorem getD_set_ne {l : List Int} {i j : Nat} {x : Int} (h : i ≠ j) : (l.set i x).getD j 0 = l.getD j 0 := by
  rw [List.getD_eq_getElem?_getD, List.getD_eq_getElem?_getD, List.getElem?_set_ne h]
theorem lendErr1 {l : List Int} {i j n : Int} (h : i < 0 ∨ (l.length : Int) ≤ i ∨ j < 0 ∨ (l.length : Int) ≤ j ∨ i = j ∨ n < 0) : lendErr l i j n = 1 := by unfold lendErr; rw [if_pos h]
theorem lendErr4 {l : List Int} {i j n : Int} (h : ¬ (i < 0 ∨ (l.length : Int) ≤ i ∨ j < 0 ∨ (l.length : Int) ≤ j ∨ i = j ∨ n < 0)) (h4 : l.getD i.toNat 0 < n) : lendErr l i j n = 4 := by unfold lendErr; rw [if_neg h, if_pos h4]
theorem lendErr2 {l : List Int} {i j n : Int} (h : ¬ (i < 0 ∨ (l.length : Int) ≤ i ∨ j < 0 ∨ (l.length : Int) ≤ j ∨ i = j ∨ n < 0)) (h4 : ¬ l.getD i.toNat 0 < n) (h2 : 1000000 < l.getD j.toNat 0 + n) : lendErr l i j n = 2 := by unfold lendErr; rw [if_neg h, if_neg h4, if_pos h2]
theorem lendErr0 {l : List Int} {i j n : Int} (h : ¬ (i < 0 ∨ (l.length : Int) ≤ i ∨ j < 0 ∨ (l.length : Int) ≤ j ∨ i = j ∨ n < 0)) (h4 : ¬ l.getD i.toNat 0 < n) (h2 : ¬ 1000000 < l.getD j.toNat 0 + n) : lendErr l i j n = 0 := by unfold lendErr; rw [if_neg h, if_neg h4, if_neg h2]
theorem lendL_nil {l : List Int} {i j n : Int} (h : lendErr l i j n ≠ 0) : lendL l i j n = [] := by unfold lendL; rw [if_neg h]
theorem lendL_len (l : List Int) (i j n : Int) : (lendL l i j n).length ≤ l.length := by unfold lendL; split <;> simp
end Go.Eng
