/- How many members a set of numbers has, as the library reckons; no program. No condition. -/
import Derived.Test.YtpemcncnehhgfaaDoorIdsLaw
set_option linter.unusedVariables false
set_option linter.unusedSimpArgs false
namespace Go.Eng
open Go Go.RowKit

def val (B : Nat) : List Nat → Nat
  | [] => 0
  | d :: l => d + B * val B l
def pairs : List Nat → List Nat
  | a :: b :: l => (a + b) :: pairs l
  | [a] => [a]
  | [] => []
theorem pairs_sum : ∀ l : List Nat, (pairs l).sum = l.sum
  | [] => rfl
  | [a] => rfl
  | a :: b :: l => by rw [pairs, List.sum_cons, List.sum_cons, List.sum_cons, pairs_sum l]; omega
theorem pairs_len : ∀ (l : List Nat) (m : Nat), l.length = 2 * m → (pairs l).length = m
  | [], m, h => by simp at h; simp [pairs]; omega
  | [a], m, h => by simp at h; omega
  | a :: b :: l, m, h => by
    simp only [List.length_cons] at h
    have := pairs_len l (m - 1) (by omega)
    rw [pairs, List.length_cons, this]; omega
theorem pairs_le {c : Nat} : ∀ (l : List Nat), (∀ d ∈ l, d ≤ c) → ∀ d ∈ pairs l, d ≤ 2 * c
  | [], _, d, hd => by cases hd
  | [a], h, d, hd => by
    have := h d hd; omega
  | a :: b :: l, h, d, hd => by
    rw [pairs] at hd
    rcases List.mem_cons.1 hd with rfl | hd
    · have := h a (by simp); have := h b (by simp); omega
    · exact pairs_le l (fun d hd => h d (by simp [hd])) d hd
theorem val_lt {B : Nat} (hB : 0 < B) : ∀ l : List Nat, (∀ d ∈ l, d < B) → val B l < B ^ l.length
  | [], _ => by simp [val]
  | d :: l, h => by
    have ih := val_lt hB l (fun d hd => h d (by simp [hd]))
    have h1 := h d (by simp)
    rw [val, List.length_cons, Nat.pow_succ]
    have : B * (val B l + 1) ≤ B * B ^ l.length := Nat.mul_le_mul_left _ ih
    rw [Nat.mul_comm (B ^ l.length) B]
    rw [Nat.mul_add] at this
    omega
/-- masks of every other digit -/
def mk (k : Nat) : Nat → Nat
  | 0 => 0
  | m + 1 => (2 ^ k - 1) + 2 ^ k * (2 ^ k * mk k m)
theorem land_split (k d r c q : Nat) (hd : d < 2 ^ k) (hc : c < 2 ^ k) : (d + 2 ^ k * r) &&& (c + 2 ^ k * q) = (d &&& c) + 2 ^ k * (r &&& q) := by
  have hp : 0 < 2 ^ k := Nat.two_pow_pos k
  have e1 : (d + 2 ^ k * r) % 2 ^ k = d := by rw [Nat.add_mul_mod_self_left, Nat.mod_eq_of_lt hd]
  have e2 : (d + 2 ^ k * r) / 2 ^ k = r := by rw [Nat.add_mul_div_left _ _ hp, Nat.div_eq_of_lt hd, Nat.zero_add]
  have e3 : (c + 2 ^ k * q) % 2 ^ k = c := by rw [Nat.add_mul_mod_self_left, Nat.mod_eq_of_lt hc]
  have e4 : (c + 2 ^ k * q) / 2 ^ k = q := by rw [Nat.add_mul_div_left _ _ hp, Nat.div_eq_of_lt hc, Nat.zero_add]
  have h := Nat.mod_add_div ((d + 2 ^ k * r) &&& (c + 2 ^ k * q)) (2 ^ k)
  rw [Nat.and_mod_two_pow, Nat.and_div_two_pow, e1, e2, e3, e4] at h
  exact h.symm
theorem land_low (k d : Nat) (hd : d < 2 ^ k) : d &&& (2 ^ k - 1) = d := by rw [Nat.and_two_pow_sub_one_eq_mod, Nat.mod_eq_of_lt hd]
theorem land_odd (k n q : Nat) : n &&& (2 ^ k * q) = 2 ^ k * ((n / 2 ^ k) &&& q) := by
  have hp : 0 < 2 ^ k := Nat.two_pow_pos k
  have := land_split k (n % 2 ^ k) (n / 2 ^ k) 0 q (Nat.mod_lt _ hp) hp
  rw [Nat.mod_add_div, Nat.zero_add, Nat.and_zero, Nat.zero_add] at this
  exact this
theorem val_div {k d r : Nat} (hd : d < 2 ^ k) : (d + 2 ^ k * r) / 2 ^ k = r := by rw [Nat.add_mul_div_left _ _ (Nat.two_pow_pos k), Nat.div_eq_of_lt hd, Nat.zero_add]
/-- digits are added by twos -/
theorem step_pairs (k : Nat) : ∀ (m : Nat) (l : List Nat), l.length = 2 * m → (∀ d ∈ l, d < 2 ^ k) → ((val (2 ^ k) l / 2 ^ k) &&& mk k m) + (val (2 ^ k) l &&& mk k m) = val (2 ^ k * 2 ^ k) (pairs l)
  | 0, l, hl, _ => by
    have : l = [] := List.eq_nil_of_length_eq_zero (by omega)
    subst this; simp [mk, val, pairs]
  | m + 1, [], hl, _ => by simp at hl
  | m + 1, [a], hl, _ => by simp at hl; omega
  | m + 1, a :: b :: l, hl, h => by
    simp only [List.length_cons] at hl
    have ih := step_pairs k m l (by omega) (fun d hd => h d (by simp [hd]))
    have ha := h a (by simp)
    have hb := h b (by simp)
    have hlow : 2 ^ k - 1 < 2 ^ k := by have := Nat.two_pow_pos k; omega
    rw [pairs, val, val, val, mk, val_div ha, land_split k b _ _ _ hb hlow, land_split k a _ _ _ ha hlow, land_low k a ha, land_low k b hb, land_odd, land_odd, val_div hb, ← ih]
    rw [Nat.mul_assoc, Nat.mul_add, Nat.mul_add]
    omega
/-- ... where a sum of two is a digit yet -/
theorem step_pairs' (k : Nat) : ∀ (m : Nat) (l : List Nat), l.length = 2 * m → (∀ d ∈ l, 2 * d < 2 ^ k) → ((val (2 ^ k) l / 2 ^ k) + val (2 ^ k) l) &&& mk k m = val (2 ^ k * 2 ^ k) (pairs l)
  | 0, l, hl, _ => by
    have : l = [] := List.eq_nil_of_length_eq_zero (by omega)
    subst this; simp [mk, val, pairs]
  | m + 1, [], hl, _ => by simp at hl
  | m + 1, [a], hl, _ => by simp at hl; omega
  | m + 1, a :: b :: l, hl, h => by
    simp only [List.length_cons] at hl
    have ih := step_pairs' k m l (by omega) (fun d hd => h d (by simp [hd]))
    have ha := h a (by simp)
    have hb := h b (by simp)
    have hlow : 2 ^ k - 1 < 2 ^ k := by have := Nat.two_pow_pos k; omega
    obtain ⟨c, r, hv, hc⟩ : ∃ c r, val (2 ^ k) l = c + 2 ^ k * r ∧ 2 * c < 2 ^ k := by
      cases l with
      | nil => exact ⟨0, 0, rfl, by have := Nat.two_pow_pos k; omega⟩
      | cons c l => exact ⟨c, val (2 ^ k) l, rfl, h c (by simp)⟩
    rw [pairs, val, val, val, mk, val_div (by omega)]
    have e1 : ∀ p v : Nat, b + p * v + (a + p * (b + p * v)) = (a + b) + p * (v + (b + p * v)) := fun p v => by
      have h1 := Nat.mul_add p v (b + p * v); omega
    rw [e1 (2 ^ k) (val (2 ^ k) l), land_split k (a + b) _ _ _ (by omega) hlow, land_low k _ (by omega), land_odd]
    have e2 : (val (2 ^ k) l + (b + 2 ^ k * val (2 ^ k) l)) / 2 ^ k = val (2 ^ k) l / 2 ^ k + val (2 ^ k) l := by
      rw [hv, val_div (show c < 2 ^ k by omega)]
      rw [show c + 2 ^ k * r + (b + 2 ^ k * (c + 2 ^ k * r)) = (c + b) + 2 ^ k * (r + (c + 2 ^ k * r)) by rw [Nat.mul_add (2 ^ k) r]; omega]
      exact val_div (by omega)
    rw [e2, ih, Nat.mul_assoc]
def bitsL (n x : Nat) : List Nat := match n with | 0 => [] | n + 1 => x % 2 :: bitsL n (x / 2)
theorem bitsL_val : ∀ (n x : Nat), x < 2 ^ n → val 2 (bitsL n x) = x
  | 0, x, h => by simp at h; subst h; rfl
  | n + 1, x, h => by
    rw [bitsL, val, bitsL_val n (x / 2) (by rw [Nat.pow_succ] at h; omega)]; omega
theorem bitsL_len : ∀ (n x : Nat), (bitsL n x).length = n
  | 0, _ => rfl
  | n + 1, x => by rw [bitsL, List.length_cons, bitsL_len]
theorem bitsL_le : ∀ (n x : Nat), ∀ d ∈ bitsL n x, d ≤ 1
  | 0, _, d, h => by cases h
  | n + 1, x, d, h => by
    rw [bitsL] at h
    rcases List.mem_cons.1 h with rfl | h
    · omega
    · exact bitsL_le n _ d h
theorem bitsL_sum : ∀ (n x : Nat), (bitsL n x).sum = ((List.range n).filter (fun i => x.testBit i)).length
  | 0, _ => rfl
  | n + 1, x => by
    rw [bitsL, List.sum_cons, bitsL_sum n (x / 2), List.range_succ_eq_map, List.filter_cons, List.filter_map, Nat.testBit_zero]
    have : (fun i => x.testBit i) ∘ Nat.succ = fun i => (x / 2).testBit i := by funext i; simp [Nat.testBit_succ]
    rw [this]
    have h2 := Nat.mod_two_eq_zero_or_one x
    rcases h2 with h | h <;> simp [h]; omega
theorem val_le {B c : Nat} (hB : 0 < B) : ∀ l : List Nat, (∀ d ∈ l, d ≤ c) → (B - 1) * val B l + c ≤ c * B ^ l.length
  | [], _ => by simp [val]
  | d :: l, h => by
    have ih := val_le hB l (fun d hd => h d (by simp [hd]))
    have h1 := h d (by simp)
    rw [val, List.length_cons, Nat.pow_succ]
    obtain ⟨b, rfl⟩ : ∃ b, B = b + 1 := ⟨B - 1, by omega⟩
    simp only [Nat.add_sub_cancel] at *
    have h2 : b * d ≤ b * c := Nat.mul_le_mul_left _ h1
    have h3 := Nat.mul_le_mul_left (b + 1) ih
    have e1 : b * (d + (b + 1) * val (b + 1) l) = b * d + (b + 1) * (b * val (b + 1) l) := by rw [Nat.mul_add, Nat.mul_left_comm]
    have e2 : (b + 1) * (b * val (b + 1) l + c) = (b + 1) * (b * val (b + 1) l) + (b * c + c) := by rw [Nat.mul_add, Nat.succ_mul b c]
    have e3 : c * ((b + 1) ^ l.length * (b + 1)) = (b + 1) * (c * (b + 1) ^ l.length) := by rw [← Nat.mul_assoc, Nat.mul_comm]
    omega
theorem dv8 {d r : Nat} (h : d < 256) : (d + 256 * r) / 256 = r := val_div (k := 8) h
theorem ad8 (a b r s : Nat) : a + 256 * r + (b + 256 * s) = (a + b) + 256 * (r + s) := by omega
theorem ch8 {r s t a b : Nat} (h : r = a + 256 * s) (k : s = b + 256 * t) : r + s = (a + b) + 256 * (s + t) := by omega
theorem pop_fin {e0 e1 e2 e3 e4 e5 e6 e7 r0 r1 r2 r3 r4 r5 r6 Y Z Q F : Nat} (k0 : e0 ≤ 8) (k1 : e1 ≤ 8) (k2 : e2 ≤ 8) (k3 : e3 ≤ 8) (k4 : e4 ≤ 8) (k5 : e5 ≤ 8) (k6 : e6 ≤ 8) (k7 : e7 ≤ 8)
    (hY : Y = e0 + 256 * r0) (h0 : r0 = e1 + 256 * r1) (h1 : r1 = e2 + 256 * r2) (h2 : r2 = e3 + 256 * r3) (h3 : r3 = e4 + 256 * r4) (h4 : r4 = e5 + 256 * r5) (h5 : r5 = e6 + 256 * r6) (h6 : r6 = e7 + 256 * 0)
    (z : Z = Y + Y / 256) (q : Q = Z + Z / 256 / 256) (f : F = Q + Q / 256 / 256 / 256 / 256) : F % 128 = e0 + e1 + e2 + e3 + e4 + e5 + e6 + e7 := by
  have p01 := ch8 h0 h1
  have p12 := ch8 h1 h2
  have p23 := ch8 h2 h3
  have p34 := ch8 h3 h4
  have p45 := ch8 h4 h5
  have p56 := ch8 h5 h6
  have a1 : Y / 256 = r0 := by rw [hY]; exact dv8 (by omega)
  have a2 : Z = (e0 + e1) + 256 * (r0 + r1) := by rw [z, a1]; exact ch8 hY h0
  have a3 : Z / 256 / 256 = r1 + r2 := by rw [a2, dv8 (by omega), p01, dv8 (by omega)]
  have a4 : Q = (e0 + e1 + (e2 + e3)) + 256 * (r0 + r1 + (r2 + r3)) := by rw [q, a3, a2, p12]; exact ad8 ..
  have a5 : r0 + r1 + (r2 + r3) = (e1 + e2 + (e3 + e4)) + 256 * (r1 + r2 + (r3 + r4)) := by rw [p01, p23]; exact ad8 ..
  have a6 : r1 + r2 + (r3 + r4) = (e2 + e3 + (e4 + e5)) + 256 * (r2 + r3 + (r4 + r5)) := by rw [p12, p34]; exact ad8 ..
  have a7 : r2 + r3 + (r4 + r5) = (e3 + e4 + (e5 + e6)) + 256 * (r3 + r4 + (r5 + r6)) := by rw [p23, p45]; exact ad8 ..
  have a8 : Q / 256 / 256 / 256 / 256 = r3 + r4 + (r5 + r6) := by rw [a4, dv8 (by omega), a5, dv8 (by omega), a6, dv8 (by omega), a7, dv8 (by omega)]
  have a9 : r3 + r4 + (r5 + r6) = (e4 + e5 + (e6 + e7)) + 256 * (r4 + r5 + (r6 + 0)) := by rw [p34, p56]; exact ad8 ..
  have a10 : F = (e0 + e1 + (e2 + e3) + (e4 + e5 + (e6 + e7))) + 256 * (r0 + r1 + (r2 + r3) + (r4 + r5 + (r6 + 0))) := by rw [f, a8, a4, a9]; exact ad8 ..
  clear a1 a2 a3 a4 a5 a6 a7 a8 a9 p01 p12 p23 p34 p45 p56 z q f hY h0 h1 h2 h3 h4 h5 h6
  generalize r0 + r1 + (r2 + r3) + (r4 + r5 + (r6 + 0)) = R at a10
  omega
theorem pc64_len (x : BitVec 64) : (pc64 x &&& 127#64).toNat = (allL x).length := by
  have hx : x.toNat < 2 ^ 64 := x.isLt
  generalize hL : bitsL 64 x.toNat = L
  have l0 : L.length = 64 := by rw [← hL, bitsL_len]
  have c0 : ∀ d ∈ L, d ≤ 1 := by rw [← hL]; exact bitsL_le _ _
  have v0 : x.toNat = val 2 L := by rw [← hL, bitsL_val _ _ hx]
  have s0 : L.sum = (allL x).length := by rw [← hL, bitsL_sum]; rfl
  have m0 : mk 1 32 = 6148914691236517205 := by decide
  have m1 : mk 2 16 = 3689348814741910323 := by decide
  have m2 : mk 4 8 = 1085102592571150095 := by decide
  -- by twos
  have l1 := pairs_len L 32 (by omega)
  have c1 := pairs_le L c0
  have a1 := step_pairs 1 32 L (by omega) (fun d hd => by have := c0 d hd; omega)
  rw [m0] at a1
  have b1 := val_lt (B := 4) (by omega) (pairs L) (fun d hd => by have := c1 d hd; omega)
  rw [l1] at b1
  have v1 : (pcA x).toNat = val 4 (pairs L) := by
    have e : (x >>> 1 &&& 6148914691236517205#64).toNat + (x &&& 6148914691236517205#64).toNat = val 4 (pairs L) := by
      rw [BitVec.toNat_and, BitVec.toNat_and, BitVec.toNat_ushiftRight, Nat.shiftRight_eq_div_pow, v0]; exact a1
    unfold pcA
    rw [BitVec.toNat_add, e]
    exact Nat.mod_eq_of_lt b1
  -- by fours
  have l2 := pairs_len (pairs L) 16 (by omega)
  have c2 := pairs_le (pairs L) c1
  have a2 := step_pairs 2 16 (pairs L) (by omega) (fun d hd => by have := c1 d hd; omega)
  rw [m1] at a2
  have b2 := val_lt (B := 16) (by omega) (pairs (pairs L)) (fun d hd => by have := c2 d hd; omega)
  rw [l2] at b2
  have v2 : (pcB (pcA x)).toNat = val 16 (pairs (pairs L)) := by
    have e : (pcA x >>> 2 &&& 3689348814741910323#64).toNat + (pcA x &&& 3689348814741910323#64).toNat = val 16 (pairs (pairs L)) := by
      rw [BitVec.toNat_and, BitVec.toNat_and, BitVec.toNat_ushiftRight, Nat.shiftRight_eq_div_pow, v1]; exact a2
    unfold pcB
    rw [BitVec.toNat_add, e]
    exact Nat.mod_eq_of_lt b2
  -- by eights
  have l3 := pairs_len (pairs (pairs L)) 8 (by omega)
  have c3 := pairs_le (pairs (pairs L)) c2
  have a3 := step_pairs' 4 8 (pairs (pairs L)) (by omega) (fun d hd => by have := c2 d hd; omega)
  rw [m2] at a3
  have b2' := val_le (B := 16) (by omega) (pairs (pairs L)) c2
  rw [l2] at b2'
  have v3 : (pcC (pcB (pcA x))).toNat = val 256 (pairs (pairs (pairs L))) := by
    unfold pcC
    rw [BitVec.toNat_and, BitVec.toNat_add, BitVec.toNat_ushiftRight, Nat.shiftRight_eq_div_pow, v2]
    have hlt : val 16 (pairs (pairs L)) / 2 ^ 4 + val 16 (pairs (pairs L)) < 2 ^ 64 := by omega
    rw [Nat.mod_eq_of_lt hlt]
    exact a3
  have s3 : (pairs (pairs (pairs L))).sum = (allL x).length := by rw [pairs_sum, pairs_sum, pairs_sum, s0]
  generalize pairs (pairs (pairs L)) = l at *
  match l, l3 with
  | [e0, e1, e2, e3, e4, e5, e6, e7], _ =>
    simp only [List.forall_mem_cons, List.not_mem_nil, false_implies, implies_true, and_true] at c3
    simp only [List.sum_cons, List.sum_nil] at s3
    simp only [val] at v3
    unfold pc64
    have hb := val_le (B := 256) (by omega) [e0, e1, e2, e3, e4, e5, e6, e7] (by simp only [List.forall_mem_cons, List.not_mem_nil, false_implies, implies_true, and_true]; exact c3)
    simp only [val, List.length_cons, List.length_nil] at hb
    rw [← v3] at hb
    generalize pcC (pcB (pcA x)) = y at *
    have hy : y.toNat < 2 ^ 60 := by clear v3 s3 c3; omega
    clear hb
    have z1 : (pcD y).toNat = y.toNat + y.toNat / 256 := by
      unfold pcD; rw [BitVec.toNat_add, BitVec.toNat_ushiftRight, Nat.shiftRight_eq_div_pow]; exact Nat.mod_eq_of_lt (by clear v3 s3 c3; omega)
    have hz : (pcD y).toNat < 2 ^ 61 := by clear v3 s3 c3; omega
    generalize pcD y = z at *
    have q1 : (pcE z).toNat = z.toNat + z.toNat / 256 / 256 := by
      unfold pcE; rw [BitVec.toNat_add, BitVec.toNat_ushiftRight, Nat.shiftRight_eq_div_pow, Nat.div_div_eq_div_mul]; exact Nat.mod_eq_of_lt (by clear v3 s3 c3; omega)
    have hq : (pcE z).toNat < 2 ^ 62 := by clear v3 s3 c3; omega
    generalize pcE z = q at *
    have f1 : (pcF q).toNat = q.toNat + q.toNat / 256 / 256 / 256 / 256 := by
      unfold pcF; rw [BitVec.toNat_add, BitVec.toNat_ushiftRight, Nat.shiftRight_eq_div_pow, Nat.div_div_eq_div_mul, Nat.div_div_eq_div_mul, Nat.div_div_eq_div_mul]; exact Nat.mod_eq_of_lt (by clear v3 s3 c3; omega)
    rw [BitVec.toNat_and, show (127#64).toNat = 2 ^ 7 - 1 from rfl, Nat.and_two_pow_sub_one_eq_mod]
    obtain ⟨k0, k1, k2, k3, k4, k5, k6, k7⟩ := c3
    generalize h6 : e7 + 256 * 0 = r6 at v3
    generalize h5 : e6 + 256 * r6 = r5 at v3
    generalize h4 : e5 + 256 * r5 = r4 at v3
    generalize h3 : e4 + 256 * r4 = r3 at v3
    generalize h2 : e3 + 256 * r3 = r2 at v3
    generalize h1 : e2 + 256 * r2 = r1 at v3
    generalize h0 : e1 + 256 * r1 = r0 at v3
    have := pop_fin k0 k1 k2 k3 k4 k5 k6 k7 v3 h0.symm h1.symm h2.symm h3.symm h4.symm h5.symm h6.symm z1 q1 f1
    clear v3 h0 h1 h2 h3 h4 h5 h6 z1 q1 f1
    show _ % 128 = _
    rw [this]; omega
theorem lenI_len (x : BitVec 64) : iand (pc64 x).toInt 127 = ((allL x).length : Int) := by
  have h := pc64_len x
  have hl : (allL x).length ≤ 64 := by unfold allL; refine Nat.le_trans (List.length_filter_le _ _) ?_; simp
  unfold iand
  rw [BitVec.ofInt_toInt, show BitVec.ofInt 64 127 = 127#64 from rfl, h]
  exact wrap_i64 _ (by omega)
end Go.Eng
