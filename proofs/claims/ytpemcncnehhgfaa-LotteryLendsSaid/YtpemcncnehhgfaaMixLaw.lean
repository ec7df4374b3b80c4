/- Plain laws of mixes: no program in sight. No condition. -/
namespace Go.Eng

def mixF (x : BitVec 64) : BitVec 64 :=
  let x := x + 11400714819323198485#64
  let x := (x ^^^ (x >>> 30)) * 13787848793156543929#64
  let x := (x ^^^ (x >>> 27)) * 10723151780598845931#64
  x ^^^ (x >>> 31)

def bucketF (key n : Int) : Int := if n < 2 then 0 else (mixF (BitVec.ofInt 64 key) % BitVec.ofInt 64 n).toInt

/-- the lowest k bits -/
def lo (x : BitVec 64) (k : Nat) : BitVec 64 := BitVec.ofNat 64 (x.toNat % 2 ^ k)

theorem lo_get (x : BitVec 64) (k i : Nat) : (lo x k).getLsbD i = (decide (i < k) && x.getLsbD i) := by
  unfold lo
  rw [BitVec.getLsbD_ofNat, Nat.testBit_mod_two_pow]
  by_cases h : i < 64
  · simp [h, BitVec.getLsbD]
  · simp [h]
    intro _
    exact BitVec.getLsbD_of_ge _ _ (by omega)

theorem lo_zero (x : BitVec 64) : lo x 0 = 0#64 := by unfold lo; simp [Nat.mod_one]
theorem lo_all (x : BitVec 64) : lo x 64 = x := by
  unfold lo; apply BitVec.eq_of_toNat_eq; simp; exact x.isLt

theorem shr_mod2 (a : BitVec 64) (k : Nat) : (a >>> k) % 2#64 = if a.getLsbD k then 1#64 else 0#64 := by
  apply BitVec.eq_of_toNat_eq
  rw [BitVec.toNat_umod, BitVec.toNat_ushiftRight]
  have h : a.toNat >>> k % 2 = (a.toNat.testBit k).toNat := by
    rw [Nat.testBit_eq_decide_div_mod_eq, Nat.shiftRight_eq_div_pow]
    by_cases h : a.toNat / 2 ^ k % 2 = 1
    · simp [h]
    · have : a.toNat / 2 ^ k % 2 = 0 := by omega
      simp [this]
  show a.toNat >>> k % 2 = _
  rw [h]
  show (a.getLsbD k).toNat = _
  cases a.getLsbD k <;> rfl

theorem lo_toNat (x : BitVec 64) (k : Nat) : (lo x k).toNat = x.toNat % 2 ^ k := by
  unfold lo
  rw [BitVec.toNat_ofNat]
  exact Nat.mod_eq_of_lt (Nat.lt_of_le_of_lt (Nat.mod_le _ _) x.isLt)

theorem lo_succ_f {x : BitVec 64} {k : Nat} (h : x.getLsbD k = false) : lo x (k + 1) = lo x k := by
  apply BitVec.eq_of_getLsbD_eq
  intro i _
  rw [lo_get, lo_get]
  by_cases hik : i = k
  · subst hik; simp [h]
  · have : (i < k + 1) ↔ i < k := by omega
    simp [this]

theorem lo_succ_t {x : BitVec 64} {k : Nat} (hk : k < 64) (h : x.getLsbD k = true) : lo x k + 1#64 <<< k = lo x (k + 1) := by
  apply BitVec.eq_of_toNat_eq
  rw [BitVec.toNat_add, lo_toNat, lo_toNat, BitVec.toNat_shiftLeft]
  have h1 : x.toNat.testBit k = true := h
  rw [Nat.testBit_eq_decide_div_mod_eq] at h1
  have h2 : x.toNat / 2 ^ k % 2 = 1 := by simpa using h1
  have h3 : (1#64).toNat <<< k % 2 ^ 64 = 2 ^ k := by
    rw [Nat.shiftLeft_eq]
    show 1 * 2 ^ k % 2 ^ 64 = _
    rw [Nat.one_mul]
    exact Nat.mod_eq_of_lt (Nat.pow_lt_pow_right (by omega) hk)
  rw [h3]
  have h4 : x.toNat % 2 ^ (k + 1) = x.toNat % 2 ^ k + 2 ^ k * (x.toNat / 2 ^ k % 2) := by rw [Nat.pow_succ, Nat.mod_mul]
  rw [h4, h2, Nat.mul_one]
  apply Nat.mod_eq_of_lt
  have h5 : x.toNat % 2 ^ k < 2 ^ k := Nat.mod_lt _ (Nat.two_pow_pos k)
  have h6 : 2 ^ k ≤ 2 ^ 63 := Nat.pow_le_pow_right (by omega) (by omega)
  omega

theorem xor_step_t {a b : BitVec 64} {k : Nat} (hk : k < 64) (h : (a >>> k) % 2#64 ≠ (b >>> k) % 2#64) : lo (a ^^^ b) k + 1#64 <<< k = lo (a ^^^ b) (k + 1) := by
  apply lo_succ_t hk
  rw [BitVec.getLsbD_xor]
  rw [shr_mod2, shr_mod2] at h
  cases ha : a.getLsbD k <;> cases hb : b.getLsbD k <;> simp_all
theorem xor_step_f {a b : BitVec 64} {k : Nat} (h : ¬ (a >>> k) % 2#64 ≠ (b >>> k) % 2#64) : lo (a ^^^ b) k = lo (a ^^^ b) (k + 1) := by
  symm
  apply lo_succ_f
  rw [BitVec.getLsbD_xor]
  rw [shr_mod2, shr_mod2] at h
  cases ha : a.getLsbD k <;> cases hb : b.getLsbD k <;> simp_all

theorem ofInt_ne0 {n : Int} (h1 : 0 < n) (h2 : n ≤ 9223372036854775807) : BitVec.ofInt 64 n ≠ 0#64 := by
  intro h
  have := congrArg BitVec.toNat h
  rw [BitVec.toNat_ofInt] at this
  simp at this
  omega

theorem bucket_rng (key n : Int) (hn : n ≤ 9223372036854775807) : 0 ≤ bucketF key n ∧ (2 ≤ n → bucketF key n < n) ∧ (n < 2 → bucketF key n = 0) := by
  unfold bucketF
  split
  · exact ⟨by omega, by omega, fun _ => rfl⟩
  · rename_i h
    have h0 : (BitVec.ofInt 64 n).toNat = n.toNat := by rw [BitVec.toNat_ofInt]; simp; omega
    have h1 : (mixF (BitVec.ofInt 64 key) % BitVec.ofInt 64 n).toNat < n.toNat := by
      rw [BitVec.toNat_umod, h0]; exact Nat.mod_lt _ (by omega)
    generalize mixF (BitVec.ofInt 64 key) % BitVec.ofInt 64 n = r at *
    have h2 : r.toInt = r.toNat := by rw [BitVec.toInt_eq_toNat_of_lt]; omega
    rw [h2]
    exact ⟨by omega, fun _ => by omega, fun _ => by omega⟩
end Go.Eng
namespace Go.Eng
def ordLen (n : Int) : Nat := (min (max n 0) 64).toNat
theorem ordLen_le (n : Int) : ordLen n ≤ 64 := by unfold ordLen; omega
def iota (L : Nat) : List Int := (List.range L).map Int.ofNat
theorem iota_len (L : Nat) : (iota L).length = L := by simp [iota]
theorem mem_iota {L : Nat} {x : Int} : x ∈ iota L ↔ 0 ≤ x ∧ x < L := by
  simp only [iota, List.mem_map, List.mem_range]
  constructor
  · rintro ⟨a, ha, rfl⟩; simp; omega
  · rintro ⟨h1, h2⟩; exact ⟨x.toNat, by omega, by simp; omega⟩
/-- the first k are there, the others not yet -/
def ini (k L : Nat) : List Int := iota k ++ List.replicate (L - k) 0
theorem ini_len {k L : Nat} (h : k ≤ L) : (ini k L).length = L := by simp [ini, iota_len]; omega
theorem ini_zero (L : Nat) : List.replicate L (0 : Int) = ini 0 L := by simp [ini, iota]
theorem ini_all (L : Nat) : ini L L = iota L := by simp [ini]
theorem iota_succ (k : Nat) : iota (k + 1) = iota k ++ [(k : Int)] := by simp [iota, List.range_succ]
theorem ini_set {k L : Nat} (h : k < L) : (ini k L).set k (k : Int) = ini (k + 1) L := by
  unfold ini
  rw [List.set_append_right _ _ (by rw [iota_len]; omega), iota_len, Nat.sub_self, iota_succ, List.append_assoc]
  congr 1
  obtain ⟨m, hm⟩ : ∃ m, L - k = m + 1 := ⟨L - k - 1, by omega⟩
  rw [hm, show L - (k + 1) = m by omega, List.replicate_succ, List.set_cons_zero]; rfl
def swapL (l : List Int) (i k : Nat) : List Int := (l.set i (l.getD k 0)).set k (l.getD i 0)
theorem swapL_len (l : List Int) (i k : Nat) : (swapL l i k).length = l.length := by simp [swapL]
theorem mem_swapL {l : List Int} {i k : Nat} (hi : i < l.length) (hk : k < l.length) (x : Int) : x ∈ swapL l i k ↔ x ∈ l := by
  have h1 : l.getD k 0 = l[k] := by rw [List.getD_eq_getElem?_getD, List.getElem?_eq_getElem hk]; rfl
  have h2 : l.getD i 0 = l[i] := by rw [List.getD_eq_getElem?_getD, List.getElem?_eq_getElem hi]; rfl
  unfold swapL
  rw [h1, h2]
  constructor
  · intro h
    obtain ⟨j, hj, rfl⟩ := List.mem_iff_getElem.1 h
    rw [List.getElem_set]
    split
    · exact List.getElem_mem _
    · rw [List.getElem_set]
      split
      · exact List.getElem_mem _
      · exact List.getElem_mem _
  · intro h
    obtain ⟨j, hj, rfl⟩ := List.mem_iff_getElem.1 h
    by_cases hji : j = i
    · subst hji
      exact List.mem_iff_getElem.2 ⟨k, by simpa using hk, by rw [List.getElem_set_self]⟩
    · by_cases hjk : j = k
      · subst hjk
        refine List.mem_iff_getElem.2 ⟨i, by simpa using hi, ?_⟩
        rw [List.getElem_set_ne (by omega), List.getElem_set_self]
      · refine List.mem_iff_getElem.2 ⟨j, by simpa using hj, ?_⟩
        rw [List.getElem_set_ne (by omega), List.getElem_set_ne (by omega)]
def kAt (seed : BitVec 64) (i : Nat) : Nat := (bucketF ((seed + BitVec.ofInt 64 (i : Int)).toInt) ((i : Int) + 1)).toNat
def shuf (seed : BitVec 64) : Nat → List Int → List Int
  | 0, l => l
  | i + 1, l => shuf seed i (swapL l (i + 1) (kAt seed (i + 1)))
def orderF (seed : BitVec 64) (n : Int) : List Int := shuf seed (ordLen n - 1) (iota (ordLen n))
theorem kAt_lt (seed : BitVec 64) (i : Nat) (h1 : 1 ≤ i) (h : i ≤ 64) : kAt seed i ≤ i := by
  have := bucket_rng ((seed + BitVec.ofInt 64 (i : Int)).toInt) ((i : Int) + 1) (by omega)
  unfold kAt; omega
theorem shuf_len (seed : BitVec 64) : ∀ (i : Nat) (l : List Int), (shuf seed i l).length = l.length
  | 0, l => rfl
  | i + 1, l => by rw [shuf, shuf_len seed i, swapL_len]
theorem mem_shuf (seed : BitVec 64) : ∀ (i : Nat) (l : List Int), (i = 0 ∨ i < l.length) → l.length ≤ 64 → ∀ x, x ∈ shuf seed i l ↔ x ∈ l
  | 0, l, _, _, x => Iff.rfl
  | i + 1, l, h, h64, x => by
    have hi : i + 1 < l.length := by omega
    have hk := kAt_lt seed (i + 1) (by omega) (by omega)
    rw [shuf, mem_shuf seed i _ (by rw [swapL_len]; omega) (by rw [swapL_len]; exact h64), mem_swapL hi (by omega)]
theorem orderF_len (seed : BitVec 64) (n : Int) : (orderF seed n).length = ordLen n := by rw [orderF, shuf_len, iota_len]
theorem mem_orderF (seed : BitVec 64) (n : Int) (x : Int) : x ∈ orderF seed n ↔ 0 ≤ x ∧ x < ordLen n := by
  have := ordLen_le n
  unfold orderF
  rw [mem_shuf seed _ _ (by rw [iota_len]; omega) (by rw [iota_len]; exact this), mem_iota]
/-- the bits of some numbers -/
def bitsF : List Int → BitVec 64
  | [] => 0#64
  | v :: l => (1#64 <<< v.toNat) ||| bitsF l
theorem bitsF_get : ∀ (l : List Int) (i : Nat), (bitsF l).getLsbD i = (decide (i < 64) && l.any (fun v => decide (v.toNat = i)))
  | [], i => by simp [bitsF]
  | v :: l, i => by
    rw [bitsF, BitVec.getLsbD_or, bitsF_get l i, BitVec.getLsbD_shiftLeft, List.any_cons]
    by_cases h : i < 64
    · have : (1#64).getLsbD (i - v.toNat) = decide (i - v.toNat = 0) := by
        cases h2 : i - v.toNat with
        | zero => rfl
        | succ m => simp [BitVec.getLsbD_one]
      rw [this]
      by_cases h3 : v.toNat = i
      · simp [h, h3]
      · by_cases h4 : i < v.toNat
        · simp [h, h4, h3]
        · have h5 : ¬ (i - v.toNat = 0) := by omega
          simp [h, h4, h3, h5]
    · simp [h]
theorem bitsF_snoc (l : List Int) (v : Int) : bitsF (l ++ [v]) = bitsF l ||| (1#64 <<< v.toNat) := by
  induction l with
  | nil => simp [bitsF]
  | cons a l ih => rw [List.cons_append, bitsF, bitsF, ih, BitVec.or_assoc]
theorem full_get (L : Nat) (h : L < 64) (i : Nat) : (1#64 <<< L - 1#64).getLsbD i = decide (i < L) := by
  have h1 : (1#64 <<< L - 1#64).toNat = 2 ^ L - 1 := by
    have hp : 2 ^ L < 2 ^ 64 := Nat.pow_lt_pow_right (by omega) h
    have hpos := Nat.two_pow_pos L
    rw [BitVec.toNat_sub, BitVec.toNat_shiftLeft, Nat.shiftLeft_eq]
    show (2 ^ 64 - 1 + 1 * 2 ^ L % 2 ^ 64) % 2 ^ 64 = _
    rw [Nat.one_mul, Nat.mod_eq_of_lt hp]
    omega
  show (1#64 <<< L - 1#64).toNat.testBit i = _
  rw [h1, Nat.testBit_two_pow_sub_one]
theorem bits_order (seed : BitVec 64) (n : Int) (h : ordLen n < 64) : bitsF (orderF seed n) = 1#64 <<< ordLen n - 1#64 := by
  apply BitVec.eq_of_getLsbD_eq
  intro i hi
  rw [bitsF_get, full_get _ h]
  simp only [hi, decide_true, Bool.true_and]
  rw [Bool.eq_iff_iff]
  simp only [List.any_eq_true, decide_eq_true_eq]
  constructor
  · rintro ⟨v, hv, rfl⟩; have := (mem_orderF seed n v).1 hv; omega
  · intro hl; exact ⟨(i : Int), (mem_orderF seed n i).2 (by omega), by simp⟩
end Go.Eng
namespace Go.Eng
theorem getD_mem {l : List Int} {i : Nat} (h : i < l.length) : l.getD i 0 ∈ l := by
  rw [List.getD_eq_getElem?_getD, List.getElem?_eq_getElem h]; exact List.getElem_mem _
theorem orderF_rng (seed : BitVec 64) (n : Int) (i : Nat) (h : i < (orderF seed n).length) : 0 ≤ (orderF seed n).getD i 0 ∧ (orderF seed n).getD i 0 < 64 := by
  have := (mem_orderF seed n _).1 (getD_mem h)
  have := ordLen_le n
  omega
theorem bits_take (l : List Int) (i : Nat) (h : i < l.length) : bitsF (l.take (i + 1)) = bitsF (l.take i) ||| (1#64 <<< (l.getD i 0).toNat) := by
  rw [List.take_succ_eq_append_getElem h, bitsF_snoc]
  rw [List.getD_eq_getElem?_getD, List.getElem?_eq_getElem h]; rfl

/-! mixes apart -/
theorem xorshift_inj {k : Nat} (hk : 0 < k) {a b : BitVec 64} (h : a ^^^ (a >>> k) = b ^^^ (b >>> k)) : a = b := by
  apply BitVec.eq_of_getLsbD_eq
  have key : ∀ m i, 64 ≤ i + m → a.getLsbD i = b.getLsbD i := by
    intro m
    induction m with
    | zero => intro i hi; rw [BitVec.getLsbD_of_ge _ _ (by omega), BitVec.getLsbD_of_ge _ _ (by omega)]
    | succ m ih =>
      intro i hi
      have h1 := congrArg (fun x => BitVec.getLsbD x i) h
      simp only [BitVec.getLsbD_xor, BitVec.getLsbD_ushiftRight] at h1
      rw [ih (k + i) (by omega)] at h1
      simpa using h1
  intro i hi
  exact key 64 i (by omega)
theorem mul_inj {c d : BitVec 64} (hcd : c * d = 1#64) {a b : BitVec 64} (h : a * c = b * c) : a = b := by
  have h1 := congrArg (· * d) h
  simp only [BitVec.mul_assoc, hcd, BitVec.mul_one] at h1
  exact h1
theorem mixF_inj {a b : BitVec 64} (h : mixF a = mixF b) : a = b := by
  unfold mixF at h
  have h1 := xorshift_inj (by omega) h
  have h2 := mul_inj (d := 3573116690164977347#64) (by decide) h1
  have h3 := xorshift_inj (by omega) h2
  have h4 := mul_inj (d := 10871156337175269513#64) (by decide) h3
  have h5 := xorshift_inj (by omega) h4
  have h6 := congrArg (· - 11400714819323198485#64) h5
  simpa using h6
end Go.Eng
