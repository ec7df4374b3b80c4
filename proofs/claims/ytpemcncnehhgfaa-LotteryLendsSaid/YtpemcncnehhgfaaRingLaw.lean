/- A ring's law: what its slots hold; no program. No condition. -/
import Derived.Test.YtpemcncnehhgfaaEng7
set_option linter.unusedVariables false
set_option linter.unusedSimpArgs false
namespace Go.Eng
open Go Go.RowKit

/-- The slots ss of a ring of so many that these were put into. -/
def RI {α : Type} (most : Nat) (xs ss : List α) : Prop := ss.length = min xs.length most ∧ ∀ n, xs.length ≤ n + ss.length → n < xs.length → ss[n % most]? = xs[n]?
theorem RI.nil {α : Type} (most : Nat) : RI most ([] : List α) [] := ⟨by simp, fun n _ h => by simp at h⟩
theorem RI.grow {α : Type} {most : Nat} {xs ss : List α} (h : RI most xs ss) (hlt : ss.length < most) (a : α) : RI most (xs ++ [a]) (ss ++ [a]) := by
  obtain ⟨h1, h2⟩ := h
  have hx : ss.length = xs.length := by omega
  refine ⟨by simp; omega, fun n h3 h4 => ?_⟩
  simp only [List.length_append, List.length_cons, List.length_nil] at h3 h4
  have hn : n % most = n := Nat.mod_eq_of_lt (by omega)
  rw [hn]
  by_cases hl : n < xs.length
  · have := h2 n (by omega) hl
    rw [hn] at this
    rw [List.getElem?_append_left (by omega), List.getElem?_append_left hl]; exact this
  · rw [List.getElem?_append_right (by omega), List.getElem?_append_right (by omega), hx]
theorem mod_ne {n m k : Nat} (h1 : n < m) (h2 : m < n + k) : n % k ≠ m % k := fun h => by
  have hk : 0 < k := by omega
  have h3 := Nat.div_add_mod n k
  have h4 := Nat.div_add_mod m k
  rw [h] at h3
  have h5 : n / k < m / k := by
    rcases Nat.lt_or_ge (n / k) (m / k) with h | h
    · exact h
    · have := Nat.mul_le_mul_left k h; omega
  have h6 : k * (n / k + 1) ≤ k * (m / k) := Nat.mul_le_mul_left k h5
  rw [Nat.mul_add, Nat.mul_one] at h6
  omega
theorem RI.set {α : Type} {most : Nat} {xs ss : List α} (hm : 0 < most) (h : RI most xs ss) (hge : ¬ ss.length < most) (a : α) : RI most (xs ++ [a]) (ss.set (xs.length % most) a) := by
  obtain ⟨h1, h2⟩ := h
  have hx : ss.length = most := by omega
  have hlt := Nat.mod_lt xs.length hm
  refine ⟨by simp; omega, fun n h3 h4 => ?_⟩
  simp only [List.length_append, List.length_cons, List.length_nil, List.length_set] at h3 h4
  by_cases hl : n < xs.length
  · have hne := mod_ne (k := most) hl (by omega)
    rw [List.getElem?_set_ne (Ne.symm hne), List.getElem?_append_left hl]
    exact h2 n (by omega) hl
  · have : n = xs.length := by omega
    subst this
    rw [List.getElem?_set_self (by omega), List.getElem?_append_right (by omega)]; simp
theorem RI.get {α : Type} {most : Nat} {xs ss : List α} (h : RI most xs ss) {n : Nat} (h1 : xs.length ≤ n + min xs.length most) (h2 : n < xs.length) : ss[n % most]? = xs[n]? := h.2 n (by rw [h.1]; exact h1) h2

/-- a ring's memory -/
def RingM {α : Type} (f : α → List Value) (tyR E n0 most : Nat) (xs : List α) (v : Value) (m : Mem0) : Prop :=
  ∃ br sv ms ss, n0 ≤ br ∧ v = .pointer (some ⟨br, 0, none⟩) ∧ m = (br, .cells #[sv, .int .i64 (most : Int), .int .i64 (xs.length : Int)] tyR (0, 0)) :: ms ∧ Sl f E 1 n0 ss sv ms ∧ RI most xs ss
theorem Sl.wlk {α : Type} {f : α → List Value} {E s n0 : Nat} {xs : List α} {v : Value} {m : Mem0} (h : Sl f E s n0 xs v m) : ∀ p ∈ m, wlk p.2 = false := by
  rcases h with ⟨_, rfl, _⟩ | ⟨b, cap, junk, _, _, rfl, _⟩
  · intro p hp; cases hp
  · intro p hp; rw [List.mem_singleton] at hp; subst hp; rfl
theorem RingM.wlk {α : Type} {f : α → List Value} {tyR E n0 most : Nat} {xs : List α} {v : Value} {m : Mem0} (h : RingM f tyR E n0 most xs v m) : ∀ p ∈ m, wlk p.2 = false := by
  obtain ⟨br, sv, ms, ss, _, _, rfl, h1, _⟩ := h
  intro p hp
  rcases List.mem_cons.1 hp with rfl | hp
  · rfl
  · exact h1.wlk p hp
theorem RingM.ge {α : Type} {f : α → List Value} {tyR E n0 most : Nat} {xs : List α} {v : Value} {m : Mem0} (h : RingM f tyR E n0 most xs v m) : ∀ p ∈ m, n0 ≤ p.1 := by
  obtain ⟨br, sv, ms, ss, hb, _, rfl, h1, _⟩ := h
  intro p hp
  rcases List.mem_cons.1 hp with rfl | hp
  · exact hb
  · exact h1.ge p hp
theorem RingM.mono {α : Type} {f : α → List Value} {tyR E n0 n1 most : Nat} {xs : List α} {v : Value} {m : Mem0} (h : RingM f tyR E n0 most xs v m) (hn : n1 ≤ n0) : RingM f tyR E n1 most xs v m := by
  obtain ⟨br, sv, ms, ss, hb, h1, h2, h3, h4⟩ := h
  exact ⟨br, sv, ms, ss, by omega, h1, h2, h3.mono hn, h4⟩

/-- what a number is brought to -/
def bringN (n : Int) : Nat := if n < 1 then 1 else if n > 4096 then 4096 else n.toNat
theorem bringN_pos (n : Int) : 0 < bringN n ∧ bringN n ≤ 4096 := by unfold bringN; split <;> (try split) <;> omega
theorem bringN_if (n : Int) : (if (4096 : Int) < (if (1 : Int) > n then 1 else n) then (4096 : Int) else (if (1 : Int) > n then 1 else n)) = ((bringN n : Nat) : Int) := by
  unfold bringN; split <;> split <;> (try split) <;> omega
def fS (s : ByteArray) : List Value := [.string s]
theorem fS_len (n : ByteArray) : (fS n).length = 1 := rfl
theorem fS_one (n : ByteArray) : ∀ u ∈ fS n, one u = true := by intro u hu; simp [fS] at hu; subst hu; rfl
theorem arr_getS {xs : List ByteArray} {junk : List Value} {i : Nat} {s : ByteArray} (h : xs[i]? = some s) : (arr fS xs junk)[i]? = some (.string s) := by
  have := arr_get (f := fS) fS_len (xs := xs) (junk := junk) (i := i) (j := 0) (a := s) h (by omega)
  simpa [fS] using this
theorem arr_getI' {xs : List Int} {junk : List Value} {i : Nat} {s : Int} (h : xs[i]? = some s) : (arr fI xs junk)[i]? = some (.int .i64 s) := by
  have := arr_get (f := fI) fI_len (xs := xs) (junk := junk) (i := i) (j := 0) (a := s) h (by omega)
  simpa [fI] using this
/-- One element of one cell is replaced. -/
theorem setR_arr1 {α : Type} {f : α → List Value} (hf : ∀ a, (f a).length = 1) {xs : List α} {junk : List Value} {i : Nat} {a : α} (h : i < xs.length) : setR (arr f xs junk) i (f a) = arr f (xs.set i a) junk := by
  obtain ⟨v, hv⟩ : ∃ v, f a = [v] := by
    have := hf a
    match hq : f a with
    | [] => rw [hq] at this; simp at this
    | [v] => exact ⟨v, rfl⟩
    | _ :: _ :: _ => rw [hq] at this; simp at this
  rw [hv]
  apply Array.ext'
  simp only [setR, arr, List.setIfInBounds_toArray]
  rw [List.set_append_left _ _ (by rw [flatMap_len hf]; omega)]
  congr 1
  induction xs generalizing i with
  | nil => simp at h
  | cons b xs ih =>
    obtain ⟨u, hu⟩ : ∃ u, f b = [u] := by
      have := hf b
      match hq : f b with
      | [] => rw [hq] at this; simp at this
      | [v] => exact ⟨v, rfl⟩
      | _ :: _ :: _ => rw [hq] at this; simp at this
    cases i with
    | zero => simp [hu, hv]
    | succ i =>
      simp only [List.length_cons] at h
      simp only [List.flatMap_cons, List.set_cons_succ, hu, List.cons_append, List.nil_append]
      rw [ih (i := i) (by omega)]
section
variable {P : Program} {r : Option Nat} {N : Nat} {Q : Exit → Act → World → Prop} {e : Env} {ds : List Nat} {M : Mem0} {S : Nat → Prop} {w0 : World} {G : World → Prop}
variable {ops : Array Oper} {l : List Oper} {ty : TypeId} {pos : String} {after : Array Edge} {x y : Operand} {t : TypeId}
/-- An element of one cell is stored. -/
theorem LM.store1 [GT G] {α : Type} {f : α → List Value} (hf : ∀ a, (f a).length = 1) (h1 : ∀ a, ∀ u ∈ f a, one u = true) (i : Nat) {b j : Nat} {xs : List α} {junk : List Value} {a : α} {v : Value} {E : TypeId} (hS : ∀ w, (sizeOf t).run P w = .ok 1 w) (ha : ev e x = some (.pointer (some ⟨b, j, none⟩))) (hv : ev e y = some v) (hfa : v.cells = (f a).toArray)
    (hM : M[i]? = some (b, .cells (arr f xs junk) E (0, 0))) (hj : j < xs.length) (hb : b < w0.heap.size → S b)
    (h : LM P r N ops Q l e ds (M.set i (b, .cells (arr f (xs.set j a) junk) E (0, 0))) S w0 G) : LM P r N ops Q (⟨none, .store t x y, ty, pos, after, none⟩ :: l) e ds M S w0 G :=
  LM.store i hS ha hv hM (by rw [hfa]; simp [hf]) (by simp [arr, flatMap_len hf]; omega) (by rw [hfa]; exact List.all_eq_true.2 (fun u hu => h1 a u hu)) hb (by
    have e1 : v.cells.toList = f a := by rw [hfa]
    rw [e1, setR_arr1 hf hj]; exact h)
end

/-! ### what is gone over -/
def fromS (n first : Int) : Int := if first > n then first else n
def fromA (xs : List Int) (s : Int) : List (Array Value) := (List.range ((xs.length : Int) - s).toNat).map fun (k : Nat) => #[.int .i64 (s + k), .int .i64 (xs.getD (s + k).toNat 0)]
theorem fromA_len (xs : List Int) (s : Int) : (fromA xs s).length = ((xs.length : Int) - s).toNat := by simp [fromA]
theorem fromA_get {xs : List Int} {s : Int} {k : Nat} (h : s + k < xs.length) : (fromA xs s)[k]? = some #[.int .i64 (s + k), .int .i64 (xs.getD (s + k).toNat 0)] := by
  rw [fromA, List.getElem?_map, List.getElem?_range (by omega)]; rfl
theorem fromA_inv {xs : List Int} {s : Int} {k : Nat} {av : Array Value} (h : (fromA xs s)[k]? = some av) : s + k < xs.length ∧ av = #[.int .i64 (s + k), .int .i64 (xs.getD (s + k).toNat 0)] := by
  have hk : k < (fromA xs s).length := (List.getElem?_eq_some_iff.1 h).1
  rw [fromA_len] at hk
  have hlt : s + k < xs.length := by omega
  rw [fromA_get hlt] at h
  exact ⟨hlt, (Option.some.inj h).symm⟩
def backA (xs : List Int) (first : Nat) : List (Array Value) := (List.range (xs.length - first)).map fun (k : Nat) => #[.int .i64 ((xs.length : Int) - 1 - k), .int .i64 (xs.getD ((xs.length : Int) - 1 - k).toNat 0)]
theorem backA_len (xs : List Int) (first : Nat) : (backA xs first).length = xs.length - first := by simp [backA]
theorem backA_get {xs : List Int} {first k : Nat} (h : k < xs.length - first) : (backA xs first)[k]? = some #[.int .i64 ((xs.length : Int) - 1 - k), .int .i64 (xs.getD ((xs.length : Int) - 1 - k).toNat 0)] := by
  rw [backA, List.getElem?_map, List.getElem?_range h]; rfl
theorem backA_inv {xs : List Int} {first k : Nat} {av : Array Value} (h : (backA xs first)[k]? = some av) : k < xs.length - first ∧ av = #[.int .i64 ((xs.length : Int) - 1 - k), .int .i64 (xs.getD ((xs.length : Int) - 1 - k).toNat 0)] := by
  have hk : k < (backA xs first).length := (List.getElem?_eq_some_iff.1 h).1
  rw [backA_len] at hk
  rw [backA_get hk] at h
  exact ⟨hk, (Option.some.inj h).symm⟩
end Go.Eng
