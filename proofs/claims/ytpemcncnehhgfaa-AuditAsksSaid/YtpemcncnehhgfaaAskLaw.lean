/- Which stays are beside one another, which is longest, which go on at a time; no program. No condition. -/
import Derived.Test.YtpemcncnehhgfaaStayLaw2
set_option linter.unusedVariables false
set_option linter.unusedSimpArgs false
namespace Go.Eng
open Go Go.RowKit

def bes (a b : St) : Bool := decide (a.lock = b.lock) && (decide (a.task ≠ b.task) && (!(a.read && b.read) && (meetsB a b && meetsB b a)))
def bIn (l : List St) (b : St) : Nat → Nat → Option Nat
  | _, 0 => none
  | i, n + 1 => if bes (l.getD i default) b = true then some i else bIn l b (i + 1) n
def bOut (l : List St) : Nat → Nat → Option (Nat × Nat)
  | _, 0 => none
  | k, n + 1 => match bIn l (l.getD k default) 0 k with | some i => some (i, k) | none => bOut l (k + 1) n
theorem bIn_step (l : List St) (b : St) {i k : Nat} (h : i < k) : bIn l b i (k - i) = if bes (l.getD i default) b = true then some i else bIn l b (i + 1) (k - (i + 1)) := by
  rw [show k - i = (k - (i + 1)) + 1 by omega]; rfl
theorem bOut_step (l : List St) {k n : Nat} (h : k < n) : bOut l k (n - k) = match bIn l (l.getD k default) 0 k with | some i => some (i, k) | none => bOut l (k + 1) (n - (k + 1)) := by
  rw [show n - k = (n - (k + 1)) + 1 by omega]; rfl
def bOf (l : List St) : Option (Nat × Nat) := bOut l 0 l.length
def besV (o : Option (Nat × Nat)) : Value := match o with | some p => .tuple #[.int .i64 (p.1 : Nat), .int .i64 (p.2 : Nat), .bool true] | none => .tuple #[.int .i64 0, .int .i64 0, .bool false]

def lenT (s : St) : BitVec 64 := (if s.to.toNat < s.frm.toNat then s.frm else s.to) - s.frm
theorem lenT_zero {s : St} (h : ¬ s.frm.toNat < s.to.toNat) : lenT s = 0#64 := by
  unfold lenT
  by_cases h1 : s.to.toNat < s.frm.toNat
  · rw [if_pos h1]; simp
  · rw [if_neg h1, BitVec.eq_of_toNat_eq (show s.to.toNat = s.frm.toNat by omega)]; simp
def lonS (acc : Option (Nat × BitVec 64)) (i : Nat) (s : St) : Option (Nat × BitVec 64) :=
  if s.fin = 0 then acc else match acc with | none => some (i, lenT s) | some (j, m) => if m.toNat < (lenT s).toNat then some (i, lenT s) else some (j, m)
def lonF (l : List St) : Nat → Option (Nat × BitVec 64)
  | 0 => none
  | i + 1 => lonS (lonF l i) i (l.getD i default)
def lonI (o : Option (Nat × BitVec 64)) : Int := match o with | some p => (p.1 : Nat) | none => -1
theorem lonF_none_or (l : List St) : ∀ i, ∀ p, lonF l i = some p → p.1 < i
  | 0, p, h => by cases h
  | i + 1, p, h => by
    have ih := lonF_none_or l i
    simp only [lonF, lonS] at h
    split at h
    · have := ih p h; omega
    · split at h
      · cases h; simp
      · rename_i j m hj
        have := ih _ hj
        split at h <;> cases h <;> simp at this ⊢; omega

def onT (lock : Int) (x : BitVec 64) (s : St) : Bool := decide (s.lock = lock) && (decide (s.frm.toNat ≤ x.toNat) && (decide (s.fin = 0) || decide (x.toNat < s.to.toNat)))
def onP (l : List St) (lock : Int) (x : BitVec 64) : List Nat := (List.range l.length).filter (fun i => onT lock x (l.getD i default))
def onA (l : List St) (lock : Int) (x : BitVec 64) : List (Array Value) := (onP l lock x).map (fun i => #[.int .i64 (i : Nat), .agg (fT (l.getD i default)).toArray])
theorem onP_mem {l : List St} {lock : Int} {x : BitVec 64} {i : Nat} : i ∈ onP l lock x ↔ i < l.length ∧ onT lock x (l.getD i default) = true := by simp [onP, -List.getD_eq_getElem?_getD]
theorem onP_sorted (l : List St) (lock : Int) (x : BitVec 64) : (onP l lock x).Pairwise (· < ·) := List.Pairwise.filter _ List.pairwise_lt_range
/-- the places that are gone over first are those of the first stays -/
theorem onP_take (l : List St) (lock : Int) (x : BitVec 64) (i : Nat) (h : i ≤ l.length) : (onP l lock x).take ((List.range i).filter (fun i => onT lock x (l.getD i default))).length = (List.range i).filter (fun i => onT lock x (l.getD i default)) := by
  have : onP l lock x = (List.range i).filter (fun i => onT lock x (l.getD i default)) ++ ((List.range' i (l.length - i)).filter (fun i => onT lock x (l.getD i default))) := by
    unfold onP
    rw [← List.filter_append]
    congr 1
    rw [List.range_eq_range', List.range_eq_range', show l.length = i + (l.length - i) by omega]
    have := List.range'_append (s := 0) (m := i) (n := l.length - i) (step := 1)
    simp at this ⊢
    rw [← this]
  rw [this, List.take_left]
def onN (l : List St) (lock : Int) (x : BitVec 64) (i : Nat) : Nat := ((List.range i).filter (fun i => onT lock x (l.getD i default))).length
theorem onN_succ (l : List St) (lock : Int) (x : BitVec 64) (i : Nat) : onN l lock x (i + 1) = onN l lock x i + (if onT lock x (l.getD i default) = true then 1 else 0) := by
  unfold onN; rw [List.range_succ, List.filter_append, List.length_append]; congr 1
  simp only [List.filter_cons, List.filter_nil]; split <;> simp
theorem onN_le (l : List St) (lock : Int) (x : BitVec 64) : ∀ i, onN l lock x i ≤ i
  | 0 => Nat.le_refl _
  | i + 1 => by have := onN_le l lock x i; rw [onN_succ]; split <;> omega
theorem onN_len (l : List St) (lock : Int) (x : BitVec 64) : onN l lock x l.length = (onP l lock x).length := rfl
theorem onN_get {l : List St} {lock : Int} {x : BitVec 64} {i : Nat} (h : i < l.length) (ho : onT lock x (l.getD i default) = true) : (onP l lock x)[onN l lock x i]? = some i := by
  have h1 := onP_take l lock x (i + 1) (by omega)
  have h2 : ((List.range (i + 1)).filter (fun i => onT lock x (l.getD i default))) = (List.range i).filter (fun i => onT lock x (l.getD i default)) ++ [i] := by
    rw [List.range_succ, List.filter_append]; congr 1; simp only [List.filter_cons, List.filter_nil]; rw [if_pos ho]
  rw [h2] at h1
  have h3 : (((onP l lock x).take (((List.range i).filter (fun i => onT lock x (l.getD i default))) ++ [i]).length))[onN l lock x i]? = some i := by
    rw [h1]; unfold onN; rw [List.getElem?_append_right (Nat.le_refl _)]; simp
  rw [List.getElem?_take] at h3
  split at h3
  · exact h3
  · cases h3
theorem onA_get {l : List St} {lock : Int} {x : BitVec 64} {i : Nat} (h : i < l.length) (ho : onT lock x (l.getD i default) = true) : (onA l lock x)[onN l lock x i]? = some #[.int .i64 (i : Nat), .agg (fT (l.getD i default)).toArray] := by
  unfold onA; rw [List.getElem?_map, onN_get h ho]; rfl
theorem onA_inv {l : List St} {lock : Int} {x : BitVec 64} {k : Nat} {a : Array Value} (h : (onA l lock x)[k]? = some a) : ∃ p, p < l.length ∧ onT lock x (l.getD p default) = true ∧ onN l lock x p = k ∧ a = #[.int .i64 (p : Nat), .agg (fT (l.getD p default)).toArray] := by
  unfold onA at h; rw [List.getElem?_map, Option.map_eq_some_iff] at h
  obtain ⟨p, hp, rfl⟩ := h
  have : ∀ {l : List St} {lock : Int} {x : BitVec 64} {k p : Nat}, (onP l lock x)[k]? = some p → p < l.length ∧ onT lock x (l.getD p default) = true ∧ onN l lock x p = k := by
    intro l lock x k p h
    obtain ⟨h1, h2⟩ := onP_mem.1 (List.mem_of_getElem? h)
    refine ⟨h1, h2, ?_⟩
    have h3 := onN_get h1 h2
    obtain ⟨a1, a2⟩ := List.getElem?_eq_some_iff.1 h
    obtain ⟨b1, b2⟩ := List.getElem?_eq_some_iff.1 h3
    rcases Nat.lt_trichotomy (onN l lock x p) k with hlt | heq | hgt
    · have := List.pairwise_iff_getElem.1 (onP_sorted l lock x) _ _ b1 a1 hlt; omega
    · exact heq
    · have := List.pairwise_iff_getElem.1 (onP_sorted l lock x) _ _ a1 b1 hgt; omega
  obtain ⟨h1, h2, h3⟩ := this hp
  exact ⟨p, h1, h2, h3, rfl⟩
theorem onA_len (l : List St) (lock : Int) (x : BitVec 64) : (onA l lock x).length = onN l lock x l.length := by unfold onA; rw [List.length_map]; rfl
/-- a place that is not gone on from -/
theorem onP_next {l : List St} {lock : Int} {x : BitVec 64} {k p : Nat} (h : (onP l lock x)[k]? = some p) : p < l.length ∧ onT lock x (l.getD p default) = true ∧ onN l lock x p = k := by
  obtain ⟨h1, h2⟩ := onP_mem.1 (List.mem_of_getElem? h)
  refine ⟨h1, h2, ?_⟩
  have h3 := onN_get h1 h2
  have hk := (List.getElem?_eq_some_iff.1 h)
  have hk3 := (List.getElem?_eq_some_iff.1 h3)
  obtain ⟨a1, a2⟩ := hk
  obtain ⟨b1, b2⟩ := hk3
  rcases Nat.lt_trichotomy (onN l lock x p) k with hlt | heq | hgt
  · have := List.pairwise_iff_getElem.1 (onP_sorted l lock x) _ _ b1 a1 hlt; omega
  · exact heq
  · have := List.pairwise_iff_getElem.1 (onP_sorted l lock x) _ _ a1 b1 hgt; omega
theorem onN_mono (l : List St) (lock : Int) (x : BitVec 64) {i j : Nat} (h : i ≤ j) : onN l lock x i ≤ onN l lock x j := by
  induction j with
  | zero => have : i = 0 := by omega
            subst this; exact Nat.le_refl _
  | succ j ih =>
    by_cases hij : i = j + 1
    · subst hij; exact Nat.le_refl _
    · have := ih (by omega); rw [onN_succ]; omega
end Go.Eng
