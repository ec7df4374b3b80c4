/- Programs and their critical sections: ops, sections, what is met first; no program. No condition. -/
import Derived.Test.YtoeojcnodjjpgaaDoorEng11
import Derived.Test.YtoeojcnodjjpgaaDoorOpen
set_option linter.unusedVariables false
set_option linter.unusedSimpArgs false
namespace Go.Eng
open Go Go.RowKit

structure COp where
  k : Int
  a : Int
  b : Int
structure CLk where
  sh : Bool
  sl : Int
  cr : Int
  rd : Int
  wr : Int
instance : Inhabited COp := ⟨⟨0, 0, 0⟩⟩
instance : Inhabited CLk := ⟨⟨false, 0, 0, 0, 0⟩⟩
def fO (o : COp) : List Value := [.int .i64 o.k, .int .i64 o.a, .int .i64 o.b]
def fL (x : CLk) : List Value := [.bool x.sh, .int .i64 x.sl, .int .i64 x.cr, .int .i64 x.rd, .int .i64 x.wr]
def fS (s : ByteArray) : List Value := [.string s]

/-! the first that is such -/
def fixI {α : Type} (p : α → Bool) (xs : List α) : Int := if xs.any p then (xs.findIdx p : Nat) else -1
theorem any_snoc {α : Type} {p : α → Bool} {xs : List α} {i : Nat} (d : α) (h : i < xs.length) : (xs.take (i + 1)).any p = ((xs.take i).any p || p (xs.getD i d)) := by
  rw [take_snoc d h, List.any_append]; simp
theorem fix_hit {α : Type} {p : α → Bool} {xs : List α} {i : Nat} (d : α) (h0 : (xs.take i).any p = false) (h : i < xs.length) (hp : p (xs.getD i d) = true) : fixI p xs = (i : Nat) := by
  have e := getq d h
  have h1 : xs.any p = true := List.any_eq_true.2 ⟨_, List.mem_of_getElem? e, hp⟩
  have h2 : xs.findIdx p = i := by
    rw [List.findIdx_eq h]
    refine ⟨by rw [List.getElem?_eq_getElem h] at e; rw [Option.some.inj e]; exact hp, fun j hj => ?_⟩
    have h3 := List.any_eq_false.1 h0 xs[j] (by rw [List.mem_take_iff_getElem]; exact ⟨j, by omega, rfl⟩)
    simpa using h3
  unfold fixI; rw [if_pos h1, h2]
theorem fix_miss {α : Type} {p : α → Bool} {xs : List α} (h : xs.any p = false) : fixI p xs = -1 := by
  unfold fixI; rw [h]; rfl
theorem fix_pos {α : Type} {p : α → Bool} {xs : List α} : decide (0 ≤ fixI p xs) = xs.any p := by
  unfold fixI
  cases xs.any p
  · rfl
  · simp

/-! ops -/
def takesB (k : Int) : Bool := decide (2 ≤ k) && decide (k ≤ 5)
def passB (k : Int) : Bool := decide (k = 1) || decide (k = 7) || decide (k = 8) || decide (k = 11)
def loA (k : Int) : Int := if k = 1 then 1 else if k = 2 ∨ k = 3 ∨ k = 4 ∨ k = 6 ∨ k = 9 then 0 else if k = 5 then 0 else if k = 7 then 1 else if k = 10 then 1 else -1
def hiA (k : Int) : Int := if k = 1 then 16 else if k = 2 ∨ k = 3 ∨ k = 4 ∨ k = 6 ∨ k = 9 then 7 else if k = 5 then 7 else if k = 7 then 64 else if k = 10 then 16 else -1
def loB (k : Int) : Int := if k = 5 then 1 else -1
def hiB (k : Int) : Int := if k = 5 then 64 else -1
def hasB (lo hi n : Int) : Bool := if lo = -1 then decide (n = 0) else decide (lo ≤ n) && decide (n ≤ hi)
def kindB (k : Int) : Bool := decide (1 ≤ k) && decide (k ≤ 11)
def rightB (o : COp) : Bool := kindB o.k && hasB (loA o.k) (hiA o.k) o.a && hasB (loB o.k) (hiB o.k) o.b
theorem takes_row (k : Int) : [(2 : Int), 3, 4, 5].any (fun y => decide (k = y)) = takesB k := by
  unfold takesB; simp only [List.any_cons, List.any_nil, Bool.or_false]
  by_cases h : 2 ≤ k ∧ k ≤ 5
  · have : k = 2 ∨ k = 3 ∨ k = 4 ∨ k = 5 := by omega
    rcases this with rfl | rfl | rfl | rfl <;> rfl
  · rw [show decide (k = 2) = false from decide_eq_false (by omega), show decide (k = 3) = false from decide_eq_false (by omega), show decide (k = 4) = false from decide_eq_false (by omega), show decide (k = 5) = false from decide_eq_false (by omega)]
    by_cases h2 : 2 ≤ k
    · rw [show decide (k ≤ 5) = false from decide_eq_false (by omega)]; simp
    · rw [show decide (2 ≤ k) = false from decide_eq_false h2]; rfl
theorem pass_row (k : Int) : [(1 : Int), 7, 8, 11].any (fun y => decide (k = y)) = passB k := by
  unfold passB; simp only [List.any_cons, List.any_nil, Bool.or_false, Bool.or_assoc]
/-! names -/
def nmL : List ByteArray := [⟨#[]⟩, ⟨#[99, 111, 109, 112, 117, 116, 101]⟩, ⟨#[108, 111, 99, 107]⟩, ⟨#[114, 101, 97, 100]⟩, ⟨#[116, 114, 121]⟩, ⟨#[116, 105, 109, 101, 100]⟩, ⟨#[117, 110, 108, 111, 99, 107]⟩, ⟨#[115, 108, 101, 101, 112]⟩, ⟨#[121, 105, 101, 108, 100]⟩, ⟨#[115, 112, 97, 119, 110]⟩, ⟨#[119, 101, 105, 103, 104, 116]⟩, ⟨#[101, 120, 105, 116]⟩]
def nmO (k : Int) : ByteArray := if 0 ≤ k ∧ k < 12 then nmL.getD k.toNat default else ⟨#[]⟩
theorem nmO_empty (k : Int) : ((nmO k).toList == (⟨#[]⟩ : ByteArray).toList) = !(kindB k) := by
  unfold kindB
  by_cases h : 0 ≤ k ∧ k < 12
  · have : k = 0 ∨ k = 1 ∨ k = 2 ∨ k = 3 ∨ k = 4 ∨ k = 5 ∨ k = 6 ∨ k = 7 ∨ k = 8 ∨ k = 9 ∨ k = 10 ∨ k = 11 := by omega
    rcases this with rfl | rfl | rfl | rfl | rfl | rfl | rfl | rfl | rfl | rfl | rfl | rfl <;> decide +kernel
  · unfold nmO; rw [if_neg h]
    by_cases h2 : 1 ≤ k
    · rw [show decide (k ≤ 11) = false from decide_eq_false (by omega)]; simp
    · rw [show decide (1 ≤ k) = false from decide_eq_false h2]; simp

/-! sections: the steps to the end, and the ticks -/
def stopB (lock : Int) (o : COp) : Bool := decide (o.k = 11) || (decide (o.k = 6) && decide (o.a = lock))
def secT (lock : Int) : List COp → Nat × Int
  | [] => (0, 0)
  | o :: l => if stopB lock o then (0, 0) else ((secT lock l).1 + 1, (if o.k = 1 then o.a else 0) + (secT lock l).2)
theorem sec_step {lock : Int} {xs : List COp} {i : Nat} (h : i < xs.length) (hs : stopB lock (xs.getD i default) = false) :
    secT lock (xs.drop i) = ((secT lock (xs.drop (i + 1))).1 + 1, (if (xs.getD i default).k = 1 then (xs.getD i default).a else 0) + (secT lock (xs.drop (i + 1))).2) := by
  have e := getq (default : COp) h
  rw [List.getElem?_eq_getElem h] at e
  rw [List.drop_eq_getElem_cons h, Option.some.inj e]
  rw [secT, if_neg (by rw [hs]; simp)]
theorem sec_stop {lock : Int} {xs : List COp} {i : Nat} (h : i < xs.length) (hs : stopB lock (xs.getD i default) = true) : secT lock (xs.drop i) = (0, 0) := by
  have e := getq (default : COp) h
  rw [List.getElem?_eq_getElem h] at e
  rw [List.drop_eq_getElem_cons h, Option.some.inj e]
  rw [secT, if_pos hs]
theorem sec_end {lock : Int} {xs : List COp} {i : Nat} (h : xs.length ≤ i) : secT lock (xs.drop i) = (0, 0) := by
  rw [List.drop_of_length_le h]; rfl
def smallO (xs : List COp) : Prop := xs.length ≤ 20 ∧ ∀ o ∈ xs, -1125899906842624 ≤ o.a ∧ o.a ≤ 1125899906842624
theorem smallO.at {xs : List COp} (h : smallO xs) (i : Nat) : -1125899906842624 ≤ (xs.getD i default).a ∧ (xs.getD i default).a ≤ 1125899906842624 := by
  by_cases hi : i < xs.length
  · exact h.2 _ (List.mem_of_getElem? (getq default hi))
  · rw [List.getD_eq_getElem?_getD, List.getElem?_eq_none (by omega)]; decide
/-! which ops fit -/
def secO (xs : List COp) (i : Nat) : Nat × Int := secT (xs.getD i default).a (xs.drop (i + 1))
def fitsO (fv : Bool) (xs : List COp) (ls : List CLk) (progs : Int) (i : Nat) : Int :=
  if (takesB (xs.getD i default).k || decide ((xs.getD i default).k = 6)) && decide ((xs.getD i default).a ≥ ls.length) || decide ((xs.getD i default).k = 9) && decide ((xs.getD i default).a ≥ progs) then 4
  else if decide ((xs.getD i default).k = 3) && !(ls.getD (xs.getD i default).a.toNat default).sh then 1
  else if !takesB (xs.getD i default).k then 0
  else if decide ((secO xs i).2 < 1) || decide ((secO xs i).2 > (ls.getD (xs.getD i default).a.toNat default).cr) || fv && decide (((i + 1 + (secO xs i).1 : Nat) : Int) = xs.length) then 13 else 0
def mayB (xs : List COp) : Bool := decide (0 < xs.length) && decide (xs.length ≤ 12) && xs.all rightB
def ckO (fv : Bool) (xs : List COp) (ls : List CLk) (progs : Int) : Int × Int :=
  if mayB xs then
    match (List.range xs.length).find? (fun j => decide (fitsO fv xs ls progs j ≠ 0)) with
    | some j => ((j : Int), fitsO fv xs ls progs j)
    | none => if fv && !xs.any (fun o => passB o.k) then (0, 1) else (0, 0)
  else (0, 1)
theorem right_a {o : COp} (h : rightB o = true) : 0 ≤ o.a ∧ o.a ≤ 64 ∧ (2 ≤ o.k ∧ o.k ≤ 6 ∨ o.k = 9 → o.a ≤ 7) := by
  unfold rightB kindB hasB loA hiA at h
  simp only [Bool.and_eq_true, decide_eq_true_eq] at h
  obtain ⟨⟨⟨h1, h2⟩, h3⟩, -⟩ := h
  have : o.k = 1 ∨ o.k = 2 ∨ o.k = 3 ∨ o.k = 4 ∨ o.k = 5 ∨ o.k = 6 ∨ o.k = 7 ∨ o.k = 8 ∨ o.k = 9 ∨ o.k = 10 ∨ o.k = 11 := by omega
  rcases this with hk | hk | hk | hk | hk | hk | hk | hk | hk | hk | hk <;> rw [hk] at h3 ⊢ <;> simp at h3 <;> omega
theorem may_at {xs : List COp} (h : mayB xs = true) {i : Nat} (hi : i < xs.length) : rightB (xs.getD i default) = true := by
  unfold mayB at h; simp only [Bool.and_eq_true, List.all_eq_true] at h
  exact h.2 _ (List.mem_of_getElem? (getq default hi))
theorem may_small {xs : List COp} (h : mayB xs = true) : smallO xs := by
  have h' := h
  unfold mayB at h; simp only [Bool.and_eq_true, List.all_eq_true, decide_eq_true_eq] at h
  exact ⟨by omega, fun o ho => by have := right_a (h.2 o ho); omega⟩
theorem ck_none {fv : Bool} {xs : List COp} {ls : List CLk} {progs : Int} (h : mayB xs = false) : ckO fv xs ls progs = (0, 1) := by unfold ckO; rw [h]; rfl
theorem ck_at {fv : Bool} {xs : List COp} {ls : List CLk} {progs : Int} {i : Nat} (h : mayB xs = true) (h0 : ∀ j, j < i → fitsO fv xs ls progs j = 0) (hi : i < xs.length) (hf : fitsO fv xs ls progs i ≠ 0) : ckO fv xs ls progs = ((i : Int), fitsO fv xs ls progs i) := by
  unfold ckO
  rw [if_pos h, (List.find?_range_eq_some (i := i)).2 ⟨by simpa using hf, List.mem_range.2 hi, fun j hj => by simp [h0 j hj]⟩]
theorem ck_end {fv : Bool} {xs : List COp} {ls : List CLk} {progs : Int} (h : mayB xs = true) (h0 : ∀ j, j < xs.length → fitsO fv xs ls progs j = 0) : ckO fv xs ls progs = if fv && !xs.any (fun o => passB o.k) then (0, 1) else (0, 0) := by
  unfold ckO
  rw [if_pos h, List.find?_range_eq_none.2 (fun j hj => by simp [h0 j hj])]
theorem before_succ {g : Nat → Int} {i : Nat} (h : ∀ j, j < i → g j = 0) (hi : g i = 0) : ∀ j, j < i + 1 → g j = 0 := fun j hj => by
  rcases Nat.lt_or_ge j i with h1 | h1
  · exact h j h1
  · rw [show j = i by omega]; exact hi

/-! more ticks, more locks, more programs -/
def mx0 (c : Int) : Int := if 0 > c then 0 else c
theorem mx0_le (c : Int) : 0 ≤ mx0 c ∧ c ≤ mx0 c ∧ (0 ≤ c → mx0 c = c) := by unfold mx0; split <;> omega
def moreL (more : Int) (ls : List CLk) : List CLk := ls.map fun x => { x with cr := mx0 x.cr % 1000 + more + 1000 }
theorem moreL_at {more : Int} {ls : List CLk} {i : Nat} (h : i < ls.length) : (moreL more ls ++ [default]).getD i default = { ls.getD i default with cr := mx0 (ls.getD i default).cr % 1000 + more + 1000 } := by
  rw [List.getD_eq_getElem?_getD, List.getElem?_append_left (by simp [moreL]; exact h)]
  unfold moreL
  rw [List.getElem?_map, getq default h]; rfl
theorem ck_zero {fv : Bool} {xs : List COp} {ls : List CLk} {progs : Int} (h : (ckO fv xs ls progs).2 = 0) : mayB xs = true ∧ (∀ j, j < xs.length → fitsO fv xs ls progs j = 0) ∧ (fv && !xs.any (fun o => passB o.k)) = false := by
  cases hm : mayB xs with
  | false => rw [ck_none hm] at h; cases h
  | true =>
    cases hq : (List.range xs.length).find? (fun j => decide (fitsO fv xs ls progs j ≠ 0)) with
    | some j =>
      obtain ⟨h1, h2, h3⟩ := List.find?_range_eq_some.1 hq
      rw [ck_at hm (fun i hi => by simpa using h3 i hi) (List.mem_range.1 h2) (by simpa using h1)] at h
      exact absurd h (by simpa using h1)
    | none =>
      have h1 := List.find?_range_eq_none.1 hq
      have h2 : ∀ j, j < xs.length → fitsO fv xs ls progs j = 0 := fun j hj => by simpa using h1 j hj
      refine ⟨rfl, h2, ?_⟩
      rw [ck_end hm h2] at h
      cases hb : (fv && !xs.any (fun o => passB o.k)) with
      | false => rfl
      | true => rw [hb] at h; cases h
theorem fits_more {fv : Bool} {xs : List COp} {ls : List CLk} {more : Int} {i : Nat} (hm : mayB xs = true) (hi : i < xs.length) (hmore : 0 ≤ more) (hcr : ∀ x ∈ ls, x.cr ≤ 1000) (h : fitsO fv xs ls 8 i = 0) : fitsO fv xs (moreL more ls ++ [default]) 9 i = 0 := by
  have hr := right_a (may_at hm hi)
  unfold fitsO at h ⊢
  have hl : ((moreL more ls ++ [default]).length : Int) = ls.length + 1 := by simp [moreL]
  rw [hl]
  generalize hO : xs.getD i default = o at *
  split at h
  · cases h
  rename_i h1
  simp only [Bool.or_eq_true, Bool.and_eq_true, decide_eq_true_eq, not_or, not_and] at h1
  split at h
  · cases h
  rename_i h2
  rw [if_neg (by simp only [Bool.or_eq_true, Bool.and_eq_true, decide_eq_true_eq, not_or, not_and]; exact ⟨fun hq => by have := h1.1 hq; omega, fun hq => by have := hr.2.2 (.inr hq); omega⟩)]
  by_cases ht : takesB o.k = true
  · have hlt := h1.1 (.inl ht)
    have hat := moreL_at (more := more) (ls := ls) (i := o.a.toNat) (by omega)
    have hc1 : (ls.getD o.a.toNat default).cr ≤ 1000 := hcr _ (List.mem_of_getElem? (getq default (by omega)))
    rw [hat]
    dsimp only
    rw [if_neg h2, if_neg (by rw [ht]; simp)]
    rw [if_neg (by rw [ht]; simp)] at h
    split at h
    · cases h
    rename_i h3
    rw [if_neg]
    intro h4; apply h3
    simp only [Bool.or_eq_true, Bool.and_eq_true, decide_eq_true_eq] at h4 ⊢
    rcases h4 with (h4 | h4) | h4
    · exact .inl (.inl h4)
    · refine .inl (.inr ?_)
      have hmx := mx0_le (ls.getD o.a.toNat default).cr
      have h5 : (secO xs i).2 ≥ 1 := by
        apply Classical.byContradiction; intro hq; exact h3 (by simp only [Bool.or_eq_true, Bool.and_eq_true, decide_eq_true_eq]; exact .inl (.inl (by omega)))
      omega
    · exact .inr h4
  · have htf : takesB o.k = false := by simpa using ht
    have hk3 : ¬ o.k = 3 := fun hk => by rw [hk] at htf; cases htf
    rw [if_neg (by simp [hk3]), if_pos (by rw [htf]; rfl)]
theorem ck_more {fv : Bool} {xs : List COp} {ls : List CLk} {more : Int} (hmore : 0 ≤ more) (hcr : ∀ x ∈ ls, x.cr ≤ 1000) (h : (ckO fv xs ls 8).2 = 0) : (ckO fv xs (moreL more ls ++ [default]) 9).2 = 0 := by
  obtain ⟨h1, h2, h3⟩ := ck_zero h
  rw [ck_end h1 (fun j hj => fits_more h1 hj hmore hcr (h2 j hj)), h3]; rfl

/-! ### What is gone over -/
def filP (T : Nat → Bool) (n : Nat) : List Nat := (List.range n).filter T
def filN (T : Nat → Bool) (i : Nat) : Nat := ((List.range i).filter T).length
theorem filP_mem {T : Nat → Bool} {n i : Nat} : i ∈ filP T n ↔ i < n ∧ T i = true := by simp [filP]
theorem filP_sorted (T : Nat → Bool) (n : Nat) : (filP T n).Pairwise (· < ·) := List.Pairwise.filter _ List.pairwise_lt_range
theorem filP_take (T : Nat → Bool) (n i : Nat) (h : i ≤ n) : (filP T n).take (filN T i) = filP T i := by
  have : filP T n = filP T i ++ ((List.range' i (n - i)).filter T) := by
    unfold filP
    rw [← List.filter_append]
    congr 1
    rw [List.range_eq_range', List.range_eq_range', show n = i + (n - i) by omega]
    have := List.range'_append (s := 0) (m := i) (n := n - i) (step := 1)
    simp at this ⊢
    rw [← this]
  rw [this]; exact List.take_left
theorem filP_succ (T : Nat → Bool) (i : Nat) : filP T (i + 1) = filP T i ++ (if T i = true then [i] else []) := by
  unfold filP; rw [List.range_succ, List.filter_append]; congr 1; simp only [List.filter_cons, List.filter_nil]
theorem filN_succ (T : Nat → Bool) (i : Nat) : filN T (i + 1) = filN T i + (if T i = true then 1 else 0) := by
  have := congrArg List.length (filP_succ T i)
  rw [List.length_append] at this
  exact this.trans (by congr 1; split <;> rfl)
theorem filN_len (T : Nat → Bool) (n : Nat) : filN T n = (filP T n).length := rfl
theorem fil_get {T : Nat → Bool} {n i : Nat} (h : i < n) (ho : T i = true) : (filP T n)[filN T i]? = some i := by
  have h1 := filP_take T n (i + 1) (by omega)
  have h3 : ((filP T n).take (filN T (i + 1)))[filN T i]? = some i := by
    rw [h1, filP_succ, if_pos ho, filN_len, List.getElem?_append_right (Nat.le_refl _)]; simp
  rw [List.getElem?_take] at h3
  split at h3
  · exact h3
  · cases h3
theorem fil_inv {T : Nat → Bool} {n k p : Nat} (h : (filP T n)[k]? = some p) : p < n ∧ T p = true ∧ filN T p = k := by
  obtain ⟨h1, h2⟩ := filP_mem.1 (List.mem_of_getElem? h)
  refine ⟨h1, h2, ?_⟩
  have h3 := fil_get h1 h2
  obtain ⟨a1, a2⟩ := List.getElem?_eq_some_iff.1 h
  obtain ⟨b1, b2⟩ := List.getElem?_eq_some_iff.1 h3
  rcases Nat.lt_trichotomy (filN T p) k with hlt | heq | hgt
  · have := List.pairwise_iff_getElem.1 (filP_sorted T n) _ _ b1 a1 hlt; omega
  · exact heq
  · have := List.pairwise_iff_getElem.1 (filP_sorted T n) _ _ a1 b1 hgt; omega
def tkT (xs : List COp) (i : Nat) : Bool := takesB (xs.getD i default).k
def eachA (xs : List COp) : List (Array Value) := (List.range xs.length).map (fun i => #[.int .i64 (i : Nat), .agg (fO (xs.getD i default)).toArray])
theorem eachA_get {xs : List COp} {i : Nat} (h : i < xs.length) : (eachA xs)[i]? = some #[.int .i64 (i : Nat), .agg (fO (xs.getD i default)).toArray] := by
  unfold eachA; rw [List.getElem?_map, List.getElem?_range h]; rfl
theorem eachA_inv {xs : List COp} {k : Nat} {a : Array Value} (h : (eachA xs)[k]? = some a) : k < xs.length ∧ a = #[.int .i64 (k : Nat), .agg (fO (xs.getD k default)).toArray] := by
  have hk : k < xs.length := by
    have := (List.getElem?_eq_some_iff.1 h).1
    simpa [eachA] using this
  rw [eachA_get hk] at h
  exact ⟨hk, (Option.some.inj h).symm⟩
theorem eachA_len (xs : List COp) : (eachA xs).length = xs.length := by simp [eachA]
def secV (xs : List COp) (i : Nat) : Value := .agg #[.int .i64 (i : Nat), .int .i64 ((i + 1 + (secO xs i).1 : Nat)), .int .i64 (xs.getD i default).a, .int .i64 (secO xs i).2]
def secA (xs : List COp) : List (Array Value) := (filP (tkT xs) xs.length).map (fun i => #[secV xs i])
theorem secA_get {xs : List COp} {i : Nat} (h : i < xs.length) (ht : tkT xs i = true) : (secA xs)[filN (tkT xs) i]? = some #[secV xs i] := by
  unfold secA; rw [List.getElem?_map, fil_get h ht]; rfl
theorem secA_inv {xs : List COp} {k : Nat} {a : Array Value} (h : (secA xs)[k]? = some a) : ∃ p, (filP (tkT xs) xs.length)[k]? = some p ∧ a = #[secV xs p] := by
  unfold secA at h; rw [List.getElem?_map, Option.map_eq_some_iff] at h
  obtain ⟨p, hp, rfl⟩ := h; exact ⟨p, hp, rfl⟩
theorem secA_len (xs : List COp) : (secA xs).length = filN (tkT xs) xs.length := by unfold secA; rw [List.length_map]; rfl
def longS (xs : List COp) (lock m : Int) (i : Nat) : Int := if (xs.getD i default).a = lock then max m (secO xs i).2 else m
def longL (xs : List COp) (lock : Int) (k : Nat) : Int := ((filP (tkT xs) xs.length).take k).foldl (longS xs lock) 0
theorem longL_succ {xs : List COp} {lock : Int} {k p : Nat} (h : (filP (tkT xs) xs.length)[k]? = some p) : longL xs lock (k + 1) = longS xs lock (longL xs lock k) p := by
  unfold longL
  rw [List.take_add_one, h, List.foldl_append]; rfl
end Go.Eng
