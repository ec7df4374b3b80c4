/- How what a law is handed is opened: slices, arrays, structs. No condition. -/
import Derived.Test.YtoeojcnodjjpgaaDoorEng7
import Derived.ProofKit
import Derived.OpenShut
import Derived.ShutString
import Derived.ChangeOld
import Derived.Below
import Derived.DataElems
set_option linter.unusedVariables false
set_option linter.unusedSimpArgs false
namespace Go.Eng
open Go Go.RowKit Go.ChangeShapes Go.WideShapes

section
variable {H : Type} {enc : TypeId × Value → H} {P : Program} {w : World} {base : Nat} {sp : Nat → Bool} {held : Bool} {t : TypeId} {fuel : Nat} {cs : List Value} {x : DataW H × List MemPlace}

theorem mapM_each {α β : Type} (f : α → Option β) : ∀ (l : List α) (ys : List β), l.mapM f = some ys → ∀ a ∈ l, ∃ y, f a = some y
  | [], _, _, a, h => by cases h
  | b :: l, ys, h, a, ha => by
    rw [List.mapM_cons] at h
    simp only [bind, Option.bind_eq_some_iff, pure, Option.some.injEq] at h
    obtain ⟨y, hy, zs, hz, _⟩ := h
    rcases List.mem_cons.1 ha with rfl | ha
    · exact ⟨y, hy⟩
    · exact mapM_each f l zs hz a ha

theorem trod_fields {fs : Array Field} (ht : P.underlying t = some (.struct fs)) (h : DataW.trod enc P w base sp held fuel t cs = some x) :
    cs.length = P.cellsOf t ∧ ∀ f ∈ fs.toList, ∃ n y, DataW.trod enc P w base sp held n f.type ((cs.drop f.offset).take (P.cellsOf f.type)) = some y := by
  cases fuel with
  | zero => simp [DataW.trod] at h
  | succ n =>
    rw [DataW.trod_step] at h
    unfold DataW.trodStep at h
    simp only [ht] at h
    split at h
    · rename_i hl
      simp only [Option.map_eq_some_iff] at h
      obtain ⟨ys, hy, _⟩ := h
      exact ⟨hl, fun f hf => ⟨n, mapM_each _ _ _ hy f hf⟩⟩
    · cases h
theorem trod_elems {n : Nat} {e : TypeId} (ht : P.underlying t = some (.array n e)) (h : DataW.trod enc P w base sp held fuel t cs = some x) :
    cs.length = P.cellsOf t ∧ ∀ i, i < n → ∃ m y, DataW.trod enc P w base sp held m e ((cs.drop (i * P.cellsOf e)).take (P.cellsOf e)) = some y := by
  cases fuel with
  | zero => simp [DataW.trod] at h
  | succ m =>
    rw [DataW.trod_step] at h
    unfold DataW.trodStep at h
    simp only [ht] at h
    split at h
    · rename_i hl
      simp only [Option.map_eq_some_iff] at h
      obtain ⟨ys, hy, _⟩ := h
      exact ⟨hl, fun i hi => ⟨m, mapM_each _ _ _ hy i (List.mem_range.2 hi)⟩⟩
    · cases h

/-- What is read at a type is one of these. -/
def Rdb (P : Program) (t : TypeId) {α : Type} (f : α → List Value) (ok : α → Prop) : Prop :=
  ∀ {H : Type} {enc : TypeId × Value → H} {w : World} {base : Nat} {sp : Nat → Bool} {held : Bool} {fuel : Nat} {cs : List Value} {x : DataW H × List MemPlace}, DataW.trod enc P w base sp held fuel t cs = some x → ∃ a, cs = f a ∧ ok a

def okK (k : IntKind) (n : Int) : Prop := (Lit.int k n).wf = true
theorem rdb_int {k : IntKind} (ht : P.underlying t = some (.int k)) : Rdb P t (fun n => [.int k n]) (okK k) := fun h => by
  obtain ⟨n, h1, _, h2⟩ := DataW.trod_int ht h; exact ⟨n, h1, h2⟩
theorem rdb_I (ht : P.underlying t = some (.int .i64)) : Rdb P t fI (fun n => -9223372036854775808 ≤ n ∧ n ≤ 9223372036854775807) := fun h => by
  obtain ⟨n, h1, _, h2⟩ := DataW.trod_int ht h; exact ⟨n, h1, bounds_i64 h2⟩
def fU (x : BitVec 64) : List Value := [U x]
theorem fU_len (n : BitVec 64) : (fU n).length = 1 := rfl
theorem fU_one (n : BitVec 64) : ∀ u ∈ fU n, one u = true := by intro u hu; simp [fU] at hu; subst hu; rfl
theorem bv_of {n : Int} (h : 0 ≤ n ∧ n ≤ 18446744073709551615) : ∃ x : BitVec 64, n = (x.toNat : Int) := ⟨BitVec.ofInt 64 n, by rw [BitVec.toNat_ofInt]; simp; omega⟩
theorem rdb_U (ht : P.underlying t = some (.int .u64)) : Rdb P t fU (fun _ => True) := fun h => by
  obtain ⟨n, h1, _, h2⟩ := DataW.trod_int ht h
  obtain ⟨x, rfl⟩ := bv_of (bounds_u64 h2)
  exact ⟨x, h1, trivial⟩
theorem rdb_B (ht : P.underlying t = some .bool) : Rdb P t (fun b => [.bool b]) (fun _ => True) := fun h => by
  obtain ⟨b, h1, _⟩ := DataW.trod_bool ht h; exact ⟨b, h1, trivial⟩

/-- A slice. -/
theorem open_sl {α : Type} {f : α → List Value} {ok : α → Prop} {e : TypeId} {s : Nat} (ht : P.underlying t = some (.slice e)) (he : Rdb P e f ok) (hs : P.cellsOf e = s) (hs0 : 0 < s) (hf : ∀ a, (f a).length = s)
    {ad : Option Addr} {len cap : Nat} {d : DataW H} {ps : List MemPlace} (h : DataW.Trod enc P w base sp held t (.slice ad len cap) d ps) :
    ∃ xs : List α, len = xs.length ∧ Sr f s xs (.slice ad xs.length cap) w ∧ (∀ a ∈ xs, ok a) ∧ xs.length ≤ maxLen := by
  obtain ⟨fuel, h⟩ := h
  rcases DataW.trod_slice ht h with ⟨h0, _⟩ | ⟨a, l, c, elems, rest, n, _, h0, _, _, hlc, hcm, hel, hE, _, _⟩
  · simp [Value.cells] at h0
    obtain ⟨rfl, rfl, rfl⟩ := h0
    exact ⟨[], rfl, .nil _ _ _, (fun a ha => absurd ha (by simp)), Nat.zero_le _⟩
  · simp [Value.cells] at h0
    obtain ⟨rfl, rfl, rfl⟩ := h0
    have each : ∀ i, i < len → ∃ b, ok b ∧ ∀ j, j < s → w.cell? (a.add (i * s + j)) = (f b)[j]? := fun i hi => by
      have h1 := hE i hi
      rw [hs] at h1
      obtain ⟨y, hy⟩ : ∃ y, elems[i]? = some y := ⟨_, List.getElem?_eq_getElem (by omega)⟩
      rw [hy, Option.bind_eq_some_iff] at h1
      obtain ⟨cs, hcs, htr⟩ := h1
      obtain ⟨b, rfl, hb⟩ := he htr
      refine ⟨b, hb, fun j hj => ?_⟩
      have := (World.cells?_some hcs).2.2 j hj
      rw [← this, Addr.add_add]
    obtain ⟨xs, hxl, hx⟩ : ∃ xs : List α, xs.length = len ∧ ∀ i b, xs[i]? = some b → ok b ∧ ∀ j, j < s → w.cell? (a.add (i * s + j)) = (f b)[j]? := by
      clear hE hel
      have : ∀ m, m ≤ len → ∃ xs : List α, xs.length = m ∧ ∀ i b, xs[i]? = some b → ok b ∧ ∀ j, j < s → w.cell? (a.add (i * s + j)) = (f b)[j]? := by
        intro m
        induction m with
        | zero => intro _; exact ⟨[], rfl, fun i b h => by simp at h⟩
        | succ m ih =>
          intro hm
          obtain ⟨xs, h1, h2⟩ := ih (by omega)
          obtain ⟨b, hb⟩ := each m (by omega)
          refine ⟨xs ++ [b], by simp [h1], fun i c hc => ?_⟩
          by_cases hi : i < m
          · rw [List.getElem?_append_left (by omega)] at hc; exact h2 i c hc
          · have hlt := (List.getElem?_eq_some_iff.1 hc).1
            simp [h1] at hlt
            have : i = m := by omega
            subst this
            rw [List.getElem?_append_right (by omega), h1, Nat.sub_self] at hc
            simp at hc; subst hc; exact hb
      exact this len (Nat.le_refl _)
    subst hxl
    refine ⟨xs, rfl, ⟨_, _, rfl, hlc, fun h0 => ?_⟩, fun b hb => ?_, by omega⟩
    · obtain ⟨b0, hb0⟩ : ∃ b, xs[0]? = some b := ⟨_, List.getElem?_eq_getElem h0⟩
      have h1 := (hx 0 b0 hb0).2 0 hs0
      have hfb : (f b0)[0]? = some ((f b0)[0]'(by rw [hf]; exact hs0)) := List.getElem?_eq_getElem _
      rw [hfb] at h1
      have hsp := World.cell?_spot h1
      obtain ⟨b, off, spot⟩ := a
      have : spot = none := by simpa [Addr.add] using hsp
      subst this
      have h2 := h1
      rw [add_off] at h2
      unfold World.cell? at h2
      simp only at h2
      split at h2
      · rename_i c E fz hb
        refine ⟨b, off, c, E, fz, rfl, hb, fun i a ha j hj => ?_⟩
        have h3 := (hx i a ha).2 j hj
        rw [add_off] at h3
        unfold World.cell? at h3
        simp only [hb] at h3
        rw [← h3]; rfl
      · cases h2
    · obtain ⟨i, hi⟩ := List.getElem?_of_mem hb
      exact (hx i b hi).1

/-- An array or a struct that is a value. -/
theorem open_agg {α : Type} {f : α → List Value} {ok : α → Prop} {r : Reach} {b0 : Nat} {v : Value} {d : DataW H} {ps : List MemPlace} (he : Rdb P t f ok) (hu : (∃ n e, P.underlying t = some (.array n e)) ∨ ∃ fs, P.underlying t = some (.struct fs))
    (hval : Value.okWide P w r b0 t v) (h : DataW.Trod enc P w base sp held t v d ps) : ∃ a, v = .agg (f a).toArray ∧ ok a := by
  obtain ⟨fuel, h⟩ := h
  obtain ⟨a, h1, h2⟩ := he h
  obtain ⟨cs, rfl⟩ : ∃ cs, v = .agg cs := by
    rcases hu with ⟨n, e, hu⟩ | ⟨fs, hu⟩
    · simp only [Value.okWide, hu] at hval; obtain ⟨cs, h1, _⟩ := hval; exact ⟨cs, h1⟩
    · simp only [Value.okWide, hu] at hval; obtain ⟨cs, h1, _⟩ := hval; exact ⟨cs, h1⟩
  refine ⟨a, ?_, h2⟩
  congr 1
  apply Array.ext'
  exact h1

/-- Arrays of two and three. -/
theorem rdb_arr2 {k : IntKind} {e : TypeId} (ht : P.underlying t = some (.array 2 e)) (he : P.underlying e = some (.int k)) (hs : P.cellsOf e = 1) (hst : P.cellsOf t = 2) : Rdb P t (fun p : Int × Int => [.int k p.1, .int k p.2]) (fun p => okK k p.1 ∧ okK k p.2) := fun {H enc w base sp held fuel cs x} h => by
  obtain ⟨h1, h2⟩ := trod_elems ht h
  rw [hst] at h1
  match cs, h1 with
  | [a, b], _ =>
    obtain ⟨_, _, h3⟩ := h2 0 (by omega)
    obtain ⟨_, _, h4⟩ := h2 1 (by omega)
    simp [hs] at h3 h4
    obtain ⟨m, e1, _, w1⟩ := DataW.trod_int he h3
    obtain ⟨n, e2, _, w2⟩ := DataW.trod_int he h4
    simp at e1 e2; subst e1; subst e2
    exact ⟨(m, n), rfl, w1, w2⟩
theorem rdb_arr3 {k : IntKind} {e : TypeId} (ht : P.underlying t = some (.array 3 e)) (he : P.underlying e = some (.int k)) (hs : P.cellsOf e = 1) (hst : P.cellsOf t = 3) : Rdb P t (fun p : Int × Int × Int => [.int k p.1, .int k p.2.1, .int k p.2.2]) (fun p => okK k p.1 ∧ okK k p.2.1 ∧ okK k p.2.2) := fun {H enc w base sp held fuel cs x} h => by
  obtain ⟨h1, h2⟩ := trod_elems ht h
  rw [hst] at h1
  match cs, h1 with
  | [a, b, c], _ =>
    obtain ⟨_, _, h3⟩ := h2 0 (by omega)
    obtain ⟨_, _, h4⟩ := h2 1 (by omega)
    obtain ⟨_, _, h5⟩ := h2 2 (by omega)
    simp [hs] at h3 h4 h5
    obtain ⟨m, e1, _, w1⟩ := DataW.trod_int he h3
    obtain ⟨n, e2, _, w2⟩ := DataW.trod_int he h4
    obtain ⟨o, e3, _, w3⟩ := DataW.trod_int he h5
    simp at e1 e2 e3; subst e1; subst e2; subst e3
    exact ⟨(m, n, o), rfl, w1, w2, w3⟩
end
end Go.Eng
