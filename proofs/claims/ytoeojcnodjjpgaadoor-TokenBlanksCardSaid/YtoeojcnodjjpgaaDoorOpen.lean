/- How what a law is handed is opened: slices, arrays, structs. No condition. -/
import Derived.Test.YtoeojcnodjjpgaaDoorEng7
import Derived.ProofKit
import Derived.OpenShut
import Derived.ShutString
import Derived.ChangeOld
import Derived.Below
import Derived.DataElems
set_option linter.unusedVariables false
set_option linter.unusedSimpArgs false
namespace Go.Eng
open Go Go.RowKit Go.ChangeShapes Go.WideShapes

section
variable {H : Type} {enc : TypeId × Value → H} {P : Program} {w : World} {base : Nat} {sp : Nat → Bool} {held : Bool} {t : TypeId} {fuel : Nat} {cs : List Value} {x : DataW H × List MemPlace}

theorem mapM_each {α β : Type} (f : α → Option β) : ∀ (l : List α) (ys : List β), l.mapM f = some ys → ∀ a ∈ l, ∃ y, f a = some y
  | [], _, _, a, h => by cases h
  | b :: l, ys, h, a, ha => by
    rw [List.mapM_cons] at h
    simp only [bind, Option.bind_eq_some_iff, pure, Option.some.injEq] at h
    obtain ⟨y, hy, zs, hz, _⟩ := h
    rcases List.mem_cons.1 ha with rfl | ha
    · exact ⟨y, hy⟩
    · exact mapM_each f l zs hz a ha

theorem trod_fields {fs : Array Field} (ht : P.underlying t = some (.struct fs)) (h : DataW.trod enc P w base sp held fuel t cs = some x) :
    cs.length = P.cellsOf t ∧ ∀ f ∈ fs.toList, ∃ n y, DataW.trod enc P w base sp held n f.type ((cs.drop f.offset).take (P.cellsOf f.type)) = some y := by
  cases fuel with
  | zero => simp [DataW.trod] at h
  | succ n =>
    rw [DataW.trod_step] at h
    unfold DataW.trodStep at h
    simp only [ht] at h
    split at h
    · rename_i hl
      simp only [Option.map_eq_some_iff] at h
      obtain ⟨ys, hy, _⟩ := h
      exact ⟨hl, fun f hf => ⟨n, mapM_each _ _ _ hy f hf⟩⟩
    · cases h
/-- What is read at a type is one of these. -/
def Rdb (P : Program) (t : TypeId) {α : Type} (f : α → List Value) (ok : α → Prop) : Prop :=
  ∀ {H : Type} {enc : TypeId × Value → H} {w : World} {base : Nat} {sp : Nat → Bool} {held : Bool} {fuel : Nat} {cs : List Value} {x : DataW H × List MemPlace}, DataW.trod enc P w base sp held fuel t cs = some x → ∃ a, cs = f a ∧ ok a

/-- A slice. -/
theorem open_sl {α : Type} {f : α → List Value} {ok : α → Prop} {e : TypeId} {s : Nat} (ht : P.underlying t = some (.slice e)) (he : Rdb P e f ok) (hs : P.cellsOf e = s) (hs0 : 0 < s) (hf : ∀ a, (f a).length = s)
    {ad : Option Addr} {len cap : Nat} {d : DataW H} {ps : List MemPlace} (h : DataW.Trod enc P w base sp held t (.slice ad len cap) d ps) :
    ∃ xs : List α, len = xs.length ∧ Sr f s xs (.slice ad xs.length cap) w ∧ (∀ a ∈ xs, ok a) ∧ xs.length ≤ maxLen := by
  obtain ⟨fuel, h⟩ := h
  rcases DataW.trod_slice ht h with ⟨h0, _⟩ | ⟨a, l, c, elems, rest, n, _, h0, _, _, hlc, hcm, hel, hE, _, _⟩
  · simp [Value.cells] at h0
    obtain ⟨rfl, rfl, rfl⟩ := h0
    exact ⟨[], rfl, .nil _ _ _, (fun a ha => absurd ha (by simp)), Nat.zero_le _⟩
  · simp [Value.cells] at h0
    obtain ⟨rfl, rfl, rfl⟩ := h0
    have each : ∀ i, i < len → ∃ b, ok b ∧ ∀ j, j < s → w.cell? (a.add (i * s + j)) = (f b)[j]? := fun i hi => by
      have h1 := hE i hi
      rw [hs] at h1
      obtain ⟨y, hy⟩ : ∃ y, elems[i]? = some y := ⟨_, List.getElem?_eq_getElem (by omega)⟩
      rw [hy, Option.bind_eq_some_iff] at h1
      obtain ⟨cs, hcs, htr⟩ := h1
      obtain ⟨b, rfl, hb⟩ := he htr
      refine ⟨b, hb, fun j hj => ?_⟩
      have := (World.cells?_some hcs).2.2 j hj
      rw [← this, Addr.add_add]
    obtain ⟨xs, hxl, hx⟩ : ∃ xs : List α, xs.length = len ∧ ∀ i b, xs[i]? = some b → ok b ∧ ∀ j, j < s → w.cell? (a.add (i * s + j)) = (f b)[j]? := by
      clear hE hel
      have : ∀ m, m ≤ len → ∃ xs : List α, xs.length = m ∧ ∀ i b, xs[i]? = some b → ok b ∧ ∀ j, j < s → w.cell? (a.add (i * s + j)) = (f b)[j]? := by
        intro m
        induction m with
        | zero => intro _; exact ⟨[], rfl, fun i b h => by simp at h⟩
        | succ m ih =>
          intro hm
          obtain ⟨xs, h1, h2⟩ := ih (by omega)
          obtain ⟨b, hb⟩ := each m (by omega)
          refine ⟨xs ++ [b], by simp [h1], fun i c hc => ?_⟩
          by_cases hi : i < m
          · rw [List.getElem?_append_left (by omega)] at hc; exact h2 i c hc
          · have hlt := (List.getElem?_eq_some_iff.1 hc).1
            simp [h1] at hlt
            have : i = m := by omega
            subst this
            rw [List.getElem?_append_right (by omega), h1, Nat.sub_self] at hc
            simp at hc; subst hc; exact hb
      exact this len (Nat.le_refl _)
    subst hxl
    refine ⟨xs, rfl, ⟨_, _, rfl, hlc, fun h0 => ?_⟩, fun b hb => ?_, by omega⟩
    · obtain ⟨b0, hb0⟩ : ∃ b, xs[0]? = some b := ⟨_, List.getElem?_eq_getElem h0⟩
      have h1 := (hx 0 b0 hb0).2 0 hs0
      have hfb : (f b0)[0]? = some ((f b0)[0]'(by rw [hf]; exact hs0)) := List.getElem?_eq_getElem _
      rw [hfb] at h1
      have hsp := World.cell?_spot h1
      obtain ⟨b, off, spot⟩ := a
      have : spot = none := by simpa [Addr.add] using hsp
      subst this
      have h2 := h1
      rw [add_off] at h2
      unfold World.cell? at h2
      simp only at h2
      split at h2
      · rename_i c E fz hb
        refine ⟨b, off, c, E, fz, rfl, hb, fun i a ha j hj => ?_⟩
        have h3 := (hx i a ha).2 j hj
        rw [add_off] at h3
        unfold World.cell? at h3
        simp only [hb] at h3
        rw [← h3]; rfl
      · cases h2
    · obtain ⟨i, hi⟩ := List.getElem?_of_mem hb
      exact (hx i b hi).1

end
end Go.Eng
