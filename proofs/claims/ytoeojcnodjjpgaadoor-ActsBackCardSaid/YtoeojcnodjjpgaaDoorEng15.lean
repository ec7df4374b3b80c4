/- The calculus, fifteenth part: a whole slice is appended ('append(out, l...)'). No condition. -/
import Derived.Test.YtoeojcnodjjpgaaDoorEng14
set_option linter.unusedVariables false
set_option linter.unusedSimpArgs false
namespace Go.Eng
open Go Go.RowKit

theorem run_append_empty {P : Program} (w : World) (t ty E : TypeId) (inf : TypeInfo) (hU : P.underlying t = some (.slice E)) (hI : P.info? E = some inf) (base ad : Option Addr) (n cap cy : Nat) (h : n ≤ cap) :
    (Builtin.append_ #[t, t] ty #[.slice base n cap, .slice ad 0 cy]).run P w = .ok (.slice base n cap) w := by
  have hf : (Builtin.firstCells inf.size 0 (.slice ad 0 cy)).run P w = .ok #[] w := by
    cases ad with
    | none => simp [Builtin.firstCells]
    | some a => exact run_firstCells_some w inf.size 0 a 0 cy [] (by simp) (fun j v hj => by simp at hj)
  have hs : (sizeOf E).run P w = .ok inf.size w := by simp [sizeOf, typeInfo, hI]
  cases base with
  | none => simp [Builtin.append_, run_underlying hU, hs, Builtin.lenOf, hf, h]
  | some b => simp [Builtin.append_, run_underlying hU, hs, Builtin.lenOf, hf, h, storeCells]
theorem flat_cells {α : Type} {f : α → List Value} {s : Nat} (hf : ∀ a, (f a).length = s) (hs : 0 < s) {ys : List α} {j : Nat} {u : Value} (h : (ys.flatMap f)[j]? = some u) : ∃ i a k, ys[i]? = some a ∧ k < s ∧ j = i * s + k ∧ (f a)[k]? = some u := by
  have hj : j < ys.length * s := by
    have := (List.getElem?_eq_some_iff.1 h).1
    rwa [flatMap_len hf] at this
  have hi : j / s < ys.length := (Nat.div_lt_iff_lt_mul hs).2 hj
  have e : j = j / s * s + j % s := by rw [Nat.mul_comm]; exact (Nat.div_add_mod j s).symm
  have hk : j % s < s := Nat.mod_lt _ hs
  refine ⟨j / s, ys[j / s], j % s, List.getElem?_eq_getElem hi, hk, e, ?_⟩
  rw [← flatMap_get hf ys (j / s) (j % s) _ (List.getElem?_eq_getElem hi) hk, ← e]; exact h
section
variable {P : Program} {r : Option Nat} {N : Nat} {Q : Exit → Act → World → Prop} {e : Env} {ds : List Nat} {M : Mem0} {S : Nat → Prop} {w0 : World} {G : World → Prop}
variable {ops : Array Oper} {l : List Oper} {ty : TypeId} {pos : String} {after : Array Edge} {d : Nat} {x y : Operand} {t : TypeId}
theorem LM.appN [GT G] {α : Type} {f : α → List Value} {E s n0 : Nat} {inf : TypeInfo} {z : Value} {xs ys : List α} {v : Value} {m M2 : Mem0} {ad : Option Addr} {ny c : Nat}
    (hU : P.underlying t = some (.slice E)) (hI : ∀ w, (typeInfo E).run P w = .ok inf w) (hz : inf.zero = some z) (hs : inf.size = s) (hs0 : Nat.blt 0 s = true) (hzs : z.cells.size = s) (hd : Nat.blt d N = true)
    (hx : ev e x = some v) (hy : ev e y = some (.slice ad ny c)) (hsl : Sl f E s n0 xs v m) [h2 : Spl M m M2] (hr : ∀ w, Mem w M → Chg S w0 w → G w → Sr f s ys (.slice ad ny c) w)
    (hf : ∀ a, (f a).length = s) (hone : ∀ a, ∀ u ∈ f a, one u = true) (hn0 : n0 ≤ w0.heap.size) (hSm : ∀ p ∈ m, p.1 < w0.heap.size → S p.1) (hlen : xs.length + ys.length ≤ maxLen) (hbytes : (xs.length + ys.length) * inf.bytes ≤ 140737488355328)
    (h : ∀ ad n cap m', n = xs.length + ys.length → Sl f E s n0 (xs ++ ys) (.slice ad n cap) m' → (∀ p ∈ m', w0.heap.size ≤ p.1 ∨ ∃ q ∈ m, q.1 = p.1) → LM P r N ops Q l ((d, .slice ad n cap) :: e) ds (m' ++ M2) S w0 G) :
    LM P r N ops Q (⟨some d, .call { callee := .builtin .append, args := #[x, y], argTypes := #[t, t] }, ty, pos, after, none⟩ :: l) e ds M S w0 G := fun w hm hc hg => by
  have hs0 : 0 < s := Nat.le_of_ble_eq_true hs0
  have hinf := info_of hI
  have hsr := hr w hm hc hg
  have hm2 : Mem w (m ++ M2) := hm.perm h2.perm
  obtain ⟨rfl, -, hop⟩ := hsr.open
  have h' : ∀ v' m', Sl f E s n0 (xs ++ ys) v' m' → (∀ p ∈ m', w0.heap.size ≤ p.1 ∨ ∃ q ∈ m, q.1 = p.1) → LM P r N ops Q l ((d, v') :: e) ds (m' ++ M2) S w0 G := fun v' m' hsl' hin => by
    obtain ⟨ad, cap, rfl⟩ := hsl'.form
    exact h ad _ cap m' (by simp) hsl' hin
  have step : ∀ (v' : Value) (w' : World), (Builtin.append_ #[t, t] ty #[v, .slice ad ys.length c]).run P w = .ok v' w' → 
      (LE P r N ops Q l ((d, v') :: e) ds w') → LE P r N ops Q (⟨some d, .call { callee := .builtin .append, args := #[x, y], argTypes := #[t, t] }, ty, pos, after, none⟩ :: l) e ds w := fun v' w' hr hl =>
    LE.val (fun ρ hρ _ _ _ _ => by simp [execOp, resolve, invoke, builtin, hρ x _ hx, hρ y _ hy, hr, Result.andThen]) hl rfl hd
  by_cases hy0 : ys.length = 0
  · obtain rfl : ys = [] := List.eq_nil_of_length_eq_zero hy0
    have hv : ∃ b n cp, v = .slice b n cp ∧ n ≤ cp := by
      rcases hsl with ⟨rfl, _, _⟩ | ⟨b, cap, junk, _, rfl, _, hle, _, _⟩
      · exact ⟨_, _, _, rfl, Nat.le_refl _⟩
      · exact ⟨_, _, _, rfl, hle⟩
    obtain ⟨b, n, cp, rfl, hle⟩ := hv
    exact step _ _ (run_append_empty w t ty E inf hU hinf b ad n cp c hle) (h' _ m (by simpa using hsl) (fun p hp => .inr ⟨p, hp, rfl⟩) w hm2 hc hg)
  obtain ⟨bx, off, cs, F, fz, rfl, hbx, hcs⟩ := hop (by omega)
  have hfl : (ys.flatMap f).length = ys.length * inf.size := by rw [flatMap_len hf, hs]
  have hnews : ∀ j u, (ys.flatMap f)[j]? = some u → w.cell? ((⟨bx, off, none⟩ : Addr).add j) = some u := fun j u hj => by
    obtain ⟨i, a, k, h1, h2, h3, h4⟩ := flat_cells hf hs0 hj
    have := hcs i a h1 k h2
    rw [← h3, h4] at this
    rw [Addr.add_lit]; simp [World.cell?, hbx]; exact this
  have hone' : ∀ u ∈ ys.flatMap f, one u = true := fun u hu => by
    obtain ⟨a, _, hu⟩ := List.mem_flatMap.1 hu
    exact hone a u hu
  rcases hsl with ⟨rfl, rfl, rfl⟩ | ⟨b, cap, junk, hb, rfl, rfl, hle, hmax, hsz⟩
  · -- nil
    simp only [List.length_nil, Nat.zero_add] at hlen hbytes
    have hr := run_append_nil (P := P) w t ty E inf z hU hinf hz ⟨bx, off, none⟩ ys.length c (ys.flatMap f) hfl hnews (by omega) (by unfold maxLen at hlen; omega) (by omega)
    refine step _ _ hr ?_
    obtain ⟨k, hk, hk1⟩ : ∃ k, grownCap w ys.length 0 E = k ∧ ys.length ≤ k ∧ k ≤ maxLen := ⟨_, rfl, grownCap_ge w _ 0 E, grownCap_le_maxLen w _ 0 E hlen⟩
    rw [hk]
    refine h' _ [(w.heap.size, .cells (arr f ([] ++ ys) (Builtin.zeroCells z.cells (k - ys.length)).toList) E (0, 0))] (.inr ⟨w.heap.size, k, (Builtin.zeroCells z.cells (k - ys.length)).toList, Nat.le_trans hn0 hc.size, rfl, rfl, by simpa using hk1.1, hk1.2, ?_⟩) (fun p hp => by rw [List.mem_singleton] at hp; subst hp; exact .inl hc.size) _ ?_ ?_ ?_
    · simp only [List.nil_append, Array.length_toList, size_zeroCells, hzs]
      rw [Nat.sub_mul]; have : ys.length * s ≤ k * s := Nat.mul_le_mul_right _ hk1.1
      omega
    · have e1 : (Obj.cells ((ys.flatMap f).toArray ++ Builtin.zeroCells z.cells (k - ys.length)) E) = .cells (arr f ([] ++ ys) (Builtin.zeroCells z.cells (k - ys.length)).toList) E (0, 0) := by
        congr 1; apply Array.ext'; simp [arr]
      rw [e1]
      exact (hm2.ext (Chg.drew no w)).alloc _
    · exact (hc.step (Chg.drew no w) (fun _ _ q => q.elim)).step (chg_alloc w.drew _) (fun _ _ q => q.elim)
    · exact GS.ext w.drew _ (GS.ext w _ hg (Chg.drew no w)) (chg_alloc w.drew _)
  · have hbw := hm2.get (i := 0) rfl
    have hsize : (arr f xs junk).size = cap * s := by simp [arr, flatMap_len hf, hsz]
    by_cases hroom : xs.length + ys.length ≤ cap
    · have hmul : (xs.length + ys.length) * s ≤ cap * s := Nat.mul_le_mul_right _ hroom
      rw [Nat.add_mul] at hmul
      have hr := run_append_room (P := P) w t ty E inf hU hinf b xs.length cap (arr f xs junk) hbw ⟨bx, off, none⟩ ys.length c (ys.flatMap f) hfl hnews (fun u hu => hone' u hu) hroom (by rw [hs, flatMap_len hf, hsize]; exact hmul)
      refine step _ _ hr ?_
      rw [hs, flatMap_len hf]
      have e1 : (((arr f xs junk).toList.take (xs.length * s) ++ ys.flatMap f ++ (arr f xs junk).toList.drop (xs.length * s + ys.length * s)).toArray) = arr f (xs ++ ys) (junk.drop (ys.length * s)) := by
        apply Array.ext'
        have hl := flatMap_len hf xs
        simp only [arr, List.flatMap_append]
        rw [← hl, List.take_left, List.drop_append, List.drop_eq_nil_of_le (by omega), List.nil_append, Nat.add_sub_cancel_left]
      rw [e1]
      have hset : (w.setRow b (arr f (xs ++ ys) (junk.drop (ys.length * s)))).heap[b]? = some (.cells (arr f (xs ++ ys) (junk.drop (ys.length * s))) E (0, 0)) := by
        obtain ⟨hlt, hk⟩ := Array.getElem?_eq_some_iff.1 hbw
        show (w.heap.modify b _)[b]? = _
        rw [Array.getElem?_eq_getElem (by rw [Array.size_modify]; exact hlt), Array.getElem_modify_self, hk]
      have hchg : Chg (fun x => x = b) w (w.setRow b (arr f (xs ++ ys) (junk.drop (ys.length * s)))) := ⟨rfl, rfl, rfl, by simp [World.setRow], fun k _ hn => by
        simp only [World.setRow, Array.getElem?_modify]; rw [if_neg (Ne.symm hn)]⟩
      refine h' _ [(b, .cells (arr f (xs ++ ys) (junk.drop (ys.length * s))) E (0, 0))] (.inr ⟨b, cap, junk.drop (ys.length * s), hb, by simp, rfl, by simpa using hroom, hmax, ?_⟩) (fun p hp => by rw [List.mem_singleton] at hp; subst hp; exact .inr ⟨_, List.mem_singleton.2 rfl, rfl⟩) _ ?_ ?_ ?_
      · simp only [List.length_append, List.length_drop, Nat.add_mul]; omega
      · exact hm2.set (i := 0) rfl hset hchg
      · exact hc.step hchg (fun k hk hkb => by subst hkb; exact hSm _ (List.mem_singleton.2 rfl) hk)
      · exact GT.chg _ w _ hg hchg (.one hchg hbw rfl)
    · have holds : ∀ j u, (xs.flatMap f)[j]? = some u → w.cell? ((⟨b, 0, none⟩ : Addr).add j) = some u := fun j u hj => by
        have hj2 : j < (xs.flatMap f).length := (List.getElem?_eq_some_iff.1 hj).1
        rw [add_off]; simp [World.cell?, hbw, arr, List.getElem?_append_left hj2, hj]
      have hr := run_append_grow (P := P) w t ty E inf z hU hinf hz ⟨b, 0, none⟩ xs.length cap (xs.flatMap f) (by rw [flatMap_len hf, hs]) holds ⟨bx, off, none⟩ ys.length c (ys.flatMap f) hfl hnews (by omega) (by unfold maxLen at hlen; omega) (growslice_fits (by omega) hbytes)
      refine step _ _ hr ?_
      obtain ⟨k, hk, hk1⟩ : ∃ k, grownCap w (xs.length + ys.length) cap E = k ∧ xs.length + ys.length ≤ k ∧ k ≤ maxLen := ⟨_, rfl, grownCap_ge w _ cap E, grownCap_le_maxLen w _ cap E hlen⟩
      rw [hk]
      refine h' _ [(w.heap.size, .cells (arr f (xs ++ ys) (Builtin.zeroCells z.cells (k - (xs.length + ys.length))).toList) E (0, 0))] (.inr ⟨w.heap.size, k, (Builtin.zeroCells z.cells (k - (xs.length + ys.length))).toList, Nat.le_trans hn0 hc.size, by simp, rfl, by simpa using hk1.1, hk1.2, ?_⟩) (fun p hp => by rw [List.mem_singleton] at hp; subst hp; exact .inl hc.size) _ ?_ ?_ ?_
      · simp only [List.length_append, Array.length_toList, size_zeroCells, hzs]
        rw [Nat.sub_mul]
        have : (xs.length + ys.length) * s ≤ k * s := Nat.mul_le_mul_right _ hk1.1
        omega
      · have e1 : (Obj.cells ((xs.flatMap f).toArray ++ (ys.flatMap f).toArray ++ Builtin.zeroCells z.cells (k - (xs.length + ys.length))) E) = .cells (arr f (xs ++ ys) (Builtin.zeroCells z.cells (k - (xs.length + ys.length))).toList) E (0, 0) := by
          congr 1; apply Array.ext'; simp [arr]
        rw [e1]
        have hm3 : Mem w M2 := by simpa using hm2.tail
        exact (hm3.ext (Chg.drew no w)).alloc _
      · exact (hc.step (Chg.drew no w) (fun _ _ q => q.elim)).step (chg_alloc w.drew _) (fun _ _ q => q.elim)
      · exact GS.ext w.drew _ (GS.ext w _ hg (Chg.drew no w)) (chg_alloc w.drew _)
end
end Go.Eng
