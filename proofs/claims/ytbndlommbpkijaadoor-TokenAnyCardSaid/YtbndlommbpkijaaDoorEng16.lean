/- The calculus, sixteenth part: bytes out of strings, appended to, and back ('[]byte(s)', 'string(b)'). No condition. -/
import Derived.Test.YtbndlommbpkijaaDoorEng15
import Derived.Lib.ConvBytes
import Derived.Lib.FrozenHead
import Derived.Lib.AtoiErrMem
set_option linter.unusedVariables false
set_option linter.unusedSimpArgs false
namespace Go.Eng
open Go Go.RowKit

def fC (c : UInt8) : List Value := [.int .u8 (c.toNat : Nat)]
theorem fC_len (c : UInt8) : (fC c).length = 1 := rfl
theorem flat_fC : ∀ (s : List UInt8), s.flatMap fC = s.map fun b => Value.int .u8 (b.toNat : Nat)
  | [] => rfl
  | c :: s => by rw [List.flatMap_cons, flat_fC s]; rfl
/-- a slice of bytes of the call's own; its block may bear a mark behind its cells -/
def Sz (E n0 : Nat) (xs : List UInt8) (v : Value) (m : Mem0) : Prop :=
  ∃ b cap junk fz, n0 ≤ b ∧ v = .slice (some ⟨b, 0, none⟩) xs.length cap ∧ m = [(b, .cells (arr fC xs junk) E fz)] ∧ xs.length ≤ cap ∧ cap ≤ maxLen ∧ xs.length + junk.length = cap ∧ (fz = (0, 0) ∨ cap ≤ fz.1)
theorem Sz.ge {E n0 : Nat} {xs : List UInt8} {v : Value} {m : Mem0} (h : Sz E n0 xs v m) : ∀ p ∈ m, n0 ≤ p.1 := by
  obtain ⟨b, cap, junk, fz, h1, _, rfl, _⟩ := h
  intro p hp; rw [List.mem_singleton] at hp; subst hp; exact h1
theorem storeOne {P : Program} {w : World} {g o : Nat} {t : TypeId} {fz : Nat × Nat} {cur : Array Value} {v : Value} (hg : w.heap[g]? = some (.cells cur t fz)) (ho : o < cur.size) (hfz : fz = (0, 0) ∨ cur.size ≤ fz.1) (h1 : v.oneCell' = true) :
    (storeCells ⟨g, o, none⟩ [v]).run P w = .ok () (w.setRow g (cur.setIfInBounds o v)) := by
  have hadd : (⟨g, o, none⟩ : Addr).add 0 = ⟨g, o, none⟩ := by unfold Addr.add; split <;> simp_all
  have hcell : w.cell? ⟨g, o, none⟩ = some cur[o] := by simp [World.cell?, hg, ho]
  have hfro : w.frozen? ⟨g, o, none⟩ = false := by
    obtain ⟨lo, hi⟩ := fz
    simp only [World.frozen?, hg, Bool.and_eq_false_iff, decide_eq_false_iff_not]
    rcases hfz with h | h
    · cases h; right; omega
    · left; simp only at h; omega
  have hst : (store ((⟨g, o, none⟩ : Addr).add 0) v).run P w = .ok () (w.setRow g (cur.setIfInBounds o v)) := by
    rw [hadd, run_store P w _ v _ h1, hcell]
    simp [hfro, setCell_eq_setRow w g o cur t fz v hg]
  simp only [storeCells, Sem.run_bind, hst, Result.andThen_ok]
  rfl
section
variable {P : Program} {r : Option Nat} {N : Nat} {Q : Exit → Act → World → Prop} {e : Env} {ds : List Nat} {M : Mem0} {S : Nat → Prop} {w0 : World} {G : World → Prop}
variable {ops : Array Oper} {l : List Oper} {ty : TypeId} {pos : String} {after : Array Edge} {d : Nat} {x y : Operand} {t : TypeId}
/-- '[]byte(s)' -/
theorem LM.strB [GS G] {src dst el : TypeId} {s : List UInt8} (hs : P.underlying src = some .string) (hd0 : P.underlying dst = some (.slice el)) (he : P.underlying el = some (.int .u8)) (hx : ev e x = some (vS s)) (hl : s.length ≤ maxLen)
    (h : ∀ ad n cap m, n = s.length → Sz el w0.heap.size s (.slice ad n cap) m → LM P r N ops Q l ((d, .slice ad n cap) :: e) ds (m ++ M) S w0 G) (hnd : nd (.convert src dst x) = true := by rfl) (hd : Nat.blt d N = true := by rfl) :
    LM P r N ops Q (⟨some d, .convert src dst x, ty, pos, after, none⟩ :: l) e ds M S w0 G := fun w hm hc hg => by
  have hr := Lib.run_convert_string_bytes (P := P) w src dst el (bs s) hs hd0 he
  have hsz := bs_size s
  have hx2 : Ext w (Lib.bytesWorld w el (bs s)) := Ext.of_below (Lib.bytesWorld_below w el (bs s))
  have hnew := Lib.bytesWorld_at_new w el (bs s)
  obtain ⟨k, hk, hk1⟩ : ∃ k, grownCap w (bs s).size 0 el = k ∧ s.length ≤ k ∧ k ≤ maxLen := ⟨_, rfl, by rw [hsz]; exact grownCap_ge w _ 0 el, grownCap_le_maxLen w _ 0 el (by rw [hsz]; exact hl)⟩
  have hcells : Lib.bytesCells w el (bs s) = arr fC s (List.replicate (k - s.length) (.int .u8 0)) := by
    unfold Lib.bytesCells
    rw [hk, hsz]
    apply Array.ext'
    simp [arr, bs, flat_fC]
  have hsize : (Lib.bytesCells w el (bs s)).size = k := by rw [hcells]; simp [arr, flatMap_len fC_len]; omega
  refine LE.val (w' := Lib.bytesWorld w el (bs s)) (v := .slice (some ⟨w.heap.size, 0, none⟩) s.length k) (fun ρ hρ _ _ _ _ => by
    rw [hk, hsz] at hr
    simp [execOp, hρ x _ hx, hr, Result.andThen]) ?_ hnd hd
  refine h _ s.length k [(w.heap.size, .cells (arr fC s (List.replicate (k - s.length) (.int .u8 0))) el (k, k + 1))] rfl ⟨_, _, _, _, hc.size, rfl, rfl, hk1.1, hk1.2, by simp; omega, .inr (Nat.le_refl _)⟩ _ ?_ ?_ ?_
  · rw [hcells, ← hcells, hsize, hcells] at hnew
    exact (hm.ext hx2).cons hnew (fun p hp hq => by have := hm.lt hp; omega)
  · exact hc.step hx2 (fun _ _ q => q.elim)
  · exact GS.ext w _ hg hx2
/-- 'append(b, c)' -/
theorem LM.appB [GT G] {E n0 : Nat} {inf : TypeInfo} {z : Value} {xs : List UInt8} {v : Value} {m M1 M2 : Mem0} {bx c : Nat} {a : UInt8} {cs : Array Value} {F : TypeId} {fz0 : Nat × Nat}
    (hU : P.underlying t = some (.slice E)) (hI : ∀ w, (typeInfo E).run P w = .ok inf w) (hz : inf.zero = some z) (hs : inf.size = 1) (hby : inf.bytes = 1) (hzs : z.cells.size = 1) (hd : Nat.blt d N = true)
    (hx : ev e x = some v) (hy : ev e y = some (.slice (some ⟨bx, 0, none⟩) 1 c)) (hsl : Sz E n0 xs v m) [h1 : Fnd M bx (.cells cs F fz0) M1] [h2 : Spl M1 m M2] (ho : cs = (fC a).toArray)
    (hn0 : n0 ≤ w0.heap.size) (hSm : ∀ p ∈ m, p.1 < w0.heap.size → S p.1) (hlen : xs.length + 1 ≤ 140737488355328)
    (h : ∀ ad n cap m', n = xs.length + 1 → Sz E n0 (xs ++ [a]) (.slice ad n cap) m' → LM P r N ops Q l ((d, .slice ad n cap) :: e) ds (m' ++ M2) S w0 G) :
    LM P r N ops Q (⟨some d, .call { callee := .builtin .append, args := #[x, y], argTypes := #[t, t] }, ty, pos, after, none⟩ :: l) e ds M S w0 G := fun w hm hc hg => by
  subst ho
  have hinf := info_of hI
  have hmP : Mem w ((bx, .cells (fC a).toArray F fz0) :: (m ++ M2)) := (hm.perm h1.perm).perm (h2.perm.cons _)
  have hbx := hmP.get (i := 0) rfl
  have hnews : ∀ j u, (fC a)[j]? = some u → w.cell? ((⟨bx, 0, none⟩ : Addr).add j) = some u := fun j u hj => by
    rw [add_off]; simp [World.cell?, hbx, hj]
  have hm2 : Mem w (m ++ M2) := hmP.tail
  have step : ∀ (v' : Value) (w' : World), (Builtin.append_ #[t, t] ty #[v, .slice (some ⟨bx, 0, none⟩) 1 c]).run P w = .ok v' w' → 
      (LE P r N ops Q l ((d, v') :: e) ds w') → LE P r N ops Q (⟨some d, .call { callee := .builtin .append, args := #[x, y], argTypes := #[t, t] }, ty, pos, after, none⟩ :: l) e ds w := fun v' w' hr hl =>
    LE.val (fun ρ hρ _ _ _ _ => by simp [execOp, resolve, invoke, builtin, hρ x _ hx, hρ y _ hy, hr, Result.andThen]) hl rfl hd
  obtain ⟨b, cap, junk, fz, hb, rfl, rfl, hle, hmax, hsz, hfz⟩ := hsl
  have hbw := hm2.get (i := 0) rfl
  have hsize : (arr fC xs junk).size = cap := by simp [arr, flatMap_len fC_len]; omega
  have hlen1 : (fC a).length = 1 * inf.size := by rw [hs]; rfl
  by_cases hroom : xs.length + 1 ≤ cap
  · have hst := storeOne (P := P) (v := .int .u8 (a.toNat : Nat)) (o := xs.length) hbw (by omega) (by rw [hsize]; exact hfz) rfl
    have hf := run_firstCells_some (P := P) w 1 1 ⟨bx, 0, none⟩ 1 c (fC a) rfl hnews
    have hr : (Builtin.append_ #[t, t] ty #[.slice (some ⟨b, 0, none⟩) xs.length cap, .slice (some ⟨bx, 0, none⟩) 1 c]).run P w =
      .ok (.slice (some ⟨b, 0, none⟩) (xs.length + 1) cap) (w.setRow b ((arr fC xs junk).setIfInBounds xs.length (.int .u8 (a.toNat : Nat)))) := by
      have hst' : (storeCells ⟨b, xs.length, none⟩ (fC a)).run P w = _ := hst
      simp [Builtin.append_, run_underlying hU, sizeOf, typeInfo, hinf, hs, Builtin.lenOf, hroom, hf, Addr.add_lit, hst']
    refine step _ _ hr ?_
    have hj : 0 < junk.length := by omega
    have e1 : (arr fC xs junk).setIfInBounds xs.length (.int .u8 (a.toNat : Nat)) = arr fC (xs ++ [a]) (junk.drop 1) := by
      match junk, hj with
      | j0 :: junk, _ =>
        apply Array.ext'
        have hl := flatMap_len fC_len xs
        simp only [arr, List.setIfInBounds_toArray, List.flatMap_append, List.flatMap_cons, List.flatMap_nil, List.append_nil]
        rw [List.set_append_right _ _ (by omega), show xs.length - (xs.flatMap fC).length = 0 by omega]
        simp [fC]
    rw [e1]
    have hset : (w.setRow b (arr fC (xs ++ [a]) (junk.drop 1))).heap[b]? = some (.cells (arr fC (xs ++ [a]) (junk.drop 1)) E fz) := by
      obtain ⟨hlt, hk⟩ := Array.getElem?_eq_some_iff.1 hbw
      show (w.heap.modify b _)[b]? = _
      rw [Array.getElem?_eq_getElem (by rw [Array.size_modify]; exact hlt), Array.getElem_modify_self, hk]
    have hchg : Chg (fun x => x = b) w (w.setRow b (arr fC (xs ++ [a]) (junk.drop 1))) := ⟨rfl, rfl, rfl, by simp [World.setRow], fun k _ hn => by
      simp only [World.setRow, Array.getElem?_modify]; rw [if_neg (Ne.symm hn)]⟩
    refine h _ _ cap [(b, .cells (arr fC (xs ++ [a]) (junk.drop 1)) E fz)] rfl ⟨b, cap, junk.drop 1, fz, hb, by simp, rfl, by simpa using hroom, hmax, by simp; omega, hfz⟩ _ ?_ ?_ ?_
    · exact hm2.set (i := 0) rfl hset hchg
    · exact hc.step hchg (fun k hk hkb => by subst hkb; exact hSm _ (List.mem_singleton.2 rfl) hk)
    · exact GT.chg _ w _ hg hchg (.one hchg hbw rfl)
  · have hcap : xs.length = cap := by omega
    have holds : ∀ j u, (xs.flatMap fC)[j]? = some u → w.cell? ((⟨b, 0, none⟩ : Addr).add j) = some u := fun j u hj => by
      have hj2 : j < (xs.flatMap fC).length := (List.getElem?_eq_some_iff.1 hj).1
      rw [add_off]; simp [World.cell?, hbw, arr, List.getElem?_append_left hj2, hj]
    have hr := run_append_grow (P := P) w t ty E inf z hU hinf hz ⟨b, 0, none⟩ xs.length cap (xs.flatMap fC) (by rw [flatMap_len fC_len, hs]) holds ⟨bx, 0, none⟩ 1 c (fC a) hlen1 hnews (by omega) (by omega) (growslice_fits (by omega) (by rw [hby, Nat.mul_one]; exact hlen))
    refine step _ _ hr ?_
    obtain ⟨k, hk, hk1⟩ : ∃ k, grownCap w (xs.length + 1) cap E = k ∧ xs.length + 1 ≤ k ∧ k ≤ maxLen := ⟨_, rfl, grownCap_ge w _ cap E, grownCap_le_maxLen w _ cap E (by unfold maxLen; omega)⟩
    rw [hk]
    refine h _ _ k [(w.heap.size, .cells (arr fC (xs ++ [a]) (Builtin.zeroCells z.cells (k - (xs.length + 1))).toList) E (0, 0))] rfl ⟨w.heap.size, k, (Builtin.zeroCells z.cells (k - (xs.length + 1))).toList, (0, 0), Nat.le_trans hn0 hc.size, by simp, rfl, by simpa using hk1.1, hk1.2, ?_, .inl rfl⟩ _ ?_ ?_ ?_
    · simp [size_zeroCells, hzs]; omega
    · have e1 : (Obj.cells ((xs.flatMap fC).toArray ++ (fC a).toArray ++ Builtin.zeroCells z.cells (k - (xs.length + 1))) E) = .cells (arr fC (xs ++ [a]) (Builtin.zeroCells z.cells (k - (xs.length + 1))).toList) E (0, 0) := by
        congr 1; apply Array.ext'; simp [arr]
      rw [e1]
      have hm3 : Mem w M2 := by simpa using hm2.tail
      exact (hm3.ext (Chg.drew no w)).alloc _
    · exact (hc.step (Chg.drew no w) (fun _ _ q => q.elim)).step (chg_alloc w.drew _) (fun _ _ q => q.elim)
    · exact GS.ext w.drew _ (GS.ext w _ hg (Chg.drew no w)) (chg_alloc w.drew _)
end
section
variable {P : Program} {ty : TypeId} {e : Env} {M : Mem0} {x : Operand}
/-- 'string(b)' -/
theorem om_strB {M2 m : Mem0} {src dst el : TypeId} {n0 n cap : Nat} {xs : List UInt8} {ad : Option Addr} (hs : P.underlying src = some (.slice el)) (he : P.underlying el = some (.int .u8)) (hd : P.underlying dst = some .string)
    (hx : ev e x = some (.slice ad n cap)) (hsl : Sz el n0 xs (.slice ad n cap) m) [h : Spl M m M2] : ∀ w, Mem w M → OpV P (.convert src dst x) ty e w (vS xs) w := fun w hm ρ hρ _ _ _ _ => by
  have hm2 : Mem w (m ++ M2) := hm.perm h.perm
  obtain ⟨b, cap', junk, fz, hb, hv, rfl, hle, hmax, hsz, hfz⟩ := hsl
  cases hv
  have hbw := hm2.get (i := 0) rfl
  have h3 := run_convert_bytes_back (P := P) w src dst el ⟨b, 0, none⟩ cap xs hs he hd (fun j hj => by
    have := arr_get fC_len (xs := xs) (junk := junk) (i := j) (j := 0) (a := xs[j]) (List.getElem?_eq_getElem hj) (by decide)
    rw [add_off]
    simp [fC] at this
    simp [World.cell?, hbw, this])
  simp [execOp, hρ x _ hx, h3, Result.andThen]
end
end Go.Eng
