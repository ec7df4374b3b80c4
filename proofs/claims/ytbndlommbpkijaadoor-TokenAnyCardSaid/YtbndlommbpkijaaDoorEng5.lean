/- The calculus, fifth part: the operations on memory. No condition. -/
import Derived.Test.YtbndlommbpkijaaDoorEng4
import Derived.Laws.MakeOwn
import Derived.Laws.OwnMore
import Derived.ArgAppend
namespace Go.Eng
open Go Go.RowKit

theorem info_of {P : Program} {t : TypeId} {i : TypeInfo} (h : ∀ w, (typeInfo t).run P w = .ok i w) : P.info? t = some i := by
  have h1 := h default
  simp only [typeInfo, Sem.run_bind, run_program, Result.andThen] at h1
  cases hi : P.info? t with
  | none => rw [hi] at h1; cases h1
  | some j => rw [hi] at h1; simp at h1; rw [h1]

theorem add_off (b off n : Nat) : (⟨b, off, none⟩ : Addr).add n = ⟨b, off + n, none⟩ := by
  unfold Addr.add
  split
  · subst_vars; rfl
  · rfl

/-- One cell holds it. -/
def one (v : Value) : Bool := v.oneCell'

section
variable {P : Program} {ty : TypeId} {e : Env} {M : Mem0} {x y : Operand} {t : TypeId}

theorem run_load_cell {w : World} {b off : Nat} {cs : Array Value} {E : TypeId} {fz : Nat × Nat} {v : Value} (h : w.heap[b]? = some (.cells cs E fz)) (hc : cs[off]? = some v) :
    (load ⟨b, off, none⟩).run P w = .ok v w := by
  simp [load, Sem.run, World.cell?, h, hc]

/-! loads -/
theorem om_load (i : Nat) {b off : Nat} {cs : Array Value} {E : TypeId} {fz : Nat × Nat} {v : Value} (hT : ∀ w, (isAgg t).run P w = .ok false w) (ha : ev e x = some (.pointer (some ⟨b, off, none⟩)))
    (hM : M[i]? = some (b, .cells cs E fz)) (hc : cs[off]? = some v) : ∀ w, Mem w M → OpV P (.load t x) ty e w v w := fun w hm ρ hρ _ _ _ _ => by
  have h := run_load_cell (P := P) (hm.get hM) hc
  simp [execOp, Instr.loadAt, Instr.sureAddr, hρ x _ ha, loadVar, hT, h, Result.andThen]

theorem run_loadCellsFrom {w : World} {b off : Nat} : ∀ (vs : List Value) (k : Nat) (acc : Array Value), (∀ j v, vs[j]? = some v → w.cell? ⟨b, off + (k + j), none⟩ = some v) →
    (loadCellsFrom ⟨b, off, none⟩ k vs.length acc).run P w = .ok (acc ++ vs.toArray) w
  | [], k, acc, _ => by simp [loadCellsFrom]
  | v :: vs, k, acc, h => by
    have h0 : w.cell? ((⟨b, off, none⟩ : Addr).add k) = some v := by rw [add_off]; exact h 0 v rfl
    have ih := run_loadCellsFrom vs (k + 1) (acc.push v) (fun j u hj => by have := h (j + 1) u (by simpa using hj); rwa [show off + (k + 1 + j) = off + (k + (j + 1)) by omega])
    simp only [List.length_cons, loadCellsFrom, Sem.run_bind]
    simp only [load, Sem.run, h0, Result.andThen]
    rw [ih]; simp

theorem run_loadVar_agg {w : World} {b off n : Nat} {cs : Array Value} {E : TypeId} {fz : Nat × Nat} {vs : List Value} (hT : ∀ w, (isAgg t).run P w = .ok true w) (hS : ∀ w, (sizeOf t).run P w = .ok n w)
    (h : w.heap[b]? = some (.cells cs E fz)) (hn : vs.length = n) (hv : ∀ j v, vs[j]? = some v → cs[off + j]? = some v) : (loadVar t ⟨b, off, none⟩).run P w = .ok (.agg vs.toArray) w := by
  subst hn
  have := run_loadCellsFrom (P := P) (w := w) (b := b) (off := off) vs 0 #[] (fun j v hj => by simp [World.cell?, h, hv j v hj])
  simp [loadVar, hT, hS, loadCells, this, Result.andThen]
/-- The cells from a place on are these. -/
def Cs (cs : Array Value) (off : Nat) : List Value → Prop
  | [] => True
  | v :: vs => cs[off]? = some v ∧ Cs cs (off + 1) vs
theorem Cs.get {cs : Array Value} : ∀ {vs : List Value} {off : Nat}, Cs cs off vs → ∀ j v, vs[j]? = some v → cs[off + j]? = some v
  | [], _, _, j, v, h => by simp at h
  | u :: vs, off, hc, 0, v, h => by simp at h; subst h; exact hc.1
  | u :: vs, off, hc, j + 1, v, h => by have := Cs.get hc.2 j v (by simpa using h); rwa [show off + (j + 1) = off + 1 + j by omega]

theorem om_loadA (i : Nat) {b off n : Nat} {cs : Array Value} {E : TypeId} {fz : Nat × Nat} {vs : List Value} (hT : ∀ w, (isAgg t).run P w = .ok true w) (hS : ∀ w, (sizeOf t).run P w = .ok n w) (ha : ev e x = some (.pointer (some ⟨b, off, none⟩)))
    (hM : M[i]? = some (b, .cells cs E fz)) (hn : vs.length = n) (hc : Cs cs off vs) : ∀ w, Mem w M → OpV P (.load t x) ty e w (.agg vs.toArray) w := fun w hm ρ hρ _ _ _ _ => by
  have h := run_loadVar_agg (P := P) (off := off) hT hS (hm.get hM) hn hc.get
  simp [execOp, Instr.loadAt, Instr.sureAddr, hρ x _ ha, h, Result.andThen]

/-! addresses -/
theorem ov_field {f b off : Nat} {fs : Array Field} {fl : Field} {k n : Nat} (hU : P.underlying t = some (.struct fs)) (hf : fs[f]? = some fl) (hS : ∀ w, (sizeOf fl.type).run P w = .ok n w) (hn : Nat.beq n 0 = false) (hk : fl.offset = k)
    (ha : ev e x = some (.pointer (some ⟨b, off, none⟩))) : OpP P (.fieldAddr t x f) ty e (.pointer (some ⟨b, off + k, none⟩)) := fun w ρ hρ _ _ _ _ => by
  have h0 : n ≠ 0 := by intro h; subst h; simp at hn
  subst hk
  simp [execOp, Instr.fieldAt, run_underlying hU, hf, Instr.sureAddr, hρ x _ ha, fieldPlace, hS, h0, add_off, Result.andThen]
theorem ov_idx {k : IntKind} {a : Int} {b off n c s : Nat} {E : TypeId} (hU : P.underlying t = some (.slice E)) (hS : ∀ w, (sizeOf E).run P w = .ok s w) (ha : ev e x = some (.slice (some ⟨b, off, none⟩) n c)) (hi : ev e y = some (.int k a)) (h : 0 ≤ a ∧ a < n) :
    OpP P (.indexAddr t x y) ty e (.pointer (some ⟨b, off + a.toNat * s, none⟩)) := fun w ρ hρ _ _ _ _ => by
  simp [execOp, Instr.indexAt, asIntOf, run_underlying hU, hρ x _ ha, hρ y _ hi, hS, add_off, h.1, h.2, Result.andThen]
end

/-! stores, new memory -/
theorem chg_setCell (w : World) (b off : Nat) (v : Value) : Chg (fun x => x = b) w (w.setCell ⟨b, off, none⟩ v) :=
  ⟨rfl, rfl, rfl, by simp [World.setCell], fun x _ hn => Below.heap_setCell w ⟨b, off, none⟩ v x hn⟩
theorem heap_setCell_same {w : World} {b off : Nat} {cs : Array Value} {E : TypeId} {fz : Nat × Nat} (h : w.heap[b]? = some (.cells cs E fz)) (v : Value) : (w.setCell ⟨b, off, none⟩ v).heap[b]? = some (.cells (cs.setIfInBounds off v) E fz) := by
  obtain ⟨hlt, hk⟩ := Array.getElem?_eq_some_iff.1 h
  show (w.heap.modify b _)[b]? = _
  rw [Array.getElem?_eq_getElem (by rw [Array.size_modify]; exact hlt), Array.getElem_modify_self, hk]
  rfl
theorem chg_alloc (w : World) (o : Obj) : Ext w (w.alloc o) := Ext.of_below ((Below.refl _ _).alloc (Nat.le_refl _) o)

/-- The cells from a place on become these. -/
def setR (cs : Array Value) : Nat → List Value → Array Value
  | _, [] => cs
  | off, v :: vs => setR (cs.setIfInBounds off v) (off + 1) vs

theorem run_storeCells_setR {P : Program} {b : Nat} {E : TypeId} : ∀ (vs : List Value) (w : World) (cs : Array Value) (off k : Nat), w.heap[b]? = some (.cells cs E (0, 0)) → off + k + vs.length ≤ cs.size → (∀ v ∈ vs, one v = true) →
    ∃ w', (storeCells ⟨b, off, none⟩ vs k).run P w = .ok () w' ∧ w'.heap[b]? = some (.cells (setR cs (off + k) vs) E (0, 0)) ∧ Chg (fun x => x = b) w w'
  | [], w, cs, off, k, h, _, _ => ⟨w, by simp [storeCells], h, .refl _ _⟩
  | v :: vs, w, cs, off, k, h, hl, hv => by
    simp only [List.length_cons] at hl
    have hlt : off + k < cs.size := by omega
    have hc : w.cell? ⟨b, off + k, none⟩ = some cs[off + k] := by simp [World.cell?, h, hlt]
    have hf : w.frozen? ⟨b, off + k, none⟩ = false := by simp [World.frozen?, h]
    obtain ⟨w', h1, h2, h3⟩ := run_storeCells_setR (P := P) vs (w.setCell ⟨b, off + k, none⟩ v) (cs.setIfInBounds (off + k) v) off (k + 1) (heap_setCell_same h v) (by simp; omega) (fun u hu => hv u (List.mem_cons_of_mem _ hu))
    refine ⟨w', ?_, ?_, (chg_setCell w b (off + k) v).trans h3⟩
    · have hone := hv v (List.mem_cons_self ..)
      have hst : (store ⟨b, off + k, none⟩ v).run P w = .ok () (w.setCell ⟨b, off + k, none⟩ v) := by
        unfold store
        cases v <;> first | (simp [one, Value.oneCell'] at hone; done) | simp [Sem.run, hc, hf]
      simp only [storeCells, Sem.run_bind, add_off, hst, Result.andThen, h1]
    · show w'.heap[b]? = some (.cells (setR (cs.setIfInBounds (off + k) v) (off + k + 1) vs) E)
      rw [show off + k + 1 = off + (k + 1) by omega]; exact h2

section
variable {P : Program} {r : Option Nat} {N : Nat} {Q : Exit → Act → World → Prop} {e : Env} {ds : List Nat} {M : Mem0} {S : Nat → Prop} {w0 : World} {G : World → Prop}
variable {ops : Array Oper} {l : List Oper} {ty : TypeId} {pos : String} {after : Array Edge} {d : Nat} {x y : Operand} {t : TypeId}

theorem LM.store [GT G] (i : Nat) {b off n : Nat} {cs : Array Value} {E : TypeId} {v : Value} (hS : ∀ w, (sizeOf t).run P w = .ok n w) (ha : ev e x = some (.pointer (some ⟨b, off, none⟩))) (hv : ev e y = some v)
    (hM : M[i]? = some (b, .cells cs E (0, 0))) (hn : v.cells.size = n) (hl : off + n ≤ cs.size) (h1 : v.cells.toList.all one = true) (hb : b < w0.heap.size → S b)
    (h : LM P r N ops Q l e ds (M.set i (b, .cells (setR cs off v.cells.toList) E (0, 0))) S w0 G) : LM P r N ops Q (⟨none, .store t x y, ty, pos, after, none⟩ :: l) e ds M S w0 G := fun w hm hc hg a hf hd => by
  obtain ⟨w', h2, h3, h4⟩ := run_storeCells_setR (P := P) v.cells.toList w cs off 0 (hm.get hM) (by simp; omega) (fun u hu => List.all_eq_true.1 h1 u hu)
  refine LE.skp (w' := w') (fun ρ hρ _ _ _ _ => ?_) (h w' (hm.set hM h3 h4) (hc.step h4 (fun k hk hkb => by subst hkb; exact hb hk)) (GT.chg _ w w' hg h4 (.one h4 (hm.get hM) rfl))) rfl a hf hd
  simp [execOp, Instr.storeAt, Instr.sureAddr, hρ x _ ha, hρ y _ hv, storeVar, hS, hn, h2, Result.andThen]

theorem Mem.alloc {w : World} {M : Mem0} (h : Mem w M) (o : Obj) : Mem (w.alloc o) ((w.heap.size, o) :: M) :=
  (h.ext (chg_alloc w o)).cons (World.alloc_heap_new w o) (fun p hp hq => by have := h.lt hp; omega)

/-- A new variable. -/
theorem LM.alloc [GS G] {E : TypeId} {z : Value} (hZ : ∀ w, (zeroValue E).run P w = .ok z w) (hd : Nat.blt d N = true)
    (h : ∀ b, w0.heap.size ≤ b → LM P r N ops Q l ((d, .pointer (some ⟨b, 0, none⟩)) :: e) ds ((b, .cells z.cells E (0, 0)) :: M) S w0 G) : LM P r N ops Q (⟨some d, .alloc E, ty, pos, after, none⟩ :: l) e ds M S w0 G := fun w hm hc hg =>
  LE.val (w' := w.alloc (.cells z.cells E)) (fun ρ hρ _ _ _ _ => by simp [execOp, Instr.alloc, hZ, newVar, newRow, Result.andThen]) (h w.heap.size hc.size _ (hm.alloc _) (hc.step (chg_alloc w _) (fun _ _ q => q.elim)) (GS.ext w _ hg (chg_alloc w _))) rfl hd
theorem LM.box [GS G] {E : TypeId} {v : Value} (hv : ev e x = some v) (hd : Nat.blt d N = true)
    (h : ∀ b, w0.heap.size ≤ b → LM P r N ops Q l ((d, .pointer (some ⟨b, 0, none⟩)) :: e) ds ((b, .cells v.cells E (0, 0)) :: M) S w0 G) : LM P r N ops Q (⟨some d, .box E x, ty, pos, after, none⟩ :: l) e ds M S w0 G := fun w hm hc hg =>
  LE.val (w' := w.alloc (.cells v.cells E)) (fun ρ hρ _ _ _ _ => by simp [execOp, Instr.box, hρ x _ hv, newVar, newRow, Result.andThen]) (h w.heap.size hc.size _ (hm.alloc _) (hc.step (chg_alloc w _) (fun _ _ q => q.elim)) (GS.ext w _ hg (chg_alloc w _))) rfl hd

/-! slices: what they hold is a list of things, each of s cells; the cells behind are whatever -/
def arr {α : Type} (f : α → List Value) (xs : List α) (junk : List Value) : Array Value := (xs.flatMap f ++ junk).toArray

theorem flatMap_len {α : Type} {f : α → List Value} {s : Nat} (hf : ∀ a, (f a).length = s) (xs : List α) : (xs.flatMap f).length = xs.length * s := by
  induction xs with
  | nil => simp
  | cons a xs ih => simp [List.flatMap_cons, hf, ih, Nat.succ_mul, Nat.add_comm]

theorem flatMap_get {α : Type} {f : α → List Value} {s : Nat} (hf : ∀ a, (f a).length = s) : ∀ (xs : List α) (i j : Nat) (a : α), xs[i]? = some a → j < s → (xs.flatMap f)[i * s + j]? = (f a)[j]?
  | [], i, j, a, h, _ => by simp at h
  | b :: xs, 0, j, a, h, hj => by
    simp at h; subst h
    rw [List.flatMap_cons, Nat.zero_mul, Nat.zero_add, List.getElem?_append_left (by rw [hf]; exact hj)]
  | b :: xs, i + 1, j, a, h, hj => by
    rw [List.flatMap_cons, List.getElem?_append_right (by rw [hf, Nat.succ_mul]; omega), hf]
    rw [show (i + 1) * s + j - s = i * s + j by rw [Nat.succ_mul]; omega]
    exact flatMap_get hf xs i j a (by simpa using h) hj

theorem arr_get {α : Type} {f : α → List Value} {s : Nat} (hf : ∀ a, (f a).length = s) {xs : List α} {junk : List Value} {i j : Nat} {a : α} (h : xs[i]? = some a) (hj : j < s) : (arr f xs junk)[i * s + j]? = (f a)[j]? := by
  have hlt : i < xs.length := (List.getElem?_eq_some_iff.1 h).1
  simp only [arr, List.getElem?_toArray]
  rw [List.getElem?_append_left, flatMap_get hf xs i j a h hj]
  rw [flatMap_len hf]
  calc i * s + j < i * s + s := by omega
    _ = (i + 1) * s := by rw [Nat.succ_mul]
    _ ≤ xs.length * s := Nat.mul_le_mul_right _ hlt

/-- A slice of the call's own (or nil), and the block that holds it. -/
def Sl {α : Type} (f : α → List Value) (E s n0 : Nat) (xs : List α) (v : Value) (m : Mem0) : Prop :=
  (v = .slice none 0 0 ∧ m = [] ∧ xs = []) ∨
  ∃ b cap junk, n0 ≤ b ∧ v = .slice (some ⟨b, 0, none⟩) xs.length cap ∧ m = [(b, .cells (arr f xs junk) E (0, 0))] ∧ xs.length ≤ cap ∧ cap ≤ maxLen ∧ xs.length * s + junk.length = cap * s

theorem Sl.nil {α : Type} (f : α → List Value) (E s n0 : Nat) : Sl f E s n0 [] (.slice none 0 0) [] := .inl ⟨rfl, rfl, rfl⟩
theorem Sl.ne {α : Type} {f : α → List Value} {E s n0 : Nat} {xs : List α} {v : Value} {m : Mem0} (h : Sl f E s n0 xs v m) (hx : 0 < xs.length) :
    ∃ b cap junk, n0 ≤ b ∧ v = .slice (some ⟨b, 0, none⟩) xs.length cap ∧ m = [(b, .cells (arr f xs junk) E (0, 0))] ∧ xs.length ≤ cap ∧ cap ≤ maxLen ∧ xs.length * s + junk.length = cap * s := by
  rcases h with ⟨_, _, rfl⟩ | h
  · simp at hx
  · exact h
theorem Sl.form {α : Type} {f : α → List Value} {E s n0 : Nat} {xs : List α} {v : Value} {m : Mem0} (h : Sl f E s n0 xs v m) : ∃ ad cap, v = .slice ad xs.length cap := by
  rcases h with ⟨rfl, _, rfl⟩ | ⟨b, cap, _, _, rfl, _⟩
  · exact ⟨none, 0, rfl⟩
  · exact ⟨_, cap, rfl⟩
theorem Sl.mono {α : Type} {f : α → List Value} {E s n0 n1 : Nat} {xs : List α} {v : Value} {m : Mem0} (h : Sl f E s n0 xs v m) (hn : n1 ≤ n0) : Sl f E s n1 xs v m := by
  rcases h with h | ⟨b, cap, junk, hb, h⟩
  · exact .inl h
  · exact .inr ⟨b, cap, junk, by omega, h⟩
theorem Sl.ge {α : Type} {f : α → List Value} {E s n0 : Nat} {xs : List α} {v : Value} {m : Mem0} (h : Sl f E s n0 xs v m) : ∀ p ∈ m, n0 ≤ p.1 := by
  rcases h with ⟨_, rfl, _⟩ | ⟨b, cap, junk, hb, _, rfl, _⟩
  · intro p hp; cases hp
  · intro p hp; simp at hp; subst hp; exact hb

/-- 'out = append(out, a)': the slice is the call's own, or nil; the one that is added lies in a block of its own, at the head. -/
theorem LM.appendU [GT G] {α : Type} {f : α → List Value} {E s n0 : Nat} {inf : TypeInfo} {z : Value} {xs : List α} {v : Value} {m M2 : Mem0} {bx c : Nat} {a : α} {o : Obj}
    (hU : P.underlying t = some (.slice E)) (hI : ∀ w, (typeInfo E).run P w = .ok inf w) (hz : inf.zero = some z) (hs : inf.size = s) (hs0 : Nat.blt 0 s = true) (hzs : z.cells.size = s) (hd : Nat.blt d N = true)
    (hx : ev e x = some v) (hy : ev e y = some (.slice (some ⟨bx, 0, none⟩) 1 c)) (hn0 : n0 ≤ w0.heap.size) (hSm : ∀ p ∈ m, p.1 < w0.heap.size → S p.1) (hsl : Sl f E s n0 xs v m) (ho : ∃ F fz, o = .cells (f a).toArray F fz)
    (hf : ∀ a, (f a).length = s) (h1 : ∀ a, ∀ u ∈ f a, one u = true) (hlen : xs.length + 1 ≤ maxLen) (hbytes : (xs.length + 1) * inf.bytes ≤ 140737488355328)
    (h : ∀ v' m', Sl f E s n0 (xs ++ [a]) v' m' → (∀ p ∈ m', w0.heap.size ≤ p.1 ∨ ∃ q ∈ m, q.1 = p.1) → LM P r N ops Q l ((d, v') :: e) ds (m' ++ M2) S w0 G) :
    LM P r N ops Q (⟨some d, .call { callee := .builtin .append, args := #[x, y], argTypes := #[t, t] }, ty, pos, after, none⟩ :: l) e ds ((bx, o) :: (m ++ M2)) S w0 G := fun w hm hc hg => by
  obtain ⟨F, fz, rfl⟩ := ho
  have hs0 : 0 < s := Nat.le_of_ble_eq_true hs0
  have hinf := info_of hI
  have hbx := hm.get (i := 0) rfl
  have hnews : ∀ j u, (f a)[j]? = some u → w.cell? ((⟨bx, 0, none⟩ : Addr).add j) = some u := fun j u hj => by
    rw [add_off]; simp [World.cell?, hbx, hj]
  have hm2 : Mem w (m ++ M2) := hm.tail
  have step : ∀ (v' : Value) (w' : World), (Builtin.append_ #[t, t] ty #[v, .slice (some ⟨bx, 0, none⟩) 1 c]).run P w = .ok v' w' → 
      (LE P r N ops Q l ((d, v') :: e) ds w') → LE P r N ops Q (⟨some d, .call { callee := .builtin .append, args := #[x, y], argTypes := #[t, t] }, ty, pos, after, none⟩ :: l) e ds w := fun v' w' hr hl =>
    LE.val (fun ρ hρ _ _ _ _ => by simp [execOp, resolve, invoke, builtin, hρ x _ hx, hρ y _ hy, hr, Result.andThen]) hl rfl hd
  rcases hsl with ⟨rfl, rfl, rfl⟩ | ⟨b, cap, junk, hb, rfl, rfl, hle, hmax, hsz⟩
  · -- nil
    have hr := run_append_nil (P := P) w t ty E inf z hU hinf hz ⟨bx, 0, none⟩ 1 c (f a) (by rw [hf, hs, Nat.one_mul]) hnews (by omega) (by omega) (by simp at hbytes; omega)
    refine step _ _ hr ?_
    obtain ⟨k, hk, hk1⟩ : ∃ k, grownCap w 1 0 E = k ∧ 1 ≤ k ∧ k ≤ maxLen := ⟨_, rfl, grownCap_ge w 1 0 E, grownCap_le_maxLen w 1 0 E (by unfold maxLen; omega)⟩
    rw [hk]
    refine h _ [(w.heap.size, .cells (arr f ([] ++ [a]) (Builtin.zeroCells z.cells (k - 1)).toList) E (0, 0))] (.inr ⟨w.heap.size, k, (Builtin.zeroCells z.cells (k - 1)).toList, Nat.le_trans hn0 hc.size, rfl, rfl, by simpa using hk1.1, hk1.2, ?_⟩) (fun p hp => by rw [List.mem_singleton] at hp; subst hp; exact .inl hc.size) _ ?_ ?_ ?_
    · simp [size_zeroCells, hzs]
      rw [Nat.sub_mul]; have : s ≤ k * s := by calc s = 1 * s := by omega
                                                  _ ≤ k * s := Nat.mul_le_mul_right _ hk1.1
      omega
    · have e1 : (Obj.cells ((f a).toArray ++ Builtin.zeroCells z.cells (k - 1)) E) = .cells (arr f ([] ++ [a]) (Builtin.zeroCells z.cells (k - 1)).toList) E (0, 0) := by
        congr 1; apply Array.ext'; simp [arr]
      rw [e1]
      exact (hm2.ext (Chg.drew no w)).alloc _
    · exact (hc.step (Chg.drew no w) (fun _ _ q => q.elim)).step (chg_alloc w.drew _) (fun _ _ q => q.elim)
    · exact GS.ext w.drew _ (GS.ext w _ hg (Chg.drew no w)) (chg_alloc w.drew _)
  · have hbw := hm2.get (i := 0) rfl
    have hsize : (arr f xs junk).size = cap * s := by simp [arr, flatMap_len hf, hsz]
    by_cases hroom : xs.length + 1 ≤ cap
    · -- there is room
      have hmul : (xs.length + 1) * s ≤ cap * s := Nat.mul_le_mul_right _ hroom
      rw [Nat.succ_mul] at hmul
      have hr := run_append_room (P := P) w t ty E inf hU hinf b xs.length cap (arr f xs junk) hbw ⟨bx, 0, none⟩ 1 c (f a) (by rw [hf, hs, Nat.one_mul]) hnews (fun u hu => h1 a u hu) hroom (by rw [hs, hf, hsize]; exact hmul)
      refine step _ _ hr ?_
      rw [hs, hf]
      have e1 : (((arr f xs junk).toList.take (xs.length * s) ++ f a ++ (arr f xs junk).toList.drop (xs.length * s + s)).toArray) = arr f (xs ++ [a]) (junk.drop s) := by
        apply Array.ext'
        have hl := flatMap_len hf xs
        simp only [arr, List.flatMap_append, List.flatMap_cons, List.flatMap_nil, List.append_nil]
        rw [← hl, List.take_left, List.drop_append, List.drop_eq_nil_of_le (by omega), List.nil_append, Nat.add_sub_cancel_left]
      rw [e1]
      have hset : (w.setRow b (arr f (xs ++ [a]) (junk.drop s))).heap[b]? = some (.cells (arr f (xs ++ [a]) (junk.drop s)) E (0, 0)) := by
        obtain ⟨hlt, hk⟩ := Array.getElem?_eq_some_iff.1 hbw
        show (w.heap.modify b _)[b]? = _
        rw [Array.getElem?_eq_getElem (by rw [Array.size_modify]; exact hlt), Array.getElem_modify_self, hk]
      have hchg : Chg (fun x => x = b) w (w.setRow b (arr f (xs ++ [a]) (junk.drop s))) := ⟨rfl, rfl, rfl, by simp [World.setRow], fun k _ hn => by
        simp only [World.setRow, Array.getElem?_modify]; rw [if_neg (Ne.symm hn)]⟩
      refine h _ [(b, .cells (arr f (xs ++ [a]) (junk.drop s)) E (0, 0))] (.inr ⟨b, cap, junk.drop s, hb, by simp, rfl, by simpa using hroom, hmax, ?_⟩) (fun p hp => by rw [List.mem_singleton] at hp; subst hp; exact .inr ⟨_, List.mem_singleton.2 rfl, rfl⟩) _ ?_ ?_ ?_
      · simp only [List.length_append, List.length_cons, List.length_nil, Nat.zero_add, List.length_drop, Nat.succ_mul]; omega
      · exact hm2.set (i := 0) rfl hset hchg
      · exact hc.step hchg (fun k hk hkb => by subst hkb; exact hSm _ (List.mem_singleton.2 rfl) hk)
      · exact GT.chg _ w _ hg hchg (.one hchg hbw rfl)
    · -- there is none
      have hcap : xs.length = cap := by omega
      have hj : junk = [] := by
        have : junk.length = 0 := by subst hcap; omega
        exact List.eq_nil_of_length_eq_zero this
      subst hj
      have holds : ∀ j u, (xs.flatMap f)[j]? = some u → w.cell? ((⟨b, 0, none⟩ : Addr).add j) = some u := fun j u hj => by
        rw [add_off]; simp [World.cell?, hbw, arr, hj]
      have hr := run_append_grow (P := P) w t ty E inf z hU hinf hz ⟨b, 0, none⟩ xs.length cap (xs.flatMap f) (by rw [flatMap_len hf, hs]) holds ⟨bx, 0, none⟩ 1 c (f a) (by rw [hf, hs, Nat.one_mul]) hnews (by omega) (by unfold maxLen at hlen; omega) (growslice_fits (by omega) hbytes)
      refine step _ _ hr ?_
      obtain ⟨k, hk, hk1⟩ : ∃ k, grownCap w (xs.length + 1) cap E = k ∧ xs.length + 1 ≤ k ∧ k ≤ maxLen := ⟨_, rfl, grownCap_ge w _ cap E, grownCap_le_maxLen w _ cap E hlen⟩
      rw [hk]
      refine h _ [(w.heap.size, .cells (arr f (xs ++ [a]) (Builtin.zeroCells z.cells (k - (xs.length + 1))).toList) E (0, 0))] (.inr ⟨w.heap.size, k, (Builtin.zeroCells z.cells (k - (xs.length + 1))).toList, Nat.le_trans hn0 hc.size, by simp, rfl, by simpa using hk1.1, hk1.2, ?_⟩) (fun p hp => by rw [List.mem_singleton] at hp; subst hp; exact .inl hc.size) _ ?_ ?_ ?_
      · simp [size_zeroCells, hzs]
        rw [Nat.sub_mul]
        have : (xs.length + 1) * s ≤ k * s := Nat.mul_le_mul_right _ hk1.1
        omega
      · have e1 : (Obj.cells ((xs.flatMap f).toArray ++ (f a).toArray ++ Builtin.zeroCells z.cells (k - (xs.length + 1))) E) = .cells (arr f (xs ++ [a]) (Builtin.zeroCells z.cells (k - (xs.length + 1))).toList) E (0, 0) := by
          congr 1; apply Array.ext'; simp [arr]
        rw [e1]
        have hm3 : Mem w M2 := by simpa using hm2.tail
        exact (hm3.ext (Chg.drew no w)).alloc _
      · exact (hc.step (Chg.drew no w) (fun _ _ q => q.elim)).step (chg_alloc w.drew _) (fun _ _ q => q.elim)
      · exact GS.ext w.drew _ (GS.ext w _ hg (Chg.drew no w)) (chg_alloc w.drew _)

theorem LM.append [GT G] {α : Type} {f : α → List Value} {E s : Nat} {inf : TypeInfo} {z : Value} {xs : List α} {v : Value} {m M2 : Mem0} {bx c : Nat} {a : α} {o : Obj}
    (hU : P.underlying t = some (.slice E)) (hI : ∀ w, (typeInfo E).run P w = .ok inf w) (hz : inf.zero = some z) (hs : inf.size = s) (hs0 : Nat.blt 0 s = true) (hzs : z.cells.size = s) (hd : Nat.blt d N = true)
    (hx : ev e x = some v) (hy : ev e y = some (.slice (some ⟨bx, 0, none⟩) 1 c)) (hsl : Sl f E s w0.heap.size xs v m) (ho : ∃ F fz, o = .cells (f a).toArray F fz)
    (hf : ∀ a, (f a).length = s) (h1 : ∀ a, ∀ u ∈ f a, one u = true) (hlen : xs.length + 1 ≤ maxLen) (hbytes : (xs.length + 1) * inf.bytes ≤ 140737488355328)
    (h : ∀ v' m', Sl f E s w0.heap.size (xs ++ [a]) v' m' → LM P r N ops Q l ((d, v') :: e) ds (m' ++ M2) S w0 G) :
    LM P r N ops Q (⟨some d, .call { callee := .builtin .append, args := #[x, y], argTypes := #[t, t] }, ty, pos, after, none⟩ :: l) e ds ((bx, o) :: (m ++ M2)) S w0 G :=
  .appendU hU hI hz hs hs0 hzs hd hx hy (Nat.le_refl _) (fun p hp hlt => absurd hlt (Nat.not_lt_of_le (hsl.ge p hp))) hsl ho hf h1 hlen hbytes (fun v' m' h2 _ => h v' m' h2)

theorem foldl_fill (cs : Array Value) : ∀ (vs : List Value) (k : Nat) (acc : Array Value), (vs.zipIdx k).foldl (fun cs (p : Value × Nat) => cs.setIfInBounds (0 * cs.size + p.2) p.1) acc = setR acc k vs
  | [], k, acc => rfl
  | v :: vs, k, acc => by
    simp only [List.zipIdx_cons, List.foldl_cons, setR, Nat.zero_mul, Nat.zero_add]
    have := foldl_fill cs vs (k + 1) (acc.setIfInBounds k v)
    simpa only [Nat.zero_mul, Nat.zero_add] using this
theorem setR_all : ∀ (vs : List Value) (pre : List Value) (old : List Value), old.length = vs.length → setR (pre ++ old).toArray pre.length vs = (pre ++ vs).toArray
  | [], pre, old, h => by
    have : old = [] := List.eq_nil_of_length_eq_zero (by simpa using h)
    subst this; rfl
  | v :: vs, pre, [], h => by simp at h
  | v :: vs, pre, o :: old, h => by
    simp only [setR, List.setIfInBounds_toArray]
    rw [List.set_append_right _ _ (Nat.le_refl _), Nat.sub_self, List.set_cons_zero]
    have := setR_all vs (pre ++ [v]) old (by simpa using h)
    simpa using this
theorem fill_one {s : Nat} {zs : Array Value} {v : Value} (hz : zs.size = s) (hv : v.cells.size = s) : Instr.fill (fun i => some (i * s, s)) zs [(0, v)] = some v.cells := by
  have h1 : v.cells.zipIdx.foldl (fun cs (p : Value × Nat) => cs.setIfInBounds (0 * s + p.2) p.1) zs = v.cells := by
    rw [← Array.foldl_toList, Array.toList_zipIdx]
    have h2 := foldl_fill zs v.cells.toList 0 zs
    simp only [Nat.zero_mul, Nat.zero_add] at h2 ⊢
    rw [h2]
    have h3 := setR_all v.cells.toList [] zs.toList (by simp [hz, hv])
    simpa using h3
  have h4 : ¬ (v.cells.size ≠ s ∨ 0 * s + v.cells.size > zs.size) := by simp [hv, hz]
  simp only [Instr.fill]
  simp only [hv, hz, ne_eq, not_true_eq_false, Nat.zero_mul, Nat.zero_add, gt_iff_lt, Nat.lt_irrefl, decide_false, Bool.or_self, Bool.false_eq_true, if_false] at h1 ⊢
  simpa using h1
/-- '[]T{a}' behind an append: one element in a block of its own. -/
theorem LM.single [GS G] {E : TypeId} {s : Nat} {z v : Value} (hU : P.underlying t = some (.slice E)) (hS : ∀ w, (sizeOf E).run P w = .ok s w) (hZ : ∀ w, (zeroValue E).run P w = .ok z w) (hs : Nat.blt 0 s = true) (hs2 : Nat.blt s 1000 = true) (hd : Nat.blt d N = true)
    (hx : ev e x = some v) (hv : v.cells.size = s)
    (h : ∀ b, w0.heap.size ≤ b → LM P r N ops Q l ((d, .slice (some ⟨b, 0, none⟩) 1 1) :: e) ds ((b, .cells v.cells E (0, 0)) :: M) S w0 G) : LM P r N ops Q (⟨some d, .buildSlice t 1 #[(0, x)], ty, pos, after, none⟩ :: l) e ds M S w0 G := fun w hm hc hg => by
  have h0 : 0 < s := Nat.le_of_ble_eq_true hs
  have h1000 : s < 1000 := Nat.le_of_ble_eq_true hs2
  have hne : ¬ s = 0 := by omega
  have hbig : ¬ (16777216 < s) := by omega
  have hfill := fill_one (s := s) (zs := (Array.range s).map (z.cells[· % z.cells.size]!)) (v := v) (by simp) hv
  refine LE.val (w' := w.alloc (.cells v.cells E)) (fun ρ hρ _ _ _ _ => ?_) (h w.heap.size hc.size _ (hm.alloc _) (hc.step (chg_alloc w _) (fun _ _ q => q.elim)) (GS.ext w _ hg (chg_alloc w _))) rfl hd
  simp [execOp, Instr.buildSlice, run_underlying hU, hS, hZ, hne, hbig, hρ x _ hx, hfill, newRow, Result.andThen]

end

/-! integers in slices -/
section
variable {P : Program} {r : Option Nat} {N : Nat} {Q : Exit → Act → World → Prop} {e : Env} {ds : List Nat} {M : Mem0} {S : Nat → Prop} {w0 : World} {G : World → Prop}
variable {ops : Array Oper} {l : List Oper} {ty : TypeId} {pos : String} {after : Array Edge} {x y : Operand} {t : TypeId}
end
section
variable {P : Program} {r : Option Nat} {N : Nat} {Q : Exit → Act → World → Prop} {e : Env} {ds : List Nat} {M : Mem0} {S : Nat → Prop} {w0 : World} {G : World → Prop}
variable {ops : Array Oper} {l : List Oper} {op : Op} {ty : TypeId} {pos : String} {after : Array Edge} {d : Nat}
/-- What isn't carried out, where a later guard asks for it. -/
theorem LM.dropU {j t : Nat} {b c : Bool} (hj : (ops[j]?).bind (·.dst) = some t) (ht : look e t = some (.bool c)) (hbc : (c == b) = false)
    (h : LM P r N ops Q l ((d, undef) :: e) ds M S w0 G) (hd : Nat.blt d N = true := by rfl) : LM P r N ops Q (⟨some d, op, ty, pos, after, some (j, b)⟩ :: l) e ds M S w0 G := fun w hm hc hg => .drop hj ht hbc (h w hm hc hg) hd
/-- A guard that was not carried out itself. -/
theorem LM.dropX {j t : Nat} {b : Bool} (hj : (ops[j]?).bind (·.dst) = some t) (ht : look e t = some undef)
    (h : LM P r N ops Q l ((d, undef) :: e) ds M S w0 G) (hd : Nat.blt d N = true := by rfl) : LM P r N ops Q (⟨some d, op, ty, pos, after, some (j, b)⟩ :: l) e ds M S w0 G := fun w hm hc hg a hf hdm => by
  have hw : Region.wanted ⟨some d, op, ty, pos, after, some (j, b)⟩ (yielded ops a.tmps) = false := by
    simp only [Region.wanted, yielded, hj, Option.bind_some, hf.2 t _ ht, undef]; rfl
  unfold wpListIn
  rw [if_neg (by rw [hw]; simp)]
  exact ⟨fun _ _ => trivial, h w hm hc hg _ (hf.put hd undef) hdm⟩
end
/-- Ways meet again: what holds where they meet. -/
def joQ (N : Nat) (ds : List Nat) (S : Nat → Prop) (w0 : World) {α : Type} (E : α → Env) (MM : α → Mem0) (GG : α → World → Prop) (I : α → Prop) (Q : Exit → Act → World → Prop) : Exit → Act → World → Prop
  | .normal, a, w => ∃ y, Fr N (E y) a ∧ Dm ds a ∧ Mem w (MM y) ∧ Chg S w0 w ∧ GG y w ∧ I y
  | x, a, w => Q x a w
section
variable {P : Program} {r : Option Nat} {N : Nat} {Q : Exit → Act → World → Prop} {e : Env} {ds : List Nat} {M : Mem0} {S : Nat → Prop} {w0 : World} {G : World → Prop}
theorem wpM.joinG {α : Type} {c : Code} (E : α → Env) (MM : α → Mem0) (GG : α → World → Prop) (I : α → Prop) (h1 : wpM P r N c (joQ N ds S w0 E MM GG I Q) e ds M S w0 G) (h2 : ∀ x, I x → QM N Q .normal (E x) ds (MM x) S w0 (GG x)) : wpM P r N c Q e ds M S w0 G := fun w hm hc hg a hf hd => by
  refine wpIn_mono (h1 w hm hc hg a hf hd) (fun x a w hq => ?_)
  cases x with
  | normal => obtain ⟨y, hf', hd', hm', hc', hg', hI⟩ := hq; exact h2 y hI w hm' hc' hg' a hf' hd'
  | exit id => exact hq
  | goto l => exact hq
  | ret => exact hq
  | panic ch => exact hq
  | outgrown => exact hq
theorem wpM.join {α : Type} {c : Code} (E : α → Env) (MM : α → Mem0) (I : α → Prop) (h1 : wpM P r N c (joQ N ds S w0 E MM (fun _ => G) I Q) e ds M S w0 G) (h2 : ∀ x, I x → QM N Q .normal (E x) ds (MM x) S w0 G) : wpM P r N c Q e ds M S w0 G := .joinG E MM (fun _ => G) I h1 h2
theorem QM.meetG {α : Type} {E : α → Env} {MM : α → Mem0} {GG : α → World → Prop} {I : α → Prop} (y : α) (hs : Sub e (E y)) (hM : ∀ w, Mem w M → Mem w (MM y)) (hG : ∀ w, G w → GG y w) (hI : I y) : QM N (joQ N ds S w0 E MM GG I Q) .normal e ds M S w0 G :=
  fun w hw hc hg _ hf hd => ⟨y, hf.sub hs, hd, hM w hw, hc, hG w hg, hI⟩
theorem QM.meet {α : Type} {E : α → Env} {MM : α → Mem0} {I : α → Prop} (y : α) (hs : Sub e (E y)) (hM : ∀ w, Mem w M → Mem w (MM y)) (hI : I y) : QM N (joQ N ds S w0 E MM (fun _ => G) I Q) .normal e ds M S w0 G := .meetG y hs hM (fun _ h => h) hI
end
/-- What was there is as it was; the value is a slice of the call's own. -/
def New {α : Type} (f : α → List Value) (E s : Nat) (xs : List α) (w : World) (v : Value) (w' : World) : Prop := Ext w w' ∧ ∃ m, Sl f E s w.heap.size xs v m ∧ Mem w' m
section
variable {P : Program} {r : Option Nat} {N : Nat} {Q : Exit → Act → World → Prop} {e : Env} {ds : List Nat} {M : Mem0} {S : Nat → Prop} {w0 : World} {G : World → Prop}
variable {ops : Array Oper} {l : List Oper} {op : Op} {ty : TypeId} {pos : String} {after : Array Edge} {d : Nat}
end
section
variable {P : Program} {r : Option Nat} {N : Nat} {Q : Exit → Act → World → Prop} {e : Env} {ds : List Nat} {M : Mem0} {S : Nat → Prop} {w0 : World} {G : World → Prop}
variable {ops : Array Oper} {l : List (Nat × Nat)} {op : Op} {ty : TypeId} {pos : String} {after : Array Edge} {d i : Nat}
end
theorem lk {e : Env} {t : Nat} {v v' : Value} (h : look e t = some v') (hv : v' = v) : look e t = some v := by rw [h, hv]
end Go.Eng
