/- The calculus, ninth part: blocks and slices are found in the memory's list by instances; slices by their addresses; structs are compared; loops whose list has a part that stands. No condition. -/
import Derived.Test.YtbndlommbpkijaaDoorEng8
import Derived.Laws.StructEq
set_option linter.unusedVariables false
set_option linter.unusedSimpArgs false
namespace Go.Eng
open Go Go.RowKit

/-! ### Finding -/
class Fnd (M : Mem0) (b : Nat) (o : outParam Obj) (M2 : outParam Mem0) : Prop where
  perm : M.Perm ((b, o) :: M2)
instance (priority := high) fnd_here {M : Mem0} {b : Nat} {o : Obj} : Fnd ((b, o) :: M) b o M := ⟨.refl _⟩
instance fnd_cons {M M2 : Mem0} {b : Nat} {o : Obj} {p : Nat × Obj} [h : Fnd M b o M2] : Fnd (p :: M) b o (p :: M2) := ⟨(h.perm.cons p).trans (.swap _ _ _)⟩
instance fnd_app {M M2 m : Mem0} {b : Nat} {o : Obj} [h : Fnd M b o M2] : Fnd (m ++ M) b o (m ++ M2) := ⟨(h.perm.append_left m).trans List.perm_middle⟩
class Spl (M m : Mem0) (M2 : outParam Mem0) : Prop where
  perm : M.Perm (m ++ M2)
instance (priority := high) spl_here {m M : Mem0} : Spl (m ++ M) m M := ⟨.refl _⟩
instance (priority := high) spl_all {m : Mem0} : Spl m m [] := ⟨by simp⟩
instance spl_cons {M M2 m : Mem0} {p : Nat × Obj} [h : Spl M m M2] : Spl (p :: M) m (p :: M2) := ⟨(h.perm.cons p).trans List.perm_middle.symm⟩
instance spl_app {M M2 m q : Mem0} [h : Spl M m M2] : Spl (q ++ M) m (q ++ M2) := ⟨(h.perm.append_left q).trans (by rw [← List.append_assoc, ← List.append_assoc]; exact List.perm_append_comm.append_right _)⟩
instance (priority := high + 1) spl_nil {M : Mem0} : Spl M [] M := ⟨.refl _⟩
instance (priority := low) spl_more {M M1 M2 m m' : Mem0} [h : Spl M m M1] [k : Spl M1 m' M2] : Spl M (m ++ m') M2 := ⟨h.perm.trans (by rw [List.append_assoc]; exact k.perm.append_left m)⟩
instance (priority := low) spl_blk {M M1 M2 m : Mem0} {b : Nat} {o : Obj} [h : Fnd M b o M1] [k : Spl M1 m M2] : Spl M ((b, o) :: m) M2 := ⟨h.perm.trans (k.perm.cons _)⟩
instance (priority := low) fnd_left {M m m2 : Mem0} {b : Nat} {o : Obj} [h : Fnd m b o m2] : Fnd (m ++ M) b o (m2 ++ M) := ⟨h.perm.append_right M⟩
instance (priority := low) spl_left {M q q2 m : Mem0} [h : Spl q m q2] : Spl (q ++ M) m (q2 ++ M) := ⟨by rw [← List.append_assoc]; exact h.perm.append_right M⟩
def SubM (M M' : Mem0) : Prop := ∃ R, M.Perm (M' ++ R)
theorem SubM.nil (M : Mem0) : SubM M [] := ⟨M, .refl _⟩
theorem SubM.all (M : Mem0) : SubM M M := ⟨[], by simp⟩
theorem SubM.cons {M M2 M' : Mem0} {b : Nat} {o o' : Obj} [h : Fnd M b o M2] (e : o = o') (k : SubM M2 M') : SubM M ((b, o') :: M') := by
  obtain ⟨R, hR⟩ := k; subst e; exact ⟨R, h.perm.trans (hR.cons _)⟩
theorem SubM.app {M m M2 M' : Mem0} [h : Spl M m M2] (k : SubM M2 M') : SubM M (m ++ M') := by
  obtain ⟨R, hR⟩ := k; exact ⟨R, h.perm.trans (by rw [List.append_assoc]; exact hR.append_left m)⟩
theorem SubM.mem {M M' : Mem0} (h : SubM M M') (w : World) (hm : Mem w M) : Mem w M' := by
  obtain ⟨R, hR⟩ := h
  exact (hm.perm hR).sub (List.sublist_append_left _ _)
theorem Fnd.get {M M2 : Mem0} {b : Nat} {o : Obj} (h : Fnd M b o M2) {w : World} (hm : Mem w M) : w.heap[b]? = some o := (hm.perm h.perm).get (i := 0) rfl
theorem Spl.mem {M m M2 : Mem0} (h : Spl M m M2) {w : World} (hm : Mem w M) : Mem w m := (hm.perm h.perm).sub (List.sublist_append_left _ _)
theorem Mem.pick {M M2 : Mem0} {w : World} (hm : Mem w M) (m : Mem0) [h : Spl M m M2] : Mem w m := h.mem hm
theorem Spl.all {M m M2 : Mem0} (h : Spl M m M2) (w : World) (hm : Mem w M) : Mem w (m ++ M2) := hm.perm h.perm
theorem Sl.srM {α : Type} {f : α → List Value} {E s n0 : Nat} {xs : List α} {v : Value} {m M M2 : Mem0} {w : World} (h : Sl f E s n0 xs v m) (hf : ∀ a, (f a).length = s) (hm : Mem w M) [k : Spl M m M2] : Sr f s xs v w :=
  h.sr hf (fun p hp => (k.mem hm).2 p hp)

/-! ### Where a slice lies -/
def adB (ad : Option Addr) : Nat := match ad with | some a => a.block | none => 0
def adO (ad : Option Addr) : Nat := match ad with | some a => a.off | none => 0
def Spt (n : Nat) (ad : Option Addr) : Prop := 0 < n → ad = some ⟨adB ad, adO ad, none⟩
theorem Sr.spt {α : Type} {f : α → List Value} {s : Nat} {xs : List α} {ad : Option Addr} {n cap : Nat} {w : World} (h : Sr f s xs (.slice ad n cap) w) : Spt n ad := fun hn => by
  obtain ⟨rfl, _, h3⟩ := h.open
  obtain ⟨b, off, cs, E, fz, rfl, _⟩ := h3 hn
  rfl
theorem Sl.spt {α : Type} {f : α → List Value} {E s n0 : Nat} {xs : List α} {ad : Option Addr} {n cap : Nat} {m : Mem0} (h : Sl f E s n0 xs (.slice ad n cap) m) : Spt n ad := fun hn => by
  rcases h with ⟨h, _⟩ | ⟨b, c, junk, _, h, _⟩
  · simp only [Value.slice.injEq] at h; omega
  · simp only [Value.slice.injEq] at h; obtain ⟨rfl, _, _⟩ := h; rfl
theorem Sl.len {α : Type} {f : α → List Value} {E s n0 : Nat} {xs : List α} {ad : Option Addr} {n cap : Nat} {m : Mem0} (h : Sl f E s n0 xs (.slice ad n cap) m) : n = xs.length ∧ xs.length ≤ maxLen ∧ xs.length ≤ cap := by
  rcases h with ⟨h, _, rfl⟩ | ⟨b, c, junk, _, h, _, h1, h2, _⟩
  · simp only [Value.slice.injEq] at h; obtain ⟨_, rfl, rfl⟩ := h; exact ⟨rfl, Nat.zero_le _, Nat.zero_le _⟩
  · simp only [Value.slice.injEq] at h; obtain ⟨rfl, rfl, rfl⟩ := h; exact ⟨rfl, by omega, h1⟩
theorem Sl.open {α : Type} {f : α → List Value} {E s n0 : Nat} {xs : List α} {ad : Option Addr} {n cap : Nat} {m : Mem0} (h : Sl f E s n0 xs (.slice ad n cap) m) (hn : 0 < xs.length) :
    ∃ junk, n0 ≤ adB ad ∧ ad = some ⟨adB ad, 0, none⟩ ∧ n = xs.length ∧ m = [(adB ad, .cells (arr f xs junk) E (0, 0))] ∧ xs.length * s + junk.length = cap * s := by
  obtain ⟨b, c, junk, h0, h1, h2, h3, h4, h5⟩ := h.ne hn
  simp only [Value.slice.injEq] at h1; obtain ⟨rfl, rfl, rfl⟩ := h1
  exact ⟨junk, h0, rfl, rfl, h2, h5⟩
theorem getq {α : Type} {xs : List α} {i : Nat} (d : α) (h : i < xs.length) : xs[i]? = some (xs.getD i d) := by
  rw [List.getD_eq_getElem?_getD, List.getElem?_eq_getElem h]; rfl
theorem take_snoc {α : Type} {xs : List α} {i : Nat} (d : α) (h : i < xs.length) : xs.take (i + 1) = xs.take i ++ [xs.getD i d] := by
  rw [List.take_add_one, getq d h]; rfl
section
variable {P : Program} {ty : TypeId} {e : Env} {M : Mem0} {x y : Operand} {t : TypeId}
theorem ov_idxS {k : IntKind} {a : Int} {ad : Option Addr} {n c s : Nat} {E : TypeId} (hp : Spt n ad) (hU : P.underlying t = some (.slice E)) (hS : ∀ w, (sizeOf E).run P w = .ok s w) (ha : ev e x = some (.slice ad n c)) (hi : ev e y = some (.int k a)) (h : 0 ≤ a ∧ a < n) :
    OpP P (.indexAddr t x y) ty e (.pointer (some ⟨adB ad, adO ad + a.toNat * s, none⟩)) := ov_idxE (hp (by omega)) hU hS ha hi h
theorem ov_idxSN {k : IntKind} {i : Nat} {ad : Option Addr} {n c s : Nat} {E : TypeId} (hp : Spt n ad) (hU : P.underlying t = some (.slice E)) (hS : ∀ w, (sizeOf E).run P w = .ok s w) (ha : ev e x = some (.slice ad n c)) (hi : ev e y = some (.int k (i : Nat))) (h : i < n) :
    OpP P (.indexAddr t x y) ty e (.pointer (some ⟨adB ad, adO ad + i * s, none⟩)) := by
  have := ov_idxE (P := P) (ty := ty) (hp (by omega)) hU hS ha hi (by omega); simpa using this
/-! loads -/
theorem om_ld {b off : Nat} {cs : Array Value} {E : TypeId} {fz : Nat × Nat} {v : Value} {M2 : Mem0} (hT : ∀ w, (isAgg t).run P w = .ok false w) (ha : ev e x = some (.pointer (some ⟨b, off, none⟩)))
    [h : Fnd M b (.cells cs E fz) M2] (hc : cs[off]? = some v) : ∀ w, Mem w M → OpV P (.load t x) ty e w v w := fun w hm => om_load 0 hT ha (M := (b, _) :: M2) rfl hc w (hm.perm h.perm)
theorem om_ldA {b off n : Nat} {cs : Array Value} {E : TypeId} {fz : Nat × Nat} {vs : List Value} {M2 : Mem0} (hT : ∀ w, (isAgg t).run P w = .ok true w) (hS : ∀ w, (sizeOf t).run P w = .ok n w) (ha : ev e x = some (.pointer (some ⟨b, off, none⟩)))
    [h : Fnd M b (.cells cs E fz) M2] (hn : vs.length = n) (hc : Cs cs off vs) : ∀ w, Mem w M → OpV P (.load t x) ty e w (.agg vs.toArray) w := fun w hm => om_loadA 0 hT hS ha (M := (b, _) :: M2) rfl hn hc w (hm.perm h.perm)
theorem om_ldW {b n : Nat} {cs : Array Value} {E : TypeId} {fz : Nat × Nat} {M2 : Mem0} (hT : ∀ w, (isAgg t).run P w = .ok true w) (hS : ∀ w, (sizeOf t).run P w = .ok n w) (ha : ev e x = some (.pointer (some ⟨b, 0, none⟩)))
    [h : Fnd M b (.cells cs E fz) M2] (hn : cs.size = n) : ∀ w, Mem w M → OpV P (.load t x) ty e w (.agg cs) w := fun w hm => by
  have h2 := run_loadVar_agg (P := P) (off := 0) (vs := cs.toList) hT hS (h.get hm) (by simpa using hn) (fun j v hj => by rw [Nat.zero_add]; simpa using hj)
  intro ρ hρ _ _ _ _
  simp [execOp, Instr.loadAt, Instr.sureAddr, hρ x _ ha, h2, Result.andThen]
/-- a cell of an element of a block of elements -/
theorem om_ldE {α : Type} {f : α → List Value} {s i j b off : Nat} {xs : List α} {junk : List Value} {a : α} {E : TypeId} {fz : Nat × Nat} {v : Value} {M2 : Mem0} (hf : ∀ a, (f a).length = s) (hT : ∀ w, (isAgg t).run P w = .ok false w) (ha : ev e x = some (.pointer (some ⟨b, off, none⟩)))
    [h : Fnd M b (.cells (arr f xs junk) E fz) M2] (hi : xs[i]? = some a) (ho : off = i * s + j) (hj : Nat.blt j s = true) (hv : (f a)[j]? = some v) : ∀ w, Mem w M → OpV P (.load t x) ty e w v w :=
  om_ld hT ha (by rw [ho, arr_get hf hi (Nat.le_of_ble_eq_true hj), hv])
theorem cs_arr {α : Type} {f : α → List Value} {s i : Nat} {xs : List α} {junk : List Value} {a : α} (hf : ∀ a, (f a).length = s) (hi : xs[i]? = some a) : Cs (arr f xs junk) (i * s) (f a) := by
  have key : ∀ (vs : List Value) (j : Nat), (f a).drop j = vs → Cs (arr f xs junk) (i * s + j) vs := by
    intro vs
    induction vs with
    | nil => intro j _; trivial
    | cons v vs ih =>
      intro j hj
      have hlt : j < (f a).length := by
        apply Nat.lt_of_not_le; intro h; rw [List.drop_of_length_le h] at hj; cases hj
      rw [List.drop_eq_getElem_cons hlt] at hj
      injection hj with h1 h2
      exact ⟨by rw [arr_get hf hi (by rw [← hf a]; exact hlt), ← h1, List.getElem?_eq_getElem hlt], ih (j + 1) h2⟩
  have := key (f a) 0 rfl
  rwa [Nat.add_zero] at this
theorem om_ldEA {α : Type} {f : α → List Value} {s i b off : Nat} {xs : List α} {junk : List Value} {a : α} {E : TypeId} {fz : Nat × Nat} {M2 : Mem0} (hf : ∀ a, (f a).length = s) (hT : ∀ w, (isAgg t).run P w = .ok true w) (hS : ∀ w, (sizeOf t).run P w = .ok s w) (ha : ev e x = some (.pointer (some ⟨b, off, none⟩)))
    [h : Fnd M b (.cells (arr f xs junk) E fz) M2] (hi : xs[i]? = some a) (ho : off = i * s) : ∀ w, Mem w M → OpV P (.load t x) ty e w (.agg (f a).toArray) w :=
  om_ldA hT hS ha (hf a) (by rw [ho]; exact cs_arr hf hi)
/-- a cell of an element of an own slice -/
theorem om_slE {α : Type} {f : α → List Value} {F s n0 n cap i j off : Nat} {xs : List α} {ad : Option Addr} {m M2 : Mem0} {a : α} {v : Value} (hsl : Sl f F s n0 xs (.slice ad n cap) m) (hf : ∀ a, (f a).length = s) (hT : ∀ w, (isAgg t).run P w = .ok false w)
    (ha : ev e x = some (.pointer (some ⟨adB ad, off, none⟩))) (ho : off = adO ad + i * s + j) [h : Spl M m M2] (hi : xs[i]? = some a) (hj : Nat.blt j s = true) (hv : (f a)[j]? = some v) : ∀ w, Mem w M → OpV P (.load t x) ty e w v w := fun w hm => by
  subst ho
  obtain ⟨junk, h0, h1, h2, rfl, _⟩ := hsl.open (List.length_pos_of_mem (List.mem_of_getElem? hi))
  have h3 : adO ad = 0 := by rw [h1]; rfl
  rw [h3, Nat.zero_add] at ha
  exact om_ldE (M := (adB ad, .cells (arr f xs junk) F (0, 0)) :: M2) hf hT ha hi rfl hj hv w (hm.perm h.perm)
theorem om_slA {α : Type} {f : α → List Value} {F s n0 n cap i : Nat} {xs : List α} {ad : Option Addr} {m M2 : Mem0} {a : α} (hsl : Sl f F s n0 xs (.slice ad n cap) m) (hf : ∀ a, (f a).length = s) (hT : ∀ w, (isAgg t).run P w = .ok true w) (hS : ∀ w, (sizeOf t).run P w = .ok s w)
    (ha : ev e x = some (.pointer (some ⟨adB ad, adO ad + i * s, none⟩))) [h : Spl M m M2] (hi : xs[i]? = some a) : ∀ w, Mem w M → OpV P (.load t x) ty e w (.agg (f a).toArray) w := fun w hm => by
  obtain ⟨junk, h0, h1, h2, rfl, _⟩ := hsl.open (List.length_pos_of_mem (List.mem_of_getElem? hi))
  have h3 : adO ad = 0 := by rw [h1]; rfl
  rw [h3, Nat.zero_add] at ha
  exact om_ldEA (M := (adB ad, .cells (arr f xs junk) F (0, 0)) :: M2) hf hT hS ha hi rfl w (hm.perm h.perm)
variable {S : Nat → Prop} {w0 : World} {G : World → Prop}
/-- a cell of an element of a slice that is read -/
theorem om_srE {α : Type} {f : α → List Value} {s n cap i j off : Nat} {xs : List α} {ad : Option Addr} {a : α} {v : Value} (hsr : Sr f s xs (.slice ad n cap) w0) (hT : ∀ w, (isAgg t).run P w = .ok false w)
    (ha : ev e x = some (.pointer (some ⟨adB ad, off, none⟩))) (ho : off = adO ad + i * s + j) (hi : xs[i]? = some a) (hj : Nat.blt j s = true) (hv : (f a)[j]? = some v) (hS : ¬ S (adB ad)) : ∀ w, Mem w M → Chg S w0 w → G w → OpV P (.load t x) ty e w v w := by
  subst ho
  obtain ⟨rfl, _, h3⟩ := hsr.open
  obtain ⟨b, off, cs, E, fz, rfl, hb, hr⟩ := h3 (List.length_pos_of_mem (List.mem_of_getElem? hi))
  exact om_sr hT ha hb hr hi (Nat.le_of_ble_eq_true hj) (Nat.add_assoc _ _ _) hv hS
theorem om_srEA {α : Type} {f : α → List Value} {s n cap i : Nat} {xs : List α} {ad : Option Addr} {a : α} (hsr : Sr f s xs (.slice ad n cap) w0) (hf : ∀ a, (f a).length = s) (hT : ∀ w, (isAgg t).run P w = .ok true w) (hZ : ∀ w, (sizeOf t).run P w = .ok s w)
    (ha : ev e x = some (.pointer (some ⟨adB ad, adO ad + i * s, none⟩))) (hi : xs[i]? = some a) (hS : ¬ S (adB ad)) : ∀ w, Mem w M → Chg S w0 w → G w → OpV P (.load t x) ty e w (.agg (f a).toArray) w := by
  obtain ⟨rfl, _, h3⟩ := hsr.open
  obtain ⟨b, off, cs, E, fz, rfl, hb, hr⟩ := h3 (List.length_pos_of_mem (List.mem_of_getElem? hi))
  exact om_srA hT hZ ha hb hr hi rfl (hf a) hS
end

section
variable {P : Program} {ty : TypeId} {e : Env} {M : Mem0} {x y : Operand} {t : TypeId} {S : Nat → Prop} {w0 : World} {G : World → Prop}
end
/-! what is read of a slice in a world of which no more is known -/
section
variable {P : Program} {ty : TypeId} {e : Env} {x : Operand} {t : TypeId} {w : World}
end
theorem Mem.at {M M2 : Mem0} {w : World} (hm : Mem w M) (b : Nat) {o : Obj} [h : Fnd M b o M2] : w.heap[b]? = some o := h.get hm
/-! ### Stores -/
section
variable {P : Program} {r : Option Nat} {N : Nat} {Q : Exit → Act → World → Prop} {e : Env} {ds : List Nat} {M : Mem0} {S : Nat → Prop} {w0 : World} {G : World → Prop}
variable {ops : Array Oper} {l : List Oper} {ty : TypeId} {pos : String} {after : Array Edge} {d : Nat} {x y : Operand} {t : TypeId}
theorem LM.st [GT G] {b off n : Nat} {cs : Array Value} {E : TypeId} {v : Value} {M2 : Mem0} (hS : ∀ w, (sizeOf t).run P w = .ok n w) (ha : ev e x = some (.pointer (some ⟨b, off, none⟩))) (hv : ev e y = some v)
    [hM : Fnd M b (.cells cs E (0, 0)) M2] (hn : v.cells.size = n) (hl : off + n ≤ cs.size) (h1 : v.cells.toList.all one = true) (hb : b < w0.heap.size → S b)
    (h : LM P r N ops Q l e ds ((b, .cells (setR cs off v.cells.toList) E (0, 0)) :: M2) S w0 G) : LM P r N ops Q (⟨none, .store t x y, ty, pos, after, none⟩ :: l) e ds M S w0 G :=
  .mem (fun w hm => hm.perm hM.perm) (.store (M := (b, .cells cs E (0, 0)) :: M2) 0 hS ha hv rfl hn hl h1 hb h)
/-- all of a block -/
theorem LM.stW [GT G] {b n : Nat} {cs a : Array Value} {E : TypeId} {M2 : Mem0} (hS : ∀ w, (sizeOf t).run P w = .ok n w) (ha : ev e x = some (.pointer (some ⟨b, 0, none⟩))) (hv : ev e y = some (.agg a))
    [hM : Fnd M b (.cells cs E (0, 0)) M2] (hn : a.size = n) (hl : cs.size = n) (h1 : a.toList.all one = true) (hb : b < w0.heap.size → S b)
    (h : LM P r N ops Q l e ds ((b, .cells a E (0, 0)) :: M2) S w0 G) : LM P r N ops Q (⟨none, .store t x y, ty, pos, after, none⟩ :: l) e ds M S w0 G :=
  LM.st hS ha hv hn (by omega) h1 hb (by
    have := setR_all a.toList [] cs.toList (by simp [hn, hl])
    simp only [List.nil_append, Array.toArray_toList, List.length_nil] at this
    show LM P r N ops Q l e ds ((b, .cells (setR cs 0 a.toList) E (0, 0)) :: M2) S w0 G
    rw [this]; exact h)
/-! ### append, calls -/
theorem LM.app [GT G] {α : Type} {f : α → List Value} {E s n0 : Nat} {inf : TypeInfo} {z : Value} {xs : List α} {v : Value} {m M1 M2 : Mem0} {bx c : Nat} {a : α} {cs : Array Value} {F : TypeId} {fz : Nat × Nat}
    (hU : P.underlying t = some (.slice E)) (hI : ∀ w, (typeInfo E).run P w = .ok inf w) (hz : inf.zero = some z) (hs : inf.size = s) (hs0 : Nat.blt 0 s = true) (hzs : z.cells.size = s) (hd : Nat.blt d N = true)
    (hx : ev e x = some v) (hy : ev e y = some (.slice (some ⟨bx, 0, none⟩) 1 c)) (hsl : Sl f E s n0 xs v m) [h1 : Fnd M bx (.cells cs F fz) M1] [h2 : Spl M1 m M2] (ho : cs = (f a).toArray) (hf : ∀ a, (f a).length = s) (hone : ∀ a, ∀ u ∈ f a, one u = true)
    (hn0 : n0 ≤ w0.heap.size) (hSm : ∀ p ∈ m, p.1 < w0.heap.size → S p.1) (hlen : xs.length + 1 ≤ maxLen) (hbytes : (xs.length + 1) * inf.bytes ≤ 140737488355328)
    (h : ∀ ad n cap m', n = xs.length + 1 → Sl f E s n0 (xs ++ [a]) (.slice ad n cap) m' → (∀ p ∈ m', w0.heap.size ≤ p.1 ∨ ∃ q ∈ m, q.1 = p.1) → LM P r N ops Q l ((d, .slice ad n cap) :: e) ds (m' ++ M2) S w0 G) :
    LM P r N ops Q (⟨some d, .call { callee := .builtin .append, args := #[x, y], argTypes := #[t, t] }, ty, pos, after, none⟩ :: l) e ds M S w0 G :=
  .mem (M' := (bx, .cells cs F fz) :: (m ++ M2)) (fun w hm => (hm.perm h1.perm).perm (h2.perm.cons _)) (.appendU hU hI hz hs hs0 hzs hd hx hy hn0 hSm hsl ⟨F, fz, by rw [ho]⟩ hf hone hlen hbytes (fun v' m' hsl' hin => by
    obtain ⟨ad, cap, rfl⟩ := hsl'.form
    exact h ad _ cap m' (by simp) hsl' hin))
variable {op : Op}
end

section
variable {P : Program} {r : Option Nat} {N : Nat} {Q : Exit → Act → World → Prop} {e : Env} {ds : List Nat} {M : Mem0} {S : Nat → Prop} {w0 : World} {G : World → Prop}
variable {ops : Array Oper} {l : List (Nat × Nat)} {op : Op} {ty : TypeId} {pos : String} {after : Array Edge} {d i : Nat}
end
/-! ### Arrays whose elements are of one cell; calls that change one block -/
section
variable {P : Program} {ty : TypeId} {e : Env} {M : Mem0} {x y : Operand} {t : TypeId}
end
section
variable {P : Program} {r : Option Nat} {N : Nat} {Q : Exit → Act → World → Prop} {e : Env} {ds : List Nat} {M : Mem0} {S : Nat → Prop} {w0 : World} {G : World → Prop}
variable {ops : Array Oper} {l : List Oper} {op : Op} {ty : TypeId} {pos : String} {after : Array Edge} {d : Nat} {x y : Operand} {t : TypeId}
/-- what a call yields that changes one block -/
def WrP (b : Nat) (v : Value) (o' : Obj) (w : World) : Value → World → Prop := fun u w' => u = v ∧ Chg (fun x => x = b) w w' ∧ w'.heap[b]? = some o'
theorem LM.cW [GT G] {f : FuncId} {args : Array Value} {v : Value} {b : Nat} {o o' : Obj} {M2 : Mem0} (hc : ∀ w, OpC P op ty e w f args) (h : ∀ w, Mem w M → Chg S w0 w → G w → Ret P f args w (WrP b v o' w)) [hM : Fnd M b o M2] (hw : wlk o = false) (hb : b < w0.heap.size → S b)
    (hk : LM P r N ops Q l ((d, v) :: e) ds ((b, o') :: M2) S w0 G) (hnd : nd op = true := by rfl) (hd : Nat.blt d N = true := by rfl) :
    LM P r N ops Q (⟨some d, op, ty, pos, after, none⟩ :: l) e ds M S w0 G :=
  .mem (fun w hm => hm.perm hM.perm) (.callW (M := (b, o) :: M2) 0 rfl hw hb hc (fun w hm hc hg => h w (hm.perm hM.perm.symm) hc hg) hk hnd hd)
end
/-! ### Loops of which a part stands -/
section
variable {P : Program} {r : Option Nat} {N : Nat} {Q : Exit → Act → World → Prop} {e : Env} {ds : List Nat} {M : Mem0} {S : Nat → Prop} {w0 : World} {G : World → Prop}
theorem wpM.loopK0 {α : Type} {c : Code} (F : α → Env) (K : Env) (MM : α → Mem0) (I : α → Prop) (μ : α → Nat) (x0 : α) (hs : Sub e (F x0 ++ K)) (hM : SubM M (MM x0)) (h0 : I x0)
    (round : ∀ x, I x → wpM P r N c (Exit.then (agQ N ds S w0 (fun x => F x ++ K) MM (fun _ => G) I μ x) Q) (F x ++ K) ds (MM x) S w0 G) :
    wpM P r N (.loop c) Q e ds M S w0 G := .loopG (fun x => F x ++ K) MM (fun _ => G) I μ x0 hs hM.mem (fun _ h => h) h0 round
theorem wpM.joinK {α : Type} {c : Code} (F : α → Env) (K : Env) (MM : α → Mem0) (I : α → Prop) (hK : Sub e K) (h1 : wpM P r N c (joQ N ds S w0 (fun x => F x ++ K) MM (fun _ => G) I Q) e ds M S w0 G) (h2 : ∀ x, I x → QM N Q .normal (F x ++ K) ds (MM x) S w0 G) : wpM P r N c Q e ds M S w0 G := .join (fun x => F x ++ K) MM I h1 h2
theorem QM.meetK {α : Type} {F : α → Env} {K : Env} {MM : α → Mem0} {I : α → Prop} (y : α) (hs : Sub e (F y ++ K)) (hM : SubM M (MM y)) (hI : I y) : QM N (joQ N ds S w0 (fun x => F x ++ K) MM (fun _ => G) I Q) .normal e ds M S w0 G := .meet y hs hM.mem hI
theorem QM.againK {α : Type} {F : α → Env} {K : Env} {MM : α → Mem0} {GG : α → World → Prop} {I : α → Prop} {μ : α → Nat} {x : α} (y : α) (hs : Sub e (F y ++ K)) (hM : SubM M (MM y)) (hG : ∀ w, G w → GG y w) (hI : I y) (hm : μ y < μ x) :
    QM N (Exit.then (agQ N ds S w0 (fun x => F x ++ K) MM GG I μ x) Q) .normal e ds M S w0 G := .againG y hs hM.mem hG hI hm
end

/-! ### Maps; a part is seen otherwise -/
section
variable {P : Program} {r : Option Nat} {N : Nat} {Q : Exit → Act → World → Prop} {e : Env} {ds : List Nat} {M : Mem0} {S : Nat → Prop} {w0 : World} {G : World → Prop}
variable {ops : Array Oper} {l : List Oper} {ty : TypeId} {pos : String} {after : Array Edge} {d : Nat} {t : TypeId} {x y z : Operand}
end
/-! ### Stores among what may be carried out early or late: the slice that is written is one of some -/
def AltS {α : Type} (f : α → List Value) (E : TypeId) (b : Nat) (junk : List Value) (Mc : Mem0) (os : List (List α)) (w : World) : Prop := ∃ o ∈ os, Mem w ((b, .cells (arr f o junk) E (0, 0)) :: Mc)
instance {α : Type} (f : α → List Value) (E : TypeId) (b : Nat) (junk : List Value) (Mc : Mem0) (os : List (List α)) {G : World → Prop} [GS G] : GS (fun w => G w ∧ AltS f E b junk Mc os w) where
  ext := fun w w' ⟨h, o, ho, hm⟩ k => ⟨GS.ext w w' h k, o, ho, hm.ext k⟩
section
variable {P : Program} {r : Option Nat} {N : Nat} {Q : Exit → Act → World → Prop} {e : Env} {ds : List Nat} {M : Mem0} {S : Nat → Prop} {w0 : World} {G : World → Prop}
variable {ops : Array Oper} {l : List (Nat × Nat)} {ty : TypeId} {pos : String} {after : Array Edge} {i : Nat} {t : TypeId} {x y : Operand}
end
/-! ### New memory among what may be carried out early or late -/
section
variable {P : Program} {r : Option Nat} {N : Nat} {Q : Exit → Act → World → Prop} {e : Env} {ds : List Nat} {M : Mem0} {S : Nat → Prop} {w0 : World} {G : World → Prop}
variable {ops : Array Oper} {l : List (Nat × Nat)} {op : Op} {ty : TypeId} {pos : String} {after : Array Edge} {d i : Nat}
theorem LD.opG {gd : Option (Nat × Bool)} (hi : ops[i]? = some ⟨some d, op, ty, pos, after, gd⟩) (hgd : Wtd ops e gd true) (hd : Nat.blt d N = true) (hnd : nd op = true)
    (h : ∀ w, Mem w M → Chg S w0 w → G w → ∃ v w' M', OpV P op ty e w v w' ∧ (∀ w, Mem w M' → Mem w M) ∧ (Mem w' M' ∧ Chg S w0 w' ∧ G w') ∧ LD P r N ops Q l ((d, v) :: e) ds M' S w0 G) : LD P r N ops Q ((i, 2) :: l) e ds M S w0 G := fun a hf hdm => by
  simp only [LDA, hi]
  intro w hC
  obtain ⟨v, w', M', h1, h2, h3, h4⟩ := h w hC.1 hC.2.1 hC.2.2
  unfold wpOpIn
  rw [hi]
  simp only
  rw [if_pos (hgd.wanted (o := ⟨some d, op, ty, pos, after, gd⟩) hf)]
  exact wp_val hnd (h1 a.eval (fun x u hx => hf.eval hx) _ _ _ _) ⟨Cls M' S w0 G, fun w h => ⟨h2 w h.1, h.2⟩, h3, h4 _ (hf.put hd v) hdm⟩
/-- What isn't carried out, where a later guard asks for it; a guard that was not carried out itself. -/
theorem LD.dropU {g : Option (Nat × Bool)} {k : Nat} (hk : Nat.blt k 2 = true) (hi : ops[i]? = some ⟨some d, op, ty, pos, after, g⟩) (hg : Wtd ops e g false) (h : LD P r N ops Q l ((d, undef) :: e) ds M S w0 G) (hd : Nat.blt d N = true := by rfl) :
    LD P r N ops Q ((i, k) :: l) e ds M S w0 G := fun a hf hdm => by
  have hY : ∀ D, YA P ops D ⟨some d, op, ty, pos, after, g⟩ undef a := fun D => .inr ⟨hg.wanted (o := ⟨some d, op, ty, pos, after, g⟩) hf, rfl⟩
  match k, hk with
  | 0, _ => simp only [LDA, hi]; exact ⟨undef, hY _, h _ (hf.put hd undef) hdm⟩
  | 1, _ => simp only [LDA, hi]; exact ⟨undef, hY _, h _ (hf.put hd undef) hdm⟩
theorem LD.dropX {j t : Nat} {b : Bool} {k : Nat} (hk : Nat.blt k 2 = true) (hi : ops[i]? = some ⟨some d, op, ty, pos, after, some (j, b)⟩) (hj : (ops[j]?).bind (·.dst) = some t) (ht : look e t = some undef) (h : LD P r N ops Q l ((d, undef) :: e) ds M S w0 G) (hd : Nat.blt d N = true := by rfl) :
    LD P r N ops Q ((i, k) :: l) e ds M S w0 G := fun a hf hdm => by
  have hw : Region.wanted ⟨some d, op, ty, pos, after, some (j, b)⟩ (yielded ops a.tmps) = false := by
    simp only [Region.wanted, yielded, hj, Option.bind_some, hf.2 t _ ht, undef]; rfl
  have hY : ∀ D, YA P ops D ⟨some d, op, ty, pos, after, some (j, b)⟩ undef a := fun D => .inr ⟨hw, rfl⟩
  match k, hk with
  | 0, _ => simp only [LDA, hi]; exact ⟨undef, hY _, h _ (hf.put hd undef) hdm⟩
  | 1, _ => simp only [LDA, hi]; exact ⟨undef, hY _, h _ (hf.put hd undef) hdm⟩
theorem LD.alloc [GS G] {E : TypeId} {z : Value} {gd : Option (Nat × Bool)} (hi : ops[i]? = some ⟨some d, .alloc E, ty, pos, after, gd⟩) (hgd : Wtd ops e gd true) (hZ : ∀ w, (zeroValue E).run P w = .ok z w) (hd : Nat.blt d N = true)
    (h : ∀ b, w0.heap.size ≤ b → LD P r N ops Q l ((d, .pointer (some ⟨b, 0, none⟩)) :: e) ds ((b, .cells z.cells E (0, 0)) :: M) S w0 G) : LD P r N ops Q ((i, 2) :: l) e ds M S w0 G :=
  .opG hi hgd hd rfl (fun w hm hc hg => ⟨_, w.alloc (.cells z.cells E), _, fun ρ hρ _ _ _ _ => by simp [execOp, Instr.alloc, hZ, newVar, newRow, Result.andThen], fun w hm => hm.tail, ⟨hm.alloc _, hc.step (chg_alloc w _) (fun _ _ q => q.elim), GS.ext w _ hg (chg_alloc w _)⟩, h w.heap.size hc.size⟩)
theorem LD.box [GS G] {E : TypeId} {x : Operand} {v : Value} {gd : Option (Nat × Bool)} (hi : ops[i]? = some ⟨some d, .box E x, ty, pos, after, gd⟩) (hgd : Wtd ops e gd true) (hv : ev e x = some v) (hd : Nat.blt d N = true)
    (h : ∀ b, w0.heap.size ≤ b → LD P r N ops Q l ((d, .pointer (some ⟨b, 0, none⟩)) :: e) ds ((b, .cells v.cells E (0, 0)) :: M) S w0 G) : LD P r N ops Q ((i, 2) :: l) e ds M S w0 G :=
  .opG hi hgd hd rfl (fun w hm hc hg => ⟨_, w.alloc (.cells v.cells E), _, fun ρ hρ _ _ _ _ => by simp [execOp, Instr.box, hρ x _ hv, newVar, newRow, Result.andThen], fun w hm => hm.tail, ⟨hm.alloc _, hc.step (chg_alloc w _) (fun _ _ q => q.elim), GS.ext w _ hg (chg_alloc w _)⟩, h w.heap.size hc.size⟩)
end
/-! ### New blocks that are filled while something is known that stands only when blocks are laid -/
def Frs (G : World → Prop) (n : Nat) (w : World) : Prop := ∃ w1, G w1 ∧ Ext w1 w ∧ w1.heap.size ≤ n
instance {G : World → Prop} {n : Nat} [GS G] : GS (Frs G n) where
  ext := fun w w' ⟨w1, h1, h2, h3⟩ k => ⟨w1, h1, h2.trans k, h3⟩
section
variable {P : Program} {r : Option Nat} {N : Nat} {Q : Exit → Act → World → Prop} {e : Env} {ds : List Nat} {M : Mem0} {S : Nat → Prop} {w0 : World} {G : World → Prop}
variable {ops : Array Oper} {l : List Oper} {ty : TypeId} {pos : String} {after : Array Edge} {d : Nat} {t : TypeId} {x y : Operand}
end
/-! ### A function is left: marks and cells are found -/
class SplD (M : Mem0) (ds : List Nat) (M1 : outParam Mem0) : Prop where
  perm : M.Perm (dM ds ++ M1)
instance {M : Mem0} : SplD M [] M := ⟨.refl _⟩
instance {M M2 M1 : Mem0} {D : Nat} {ds : List Nat} [h : Fnd M D (.deferred (some [])) M2] [k : SplD M2 ds M1] : SplD M (D :: ds) M1 := ⟨h.perm.trans (k.perm.cons _)⟩
section
variable {P : Program} {fn : Func} {N : Nat} {e : Env} {ds : List Nat} {M M1 : Mem0} {S : Nat → Prop} {w0 : World} {G : World → Prop} {R : Value → World → Prop} {vs : List Value}
end
/-! ### Structs are compared -/
section
variable {P : Program}
variable {ty : TypeId} {e : Env} {x y : Operand} {t u : TypeId}
end
end Go.Eng
