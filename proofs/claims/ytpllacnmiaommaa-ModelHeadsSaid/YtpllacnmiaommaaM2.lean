/- The calculus, ninth part: blocks and slices are found in the memory's list by instances; slices by their addresses; structs are compared; loops whose list has a part that stands. No condition. -/
import Derived.Test.YtpllacnmiaommaaM1
import Derived.Laws.StructEq
import Derived.Lib.Strings
import Derived.Laws.IdiomStrings
import Derived.Lib.OthersKept
import Derived.Lib.FrozenHead
import Derived.Lib.UnsafeStr
import Derived.Lib.AppendStr
import Derived.Lib.AppendIntMem
import Derived.Lib.AppendZeros
import Derived.Lib.SliceRun
import Derived.Test.YtpllacnmiaommaaRows
import Derived.Lib.ItoaNum
import Derived.Lib.SlTrimSet
import Derived.Lib.Bytealg
set_option linter.unusedVariables false
set_option linter.unusedSimpArgs false
set_option maxRecDepth 100000
namespace Go.Eng
open Go Go.RowKit

/-! ### Finding -/
class Fnd (M : Mem0) (b : Nat) (o : outParam Obj) (M2 : outParam Mem0) : Prop where
  perm : M.Perm ((b, o) :: M2)
instance (priority := high) fnd_here {M : Mem0} {b : Nat} {o : Obj} : Fnd ((b, o) :: M) b o M := ⟨.refl _⟩
instance fnd_cons {M M2 : Mem0} {b : Nat} {o : Obj} {p : Nat × Obj} [h : Fnd M b o M2] : Fnd (p :: M) b o (p :: M2) := ⟨(h.perm.cons p).trans (.swap _ _ _)⟩
instance fnd_app {M M2 m : Mem0} {b : Nat} {o : Obj} [h : Fnd M b o M2] : Fnd (m ++ M) b o (m ++ M2) := ⟨(h.perm.append_left m).trans List.perm_middle⟩
class Spl (M m : Mem0) (M2 : outParam Mem0) : Prop where
  perm : M.Perm (m ++ M2)
instance (priority := high) spl_here {m M : Mem0} : Spl (m ++ M) m M := ⟨.refl _⟩
instance (priority := high) spl_all {m : Mem0} : Spl m m [] := ⟨by simp⟩
instance spl_cons {M M2 m : Mem0} {p : Nat × Obj} [h : Spl M m M2] : Spl (p :: M) m (p :: M2) := ⟨(h.perm.cons p).trans List.perm_middle.symm⟩
instance spl_app {M M2 m q : Mem0} [h : Spl M m M2] : Spl (q ++ M) m (q ++ M2) := ⟨(h.perm.append_left q).trans (by rw [← List.append_assoc, ← List.append_assoc]; exact List.perm_append_comm.append_right _)⟩
instance (priority := high + 1) spl_nil {M : Mem0} : Spl M [] M := ⟨.refl _⟩
instance (priority := low) spl_more {M M1 M2 m m' : Mem0} [h : Spl M m M1] [k : Spl M1 m' M2] : Spl M (m ++ m') M2 := ⟨h.perm.trans (by rw [List.append_assoc]; exact k.perm.append_left m)⟩
instance (priority := low) spl_blk {M M1 M2 m : Mem0} {b : Nat} {o : Obj} [h : Fnd M b o M1] [k : Spl M1 m M2] : Spl M ((b, o) :: m) M2 := ⟨h.perm.trans (k.perm.cons _)⟩
instance (priority := low) fnd_left {M m m2 : Mem0} {b : Nat} {o : Obj} [h : Fnd m b o m2] : Fnd (m ++ M) b o (m2 ++ M) := ⟨h.perm.append_right M⟩
instance (priority := low) spl_left {M q q2 m : Mem0} [h : Spl q m q2] : Spl (q ++ M) m (q2 ++ M) := ⟨by rw [← List.append_assoc]; exact h.perm.append_right M⟩
def SubM (M M' : Mem0) : Prop := ∃ R, M.Perm (M' ++ R)
theorem SubM.nil (M : Mem0) : SubM M [] := ⟨M, .refl _⟩
theorem SubM.all (M : Mem0) : SubM M M := ⟨[], by simp⟩
theorem SubM.cons {M M2 M' : Mem0} {b : Nat} {o o' : Obj} [h : Fnd M b o M2] (e : o = o') (k : SubM M2 M') : SubM M ((b, o') :: M') := by
  obtain ⟨R, hR⟩ := k; subst e; exact ⟨R, h.perm.trans (hR.cons _)⟩
theorem SubM.app {M m M2 M' : Mem0} [h : Spl M m M2] (k : SubM M2 M') : SubM M (m ++ M') := by
  obtain ⟨R, hR⟩ := k; exact ⟨R, h.perm.trans (by rw [List.append_assoc]; exact hR.append_left m)⟩
theorem SubM.mem {M M' : Mem0} (h : SubM M M') (w : World) (hm : Mem w M) : Mem w M' := by
  obtain ⟨R, hR⟩ := h
  exact (hm.perm hR).sub (List.sublist_append_left _ _)
theorem Fnd.get {M M2 : Mem0} {b : Nat} {o : Obj} (h : Fnd M b o M2) {w : World} (hm : Mem w M) : w.heap[b]? = some o := (hm.perm h.perm).get (i := 0) rfl
theorem Spl.mem {M m M2 : Mem0} (h : Spl M m M2) {w : World} (hm : Mem w M) : Mem w m := (hm.perm h.perm).sub (List.sublist_append_left _ _)
theorem Mem.pick {M M2 : Mem0} {w : World} (hm : Mem w M) (m : Mem0) [h : Spl M m M2] : Mem w m := h.mem hm
theorem Spl.all {M m M2 : Mem0} (h : Spl M m M2) (w : World) (hm : Mem w M) : Mem w (m ++ M2) := hm.perm h.perm
theorem Sl.srM {α : Type} {f : α → List Value} {E s n0 : Nat} {xs : List α} {v : Value} {m M M2 : Mem0} {w : World} (h : Sl f E s n0 xs v m) (hf : ∀ a, (f a).length = s) (hm : Mem w M) [k : Spl M m M2] : Sr f s xs v w :=
  h.sr hf (fun p hp => (k.mem hm).2 p hp)

/-! ### Where a slice lies -/
def adB (ad : Option Addr) : Nat := match ad with | some a => a.block | none => 0
def adO (ad : Option Addr) : Nat := match ad with | some a => a.off | none => 0
def Spt (n : Nat) (ad : Option Addr) : Prop := 0 < n → ad = some ⟨adB ad, adO ad, none⟩
theorem Sr.spt {α : Type} {f : α → List Value} {s : Nat} {xs : List α} {ad : Option Addr} {n cap : Nat} {w : World} (h : Sr f s xs (.slice ad n cap) w) : Spt n ad := fun hn => by
  obtain ⟨rfl, _, h3⟩ := h.open
  obtain ⟨b, off, cs, E, fz, rfl, _⟩ := h3 hn
  rfl
theorem Sl.spt {α : Type} {f : α → List Value} {E s n0 : Nat} {xs : List α} {ad : Option Addr} {n cap : Nat} {m : Mem0} (h : Sl f E s n0 xs (.slice ad n cap) m) : Spt n ad := fun hn => by
  rcases h with ⟨h, _⟩ | ⟨b, c, junk, _, h, _⟩
  · simp only [Value.slice.injEq] at h; omega
  · simp only [Value.slice.injEq] at h; obtain ⟨rfl, _, _⟩ := h; rfl
theorem Sl.len {α : Type} {f : α → List Value} {E s n0 : Nat} {xs : List α} {ad : Option Addr} {n cap : Nat} {m : Mem0} (h : Sl f E s n0 xs (.slice ad n cap) m) : n = xs.length ∧ xs.length ≤ maxLen ∧ xs.length ≤ cap := by
  rcases h with ⟨h, _, rfl⟩ | ⟨b, c, junk, _, h, _, h1, h2, _⟩
  · simp only [Value.slice.injEq] at h; obtain ⟨_, rfl, rfl⟩ := h; exact ⟨rfl, Nat.zero_le _, Nat.zero_le _⟩
  · simp only [Value.slice.injEq] at h; obtain ⟨rfl, rfl, rfl⟩ := h; exact ⟨rfl, by omega, h1⟩
theorem Sl.open {α : Type} {f : α → List Value} {E s n0 : Nat} {xs : List α} {ad : Option Addr} {n cap : Nat} {m : Mem0} (h : Sl f E s n0 xs (.slice ad n cap) m) (hn : 0 < xs.length) :
    ∃ junk, n0 ≤ adB ad ∧ ad = some ⟨adB ad, 0, none⟩ ∧ n = xs.length ∧ m = [(adB ad, .cells (arr f xs junk) E (0, 0))] ∧ xs.length * s + junk.length = cap * s := by
  obtain ⟨b, c, junk, h0, h1, h2, h3, h4, h5⟩ := h.ne hn
  simp only [Value.slice.injEq] at h1; obtain ⟨rfl, rfl, rfl⟩ := h1
  exact ⟨junk, h0, rfl, rfl, h2, h5⟩
theorem getq {α : Type} {xs : List α} {i : Nat} (d : α) (h : i < xs.length) : xs[i]? = some (xs.getD i d) := by
  rw [List.getD_eq_getElem?_getD, List.getElem?_eq_getElem h]; rfl
theorem take_snoc {α : Type} {xs : List α} {i : Nat} (d : α) (h : i < xs.length) : xs.take (i + 1) = xs.take i ++ [xs.getD i d] := by
  rw [List.take_add_one, getq d h]; rfl
section
variable {P : Program} {ty : TypeId} {e : Env} {M : Mem0} {x y : Operand} {t : TypeId}
theorem ov_idxS {k : IntKind} {a : Int} {ad : Option Addr} {n c s : Nat} {E : TypeId} (hp : Spt n ad) (hU : P.underlying t = some (.slice E)) (hS : ∀ w, (sizeOf E).run P w = .ok s w) (ha : ev e x = some (.slice ad n c)) (hi : ev e y = some (.int k a)) (h : 0 ≤ a ∧ a < n) :
    OpP P (.indexAddr t x y) ty e (.pointer (some ⟨adB ad, adO ad + a.toNat * s, none⟩)) := ov_idxE (hp (by omega)) hU hS ha hi h
theorem ov_idxSN {k : IntKind} {i : Nat} {ad : Option Addr} {n c s : Nat} {E : TypeId} (hp : Spt n ad) (hU : P.underlying t = some (.slice E)) (hS : ∀ w, (sizeOf E).run P w = .ok s w) (ha : ev e x = some (.slice ad n c)) (hi : ev e y = some (.int k (i : Nat))) (h : i < n) :
    OpP P (.indexAddr t x y) ty e (.pointer (some ⟨adB ad, adO ad + i * s, none⟩)) := by
  have := ov_idxE (P := P) (ty := ty) (hp (by omega)) hU hS ha hi (by omega); simpa using this
/-! loads -/
theorem om_ld {b off : Nat} {cs : Array Value} {E : TypeId} {fz : Nat × Nat} {v : Value} {M2 : Mem0} (hT : ∀ w, (isAgg t).run P w = .ok false w) (ha : ev e x = some (.pointer (some ⟨b, off, none⟩)))
    [h : Fnd M b (.cells cs E fz) M2] (hc : cs[off]? = some v) : ∀ w, Mem w M → OpV P (.load t x) ty e w v w := fun w hm => om_load 0 hT ha (M := (b, _) :: M2) rfl hc w (hm.perm h.perm)
theorem om_ldA {b off n : Nat} {cs : Array Value} {E : TypeId} {fz : Nat × Nat} {vs : List Value} {M2 : Mem0} (hT : ∀ w, (isAgg t).run P w = .ok true w) (hS : ∀ w, (sizeOf t).run P w = .ok n w) (ha : ev e x = some (.pointer (some ⟨b, off, none⟩)))
    [h : Fnd M b (.cells cs E fz) M2] (hn : vs.length = n) (hc : Cs cs off vs) : ∀ w, Mem w M → OpV P (.load t x) ty e w (.agg vs.toArray) w := fun w hm => om_loadA 0 hT hS ha (M := (b, _) :: M2) rfl hn hc w (hm.perm h.perm)
theorem om_ldW {b n : Nat} {cs : Array Value} {E : TypeId} {fz : Nat × Nat} {M2 : Mem0} (hT : ∀ w, (isAgg t).run P w = .ok true w) (hS : ∀ w, (sizeOf t).run P w = .ok n w) (ha : ev e x = some (.pointer (some ⟨b, 0, none⟩)))
    [h : Fnd M b (.cells cs E fz) M2] (hn : cs.size = n) : ∀ w, Mem w M → OpV P (.load t x) ty e w (.agg cs) w := fun w hm => by
  have h2 := run_loadVar_agg (P := P) (off := 0) (vs := cs.toList) hT hS (h.get hm) (by simpa using hn) (fun j v hj => by rw [Nat.zero_add]; simpa using hj)
  intro ρ hρ _ _ _ _
  simp [execOp, Instr.loadAt, Instr.sureAddr, hρ x _ ha, h2, Result.andThen]
/-- a cell of an element of a block of elements -/
theorem om_ldE {α : Type} {f : α → List Value} {s i j b off : Nat} {xs : List α} {junk : List Value} {a : α} {E : TypeId} {fz : Nat × Nat} {v : Value} {M2 : Mem0} (hf : ∀ a, (f a).length = s) (hT : ∀ w, (isAgg t).run P w = .ok false w) (ha : ev e x = some (.pointer (some ⟨b, off, none⟩)))
    [h : Fnd M b (.cells (arr f xs junk) E fz) M2] (hi : xs[i]? = some a) (ho : off = i * s + j) (hj : Nat.blt j s = true) (hv : (f a)[j]? = some v) : ∀ w, Mem w M → OpV P (.load t x) ty e w v w :=
  om_ld hT ha (by rw [ho, arr_get hf hi (Nat.le_of_ble_eq_true hj), hv])
theorem cs_arr {α : Type} {f : α → List Value} {s i : Nat} {xs : List α} {junk : List Value} {a : α} (hf : ∀ a, (f a).length = s) (hi : xs[i]? = some a) : Cs (arr f xs junk) (i * s) (f a) := by
  have key : ∀ (vs : List Value) (j : Nat), (f a).drop j = vs → Cs (arr f xs junk) (i * s + j) vs := by
    intro vs
    induction vs with
    | nil => intro j _; trivial
    | cons v vs ih =>
      intro j hj
      have hlt : j < (f a).length := by
        apply Nat.lt_of_not_le; intro h; rw [List.drop_of_length_le h] at hj; cases hj
      rw [List.drop_eq_getElem_cons hlt] at hj
      injection hj with h1 h2
      exact ⟨by rw [arr_get hf hi (by rw [← hf a]; exact hlt), ← h1, List.getElem?_eq_getElem hlt], ih (j + 1) h2⟩
  have := key (f a) 0 rfl
  rwa [Nat.add_zero] at this
theorem om_ldEA {α : Type} {f : α → List Value} {s i b off : Nat} {xs : List α} {junk : List Value} {a : α} {E : TypeId} {fz : Nat × Nat} {M2 : Mem0} (hf : ∀ a, (f a).length = s) (hT : ∀ w, (isAgg t).run P w = .ok true w) (hS : ∀ w, (sizeOf t).run P w = .ok s w) (ha : ev e x = some (.pointer (some ⟨b, off, none⟩)))
    [h : Fnd M b (.cells (arr f xs junk) E fz) M2] (hi : xs[i]? = some a) (ho : off = i * s) : ∀ w, Mem w M → OpV P (.load t x) ty e w (.agg (f a).toArray) w :=
  om_ldA hT hS ha (hf a) (by rw [ho]; exact cs_arr hf hi)
/-- a cell of an element of an own slice -/
theorem om_slE {α : Type} {f : α → List Value} {F s n0 n cap i j off : Nat} {xs : List α} {ad : Option Addr} {m M2 : Mem0} {a : α} {v : Value} (hsl : Sl f F s n0 xs (.slice ad n cap) m) (hf : ∀ a, (f a).length = s) (hT : ∀ w, (isAgg t).run P w = .ok false w)
    (ha : ev e x = some (.pointer (some ⟨adB ad, off, none⟩))) (ho : off = adO ad + i * s + j) [h : Spl M m M2] (hi : xs[i]? = some a) (hj : Nat.blt j s = true) (hv : (f a)[j]? = some v) : ∀ w, Mem w M → OpV P (.load t x) ty e w v w := fun w hm => by
  subst ho
  obtain ⟨junk, h0, h1, h2, rfl, _⟩ := hsl.open (List.length_pos_of_mem (List.mem_of_getElem? hi))
  have h3 : adO ad = 0 := by rw [h1]; rfl
  rw [h3, Nat.zero_add] at ha
  exact om_ldE (M := (adB ad, .cells (arr f xs junk) F (0, 0)) :: M2) hf hT ha hi rfl hj hv w (hm.perm h.perm)
theorem om_slA {α : Type} {f : α → List Value} {F s n0 n cap i : Nat} {xs : List α} {ad : Option Addr} {m M2 : Mem0} {a : α} (hsl : Sl f F s n0 xs (.slice ad n cap) m) (hf : ∀ a, (f a).length = s) (hT : ∀ w, (isAgg t).run P w = .ok true w) (hS : ∀ w, (sizeOf t).run P w = .ok s w)
    (ha : ev e x = some (.pointer (some ⟨adB ad, adO ad + i * s, none⟩))) [h : Spl M m M2] (hi : xs[i]? = some a) : ∀ w, Mem w M → OpV P (.load t x) ty e w (.agg (f a).toArray) w := fun w hm => by
  obtain ⟨junk, h0, h1, h2, rfl, _⟩ := hsl.open (List.length_pos_of_mem (List.mem_of_getElem? hi))
  have h3 : adO ad = 0 := by rw [h1]; rfl
  rw [h3, Nat.zero_add] at ha
  exact om_ldEA (M := (adB ad, .cells (arr f xs junk) F (0, 0)) :: M2) hf hT hS ha hi rfl w (hm.perm h.perm)
variable {S : Nat → Prop} {w0 : World} {G : World → Prop}
/-- a cell of an element of a slice that is read -/
theorem om_srE {α : Type} {f : α → List Value} {s n cap i j off : Nat} {xs : List α} {ad : Option Addr} {a : α} {v : Value} (hsr : Sr f s xs (.slice ad n cap) w0) (hT : ∀ w, (isAgg t).run P w = .ok false w)
    (ha : ev e x = some (.pointer (some ⟨adB ad, off, none⟩))) (ho : off = adO ad + i * s + j) (hi : xs[i]? = some a) (hj : Nat.blt j s = true) (hv : (f a)[j]? = some v) (hS : ¬ S (adB ad)) : ∀ w, Mem w M → Chg S w0 w → G w → OpV P (.load t x) ty e w v w := by
  subst ho
  obtain ⟨rfl, _, h3⟩ := hsr.open
  obtain ⟨b, off, cs, E, fz, rfl, hb, hr⟩ := h3 (List.length_pos_of_mem (List.mem_of_getElem? hi))
  exact om_sr hT ha hb hr hi (Nat.le_of_ble_eq_true hj) (Nat.add_assoc _ _ _) hv hS
theorem om_srEA {α : Type} {f : α → List Value} {s n cap i : Nat} {xs : List α} {ad : Option Addr} {a : α} (hsr : Sr f s xs (.slice ad n cap) w0) (hf : ∀ a, (f a).length = s) (hT : ∀ w, (isAgg t).run P w = .ok true w) (hZ : ∀ w, (sizeOf t).run P w = .ok s w)
    (ha : ev e x = some (.pointer (some ⟨adB ad, adO ad + i * s, none⟩))) (hi : xs[i]? = some a) (hS : ¬ S (adB ad)) : ∀ w, Mem w M → Chg S w0 w → G w → OpV P (.load t x) ty e w (.agg (f a).toArray) w := by
  obtain ⟨rfl, _, h3⟩ := hsr.open
  obtain ⟨b, off, cs, E, fz, rfl, hb, hr⟩ := h3 (List.length_pos_of_mem (List.mem_of_getElem? hi))
  exact om_srA hT hZ ha hb hr hi rfl (hf a) hS
end

section
variable {P : Program} {ty : TypeId} {e : Env} {M : Mem0} {x y : Operand} {t : TypeId} {S : Nat → Prop} {w0 : World} {G : World → Prop}
/-- elements of one cell -/
theorem om_sl1 {α : Type} {f : α → List Value} {F n0 n cap i off : Nat} {xs : List α} {ad : Option Addr} {m M2 : Mem0} {a : α} {v : Value} (hsl : Sl f F 1 n0 xs (.slice ad n cap) m) (hf : ∀ a, (f a).length = 1) (hT : ∀ w, (isAgg t).run P w = .ok false w)
    (ha : ev e x = some (.pointer (some ⟨adB ad, off, none⟩))) (ho : off = adO ad + i * 1) [h : Spl M m M2] (hi : xs[i]? = some a) (hv : (f a)[0]? = some v) : ∀ w, Mem w M → OpV P (.load t x) ty e w v w := om_slE hsl hf hT ha ho hi rfl hv
theorem om_sr1 {α : Type} {f : α → List Value} {n cap i off : Nat} {xs : List α} {ad : Option Addr} {a : α} {v : Value} (hsr : Sr f 1 xs (.slice ad n cap) w0) (hT : ∀ w, (isAgg t).run P w = .ok false w)
    (ha : ev e x = some (.pointer (some ⟨adB ad, off, none⟩))) (ho : off = adO ad + i * 1) (hi : xs[i]? = some a) (hv : (f a)[0]? = some v) (hS : ¬ S (adB ad)) : ∀ w, Mem w M → Chg S w0 w → G w → OpV P (.load t x) ty e w v w := om_srE hsr hT ha ho hi rfl hv hS
end
/-! what is read of a slice in a world of which no more is known -/
section
variable {P : Program} {ty : TypeId} {e : Env} {x : Operand} {t : TypeId} {w : World}
theorem ow_srEA {α : Type} {f : α → List Value} {s n cap i : Nat} {xs : List α} {ad : Option Addr} {a : α} (hsr : Sr f s xs (.slice ad n cap) w) (hf : ∀ a, (f a).length = s) (hT : ∀ w, (isAgg t).run P w = .ok true w) (hZ : ∀ w, (sizeOf t).run P w = .ok s w)
    (ha : ev e x = some (.pointer (some ⟨adB ad, adO ad + i * s, none⟩))) (hi : xs[i]? = some a) : OpV P (.load t x) ty e w (.agg (f a).toArray) w := om_srEA (M := []) (S := no) (G := top) hsr hf hT hZ ha hi id w (Mem.nil w) (.refl _ _) trivial
end
/-- '[]T{a, b}' read as a slice -/
theorem Sr.row {α : Type} {f : α → List Value} {s : Nat} {xs : List α} {b n cap : Nat} {cs : Array Value} {E : TypeId} {fz : Nat × Nat} {w : World} (h : w.heap[b]? = some (.cells cs E fz)) (hcs : cs = arr f xs []) (hn : n = xs.length) (hc : xs.length ≤ cap) (hf : ∀ a, (f a).length = s) : Sr f s xs (.slice (some ⟨b, 0, none⟩) n cap) w := by
  subst hn; subst hcs
  exact ⟨_, _, rfl, hc, fun _ => ⟨b, 0, _, _, _, rfl, h, fun i a ha j hj => by rw [Nat.zero_add]; exact arr_get hf ha hj⟩⟩
theorem Mem.at {M M2 : Mem0} {w : World} (hm : Mem w M) (b : Nat) {o : Obj} [h : Fnd M b o M2] : w.heap[b]? = some o := h.get hm
/-! ### Stores -/
/-- the cells from a place on become others -/
def putAt (l : List Value) (j : Nat) (vs : List Value) : List Value := l.take j ++ vs ++ l.drop (j + vs.length)
theorem setR_get : ∀ (vs : List Value) (cs : Array Value) (off q : Nat), off + vs.length ≤ cs.size → (setR cs off vs)[q]? = if q < off then cs[q]? else if q < off + vs.length then vs[q - off]? else cs[q]?
  | [], cs, off, q, _ => by simp only [setR, List.length_nil, Nat.add_zero]; split <;> rfl
  | v :: vs, cs, off, q, h => by
    simp only [List.length_cons] at h
    simp only [setR]
    rw [setR_get vs _ (off + 1) q (by simp; omega)]
    by_cases h1 : q < off
    · rw [if_pos (by omega), if_pos h1, Array.getElem?_setIfInBounds_ne (by omega)]
    · rw [if_neg h1]
      by_cases h2 : q = off
      · subst h2
        rw [if_pos (by omega), if_pos (by simp), Array.getElem?_setIfInBounds_self_of_lt (by omega), Nat.sub_self]; rfl
      · rw [if_neg (by omega), show off + 1 + vs.length = off + (v :: vs).length by simp; omega]
        split
        · rw [show q - off = (q - (off + 1)) + 1 by omega, List.getElem?_cons_succ]
        · rw [Array.getElem?_setIfInBounds_ne (by omega)]
theorem putAt_get {l vs : List Value} {j q : Nat} (h : j + vs.length ≤ l.length) : (putAt l j vs)[q]? = if q < j then l[q]? else if q < j + vs.length then vs[q - j]? else l[q]? := by
  unfold putAt
  by_cases h1 : q < j
  · rw [if_pos h1, List.append_assoc, List.getElem?_append_left (by rw [List.length_take]; omega), List.getElem?_take_of_lt h1]
  · rw [if_neg h1, List.append_assoc, List.getElem?_append_right (by rw [List.length_take]; omega), List.length_take, Nat.min_eq_left (by omega)]
    by_cases h2 : q < j + vs.length
    · rw [if_pos h2, List.getElem?_append_left (by omega)]
    · rw [if_neg h2, List.getElem?_append_right (by omega), List.getElem?_drop]; congr 1; omega
theorem setR_arr {α : Type} {f : α → List Value} {s i j : Nat} {xs : List α} {junk : List Value} {a a' : α} {vs : List Value} (hf : ∀ a, (f a).length = s) (hi : xs[i]? = some a) (hj : j + vs.length ≤ s) (hv : f a' = putAt (f a) j vs) :
    setR (arr f xs junk) (i * s + j) vs = arr f (xs.set i a') junk := by
  have hlt : i < xs.length := (List.getElem?_eq_some_iff.1 hi).1
  have hmul : (i + 1) * s ≤ xs.length * s := Nat.mul_le_mul_right _ hlt
  rw [Nat.succ_mul] at hmul
  have hsz : (arr f xs junk).size = xs.length * s + junk.length := by simp [arr, flatMap_len hf]
  apply Array.ext_getElem?
  intro q
  rw [setR_get _ _ _ _ (by rw [hsz]; omega)]
  by_cases hq : q < xs.length * s
  · have hs0 : 0 < s := by apply Nat.pos_of_ne_zero; rintro rfl; simp at hq
    have e1 : q / s * s + q % s = q := by rw [Nat.mul_comm]; exact Nat.div_add_mod q s
    have hm : q % s < s := Nat.mod_lt _ hs0
    have hd : q / s < xs.length := Nat.div_lt_of_lt_mul (by rwa [Nat.mul_comm])
    have hg : (arr f xs junk)[q]? = (f (xs[q / s]))[q % s]? := by
      have := arr_get (junk := junk) hf (List.getElem?_eq_getElem hd) hm
      rwa [e1] at this
    by_cases hqi : q / s = i
    · have hq2 : q = i * s + q % s := by rw [← hqi]; exact e1.symm
      have hg' : (arr f (xs.set i a') junk)[q]? = (f a')[q % s]? := by
        have := arr_get (junk := junk) hf (show (xs.set i a')[i]? = some a' by rw [List.getElem?_set_self hlt]) hm
        rwa [← hq2] at this
      have hxa : xs[q / s] = a := by have := List.getElem?_eq_getElem hd; simp only [hqi] at this; rw [hi] at this; simp only [hqi]; injection this with this; exact this.symm
      rw [hg, hg', hv, putAt_get (by rw [hf]; exact hj), hxa]
      by_cases c1 : q % s < j
      · rw [if_pos (by omega), if_pos c1]
      · rw [if_neg (by omega), if_neg c1]
        by_cases c2 : q % s < j + vs.length
        · rw [if_pos (by omega), if_pos c2]; congr 1; omega
        · rw [if_neg (by omega), if_neg c2]
    · have hg' : (arr f (xs.set i a') junk)[q]? = (f (xs[q / s]))[q % s]? := by
        have := arr_get (junk := junk) hf (show (xs.set i a')[q / s]? = some xs[q / s] by rw [List.getElem?_set_ne (Ne.symm hqi), List.getElem?_eq_getElem hd]) hm
        rwa [e1] at this
      rw [hg, hg']
      have : ¬ (i * s ≤ q ∧ q < i * s + s) := by
        rintro ⟨h1, h2⟩
        apply hqi
        have hl := Nat.le_div_iff_mul_le hs0 |>.2 h1
        have hr : q / s < i + 1 := by rw [Nat.div_lt_iff_lt_mul hs0, Nat.succ_mul]; exact h2
        omega
      split
      · rfl
      · rw [if_neg (by omega)]
  · have hl1 := flatMap_len hf xs
    have hl2 := flatMap_len hf (xs.set i a')
    rw [List.length_set] at hl2
    rw [if_neg (by omega), if_neg (by omega)]
    simp only [arr, List.getElem?_toArray]
    rw [List.getElem?_append_right (by omega), List.getElem?_append_right (by omega), hl1, hl2]
section
variable {P : Program} {r : Option Nat} {N : Nat} {Q : Exit → Act → World → Prop} {e : Env} {ds : List Nat} {M : Mem0} {S : Nat → Prop} {w0 : World} {G : World → Prop}
variable {ops : Array Oper} {l : List Oper} {ty : TypeId} {pos : String} {after : Array Edge} {d : Nat} {x y : Operand} {t : TypeId}
theorem LM.st [GT G] {b off n : Nat} {cs : Array Value} {E : TypeId} {v : Value} {M2 : Mem0} (hS : ∀ w, (sizeOf t).run P w = .ok n w) (ha : ev e x = some (.pointer (some ⟨b, off, none⟩))) (hv : ev e y = some v)
    [hM : Fnd M b (.cells cs E (0, 0)) M2] (hn : v.cells.size = n) (hl : off + n ≤ cs.size) (h1 : v.cells.toList.all one = true) (hb : b < w0.heap.size → S b)
    (h : LM P r N ops Q l e ds ((b, .cells (setR cs off v.cells.toList) E (0, 0)) :: M2) S w0 G) : LM P r N ops Q (⟨none, .store t x y, ty, pos, after, none⟩ :: l) e ds M S w0 G :=
  .mem (fun w hm => hm.perm hM.perm) (.store (M := (b, .cells cs E (0, 0)) :: M2) 0 hS ha hv rfl hn hl h1 hb h)
/-- all of a block -/
theorem LM.stW [GT G] {b n : Nat} {cs a : Array Value} {E : TypeId} {M2 : Mem0} (hS : ∀ w, (sizeOf t).run P w = .ok n w) (ha : ev e x = some (.pointer (some ⟨b, 0, none⟩))) (hv : ev e y = some (.agg a))
    [hM : Fnd M b (.cells cs E (0, 0)) M2] (hn : a.size = n) (hl : cs.size = n) (h1 : a.toList.all one = true) (hb : b < w0.heap.size → S b)
    (h : LM P r N ops Q l e ds ((b, .cells a E (0, 0)) :: M2) S w0 G) : LM P r N ops Q (⟨none, .store t x y, ty, pos, after, none⟩ :: l) e ds M S w0 G :=
  LM.st hS ha hv hn (by omega) h1 hb (by
    have := setR_all a.toList [] cs.toList (by simp [hn, hl])
    simp only [List.nil_append, Array.toArray_toList, List.length_nil] at this
    show LM P r N ops Q l e ds ((b, .cells (setR cs 0 a.toList) E (0, 0)) :: M2) S w0 G
    rw [this]; exact h)
/-- into an element of a block of elements -/
theorem LM.stE [GT G] {α : Type} {f : α → List Value} {s i j b off n : Nat} {xs : List α} {junk : List Value} {a : α} {a' : α} {E : TypeId} {v : Value} {M2 : Mem0} (hf : ∀ a, (f a).length = s) (hS : ∀ w, (sizeOf t).run P w = .ok n w) (ha : ev e x = some (.pointer (some ⟨b, off, none⟩))) (hv : ev e y = some v)
    [hM : Fnd M b (.cells (arr f xs junk) E (0, 0)) M2] (hi : xs[i]? = some a) (ho : off = i * s + j) (hn : v.cells.size = n) (hj : j + n ≤ s) (hv' : f a' = putAt (f a) j v.cells.toList) (h1 : v.cells.toList.all one = true) (hb : b < w0.heap.size → S b)
    (h : LM P r N ops Q l e ds ((b, .cells (arr f (xs.set i a') junk) E (0, 0)) :: M2) S w0 G) : LM P r N ops Q (⟨none, .store t x y, ty, pos, after, none⟩ :: l) e ds M S w0 G := by
  have hlt : i < xs.length := (List.getElem?_eq_some_iff.1 hi).1
  have hmul : (i + 1) * s ≤ xs.length * s := Nat.mul_le_mul_right _ hlt
  rw [Nat.succ_mul] at hmul
  have hln : v.cells.toList.length = n := by simpa using hn
  refine LM.st hS ha hv hn (by simp [arr, flatMap_len hf]; omega) h1 hb ?_
  rw [ho, setR_arr hf hi (by rw [hln]; exact hj) hv']; exact h
theorem LM.stS [GT G] {α : Type} {f : α → List Value} {F s n0 n c cap i j off : Nat} {xs : List α} {ad : Option Addr} {m M2 : Mem0} {a : α} (a' : α) {v : Value} (hsl : Sl f F s n0 xs (.slice ad c cap) m) (hf : ∀ a, (f a).length = s) (hS : ∀ w, (sizeOf t).run P w = .ok n w)
    (ha : ev e x = some (.pointer (some ⟨adB ad, off, none⟩))) (ho : off = adO ad + i * s + j) (hv : ev e y = some v) [hM : Spl M m M2] (hi : xs[i]? = some a) (hn : v.cells.size = n) (hj : j + n ≤ s) (hv' : f a' = putAt (f a) j v.cells.toList) (h1 : v.cells.toList.all one = true)
    (hb : ∀ p ∈ m, p.1 < w0.heap.size → S p.1)
    (h : ∀ m', Sl f F s n0 (xs.set i a') (.slice ad c cap) m' → (∀ p ∈ m', ∃ q ∈ m, q.1 = p.1) → LM P r N ops Q l e ds (m' ++ M2) S w0 G) : LM P r N ops Q (⟨none, .store t x y, ty, pos, after, none⟩ :: l) e ds M S w0 G := by
  subst ho
  have hx := List.length_pos_of_mem (List.mem_of_getElem? hi)
  obtain ⟨b, cap', junk, h0, h1', h2, h3, h4, h5⟩ := hsl.ne hx
  simp only [Value.slice.injEq] at h1'; obtain ⟨rfl, rfl, rfl⟩ := h1'; subst h2
  have hE : adO (some (⟨b, 0, none⟩ : Addr)) = 0 := rfl
  have hB : adB (some (⟨b, 0, none⟩ : Addr)) = b := rfl
  rw [hE, hB, Nat.zero_add] at ha
  refine .mem (M' := (b, .cells (arr f xs junk) F (0, 0)) :: M2) (fun w hm => hm.perm hM.perm) (LM.stE hf hS ha hv hi rfl hn hj hv' h1 (hb _ (List.mem_singleton.2 rfl)) ?_)
  exact h [(b, .cells (arr f (xs.set i a') junk) F (0, 0))] (.inr ⟨b, cap, junk, h0, by rw [List.length_set], rfl, by rw [List.length_set]; exact h3, h4, by rw [List.length_set]; exact h5⟩) (fun p hp => ⟨_, List.mem_singleton.2 rfl, by rw [List.mem_singleton] at hp; rw [hp]⟩)

/-! ### append, calls -/
theorem LM.app [GT G] {α : Type} {f : α → List Value} {E s n0 : Nat} {inf : TypeInfo} {z : Value} {xs : List α} {v : Value} {m M1 M2 : Mem0} {bx c : Nat} {a : α} {cs : Array Value} {F : TypeId} {fz : Nat × Nat}
    (hU : P.underlying t = some (.slice E)) (hI : ∀ w, (typeInfo E).run P w = .ok inf w) (hz : inf.zero = some z) (hs : inf.size = s) (hs0 : Nat.blt 0 s = true) (hzs : z.cells.size = s) (hd : Nat.blt d N = true)
    (hx : ev e x = some v) (hy : ev e y = some (.slice (some ⟨bx, 0, none⟩) 1 c)) (hsl : Sl f E s n0 xs v m) [h1 : Fnd M bx (.cells cs F fz) M1] [h2 : Spl M1 m M2] (ho : cs = (f a).toArray) (hf : ∀ a, (f a).length = s) (hone : ∀ a, ∀ u ∈ f a, one u = true)
    (hn0 : n0 ≤ w0.heap.size) (hSm : ∀ p ∈ m, p.1 < w0.heap.size → S p.1) (hlen : xs.length + 1 ≤ maxLen) (hbytes : (xs.length + 1) * inf.bytes ≤ 140737488355328)
    (h : ∀ ad n cap m', n = xs.length + 1 → Sl f E s n0 (xs ++ [a]) (.slice ad n cap) m' → (∀ p ∈ m', w0.heap.size ≤ p.1 ∨ ∃ q ∈ m, q.1 = p.1) → LM P r N ops Q l ((d, .slice ad n cap) :: e) ds (m' ++ M2) S w0 G) :
    LM P r N ops Q (⟨some d, .call { callee := .builtin .append, args := #[x, y], argTypes := #[t, t] }, ty, pos, after, none⟩ :: l) e ds M S w0 G :=
  .mem (M' := (bx, .cells cs F fz) :: (m ++ M2)) (fun w hm => (hm.perm h1.perm).perm (h2.perm.cons _)) (.appendU hU hI hz hs hs0 hzs hd hx hy hn0 hSm hsl ⟨F, fz, by rw [ho]⟩ hf hone hlen hbytes (fun v' m' hsl' hin => by
    obtain ⟨ad, cap, rfl⟩ := hsl'.form
    exact h ad _ cap m' (by simp) hsl' hin))
theorem LM.cS [GS G] {α : Type} {f : α → List Value} {E s : Nat} {xs : List α} {g : FuncId} {args : Array Value} {op : Op} (hc : ∀ w, OpC P op ty e w g args) (h : ∀ w, Mem w M → Chg S w0 w → G w → Ret P g args w (New f E s xs w))
    (hk : ∀ ad n cap m, n = xs.length → Sl f E s w0.heap.size xs (.slice ad n cap) m → LM P r N ops Q l ((d, .slice ad n cap) :: e) ds (m ++ M) S w0 G) (hnd : nd op = true := by rfl) (hd : Nat.blt d N = true := by rfl) :
    LM P r N ops Q (⟨some d, op, ty, pos, after, none⟩ :: l) e ds M S w0 G := .callS hc h (fun u m hsl => by obtain ⟨ad, cap, rfl⟩ := hsl.form; exact hk ad _ cap m rfl hsl) hnd hd
variable {op : Op}
/-- A call that changes what m holds. -/
theorem LM.cU [GT G] {f : FuncId} {args : Array Value} {m M2 : Mem0} {T : Value → Mem0 → Prop} (hc : ∀ w, OpC P op ty e w f args) (h : ∀ w, Mem w M → Chg S w0 w → G w → Ret P f args w (Upd m T w)) [hM : Spl M m M2] (hwk : ∀ p ∈ m, wlk p.2 = false) (hS : ∀ p ∈ m, p.1 < w0.heap.size → S p.1)
    (hk : ∀ u m', T u m' → (∀ p ∈ m', w0.heap.size ≤ p.1 ∨ ∃ q ∈ m, q.1 = p.1) → LM P r N ops Q l ((d, u) :: e) ds (m' ++ M2) S w0 G) (hnd : nd op = true := by rfl) (hd : Nat.blt d N = true := by rfl) :
    LM P r N ops Q (⟨some d, op, ty, pos, after, none⟩ :: l) e ds M S w0 G := .callU hM.all hwk hS hc (fun w hm hc hg => h w (hm.perm hM.perm.symm) hc hg) hk hnd hd
end

section
variable {P : Program} {r : Option Nat} {N : Nat} {Q : Exit → Act → World → Prop} {e : Env} {ds : List Nat} {M : Mem0} {S : Nat → Prop} {w0 : World} {G : World → Prop}
variable {ops : Array Oper} {l : List (Nat × Nat)} {op : Op} {ty : TypeId} {pos : String} {after : Array Edge} {d i : Nat}
theorem LD.cS [GS G] {α : Type} {f : α → List Value} {E s : Nat} {xs : List α} {gd : Option (Nat × Bool)} {g : FuncId} {args : Array Value} (hi : ops[i]? = some ⟨some d, op, ty, pos, after, gd⟩) (hgd : Wtd ops e gd true) (hc : ∀ w, OpC P op ty e w g args) (h : ∀ w, Mem w M → Chg S w0 w → G w → Ret P g args w (New f E s xs w))
    (hk : ∀ ad n cap m, n = xs.length → Sl f E s w0.heap.size xs (.slice ad n cap) m → LD P r N ops Q l ((d, .slice ad n cap) :: e) ds (M ++ m) S w0 G) (hnd : nd op = true := by rfl) (hd : Nat.blt d N = true := by rfl) :
    LD P r N ops Q ((i, 2) :: l) e ds M S w0 G := .callS hi hgd hc h (fun u m hsl => by obtain ⟨ad, cap, rfl⟩ := hsl.form; exact hk ad _ cap m rfl hsl) hnd hd
end
/-! ### Arrays whose elements are of one cell; calls that change one block -/
section
variable {P : Program} {ty : TypeId} {e : Env} {M : Mem0} {x y : Operand} {t : TypeId}
end
section
variable {P : Program} {r : Option Nat} {N : Nat} {Q : Exit → Act → World → Prop} {e : Env} {ds : List Nat} {M : Mem0} {S : Nat → Prop} {w0 : World} {G : World → Prop}
variable {ops : Array Oper} {l : List Oper} {op : Op} {ty : TypeId} {pos : String} {after : Array Edge} {d : Nat} {x y : Operand} {t : TypeId}
/-- what a call yields that changes one block -/
def WrP (b : Nat) (v : Value) (o' : Obj) (w : World) : Value → World → Prop := fun u w' => u = v ∧ Chg (fun x => x = b) w w' ∧ w'.heap[b]? = some o'
theorem LM.cW [GT G] {f : FuncId} {args : Array Value} {v : Value} {b : Nat} {o o' : Obj} {M2 : Mem0} (hc : ∀ w, OpC P op ty e w f args) (h : ∀ w, Mem w M → Chg S w0 w → G w → Ret P f args w (WrP b v o' w)) [hM : Fnd M b o M2] (hw : wlk o = false) (hb : b < w0.heap.size → S b)
    (hk : LM P r N ops Q l ((d, v) :: e) ds ((b, o') :: M2) S w0 G) (hnd : nd op = true := by rfl) (hd : Nat.blt d N = true := by rfl) :
    LM P r N ops Q (⟨some d, op, ty, pos, after, none⟩ :: l) e ds M S w0 G :=
  .mem (fun w hm => hm.perm hM.perm) (.callW (M := (b, o) :: M2) 0 rfl hw hb hc (fun w hm hc hg => h w (hm.perm hM.perm.symm) hc hg) hk hnd hd)
end
/-! ### Loops of which a part stands -/
section
variable {P : Program} {r : Option Nat} {N : Nat} {Q : Exit → Act → World → Prop} {e : Env} {ds : List Nat} {M : Mem0} {S : Nat → Prop} {w0 : World} {G : World → Prop}
theorem wpM.loopK {α : Type} {c : Code} (F : α → Env) (K : Env) (MM : α → Mem0) (GG : α → World → Prop) (I : α → Prop) (μ : α → Nat) (x0 : α) (hs : Sub e (F x0 ++ K)) (hM : SubM M (MM x0)) (hG : ∀ w, G w → GG x0 w) (h0 : I x0)
    (round : ∀ x, I x → wpM P r N c (Exit.then (agQ N ds S w0 (fun x => F x ++ K) MM GG I μ x) Q) (F x ++ K) ds (MM x) S w0 (GG x)) :
    wpM P r N (.loop c) Q e ds M S w0 G := .loopG (fun x => F x ++ K) MM GG I μ x0 hs hM.mem hG h0 round
theorem wpM.loopK0 {α : Type} {c : Code} (F : α → Env) (K : Env) (MM : α → Mem0) (I : α → Prop) (μ : α → Nat) (x0 : α) (hs : Sub e (F x0 ++ K)) (hM : SubM M (MM x0)) (h0 : I x0)
    (round : ∀ x, I x → wpM P r N c (Exit.then (agQ N ds S w0 (fun x => F x ++ K) MM (fun _ => G) I μ x) Q) (F x ++ K) ds (MM x) S w0 G) :
    wpM P r N (.loop c) Q e ds M S w0 G := .loopG (fun x => F x ++ K) MM (fun _ => G) I μ x0 hs hM.mem (fun _ h => h) h0 round
theorem wpM.toRange {α : Type} {c : Code} (MM : Nat → α → Mem0) (x0 : α) (h : SubM M (MM 0 x0)) (k : wpM P r N c Q e ds (MM 0 x0) S w0 G) : wpM P r N c Q e ds M S w0 G := .mem h.mem k
theorem QM.toBodyF {l : Nat} {rc : Loop} {body : Code} {M2 : Mem0} (hG : Pl l rc G) (hlb : w0.heap.size ≤ l) [hF : Fnd M l (.loop rc) M2]
    (h : wpM P (some l) N body Q e [] ((l, .loop (busyOf rc)) :: M2) S w0 G) : QM N (Exit.then (asK P l rc body Q) never) .normal e [] M S w0 G := .mem (fun w hm => hm.perm hF.perm) (.toBody hG hlb h)
theorem wpM.joinK {α : Type} {c : Code} (F : α → Env) (K : Env) (MM : α → Mem0) (I : α → Prop) (hK : Sub e K) (h1 : wpM P r N c (joQ N ds S w0 (fun x => F x ++ K) MM (fun _ => G) I Q) e ds M S w0 G) (h2 : ∀ x, I x → QM N Q .normal (F x ++ K) ds (MM x) S w0 G) : wpM P r N c Q e ds M S w0 G := .join (fun x => F x ++ K) MM I h1 h2
theorem QM.meetK {α : Type} {F : α → Env} {K : Env} {MM : α → Mem0} {I : α → Prop} (y : α) (hs : Sub e (F y ++ K)) (hM : SubM M (MM y)) (hI : I y) : QM N (joQ N ds S w0 (fun x => F x ++ K) MM (fun _ => G) I Q) .normal e ds M S w0 G := .meet y hs hM.mem hI
theorem QM.againK {α : Type} {F : α → Env} {K : Env} {MM : α → Mem0} {GG : α → World → Prop} {I : α → Prop} {μ : α → Nat} {x : α} (y : α) (hs : Sub e (F y ++ K)) (hM : SubM M (MM y)) (hG : ∀ w, G w → GG y w) (hI : I y) (hm : μ y < μ x) :
    QM N (Exit.then (agQ N ds S w0 (fun x => F x ++ K) MM GG I μ x) Q) .normal e ds M S w0 G := .againG y hs hM.mem hG hI hm
end

/-! ### Maps; a part is seen otherwise -/
section
variable {P : Program} {r : Option Nat} {N : Nat} {Q : Exit → Act → World → Prop} {e : Env} {ds : List Nat} {M : Mem0} {S : Nat → Prop} {w0 : World} {G : World → Prop}
variable {ops : Array Oper} {l : List Oper} {ty : TypeId} {pos : String} {after : Array Edge} {d : Nat} {t : TypeId} {x y z : Operand}
end
/-! ### Stores among what may be carried out early or late: the slice that is written is one of some -/
def AltS {α : Type} (f : α → List Value) (E : TypeId) (b : Nat) (junk : List Value) (Mc : Mem0) (os : List (List α)) (w : World) : Prop := ∃ o ∈ os, Mem w ((b, .cells (arr f o junk) E (0, 0)) :: Mc)
instance {α : Type} (f : α → List Value) (E : TypeId) (b : Nat) (junk : List Value) (Mc : Mem0) (os : List (List α)) {G : World → Prop} [GS G] : GS (fun w => G w ∧ AltS f E b junk Mc os w) where
  ext := fun w w' ⟨h, o, ho, hm⟩ k => ⟨GS.ext w w' h k, o, ho, hm.ext k⟩
section
variable {P : Program} {r : Option Nat} {N : Nat} {Q : Exit → Act → World → Prop} {e : Env} {ds : List Nat} {M : Mem0} {S : Nat → Prop} {w0 : World} {G : World → Prop}
variable {ops : Array Oper} {l : List (Nat × Nat)} {ty : TypeId} {pos : String} {after : Array Edge} {i : Nat} {t : TypeId} {x y : Operand}
end
/-! ### New memory among what may be carried out early or late -/
section
variable {P : Program} {r : Option Nat} {N : Nat} {Q : Exit → Act → World → Prop} {e : Env} {ds : List Nat} {M : Mem0} {S : Nat → Prop} {w0 : World} {G : World → Prop}
variable {ops : Array Oper} {l : List (Nat × Nat)} {op : Op} {ty : TypeId} {pos : String} {after : Array Edge} {d i : Nat}
theorem LD.opG {gd : Option (Nat × Bool)} (hi : ops[i]? = some ⟨some d, op, ty, pos, after, gd⟩) (hgd : Wtd ops e gd true) (hd : Nat.blt d N = true) (hnd : nd op = true)
    (h : ∀ w, Mem w M → Chg S w0 w → G w → ∃ v w' M', OpV P op ty e w v w' ∧ (∀ w, Mem w M' → Mem w M) ∧ (Mem w' M' ∧ Chg S w0 w' ∧ G w') ∧ LD P r N ops Q l ((d, v) :: e) ds M' S w0 G) : LD P r N ops Q ((i, 2) :: l) e ds M S w0 G := fun a hf hdm => by
  simp only [LDA, hi]
  intro w hC
  obtain ⟨v, w', M', h1, h2, h3, h4⟩ := h w hC.1 hC.2.1 hC.2.2
  unfold wpOpIn
  rw [hi]
  simp only
  rw [if_pos (hgd.wanted (o := ⟨some d, op, ty, pos, after, gd⟩) hf)]
  exact wp_val hnd (h1 a.eval (fun x u hx => hf.eval hx) _ _ _ _) ⟨Cls M' S w0 G, fun w h => ⟨h2 w h.1, h.2⟩, h3, h4 _ (hf.put hd v) hdm⟩
/-- What isn't carried out, where a later guard asks for it; a guard that was not carried out itself. -/
theorem LD.dropU {g : Option (Nat × Bool)} {k : Nat} (hk : Nat.blt k 2 = true) (hi : ops[i]? = some ⟨some d, op, ty, pos, after, g⟩) (hg : Wtd ops e g false) (h : LD P r N ops Q l ((d, undef) :: e) ds M S w0 G) (hd : Nat.blt d N = true := by rfl) :
    LD P r N ops Q ((i, k) :: l) e ds M S w0 G := fun a hf hdm => by
  have hY : ∀ D, YA P ops D ⟨some d, op, ty, pos, after, g⟩ undef a := fun D => .inr ⟨hg.wanted (o := ⟨some d, op, ty, pos, after, g⟩) hf, rfl⟩
  match k, hk with
  | 0, _ => simp only [LDA, hi]; exact ⟨undef, hY _, h _ (hf.put hd undef) hdm⟩
  | 1, _ => simp only [LDA, hi]; exact ⟨undef, hY _, h _ (hf.put hd undef) hdm⟩
theorem LD.dropX {j t : Nat} {b : Bool} {k : Nat} (hk : Nat.blt k 2 = true) (hi : ops[i]? = some ⟨some d, op, ty, pos, after, some (j, b)⟩) (hj : (ops[j]?).bind (·.dst) = some t) (ht : look e t = some undef) (h : LD P r N ops Q l ((d, undef) :: e) ds M S w0 G) (hd : Nat.blt d N = true := by rfl) :
    LD P r N ops Q ((i, k) :: l) e ds M S w0 G := fun a hf hdm => by
  have hw : Region.wanted ⟨some d, op, ty, pos, after, some (j, b)⟩ (yielded ops a.tmps) = false := by
    simp only [Region.wanted, yielded, hj, Option.bind_some, hf.2 t _ ht, undef]; rfl
  have hY : ∀ D, YA P ops D ⟨some d, op, ty, pos, after, some (j, b)⟩ undef a := fun D => .inr ⟨hw, rfl⟩
  match k, hk with
  | 0, _ => simp only [LDA, hi]; exact ⟨undef, hY _, h _ (hf.put hd undef) hdm⟩
  | 1, _ => simp only [LDA, hi]; exact ⟨undef, hY _, h _ (hf.put hd undef) hdm⟩
theorem LD.alloc [GS G] {E : TypeId} {z : Value} {gd : Option (Nat × Bool)} (hi : ops[i]? = some ⟨some d, .alloc E, ty, pos, after, gd⟩) (hgd : Wtd ops e gd true) (hZ : ∀ w, (zeroValue E).run P w = .ok z w) (hd : Nat.blt d N = true)
    (h : ∀ b, w0.heap.size ≤ b → LD P r N ops Q l ((d, .pointer (some ⟨b, 0, none⟩)) :: e) ds ((b, .cells z.cells E (0, 0)) :: M) S w0 G) : LD P r N ops Q ((i, 2) :: l) e ds M S w0 G :=
  .opG hi hgd hd rfl (fun w hm hc hg => ⟨_, w.alloc (.cells z.cells E), _, fun ρ hρ _ _ _ _ => by simp [execOp, Instr.alloc, hZ, newVar, newRow, Result.andThen], fun w hm => hm.tail, ⟨hm.alloc _, hc.step (chg_alloc w _) (fun _ _ q => q.elim), GS.ext w _ hg (chg_alloc w _)⟩, h w.heap.size hc.size⟩)
theorem LD.box [GS G] {E : TypeId} {x : Operand} {v : Value} {gd : Option (Nat × Bool)} (hi : ops[i]? = some ⟨some d, .box E x, ty, pos, after, gd⟩) (hgd : Wtd ops e gd true) (hv : ev e x = some v) (hd : Nat.blt d N = true)
    (h : ∀ b, w0.heap.size ≤ b → LD P r N ops Q l ((d, .pointer (some ⟨b, 0, none⟩)) :: e) ds ((b, .cells v.cells E (0, 0)) :: M) S w0 G) : LD P r N ops Q ((i, 2) :: l) e ds M S w0 G :=
  .opG hi hgd hd rfl (fun w hm hc hg => ⟨_, w.alloc (.cells v.cells E), _, fun ρ hρ _ _ _ _ => by simp [execOp, Instr.box, hρ x _ hv, newVar, newRow, Result.andThen], fun w hm => hm.tail, ⟨hm.alloc _, hc.step (chg_alloc w _) (fun _ _ q => q.elim), GS.ext w _ hg (chg_alloc w _)⟩, h w.heap.size hc.size⟩)
end
/-! ### New blocks that are filled while something is known that stands only when blocks are laid -/
def Frs (G : World → Prop) (n : Nat) (w : World) : Prop := ∃ w1, G w1 ∧ Ext w1 w ∧ w1.heap.size ≤ n
instance {G : World → Prop} {n : Nat} [GS G] : GS (Frs G n) where
  ext := fun w w' ⟨w1, h1, h2, h3⟩ k => ⟨w1, h1, h2.trans k, h3⟩
section
variable {P : Program} {r : Option Nat} {N : Nat} {Q : Exit → Act → World → Prop} {e : Env} {ds : List Nat} {M : Mem0} {S : Nat → Prop} {w0 : World} {G : World → Prop}
variable {ops : Array Oper} {l : List Oper} {ty : TypeId} {pos : String} {after : Array Edge} {d : Nat} {t : TypeId} {x y : Operand}
theorem LM.unF [GS G] {n : Nat} (h : LM P r N ops Q l e ds M S w0 G) : LM P r N ops Q l e ds M S w0 (Frs G n) := fun w hm hc ⟨w1, h1, h2, _⟩ => h w hm hc (GS.ext w1 w h1 h2)
theorem LM.allocF [GS G] {E : TypeId} {z : Value} (hZ : ∀ w, (zeroValue E).run P w = .ok z w) (hd : Nat.blt d N = true)
    (h : ∀ b, w0.heap.size ≤ b → LM P r N ops Q l ((d, .pointer (some ⟨b, 0, none⟩)) :: e) ds ((b, .cells z.cells E (0, 0)) :: M) S w0 (Frs G b)) : LM P r N ops Q (⟨some d, .alloc E, ty, pos, after, none⟩ :: l) e ds M S w0 G := fun w hm hc hg =>
  LE.val (w' := w.alloc (.cells z.cells E)) (fun ρ hρ _ _ _ _ => by simp [execOp, Instr.alloc, hZ, newVar, newRow, Result.andThen]) (h w.heap.size hc.size _ (hm.alloc _) (hc.step (chg_alloc w _) (fun _ _ q => q.elim)) ⟨w, hg, chg_alloc w _, Nat.le_refl _⟩) rfl hd
theorem LM.stF [GS G] {b off n m : Nat} {cs : Array Value} {E : TypeId} {v : Value} {M2 : Mem0} (hS : ∀ w, (sizeOf t).run P w = .ok n w) (ha : ev e x = some (.pointer (some ⟨b, off, none⟩))) (hv : ev e y = some v)
    [hM : Fnd M b (.cells cs E (0, 0)) M2] (hn : v.cells.size = n) (hl : off + n ≤ cs.size) (h1 : v.cells.toList.all one = true) (hb : b < w0.heap.size → S b) (hmb : m ≤ b)
    (h : LM P r N ops Q l e ds ((b, .cells (setR cs off v.cells.toList) E (0, 0)) :: M2) S w0 (Frs G m)) : LM P r N ops Q (⟨none, .store t x y, ty, pos, after, none⟩ :: l) e ds M S w0 (Frs G m) := fun w hm hc hg a hf hd => by
  have hm := hm.perm hM.perm
  obtain ⟨w', h2, h3, h4⟩ := run_storeCells_setR (P := P) v.cells.toList w cs off 0 (hm.get (i := 0) rfl) (by simp; omega) (fun u hu => List.all_eq_true.1 h1 u hu)
  obtain ⟨w1, g1, g2, g3⟩ := hg
  refine LE.skp (w' := w') (fun ρ hρ _ _ _ _ => ?_) (h w' (hm.set (i := 0) rfl h3 h4) (hc.step h4 (fun k hk hkb => by subst hkb; exact hb hk)) ⟨w1, g1, g2.step h4 (fun x hx he => by subst he; omega), g3⟩) rfl a hf hd
  simp [execOp, Instr.storeAt, Instr.sureAddr, hρ x _ ha, hρ y _ hv, storeVar, hS, hn, h2, Result.andThen]
theorem LM.stWF [GS G] {b n m : Nat} {cs a : Array Value} {E : TypeId} {M2 : Mem0} (hS : ∀ w, (sizeOf t).run P w = .ok n w) (ha : ev e x = some (.pointer (some ⟨b, 0, none⟩))) (hv : ev e y = some (.agg a))
    [hM : Fnd M b (.cells cs E (0, 0)) M2] (hn : a.size = n) (hl : cs.size = n) (h1 : a.toList.all one = true) (hb : b < w0.heap.size → S b) (hmb : m ≤ b)
    (h : LM P r N ops Q l e ds ((b, .cells a E (0, 0)) :: M2) S w0 (Frs G m)) : LM P r N ops Q (⟨none, .store t x y, ty, pos, after, none⟩ :: l) e ds M S w0 (Frs G m) :=
  LM.stF hS ha hv hn (by omega) h1 hb hmb (by
    have := setR_all a.toList [] cs.toList (by simp [hn, hl])
    simp only [List.nil_append, Array.toArray_toList, List.length_nil] at this
    show LM P r N ops Q l e ds ((b, .cells (setR cs 0 a.toList) E (0, 0)) :: M2) S w0 (Frs G m)
    rw [this]; exact h)
end
/-! ### A function is left: marks and cells are found -/
class SplD (M : Mem0) (ds : List Nat) (M1 : outParam Mem0) : Prop where
  perm : M.Perm (dM ds ++ M1)
instance {M : Mem0} : SplD M [] M := ⟨.refl _⟩
instance {M M2 M1 : Mem0} {D : Nat} {ds : List Nat} [h : Fnd M D (.deferred (some [])) M2] [k : SplD M2 ds M1] : SplD M (D :: ds) M1 := ⟨h.perm.trans (k.perm.cons _)⟩
section
variable {P : Program} {fn : Func} {N : Nat} {e : Env} {ds : List Nat} {M M1 : Mem0} {S : Nat → Prop} {w0 : World} {G : World → Prop} {R : Value → World → Prop} {vs : List Value}
end
/-! ### Structs are compared -/
section
variable {P : Program}
variable {ty : TypeId} {e : Env} {x y : Operand} {t u : TypeId}
end
theorem au1 {p : Prop} (h : p := by (repeat' (first | exact SubM.nil _ | refine SubM.cons rfl ?_ | refine SubM.app ?_))) : p := h
theorem au2 {p : Prop} (h : p := by first | rfl | exact lk rfl (by congr 1; omega) | exact lk rfl (by simp)) : p := h
theorem au3 {p : Prop} (h : p := by exact getq default (by first | omega | (simp only [List.length_set, List.length_append, List.length_cons, List.length_nil]; omega))) : p := h
theorem au4 {p : Prop} (h : p := by first | omega | (simp only [List.length_set, List.length_append, List.length_cons, List.length_nil]; omega)) : p := h
theorem au5 {p : Prop} (h : p := by first | decide | exact Nat.le_of_ble_eq_true rfl | (simp; done) | (simp; omega)) : p := h
theorem au6 {p : Prop} (h : p := by first | exact Sr.spt (by assumption) | exact Sl.spt (by assumption)) : p := h
theorem au7 {p : Prop} (h : p := by first | rfl | decide | (simp; done)) : p := h
theorem au8 {p : Prop} (h : p := by exact (fun hlt => absurd hlt (by omega))) : p := h
theorem au9 {p : Prop} (h : p := by (repeat' (first | exact trivial | refine ⟨rfl, ?_⟩))) : p := h
theorem au10 {p : Prop} (h : p := by exact (fun p hp hlt => absurd hlt (Nat.not_lt_of_le (Sl.ge (by assumption) p hp)))) : p := h
theorem om {p : Prop} (h : p := by omega) : p := h
theorem kr {p : Prop} (h : p := by kernel_rfl) : p := h
theorem asm {p : Prop} (h : p := by assumption) : p := h
theorem ir {p : Prop} (h : p := by intro _; rfl) : p := h
theorem inS {p : Prop} (h : p := by exact inn_of_mem (fun p hp => by simp [hp])) : p := h
theorem aM {p : Prop} (h : p := by rw [List.append_nil]; assumption) : p := h
theorem auH {p : Prop} (h : p := by exact fun hlt => by first | exact inM_0 | exact inM_1 | exact absurd hlt (by omega)) : p := h
section
variable {P : Program} {r : Option Nat} {N : Nat} {Q : Exit → Act → World → Prop} {e : Env} {ds : List Nat} {M : Mem0} {S : Nat → Prop} {w0 : World} {G : World → Prop}
variable {ops : Array Oper} {l : List Oper} {op : Op} {ty : TypeId} {pos : String} {after : Array Edge} {d : Nat} {x : Operand} {v : Value}
theorem LM.mv (hx : ev e x = some v) (h : LM P r N ops Q l ((d, v) :: e) ds M S w0 G) (hd : Nat.blt d N = true := by rfl) : LM P r N ops Q (⟨some d, .move x, ty, pos, after, none⟩ :: l) e ds M S w0 G := LM.val (ov_move hx) h rfl hd
theorem LM.as (hx : ev e x = some v) (h : LM P r N ops Q l ((d, v) :: e) ds M S w0 G) (hd : Nat.blt d N = true := by rfl) : LM P r N ops Q (⟨some d, .assign x, ty, pos, after, none⟩ :: l) e ds M S w0 G := LM.val (ov_assign hx) h rfl hd
theorem LM.dr (t : Nat) {j : Nat} {b c : Bool} (hj : (ops[j]?).bind (·.dst) = some t) (ht : look e t = some (.bool c)) (hbc : (c == b) = false) (h : LM P r N ops Q l e ds M S w0 G) (hd : Nat.blt d N = true := by rfl) (hf : look e d = none := by rfl) : LM P r N ops Q (⟨some d, op, ty, pos, after, some (j, b)⟩ :: l) e ds M S w0 G := LM.drop hj ht hbc h hd hf
theorem LM.sp (t : Nat) {o : Oper} {j : Nat} {b : Bool} (hj : (ops[j]?).bind (·.dst) = some t) (ht : look e t = some (.bool b)) (ho : o.guard = some (j, b)) (h : LM P r N ops Q ({ o with guard := none } :: l) e ds M S w0 G) : LM P r N ops Q (o :: l) e ds M S w0 G := LM.strip hj ht ho h
theorem nA (e' : Env) {y : Code} (h : wpM P r N y Q e' ds M S w0 G) (hs : Sub e e' := by (repeat' (first | exact trivial | refine ⟨rfl, ?_⟩))) : LM P r N ops (Exit.then (y.wpIn (Wd r) 0 P Q) Q) [] e ds M S w0 G := LM.nil (QM.sub hs (QM.then h))
theorem nB (e' : Env) {y : Code} {id : Nat} {l' : List Oper} (h : LM P r N l'.toArray (Exit.then (y.wpIn (Wd r) 0 P Q) Q) l' e' ds M S w0 G) (hs : Sub e e' := by (repeat' (first | exact trivial | refine ⟨rfl, ?_⟩))) : LM P r N ops (Exit.then ((Code.seq (.region id l'.toArray false) y).wpIn (Wd r) 0 P Q) Q) [] e ds M S w0 G := LM.nil (QM.sub hs (QM.then (wpM.seq (wpM.region h))))
theorem nC (e' : Env) (h : QM N Q .normal e' ds M S w0 G) (hs : Sub e e' := by (repeat' (first | exact trivial | refine ⟨rfl, ?_⟩))) : LM P r N ops Q [] e ds M S w0 G := LM.nil (QM.sub hs h)
theorem wR {y : Code} {id : Nat} {l' : List Oper} (h : LM P r N l'.toArray (Exit.then (y.wpIn (Wd r) 0 P Q) Q) l' e ds M S w0 G) : wpM P r N (.seq (.region id l'.toArray false) y) Q e ds M S w0 G := wpM.seq (wpM.region h)
theorem tR {y : Code} {id : Nat} {l' : List Oper} (h : LM P r N l'.toArray (Exit.then (y.wpIn (Wd r) 0 P Q) Q) l' e ds M S w0 G) : QM N (Exit.then ((Code.seq (.region id l'.toArray false) y).wpIn (Wd r) 0 P Q) Q) .normal e ds M S w0 G := QM.then (wpM.seq (wpM.region h))
theorem LM.nc {ad : Addr} (hx : ev e x = some (.pointer (some ad))) (h : LM P r N ops Q l ((d, .pointer (some ad)) :: e) ds M S w0 G) (hd : Nat.blt d N = true := by rfl) : LM P r N ops Q (⟨some d, .nilCheck x, ty, pos, after, none⟩ :: l) e ds M S w0 G := LM.val (ov_nilCheck hx) h rfl hd
theorem qL {fn : Func} {R : Value → World → Prop} {k : Nat} {u : Value} (hr : fn.results = #[.tmp k]) (h : resE e [.tmp k] = some [u]) (hR : ∀ w, Mem w M → Chg S w0 w → G w → R (resV [u]) w) : QM N (fnPost P fn R) .ret e [] M S w0 G := QM.leave (.inl rfl) [.tmp k] hr h hR
class Und (P : Program) (t : TypeId) where
  d : TypeDesc
  h : P.underlying t = some d
class SzO (P : Program) (t : TypeId) where
  n : Nat
  h : ∀ w, (sizeOf t).run P w = .ok n w
class Agg (P : Program) (t : TypeId) where
  b : Bool
  h : ∀ w, (isAgg t).run P w = .ok b w
theorem ovf (T : TypeId) {t : TypeId} {f b off k : Nat} {fs : Array Field} [i : Und P t] [j : SzO P T] (hi : i.d = .struct fs) (hf : (fs[f]?).map (fun fl => (fl.type, fl.offset)) = some (T, k)) (hn : Nat.beq j.n 0 = false) (ha : ev e x = some (.pointer (some ⟨b, off, none⟩))) : OpP P (.fieldAddr t x f) ty e (.pointer (some ⟨b, off + k, none⟩)) := by
  cases hq : fs[f]? with
  | none => rw [hq] at hf; cases hf
  | some fl =>
    rw [hq] at hf
    obtain ⟨h1, h2⟩ := Prod.mk.inj (Option.some.inj hf)
    exact ov_field (i.h.trans (congrArg some hi)) hq (h1 ▸ j.h) hn h2 ha
theorem oml {t : TypeId} {b off : Nat} {cs : Array Value} {E : TypeId} {fz : Nat × Nat} {v : Value} {M2 : Mem0} [i : Agg P t] (hi : i.b = false) (ha : ev e x = some (.pointer (some ⟨b, off, none⟩))) [h : Fnd M b (.cells cs E fz) M2] (hc : cs[off]? = some v) : ∀ w, Mem w M → OpV P (.load t x) ty e w v w := om_ld (fun w => (i.h w).trans (by rw [hi])) ha hc
theorem cE [GS G] {f : FuncId} {fn : Func} {c : Code} {lo : List Operand} {vs : List Value} {ats : Array TypeId} {v : Value} (hf : P.funcs[f]? = some fn) (hv : evs e lo = some vs)
    (h : ∀ w, Mem w M → Chg S w0 w → G w → Ret P f vs.toArray w (fun u w' => u = v ∧ Ext w w')) (hk : LM P r N ops Q l ((d, v) :: e) ds M S w0 G) (hn : (fn.name == "runtime.NumGoroutine") = false := by kernel_rfl) (hb : fn.body = some c := by rfl) (hd : Nat.blt d N = true := by rfl) :
    LM P r N ops Q (⟨some d, .call { callee := .value (.func f), args := lo.toArray, argTypes := ats }, ty, pos, after, none⟩ :: l) e ds M S w0 G := LM.callE (oc_call (enters_fn hf hn hb) hv) h hk rfl hd
theorem dE [GS G] {f : FuncId} {fn : Func} {c : Code} {lo : List Operand} {vs : List Value} {ats : Array TypeId} {v : Value} {i : Nat} {lo2 : List (Nat × Nat)} {g : Option (Nat × Bool)} (hi : ops[i]? = some ⟨some d, .call { callee := .value (.func f), args := lo.toArray, argTypes := ats }, ty, pos, after, g⟩) (hg : Wtd ops e g true) (hf : P.funcs[f]? = some fn) (hv : evs e lo = some vs)
    (h : ∀ w, Mem w M → Chg S w0 w → G w → Ret P f vs.toArray w (fun u w' => u = v ∧ Ext w w')) (hk : LD P r N ops Q lo2 ((d, v) :: e) ds M S w0 G) (hn : (fn.name == "runtime.NumGoroutine") = false := by kernel_rfl) (hb : fn.body = some c := by rfl) (hd : Nat.blt d N = true := by rfl) :
    LD P r N ops Q ((i, 2) :: lo2) e ds M S w0 G := LD.callE hi hg (oc_call (enters_fn hf hn hb) hv) h hk rfl hd
theorem cU [GT G] {f : FuncId} {fn : Func} {c : Code} {lo : List Operand} {vs : List Value} {ats : Array TypeId} {m M2 : Mem0} {T : Value → Mem0 → Prop} (hf : P.funcs[f]? = some fn) (hv : evs e lo = some vs)
    (h : ∀ w, Mem w M → Chg S w0 w → G w → Ret P f vs.toArray w (Upd m T w)) [hM : Spl M m M2] (hwk : ∀ p ∈ m, wlk p.2 = false) (hS : ∀ p ∈ m, p.1 < w0.heap.size → S p.1)
    (hk : ∀ u m', T u m' → (∀ p ∈ m', w0.heap.size ≤ p.1 ∨ ∃ q ∈ m, q.1 = p.1) → LM P r N ops Q l ((d, u) :: e) ds (m' ++ M2) S w0 G) (hn : (fn.name == "runtime.NumGoroutine") = false := by kernel_rfl) (hb : fn.body = some c := by rfl) (hd : Nat.blt d N = true := by rfl) :
    LM P r N ops Q (⟨some d, .call { callee := .value (.func f), args := lo.toArray, argTypes := ats }, ty, pos, after, none⟩ :: l) e ds M S w0 G := LM.cU (oc_call (enters_fn hf hn hb) hv) h hwk hS hk rfl hd
end
structure JL (n : Nat) (J : Nat → Mem0 → World → Prop) (Jx : World → Prop) : Prop where
  le : ∀ k m w, J k m w → n ≤ w.heap.size
  mem : ∀ k m w, J k m w → Mem w m
  upd : ∀ k m m' w w', J k m w → Chg (fun b => ∃ q ∈ m, q.1 = b) w w' → Mem w' m' → (∀ p ∈ m', (w.heap.size ≤ p.1 ∨ ∃ q ∈ m, q.1 = p.1) ∧ wlk p.2 = false) → J k m' w'
  bk : ∀ k m w w', J k m w → Bk n w w' → J k m w'
  bkx : ∀ w w', Jx w → Bk n w w' → Jx w'
def SeqCP (P : Program) (g : FuncId) (lb : Array Value) (A : List (Array Value)) (Rd : World → Prop) (fin : Prop) : Prop :=
  ∀ (l : Nat) (J : Nat → Mem0 → World → Prop) (Jx : World → Prop) (W : World), (fin ∨ ∀ m w, ¬ J A.length m w) → (∀ k m w, J k m w → Rd w) → JL W.heap.size J Jx →
    (∀ k a m w1, A[k]? = some a → J k m w1 → YR P l a w1 (fun b w2 => ((b = true ∧ J (k + 1) m w2) ∨ (b = false ∧ Jx w2)) ∧ KW W.heap.size w1 w2)) →
    J 0 [] W → Ret P g (#[.func (.yield l) #[] #[]] ++ lb) W (fun _ w' => J A.length [] w' ∨ Jx w')
theorem JL.rd {n : Nat} {J : Nat → Mem0 → World → Prop} {Jx : World → Prop} (h : JL n J Jx) {Rd : World → Prop} (hr : ∀ k m w, J k m w → Rd w) {k : Nat} {m : Mem0} {w1 w : World} (hj : J k m w1) (hc : Chg (fun b => ∃ q ∈ m, q.1 = b) w1 w) : Rd w :=
  hr k [] w (h.upd k m [] w1 w hj hc (Mem.nil w) (fun p hp => by cases hp))
theorem KW.trans {n n' : Nat} {a b c : World} (h : KW n' a b) (k : KW n b c) (hn : n ≤ n') : KW n' a c :=
  ⟨k.os.trans h.os, k.tape.trans h.tape, k.output.trans h.output, Nat.le_trans h.size k.size, fun x o hx ho hw => k.same x o om (h.same x o hx ho hw) hw⟩
section
variable {P : Program} {ty : TypeId} {e : Env} {t u : TypeId} {x y : Operand}
end
/-! ### Open and closed -/
section
variable {P : Program} {r : Option Nat} {N : Nat} {Q : Exit → Act → World → Prop} {e : Env} {ds : List Nat} {M m : Mem0} {w0 w1 : World} {n k : Nat} {J : Nat → Mem0 → World → Prop} {Jx K : World → Prop}
variable {ops : Array Oper} {rest : List Oper} {ty : TypeId} {pos : String} {after : Array Edge} {d : Nat}
abbrev inM (m : Mem0) : Nat → Prop := fun b => ∃ q ∈ m, q.1 = b
abbrev all0 : Nat → Prop := fun _ => True
end
/-! ### ... in a round of a loop of the iterator's own -/
section
variable {P : Program} {r : Option Nat} {N : Nat} {Q : Exit → Act → World → Prop} {e : Env} {ds : List Nat} {M m : Mem0} {w0 w1 : World} {n k : Nat} {J : Nat → Mem0 → World → Prop} {Jx K K2 : World → Prop}
end
/-! ### A loop whose rounds leave marks -/
section
variable {P : Program} {r : Option Nat} {N : Nat} {Q : Exit → Act → World → Prop} {e : Env} {ds : List Nat} {M : Mem0} {S : Nat → Prop} {w0 : World} {G : World → Prop}
end
instance {M M1 : Mem0} {ds : List Nat} [h : Spl M (dM ds) M1] : SplD M ds M1 := ⟨h.perm⟩
theorem hd_cons {w0 : World} {D : Nat} {ds : List Nat} (h : w0.heap.size ≤ D) (k : ∀ D ∈ ds, w0.heap.size ≤ D) : ∀ D' ∈ D :: ds, w0.heap.size ≤ D' := fun D' hD => by
  rcases List.mem_cons.1 hD with rfl | hD
  · exact h
  · exact k D' hD
theorem hd_nil {w0 : World} : ∀ D ∈ ([] : List Nat), w0.heap.size ≤ D := fun D h => by cases h
theorem Sl.wlk {α : Type} {f : α → List Value} {E s n0 : Nat} {xs : List α} {v : Value} {m : Mem0} (h : Sl f E s n0 xs v m) : ∀ p ∈ m, Go.Eng.wlk p.2 = false := fun p hp => by
  rcases h with ⟨_, rfl, _⟩ | ⟨b, cap, junk, _, _, rfl, _⟩
  · cases hp
  · rw [List.mem_singleton] at hp; subst hp; rfl
theorem SeqCP.enter {P : Program} {f : FuncId} {fn : Func} {c : Code} {lb : List Value} {A : List (Array Value)} {Rd : World → Prop} {fin : Prop}
    (hf : P.funcs[f]? = some fn) (hb : fn.body = some c) {N : Nat} (hN : fn.ntmps = N) (hl : Nat.ble (lb.length + 1) N = true)
    (h : ∀ (l n : Nat) (J : Nat → Mem0 → World → Prop) (Jx : World → Prop) (w0 : World), n = w0.heap.size → (fin ∨ ∀ m w, ¬ J A.length m w) → (∀ k m w, J k m w → Rd w) → JL n J Jx →
      (∀ k a m w, A[k]? = some a → J k m w → YR P l a w (fun b w2 => ((b = true ∧ J (k + 1) m w2) ∨ (b = false ∧ Jx w2)) ∧ KW n w w2)) →
      wpM P none N c (fnPost P fn (fun _ w' => J A.length [] w' ∨ Jx w')) (args0 0 (.func (.yield l) #[] #[] :: lb)) [] [] all0 w0 (fun w => J 0 [] w ∧ top w)) : SeqCP P f lb.toArray A Rd fin := fun l J Jx W hfin hJr hL hy h0 => by
  have h1 : (#[Value.func (.yield l) #[] #[]] ++ lb.toArray) = (Value.func (.yield l) #[] #[] :: lb).toArray := by simp
  rw [h1]
  refine Ret.enterG hf hb hN (by simpa using hl) [] all0 (fun w => J 0 [] w ∧ top w) (Mem.nil W) ⟨h0, trivial⟩ ?_
  exact h l W.heap.size J Jx W rfl hfin hJr hL hy
/-! ### A call that changes one block among what may be carried out early or late -/
def AltO (b : Nat) (Mc : Mem0) (os : List Obj) (w : World) : Prop := ∃ o ∈ os, Mem w ((b, o) :: Mc)
instance (b : Nat) (Mc : Mem0) (os : List Obj) {G : World → Prop} [GS G] : GS (fun w => G w ∧ AltO b Mc os w) where
  ext := fun w w' ⟨h, o, ho, hm⟩ k => ⟨GS.ext w w' h k, o, ho, hm.ext k⟩
section
variable {P : Program} {r : Option Nat} {N : Nat} {Q : Exit → Act → World → Prop} {e : Env} {ds : List Nat} {M : Mem0} {S : Nat → Prop} {w0 : World} {G : World → Prop}
theorem wpM.toAltO {c : Code} (b : Nat) (os : List Obj) {o : Obj} {Mc : Mem0} [hM : Fnd M b o Mc] (ho : o ∈ os) (h : (∀ q ∈ Mc, q.1 ≠ b) → wpM P r N c Q e ds Mc S w0 (fun w => G w ∧ AltO b Mc os w)) : wpM P r N c Q e ds M S w0 G := fun w hm hc hg => by
  have hm' := hm.perm hM.perm
  refine h (fun q hq he => ?_) w hm'.tail hc ⟨hg, o, ho, hm'⟩
  have hnd := hm'.1
  simp only [List.map_cons, List.nodup_cons] at hnd
  exact hnd.1 (he ▸ List.mem_map_of_mem hq)
variable {ops : Array Oper} {lo : List Oper} {l : List (Nat × Nat)} {op : Op} {ty : TypeId} {pos : String} {after : Array Edge} {d i : Nat}
theorem LM.ofAltO {b : Nat} {o : Obj} {Mc : Mem0} (h : LM P r N ops Q lo e ds ((b, o) :: Mc) S w0 G) : LM P r N ops Q lo e ds Mc S w0 (fun w => G w ∧ AltO b Mc [o] w) := fun w hm hc ⟨hg, o', ho, hmo⟩ => by
  rw [List.mem_singleton] at ho; subst ho; exact h w hmo hc hg
theorem QM.ofAltO {X : Exit} {b : Nat} {o : Obj} {Mc : Mem0} (h : QM N Q X e ds ((b, o) :: Mc) S w0 G) : QM N Q X e ds Mc S w0 (fun w => G w ∧ AltO b Mc [o] w) := fun w hm hc ⟨hg, o', ho, hmo⟩ => by
  rw [List.mem_singleton] at ho; subst ho; exact h w hmo hc hg
end
/-! ### A new slice, as a slice of the call's own -/
section
variable {P : Program} {r : Option Nat} {N : Nat} {Q : Exit → Act → World → Prop} {e : Env} {ds : List Nat} {M : Mem0} {S : Nat → Prop} {w0 : World} {G : World → Prop}
variable {ops : Array Oper} {l : List Oper} {ty : TypeId} {pos : String} {after : Array Edge} {d : Nat} {t : TypeId} {x y : Operand}
theorem LM.makeS [GS G] {α : Type} {f : α → List Value} {E s : Nat} {inf : TypeInfo} {z : Value} {a0 : α} {n : Int} {k k' : IntKind} (hU : P.underlying t = some (.slice E)) (hI : ∀ w, (typeInfo E).run P w = .ok inf w) (hz : inf.zero = some z) (hs : inf.size = s) (hs0 : Nat.blt 0 s = true) (hza : z.cells = (f a0).toArray) (hf : ∀ a, (f a).length = s) (hd : Nat.blt d N = true)
    (hx : ev e x = some (.int k n)) (hy : ev e y = some (.int k' n)) (h0 : 0 ≤ n) (hb : (inf.bytes : Int) * n ≤ 281474976710656) (h63 : n ≤ 9223372036854775807) (hmx : n.toNat ≤ maxLen)
    (h : ∀ ad c m, c = n.toNat → Sl f E s w0.heap.size (List.replicate c a0) (.slice ad c c) m → LM P r N ops Q l ((d, .slice ad c c) :: e) ds (m ++ M) S w0 G) :
    LM P r N ops Q (⟨some d, .makeSlice t x y, ty, pos, after, none⟩ :: l) e ds M S w0 G :=
  LM.make hU hI hz hs hs0 hza hf hd hx hy h0 hb h63 (fun b hb => h (some ⟨b, 0, none⟩) n.toNat [(b, .cells (arr f (List.replicate n.toNat a0) []) E (0, 0))] rfl (.inr ⟨b, n.toNat, [], hb, by rw [List.length_replicate], rfl, by rw [List.length_replicate]; exact Nat.le_refl _, hmx, by rw [List.length_replicate]; simp⟩))
end
section range
variable {P : Program} {N : Nat} {Q : Exit → Act → World → Prop} {e : Env} {ds : List Nat} {M : Mem0} {S : Nat → Prop} {w0 : World} {G : World → Prop}
variable {g : Operand} {ps : Array Tmp} {assign body : Code} {gf : FuncId} {lb : Array Value} {A : List (Array Value)} {Rd : World → Prop} {fin : Prop} {α β : Type}
end range
/-! ### Results -/
def ResC (P : Program) (e : Env) (M : Mem0) : List ResultVar → List Value → Prop
  | [], vs => vs = []
  | .tmp t :: l, vs => ∃ v us, vs = v :: us ∧ look e t = some v ∧ ResC P e M l us
  | .cell b t :: l, vs => ∃ v us ad, vs = v :: us ∧ look e b = some (.pointer (some ad)) ∧ (∀ w, Mem w M → (loadVar t ad).run P w = .ok v w) ∧ ResC P e M l us
section
variable {P : Program} {fn : Func} {N : Nat} {e : Env} {ds : List Nat} {M M1 M2 : Mem0} {S : Nat → Prop} {w0 : World} {G : World → Prop} {R : Value → World → Prop} {vs : List Value} {l : List ResultVar} {us : List Value} {v : Value}
theorem rc_nil : ResC P e M [] [] := rfl
theorem rc_tmp {t : Nat} (h : look e t = some v) (k : ResC P e M l us) : ResC P e M (.tmp t :: l) (v :: us) := ⟨_, _, rfl, h, k⟩
theorem rc_c {b off ad : Nat} {t E : TypeId} {cs : Array Value} {fz : Nat × Nat} (hb : look e b = some (.pointer (some ⟨ad, off, none⟩))) [q : Fnd M ad (.cells cs E fz) M2] (hT : ∀ w, (isAgg t).run P w = .ok false w) (hc : cs[off]? = some v) (k : ResC P e M l us) :
    ResC P e M (.cell b t :: l) (v :: us) := ⟨_, _, _, rfl, hb, fun w hm => run_loadVar_one hT (q.get hm) hc, k⟩
theorem rc_w {b ad n : Nat} {t E : TypeId} {cs : Array Value} {fz : Nat × Nat} (hb : look e b = some (.pointer (some ⟨ad, 0, none⟩))) [q : Fnd M ad (.cells cs E fz) M2] (hT : ∀ w, (isAgg t).run P w = .ok true w) (hS : ∀ w, (sizeOf t).run P w = .ok n w) (hn : cs.size = n) (k : ResC P e M l us) :
    ResC P e M (.cell b t :: l) (.agg cs :: us) := ⟨_, _, _, rfl, hb, fun w hm => by
  have := run_loadVar_agg (P := P) (off := 0) (vs := cs.toList) hT hS (q.get hm) (by simpa using hn) (fun j v hj => by rw [Nat.zero_add]; simpa using hj)
  simpa using this, k⟩
theorem mapM_resC {a : Act} (hf : Fr N e a) {w : World} (hm : Mem w M) (f : ResultVar → Sem Value) (hft : ∀ t v, a.tmps[t]? = some v → (f (.tmp t)).run P w = .ok v w)
    (hfc : ∀ b t ad, a.tmps[b]? = some (.pointer (some ad)) → (f (.cell b t)).run P w = (loadVar t ad).run P w) :
    ∀ (rs : List ResultVar) (vs : List Value), ResC P e M rs vs → (rs.mapM f).run P w = .ok vs w
  | [], vs, h => by obtain rfl : vs = [] := h; simp
  | .tmp t :: rs, vs, h => by
    obtain ⟨v, us, rfl, h1, h2⟩ := h
    simp only [List.mapM_cons, Sem.run_bind, hft t v (hf.2 _ _ h1), Result.andThen, mapM_resC hf hm f hft hfc rs us h2, Sem.run_pure]
  | .cell b t :: rs, vs, h => by
    obtain ⟨v, us, ad, rfl, h1, h2, h3⟩ := h
    simp only [List.mapM_cons, Sem.run_bind, hfc b t ad (hf.2 _ _ h1), h2 w hm, Result.andThen, mapM_resC hf hm f hft hfc rs us h3, Sem.run_pure]
theorem results_resC {a : Act} (hf : Fr N e a) {w : World} (hm : Mem w M) {rs : List ResultVar} (hr : fn.results = rs.toArray) (h : ResC P e M rs vs) : (results fn a.tmps).run P w = .ok (resV vs) w := by
  unfold results
  rw [hr]
  have h1 := mapM_resC (P := P) hf hm (fun x => match x with
      | ResultVar.tmp t => (pure (a.tmps.getD t undef) : Sem Value)
      | ResultVar.cell b t => do loadVar t (← asAddr (a.tmps.getD b undef)))
    (fun t v hl => by
      show Result.ok (a.tmps.getD t undef) w = _
      rw [Array.getD_eq_getD_getElem?, hl]; rfl)
    (fun b t ad hl => by
      simp [Array.getD_eq_getD_getElem?, hl, asAddr]) rs vs h
  simp only [List.mapM_toArray, Sem.run_bind, Sem.run_map]
  generalize hX : Sem.run P (List.mapM _ rs) w = X
  obtain rfl : Result.ok vs w = X := by rw [← hX]; exact h1.symm
  simp only [Result.andThen]
  cases vs with
  | nil => simp [resV]
  | cons v l => cases l with
    | nil => simp [resV]
    | cons u l => simp [resV]
theorem QM.leaveCs {x : Exit} (hx : x = .ret ∨ x = .normal) (rs : List ResultVar) (hr : fn.results = rs.toArray) (hD : ∀ D ∈ ds, w0.heap.size ≤ D) [k : SplD M ds M1] (h : ResC P e M1 rs vs) (hR : ∀ w, Mem w M1 → Chg S w0 w → R (resV vs) w) : QM N (fnPost P fn R) x e ds M S w0 G :=
  .mem (fun w hm => hm.perm k.perm) (fun w hm hc hg => by
    obtain ⟨h1, h2, h3⟩ := shut_mem ds w M1 hm hc hD
    rcases hx with rfl | rfl
    · intro a hf hd
      show LeavesInM _ _ _ _ _ _ _ _ _
      rw [hd]
      exact leavesM_shut ds w h1 (results_resC hf h2 hr h) ⟨_, rfl, hR _ h2 h3⟩
    · intro a hf hd
      show LeavesInM _ _ _ _ _ _ _ _ _
      rw [hd]
      exact leavesM_shut ds w h1 (results_resC hf h2 hr h) ⟨_, rfl, hR _ h2 h3⟩)
end
/-! ### A store among what may be carried out early or late -/
section
variable {P : Program} {r : Option Nat} {N : Nat} {Q : Exit → Act → World → Prop} {e : Env} {ds : List Nat} {M : Mem0} {S : Nat → Prop} {w0 : World} {G : World → Prop}
variable {ops : Array Oper} {l : List (Nat × Nat)} {ty : TypeId} {pos : String} {after : Array Edge} {d i : Nat} {t : TypeId} {x y : Operand}
theorem LD.stAltO [GT G] {b n off : Nat} {os : List Obj} (os' : List Obj) {Mc : Mem0} {v : Value} {gd : Option (Nat × Bool)} (hi : ops[i]? = some ⟨none, .store t x y, ty, pos, after, gd⟩) (hgd : Wtd ops e gd true)
    (hS : ∀ w, (sizeOf t).run P w = .ok n w) (ha : ev e x = some (.pointer (some ⟨b, off, none⟩))) (hv : ev e y = some v) (hn : v.cells.size = n) (h1 : v.cells.toList.all one = true)
    (hsub : ∀ o ∈ os', o ∈ os) (hstep : ∀ o ∈ os, ∃ cs E, o = Obj.cells cs E (0, 0) ∧ off + n ≤ cs.size ∧ Obj.cells (setR cs off v.cells.toList) E (0, 0) ∈ os') (hb : b < w0.heap.size → S b) (hMc : ∀ q ∈ Mc, q.1 ≠ b)
    (h : LD P r N ops Q l e ds Mc S w0 (fun w => G w ∧ AltO b Mc os' w)) : LD P r N ops Q ((i, 2) :: l) e ds Mc S w0 (fun w => G w ∧ AltO b Mc os w) := fun a hfr hdm => by
  simp only [LDA, hi]
  intro w ⟨hm, hc, hg, o, hos, hmo⟩
  obtain ⟨cs, E, rfl, hle, hin⟩ := hstep o hos
  have hln : v.cells.toList.length = n := by simpa using hn
  obtain ⟨w', h2, h3, h4⟩ := run_storeCells_setR (P := P) v.cells.toList w cs off 0 (hmo.get (i := 0) rfl) om (fun u hu => List.all_eq_true.1 h1 u hu)
  rw [Nat.add_zero] at h3
  unfold wpOpIn
  rw [hi]
  simp only
  rw [if_pos (hgd.wanted (o := ⟨none, .store t x y, ty, pos, after, gd⟩) hfr)]
  refine wp_skip (a := a) rfl (w' := w') (by simp [execOp, Instr.storeAt, Instr.sureAddr, hfr.eval ha, hfr.eval hv, storeVar, hS, hn, h2, Result.andThen]) ?_
  refine ⟨Cls Mc S w0 (fun w => G w ∧ AltO b Mc os' w), fun w hw => ⟨hw.1, hw.2.1, hw.2.2.1, ?_⟩, ⟨hm.keep h4 hMc, hc.step h4 (fun k hk hkb => by subst hkb; exact hb hk), GT.chg _ w w' hg h4 (.one h4 (hmo.get (i := 0) rfl) rfl), _, hin, hmo.set (i := 0) rfl h3 h4⟩, h _ (hfr.putN undef) hdm⟩
  obtain ⟨o', ho', hm'⟩ := hw.2.2.2; exact ⟨o', hsub o' ho', hm'⟩
end
/-! ### The rest of a slice -/
def adLo (ad : Option Addr) (l c s : Nat) : Option Addr := if c = l then ad else ad.map (·.add (l * s))
section
variable {P : Program} {ty : TypeId} {e : Env} {t : TypeId} {x lo : Operand}
theorem ov_subLo (l : Nat) {k : IntKind} {li : Int} {ad : Option Addr} {n c s : Nat} {E : TypeId} (hU : P.underlying t = some (.slice E)) (hS : ∀ w, (sizeOf E).run P w = .ok s w) (ha : ev e x = some (.slice ad n c)) (hl : ev e lo = some (.int k li))
    (hli : li = (l : Nat)) (h : l ≤ n) : OpP P (.slice t x (some lo) none none) ty e (.slice (adLo ad l c s) (n - l) (c - l)) := fun w ρ hρ _ _ _ _ => by
  subst hli
  have h2 : (l : Int) ≤ n := by omega
  simp [execOp, Instr.sliceAt, Instr.slice, Instr.sliceBounds, Instr.sliceBound, asIntOf, run_underlying hU, hρ x _ ha, hρ lo _ hl, hS, h, h2, adLo, Result.andThen]
end
theorem Sr.drop {α : Type} {f : α → List Value} {s : Nat} {xs : List α} {ad : Option Addr} {n cap : Nat} {w : World} (h : Sr f s xs (.slice ad n cap) w) {l : Nat} (hk : l ≤ n) : Sr f s (xs.drop l) (.slice (adLo ad l cap s) (n - l) (cap - l)) w := by
  obtain ⟨ad', cap', h1, h2, h3⟩ := h
  simp only [Value.slice.injEq] at h1
  obtain ⟨rfl, rfl, rfl⟩ := h1
  have hl : (xs.drop l).length = xs.length - l := by simp
  refine ⟨_, _, by rw [hl], by omega, fun hx => ?_⟩
  obtain ⟨b, off, cs, E, fz, h4, h5, h6⟩ := h3 om
  refine ⟨b, off + l * s, cs, E, fz, ?_, h5, fun i a ha j hj => ?_⟩
  · subst h4
    unfold adLo; rw [if_neg om]
    simp [Addr.add]
  · rw [List.getElem?_drop] at ha
    have := h6 (l + i) a ha j hj
    rw [← this]; congr 1
    rw [Nat.add_mul]; omega
/-! ### A test whose outcome is asked again -/
section
variable {P : Program} {r : Option Nat} {N : Nat} {Q : Exit → Act → World → Prop} {e : Env} {ds : List Nat} {M : Mem0} {S : Nat → Prop} {w0 : World} {G : World → Prop}
theorem Fr.know {t : Nat} {b c : Bool} {a : Act} (hf : Fr N e a) (ht : look e t = some (.bool b)) (hc : b = c) : Fr N ((t, .bool c) :: e) a := ⟨hf.1, fun k u hu => by
    rw [look_cons] at hu
    by_cases hk : t = k
    · subst hk; rw [if_pos rfl] at hu; rw [← hu, ← hc]; exact hf.2 _ _ ht
    · rw [if_neg hk] at hu; exact hf.2 k u hu⟩
theorem wpM.condXD {t : Nat} {p : Prop} [Decidable p] {x y : Code} (ht : look e t = some (.bool (decide p))) (h1 : p → wpM P r N x Q ((t, .bool true) :: e) ds M S w0 G) (h2 : ¬ p → wpM P r N y Q ((t, .bool false) :: e) ds M S w0 G) :
    wpM P r N (.cond (.tmp t) x y) Q e ds M S w0 G :=
  .condD ht (fun hp w hm hc hg a hf hd => h1 hp w hm hc hg a (hf.know ht (decide_eq_true hp)) hd) (fun hp w hm hc hg a hf hd => h2 hp w hm hc hg a (hf.know ht (decide_eq_false hp)) hd)
theorem wpM.condXB {t : Nat} {b : Bool} {x y : Code} (ht : look e t = some (.bool b)) (h1 : b = true → wpM P r N x Q ((t, .bool true) :: e) ds M S w0 G) (h2 : b = false → wpM P r N y Q ((t, .bool false) :: e) ds M S w0 G) :
    wpM P r N (.cond (.tmp t) x y) Q e ds M S w0 G :=
  .condB ht (fun hp w hm hc hg a hf hd => h1 hp w hm hc hg a (hf.know ht hp) hd) (fun hp w hm hc hg a hf hd => h2 hp w hm hc hg a (hf.know ht hp) hd)
end
inductive OT where
  | nil : OT
  | one : Nat → Nat → OT → OT
  | fork : Nat → OT → Nat → OT → OT
  | tri : Nat → OT → Nat → OT → Nat → OT → OT
  | last : Nat → OT
def OT.size : OT → Nat
  | .nil => 0
  | .one _ _ t => t.size + 1
  | .fork _ t _ _ => t.size + 1
  | .tri _ t _ _ _ _ => t.size + 1
  | .last _ => 1
section
variable {P : Program} {r : Option Nat} {ops : Array Oper}
def LDK (P : Program) (r : Option Nat) (ops : Array Oper) (Q : Exit → Act → World → Prop) (D : World → Prop) : (World → Prop) → OT → Act → Prop
  | C, .nil, a => ∀ w, C w → Q .normal a w
  | C, .last i, a => ∀ w, C w → wpOpIn (Wd r) 0 P ops (Qn Q) i (Q .normal) a w
  | C, .fork i t j s, a => (∀ w, C w → wpOpIn (Wd r) 0 P ops (Qn Q) i (fun a' w' => ∃ C' : World → Prop, (∀ w, C' w → D w) ∧ C' w' ∧ LDK P r ops Q D C' t a') a w) ∧
      ∀ w, C w → wpOpIn (Wd r) 0 P ops (Qn Q) j (fun a' w' => ∃ C' : World → Prop, (∀ w, C' w → D w) ∧ C' w' ∧ LDK P r ops Q D C' s a') a w
  | C, .tri i t j s k u, a => (∀ w, C w → wpOpIn (Wd r) 0 P ops (Qn Q) i (fun a' w' => ∃ C' : World → Prop, (∀ w, C' w → D w) ∧ C' w' ∧ LDK P r ops Q D C' t a') a w) ∧
      (∀ w, C w → wpOpIn (Wd r) 0 P ops (Qn Q) j (fun a' w' => ∃ C' : World → Prop, (∀ w, C' w → D w) ∧ C' w' ∧ LDK P r ops Q D C' s a') a w) ∧
      ∀ w, C w → wpOpIn (Wd r) 0 P ops (Qn Q) k (fun a' w' => ∃ C' : World → Prop, (∀ w, C' w → D w) ∧ C' w' ∧ LDK P r ops Q D C' u a') a w
  | C, .one i k l, a =>
    match ops[i]? with
    | none => False
    | some o =>
      match k with
      | 0 => ∃ v, YA P ops (fun _ => True) o v a ∧ LDK P r ops Q D C l (a.put o.dst v)
      | 1 => ∃ v, YA P ops D o v a ∧ LDK P r ops Q D C l (a.put o.dst v)
      | _ => ∀ w, C w → wpOpIn (Wd r) 0 P ops (Qn Q) i (fun a' w' => ∃ C' : World → Prop, (∀ w, C' w → D w) ∧ C' w' ∧ LDK P r ops Q D C' l a') a w
def chkK (ops : Array Oper) (z : Nat) : OT → Array Bool → Bool
  | .nil, listed => Region.ready .any ops listed == []
  | .last i, listed => Region.ready .any ops listed == [i] && (i == z) && decide (i < listed.size) && Region.ready .any ops (listed.setIfInBounds i true) == []
  | .fork i t j s, listed => Region.ready .any ops listed == [i, j] && t.size == s.size && (i != z) && (j != z) && chkK ops z t (listed.setIfInBounds i true) && chkK ops z s (listed.setIfInBounds j true)
  | .tri i t j s k u, listed => Region.ready .any ops listed == [i, j, k] && t.size == s.size && t.size == u.size && (i != z) && (j != z) && (k != z) && chkK ops z t (listed.setIfInBounds i true) && chkK ops z s (listed.setIfInBounds j true) && chkK ops z u (listed.setIfInBounds k true)
  | .one i k l, listed =>
    (match k with
      | 0 => Region.free .any ops listed i && (Region.ready .any ops listed).contains i
      | 1 => Region.free .any ops listed i && (Region.ready .any ops listed).contains i && (decide (ops.size ≤ z) || depOf ops 40 z i)
      | _ => Region.ready .any ops listed == [i]) && (i != z) &&
    chkK ops z l (listed.setIfInBounds i true)
def isZ (z : Nat) : Nat → Bool := fun q => q == z
theorem ws_of_ldk {Q : Exit → Act → World → Prop} {D : World → Prop} {z : Nat} (hsel : Region.noSelect ops = true) (hnd : noDefer ops = true) :
    ∀ (l : OT) (C : World → Prop) (listed : Array Bool) (a : Act) (w : World), chkK ops z l listed = true → Closed ops listed → listed.getD z false = false → (∀ w, C w → D w) → C w → LDK P r ops Q D C l a → WS P r ops Q D (isZ z) l.size listed a w
  | .nil, C, listed, a, w, hc, _, _, hCD, hC, h => by
    simp only [chkK, beq_iff_eq] at hc
    exact ⟨fun _ => hCD w hC, hc, h w hC⟩
  | .last i, C, listed, a, w, hc, hcl, hz, hCD, hC, h => by
    simp only [chkK, Bool.and_eq_true, beq_iff_eq, decide_eq_true_eq] at hc
    obtain ⟨⟨⟨hr, rfl⟩, hlt⟩, hr2⟩ := hc
    simp only [LDK] at h
    refine ⟨fun _ => hCD w hC, fun h0 => (by rw [hr] at h0; cases h0), fun q hq => ?_⟩
    rw [hr] at hq
    obtain rfl : q = i := by simpa using hq
    exact wpOpIn_mono (fun a' w' hq' => ⟨fun ht => absurd (ht q (by simp [isZ])) (by simp [hlt]), hr2, hq'⟩) (h w hC)
  | .fork i t j s, C, listed, a, w, hc, hcl, hz, hCD, hC, h => by
    simp only [chkK, Bool.and_eq_true, beq_iff_eq, bne_iff_ne] at hc
    obtain ⟨⟨⟨⟨⟨hr, hsz⟩, hiz⟩, hjz⟩, hct⟩, hcs⟩ := hc
    simp only [LDK] at h
    refine ⟨fun _ => hCD w hC, fun h0 => (by rw [hr] at h0; cases h0), fun q hq => ?_⟩
    have hq' := hq
    rw [hr] at hq'
    simp only [List.mem_cons, List.not_mem_nil, or_false] at hq'
    rcases hq' with rfl | rfl
    · exact wpOpIn_mono (fun a' w' ⟨C', hsubC, hC', hl⟩ => ws_of_ldk hsel hnd t C' _ a' w' hct (hcl.set hq) (unlisted_set (Ne.symm hiz) hz) hsubC hC' hl) (h.1 w hC)
    · exact wpOpIn_mono (fun a' w' ⟨C', hsubC, hC', hl⟩ => by have := ws_of_ldk hsel hnd s C' _ a' w' hcs (hcl.set hq) (unlisted_set (Ne.symm hjz) hz) hsubC hC' hl; rw [← hsz] at this; exact this) (h.2 w hC)
  | .tri i t j s k u, C, listed, a, w, hc, hcl, hz, hCD, hC, h => by
    simp only [chkK, Bool.and_eq_true, beq_iff_eq, bne_iff_ne] at hc
    obtain ⟨⟨⟨⟨⟨⟨⟨⟨hr, hsz⟩, hsz2⟩, hiz⟩, hjz⟩, hkz⟩, hct⟩, hcs⟩, hcu⟩ := hc
    simp only [LDK] at h
    refine ⟨fun _ => hCD w hC, fun h0 => (by rw [hr] at h0; cases h0), fun q hq => ?_⟩
    have hq' := hq
    rw [hr] at hq'
    simp only [List.mem_cons, List.not_mem_nil, or_false] at hq'
    rcases hq' with rfl | rfl | rfl
    · exact wpOpIn_mono (fun a' w' ⟨C', hsubC, hC', hl⟩ => ws_of_ldk hsel hnd t C' _ a' w' hct (hcl.set hq) (unlisted_set (Ne.symm hiz) hz) hsubC hC' hl) (h.1 w hC)
    · exact wpOpIn_mono (fun a' w' ⟨C', hsubC, hC', hl⟩ => by have := ws_of_ldk hsel hnd s C' _ a' w' hcs (hcl.set hq) (unlisted_set (Ne.symm hjz) hz) hsubC hC' hl; rw [← hsz] at this; exact this) (h.2.1 w hC)
    · exact wpOpIn_mono (fun a' w' ⟨C', hsubC, hC', hl⟩ => by have := ws_of_ldk hsel hnd u C' _ a' w' hcu (hcl.set hq) (unlisted_set (Ne.symm hkz) hz) hsubC hC' hl; rw [← hsz2] at this; exact this) (h.2.2 w hC)
  | .one i k l, C, listed, a, w, hc, hcl, hz, hCD, hC, h => by
    simp only [LDK] at h
    cases ho : ops[i]? with
    | none => rw [ho] at h; exact h.elim
    | some o =>
      rw [ho] at h
      simp only at h
      have hnd' : ∀ (j : Nat) (o : Oper), ops[j]? = some o → nd o.op = true := fun j o hj => (Array.all_eq_true_iff_forall_mem.1 hnd) o (Array.mem_of_getElem? hj)
      have hun : ∀ q, isZ z q = true → listed.getD q false = false := fun q hq => by unfold isZ at hq; rw [beq_iff_eq] at hq; subst hq; exact hz
      have hti : i ≠ z → isZ z i = false := fun h => beq_eq_false_iff_ne.2 h
      match k, h, hc with
      | 0, ⟨v, hy, hl⟩, hc =>
        simp only [chkK, Bool.and_eq_true, bne_iff_ne] at hc
        obtain ⟨⟨⟨hf, hr⟩, hiz⟩, hc⟩ := hc
        exact WS.first (tl := isZ z) ho (hti hiz) (Region.noSelect_spec hsel) hnd' (D := fun _ => True) (.inl fun _ => trivial) l.size listed a w hcl (hCD w hC) hun (Region.free_spec ho hf) (by simpa using hr) hy
          (ws_of_ldk hsel hnd l C _ _ w hc (hcl.set (by simpa using hr)) (unlisted_set (Ne.symm hiz) hz) hCD hC hl)
      | 1, ⟨v, hy, hl⟩, hc =>
        simp only [chkK, Bool.and_eq_true, bne_iff_ne, Bool.or_eq_true, decide_eq_true_eq] at hc
        obtain ⟨⟨⟨⟨hf, hr⟩, hdep⟩, hiz⟩, hc⟩ := hc
        exact WS.first (tl := isZ z) ho (hti hiz) (Region.noSelect_spec hsel) hnd' (D := D) (.inr ⟨fun _ h => h, fun j oj hj htj => by
            unfold isZ at htj; rw [beq_iff_eq] at htj; subst htj
            rcases hdep with hd | hd
            · have := (Array.getElem?_eq_some_iff.1 hj).1; omega
            · exact .inr hd⟩) l.size listed a w hcl (hCD w hC) hun (Region.free_spec ho hf) (by simpa using hr) hy
          (ws_of_ldk hsel hnd l C _ _ w hc (hcl.set (by simpa using hr)) (unlisted_set (Ne.symm hiz) hz) hCD hC hl)
      | k + 2, h, hc =>
        simp only [chkK, Bool.and_eq_true, beq_iff_eq, bne_iff_ne] at hc
        obtain ⟨⟨hr, hiz⟩, hc⟩ := hc
        refine ⟨fun _ => hCD w hC, fun h0 => (by rw [hr] at h0; cases h0), fun j hj => ?_⟩
        rw [hr] at hj
        obtain rfl : j = i := by simpa using hj
        exact wpOpIn_mono (fun a' w' ⟨C', hsubC, hC', hl⟩ => ws_of_ldk hsel hnd l C' _ a' w' hc (hcl.set (by rw [hr]; simp)) (unlisted_set (Ne.symm hiz) hz) hsubC hC' hl) (h w hC)
end
def OT.z (n : Nat) : OT → Nat
  | .nil => n
  | .one _ _ t => t.z n
  | .fork _ t _ _ => t.z n
  | .tri _ t _ _ _ _ => t.z n
  | .last i => i
def chkKAll (ops : Array Oper) (ord : OT) : Bool :=
  Region.noSelect ops && noDefer ops && (ord.size == ops.size) && chkK ops (ord.z ops.size) ord (Array.replicate ops.size false)
section
variable {P : Program} {r : Option Nat} {N : Nat} {Q : Exit → Act → World → Prop} {e : Env} {ds : List Nat} {M : Mem0} {S : Nat → Prop} {w0 : World} {G : World → Prop}
def KD (P : Program) (r : Option Nat) (N : Nat) (ops : Array Oper) (Q : Exit → Act → World → Prop) (MD : Mem0) (GD : World → Prop) (ord : OT) (e : Env) (ds : List Nat) (M : Mem0) (S : Nat → Prop) (w0 : World) (G : World → Prop) : Prop :=
  ∀ a, Fr N e a → Dm ds a → LDK P r ops Q (Cls MD S w0 GD) (Cls M S w0 G) ord a
theorem wpM.keep [GS G] {id : Nat} {ops : Array Oper} (MD : Mem0) (GD : World → Prop) (ord : OT) (hm : P.follows .mixedOrders = true) (hc : chkKAll ops ord = true) (hM : SubM M MD) (hG : ∀ w, G w → GD w) (h : KD P r N ops Q MD GD ord e ds M S w0 G) : wpM P r N (.region id ops true) Q e ds M S w0 G := fun w hw hcg hg a hf hd => by
  simp only [chkKAll, Bool.and_eq_true, beq_iff_eq] at hc
  obtain ⟨⟨⟨h1, h2⟩, h3⟩, h6⟩ := hc
  refine wpIn_mono (wpIn_region_any (Q := Qn Q) hm ?_) (fun x a w hq => ?_)
  · rw [← h3]
    exact WS.any _ _ a _ (ws_of_ldk h1 h2 ord _ _ a _ (h3 ▸ h6) (fun q o hq _ => by rw [Array.getD_eq_getD_getElem?, Array.getElem?_replicate] at hq; split at hq <;> cases hq) (by rw [Array.getD_eq_getD_getElem?, Array.getElem?_replicate]; split <;> rfl) (fun w hw => ⟨hM.mem w hw.1, hw.2.1, hG w hw.2.2⟩)
      ⟨hw.ext (Chg.drew no w), hcg.trans (Chg.drew S w), GS.ext w _ hg (Chg.drew no w)⟩ (h a hf hd))
  · cases x <;> first | exact hq | exact hq.elim
variable {ops : Array Oper} {l : OT} {op : Op} {ty : TypeId} {pos : String} {after : Array Edge} {d : Nat} {v : Value} {i : Nat} {MD : Mem0} {GD : World → Prop}
theorem KD.nil (h : QM N Q .normal e ds M S w0 G) : KD P r N ops Q MD GD .nil e ds M S w0 G := fun a hf hd w hw => h w hw.1 hw.2.1 hw.2.2 a hf hd
theorem KD.val {g : Option (Nat × Bool)} (hi : ops[i]? = some ⟨some d, op, ty, pos, after, g⟩) (hg : Wtd ops e g true) (hv : OpP P op ty e v) (h : KD P r N ops Q MD GD l ((d, v) :: e) ds M S w0 G) (hnd : nd op = true := by rfl) (hd : Nat.blt d N = true := by rfl) :
    KD P r N ops Q MD GD (.one i 0 l) e ds M S w0 G := fun a hf hdm => by
  simp only [LDK, hi]
  exact ⟨v, .inl ⟨hg.wanted hf, hnd, fun w _ => hv w a.eval (fun x u hx => hf.eval hx) _ _ _ _⟩, h _ (hf.put hd v) hdm⟩
theorem KD.rd {g : Option (Nat × Bool)} (hi : ops[i]? = some ⟨some d, op, ty, pos, after, g⟩) (hg : Wtd ops e g true) (hv : ∀ w, Mem w MD → OpV P op ty e w v w) (h : KD P r N ops Q MD GD l ((d, v) :: e) ds M S w0 G) (hnd : nd op = true := by rfl) (hd : Nat.blt d N = true := by rfl) :
    KD P r N ops Q MD GD (.one i 1 l) e ds M S w0 G := fun a hf hdm => by
  simp only [LDK, hi]
  exact ⟨v, .inl ⟨hg.wanted hf, hnd, fun w hw => hv w hw.1 a.eval (fun x u hx => hf.eval hx) _ _ _ _⟩, h _ (hf.put hd v) hdm⟩
theorem KD.rdC {g : Option (Nat × Bool)} (hi : ops[i]? = some ⟨some d, op, ty, pos, after, g⟩) (hg : Wtd ops e g true) (hv : ∀ w, Mem w MD → Chg S w0 w → GD w → OpV P op ty e w v w) (h : KD P r N ops Q MD GD l ((d, v) :: e) ds M S w0 G) (hnd : nd op = true := by rfl) (hd : Nat.blt d N = true := by rfl) :
    KD P r N ops Q MD GD (.one i 1 l) e ds M S w0 G := fun a hf hdm => by
  simp only [LDK, hi]
  exact ⟨v, .inl ⟨hg.wanted hf, hnd, fun w hw => hv w hw.1 hw.2.1 hw.2.2 a.eval (fun x u hx => hf.eval hx) _ _ _ _⟩, h _ (hf.put hd v) hdm⟩
theorem KD.dropU {g : Option (Nat × Bool)} {k : Nat} (hk : Nat.blt k 2 = true) (hi : ops[i]? = some ⟨some d, op, ty, pos, after, g⟩) (hg : Wtd ops e g false) (h : KD P r N ops Q MD GD l ((d, undef) :: e) ds M S w0 G) (hd : Nat.blt d N = true := by rfl) :
    KD P r N ops Q MD GD (.one i k l) e ds M S w0 G := fun a hf hdm => by
  have hY : ∀ D, YA P ops D ⟨some d, op, ty, pos, after, g⟩ undef a := fun D => .inr ⟨hg.wanted (o := ⟨some d, op, ty, pos, after, g⟩) hf, rfl⟩
  match k, hk with
  | 0, _ => simp only [LDK, hi]; exact ⟨undef, hY _, h _ (hf.put hd undef) hdm⟩
  | 1, _ => simp only [LDK, hi]; exact ⟨undef, hY _, h _ (hf.put hd undef) hdm⟩
theorem KD.drop {g : Option (Nat × Bool)} {k : Nat} (hk : Nat.blt k 2 = true) (hi : ops[i]? = some ⟨some d, op, ty, pos, after, g⟩) (hg : Wtd ops e g false) (h : KD P r N ops Q MD GD l e ds M S w0 G) (hd : Nat.blt d N = true := by rfl) (hfresh : look e d = none := by rfl) :
    KD P r N ops Q MD GD (.one i k l) e ds M S w0 G := .dropU hk hi hg (fun a hf hdm => h a ⟨hf.1, fun t u hu => hf.2 t u (by
      rw [look_cons]
      by_cases hdt : d = t
      · subst hdt; rw [hfresh] at hu; cases hu
      · rw [if_neg hdt]; exact hu)⟩ hdm) hd
theorem KD.splitD {t : Nat} {p : Prop} [Decidable p] (ht : look e t = some (.bool (decide p))) (h1 : p → KD P r N ops Q MD GD l ((t, .bool true) :: e) ds M S w0 G) (h2 : ¬ p → KD P r N ops Q MD GD l ((t, .bool false) :: e) ds M S w0 G) :
    KD P r N ops Q MD GD l e ds M S w0 G := fun a hf hdm => by
  by_cases hp : p
  · exact h1 hp a (hf.know ht (decide_eq_true hp)) hdm
  · exact h2 hp a (hf.know ht (decide_eq_false hp)) hdm
theorem KD.splitB {t : Nat} {b : Bool} (ht : look e t = some (.bool b)) (h1 : b = true → KD P r N ops Q MD GD l ((t, .bool true) :: e) ds M S w0 G) (h2 : b = false → KD P r N ops Q MD GD l ((t, .bool false) :: e) ds M S w0 G) :
    KD P r N ops Q MD GD l e ds M S w0 G := fun a hf hdm => by
  cases hb : b with
  | true => exact h1 hb a (hf.know ht hb) hdm
  | false => exact h2 hb a (hf.know ht hb) hdm
theorem wpIn_mono2 {F : Fence} {n : Nat} {o : Oper} {a : Act} {w : World} {K K' : Act → World → Prop} {Q Q' : Exit → Act → World → Prop} (h : ∀ a w, K a w → K' a w) (hQ : ∀ c a w, Q (.panic c) a w → Q' (.panic c) a w) (hL : LetsOut Q → LetsOut Q')
    (hh : o.wpIn F n P a w K Q) : o.wpIn F n P a w K' Q' := by
  unfold Oper.wpIn at *
  refine ⟨hh.1, ?_⟩
  have hh := hh.2
  generalize (o.semAt F.round a.eval).run P w = r at *
  cases r with
  | ok x w' =>
    cases x <;> simp only [Oper.uponIn] at hh ⊢ <;>
      first
        | exact h _ _ hh
        | exact ⟨hh.1, CallsIn.mono hh.2 (fun e w'' he => by cases e <;> first | exact h _ _ he | exact hQ _ _ _ he | exact hL he)⟩
        | exact ⟨hh.1, RowsIn.mono hh.2 (fun _ _ he => h _ _ he)⟩
        | exact ⟨hh.1, RoundIn.mono hh.2 (fun e w'' he => by cases e <;> first | exact h _ _ he | exact hQ _ _ _ he | exact hL he)⟩
  | halt x w' => cases x <;> simp only [Oper.uponIn] at hh ⊢ <;> first | exact hQ _ _ _ hh | exact hh
def KQ (P : Program) (r : Option Nat) (N : Nat) (ops : Array Oper) (Q : Exit → Act → World → Prop) (D : World → Prop) (l : OT) : Exit → Act → World → Prop := fun x a w => x = .normal ∧ ∃ C' : World → Prop, (∀ w, C' w → D w) ∧ C' w ∧ LDK P r ops Q D C' l a
theorem KD.one {o : Oper} {k : Nat} (ho : ops[i]? = some o) (h : LM P r N ops (KQ P r N ops Q (Cls MD S w0 GD) l) [o] e ds M S w0 G) : KD P r N ops Q MD GD (.one i (k + 2) l) e ds M S w0 G := fun a hf hdm => by
  simp only [LDK, ho]
  intro w hw
  have h3 := h w hw.1 hw.2.1 hw.2.2 a hf hdm
  unfold wpOpIn
  rw [ho]
  unfold wpListIn at h3
  simp only
  split
  · rename_i hq; rw [if_pos hq] at h3
    exact wpIn_mono2 (fun a w h => h.2) (fun c a w h => by cases h.1) (fun ⟨a, w, h⟩ => by cases h.1) h3
  · rename_i hq; rw [if_neg hq] at h3
    exact ⟨fun _ _ => trivial, h3.2.2⟩
theorem KD.last {o : Oper} (ho : ops[i]? = some o) (h : LM P r N ops (Qn Q) [o] e ds M S w0 G) : KD P r N ops Q MD GD (.last i) e ds M S w0 G := fun a hf hdm => by
  simp only [LDK]
  intro w hw
  have h3 := h w hw.1 hw.2.1 hw.2.2 a hf hdm
  unfold wpOpIn
  rw [ho]
  unfold wpListIn at h3
  simp only
  split
  · rename_i hq; rw [if_pos hq] at h3; exact Oper.wpIn_mono (fun a w h => h) h3
  · rename_i hq; rw [if_neg hq] at h3; exact h3
theorem KD.fork {o o2 : Oper} {j : Nat} {s : OT} (ho : ops[i]? = some o) (ho2 : ops[j]? = some o2) (h : LM P r N ops (KQ P r N ops Q (Cls MD S w0 GD) l) [o] e ds M S w0 G) (h2 : LM P r N ops (KQ P r N ops Q (Cls MD S w0 GD) s) [o2] e ds M S w0 G) : KD P r N ops Q MD GD (.fork i l j s) e ds M S w0 G := fun a hf hdm => by
  have k1 := KD.one (k := 0) ho h a hf hdm
  have k2 := KD.one (k := 0) ho2 h2 a hf hdm
  simp only [LDK, ho] at k1
  simp only [LDK, ho2] at k2
  simp only [LDK]
  exact ⟨k1, k2⟩
theorem KD.tri {o o2 o3 : Oper} {j k : Nat} {s u : OT} (ho : ops[i]? = some o) (ho2 : ops[j]? = some o2) (ho3 : ops[k]? = some o3) (h : LM P r N ops (KQ P r N ops Q (Cls MD S w0 GD) l) [o] e ds M S w0 G) (h2 : LM P r N ops (KQ P r N ops Q (Cls MD S w0 GD) s) [o2] e ds M S w0 G) (h3 : LM P r N ops (KQ P r N ops Q (Cls MD S w0 GD) u) [o3] e ds M S w0 G) : KD P r N ops Q MD GD (.tri i l j s k u) e ds M S w0 G := fun a hf hdm => by
  have k1 := KD.one (k := 0) ho h a hf hdm
  have k2 := KD.one (k := 0) ho2 h2 a hf hdm
  have k3 := KD.one (k := 0) ho3 h3 a hf hdm
  simp only [LDK, ho] at k1
  simp only [LDK, ho2] at k2
  simp only [LDK, ho3] at k3
  simp only [LDK]
  exact ⟨k1, k2, k3⟩
theorem QM.one (hM : SubM M MD) (hG : ∀ w, G w → GD w) (h : KD P r N ops Q MD GD l e ds M S w0 G) : QM N (KQ P r N ops Q (Cls MD S w0 GD) l) .normal e ds M S w0 G := fun w hm hc hg a hf hd =>
  ⟨rfl, Cls M S w0 G, fun w hw => ⟨hM.mem w hw.1, hw.2.1, hG w hw.2.2⟩, ⟨hm, hc, hg⟩, h a hf hd⟩
end
abbrev bs (l : List UInt8) : ByteArray := ⟨l.toArray⟩
abbrev vS (l : List UInt8) : Value := .string (bs l)
theorem bs_size (l : List UInt8) : (bs l).size = l.length := by rw [Lib.size_eq]
theorem bs_list (l : List UInt8) : (bs l).toList = l := by rw [Lib.toList_data]
section
variable {P : Program} {ty : TypeId} {e : Env} {t u : TypeId} {x y lo hi : Operand} {l a b : List UInt8}
theorem ov_slenL (ht : P.underlying t = some .string) (hx : ev e x = some (vS l)) : OpP P (.call { callee := .builtin .len, args := #[x], argTypes := #[t] }) ty e (.int .i64 l.length) := by
  have := ov_slen (P := P) (ty := ty) ht hx; rwa [bs_size] at this
theorem beq_dec (a b : List UInt8) : (a == b) = decide (a = b) := by rw [Bool.eq_iff_iff]; simp
theorem ov_seqlL (hx : ev e x = some (vS a)) (hy : ev e y = some (vS b)) : OpP P (.binOp .eql t x y u) ty e (.bool (decide (a = b))) := by
  have := ov_seql (P := P) (ty := ty) (t := t) (u := u) hx hy; rwa [bs_list, bs_list, beq_dec] at this
theorem ov_sneqL (hx : ev e x = some (vS a)) (hy : ev e y = some (vS b)) : OpP P (.binOp .neq t x y u) ty e (.bool (decide (a ≠ b))) := by
  have := ov_sneq (P := P) (ty := ty) (t := t) (u := u) hx hy; rw [bs_list, bs_list, beq_dec] at this
  rwa [show (!decide (a = b)) = decide (a ≠ b) by rw [decide_not]] at this
theorem ov_sidxL {k : IntKind} {i : Int} (ht : P.underlying t = some .string) (hx : ev e x = some (vS l)) (hy : ev e y = some (.int k i)) (h : 0 ≤ i ∧ i < l.length) : OpP P (.index t x y) ty e (.int .u8 ((l.getD i.toNat 0).toNat : Nat)) := fun w ρ hρ _ _ _ _ => by
  have h2 : (bs l)[i.toNat]? = some (l.getD i.toNat 0) := by
    have hlt : i.toNat < l.length := by omega
    rw [getElem?_pos (bs l) i.toNat (by rw [bs_size]; exact hlt), List.getD_eq_getElem?_getD, List.getElem?_eq_getElem hlt]
    rfl
  simp only [execOp, Instr.index, asIntOf, hρ x _ hx, hρ y _ hy, Sem.run_bind, Sem.run_pure, Result.andThen, run_underlying ht, if_pos h.1, h2, Sem.run_map]
theorem ov_sidxN {k : IntKind} {i : Nat} (ht : P.underlying t = some .string) (hx : ev e x = some (vS l)) (hy : ev e y = some (.int k (i : Nat))) (h : i < l.length) : OpP P (.index t x y) ty e (.int .u8 ((l.getD i 0).toNat : Nat)) := by
  have := ov_sidxL (P := P) (ty := ty) ht hx hy om; simpa using this
theorem ov_sslcL {k k' : IntKind} {i j : Int} (ht : P.underlying t = some .string) (hx : ev e x = some (vS l)) (hl : ev e lo = some (.int k i)) (hh : ev e hi = some (.int k' j)) (h1 : 0 ≤ i) (h2 : i ≤ j) (h3 : j ≤ l.length) :
    OpP P (.slice t x (some lo) (some hi) none) ty e (vS ((l.drop i.toNat).take (j.toNat - i.toNat))) := fun w ρ hρ _ _ _ _ => by
  have a1 : 0 ≤ j ∧ j ≤ ((bs l).size : Int) := by rw [bs_size]; omega
  have a2 : 0 ≤ i ∧ i ≤ ((j.toNat : Nat) : Int) := by omega
  have h4 : (bs l).extract i.toNat j.toNat = bs ((l.drop i.toNat).take (j.toNat - i.toNat)) := Lib.extract_eq _ _ _
  simp only [execOp, Instr.sliceAt, Instr.slice, Instr.sliceBounds, Instr.sliceBound, asIntOf, hρ x _ hx, hρ lo _ hl, hρ hi _ hh, Sem.run_bind, Sem.run_pure, Result.andThen, run_underlying ht, Option.map_some, Option.map_none, if_pos a1, if_pos a2, h4, Option.isSome_none, Bool.false_eq_true, if_false, Sem.run_map]
end
def Bld (T e n0 b : Nat) (l : List UInt8) (m : Mem0) : Prop :=
  n0 ≤ b ∧ ∃ p v, (p = Value.pointer none ∨ p = Value.pointer (some ⟨b, 0, none⟩)) ∧
    ((v = Value.slice none 0 0 ∧ l = [] ∧ m = [(b, .cells #[p, v] T (0, 0))]) ∨
     ∃ g cap cur fz, v = Value.slice (some ⟨g, 0, none⟩) l.length cap ∧ n0 ≤ g ∧ g ≠ b ∧ m = [(b, .cells #[p, v] T (0, 0)), (g, .cells cur e fz)] ∧ fz.2 ≤ l.length ∧ l.length ≤ cap ∧ cap ≤ maxLen ∧ cur.size = cap ∧ cur.toList.take l.length = Lib.byteCells l)
theorem Bld.of {T e n0 b : Nat} {l : List UInt8} {w : World} (h : Lib.IsBuilderF T e n0 b (Lib.byteCells l) w) : ∃ m, Bld T e n0 b l m ∧ Mem w m ∧ ∀ p ∈ m, p.1 = b ∨ ∃ cur fz, p.2 = .cells cur e fz := by
  obtain ⟨p, hp, h⟩ : ∃ p, (p = Value.pointer none ∨ p = Value.pointer (some ⟨b, 0, none⟩)) ∧ Lib.BuilderAtF T e n0 b p (Lib.byteCells l) w := by
    rcases h with h | h
    · exact ⟨_, .inl rfl, h⟩
    · exact ⟨_, .inr rfl, h⟩
  obtain ⟨hb, v, h1, ⟨_, h2⟩, h3⟩ := h
  rw [Lib.byteCells_length, Nat.mul_one] at h2
  rcases h2 with ⟨rfl, h0⟩ | ⟨g, cap, cur, fz, rfl, hg, h4, h5, h6, h7, h8, h9⟩
  · have : l = [] := List.eq_nil_of_length_eq_zero h0
    subst this
    refine ⟨_, ⟨hb, p, _, hp, .inl ⟨rfl, rfl, rfl⟩⟩, ⟨by simp, fun q hq => ?_⟩, fun q hq => ?_⟩
    · rw [List.mem_singleton] at hq; subst hq; exact h1
    · rw [List.mem_singleton] at hq; subst hq; exact .inl rfl
  · have hgb : g ≠ b := fun q => h3 (by simp [Value.ownBlock, q])
    refine ⟨_, ⟨hb, p, _, hp, .inr ⟨g, cap, cur, fz, rfl, hg, hgb, rfl, h5, h6, h7, by omega, h9⟩⟩, ⟨by simp; exact fun q => hgb q.symm, fun q hq => ?_⟩, fun q hq => ?_⟩
    · simp only [List.mem_cons, List.not_mem_nil, or_false] at hq
      rcases hq with rfl | rfl
      · exact h1
      · exact h4
    · simp only [List.mem_cons, List.not_mem_nil, or_false] at hq
      rcases hq with rfl | rfl
      · exact .inl rfl
      · exact .inr ⟨_, _, rfl⟩
section
variable {P : Program} {r : Option Nat} {N : Nat} {Q : Exit → Act → World → Prop} {e : Env} {ds : List Nat} {M : Mem0} {S : Nat → Prop} {w0 : World} {G : World → Prop}
variable {ops : Array Oper} {l : List Oper} {op : Op} {ty : TypeId} {pos : String} {after : Array Edge} {d : Nat}
end
def SeqCS (P : Program) (g : FuncId) (lb : Array Value) (A : List (Array Value)) (Rd : World → Prop) (mp0 : Mem0) (T : Nat → Mem0 → Prop) (fin : Prop) : Prop :=
  ∀ (l : Nat) (J : Nat → Mem0 → World → Prop) (Jx : World → Prop) (W : World), (fin ∨ ∀ m w, ¬ J A.length m w) → (∀ k m w, J k m w → Rd w) → JL W.heap.size J Jx →
    (∀ k a m w1, A[k]? = some a → T (k + 1) m → J k m w1 → YR P l a w1 (fun b w2 => ((b = true ∧ J (k + 1) m w2) ∨ (b = false ∧ Jx w2)) ∧ KW W.heap.size w1 w2)) →
    J 0 mp0 W → Ret P g (#[.func (.yield l) #[] #[]] ++ lb) W (fun _ w' => (∃ m, T A.length m ∧ J A.length m w') ∨ Jx w')
theorem SeqCS.enter {P : Program} {f : FuncId} {fn : Func} {c : Code} {lb : List Value} {A : List (Array Value)} {Rd : World → Prop} {mp0 : Mem0} {T : Nat → Mem0 → Prop} {fin : Prop}
    (hf : P.funcs[f]? = some fn) (hb : fn.body = some c) {N : Nat} (hN : fn.ntmps = N) (hl : Nat.ble (lb.length + 1) N = true)
    (h : ∀ (l n : Nat) (J : Nat → Mem0 → World → Prop) (Jx : World → Prop) (w0 : World), n = w0.heap.size → (fin ∨ ∀ m w, ¬ J A.length m w) → (∀ k m w, J k m w → Rd w) → JL n J Jx →
      (∀ k a m w, A[k]? = some a → T (k + 1) m → J k m w → YR P l a w (fun b w2 => ((b = true ∧ J (k + 1) m w2) ∨ (b = false ∧ Jx w2)) ∧ KW n w w2)) →
      wpM P none N c (fnPost P fn (fun _ w' => (∃ m, T A.length m ∧ J A.length m w') ∨ Jx w')) (args0 0 (.func (.yield l) #[] #[] :: lb)) [] mp0 all0 w0 (fun w => J 0 mp0 w ∧ top w)) : SeqCS P f lb.toArray A Rd mp0 T fin := fun l J Jx W hfin hr hL hy h0 => by
  have h1 : (#[Value.func (.yield l) #[] #[]] ++ lb.toArray) = (Value.func (.yield l) #[] #[] :: lb).toArray := by simp
  rw [h1]
  refine Ret.enterG hf hb hN (by simpa using hl) mp0 all0 (fun w => J 0 mp0 w ∧ top w) (hL.mem _ _ _ h0) ⟨h0, trivial⟩ ?_
  exact h l W.heap.size J Jx W rfl hfin hr hL hy
section
variable {P : Program} {r : Option Nat} {N : Nat} {Q : Exit → Act → World → Prop} {e : Env} {ds : List Nat} {M m : Mem0} {w0 w1 : World} {n k : Nat} {J : Nat → Mem0 → World → Prop} {Jx K : World → Prop}
variable {ops : Array Oper} {rest : List Oper} {ty : TypeId} {pos : String} {after : Array Edge} {d : Nat}
end
section range
variable {P : Program} {N : Nat} {Q : Exit → Act → World → Prop} {e : Env} {ds : List Nat} {M : Mem0} {S : Nat → Prop} {w0 : World} {G : World → Prop}
variable {g : Operand} {ps : Array Tmp} {assign body : Code} {gf : FuncId} {lb : Array Value} {A : List (Array Value)} {Rd : World → Prop} {mp0 : Mem0} {T : Nat → Mem0 → Prop} {fin : Prop} {α β : Type}
end range
abbrev inn (m : Mem0) (k : Nat) (x : Mem0) : Prop := ∀ p ∈ x, k ≤ p.1 ∨ ∃ q ∈ m, q.1 = p.1
theorem inn_refl (m : Mem0) (k : Nat) : inn m k m := fun p hp => .inr ⟨p, hp, rfl⟩
theorem inn_trans {m x y : Mem0} {k : Nat} (h : inn m k x) (h2 : inn x k y) : inn m k y := fun p hp => by
  rcases h2 p hp with q | ⟨q, hq, e⟩
  · exact .inl q
  · rw [← e]; exact h q hq
theorem inM_0 {b : Nat} {o : Obj} {m : Mem0} : inM ((b, o) :: m) b := ⟨_, List.mem_cons_self .., rfl⟩
theorem inM_1 {b : Nat} {o : Obj} {p : Nat × Obj} {m : Mem0} : inM (p :: (b, o) :: m) b := ⟨_, List.mem_cons_of_mem _ (List.mem_cons_self ..), rfl⟩
theorem upd_m {m m' M : Mem0} {T : Value → Mem0 → Prop} {u : Value} {w w' : World} (hT : T u m') (hm : Mem w' M) (hs : SubM M (m' ++ [])) (hc : Chg (inM m) w w') (hin : inn m w.heap.size m') : Upd m T w u w' := by
  rw [List.append_nil] at hs
  exact ⟨hc, m', hT, hs.mem w' hm, hin⟩
theorem inn_of {m x : Mem0} {k : Nat} (h : ∀ p ∈ x, ∃ q ∈ m, q.1 = p.1) : inn m k x := fun p hp => .inr (h p hp)
theorem inn_cons {m : Mem0} {k b : Nat} {o : Obj} {x : Mem0} (h : inM m b) (h2 : inn m k x) : inn m k ((b, o) :: x) := fun p hp => by
  rcases List.mem_cons.1 hp with rfl | hp
  · exact .inr h
  · exact h2 p hp
theorem inn_app {m x y : Mem0} {k : Nat} (h : inn m k x) (h2 : inn m k y) : inn m k (x ++ y) := fun p hp => by
  rcases List.mem_append.1 hp with hp | hp
  · exact h p hp
  · exact h2 p hp
theorem inn_of_mem {m x : Mem0} {k : Nat} (h : ∀ p ∈ x, p ∈ m) : inn m k x := fun p hp => .inr ⟨p, h p hp, rfl⟩
theorem inn_tr {m x y : Mem0} {k : Nat} (h : inn x k y) (h2 : ∀ p ∈ x, p ∈ m) : inn m k y := fun p hp => by
  rcases h p hp with q | ⟨q, hq, e⟩
  · exact .inl q
  · exact .inr ⟨q, h2 q hq, e⟩
theorem Upd.imp {m : Mem0} {T T' : Value → Mem0 → Prop} {w w' : World} {u : Value} (h : Upd m T w u w') (k : ∀ u m', T u m' → T' u m') : Upd m T' w u w' := by
  obtain ⟨h1, m', h2, h3, h4⟩ := h
  exact ⟨h1, m', k _ _ h2, h3, h4⟩
theorem inM_inn {m y : Mem0} {k : Nat} (hin : inn m k y) : ∀ q ∈ y, q.1 < k → inM m q.1 := fun q hq hlt => by
  rcases hin q hq with e | e
  · omega
  · exact e
theorem inn_hd2 {m : Mem0} {a a' : Nat × Obj} {R : Mem0} {k : Nat} (hin : inn m k (a :: R)) (h : a'.1 = a.1) : inn m k (a' :: R) := fun p hp => by
  rcases List.mem_cons.1 hp with rfl | hp
  · rw [h]; exact hin a (List.mem_cons_self ..)
  · exact hin p (List.mem_cons_of_mem _ hp)
theorem Sr.keep0 {α : Type} {f : α → List Value} {s n cap : Nat} {xs : List α} {ad : Option Addr} {S : Nat → Prop} {w w' : World} (h : Sr f s xs (.slice ad n cap) w) (k : Chg S w w') (hS : 0 < xs.length → ¬ S (adB ad)) : Sr f s xs (.slice ad n cap) w' := by
  obtain ⟨ad', cap', h1, h2, h3⟩ := h
  refine ⟨ad', cap', h1, h2, fun hx => ?_⟩
  obtain ⟨b, off, cs, E, fz, h4, h5, h6⟩ := h3 hx
  exact ⟨b, off, cs, E, fz, h4, k.get h5 (by have := hS hx; rw [(Value.slice.inj h1).1, h4] at this; exact this), h6⟩
section
variable {P : Program} {r : Option Nat} {N : Nat} {Q : Exit → Act → World → Prop} {e : Env} {ds : List Nat} {M : Mem0} {S : Nat → Prop} {w0 : World} {G : World → Prop}
variable {ops : Array Oper} {l : List Oper} {ty : TypeId} {pos : String} {after : Array Edge} {d : Nat} {x y : Operand} {t : TypeId}
end
section
variable {P : Program} {r : Option Nat} {N : Nat} {Q : Exit → Act → World → Prop} {e : Env} {ds : List Nat} {M : Mem0} {S : Nat → Prop} {w0 : World} {G : World → Prop}
variable {ops : Array Oper} {l : List Oper} {op : Op} {ty : TypeId} {pos : String} {after : Array Edge} {d : Nat}
end
end Go.Eng
namespace Go.Eng
open Go Go.RowKit Go.Lib Go.Sort
section
variable {P : Program} {r : Option Nat} {N : Nat} {Q : Exit → Go.Act → World → Prop} {e : Env} {ds : List Nat} {M : Mem0} {S : Nat → Prop} {w0 : World} {G : World → Prop}
variable {ops : Array Oper} {l : List Oper} {ty : TypeId} {pos : String} {after : Array Edge} {d : Nat} {x y : Operand} {t : TypeId}
end
section
variable {P : Program} {r : Option Nat} {N : Nat} {Q : Exit → Go.Act → World → Prop} {e : Env} {ds : List Nat} {M : Mem0} {S : Nat → Prop} {w0 : World} {G : World → Prop}
variable {ops : Array Oper} {l : List Oper} {ty : TypeId} {pos : String} {after : Array Edge} {d : Nat} {t : TypeId}
end
section
variable {P : Program} {r : Option Nat} {N : Nat} {Q : Exit → Go.Act → World → Prop} {e : Env} {ds : List Nat} {M : Mem0} {S : Nat → Prop} {w0 : World} {G : World → Prop}
variable {ops : Array Oper} {l : List (Nat × Nat)} {op : Op} {ty : TypeId} {pos : String} {after : Array Edge} {d i : Nat}
theorem LD.dropV {j t : Nat} {b : Bool} (hi : ops[i]? = some ⟨some d, op, ty, pos, after, some (j, b)⟩) (hj : (ops[j]?).bind (·.dst) = some t) (ht : look e t = some undef) (h : LD P r N ops Q l ((d, undef) :: e) ds M S w0 G) (hd : Nat.blt d N = true := by rfl) :
    LD P r N ops Q ((i, 2) :: l) e ds M S w0 G := fun a hf hdm => by
  have hw : Region.wanted ⟨some d, op, ty, pos, after, some (j, b)⟩ (yielded ops a.tmps) = false := by
    simp only [Region.wanted, yielded, hj, Option.bind_some, hf.2 t _ ht, undef]; rfl
  have hl := h _ (hf.put hd undef) hdm
  simp only [LDA, hi]
  intro w hC
  unfold wpOpIn
  rw [hi]
  simp only
  rw [if_neg (by rw [hw]; simp)]
  exact ⟨fun _ _ => trivial, Cls M S w0 G, fun _ h => h, hC, hl⟩
theorem LD.callT [GS G] {gd : Option (Nat × Bool)} {g : FuncId} {args : Array Value} {T : Nat → Value → Mem0 → Prop} (hi : ops[i]? = some ⟨some d, op, ty, pos, after, gd⟩) (hgd : Wtd ops e gd true) (hc : ∀ w, OpC P op ty e w g args) (hmono : ∀ n n' u m, n' ≤ n → T n u m → T n' u m)
    (h : ∀ w, Mem w M → Chg S w0 w → G w → Ret P g args w (fun u w' => Ext w w' ∧ ∃ m, T w.heap.size u m ∧ Mem w' m ∧ ∀ p ∈ m, w.heap.size ≤ p.1))
    (hk : ∀ u m, T w0.heap.size u m → (∀ p ∈ m, w0.heap.size ≤ p.1) → LD P r N ops Q l ((d, u) :: e) ds (M ++ m) S w0 G) (hnd : nd op = true := by rfl) (hd : Nat.blt d N = true := by rfl) :
    LD P r N ops Q ((i, 2) :: l) e ds M S w0 G :=
  .callG hi hgd hc (fun w hm hcg hg => h w hm hcg hg) (fun w u w' hm hcg hg ⟨he, m, hT, hm', hge⟩ => by
    refine ⟨M ++ m, fun w h => h.sub (List.sublist_append_left _ _), ⟨Mem.perm (M := m ++ M) ⟨?_, fun p hp => ?_⟩ List.perm_append_comm, hcg.step he (fun _ _ q => q.elim), GS.ext w w' hg he⟩, hk u m (hmono _ _ u m hcg.size hT) (fun p hp => Nat.le_trans hcg.size (hge p hp))⟩
    · rw [List.map_append]
      refine List.nodup_append.2 ⟨hm'.1, hm.1, ?_⟩
      intro x hx y hy hxy
      obtain ⟨p, hp, rfl⟩ := List.mem_map.1 hx
      obtain ⟨q, hq, rfl⟩ := List.mem_map.1 hy
      have := hge p hp
      have := hm.lt hq
      omega
    · rcases List.mem_append.1 hp with hp | hp
      · exact hm'.2 p hp
      · exact he.get (hm.2 p hp)) hnd hd
end
end Go.Eng
namespace Go.Eng
open Go Go.Proofs Go.RowKit
theorem kq1 {P : Program} {r : Option Nat} {N : Nat} {Q : Exit → Go.Act → World → Prop} {e : Env} {ds : List Nat} {M MD : Mem0} {S : Nat → Prop} {w0 : World} {G GD : World → Prop} {ops : Array Oper} {l : OT} (h : KD P r N ops Q MD GD l e ds M S w0 G) (hM : SubM M MD := by exact au1) (hG : ∀ w, G w → GD w := by exact fun _ _ => trivial) : QM N (KQ P r N ops Q (Cls MD S w0 GD) l) .normal e ds M S w0 G := QM.one hM hG h
instance : Agg Try.prog 3 := ⟨_, Try.isAgg3⟩
instance : Agg Try.prog 4 := ⟨_, Try.isAgg4⟩
instance : Agg Try.prog 22 := ⟨_, Try.isAgg22⟩
instance : Agg Try.prog 23 := ⟨_, Try.isAgg23⟩
instance : Agg Try.prog 24 := ⟨_, Try.isAgg24⟩
instance : Agg Try.prog 38 := ⟨_, Try.isAgg38⟩
instance : Agg Try.prog 43 := ⟨_, Try.isAgg43⟩
instance : Agg Try.prog 49 := ⟨_, Try.isAgg49⟩
instance : Agg Try.prog 57 := ⟨_, Try.isAgg57⟩
instance : Agg Try.prog 58 := ⟨_, Try.isAgg58⟩
instance : SzO Try.prog 3 := ⟨_, Try.sizeOf3⟩
instance : SzO Try.prog 4 := ⟨_, Try.sizeOf4⟩
instance : SzO Try.prog 9 := ⟨_, Try.sizeOf9⟩
instance : SzO Try.prog 22 := ⟨_, Try.sizeOf22⟩
instance : SzO Try.prog 23 := ⟨_, Try.sizeOf23⟩
instance : SzO Try.prog 24 := ⟨_, Try.sizeOf24⟩
instance : SzO Try.prog 26 := ⟨_, Try.sizeOf26⟩
instance : SzO Try.prog 38 := ⟨_, Try.sizeOf38⟩
instance : SzO Try.prog 43 := ⟨_, Try.sizeOf43⟩
instance : SzO Try.prog 49 := ⟨_, Try.sizeOf49⟩
instance : SzO Try.prog 57 := ⟨_, Try.sizeOf57⟩
instance : SzO Try.prog 58 := ⟨_, Try.sizeOf58⟩
instance : Und Try.prog 26 := ⟨_, Try.underlying26⟩
instance : Und Try.prog 35 := ⟨_, Try.underlying35⟩
instance : Und Try.prog 40 := ⟨_, Try.underlying40⟩
instance : Und Try.prog 45 := ⟨_, Try.underlying45⟩
instance : Und Try.prog 60 := ⟨_, Try.underlying60⟩
instance : Und Try.prog 63 := ⟨_, Try.underlying63⟩
instance : Und Try.prog 67 := ⟨_, Try.underlying67⟩
instance : Und Try.prog 72 := ⟨_, Try.underlying72⟩
instance : Und Try.prog 78 := ⟨_, Try.underlying78⟩
instance : Und Try.prog 86 := ⟨_, Try.underlying86⟩
instance : Und Try.prog 102 := ⟨_, Try.underlying102⟩
instance : Und Try.prog 107 := ⟨_, Try.underlying107⟩
instance : Und Try.prog 134 := ⟨_, Try.underlying134⟩
end Go.Eng
namespace Go.Eng
open Go Go.RowKit
structure Wrd where
  k : Int
  t : List UInt8
  n : Int
  p : Int
deriving DecidableEq
instance : Inhabited Wrd := ⟨⟨0, [], 0, 0⟩⟩
def fW (w : Wrd) : List Value := [.int .i64 w.k, .string (bs w.t), .int .i64 w.n, .int .i64 w.p]
def letN (n : Int) : Bool := decide (97 ≤ n) && decide (n ≤ 122)
def digN (n : Int) : Bool := decide (48 ≤ n) && decide (n ≤ 57)
def markN (n : Int) : Bool := decide (n = 123) || decide (n = 125) || decide (n = 59) || decide (n = 46) || decide (n = 61)
def letB (c : UInt8) : Bool := letN (c.toNat : Nat)
def digB (c : UInt8) : Bool := digN (c.toNat : Nat)
def markB (c : UInt8) : Bool := markN (c.toNat : Nat)
def notNl (c : UInt8) : Bool := decide (((c.toNat : Nat) : Int) ≠ 10)
def runL (p : UInt8 → Bool) (s : List UInt8) (i : Nat) : Nat := ((s.drop i).takeWhile p).length
theorem runL_le (p : UInt8 → Bool) (s : List UInt8) (i : Nat) : runL p s i ≤ s.length - i := by
  unfold runL; have := (List.takeWhile_sublist (l := s.drop i) p).length_le; rwa [List.length_drop] at this
theorem drop_get {s : List UInt8} {i : Nat} (h : i < s.length) : s.drop i = s.getD i 0 :: s.drop (i + 1) := by
  have e := getq (0 : UInt8) h
  rw [List.getElem?_eq_getElem h] at e
  rw [List.drop_eq_getElem_cons h, Option.some.inj e]
theorem runL_step {p : UInt8 → Bool} {s : List UInt8} {i : Nat} (h : i < s.length) (hp : p (s.getD i 0) = true) : runL p s i = runL p s (i + 1) + 1 := by
  unfold runL; rw [drop_get h, List.takeWhile_cons, if_pos hp]; rfl
theorem runL_stop {p : UInt8 → Bool} {s : List UInt8} {i : Nat} (h : i < s.length) (hp : p (s.getD i 0) = false) : runL p s i = 0 := by
  unfold runL; rw [drop_get h, List.takeWhile_cons, if_neg (by rw [hp]; simp)]; rfl
theorem runL_end {p : UInt8 → Bool} {s : List UInt8} {i : Nat} (h : s.length ≤ i) : runL p s i = 0 := by
  have := runL_le p s i; omega
def numF : Nat → List UInt8 → Int → Int
  | 0, _, n => n
  | _ + 1, [], n => n
  | k + 1, c :: l, n => if digB c then numF k l (n * 10 + ((c.toNat : Nat) : Int) - 48) else n
theorem numF_step {s : List UInt8} {i k : Nat} {n : Int} (h : i < s.length) (hp : digB (s.getD i 0) = true) : numF (k + 1) (s.drop i) n = numF k (s.drop (i + 1)) (n * 10 + (((s.getD i 0).toNat : Nat) : Int) - 48) := by
  rw [drop_get h, numF, if_pos hp]
theorem numF_stop {s : List UInt8} {i k : Nat} {n : Int} (h : s.length ≤ i ∨ digB (s.getD i 0) = false) : numF k (s.drop i) n = n := by
  cases k with
  | zero => rfl
  | succ k =>
    rcases Nat.lt_or_ge i s.length with hi | hi
    · rcases h with h | h
      · omega
      · rw [drop_get hi, numF, if_neg (by rw [h]; simp)]
    · rw [List.drop_of_length_le hi]; rfl
def oneO (s : List UInt8) (i : Nat) : Wrd × Nat × Bool :=
  if letB (s.getD i 0) then (⟨1, (s.drop i).take (runL letB s i), 0, (i : Nat)⟩, i + runL letB s i, decide (runL letB s i ≤ 12))
  else if digB (s.getD i 0) then (⟨2, [], numF 9 (s.drop i) 0, (i : Nat)⟩, i + runL digB s i, decide (runL digB s i ≤ 9) && (decide ((((s.getD i 0).toNat : Nat) : Int) ≠ 48) || decide (runL digB s i = 1)))
  else (⟨3, (s.drop i).take 1, 0, (i : Nat)⟩, i + 1, markB (s.getD i 0))
theorem one_lt {s : List UInt8} {i : Nat} (h : i < s.length) : i < (oneO s i).2.1 ∧ (oneO s i).2.1 ≤ s.length := by
  unfold oneO
  split
  · rename_i hl
    have h1 := runL_step h hl
    have h2 := runL_le letB s i
    simp only; omega
  · split
    · rename_i hl
      have h1 := runL_step h hl
      have h2 := runL_le digB s i
      simp only; omega
    · simp only; omega
def blankB (c : UInt8) : Bool := decide (((c.toNat : Nat) : Int) = 32) || decide (((c.toNat : Nat) : Int) = 9) || decide (((c.toNat : Nat) : Int) = 10)
def hashB (c : UInt8) : Bool := decide (((c.toNat : Nat) : Int) = 35)
def badO (r : Wrd × Nat × Bool) (i : Nat) (last : Int) (out : List Wrd) : Bool := !r.2.2 || (decide (last = (i : Nat)) && decide (r.1.k ≠ 3) && decide ((out.getD (out.length - 1) default).k ≠ 3))
def scanF : Nat → List UInt8 → Nat → Int → List Wrd → List Wrd × Int × Int
  | 0, _, _, _, out => (out, 0, 0)
  | f + 1, s, i, last, out =>
    if s.length ≤ i then (out, 0, 0)
    else if blankB (s.getD i 0) then scanF f s (i + 1) last out
    else if hashB (s.getD i 0) then scanF f s (i + runL notNl s i) last out
    else if badO (oneO s i) i last out then ([], (i : Nat), 5)
    else scanF f s (oneO s i).2.1 ((oneO s i).2.1 : Nat) (out ++ [(oneO s i).1])
theorem hash_nl {c : UInt8} (h : hashB c = true) : notNl c = true := by
  unfold hashB at h; unfold notNl; simp only [decide_eq_true_eq] at h ⊢; omega
theorem scanF_fuel (s : List UInt8) : ∀ (f g i : Nat) (last : Int) (out : List Wrd), s.length - i ≤ f → s.length - i ≤ g → scanF f s i last out = scanF g s i last out
  | 0, 0, _, _, _, _, _ => rfl
  | 0, g + 1, i, last, out, h1, h2 => by rw [scanF, scanF, if_pos om]
  | f + 1, 0, i, last, out, h1, h2 => by rw [scanF, scanF, if_pos om]
  | f + 1, g + 1, i, last, out, h1, h2 => by
    simp only [scanF]
    split
    · rfl
    rename_i hi
    have hlt : i < s.length := by omega
    split
    · exact scanF_fuel s f g _ _ _ om om
    split
    · rename_i hh
      have h3 := runL_step hlt (hash_nl hh)
      exact scanF_fuel s f g _ _ _ om om
    split
    · rfl
    · have h4 := one_lt hlt
      exact scanF_fuel s f g _ _ _ om om
def scanR (s : List UInt8) (i : Nat) (last : Int) (out : List Wrd) : List Wrd × Int × Int := scanF (s.length - i) s i last out
theorem scanR_end {s : List UInt8} {i : Nat} {last : Int} {out : List Wrd} (h : s.length ≤ i) : scanR s i last out = (out, 0, 0) := by
  unfold scanR; rw [show s.length - i = 0 by omega]; rfl
theorem scanR_step {s : List UInt8} {i : Nat} {last : Int} {out : List Wrd} (h : i < s.length) : scanR s i last out =
    if blankB (s.getD i 0) then scanR s (i + 1) last out
    else if hashB (s.getD i 0) then scanR s (i + runL notNl s i) last out
    else if badO (oneO s i) i last out then ([], (i : Nat), 5)
    else scanR s (oneO s i).2.1 ((oneO s i).2.1 : Nat) (out ++ [(oneO s i).1]) := by
  unfold scanR
  obtain ⟨f, hf⟩ : ∃ f, s.length - i = f + 1 := ⟨s.length - i - 1, by omega⟩
  rw [hf, scanF, if_neg om]
  split
  · exact scanF_fuel s _ _ _ _ _ om om
  split
  · rename_i hh
    have h3 := runL_step h (hash_nl hh)
    exact scanF_fuel s _ _ _ _ _ om om
  split
  · rfl
  · have h4 := one_lt h
    exact scanF_fuel s _ _ _ _ _ om om
theorem scanR_blank {s : List UInt8} {i : Nat} {last : Int} {out : List Wrd} (h : i < s.length) (hb : blankB (s.getD i 0) = true) : scanR s i last out = scanR s (i + 1) last out := by rw [scanR_step h, if_pos hb]
theorem scanR_hash {s : List UInt8} {i j : Nat} {last : Int} {out : List Wrd} (h : i < s.length) (hb : blankB (s.getD i 0) = false) (hh : hashB (s.getD i 0) = true) (hj : i + runL notNl s i = j) : scanR s i last out = scanR s j last out := by
  rw [scanR_step h, if_neg (by rw [hb]; simp), if_pos hh, hj]
theorem scanR_bad {s : List UInt8} {i : Nat} {last : Int} {out : List Wrd} (h : i < s.length) (hb : blankB (s.getD i 0) = false) (hh : hashB (s.getD i 0) = false) (hq : badO (oneO s i) i last out = true) : scanR s i last out = ([], (i : Int), 5) := by
  rw [scanR_step h, if_neg (by rw [hb]; simp), if_neg (by rw [hh]; simp), if_pos hq]
theorem scanR_word {s : List UInt8} {i : Nat} {last : Int} {out : List Wrd} (h : i < s.length) (hb : blankB (s.getD i 0) = false) (hh : hashB (s.getD i 0) = false) (hq : badO (oneO s i) i last out = false) : scanR s i last out = scanR s (oneO s i).2.1 ((oneO s i).2.1 : Nat) (out ++ [(oneO s i).1]) := by
  rw [scanR_step h, if_neg (by rw [hb]; simp), if_neg (by rw [hh]; simp), if_neg (by rw [hq]; simp)]
def scanO (s : List UInt8) : List Wrd × Int × Int := if 8000 < s.length then ([], 8000, 6) else scanR s 0 (-1) []
structure COp where
  k : Int
  a : Int
  b : Int
structure CLk where
  sh : Bool
  sl : Int
  cr : Int
  rd : Int
  wr : Int
instance : Inhabited COp := ⟨⟨0, 0, 0⟩⟩
instance : Inhabited CLk := ⟨⟨false, 0, 0, 0, 0⟩⟩
def fO (o : COp) : List Value := [.int .i64 o.k, .int .i64 o.a, .int .i64 o.b]
def fL (x : CLk) : List Value := [.bool x.sh, .int .i64 x.sl, .int .i64 x.cr, .int .i64 x.rd, .int .i64 x.wr]
/-! the first that is such -/
def fixI {α : Type} (p : α → Bool) (xs : List α) : Int := if xs.any p then (xs.findIdx p : Nat) else -1
theorem any_snoc {α : Type} {p : α → Bool} {xs : List α} {i : Nat} (d : α) (h : i < xs.length) : (xs.take (i + 1)).any p = ((xs.take i).any p || p (xs.getD i d)) := by
  rw [take_snoc d h, List.any_append]; simp
theorem fix_hit {α : Type} {p : α → Bool} {xs : List α} {i : Nat} (d : α) (h0 : (xs.take i).any p = false) (h : i < xs.length) (hp : p (xs.getD i d) = true) : fixI p xs = (i : Nat) := by
  have e := getq d h
  have h1 : xs.any p = true := List.any_eq_true.2 ⟨_, List.mem_of_getElem? e, hp⟩
  have h2 : xs.findIdx p = i := by
    rw [List.findIdx_eq h]
    refine ⟨by rw [List.getElem?_eq_getElem h] at e; rw [Option.some.inj e]; exact hp, fun j hj => ?_⟩
    have h3 := List.any_eq_false.1 h0 xs[j] (by rw [List.mem_take_iff_getElem]; exact ⟨j, by omega, rfl⟩)
    simpa using h3
  unfold fixI; rw [if_pos h1, h2]
theorem fix_miss {α : Type} {p : α → Bool} {xs : List α} (h : xs.any p = false) : fixI p xs = -1 := by
  unfold fixI; rw [h]; rfl
theorem fix_pos {α : Type} {p : α → Bool} {xs : List α} : decide (0 ≤ fixI p xs) = xs.any p := by
  unfold fixI
  cases xs.any p
  · rfl
  · simp
/-! ops -/
def takesB (k : Int) : Bool := decide (2 ≤ k) && decide (k ≤ 5)
def passB (k : Int) : Bool := decide (k = 1) || decide (k = 7) || decide (k = 8) || decide (k = 11)
def loA (k : Int) : Int := if k = 1 then 1 else if k = 2 ∨ k = 3 ∨ k = 4 ∨ k = 6 ∨ k = 9 then 0 else if k = 5 then 0 else if k = 7 then 1 else if k = 10 then 1 else -1
def hiA (k : Int) : Int := if k = 1 then 16 else if k = 2 ∨ k = 3 ∨ k = 4 ∨ k = 6 ∨ k = 9 then 7 else if k = 5 then 7 else if k = 7 then 64 else if k = 10 then 16 else -1
def loB (k : Int) : Int := if k = 5 then 1 else -1
def hiB (k : Int) : Int := if k = 5 then 64 else -1
def hasB (lo hi n : Int) : Bool := if lo = -1 then decide (n = 0) else decide (lo ≤ n) && decide (n ≤ hi)
def kindB (k : Int) : Bool := decide (1 ≤ k) && decide (k ≤ 11)
def rightB (o : COp) : Bool := kindB o.k && hasB (loA o.k) (hiA o.k) o.a && hasB (loB o.k) (hiB o.k) o.b
theorem takes_row (k : Int) : [(2 : Int), 3, 4, 5].any (fun y => decide (k = y)) = takesB k := by
  unfold takesB; simp only [List.any_cons, List.any_nil, Bool.or_false]
  by_cases h : 2 ≤ k ∧ k ≤ 5
  · have : k = 2 ∨ k = 3 ∨ k = 4 ∨ k = 5 := by omega
    rcases this with rfl | rfl | rfl | rfl <;> rfl
  · rw [show decide (k = 2) = false from decide_eq_false om, show decide (k = 3) = false from decide_eq_false om, show decide (k = 4) = false from decide_eq_false om, show decide (k = 5) = false from decide_eq_false om]
    by_cases h2 : 2 ≤ k
    · rw [show decide (k ≤ 5) = false from decide_eq_false om]; simp
    · rw [show decide (2 ≤ k) = false from decide_eq_false h2]; rfl
theorem pass_row (k : Int) : [(1 : Int), 7, 8, 11].any (fun y => decide (k = y)) = passB k := by
  unfold passB; simp only [List.any_cons, List.any_nil, Bool.or_false, Bool.or_assoc]
/-! names -/
/-! sections: the steps to the end, and the ticks -/
def stopB (lock : Int) (o : COp) : Bool := decide (o.k = 11) || (decide (o.k = 6) && decide (o.a = lock))
def secT (lock : Int) : List COp → Nat × Int
  | [] => (0, 0)
  | o :: l => if stopB lock o then (0, 0) else ((secT lock l).1 + 1, (if o.k = 1 then o.a else 0) + (secT lock l).2)
theorem sec_step {lock : Int} {xs : List COp} {i : Nat} (h : i < xs.length) (hs : stopB lock (xs.getD i default) = false) :
    secT lock (xs.drop i) = ((secT lock (xs.drop (i + 1))).1 + 1, (if (xs.getD i default).k = 1 then (xs.getD i default).a else 0) + (secT lock (xs.drop (i + 1))).2) := by
  have e := getq (default : COp) h
  rw [List.getElem?_eq_getElem h] at e
  rw [List.drop_eq_getElem_cons h, Option.some.inj e]
  rw [secT, if_neg (by rw [hs]; simp)]
theorem sec_stop {lock : Int} {xs : List COp} {i : Nat} (h : i < xs.length) (hs : stopB lock (xs.getD i default) = true) : secT lock (xs.drop i) = (0, 0) := by
  have e := getq (default : COp) h
  rw [List.getElem?_eq_getElem h] at e
  rw [List.drop_eq_getElem_cons h, Option.some.inj e]
  rw [secT, if_pos hs]
theorem sec_end {lock : Int} {xs : List COp} {i : Nat} (h : xs.length ≤ i) : secT lock (xs.drop i) = (0, 0) := by
  rw [List.drop_of_length_le h]; rfl
def smallO (xs : List COp) : Prop := xs.length ≤ 20 ∧ ∀ o ∈ xs, -1125899906842624 ≤ o.a ∧ o.a ≤ 1125899906842624
theorem smallO.at {xs : List COp} (h : smallO xs) (i : Nat) : -1125899906842624 ≤ (xs.getD i default).a ∧ (xs.getD i default).a ≤ 1125899906842624 := by
  by_cases hi : i < xs.length
  · exact h.2 _ (List.mem_of_getElem? (getq default hi))
  · rw [List.getD_eq_getElem?_getD, List.getElem?_eq_none om]; decide
/-! which ops fit -/
def secO (xs : List COp) (i : Nat) : Nat × Int := secT (xs.getD i default).a (xs.drop (i + 1))
def fitsO (fv : Bool) (xs : List COp) (ls : List CLk) (progs : Int) (i : Nat) : Int :=
  if (takesB (xs.getD i default).k || decide ((xs.getD i default).k = 6)) && decide ((xs.getD i default).a ≥ ls.length) || decide ((xs.getD i default).k = 9) && decide ((xs.getD i default).a ≥ progs) then 4
  else if decide ((xs.getD i default).k = 3) && !(ls.getD (xs.getD i default).a.toNat default).sh then 1
  else if !takesB (xs.getD i default).k then 0
  else if decide ((secO xs i).2 < 1) || decide ((secO xs i).2 > (ls.getD (xs.getD i default).a.toNat default).cr) || fv && decide (((i + 1 + (secO xs i).1 : Nat) : Int) = xs.length) then 13 else 0
def mayB (xs : List COp) : Bool := decide (0 < xs.length) && decide (xs.length ≤ 12) && xs.all rightB
def ckO (fv : Bool) (xs : List COp) (ls : List CLk) (progs : Int) : Int × Int :=
  if mayB xs then
    match (List.range xs.length).find? (fun j => decide (fitsO fv xs ls progs j ≠ 0)) with
    | some j => ((j : Int), fitsO fv xs ls progs j)
    | none => if fv && !xs.any (fun o => passB o.k) then (0, 1) else (0, 0)
  else (0, 1)
theorem right_a {o : COp} (h : rightB o = true) : 0 ≤ o.a ∧ o.a ≤ 64 ∧ (2 ≤ o.k ∧ o.k ≤ 6 ∨ o.k = 9 → o.a ≤ 7) := by
  unfold rightB kindB hasB loA hiA at h
  simp only [Bool.and_eq_true, decide_eq_true_eq] at h
  obtain ⟨⟨⟨h1, h2⟩, h3⟩, -⟩ := h
  have : o.k = 1 ∨ o.k = 2 ∨ o.k = 3 ∨ o.k = 4 ∨ o.k = 5 ∨ o.k = 6 ∨ o.k = 7 ∨ o.k = 8 ∨ o.k = 9 ∨ o.k = 10 ∨ o.k = 11 := by omega
  rcases this with hk | hk | hk | hk | hk | hk | hk | hk | hk | hk | hk <;> rw [hk] at h3 ⊢ <;> simp at h3 <;> omega
theorem may_at {xs : List COp} (h : mayB xs = true) {i : Nat} (hi : i < xs.length) : rightB (xs.getD i default) = true := by
  unfold mayB at h; simp only [Bool.and_eq_true, List.all_eq_true] at h
  exact h.2 _ (List.mem_of_getElem? (getq default hi))
theorem may_small {xs : List COp} (h : mayB xs = true) : smallO xs := by
  have h' := h
  unfold mayB at h; simp only [Bool.and_eq_true, List.all_eq_true, decide_eq_true_eq] at h
  exact ⟨by omega, fun o ho => by have := right_a (h.2 o ho); omega⟩
theorem ck_none {fv : Bool} {xs : List COp} {ls : List CLk} {progs : Int} (h : mayB xs = false) : ckO fv xs ls progs = (0, 1) := by unfold ckO; rw [h]; rfl
theorem ck_at {fv : Bool} {xs : List COp} {ls : List CLk} {progs : Int} {i : Nat} (h : mayB xs = true) (h0 : ∀ j, j < i → fitsO fv xs ls progs j = 0) (hi : i < xs.length) (hf : fitsO fv xs ls progs i ≠ 0) : ckO fv xs ls progs = ((i : Int), fitsO fv xs ls progs i) := by
  unfold ckO
  rw [if_pos h, (List.find?_range_eq_some (i := i)).2 ⟨by simpa using hf, List.mem_range.2 hi, fun j hj => by simp [h0 j hj]⟩]
theorem ck_end {fv : Bool} {xs : List COp} {ls : List CLk} {progs : Int} (h : mayB xs = true) (h0 : ∀ j, j < xs.length → fitsO fv xs ls progs j = 0) : ckO fv xs ls progs = if fv && !xs.any (fun o => passB o.k) then (0, 1) else (0, 0) := by
  unfold ckO
  rw [if_pos h, List.find?_range_eq_none.2 (fun j hj => by simp [h0 j hj])]
theorem before_succ {g : Nat → Int} {i : Nat} (h : ∀ j, j < i → g j = 0) (hi : g i = 0) : ∀ j, j < i + 1 → g j = 0 := fun j hj => by
  rcases Nat.lt_or_ge j i with h1 | h1
  · exact h j h1
  · rw [show j = i by omega]; exact hi
/-! more ticks, more locks, more programs -/
def mx0 (c : Int) : Int := if 0 > c then 0 else c
/-! ### What is gone over -/
def eachA (xs : List COp) : List (Array Value) := (List.range xs.length).map (fun i => #[.int .i64 (i : Nat), .agg (fO (xs.getD i default)).toArray])
theorem eachA_get {xs : List COp} {i : Nat} (h : i < xs.length) : (eachA xs)[i]? = some #[.int .i64 (i : Nat), .agg (fO (xs.getD i default)).toArray] := by
  unfold eachA; rw [List.getElem?_map, List.getElem?_range h]; rfl
theorem eachA_inv {xs : List COp} {k : Nat} {a : Array Value} (h : (eachA xs)[k]? = some a) : k < xs.length ∧ a = #[.int .i64 (k : Nat), .agg (fO (xs.getD k default)).toArray] := by
  have hk : k < xs.length := by
    have := (List.getElem?_eq_some_iff.1 h).1
    simpa [eachA] using this
  rw [eachA_get hk] at h
  exact ⟨hk, (Option.some.inj h).symm⟩
theorem eachA_len (xs : List COp) : (eachA xs).length = xs.length := by simp [eachA]
def secV (xs : List COp) (i : Nat) : Value := .agg #[.int .i64 (i : Nat), .int .i64 ((i + 1 + (secO xs i).1 : Nat)), .int .i64 (xs.getD i default).a, .int .i64 (secO xs i).2]
def fB (l : List UInt8) : List Value := [.string (bs l)]
def nmW : List (List UInt8) := [[], [99, 111, 109, 112, 117, 116, 101], [108, 111, 99, 107], [114, 101, 97, 100], [116, 114, 121], [116, 105, 109, 101, 100], [117, 110, 108, 111, 99, 107], [115, 108, 101, 101, 112], [121, 105, 101, 108, 100], [115, 112, 97, 119, 110], [119, 101, 105, 103, 104, 116], [101, 120, 105, 116]]
def nmT (k : Int) : List UInt8 := if 0 ≤ k ∧ k < 12 then nmW.getD k.toNat [] else []
theorem nmT_empty (k : Int) : decide (nmT k ≠ []) = kindB k := by
  unfold kindB
  by_cases h : 0 ≤ k ∧ k < 12
  · have : k = 0 ∨ k = 1 ∨ k = 2 ∨ k = 3 ∨ k = 4 ∨ k = 5 ∨ k = 6 ∨ k = 7 ∨ k = 8 ∨ k = 9 ∨ k = 10 ∨ k = 11 := by omega
    rcases this with rfl | rfl | rfl | rfl | rfl | rfl | rfl | rfl | rfl | rfl | rfl | rfl <;> decide +kernel
  · unfold nmT; rw [if_neg h]
    by_cases h2 : 1 ≤ k
    · rw [show decide (k ≤ 11) = false from decide_eq_false om]; simp
    · rw [show decide (1 ≤ k) = false from decide_eq_false h2]; simp
abbrev wProg : List UInt8 := [112, 114, 111, 103]
abbrev wForever : List UInt8 := [102, 111, 114, 101, 118, 101, 114]
def isR (ws : List Wrd) (i : Nat) (k : Int) (t : List UInt8) : Bool := decide (i < ws.length) && decide ((ws.getD i default).k = k) && decide ((ws.getD i default).t = t)
def kindT (t : List UInt8) : Int := mx0 (fixI (fun y => decide (t = y)) nmW)
def kindR (ws : List Wrd) (i : Nat) : Int := if (decide (i < ws.length) && decide ((ws.getD i default).k = 1)) then kindT (ws.getD i default).t else 0
def refK (t : List UInt8) : Nat → Int
  | 0 => 0
  | k + 1 => if t = nmW.getD (k + 1) [] then ((k + 1 : Nat) : Int) else refK t k
theorem refK_eq (t : List UInt8) : refK t 11 = kindT t := by
  by_cases h : t ∈ nmW
  · have : t = [] ∨ t ∈ nmW.tail := by simpa [nmW] using h
    simp only [nmW, List.mem_cons, List.not_mem_nil, or_false] at h
    rcases h with rfl | rfl | rfl | rfl | rfl | rfl | rfl | rfl | rfl | rfl | rfl | rfl <;> decide +kernel
  · have h2 : fixI (fun y => decide (t = y)) nmW = -1 := fix_miss (by
      rw [List.any_eq_false]; intro y hy; simp only [decide_eq_true_eq]; rintro rfl; exact h hy)
    unfold kindT; rw [h2]
    simp only [nmW, List.mem_cons, List.not_mem_nil, or_false, not_or] at h
    obtain ⟨-, a1, a2, a3, a4, a5, a6, a7, a8, a9, a10, a11⟩ := h
    simp only [refK, nmW, List.getD_cons_succ, List.getD_cons_zero, if_neg a1, if_neg a2, if_neg a3, if_neg a4, if_neg a5, if_neg a6, if_neg a7, if_neg a8, if_neg a9, if_neg a10, if_neg a11]
    rfl
theorem kindR_lt {ws : List Wrd} {i : Nat} (h : kindR ws i ≠ 0) : i < ws.length := by
  unfold kindR at h; split at h
  · rename_i q; simp only [Bool.and_eq_true, decide_eq_true_eq] at q; exact q.1
  · exact absurd rfl h
def numR (ws : List Wrd) (i : Nat) (lo hi : Int) : Nat × Int × Int :=
  if lo = -1 then (i, 0, 0)
  else if (decide (ws.length ≤ i) || decide ((ws.getD i default).k ≠ 2)) then (i, 5, 0)
  else if hasB lo hi (ws.getD i default).n then (i + 1, 0, (ws.getD i default).n) else (i, 1, 0)
theorem numR_le {ws : List Wrd} {i : Nat} {lo hi : Int} (h : i ≤ ws.length) : i ≤ (numR ws i lo hi).1 ∧ (numR ws i lo hi).1 ≤ ws.length := by
  unfold numR; split
  · exact ⟨Nat.le_refl _, h⟩
  split
  · exact ⟨Nat.le_refl _, h⟩
  rename_i q
  simp only [Bool.or_eq_true, decide_eq_true_eq, not_or] at q
  split
  · simp only; omega
  · exact ⟨Nat.le_refl _, h⟩
def num2 (ws : List Wrd) (a : Nat × Int × Int) (lo hi : Int) : Nat × Int × Int := if a.2.1 ≠ 0 then (a.1, a.2.1, 0) else numR ws a.1 lo hi
def opA (ws : List Wrd) (i : Nat) : Nat × Int × Int := numR ws (i + 1) (loA (kindR ws i)) (hiA (kindR ws i))
def opB (ws : List Wrd) (i : Nat) : Nat × Int × Int := num2 ws (opA ws i) (loB (kindR ws i)) (hiB (kindR ws i))
def opR (ws : List Wrd) (i ahead : Nat) : Nat × Int × COp :=
  if kindR ws i = 0 then (i, 5, ⟨0, 0, 0⟩)
  else if 12 ≤ ahead then (i, 6, ⟨0, 0, 0⟩)
  else if (opB ws i).2.1 ≠ 0 then ((opB ws i).1, (opB ws i).2.1, ⟨kindR ws i, (opA ws i).2.2, (opB ws i).2.2⟩)
  else if isR ws (opB ws i).1 3 [59] then ((opB ws i).1 + 1, 0, ⟨kindR ws i, (opA ws i).2.2, (opB ws i).2.2⟩)
  else ((opB ws i).1, 5, ⟨kindR ws i, (opA ws i).2.2, (opB ws i).2.2⟩)
theorem opB_le {ws : List Wrd} {i : Nat} (h : kindR ws i ≠ 0) : i < (opB ws i).1 ∧ (opB ws i).1 ≤ ws.length := by
  have h1 := kindR_lt h
  have h2 := numR_le (ws := ws) (i := i + 1) (lo := loA (kindR ws i)) (hi := hiA (kindR ws i)) h1
  unfold opB num2
  split
  · unfold opA; simp only; omega
  · have h3 := numR_le (ws := ws) (i := (opA ws i).1) (lo := loB (kindR ws i)) (hi := hiB (kindR ws i)) h2.2
    unfold opA at h3 ⊢; omega
theorem isR_lt {ws : List Wrd} {i : Nat} {k : Int} {t : List UInt8} (h : isR ws i k t = true) : i < ws.length := by
  unfold isR at h; simp only [Bool.and_eq_true, decide_eq_true_eq] at h; exact h.1.1
theorem opR_lt {ws : List Wrd} {i ahead : Nat} (h : (opR ws i ahead).2.1 = 0) : i < (opR ws i ahead).1 ∧ (opR ws i ahead).1 ≤ ws.length := by
  unfold opR at h ⊢
  split at h
  · cases h
  rename_i h1
  rw [if_neg h1]
  split at h
  · cases h
  rename_i h2
  rw [if_neg h2]
  split at h
  · rename_i h3; exact absurd h h3
  rename_i h3
  rw [if_neg h3]
  split at h
  · rename_i h4
    rw [if_pos h4]
    have := opB_le h1; have := isR_lt h4
    simp only; omega
  · cases h
def loopP : Nat → List Wrd → Nat → List COp → List COp × Int × Int
  | 0, _, i, _ => ([], (i : Nat), 5)
  | f + 1, ws, i, ops =>
    if isR ws i 3 [125] then (if ops.length = 0 then ([], (i : Nat), 4) else (ops, ((i + 1 : Nat) : Int), 0))
    else if (opR ws i ops.length).2.1 ≠ 0 then ([], ((opR ws i ops.length).1 : Nat), (opR ws i ops.length).2.1)
    else loopP f ws (opR ws i ops.length).1 (ops ++ [(opR ws i ops.length).2.2])
theorem loopP_fuel (ws : List Wrd) : ∀ (f g i : Nat) (ops : List COp), ws.length - i + 1 ≤ f → ws.length - i + 1 ≤ g → loopP f ws i ops = loopP g ws i ops
  | 0, _, i, _, h, _ => absurd h om
  | _ + 1, 0, i, _, _, h => absurd h om
  | f + 1, g + 1, i, ops, h1, h2 => by
    simp only [loopP]
    split
    · rfl
    split
    · rfl
    · rename_i h3 h4
      have := opR_lt (Classical.not_not.1 h4)
      exact loopP_fuel ws f g _ _ om om
def loopR (ws : List Wrd) (i : Nat) (ops : List COp) : List COp × Int × Int := loopP (ws.length - i + 1) ws i ops
theorem loopR_done {ws : List Wrd} {i : Nat} {ops : List COp} (h : isR ws i 3 [125] = true) : loopR ws i ops = if ops.length = 0 then ([], (i : Int), 4) else (ops, ((i + 1 : Nat) : Int), 0) := by
  unfold loopR; rw [loopP, if_pos h]
theorem loopR_bad {ws : List Wrd} {i : Nat} {ops : List COp} (h : isR ws i 3 [125] = false) (h2 : (opR ws i ops.length).2.1 ≠ 0) : loopR ws i ops = ([], ((opR ws i ops.length).1 : Int), (opR ws i ops.length).2.1) := by
  unfold loopR; rw [loopP, if_neg (by rw [h]; simp), if_pos h2]
theorem loopR_next {ws : List Wrd} {i : Nat} {ops : List COp} (h : isR ws i 3 [125] = false) (h2 : (opR ws i ops.length).2.1 = 0) : loopR ws i ops = loopR ws (opR ws i ops.length).1 (ops ++ [(opR ws i ops.length).2.2]) := by
  have h3 := opR_lt h2
  unfold loopR; rw [loopP, if_neg (by rw [h]; simp), if_neg (by rw [h2]; simp)]
  exact loopP_fuel ws _ _ _ _ om om
def headR (ws : List Wrd) (i : Nat) : Bool × Nat := (isR ws (i + 1) 1 wForever, if isR ws (i + 1) 1 wForever then i + 2 else i + 1)
def bodyR (ws : List Wrd) (i : Nat) : List COp × Int × Int :=
  if isR ws i 1 wProg then (if isR ws (headR ws i).2 3 [123] then loopR ws ((headR ws i).2 + 1) [] else ([], ((headR ws i).2 : Int), 5)) else ([], (i : Int), 5)
def parseO (ws : List Wrd) (p : Int) : Bool × List COp × Int × Int :=
  if p < 0 ∨ (ws.length : Int) < p then (false, [], 0, 5)
  else (decide ((bodyR ws p.toNat).2.2 = 0) && (headR ws p.toNat).1, bodyR ws p.toNat)
/-! what is parsed may be -/
end Go.Eng
namespace Go.Eng
open Go Go.Proofs Go.RowKit
theorem letter_spec (n : Int) (w : World) : Ret Try.prog 41 #[.int .u8 n] w (fun v w' => v = .bool (letN n) ∧ Ext w w') := by
 refine Ret.enterM Try.func41 rfl Try.ntmps41 rfl ([]) (no) (Mem.nil w) ?_
 refine wR <| LM.as rfl <| nB [(0, _)] <| LM.mv rfl <| LM.val (ov_geq rfl rfl) <| LM.mv rfl ?_
 refine LM.splitD (t := 5) rfl (fun h1 => ?_) (fun h1 => ?_)
 ·
  refine LM.sp 5 rfl rfl rfl <| LM.mv rfl <| LM.sp 5 rfl rfl rfl <| LM.val (ov_leq rfl rfl) <| LM.val (ov_pickT rfl rfl) <| LM.as rfl <| nA [(2, _)] <| wpM.ret ?_
  refine qL Try.results41 rfl fun w' hm' hc' hg' => ?_
  refine ⟨?_, hc'⟩; simp only [resV, letN]; congr 1; first | (rw [decide_eq_false (show ¬ 97 ≤ n by omega)]; rfl) | (rw [decide_eq_true (show 97 ≤ n by omega)]; rfl)
 refine LM.dr 5 rfl rfl rfl <| LM.dr 5 rfl rfl rfl <| LM.val (ov_pickF rfl rfl) <| LM.as rfl <| nA [(2, _)] <| wpM.ret ?_
 refine qL Try.results41 rfl fun w' hm' hc' hg' => ?_
 refine ⟨?_, hc'⟩; simp only [resV, letN]; congr 1; first | (rw [decide_eq_false (show ¬ 97 ≤ n by omega)]; rfl) | (rw [decide_eq_true (show 97 ≤ n by omega)]; rfl)
theorem digit_spec (n : Int) (w : World) : Ret Try.prog 42 #[.int .u8 n] w (fun v w' => v = .bool (digN n) ∧ Ext w w') := by
 refine Ret.enterM Try.func42 rfl Try.ntmps42 rfl ([]) (no) (Mem.nil w) ?_
 refine wR <| LM.as rfl <| nB [(0, _)] <| LM.mv rfl <| LM.val (ov_geq rfl rfl) <| LM.mv rfl ?_
 refine LM.splitD (t := 5) rfl (fun h1 => ?_) (fun h1 => ?_)
 ·
  refine LM.sp 5 rfl rfl rfl <| LM.mv rfl <| LM.sp 5 rfl rfl rfl <| LM.val (ov_leq rfl rfl) <| LM.val (ov_pickT rfl rfl) <| LM.as rfl <| nA [(2, _)] <| wpM.ret ?_
  refine qL Try.results42 rfl fun w' hm' hc' hg' => ?_
  refine ⟨?_, hc'⟩; simp only [resV, digN]; congr 1; first | (rw [decide_eq_false (show ¬ 48 ≤ n by omega)]; rfl) | (rw [decide_eq_true (show 48 ≤ n by omega)]; rfl)
 refine LM.dr 5 rfl rfl rfl <| LM.dr 5 rfl rfl rfl <| LM.val (ov_pickF rfl rfl) <| LM.as rfl <| nA [(2, _)] <| wpM.ret ?_
 refine qL Try.results42 rfl fun w' hm' hc' hg' => ?_
 refine ⟨?_, hc'⟩; simp only [resV, digN]; congr 1; first | (rw [decide_eq_false (show ¬ 48 ≤ n by omega)]; rfl) | (rw [decide_eq_true (show 48 ≤ n by omega)]; rfl)
theorem mark_spec (n : Int) (w : World) : Ret Try.prog 43 #[.int .u8 n] w (fun v w' => v = .bool (markN n) ∧ Ext w w') := by
 refine Ret.enterM Try.func43 rfl Try.ntmps43 rfl ([]) (no) (Mem.nil w) ?_
 refine wR <| LM.as rfl <| nB [(0, _)] <| LM.mv rfl <| LM.val (ov_eql rfl rfl) <| LM.mv rfl ?_
 refine LM.splitD (t := 5) rfl (fun h1 => ?_) (fun h1 => ?_)
 ·
  refine LM.dr 5 rfl rfl rfl <| LM.dr 5 rfl rfl rfl <| LM.val (ov_pickT rfl rfl) <| LM.mv rfl <| LM.dr 9 rfl rfl rfl <| LM.dr 9 rfl rfl rfl <| LM.val (ov_pickT rfl rfl) <| LM.mv rfl <| LM.dr 13 rfl rfl rfl <| LM.dr 13 rfl rfl rfl <| LM.val (ov_pickT rfl rfl) <| LM.mv rfl <| LM.dr 17 rfl rfl rfl <| LM.dr 17 rfl rfl rfl <| LM.val (ov_pickT rfl rfl) <| LM.as rfl <| nA [(2, _)] <| wpM.ret ?_
  refine qL Try.results43 rfl fun w' hm' hc' hg' => ?_
  refine ⟨?_, hc'⟩; simp only [resV, markN]; simp only [h1, decide_true, decide_false, Bool.true_and, Bool.false_and, Bool.and_true, Bool.and_false, Bool.not_true, Bool.not_false, Bool.true_or, Bool.false_or, Bool.or_true, Bool.or_false, ne_eq, not_true_eq_false, not_false_eq_true, Bool.and_self]
 refine LM.sp 5 rfl rfl rfl <| LM.mv rfl <| LM.sp 5 rfl rfl rfl <| LM.val (ov_eql rfl rfl) <| LM.val (ov_pickF rfl rfl) <| LM.mv rfl ?_
 refine LM.splitD (t := 9) rfl (fun h2 => ?_) (fun h2 => ?_)
 ·
  refine LM.dr 9 rfl rfl rfl <| LM.dr 9 rfl rfl rfl <| LM.val (ov_pickT rfl rfl) <| LM.mv rfl <| LM.dr 13 rfl rfl rfl <| LM.dr 13 rfl rfl rfl <| LM.val (ov_pickT rfl rfl) <| LM.mv rfl <| LM.dr 17 rfl rfl rfl <| LM.dr 17 rfl rfl rfl <| LM.val (ov_pickT rfl rfl) <| LM.as rfl <| nA [(2, _)] <| wpM.ret ?_
  refine qL Try.results43 rfl fun w' hm' hc' hg' => ?_
  refine ⟨?_, hc'⟩; simp only [resV, markN]; simp only [h1, h2, decide_true, decide_false, Bool.true_and, Bool.false_and, Bool.and_true, Bool.and_false, Bool.not_true, Bool.not_false, Bool.true_or, Bool.false_or, Bool.or_true, Bool.or_false, ne_eq, not_true_eq_false, not_false_eq_true, Bool.and_self]
 refine LM.sp 9 rfl rfl rfl <| LM.mv rfl <| LM.sp 9 rfl rfl rfl <| LM.val (ov_eql rfl rfl) <| LM.val (ov_pickF rfl rfl) <| LM.mv rfl ?_
 refine LM.splitD (t := 13) rfl (fun h3 => ?_) (fun h3 => ?_)
 ·
  refine LM.dr 13 rfl rfl rfl <| LM.dr 13 rfl rfl rfl <| LM.val (ov_pickT rfl rfl) <| LM.mv rfl <| LM.dr 17 rfl rfl rfl <| LM.dr 17 rfl rfl rfl <| LM.val (ov_pickT rfl rfl) <| LM.as rfl <| nA [(2, _)] <| wpM.ret ?_
  refine qL Try.results43 rfl fun w' hm' hc' hg' => ?_
  refine ⟨?_, hc'⟩; simp only [resV, markN]; simp only [h1, h2, h3, decide_true, decide_false, Bool.true_and, Bool.false_and, Bool.and_true, Bool.and_false, Bool.not_true, Bool.not_false, Bool.true_or, Bool.false_or, Bool.or_true, Bool.or_false, ne_eq, not_true_eq_false, not_false_eq_true, Bool.and_self]
 refine LM.sp 13 rfl rfl rfl <| LM.mv rfl <| LM.sp 13 rfl rfl rfl <| LM.val (ov_eql rfl rfl) <| LM.val (ov_pickF rfl rfl) <| LM.mv rfl ?_
 refine LM.splitD (t := 17) rfl (fun h4 => ?_) (fun h4 => ?_)
 ·
  refine LM.dr 17 rfl rfl rfl <| LM.dr 17 rfl rfl rfl <| LM.val (ov_pickT rfl rfl) <| LM.as rfl <| nA [(2, _)] <| wpM.ret ?_
  refine qL Try.results43 rfl fun w' hm' hc' hg' => ?_
  refine ⟨?_, hc'⟩; simp only [resV, markN]; simp only [h1, h2, h3, h4, decide_true, decide_false, Bool.true_and, Bool.false_and, Bool.and_true, Bool.and_false, Bool.not_true, Bool.not_false, Bool.true_or, Bool.false_or, Bool.or_true, Bool.or_false, ne_eq, not_true_eq_false, not_false_eq_true, Bool.and_self]
 refine LM.sp 17 rfl rfl rfl <| LM.mv rfl <| LM.sp 17 rfl rfl rfl <| LM.val (ov_eql rfl rfl) <| LM.val (ov_pickF rfl rfl) <| LM.as rfl <| nA [(2, _)] <| wpM.ret ?_
 refine qL Try.results43 rfl fun w' hm' hc' hg' => ?_
 refine ⟨?_, hc'⟩; simp only [resV, markN]; simp only [h1, h2, h3, h4, decide_true, decide_false, Bool.true_and, Bool.false_and, Bool.and_true, Bool.and_false, Bool.not_true, Bool.not_false, Bool.true_or, Bool.false_or, Bool.or_true, Bool.or_false, ne_eq, not_true_eq_false, not_false_eq_true, Bool.and_self]
def oneV (r : Wrd × Nat × Bool) : Value := .tuple #[.agg (fW r.1).toArray, .int .i64 (r.2.1 : Nat), .bool r.2.2]
theorem one_let {s : List UInt8} {i j : Nat} (h : letB (s.getD i 0) = true) (hj : j = i + runL letB s i) : oneV (oneO s i) = .tuple #[.agg #[.int .i64 1, vS ((s.drop i).take (j - i)), .int .i64 0, .int .i64 (i : Nat)], .int .i64 (j : Nat), .bool (decide ((j : Int) - (i : Nat) ≤ 12))] := by
  unfold oneO; rw [if_pos h]
  unfold oneV fW
  simp only
  rw [show j - i = runL letB s i by omega, ← hj, show decide (runL letB s i ≤ 12) = decide ((j : Int) - (i : Nat) ≤ 12) from decide_eq_decide.2 om]
theorem one_dig {s : List UInt8} {i j : Nat} {n : Int} {b : Bool} (h1 : letB (s.getD i 0) = false) (h : digB (s.getD i 0) = true) (hj : j = i + runL digB s i) (hn : numF 9 (s.drop i) 0 = n) (hb : b = (decide ((j : Int) - (i : Nat) ≤ 9) && (decide ((((s.getD i 0).toNat : Nat) : Int) ≠ 48) || decide ((j : Int) = (i : Nat) + 1)))) : oneV (oneO s i) = .tuple #[.agg #[.int .i64 2, vS [], .int .i64 n, .int .i64 (i : Nat)], .int .i64 (j : Nat), .bool b] := by
  unfold oneO; rw [if_neg (by rw [h1]; simp), if_pos h]
  unfold oneV fW
  simp only
  rw [hn, ← hj, hb, show decide (runL digB s i ≤ 9) = decide ((j : Int) - (i : Nat) ≤ 9) from decide_eq_decide.2 om, show decide (runL digB s i = 1) = decide ((j : Int) = (i : Nat) + 1) from decide_eq_decide.2 om]
theorem one_mark {s : List UInt8} {i : Nat} (h1 : letB (s.getD i 0) = false) (h : digB (s.getD i 0) = false) : oneV (oneO s i) = .tuple #[.agg #[.int .i64 3, vS ((s.drop i).take (i + 1 - i)), .int .i64 0, .int .i64 (i : Nat)], .int .i64 ((i + 1 : Nat)), .bool (markB (s.getD i 0))] := by
  unfold oneO; rw [if_neg (by rw [h1]; simp), if_neg (by rw [h]; simp), show i + 1 - i = 1 by omega]; rfl
theorem dig_rng {c : UInt8} (h : digB c = true) : 48 ≤ ((c.toNat : Nat) : Int) ∧ ((c.toNat : Nat) : Int) ≤ 57 := by
  unfold digB digN at h; simp only [Bool.and_eq_true, decide_eq_true_eq] at h; exact h
theorem p10_lt {k : Nat} (h : k < 9) : 10 ^ k ≤ 100000000 := Nat.le_trans (Nat.pow_le_pow_right (by decide) (show k ≤ 8 by omega)) (by decide)
set_option maxHeartbeats 1000000 in
theorem one_spec9 {s : List UInt8} (i : Nat) (w : World) (hi : i < s.length) (hx : s.length ≤ 9223372036854775807) : Ret Try.prog 19 #[vS s, .int .i64 (i : Nat)] w (fun v w' => v = oneV (oneO s i) ∧ Ext w w') := by
 refine Ret.enterM Try.func19 rfl Try.ntmps19 rfl ([]) (no) (Mem.nil w) ?_
 refine wR ?_
 refine LM.alloc Try.zeroValue67 rfl (fun b4 hb4 => ?_)
 refine LM.as rfl <| LM.as rfl <| nB [(0, _), (1, _), (4, _)] <| LM.mv rfl <| LM.as rfl <| nA [(0, _), (1, _), (4, _), (7, _)] <| wpM.seq <| wR <| LM.mv rfl <| LM.mv rfl ?_
 refine LM.val (ov_sidxN Try.underlying9 rfl rfl om) ?_
 refine cE Try.func41 rfl (fun w hm hc hg => letter_spec _ w) ?_
 refine nA [(0, _), (1, _), (4, _), (7, _), (13, _)] ?_
 refine wpM.condB rfl (fun h1 => ?_) (fun h1 => ?_)
 ·
  refine wpM.seq <| wpM.block ?_
  refine wpM.loopK0 (α := Nat) (fun j => [(7, .int .i64 (j : Nat))]) [(0, _), (1, _), (4, _)] (fun j => (b4, .cells #[.int .i64 0, .string (bs []), .int .i64 0, .int .i64 0] 67 (0, 0)) :: []) (fun j => i ≤ j ∧ j ≤ s.length ∧ i + runL letB s i = j + runL letB s j) (fun j => s.length - j) (i) ⟨au2, rfl, rfl, rfl, trivial⟩ au1 ⟨Nat.le_refl _, by omega, rfl⟩ ?_
  rintro j ⟨hij, hjl, hr⟩
  change wpM _ _ _ _ _ _ _ ((b4, .cells #[.int .i64 0, .string (bs []), .int .i64 0, .int .i64 0] 67 (0, 0)) :: []) _ _ _
  refine wpM.seq <| wR <| LM.mv rfl <| LM.mv rfl ?_
  refine LM.val (ov_slenL Try.underlying9 rfl) ?_
  refine LM.val (ov_lss rfl rfl) <| LM.mv rfl ?_
  refine LM.splitD (t := 18) rfl (fun h2 => ?_) (fun h2 => ?_)
  ·
   refine LM.sp 18 rfl rfl rfl <| LM.mv rfl <| LM.sp 18 rfl rfl rfl <| LM.mv rfl <| LM.sp 18 rfl rfl rfl ?_
   refine LM.val (ov_sidxN Try.underlying9 rfl rfl om) ?_
   refine LM.sp 18 rfl rfl rfl ?_
   refine cE Try.func41 rfl (fun w hm hc hg => letter_spec _ w) ?_
   refine LM.val (ov_pickT rfl rfl) <| nA [(0, _), (1, _), (4, _), (7, _), (23, _)] ?_
   refine wpM.condB rfl (fun h3 => ?_) (fun h3 => ?_)
   ·
    refine wpM.skip <| QM.then <| wpM.block ?_
    refine wpM.region ?_
    refine LM.mv rfl ?_
    refine LM.val (ov_add64 rfl rfl om) ?_
    refine LM.as rfl <| nC [(0, _), (1, _), (4, _), (7, _)] <| QM.block_normal ?_
    refine QM.againK (j + 1) ⟨au2, rfl, rfl, rfl, trivial⟩ au1 (fun _ h => h) ?_ ?_
    · have hs1 := runL_step (p := letB) (show j < s.length by omega) h3; exact ⟨by omega, by omega, by omega⟩
    · omega
   refine wpM.exit <| QM.then_exit <| QM.then_exit <| QM.block_hit <| tR <| LM.mv rfl <| LM.mv rfl <| LM.mv rfl ?_
   refine LM.val (ov_sslcL Try.underlying9 rfl rfl rfl om om om) ?_
   refine LM.mv rfl ?_
   refine LM.val (ov_build (cs := #[_, _, _, _]) rfl (by first | rfl | kernel_rfl)) ?_
   refine LM.mv rfl <| LM.mv rfl <| LM.mv rfl ?_
   refine LM.val (ov_sub64 rfl rfl om) ?_
   refine LM.val (ov_leq rfl rfl) ?_
   refine LM.stW Try.sizeOf67 rfl rfl rfl rfl au7 au8 ?_
   refine LM.as rfl <| LM.as rfl <| nA [(4, _), (5, _), (6, _)] <| wpM.ret <| QM.then_ret ?_
   refine QM.leaveCs (ds := ([])) (.inl rfl) [.cell 4 67, .tmp 5, .tmp 6] Try.results19 hd_nil (rc_w rfl Try.isAgg67 Try.sizeOf67 rfl (rc_tmp rfl (rc_tmp rfl rc_nil))) ?_
   intro w' hm' hc'
   have hs0 := runL_stop (p := letB) (show j < s.length by omega) h3; exact ⟨(one_let (j := j) h1 om).symm, hc'⟩
  refine LM.dr 18 rfl rfl rfl <| LM.dr 18 rfl rfl rfl <| LM.dr 18 rfl rfl rfl <| LM.dr 18 rfl rfl rfl <| LM.val (ov_pickF rfl rfl) <| nA [(0, _), (1, _), (4, _), (7, _), (23, _)] ?_
  refine wpM.condF rfl ?_
  refine wpM.exit <| QM.then_exit <| QM.then_exit <| QM.block_hit <| tR <| LM.mv rfl <| LM.mv rfl <| LM.mv rfl ?_
  refine LM.val (ov_sslcL Try.underlying9 rfl rfl rfl om om om) ?_
  refine LM.mv rfl ?_
  refine LM.val (ov_build (cs := #[_, _, _, _]) rfl (by first | rfl | kernel_rfl)) ?_
  refine LM.mv rfl <| LM.mv rfl <| LM.mv rfl ?_
  refine LM.val (ov_sub64 rfl rfl om) ?_
  refine LM.val (ov_leq rfl rfl) ?_
  refine LM.stW Try.sizeOf67 rfl rfl rfl rfl au7 au8 ?_
  refine LM.as rfl <| LM.as rfl <| nA [(4, _), (5, _), (6, _)] <| wpM.ret <| QM.then_ret ?_
  refine QM.leaveCs (ds := ([])) (.inl rfl) [.cell 4 67, .tmp 5, .tmp 6] Try.results19 hd_nil (rc_w rfl Try.isAgg67 Try.sizeOf67 rfl (rc_tmp rfl (rc_tmp rfl rc_nil))) ?_
  intro w' hm' hc'
  have hs0 := runL_end (p := letB) (show s.length ≤ j by omega); exact ⟨(one_let (j := j) h1 om).symm, hc'⟩
 refine wpM.skip <| QM.then <| wpM.seq <| wR <| LM.mv rfl <| LM.mv rfl ?_
 refine LM.val (ov_sidxN Try.underlying9 rfl rfl om) ?_
 refine cE Try.func42 rfl (fun w hm hc hg => digit_spec _ w) ?_
 refine nA [(0, _), (1, _), (4, _), (7, _), (40, _)] ?_
 refine wpM.condB rfl (fun h4 => ?_) (fun h4 => ?_)
 ·
  refine wR <| LM.as rfl <| nA [(0, _), (1, _), (4, _), (7, _), (8, _)] <| wpM.seq <| wpM.block ?_
  refine wpM.loopK0 (α := Nat × Int) (fun ⟨j, n⟩ => [(7, .int .i64 (j : Nat)), (8, .int .i64 n)]) [(0, _), (1, _), (4, _)] (fun ⟨j, n⟩ => (b4, .cells #[.int .i64 0, .string (bs []), .int .i64 0, .int .i64 0] 67 (0, 0)) :: []) (fun ⟨j, n⟩ => i ≤ j ∧ j ≤ s.length ∧ i + runL digB s i = j + runL digB s j ∧ numF 9 (s.drop i) 0 = numF (9 - (j - i)) (s.drop j) n ∧ 0 ≤ n ∧ n + 1 ≤ ((10 ^ (min (j - i) 9) : Nat) : Int)) (fun ⟨j, n⟩ => s.length - j) ((i, 0)) ⟨au2, au2, rfl, rfl, rfl, trivial⟩ au1 ⟨Nat.le_refl _, by omega, rfl, by simp, by simp, by simp⟩ ?_
  rintro ⟨j, n⟩ ⟨hij, hjl, hr, hnf, hn0, hn1⟩
  change wpM _ _ _ _ _ _ _ ((b4, .cells #[.int .i64 0, .string (bs []), .int .i64 0, .int .i64 0] 67 (0, 0)) :: []) _ _ _
  refine wpM.seq <| wR <| LM.mv rfl <| LM.mv rfl ?_
  refine LM.val (ov_slenL Try.underlying9 rfl) ?_
  refine LM.val (ov_lss rfl rfl) <| LM.mv rfl ?_
  refine LM.splitD (t := 45) rfl (fun h5 => ?_) (fun h5 => ?_)
  ·
   refine LM.sp 45 rfl rfl rfl <| LM.mv rfl <| LM.sp 45 rfl rfl rfl <| LM.mv rfl <| LM.sp 45 rfl rfl rfl ?_
   refine LM.val (ov_sidxN Try.underlying9 rfl rfl om) ?_
   refine LM.sp 45 rfl rfl rfl ?_
   refine cE Try.func42 rfl (fun w hm hc hg => digit_spec _ w) ?_
   refine LM.val (ov_pickT rfl rfl) <| nA [(0, _), (1, _), (4, _), (7, _), (8, _), (50, _)] ?_
   refine wpM.condB rfl (fun h6 => ?_) (fun h6 => ?_)
   ·
    refine wpM.skip <| QM.then <| wpM.block <| wpM.seq <| wR <| LM.mv rfl <| LM.mv rfl ?_
    refine LM.val (ov_sub64 rfl rfl om) ?_
    refine LM.val (ov_lss rfl rfl) <| nA [(0, _), (1, _), (4, _), (7, _), (8, _), (54, _)] ?_
    refine wpM.condD rfl (fun h7 => ?_) (fun h7 => ?_)
    ·
     have hp8 := p10_lt (k := min (j - i) 9) om; have hdr := dig_rng (c := s.getD j 0) h6
     refine wpM.region ?_
     refine LM.mv rfl ?_
     refine LM.val (ov_mul64 rfl rfl om) ?_
     refine LM.mv rfl <| LM.mv rfl ?_
     refine LM.val (ov_sidxN Try.underlying9 rfl rfl om) ?_
     refine LM.val (ov_to64 Try.underlying5 Try.underlying3 rfl om) ?_
     refine LM.val (ov_add64 rfl rfl om) ?_
     refine LM.val (ov_sub64 rfl rfl om) ?_
     refine LM.as rfl ?_
     refine LM.nil (QM.sub (e' := [(0, _), (1, _), (4, _), (7, _), (8, _)]) au9 (QM.then (wpM.region ?_)))
     refine LM.mv rfl ?_
     refine LM.val (ov_add64 rfl rfl om) ?_
     refine LM.as rfl <| nC [(0, _), (1, _), (4, _), (7, _), (8, _)] <| QM.block_normal ?_
     refine QM.againK ((j + 1, n * 10 + (((s.getD j 0).toNat : Nat) : Int) - 48)) ⟨au2, au2, rfl, rfl, rfl, trivial⟩ au1 (fun _ h => h) ?_ ?_
     · have hs1 := runL_step (p := digB) (show j < s.length by omega) h6; refine ⟨by omega, by omega, by omega, by rw [hnf, show 9 - (j - i) = (9 - (j + 1 - i)) + 1 by omega, numF_step om h6], by omega, ?_⟩; rw [show min (j + 1 - i) 9 = min (j - i) 9 + 1 by omega, Nat.pow_succ]; omega
     · (dsimp only; omega)
    refine wpM.skip ?_
    refine QM.then (wpM.region ?_)
    refine LM.mv rfl ?_
    refine LM.val (ov_add64 rfl rfl om) ?_
    refine LM.as rfl <| nC [(0, _), (1, _), (4, _), (7, _), (8, _)] <| QM.block_normal ?_
    refine QM.againK ((j + 1, n)) ⟨au2, au2, rfl, rfl, rfl, trivial⟩ au1 (fun _ h => h) ?_ ?_
    · have hs1 := runL_step (p := digB) (show j < s.length by omega) h6; exact ⟨by omega, by omega, by omega, by rw [hnf, show 9 - (j - i) = 0 by omega, show 9 - (j + 1 - i) = 0 by omega]; rfl, hn0, by rw [show min (j + 1 - i) 9 = min (j - i) 9 by omega]; exact hn1⟩
    · (dsimp only; omega)
   refine wpM.exit <| QM.then_exit <| QM.then_exit <| QM.block_hit <| tR <| LM.mv rfl <| LM.mv rfl ?_
   refine LM.val (ov_build (cs := #[_, _, _, _]) rfl (by first | rfl | kernel_rfl)) ?_
   refine LM.mv rfl <| LM.mv rfl <| LM.mv rfl ?_
   refine LM.val (ov_sub64 rfl rfl om) ?_
   refine LM.val (ov_leq rfl rfl) <| LM.mv rfl ?_
   refine LM.splitD (t := 73) rfl (fun h8 => ?_) (fun h8 => ?_)
   ·
    refine LM.sp 73 rfl rfl rfl <| LM.mv rfl <| LM.sp 73 rfl rfl rfl <| LM.mv rfl <| LM.sp 73 rfl rfl rfl ?_
    refine LM.val (ov_sidxN Try.underlying9 rfl rfl om) ?_
    refine LM.sp 73 rfl rfl rfl <| LM.val (ov_neq rfl rfl) <| LM.sp 73 rfl rfl rfl <| LM.mv rfl ?_
    refine LM.splitD (t := 78) rfl (fun h9 => ?_) (fun h9 => ?_)
    ·
     refine LM.dr 78 rfl rfl rfl <| LM.dr 78 rfl rfl rfl <| LM.dr 78 rfl rfl rfl <| LM.dr 78 rfl rfl rfl <| LM.sp 73 rfl rfl rfl <| LM.val (ov_pickT rfl rfl) <| LM.val (ov_pickT rfl rfl) ?_
     refine LM.stW Try.sizeOf67 rfl rfl rfl rfl au7 au8 ?_
     refine LM.as rfl <| LM.as rfl <| nA [(4, _), (5, _), (6, _)] <| wpM.ret <| QM.then_ret ?_
     refine QM.leaveCs (ds := ([])) (.inl rfl) [.cell 4 67, .tmp 5, .tmp 6] Try.results19 hd_nil (rc_w rfl Try.isAgg67 Try.sizeOf67 rfl (rc_tmp rfl (rc_tmp rfl rc_nil))) ?_
     intro w' hm' hc'
     have hs0 := runL_stop (p := digB) (show j < s.length by omega) h6; have hnf2 := hnf.trans (numF_stop (.inr h6)); exact ⟨(one_dig (j := j) h1 h4 om hnf2 (by simp only [h1, h4, h5, h6, h8, h9, decide_true, decide_false, Bool.true_and, Bool.false_and, Bool.and_true, Bool.and_false, Bool.not_true, Bool.not_false, Bool.true_or, Bool.false_or, Bool.or_true, Bool.or_false, ne_eq, not_true_eq_false, not_false_eq_true, Bool.and_self])).symm, hc'⟩
    refine LM.sp 78 rfl rfl rfl <| LM.mv rfl <| LM.sp 78 rfl rfl rfl <| LM.mv rfl <| LM.sp 78 rfl rfl rfl ?_
    refine LM.val (ov_add64 rfl rfl om) ?_
    refine LM.sp 78 rfl rfl rfl <| LM.val (ov_eql rfl rfl) <| LM.sp 73 rfl rfl rfl <| LM.val (ov_pickF rfl rfl) <| LM.val (ov_pickT rfl rfl) ?_
    refine LM.stW Try.sizeOf67 rfl rfl rfl rfl au7 au8 ?_
    refine LM.as rfl <| LM.as rfl <| nA [(4, _), (5, _), (6, _)] <| wpM.ret <| QM.then_ret ?_
    refine QM.leaveCs (ds := ([])) (.inl rfl) [.cell 4 67, .tmp 5, .tmp 6] Try.results19 hd_nil (rc_w rfl Try.isAgg67 Try.sizeOf67 rfl (rc_tmp rfl (rc_tmp rfl rc_nil))) ?_
    intro w' hm' hc'
    have hs0 := runL_stop (p := digB) (show j < s.length by omega) h6; have hnf2 := hnf.trans (numF_stop (.inr h6)); exact ⟨(one_dig (j := j) h1 h4 om hnf2 (by simp only [h1, h4, h5, h6, h8, h9, decide_true, decide_false, Bool.true_and, Bool.false_and, Bool.and_true, Bool.and_false, Bool.not_true, Bool.not_false, Bool.true_or, Bool.false_or, Bool.or_true, Bool.or_false, ne_eq, not_true_eq_false, not_false_eq_true, Bool.and_self])).symm, hc'⟩
   refine LM.dr 73 rfl rfl rfl <| LM.dr 73 rfl rfl rfl <| LM.dr 73 rfl rfl rfl <| LM.dr 73 rfl rfl rfl ?_
   refine LM.dropU (t := 73) rfl rfl rfl ?_
   refine LM.dropX (t := 78) rfl rfl ?_
   refine LM.dropX (t := 78) rfl rfl ?_
   refine LM.dropX (t := 78) rfl rfl ?_
   refine LM.dropX (t := 78) rfl rfl ?_
   refine LM.dr 73 rfl rfl rfl <| LM.val (ov_pickF rfl rfl) ?_
   refine LM.stW Try.sizeOf67 rfl rfl rfl rfl au7 au8 ?_
   refine LM.as rfl <| LM.as rfl <| nA [(4, _), (5, _), (6, _)] <| wpM.ret <| QM.then_ret ?_
   refine QM.leaveCs (ds := ([])) (.inl rfl) [.cell 4 67, .tmp 5, .tmp 6] Try.results19 hd_nil (rc_w rfl Try.isAgg67 Try.sizeOf67 rfl (rc_tmp rfl (rc_tmp rfl rc_nil))) ?_
   intro w' hm' hc'
   have hs0 := runL_stop (p := digB) (show j < s.length by omega) h6; have hnf2 := hnf.trans (numF_stop (.inr h6)); exact ⟨(one_dig (j := j) h1 h4 om hnf2 (by simp only [h1, h4, h5, h6, h8, decide_true, decide_false, Bool.true_and, Bool.false_and, Bool.and_true, Bool.and_false, Bool.not_true, Bool.not_false, Bool.true_or, Bool.false_or, Bool.or_true, Bool.or_false, ne_eq, not_true_eq_false, not_false_eq_true, Bool.and_self])).symm, hc'⟩
  refine LM.dr 45 rfl rfl rfl <| LM.dr 45 rfl rfl rfl <| LM.dr 45 rfl rfl rfl <| LM.dr 45 rfl rfl rfl <| LM.val (ov_pickF rfl rfl) <| nA [(0, _), (1, _), (4, _), (7, _), (8, _), (50, _)] ?_
  refine wpM.condF rfl ?_
  refine wpM.exit <| QM.then_exit <| QM.then_exit <| QM.block_hit <| tR <| LM.mv rfl <| LM.mv rfl ?_
  refine LM.val (ov_build (cs := #[_, _, _, _]) rfl (by first | rfl | kernel_rfl)) ?_
  refine LM.mv rfl <| LM.mv rfl <| LM.mv rfl ?_
  refine LM.val (ov_sub64 rfl rfl om) ?_
  refine LM.val (ov_leq rfl rfl) <| LM.mv rfl ?_
  refine LM.splitD (t := 73) rfl (fun h10 => ?_) (fun h10 => ?_)
  ·
   refine LM.sp 73 rfl rfl rfl <| LM.mv rfl <| LM.sp 73 rfl rfl rfl <| LM.mv rfl <| LM.sp 73 rfl rfl rfl ?_
   refine LM.val (ov_sidxN Try.underlying9 rfl rfl om) ?_
   refine LM.sp 73 rfl rfl rfl <| LM.val (ov_neq rfl rfl) <| LM.sp 73 rfl rfl rfl <| LM.mv rfl ?_
   refine LM.splitD (t := 78) rfl (fun h11 => ?_) (fun h11 => ?_)
   ·
    refine LM.dr 78 rfl rfl rfl <| LM.dr 78 rfl rfl rfl <| LM.dr 78 rfl rfl rfl <| LM.dr 78 rfl rfl rfl <| LM.sp 73 rfl rfl rfl <| LM.val (ov_pickT rfl rfl) <| LM.val (ov_pickT rfl rfl) ?_
    refine LM.stW Try.sizeOf67 rfl rfl rfl rfl au7 au8 ?_
    refine LM.as rfl <| LM.as rfl <| nA [(4, _), (5, _), (6, _)] <| wpM.ret <| QM.then_ret ?_
    refine QM.leaveCs (ds := ([])) (.inl rfl) [.cell 4 67, .tmp 5, .tmp 6] Try.results19 hd_nil (rc_w rfl Try.isAgg67 Try.sizeOf67 rfl (rc_tmp rfl (rc_tmp rfl rc_nil))) ?_
    intro w' hm' hc'
    have hs0 := runL_end (p := digB) (show s.length ≤ j by omega); have hnf2 := hnf.trans (numF_stop (.inl (show s.length ≤ j by omega))); exact ⟨(one_dig (j := j) h1 h4 om hnf2 (by simp only [h1, h4, h5, h10, h11, decide_true, decide_false, Bool.true_and, Bool.false_and, Bool.and_true, Bool.and_false, Bool.not_true, Bool.not_false, Bool.true_or, Bool.false_or, Bool.or_true, Bool.or_false, ne_eq, not_true_eq_false, not_false_eq_true, Bool.and_self])).symm, hc'⟩
   refine LM.sp 78 rfl rfl rfl <| LM.mv rfl <| LM.sp 78 rfl rfl rfl <| LM.mv rfl <| LM.sp 78 rfl rfl rfl ?_
   refine LM.val (ov_add64 rfl rfl om) ?_
   refine LM.sp 78 rfl rfl rfl <| LM.val (ov_eql rfl rfl) <| LM.sp 73 rfl rfl rfl <| LM.val (ov_pickF rfl rfl) <| LM.val (ov_pickT rfl rfl) ?_
   refine LM.stW Try.sizeOf67 rfl rfl rfl rfl au7 au8 ?_
   refine LM.as rfl <| LM.as rfl <| nA [(4, _), (5, _), (6, _)] <| wpM.ret <| QM.then_ret ?_
   refine QM.leaveCs (ds := ([])) (.inl rfl) [.cell 4 67, .tmp 5, .tmp 6] Try.results19 hd_nil (rc_w rfl Try.isAgg67 Try.sizeOf67 rfl (rc_tmp rfl (rc_tmp rfl rc_nil))) ?_
   intro w' hm' hc'
   have hs0 := runL_end (p := digB) (show s.length ≤ j by omega); have hnf2 := hnf.trans (numF_stop (.inl (show s.length ≤ j by omega))); exact ⟨(one_dig (j := j) h1 h4 om hnf2 (by simp only [h1, h4, h5, h10, h11, decide_true, decide_false, Bool.true_and, Bool.false_and, Bool.and_true, Bool.and_false, Bool.not_true, Bool.not_false, Bool.true_or, Bool.false_or, Bool.or_true, Bool.or_false, ne_eq, not_true_eq_false, not_false_eq_true, Bool.and_self])).symm, hc'⟩
  refine LM.dr 73 rfl rfl rfl <| LM.dr 73 rfl rfl rfl <| LM.dr 73 rfl rfl rfl <| LM.dr 73 rfl rfl rfl ?_
  refine LM.dropU (t := 73) rfl rfl rfl ?_
  refine LM.dropX (t := 78) rfl rfl ?_
  refine LM.dropX (t := 78) rfl rfl ?_
  refine LM.dropX (t := 78) rfl rfl ?_
  refine LM.dropX (t := 78) rfl rfl ?_
  refine LM.dr 73 rfl rfl rfl <| LM.val (ov_pickF rfl rfl) ?_
  refine LM.stW Try.sizeOf67 rfl rfl rfl rfl au7 au8 ?_
  refine LM.as rfl <| LM.as rfl <| nA [(4, _), (5, _), (6, _)] <| wpM.ret <| QM.then_ret ?_
  refine QM.leaveCs (ds := ([])) (.inl rfl) [.cell 4 67, .tmp 5, .tmp 6] Try.results19 hd_nil (rc_w rfl Try.isAgg67 Try.sizeOf67 rfl (rc_tmp rfl (rc_tmp rfl rc_nil))) ?_
  intro w' hm' hc'
  have hs0 := runL_end (p := digB) (show s.length ≤ j by omega); have hnf2 := hnf.trans (numF_stop (.inl (show s.length ≤ j by omega))); exact ⟨(one_dig (j := j) h1 h4 om hnf2 (by simp only [h1, h4, h5, h10, decide_true, decide_false, Bool.true_and, Bool.false_and, Bool.and_true, Bool.and_false, Bool.not_true, Bool.not_false, Bool.true_or, Bool.false_or, Bool.or_true, Bool.or_false, ne_eq, not_true_eq_false, not_false_eq_true, Bool.and_self])).symm, hc'⟩
 refine wpM.skip <| QM.then <| wpM.seq ?_
 refine wpM.draw [(0, 0), (1, 0), (2, 0), (3, 0), (4, 0), (5, 0), (6, 0), (7, 0), (8, 0), (9, 0), (10, 0), (11, 0), (12, 2), (13, 3), (14, 3), (15, 3)] kr kr ?_
 refine LD.val rfl rfl (ov_move rfl) <| LD.val rfl rfl (ov_move rfl) <| LD.val rfl rfl (ov_move rfl) ?_
 refine LD.val rfl rfl (ov_add64 rfl rfl om) ?_
 refine LD.val rfl rfl (ov_sslcL Try.underlying9 rfl rfl rfl om om om) ?_
 refine LD.val rfl rfl (ov_move rfl) ?_
 refine LD.val rfl rfl (ov_build (cs := #[_, _, _, _]) rfl (by first | rfl | kernel_rfl)) ?_
 refine LD.val rfl rfl (ov_move rfl) ?_
 refine LD.val rfl rfl (ov_add64 rfl rfl om) ?_
 refine LD.val rfl rfl (ov_move rfl) <| LD.val rfl rfl (ov_move rfl) ?_
 refine LD.val rfl rfl (ov_sidxN Try.underlying9 rfl rfl om) ?_
 refine dE rfl rfl Try.func43 rfl (fun w hm hc hg => mark_spec _ w) ?_
 refine LD.tail rfl rfl ?_
 refine LM.stW Try.sizeOf67 rfl rfl rfl rfl au7 au8 ?_
 refine LM.as rfl <| LM.as rfl ?_
 refine LM.nil ?_
 refine QM.qn ?_
 refine QM.sub (e' := [(4, _), (5, _), (6, _)]) au9 (QM.then ?_)
 refine wpM.ret ?_
 refine QM.leaveCs (ds := ([])) (.inl rfl) [.cell 4 67, .tmp 5, .tmp 6] Try.results19 hd_nil (rc_w rfl Try.isAgg67 Try.sizeOf67 rfl (rc_tmp rfl (rc_tmp rfl rc_nil))) ?_
 intro w' hm' hc'
 exact ⟨(one_mark h1 h4).symm, hc'⟩
def ScT (r : List Wrd × Int × Int) (n0 : Nat) (v : Value) (m : Mem0) : Prop := ∃ ad n cap, v = .tuple #[.slice ad n cap, .int .i64 r.2.1, .int .i64 r.2.2] ∧ n = r.1.length ∧ Sl fW 67 4 n0 r.1 (.slice ad n cap) m
theorem ScT.mono {r : List Wrd × Int × Int} : ∀ (k k' : Nat) u m, k' ≤ k → ScT r k u m → ScT r k' u m := fun k k' u m h ⟨ad, n, cap, h1, h2, h3⟩ => ⟨ad, n, cap, h1, h2, h3.mono h⟩
set_option maxHeartbeats 1000000 in
theorem scan_spec {s : List UInt8} (w : World) (hx : s.length ≤ 1000000000) : Ret Try.prog 11 #[vS s] w (fun v w' => Ext w w' ∧ ∃ m, ScT (scanO s) w.heap.size v m ∧ Mem w' m ∧ ∀ p ∈ m, w.heap.size ≤ p.1) := by
 refine Ret.enterM Try.func11 rfl Try.ntmps11 rfl ([]) (no) (Mem.nil w) ?_
 refine wR <| LM.as rfl <| LM.as rfl <| LM.as rfl <| nA [(0, _)] <| wpM.seq <| wR <| LM.mv rfl ?_
 refine LM.val (ov_slenL Try.underlying9 rfl) ?_
 refine LM.val (ov_gtr rfl rfl) <| nA [(0, _), (13, _)] ?_
 refine wpM.condD rfl (fun h1 => ?_) (fun h1 => ?_)
 ·
  refine wR <| LM.as rfl <| LM.as rfl <| LM.as rfl <| nA [(2, _), (3, _), (4, _)] <| wpM.ret <| QM.then_ret ?_
  refine QM.leave (.inl rfl) [.tmp 2, .tmp 3, .tmp 4] Try.results11 rfl ?_
  intro w' hm' hc' hg'
  have hr : scanO s = ([], 8000, 6) := (by unfold scanO; rw [if_pos om]); rw [hr]; exact ⟨hc', [], ⟨none, 0, 0, rfl, rfl, .nil _ _ _ _⟩, Mem.nil _, fun p hp => by cases hp⟩
 refine wpM.skip <| tR <| LM.as rfl <| nB [(0, _), (5, _)] <| LM.as rfl <| nB [(0, _), (5, _), (6, _)] <| LM.as rfl <| nA [(0, _), (5, _), (6, _), (7, _)] <| wpM.seq <| wpM.block ?_
 refine wpM.loopK0 (α := Nat × Int × List Wrd × Option Addr × Nat × Nat × Mem0) (fun ⟨i, last, out, ad5, n5, cap5, m5⟩ => [(5, .slice ad5 n5 cap5), (6, .int .i64 last), (7, .int .i64 (i : Nat))]) [(0, _)] (fun ⟨i, last, out, ad5, n5, cap5, m5⟩ => m5 ++ []) (fun ⟨i, last, out, ad5, n5, cap5, m5⟩ => i ≤ s.length ∧ scanR s i last out = scanR s 0 (-1) [] ∧ n5 = out.length ∧ Sl fW 67 4 w.heap.size out (.slice ad5 n5 cap5) m5 ∧ (last = -1 ∨ out ≠ []) ∧ out.length ≤ i) (fun ⟨i, last, out, ad5, n5, cap5, m5⟩ => s.length - i) ((0, -1, [], none, 0, 0, [])) ⟨au2, au2, au2, rfl, trivial⟩ au1 ⟨Nat.zero_le _, rfl, rfl, .nil _ _ _ _, .inl rfl, Nat.zero_le _⟩ ?_
 rintro ⟨i, last, out, ad5, n5, cap5, m5⟩ ⟨hi, hsc, hn5, hs5, hlast, hol⟩
 change wpM _ _ _ _ _ _ _ (m5 ++ []) _ _ _
 refine wpM.seq <| wR <| LM.mv rfl <| LM.mv rfl ?_
 refine LM.val (ov_slenL Try.underlying9 rfl) ?_
 refine LM.val (ov_lss rfl rfl) <| nA [(0, _), (5, _), (6, _), (7, _), (17, _)] ?_
 refine wpM.condD rfl (fun h2 => ?_) (fun h2 => ?_)
 ·
  refine wpM.skip <| QM.then <| wpM.block <| wpM.seq <| wpM.seq ?_
  refine wpM.joinK (α := Bool) (fun q7 => [(33, .bool q7)]) [(0, _), (5, _), (6, _), (7, _)] (fun q7 => m5 ++ []) (fun q7 => q7 = blankB (s.getD i 0)) ⟨rfl, rfl, rfl, rfl, trivial⟩ ?_ ?_
  ·
   refine wpM.region ?_
   refine LM.mv rfl <| LM.mv rfl ?_
   refine LM.val (ov_sidxN Try.underlying9 rfl rfl om) ?_
   refine LM.val (ov_eql rfl rfl) <| LM.mv rfl ?_
   refine LM.splitD (t := 22) rfl (fun h3 => ?_) (fun h3 => ?_)
   ·
    refine LM.dr 22 rfl rfl rfl <| LM.dr 22 rfl rfl rfl <| LM.dr 22 rfl rfl rfl <| LM.dr 22 rfl rfl rfl <| LM.val (ov_pickT rfl rfl) <| LM.mv rfl <| LM.dr 28 rfl rfl rfl <| LM.dr 28 rfl rfl rfl <| LM.dr 28 rfl rfl rfl <| LM.dr 28 rfl rfl rfl <| LM.val (ov_pickT rfl rfl) <| nC [(0, _), (5, _), (6, _), (7, _), (33, _)] ?_
    refine QM.meetK (_) ⟨au2, rfl, rfl, rfl, rfl, trivial⟩ au1 ?_
    · unfold blankB; simp only [h1, h2, h3, decide_true, decide_false, Bool.true_and, Bool.false_and, Bool.and_true, Bool.and_false, Bool.not_true, Bool.not_false, Bool.true_or, Bool.false_or, Bool.or_true, Bool.or_false, ne_eq, not_true_eq_false, not_false_eq_true, Bool.and_self]
   refine LM.sp 22 rfl rfl rfl <| LM.mv rfl <| LM.sp 22 rfl rfl rfl <| LM.mv rfl <| LM.sp 22 rfl rfl rfl ?_
   refine LM.val (ov_sidxN Try.underlying9 rfl rfl om) ?_
   refine LM.sp 22 rfl rfl rfl <| LM.val (ov_eql rfl rfl) <| LM.val (ov_pickF rfl rfl) <| LM.mv rfl ?_
   refine LM.splitD (t := 28) rfl (fun h4 => ?_) (fun h4 => ?_)
   ·
    refine LM.dr 28 rfl rfl rfl <| LM.dr 28 rfl rfl rfl <| LM.dr 28 rfl rfl rfl <| LM.dr 28 rfl rfl rfl <| LM.val (ov_pickT rfl rfl) <| nC [(0, _), (5, _), (6, _), (7, _), (33, _)] ?_
    refine QM.meetK (_) ⟨au2, rfl, rfl, rfl, rfl, trivial⟩ au1 ?_
    · unfold blankB; simp only [h1, h2, h3, h4, decide_true, decide_false, Bool.true_and, Bool.false_and, Bool.and_true, Bool.and_false, Bool.not_true, Bool.not_false, Bool.true_or, Bool.false_or, Bool.or_true, Bool.or_false, ne_eq, not_true_eq_false, not_false_eq_true, Bool.and_self]
   refine LM.sp 28 rfl rfl rfl <| LM.mv rfl <| LM.sp 28 rfl rfl rfl <| LM.mv rfl <| LM.sp 28 rfl rfl rfl ?_
   refine LM.val (ov_sidxN Try.underlying9 rfl rfl om) ?_
   refine LM.sp 28 rfl rfl rfl <| LM.val (ov_eql rfl rfl) <| LM.val (ov_pickF rfl rfl) <| nC [(0, _), (5, _), (6, _), (7, _), (33, _)] ?_
   refine QM.meetK (_) ⟨au2, rfl, rfl, rfl, rfl, trivial⟩ au1 ?_
   · unfold blankB; simp only [h1, h2, h3, h4, decide_true, decide_false, Bool.true_and, Bool.false_and, Bool.and_true, Bool.and_false, Bool.not_true, Bool.not_false, Bool.true_or, Bool.false_or, Bool.or_true, Bool.or_false, ne_eq, not_true_eq_false, not_false_eq_true, Bool.and_self]
  rintro q7 hq7
  change QM _ _ _ _ _ (m5 ++ []) _ _ _
  refine QM.then ?_
  refine wpM.condB rfl (fun h5 => ?_) (fun h5 => ?_)
  ·
   refine wR <| LM.mv rfl ?_
   refine LM.val (ov_add64 rfl rfl om) ?_
   refine LM.as rfl <| nA [(0, _), (5, _), (6, _), (7, _)] <| wpM.exit <| QM.then_exit <| QM.block_hit ?_
   refine QM.againK ((i + 1, last, out, ad5, n5, cap5, m5)) ⟨au2, au2, au2, rfl, trivial⟩ au1 (fun _ h => h) ?_ ?_
   · exact ⟨by omega, (scanR_blank om (hq7 ▸ h5)).symm.trans hsc, hn5, hs5, hlast, by omega⟩
   · (dsimp only; omega)
  refine wpM.skip <| QM.then <| wpM.seq <| wR <| LM.mv rfl <| LM.mv rfl ?_
  refine LM.val (ov_sidxN Try.underlying9 rfl rfl om) ?_
  refine LM.val (ov_eql rfl rfl) <| nA [(0, _), (5, _), (6, _), (7, _), (39, _)] ?_
  refine wpM.condD rfl (fun h6 => ?_) (fun h6 => ?_)
  ·
   refine wpM.seq <| wpM.block ?_
   refine wpM.loopK0 (α := Nat) (fun j => [(7, .int .i64 (j : Nat))]) [(0, _), (5, _), (6, _)] (fun j => m5 ++ []) (fun j => i ≤ j ∧ j ≤ s.length ∧ i + runL notNl s i = j + runL notNl s j) (fun j => s.length - j) (i) ⟨au2, rfl, rfl, rfl, trivial⟩ au1 ⟨Nat.le_refl _, by omega, rfl⟩ ?_
   rintro j ⟨hij, hjl, hr⟩
   change wpM _ _ _ _ _ _ _ (m5 ++ []) _ _ _
   refine wpM.seq <| wR <| LM.mv rfl <| LM.mv rfl ?_
   refine LM.val (ov_slenL Try.underlying9 rfl) ?_
   refine LM.val (ov_lss rfl rfl) <| LM.mv rfl ?_
   refine LM.splitD (t := 44) rfl (fun h7 => ?_) (fun h7 => ?_)
   ·
    refine LM.sp 44 rfl rfl rfl <| LM.mv rfl <| LM.sp 44 rfl rfl rfl <| LM.mv rfl <| LM.sp 44 rfl rfl rfl ?_
    refine LM.val (ov_sidxN Try.underlying9 rfl rfl om) ?_
    refine LM.sp 44 rfl rfl rfl <| LM.val (ov_neq rfl rfl) <| LM.val (ov_pickT rfl rfl) <| nA [(0, _), (5, _), (6, _), (7, _), (49, _)] ?_
    refine wpM.condD rfl (fun h8 => ?_) (fun h8 => ?_)
    ·
     refine wpM.skip <| QM.then <| wpM.block ?_
     refine wpM.region ?_
     refine LM.mv rfl ?_
     refine LM.val (ov_add64 rfl rfl om) ?_
     refine LM.as rfl <| nC [(0, _), (5, _), (6, _), (7, _)] <| QM.block_normal ?_
     refine QM.againK (j + 1) ⟨au2, rfl, rfl, rfl, trivial⟩ au1 (fun _ h => h) ?_ ?_
     · have hs1 := runL_step (p := notNl) (show j < s.length by omega) (decide_eq_true h8); exact ⟨by omega, by omega, by omega⟩
     · omega
    refine wpM.exit <| QM.then_exit <| QM.then_exit <| QM.block_hit <| QM.then <| wpM.exit <| QM.then_exit <| QM.block_hit ?_
    have hs0 := runL_stop (p := notNl) (show j < s.length by omega) (decide_eq_false h8); have hs3 := runL_step (p := notNl) (show i < s.length by omega) (hash_nl (decide_eq_true h6))
    refine QM.againK ((j, last, out, ad5, n5, cap5, m5)) ⟨au2, au2, au2, rfl, trivial⟩ au1 (fun _ h => h) ?_ ?_
    · exact ⟨by omega, (scanR_hash (j := j) om (hq7 ▸ h5) (decide_eq_true h6) om).symm.trans hsc, hn5, hs5, hlast, by omega⟩
    · (dsimp only; omega)
   refine LM.dr 44 rfl rfl rfl <| LM.dr 44 rfl rfl rfl <| LM.dr 44 rfl rfl rfl <| LM.dr 44 rfl rfl rfl <| LM.val (ov_pickF rfl rfl) <| nA [(0, _), (5, _), (6, _), (7, _), (49, _)] ?_
   refine wpM.condF rfl ?_
   refine wpM.exit <| QM.then_exit <| QM.then_exit <| QM.block_hit <| QM.then <| wpM.exit <| QM.then_exit <| QM.block_hit ?_
   have hs0 := runL_end (p := notNl) (show s.length ≤ j by omega); have hs3 := runL_step (p := notNl) (show i < s.length by omega) (hash_nl (decide_eq_true h6))
   refine QM.againK ((j, last, out, ad5, n5, cap5, m5)) ⟨au2, au2, au2, rfl, trivial⟩ au1 (fun _ h => h) ?_ ?_
   · exact ⟨by omega, (scanR_hash (j := j) om (hq7 ▸ h5) (decide_eq_true h6) om).symm.trans hsc, hn5, hs5, hlast, by omega⟩
   · (dsimp only; omega)
  refine wpM.skip <| tR <| LM.mv rfl <| LM.mv rfl ?_
  refine cE Try.func19 rfl (fun w hm hc hg => one_spec9 i w om om) ?_
  refine LM.mv rfl <| LM.val (ov_extract rfl rfl) <| LM.val (ov_extract rfl rfl) <| LM.val (ov_extract rfl rfl) ?_
  refine LM.alloc Try.zeroValue67 rfl (fun b8 hb8 => ?_)
  refine LM.stW Try.sizeOf67 rfl rfl rfl rfl au7 au8 ?_
  refine LM.as rfl <| LM.as rfl <| nA [(0, _), (5, _), (6, _), (7, _), (8, _), (9, _), (10, _)] <| wpM.seq <| wpM.seq ?_
  refine wpM.joinK (α := Bool) (fun q => [(80, .bool q)]) [(0, _), (5, _), (7, _), (8, _), (9, _)] (fun q => (b8, .cells (fW (oneO s i).1).toArray 67 (0, 0)) :: (m5 ++ [])) (fun q => q = badO (oneO s i) i last out) ⟨rfl, rfl, rfl, rfl, rfl, trivial⟩ ?_ ?_
  ·
   refine wpM.region ?_
   refine LM.mv rfl ?_
   refine LM.val (ov_not rfl) ?_
   refine LM.mv rfl ?_
   refine LM.splitB (t := 61) rfl (fun h9 => ?_) (fun h9 => ?_)
   ·
    refine LM.dr 61 rfl rfl rfl <| LM.dr 61 rfl rfl rfl <| LM.dr 61 rfl rfl rfl ?_
    refine LM.dropU (t := 61) rfl rfl rfl ?_
    refine LM.dropX (t := 65) rfl rfl ?_
    refine LM.dropX (t := 65) rfl rfl ?_
    refine LM.dropX (t := 65) rfl rfl ?_
    refine LM.dr 61 rfl rfl rfl ?_
    refine LM.dropU (t := 61) rfl rfl rfl ?_
    refine LM.dropX (t := 70) rfl rfl ?_
    refine LM.dropX (t := 70) rfl rfl ?_
    refine LM.dropX (t := 70) rfl rfl ?_
    refine LM.dropX (t := 70) rfl rfl ?_
    refine LM.dropX (t := 70) rfl rfl ?_
    refine LM.dropX (t := 70) rfl rfl ?_
    refine LM.dropX (t := 70) rfl rfl ?_
    refine LM.dropX (t := 70) rfl rfl ?_
    refine LM.dr 61 rfl rfl rfl <| LM.val (ov_pickT rfl rfl) <| nC [(0, _), (5, _), (7, _), (8, _), (9, _), (80, _)] ?_
    refine QM.meetK (_) ⟨au2, rfl, rfl, rfl, rfl, rfl, trivial⟩ au1 ?_
    · unfold badO; simp only [h1, h2, h5, h6, h9, decide_true, decide_false, Bool.true_and, Bool.false_and, Bool.and_true, Bool.and_false, Bool.not_true, Bool.not_false, Bool.true_or, Bool.false_or, Bool.or_true, Bool.or_false, ne_eq, not_true_eq_false, not_false_eq_true, Bool.and_self]
   refine LM.sp 61 rfl rfl rfl <| LM.mv rfl <| LM.sp 61 rfl rfl rfl <| LM.mv rfl <| LM.sp 61 rfl rfl rfl <| LM.val (ov_eql rfl rfl) <| LM.sp 61 rfl rfl rfl <| LM.mv rfl ?_
   refine LM.splitD (t := 65) rfl (fun h10 => ?_) (fun h10 => ?_)
   ·
    refine LM.sp 65 rfl rfl rfl <| LM.val (ovf 3 rfl rfl rfl rfl) <| LM.sp 65 rfl rfl rfl ?_
    refine LM.rd (oml rfl rfl rfl) ?_
    refine LM.sp 65 rfl rfl rfl <| LM.val (ov_neq rfl rfl) <| LM.sp 61 rfl rfl rfl <| LM.val (ov_pickT rfl rfl) <| LM.sp 61 rfl rfl rfl <| LM.mv rfl ?_
    refine LM.splitD (t := 70) rfl (fun h11 => ?_) (fun h11 => ?_)
    ·
     have hne : 0 < out.length := (by rcases hlast with h | h; (exfalso; omega); exact List.length_pos_iff.2 h)
     refine LM.sp 70 rfl rfl rfl <| LM.mv rfl <| LM.sp 70 rfl rfl rfl <| LM.mv rfl <| LM.sp 70 rfl rfl rfl <| LM.val (ov_len Try.underlying49 rfl) <| LM.sp 70 rfl rfl rfl ?_
     refine LM.val (ov_sub64 rfl rfl om) ?_
     refine LM.sp 70 rfl rfl rfl ?_
     refine LM.val (ov_idxS au6 Try.underlying49 Try.sizeOf67 rfl rfl om) ?_
     refine LM.sp 70 rfl rfl rfl <| LM.val (ovf 3 rfl rfl rfl rfl) <| LM.sp 70 rfl rfl rfl ?_
     refine LM.rd (om_slE (j := 0) asm ir Try.isAgg3 rfl rfl au3 rfl (by rfl)) ?_
     refine LM.sp 70 rfl rfl rfl <| LM.val (ov_neq rfl rfl) <| LM.sp 61 rfl rfl rfl <| LM.val (ov_pickT rfl rfl) <| LM.val (ov_pickF rfl rfl) <| nC [(0, _), (5, _), (7, _), (8, _), (9, _), (80, _)] ?_
     refine QM.meetK (_) ⟨au2, rfl, rfl, rfl, rfl, rfl, trivial⟩ au1 ?_
     · rw [show ((n5 : Int) - 1).toNat = out.length - 1 by omega]; unfold badO; simp only [h1, h2, h5, h6, h9, h10, h11, decide_true, decide_false, Bool.true_and, Bool.false_and, Bool.and_true, Bool.and_false, Bool.not_true, Bool.not_false, Bool.true_or, Bool.false_or, Bool.or_true, Bool.or_false, ne_eq, not_true_eq_false, not_false_eq_true, Bool.and_self]
    refine LM.dr 70 rfl rfl rfl <| LM.dr 70 rfl rfl rfl <| LM.dr 70 rfl rfl rfl <| LM.dr 70 rfl rfl rfl <| LM.dr 70 rfl rfl rfl <| LM.dr 70 rfl rfl rfl <| LM.dr 70 rfl rfl rfl <| LM.dr 70 rfl rfl rfl <| LM.sp 61 rfl rfl rfl <| LM.val (ov_pickF rfl rfl) <| LM.val (ov_pickF rfl rfl) <| nC [(0, _), (5, _), (7, _), (8, _), (9, _), (80, _)] ?_
    refine QM.meetK (_) ⟨au2, rfl, rfl, rfl, rfl, rfl, trivial⟩ au1 ?_
    · unfold badO; simp only [h1, h2, h5, h6, h9, h10, h11, decide_true, decide_false, Bool.true_and, Bool.false_and, Bool.and_true, Bool.and_false, Bool.not_true, Bool.not_false, Bool.true_or, Bool.false_or, Bool.or_true, Bool.or_false, ne_eq, not_true_eq_false, not_false_eq_true, Bool.and_self]
   refine LM.dr 65 rfl rfl rfl <| LM.dr 65 rfl rfl rfl <| LM.dr 65 rfl rfl rfl <| LM.sp 61 rfl rfl rfl <| LM.val (ov_pickF rfl rfl) <| LM.sp 61 rfl rfl rfl <| LM.mv rfl <| LM.dr 70 rfl rfl rfl <| LM.dr 70 rfl rfl rfl <| LM.dr 70 rfl rfl rfl <| LM.dr 70 rfl rfl rfl <| LM.dr 70 rfl rfl rfl <| LM.dr 70 rfl rfl rfl <| LM.dr 70 rfl rfl rfl <| LM.dr 70 rfl rfl rfl <| LM.sp 61 rfl rfl rfl <| LM.val (ov_pickF rfl rfl) <| LM.val (ov_pickF rfl rfl) <| nC [(0, _), (5, _), (7, _), (8, _), (9, _), (80, _)] ?_
   refine QM.meetK (_) ⟨au2, rfl, rfl, rfl, rfl, rfl, trivial⟩ au1 ?_
   · unfold badO; simp only [h1, h2, h5, h6, h9, h10, decide_true, decide_false, Bool.true_and, Bool.false_and, Bool.and_true, Bool.and_false, Bool.not_true, Bool.not_false, Bool.true_or, Bool.false_or, Bool.or_true, Bool.or_false, ne_eq, not_true_eq_false, not_false_eq_true, Bool.and_self]
  rintro q hq
  change QM _ _ _ _ _ ((b8, .cells (fW (oneO s i).1).toArray 67 (0, 0)) :: (m5 ++ [])) _ _ _
  refine QM.then ?_
  refine wpM.condB rfl (fun h12 => ?_) (fun h12 => ?_)
  ·
   refine wR <| LM.mv rfl <| LM.as rfl <| LM.as rfl <| LM.as rfl <| nA [(2, _), (3, _), (4, _)] <| wpM.ret <| QM.then_ret <| QM.block_ret <| QM.then_ret <| QM.block_ret <| QM.then_ret ?_
   refine QM.leave (.inl rfl) [.tmp 2, .tmp 3, .tmp 4] Try.results11 rfl ?_
   intro w' hm' hc' hg'
   have hr : scanO s = ([], (i : Int), 5) := (by unfold scanO; rw [if_neg om, ← hsc, scanR_bad om (hq7 ▸ h5) (decide_eq_false h6) (hq ▸ h12)]); rw [hr]; exact ⟨hc', [], ⟨none, 0, 0, rfl, rfl, .nil _ _ _ _⟩, Mem.nil _, fun p hp => by cases hp⟩
  refine wpM.skip <| tR <| LM.mv rfl ?_
  refine LM.rd (om_ldW Try.isAgg67 Try.sizeOf67 rfl rfl) ?_
  refine LM.single Try.underlying49 Try.sizeOf67 Try.zeroValue67 rfl rfl rfl rfl rfl (fun b84 hb84 => ?_)
  refine LM.app (a := (oneO s i).1) Try.underlying49 Try.typeInfo67 rfl rfl rfl rfl rfl rfl rfl asm (by rfl) ir (by intro _ u hu; simp [fW] at hu; (repeat (first | (rcases hu with rfl | hu) | subst hu | rfl))) (by first | exact Nat.le_refl _ | omega) au10 (by first | omega | (unfold maxLen; omega)) (by simp only [Try.t67]; omega) (fun ad85 n85 cap85 m85 hn85 hs85 hin85 => ?_)
  refine LM.as rfl <| nB [(0, _), (5, _), (9, _)] <| LM.mv rfl <| LM.as rfl ?_
  refine LM.nil (QM.sub (e' := [(0, _), (5, _), (7, _), (9, _)]) au9 (QM.then (wpM.region ?_)))
  refine LM.mv rfl <| LM.as rfl <| nC [(0, _), (5, _), (6, _), (7, _)] <| QM.block_normal ?_
  have hl1 := one_lt (show i < s.length by omega)
  refine QM.againK (((oneO s i).2.1, ((oneO s i).2.1 : Nat), out ++ [(oneO s i).1], ad85, n85, cap85, m85)) ⟨au2, au2, au2, rfl, trivial⟩ au1 (fun _ h => h) ?_ ?_
  · exact ⟨by omega, (scanR_word om (hq7 ▸ h5) (decide_eq_false h6) (hq ▸ h12)).symm.trans hsc, by rw [hn85]; simp, hs85, .inr (by simp), by simp; omega⟩
  · (dsimp only; omega)
 refine wpM.exit <| QM.then_exit <| QM.then_exit <| QM.block_hit <| tR <| LM.mv rfl <| LM.as rfl <| LM.as rfl <| LM.as rfl <| nA [(2, _), (3, _), (4, _)] <| wpM.ret ?_
 refine QM.leave (.inl rfl) [.tmp 2, .tmp 3, .tmp 4] Try.results11 rfl ?_
 intro w' hm' hc' hg'
 have hr : scanO s = (out, 0, 0) := (by unfold scanO; rw [if_neg om, ← hsc, scanR_end om]); rw [hr]; exact ⟨hc', m5, ⟨ad5, n5, cap5, rfl, hn5, hs5⟩, hm'.pick m5, fun p hp => Sl.ge hs5 p hp⟩
end Go.Eng
namespace Go.Eng
open Go Go.Proofs Go.RowKit
theorem loA_cases (k : Int) : loA k = -1 ∨ 0 ≤ loA k := by unfold loA; (repeat' split) <;> omega
theorem all_any {α : Type} {p : α → Bool} {xs : List α} : xs.all p = !xs.any (fun o => !p o) := by rw [List.all_eq_not_any_not]
theorem all_snoc {α : Type} {p : α → Bool} {xs : List α} {i : Nat} (d : α) (h : i < xs.length) : (xs.take (i + 1)).all p = ((xs.take i).all p && p (xs.getD i d)) := by
  rw [take_snoc d h, List.all_append]; simp
theorem may_not {xs : List COp} {i : Nat} (h : i < xs.length) (hr : rightB (xs.getD i default) = false) : mayB xs = false := by
  cases hm : mayB xs with
  | false => rfl
  | true => rw [may_at hm h] at hr; cases hr
theorem hasB5 {k b : Int} (h : k = 5) : hasB (loB k) (hiB k) b = (decide (1 ≤ b) && decide (b ≤ 64)) := by subst h; rfl
theorem hasBn {k b : Int} (h : ¬ k = 5) : hasB (loB k) (hiB k) b = decide (b = 0) := by unfold loB hiB; rw [if_neg h, if_neg h]; rfl
abbrev pV (fv : Bool) (ad : Option Addr) (n cap : Nat) : Value := .agg #[.bool fv, .slice ad n cap]
abbrev pB (b : Nat) (fv : Bool) (ad : Option Addr) (n cap : Nat) : Nat × Obj := (b, .cells #[.bool fv, .slice ad n cap] 45 (0, 0))
theorem names_spec (w : World) : Ret Try.prog 90 #[] w (New fB 9 1 nmW w) := by
 refine Ret.enterM Try.func90 rfl Try.ntmps90 rfl ([]) (no) (Mem.nil w) ?_
 refine wR <| LM.as rfl ?_
 refine LM.nil (QM.sub (e' := []) trivial (QM.then (wpM.seq (wpM.region ?_))))
 refine LM.row (vs := [_, _, _, _, _, _, _, _, _, _, _, _]) Try.underlying109 Try.sizeOf9 Try.zeroValue9 rfl rfl rfl rfl rfl rfl (fun b1 hb1 => ?_)
 refine LM.as rfl <| nA [(0, _)] <| wpM.ret ?_
 refine qL Try.results90 rfl fun w' hm' hc' hg' => ?_
 exact ⟨hc', [(b1, .cells (arr fB nmW []) 9 (0, 0))], .inr ⟨b1, 12, [], hb1, rfl, rfl, by decide, by unfold maxLen; decide, rfl⟩, hm'⟩
theorem name_spec (k : Int) (w : World) : Ret Try.prog 88 #[.int .i64 k] w (fun v w' => v = vS (nmT k) ∧ Ext w w') := by
 refine Ret.enterM Try.func88 rfl Try.ntmps88 rfl ([]) (no) (Mem.nil w) ?_
 refine wR <| LM.as rfl <| nA [(0, _)] <| wpM.seq <| wR <| LM.mv rfl <| LM.val (ov_lss rfl rfl) <| LM.mv rfl ?_
 refine LM.splitD (t := 5) rfl (fun h1 => ?_) (fun h1 => ?_)
 ·
  refine LM.dr 5 rfl rfl rfl <| LM.dr 5 rfl rfl rfl <| LM.dr 5 rfl rfl rfl <| LM.dr 5 rfl rfl rfl <| LM.val (ov_pickT rfl rfl) <| nA [(0, _), (10, _)] ?_
  refine wpM.condT rfl ?_
  refine wR <| LM.as rfl <| nA [(2, _)] <| wpM.ret <| QM.then_ret ?_
  refine qL Try.results88 rfl fun w' hm' hc' hg' => ?_
  have hl13 : nmW.length = 12 := rfl; refine ⟨?_, hc'⟩; show vS _ = _; congr 1; first | (rw [nmT, if_neg om]; done) | (rw [nmT, if_pos om]; rfl)
 refine LM.sp 5 rfl rfl rfl <| LM.mv rfl <| LM.sp 5 rfl rfl rfl ?_
 refine LM.cS (oc_call (enters_fn Try.func90 kr rfl) rfl) (fun w hm hc hg => names_spec w) (fun ad7 n7 cap7 m7 hn7 hs7 => ?_)
 refine LM.sp 5 rfl rfl rfl <| LM.val (ov_len Try.underlying109 rfl) <| LM.sp 5 rfl rfl rfl ?_
 have hl12 : n7 = 12 := hn7
 refine LM.val (ov_geq rfl rfl) <| LM.val (ov_pickF rfl rfl) <| nA [(0, _), (10, _)] ?_
 refine wpM.condD rfl (fun h2 => ?_) (fun h2 => ?_)
 ·
  refine wR <| LM.as rfl <| nA [(2, _)] <| wpM.ret <| QM.then_ret ?_
  refine qL Try.results88 rfl fun w' hm' hc' hg' => ?_
  have hl13 : nmW.length = 12 := rfl; refine ⟨?_, hc'⟩; show vS _ = _; congr 1; first | (rw [nmT, if_neg om]; done) | (rw [nmT, if_pos om]; rfl)
 refine wpM.skip <| tR ?_
 refine LM.cS (oc_call (enters_fn Try.func90 kr rfl) rfl) (fun w hm hc hg => names_spec w) (fun ad11 n11 cap11 m11 hn11 hs11 => ?_)
 have hl12 : n11 = 12 := hn11
 refine LM.mv rfl ?_
 refine LM.val (ov_idxS au6 Try.underlying109 Try.sizeOf9 rfl rfl om) ?_
 refine LM.rd (om_sl1 asm ir Try.isAgg9 rfl rfl au3 (by rfl)) ?_
 refine LM.as rfl <| nA [(2, _)] <| wpM.ret ?_
 refine qL Try.results88 rfl fun w' hm' hc' hg' => ?_
 have hl13 : nmW.length = 12 := rfl; refine ⟨?_, hc'⟩; show vS _ = _; congr 1; first | (rw [nmT, if_neg om]; done) | (rw [nmT, if_pos om]; rfl)
theorem rname_spec (k : Int) (w : World) : Ret Try.prog 45 #[.int .i64 k] w (fun v w' => v = vS (nmT k) ∧ Ext w w') := by
 refine Ret.enterM Try.func45 rfl Try.ntmps45 rfl ([]) (no) (Mem.nil w) ?_
 refine wR <| LM.as rfl <| nB [(0, _)] ?_
 refine LM.row (vs := [_, _, _, _, _, _, _, _, _, _, _, _]) Try.underlying109 Try.sizeOf9 Try.zeroValue9 rfl rfl rfl rfl rfl rfl (fun b4 hb4 => ?_)
 refine LM.as rfl <| nA [(0, _), (3, _)] <| wpM.seq <| wR <| LM.mv rfl <| LM.val (ov_lss rfl rfl) <| LM.mv rfl ?_
 refine LM.splitD (t := 7) rfl (fun h1 => ?_) (fun h1 => ?_)
 ·
  refine LM.dr 7 rfl rfl rfl <| LM.dr 7 rfl rfl rfl <| LM.val (ov_pickT rfl rfl) <| nA [(0, _), (3, _), (10, _)] ?_
  refine wpM.condT rfl ?_
  refine wR <| LM.as rfl <| nA [(2, _)] <| wpM.ret <| QM.then_ret ?_
  refine qL Try.results45 rfl fun w' hm' hc' hg' => ?_
  refine ⟨?_, hc'⟩; show vS _ = _; congr 1; first | (rw [nmT, if_neg om]; done) | (rw [nmT, if_pos om]; rfl)
 refine LM.sp 7 rfl rfl rfl <| LM.mv rfl <| LM.sp 7 rfl rfl rfl <| LM.val (ov_gtr rfl rfl) <| LM.val (ov_pickF rfl rfl) <| nA [(0, _), (3, _), (10, _)] ?_
 refine wpM.condD rfl (fun h2 => ?_) (fun h2 => ?_)
 ·
  refine wR <| LM.as rfl <| nA [(2, _)] <| wpM.ret <| QM.then_ret ?_
  refine qL Try.results45 rfl fun w' hm' hc' hg' => ?_
  refine ⟨?_, hc'⟩; show vS _ = _; congr 1; first | (rw [nmT, if_neg om]; done) | (rw [nmT, if_pos om]; rfl)
 refine wpM.skip <| tR <| LM.mv rfl <| LM.mv rfl ?_
 change LM _ _ _ _ _ _ _ _ ((b4, Obj.cells (arr fB nmW []) 9 (0, 0)) :: _) _ _ _; have hs4 : Sl fB 9 1 w.heap.size nmW (.slice (some ⟨b4, 0, none⟩) 12 12) [(b4, .cells (arr fB nmW []) 9 (0, 0))] := .inr ⟨b4, 12, [], hb4, rfl, rfl, by decide, by unfold maxLen; decide, rfl⟩; have hl12 : nmW.length = 12 := rfl
 refine LM.val (ov_idxS au6 Try.underlying109 Try.sizeOf9 rfl rfl om) ?_
 refine LM.rd (om_sl1 asm ir Try.isAgg9 rfl rfl au3 (by rfl)) ?_
 refine LM.as rfl <| nA [(2, _)] <| wpM.ret ?_
 refine qL Try.results45 rfl fun w' hm' hc' hg' => ?_
 refine ⟨?_, hc'⟩; show vS _ = _; congr 1; first | (rw [nmT, if_neg om]; done) | (rw [nmT, if_pos om]; rfl)
theorem spans_spec (k : Int) (w : World) : Ret Try.prog 87 #[.int .i64 k] w (fun v w' => v = .tuple #[.agg #[.int .i64 (loA k), .int .i64 (hiA k)], .agg #[.int .i64 (loB k), .int .i64 (hiB k)]] ∧ Ext w w') := by
 refine Ret.enterM Try.func87 rfl Try.ntmps87 rfl ([]) (no) (Mem.nil w) ?_
 refine wR ?_
 refine LM.alloc Try.zeroValue134 rfl (fun b2 hb2 => ?_)
 refine LM.alloc Try.zeroValue134 rfl (fun b3 hb3 => ?_)
 refine nB [(0, _), (2, _), (3, _)] ?_
 refine LM.val (ov_build (cs := #[_, _]) rfl (by first | rfl | kernel_rfl)) ?_
 refine LM.alloc Try.zeroValue134 rfl (fun b4 hb4 => ?_)
 refine LM.stW Try.sizeOf134 rfl rfl rfl rfl au7 au8 ?_
 refine nA [(0, _), (2, _), (3, _), (4, _)] <| wpM.seq <| wR <| LM.mv rfl <| nA [(2, _), (3, _), (4, _), (6, _)] <| wpM.block <| wR <| LM.val (ov_eql rfl rfl) <| LM.as rfl <| nA [(2, _), (3, _), (4, _), (6, _), (7, _)] ?_
 refine wpM.condD rfl (fun h1 => ?_) (fun h1 => ?_)
 ·
  refine wpM.seq ?_
  refine wpM.toAltO (b2) [.cells #[.int .i64 0, .int .i64 0] 134 (0, 0), .cells #[.int .i64 (1), .int .i64 (16)] 134 (0, 0)] (by first | exact .head _ | (simp; done)) (fun hMc => ?_)
  refine wpM.draw [(0, 0), (1, 1), (2, 2), (3, 3)] kr kr ?_
  refine LD.val rfl rfl (ov_build (cs := #[_, _]) rfl (by first | rfl | kernel_rfl)) ?_
  refine LD.rd rfl rfl (om_ldW Try.isAgg134 Try.sizeOf134 rfl rfl) ?_
  refine LD.stAltO [.cells #[.int .i64 (1), .int .i64 (16)] 134 (0, 0)] rfl rfl Try.sizeOf134 rfl rfl rfl (by decide) (by simp) (by simp only [List.forall_mem_cons, List.not_mem_nil, false_implies, implies_true, and_true]; exact ⟨⟨_, _, rfl, by decide, .head _⟩, ⟨_, _, rfl, by decide, .head _⟩⟩) au8 hMc ?_
  refine LD.tail rfl rfl ?_
  refine LM.ofAltO ?_
  refine LM.stW Try.sizeOf134 rfl rfl rfl rfl au7 au8 ?_
  refine LM.nil ?_
  refine QM.qn ?_
  refine QM.sub (e' := [(2, _), (3, _)]) au9 (QM.then ?_)
  refine wpM.ret <| QM.block_ret <| QM.then_ret ?_
  refine QM.leaveCs (ds := ([])) (.inl rfl) [.cell 2 134, .cell 3 134] Try.results87 hd_nil (rc_w rfl Try.isAgg134 Try.sizeOf134 rfl (rc_w rfl Try.isAgg134 Try.sizeOf134 rfl rc_nil)) ?_
  intro w' hm' hc'
  refine ⟨?_, hc'⟩; simp only [resV, loA, hiA, loB, hiB]; try ((repeat' split) <;> first | rfl | omega)
 refine wpM.seq <| wR <| LM.val (ov_eql rfl rfl) <| LM.as rfl <| nA [(2, _), (3, _), (4, _), (6, _), (11, _)] ?_
 refine wpM.condXD (t := 11) rfl (fun h2 => ?_) (fun h2 => ?_)
 ·
  refine wpM.skip <| QM.then ?_
  refine wpM.condT rfl ?_
  refine wpM.seq ?_
  refine wpM.toAltO (b2) [.cells #[.int .i64 0, .int .i64 0] 134 (0, 0), .cells #[.int .i64 (0), .int .i64 (7)] 134 (0, 0)] (by first | exact .head _ | (simp; done)) (fun hMc => ?_)
  refine wpM.draw [(0, 0), (1, 1), (2, 2), (3, 3)] kr kr ?_
  refine LD.val rfl rfl (ov_build (cs := #[_, _]) rfl (by first | rfl | kernel_rfl)) ?_
  refine LD.rd rfl rfl (om_ldW Try.isAgg134 Try.sizeOf134 rfl rfl) ?_
  refine LD.stAltO [.cells #[.int .i64 (0), .int .i64 (7)] 134 (0, 0)] rfl rfl Try.sizeOf134 rfl rfl rfl (by decide) (by simp) (by simp only [List.forall_mem_cons, List.not_mem_nil, false_implies, implies_true, and_true]; exact ⟨⟨_, _, rfl, by decide, .head _⟩, ⟨_, _, rfl, by decide, .head _⟩⟩) au8 hMc ?_
  refine LD.tail rfl rfl ?_
  refine LM.ofAltO ?_
  refine LM.stW Try.sizeOf134 rfl rfl rfl rfl au7 au8 ?_
  refine LM.nil ?_
  refine QM.qn ?_
  refine QM.sub (e' := [(2, _), (3, _)]) au9 (QM.then ?_)
  refine wpM.ret <| QM.block_ret <| QM.then_ret ?_
  refine QM.leaveCs (ds := ([])) (.inl rfl) [.cell 2 134, .cell 3 134] Try.results87 hd_nil (rc_w rfl Try.isAgg134 Try.sizeOf134 rfl (rc_w rfl Try.isAgg134 Try.sizeOf134 rfl rc_nil)) ?_
  intro w' hm' hc'
  refine ⟨?_, hc'⟩; simp only [resV, loA, hiA, loB, hiB]; try ((repeat' split) <;> first | rfl | omega)
 refine wR <| LM.val (ov_eql rfl rfl) <| LM.as rfl <| nA [(2, _), (3, _), (4, _), (6, _), (11, _)] ?_
 refine wpM.condXD (t := 11) rfl (fun h3 => ?_) (fun h3 => ?_)
 ·
  refine wpM.skip <| QM.then ?_
  refine wpM.condT rfl ?_
  refine wpM.seq ?_
  refine wpM.toAltO (b2) [.cells #[.int .i64 0, .int .i64 0] 134 (0, 0), .cells #[.int .i64 (0), .int .i64 (7)] 134 (0, 0)] (by first | exact .head _ | (simp; done)) (fun hMc => ?_)
  refine wpM.draw [(0, 0), (1, 1), (2, 2), (3, 3)] kr kr ?_
  refine LD.val rfl rfl (ov_build (cs := #[_, _]) rfl (by first | rfl | kernel_rfl)) ?_
  refine LD.rd rfl rfl (om_ldW Try.isAgg134 Try.sizeOf134 rfl rfl) ?_
  refine LD.stAltO [.cells #[.int .i64 (0), .int .i64 (7)] 134 (0, 0)] rfl rfl Try.sizeOf134 rfl rfl rfl (by decide) (by simp) (by simp only [List.forall_mem_cons, List.not_mem_nil, false_implies, implies_true, and_true]; exact ⟨⟨_, _, rfl, by decide, .head _⟩, ⟨_, _, rfl, by decide, .head _⟩⟩) au8 hMc ?_
  refine LD.tail rfl rfl ?_
  refine LM.ofAltO ?_
  refine LM.stW Try.sizeOf134 rfl rfl rfl rfl au7 au8 ?_
  refine LM.nil ?_
  refine QM.qn ?_
  refine QM.sub (e' := [(2, _), (3, _)]) au9 (QM.then ?_)
  refine wpM.ret <| QM.block_ret <| QM.then_ret ?_
  refine QM.leaveCs (ds := ([])) (.inl rfl) [.cell 2 134, .cell 3 134] Try.results87 hd_nil (rc_w rfl Try.isAgg134 Try.sizeOf134 rfl (rc_w rfl Try.isAgg134 Try.sizeOf134 rfl rc_nil)) ?_
  intro w' hm' hc'
  refine ⟨?_, hc'⟩; simp only [resV, loA, hiA, loB, hiB]; try ((repeat' split) <;> first | rfl | omega)
 refine wR <| LM.val (ov_eql rfl rfl) <| LM.as rfl <| nA [(2, _), (3, _), (4, _), (6, _), (11, _)] ?_
 refine wpM.condXD (t := 11) rfl (fun h4 => ?_) (fun h4 => ?_)
 ·
  refine wpM.skip <| QM.then ?_
  refine wpM.condT rfl ?_
  refine wpM.seq ?_
  refine wpM.toAltO (b2) [.cells #[.int .i64 0, .int .i64 0] 134 (0, 0), .cells #[.int .i64 (0), .int .i64 (7)] 134 (0, 0)] (by first | exact .head _ | (simp; done)) (fun hMc => ?_)
  refine wpM.draw [(0, 0), (1, 1), (2, 2), (3, 3)] kr kr ?_
  refine LD.val rfl rfl (ov_build (cs := #[_, _]) rfl (by first | rfl | kernel_rfl)) ?_
  refine LD.rd rfl rfl (om_ldW Try.isAgg134 Try.sizeOf134 rfl rfl) ?_
  refine LD.stAltO [.cells #[.int .i64 (0), .int .i64 (7)] 134 (0, 0)] rfl rfl Try.sizeOf134 rfl rfl rfl (by decide) (by simp) (by simp only [List.forall_mem_cons, List.not_mem_nil, false_implies, implies_true, and_true]; exact ⟨⟨_, _, rfl, by decide, .head _⟩, ⟨_, _, rfl, by decide, .head _⟩⟩) au8 hMc ?_
  refine LD.tail rfl rfl ?_
  refine LM.ofAltO ?_
  refine LM.stW Try.sizeOf134 rfl rfl rfl rfl au7 au8 ?_
  refine LM.nil ?_
  refine QM.qn ?_
  refine QM.sub (e' := [(2, _), (3, _)]) au9 (QM.then ?_)
  refine wpM.ret <| QM.block_ret <| QM.then_ret ?_
  refine QM.leaveCs (ds := ([])) (.inl rfl) [.cell 2 134, .cell 3 134] Try.results87 hd_nil (rc_w rfl Try.isAgg134 Try.sizeOf134 rfl (rc_w rfl Try.isAgg134 Try.sizeOf134 rfl rc_nil)) ?_
  intro w' hm' hc'
  refine ⟨?_, hc'⟩; simp only [resV, loA, hiA, loB, hiB]; try ((repeat' split) <;> first | rfl | omega)
 refine wR <| LM.val (ov_eql rfl rfl) <| LM.as rfl <| nA [(2, _), (3, _), (4, _), (6, _), (11, _)] ?_
 refine wpM.condXD (t := 11) rfl (fun h5 => ?_) (fun h5 => ?_)
 ·
  refine wpM.skip <| QM.then ?_
  refine wpM.condT rfl ?_
  refine wpM.seq ?_
  refine wpM.toAltO (b2) [.cells #[.int .i64 0, .int .i64 0] 134 (0, 0), .cells #[.int .i64 (0), .int .i64 (7)] 134 (0, 0)] (by first | exact .head _ | (simp; done)) (fun hMc => ?_)
  refine wpM.draw [(0, 0), (1, 1), (2, 2), (3, 3)] kr kr ?_
  refine LD.val rfl rfl (ov_build (cs := #[_, _]) rfl (by first | rfl | kernel_rfl)) ?_
  refine LD.rd rfl rfl (om_ldW Try.isAgg134 Try.sizeOf134 rfl rfl) ?_
  refine LD.stAltO [.cells #[.int .i64 (0), .int .i64 (7)] 134 (0, 0)] rfl rfl Try.sizeOf134 rfl rfl rfl (by decide) (by simp) (by simp only [List.forall_mem_cons, List.not_mem_nil, false_implies, implies_true, and_true]; exact ⟨⟨_, _, rfl, by decide, .head _⟩, ⟨_, _, rfl, by decide, .head _⟩⟩) au8 hMc ?_
  refine LD.tail rfl rfl ?_
  refine LM.ofAltO ?_
  refine LM.stW Try.sizeOf134 rfl rfl rfl rfl au7 au8 ?_
  refine LM.nil ?_
  refine QM.qn ?_
  refine QM.sub (e' := [(2, _), (3, _)]) au9 (QM.then ?_)
  refine wpM.ret <| QM.block_ret <| QM.then_ret ?_
  refine QM.leaveCs (ds := ([])) (.inl rfl) [.cell 2 134, .cell 3 134] Try.results87 hd_nil (rc_w rfl Try.isAgg134 Try.sizeOf134 rfl (rc_w rfl Try.isAgg134 Try.sizeOf134 rfl rc_nil)) ?_
  intro w' hm' hc'
  refine ⟨?_, hc'⟩; simp only [resV, loA, hiA, loB, hiB]; try ((repeat' split) <;> first | rfl | omega)
 refine wpM.region ?_
 refine LM.val (ov_eql rfl rfl) <| LM.as rfl <| nA [(2, _), (3, _), (4, _), (6, _), (11, _)] ?_
 refine wpM.condD rfl (fun h6 => ?_) (fun h6 => ?_)
 ·
  refine wpM.seq ?_
  refine wpM.toAltO (b2) [.cells #[.int .i64 0, .int .i64 0] 134 (0, 0), .cells #[.int .i64 (0), .int .i64 (7)] 134 (0, 0)] (by first | exact .head _ | (simp; done)) (fun hMc => ?_)
  refine wpM.draw [(0, 0), (1, 1), (2, 2), (3, 3)] kr kr ?_
  refine LD.val rfl rfl (ov_build (cs := #[_, _]) rfl (by first | rfl | kernel_rfl)) ?_
  refine LD.rd rfl rfl (om_ldW Try.isAgg134 Try.sizeOf134 rfl rfl) ?_
  refine LD.stAltO [.cells #[.int .i64 (0), .int .i64 (7)] 134 (0, 0)] rfl rfl Try.sizeOf134 rfl rfl rfl (by decide) (by simp) (by simp only [List.forall_mem_cons, List.not_mem_nil, false_implies, implies_true, and_true]; exact ⟨⟨_, _, rfl, by decide, .head _⟩, ⟨_, _, rfl, by decide, .head _⟩⟩) au8 hMc ?_
  refine LD.tail rfl rfl ?_
  refine LM.ofAltO ?_
  refine LM.stW Try.sizeOf134 rfl rfl rfl rfl au7 au8 ?_
  refine LM.nil ?_
  refine QM.qn ?_
  refine QM.sub (e' := [(2, _), (3, _)]) au9 (QM.then ?_)
  refine wpM.ret <| QM.block_ret <| QM.then_ret ?_
  refine QM.leaveCs (ds := ([])) (.inl rfl) [.cell 2 134, .cell 3 134] Try.results87 hd_nil (rc_w rfl Try.isAgg134 Try.sizeOf134 rfl (rc_w rfl Try.isAgg134 Try.sizeOf134 rfl rc_nil)) ?_
  intro w' hm' hc'
  refine ⟨?_, hc'⟩; simp only [resV, loA, hiA, loB, hiB]; try ((repeat' split) <;> first | rfl | omega)
 refine wR <| LM.val (ov_eql rfl rfl) <| LM.as rfl <| nA [(2, _), (3, _), (4, _), (6, _), (19, _)] ?_
 refine wpM.condD rfl (fun h7 => ?_) (fun h7 => ?_)
 ·
  refine wR ?_
  refine LM.val (ov_build (cs := #[_, _]) rfl (by first | rfl | kernel_rfl)) ?_
  refine LM.val (ov_build (cs := #[_, _]) rfl (by first | rfl | kernel_rfl)) ?_
  refine LM.stW Try.sizeOf134 rfl rfl rfl rfl au7 au8 ?_
  refine LM.stW Try.sizeOf134 rfl rfl rfl rfl au7 au8 ?_
  refine nA [(2, _), (3, _)] <| wpM.ret <| QM.block_ret <| QM.then_ret ?_
  refine QM.leaveCs (ds := ([])) (.inl rfl) [.cell 2 134, .cell 3 134] Try.results87 hd_nil (rc_w rfl Try.isAgg134 Try.sizeOf134 rfl (rc_w rfl Try.isAgg134 Try.sizeOf134 rfl rc_nil)) ?_
  intro w' hm' hc'
  refine ⟨?_, hc'⟩; simp only [resV, loA, hiA, loB, hiB]; try ((repeat' split) <;> first | rfl | omega)
 refine wR <| LM.val (ov_eql rfl rfl) <| LM.as rfl <| nA [(2, _), (3, _), (4, _), (6, _), (23, _)] ?_
 refine wpM.condD rfl (fun h8 => ?_) (fun h8 => ?_)
 ·
  refine wpM.seq ?_
  refine wpM.toAltO (b2) [.cells #[.int .i64 0, .int .i64 0] 134 (0, 0), .cells #[.int .i64 (1), .int .i64 (64)] 134 (0, 0)] (by first | exact .head _ | (simp; done)) (fun hMc => ?_)
  refine wpM.draw [(0, 0), (1, 1), (2, 2), (3, 3)] kr kr ?_
  refine LD.val rfl rfl (ov_build (cs := #[_, _]) rfl (by first | rfl | kernel_rfl)) ?_
  refine LD.rd rfl rfl (om_ldW Try.isAgg134 Try.sizeOf134 rfl rfl) ?_
  refine LD.stAltO [.cells #[.int .i64 (1), .int .i64 (64)] 134 (0, 0)] rfl rfl Try.sizeOf134 rfl rfl rfl (by decide) (by simp) (by simp only [List.forall_mem_cons, List.not_mem_nil, false_implies, implies_true, and_true]; exact ⟨⟨_, _, rfl, by decide, .head _⟩, ⟨_, _, rfl, by decide, .head _⟩⟩) au8 hMc ?_
  refine LD.tail rfl rfl ?_
  refine LM.ofAltO ?_
  refine LM.stW Try.sizeOf134 rfl rfl rfl rfl au7 au8 ?_
  refine LM.nil ?_
  refine QM.qn ?_
  refine QM.sub (e' := [(2, _), (3, _)]) au9 (QM.then ?_)
  refine wpM.ret <| QM.block_ret <| QM.then_ret ?_
  refine QM.leaveCs (ds := ([])) (.inl rfl) [.cell 2 134, .cell 3 134] Try.results87 hd_nil (rc_w rfl Try.isAgg134 Try.sizeOf134 rfl (rc_w rfl Try.isAgg134 Try.sizeOf134 rfl rc_nil)) ?_
  intro w' hm' hc'
  refine ⟨?_, hc'⟩; simp only [resV, loA, hiA, loB, hiB]; try ((repeat' split) <;> first | rfl | omega)
 refine wR <| LM.val (ov_eql rfl rfl) <| LM.as rfl <| nA [(2, _), (3, _), (4, _), (27, _)] ?_
 refine wpM.condD rfl (fun h9 => ?_) (fun h9 => ?_)
 ·
  refine wpM.seq ?_
  refine wpM.toAltO (b2) [.cells #[.int .i64 0, .int .i64 0] 134 (0, 0), .cells #[.int .i64 (1), .int .i64 (16)] 134 (0, 0)] (by first | exact .head _ | (simp; done)) (fun hMc => ?_)
  refine wpM.draw [(0, 0), (1, 1), (2, 2), (3, 3)] kr kr ?_
  refine LD.val rfl rfl (ov_build (cs := #[_, _]) rfl (by first | rfl | kernel_rfl)) ?_
  refine LD.rd rfl rfl (om_ldW Try.isAgg134 Try.sizeOf134 rfl rfl) ?_
  refine LD.stAltO [.cells #[.int .i64 (1), .int .i64 (16)] 134 (0, 0)] rfl rfl Try.sizeOf134 rfl rfl rfl (by decide) (by simp) (by simp only [List.forall_mem_cons, List.not_mem_nil, false_implies, implies_true, and_true]; exact ⟨⟨_, _, rfl, by decide, .head _⟩, ⟨_, _, rfl, by decide, .head _⟩⟩) au8 hMc ?_
  refine LD.tail rfl rfl ?_
  refine LM.ofAltO ?_
  refine LM.stW Try.sizeOf134 rfl rfl rfl rfl au7 au8 ?_
  refine LM.nil ?_
  refine QM.qn ?_
  refine QM.sub (e' := [(2, _), (3, _)]) au9 (QM.then ?_)
  refine wpM.ret <| QM.block_ret <| QM.then_ret ?_
  refine QM.leaveCs (ds := ([])) (.inl rfl) [.cell 2 134, .cell 3 134] Try.results87 hd_nil (rc_w rfl Try.isAgg134 Try.sizeOf134 rfl (rc_w rfl Try.isAgg134 Try.sizeOf134 rfl rc_nil)) ?_
  intro w' hm' hc'
  refine ⟨?_, hc'⟩; simp only [resV, loA, hiA, loB, hiB]; try ((repeat' split) <;> first | rfl | omega)
 refine wpM.skip <| QM.block_normal <| QM.then <| wpM.seq ?_
 refine wpM.toAltO (b2) [.cells #[.int .i64 0, .int .i64 0] 134 (0, 0), .cells #[.int .i64 (-1), .int .i64 (-1)] 134 (0, 0)] (by first | exact .head _ | (simp; done)) (fun hMc => ?_)
 refine wpM.draw [(0, 1), (1, 1), (2, 2), (3, 3)] kr kr ?_
 refine LD.rd rfl rfl (om_ldW Try.isAgg134 Try.sizeOf134 rfl rfl) ?_
 refine LD.rd rfl rfl (om_ldW Try.isAgg134 Try.sizeOf134 rfl rfl) ?_
 refine LD.stAltO [.cells #[.int .i64 (-1), .int .i64 (-1)] 134 (0, 0)] rfl rfl Try.sizeOf134 rfl rfl rfl (by decide) (by simp) (by simp only [List.forall_mem_cons, List.not_mem_nil, false_implies, implies_true, and_true]; exact ⟨⟨_, _, rfl, by decide, .head _⟩, ⟨_, _, rfl, by decide, .head _⟩⟩) au8 hMc ?_
 refine LD.tail rfl rfl ?_
 refine LM.ofAltO ?_
 refine LM.stW Try.sizeOf134 rfl rfl rfl rfl au7 au8 ?_
 refine LM.nil ?_
 refine QM.qn ?_
 refine QM.sub (e' := [(2, _), (3, _)]) au9 (QM.then ?_)
 refine wpM.ret ?_
 refine QM.leaveCs (ds := ([])) (.inl rfl) [.cell 2 134, .cell 3 134] Try.results87 hd_nil (rc_w rfl Try.isAgg134 Try.sizeOf134 rfl (rc_w rfl Try.isAgg134 Try.sizeOf134 rfl rc_nil)) ?_
 intro w' hm' hc'
 refine ⟨?_, hc'⟩; simp only [resV, loA, hiA, loB, hiB]; try ((repeat' split) <;> first | rfl | omega)
theorem has_spec (lo hi n : Int) (w : World) : Ret Try.prog 89 #[.agg #[.int .i64 lo, .int .i64 hi], .int .i64 n] w (fun v w' => v = .bool (hasB lo hi n) ∧ Ext w w') := by
 refine Ret.enterM Try.func89 rfl Try.ntmps89 rfl ([]) (no) (Mem.nil w) ?_
 refine wR ?_
 refine LM.box rfl rfl (fun b2 hb2 => ?_)
 refine LM.as rfl <| nA [(1, _), (2, _)] <| wpM.seq <| wR <| LM.val (ovf 3 rfl rfl rfl rfl) ?_
 refine LM.rd (oml rfl rfl rfl) ?_
 refine LM.val (ov_eql rfl rfl) <| nA [(1, _), (2, _), (7, _)] ?_
 refine wpM.condD rfl (fun h1 => ?_) (fun h1 => ?_)
 ·
  refine wR <| LM.mv rfl <| LM.val (ov_eql rfl rfl) <| LM.as rfl <| nA [(4, _)] <| wpM.ret <| QM.then_ret ?_
  refine qL Try.results89 rfl fun w' hm' hc' hg' => ?_
  refine ⟨?_, hc'⟩; simp only [resV, hasB]; simp only [h1, decide_true, decide_false, Bool.true_and, Bool.false_and, Bool.and_true, Bool.and_false, Bool.not_true, Bool.not_false, Bool.true_or, Bool.false_or, Bool.or_true, Bool.or_false, ne_eq, not_true_eq_false, not_false_eq_true, Bool.and_self, if_true, if_false, reduceIte]
 refine wpM.skip <| tR <| LM.mv rfl <| LM.val (ovf 3 rfl rfl rfl rfl) ?_
 refine LM.rd (oml rfl rfl rfl) ?_
 refine LM.val (ov_geq rfl rfl) <| LM.mv rfl ?_
 refine LM.splitD (t := 14) rfl (fun h2 => ?_) (fun h2 => ?_)
 ·
  refine LM.sp 14 rfl rfl rfl <| LM.mv rfl <| LM.sp 14 rfl rfl rfl <| LM.val (ovf 3 rfl rfl rfl rfl) <| LM.sp 14 rfl rfl rfl ?_
  refine LM.rd (oml rfl rfl rfl) ?_
  refine LM.sp 14 rfl rfl rfl <| LM.val (ov_leq rfl rfl) <| LM.val (ov_pickT rfl rfl) <| LM.as rfl <| nA [(4, _)] <| wpM.ret ?_
  refine qL Try.results89 rfl fun w' hm' hc' hg' => ?_
  refine ⟨?_, hc'⟩; simp only [resV, hasB]; simp only [h1, h2, decide_true, decide_false, Bool.true_and, Bool.false_and, Bool.and_true, Bool.and_false, Bool.not_true, Bool.not_false, Bool.true_or, Bool.false_or, Bool.or_true, Bool.or_false, ne_eq, not_true_eq_false, not_false_eq_true, Bool.and_self, if_true, if_false, reduceIte]
 refine LM.dr 14 rfl rfl rfl <| LM.dr 14 rfl rfl rfl <| LM.dr 14 rfl rfl rfl <| LM.dr 14 rfl rfl rfl <| LM.val (ov_pickF rfl rfl) <| LM.as rfl <| nA [(4, _)] <| wpM.ret ?_
 refine qL Try.results89 rfl fun w' hm' hc' hg' => ?_
 refine ⟨?_, hc'⟩; simp only [resV, hasB]; simp only [h1, h2, decide_true, decide_false, Bool.true_and, Bool.false_and, Bool.and_true, Bool.and_false, Bool.not_true, Bool.not_false, Bool.true_or, Bool.false_or, Bool.or_true, Bool.or_false, ne_eq, not_true_eq_false, not_false_eq_true, Bool.and_self, if_true, if_false, reduceIte]
theorem right_spec (o : COp) (w : World) : Ret Try.prog 78 #[.agg (fO o).toArray] w (fun v w' => v = .bool (rightB o) ∧ Ext w w') := by
 refine Ret.enterM Try.func78 rfl Try.ntmps78 rfl ([]) (no) (Mem.nil w) ?_
 refine wR ?_
 refine LM.box rfl rfl (fun b1 hb1 => ?_)
 refine LM.as rfl <| nB [(1, _)] <| LM.val (ovf 3 rfl rfl rfl rfl) ?_
 refine LM.rd (oml rfl rfl rfl) ?_
 refine cE Try.func87 rfl (fun w hm hc hg => spans_spec o.k w) ?_
 refine LM.mv rfl <| LM.val (ov_extract rfl rfl) <| LM.val (ov_extract rfl rfl) ?_
 refine LM.alloc Try.zeroValue134 rfl (fun b3 hb3 => ?_)
 refine LM.alloc Try.zeroValue134 rfl (fun b4 hb4 => ?_)
 refine LM.stW Try.sizeOf134 rfl rfl rfl rfl au7 au8 ?_
 refine LM.stW Try.sizeOf134 rfl rfl rfl rfl au7 au8 ?_
 refine nB [(1, _), (3, _), (4, _)] <| LM.val (ovf 3 rfl rfl rfl rfl) ?_
 refine LM.rd (oml rfl rfl rfl) ?_
 refine cE Try.func88 rfl (fun w hm hc hg => name_spec o.k w) ?_
 refine LM.val (ov_sneqL rfl rfl) ?_
 refine LM.mv rfl ?_
 refine LM.splitD (t := 15) rfl (fun h1 => ?_) (fun h1 => ?_)
 ·
  refine LM.sp 15 rfl rfl rfl ?_
  refine LM.rd (om_ldW Try.isAgg134 Try.sizeOf134 rfl rfl) ?_
  refine LM.sp 15 rfl rfl rfl <| LM.val (ovf 3 rfl rfl rfl rfl) <| LM.sp 15 rfl rfl rfl ?_
  refine LM.rd (oml rfl rfl rfl) ?_
  refine LM.sp 15 rfl rfl rfl ?_
  refine cE Try.func89 rfl (fun w hm hc hg => has_spec _ _ _ w) ?_
  refine LM.val (ov_pickT rfl rfl) <| LM.mv rfl ?_
  refine LM.splitB (t := 21) rfl (fun h2 => ?_) (fun h2 => ?_)
  ·
   refine LM.sp 21 rfl rfl rfl ?_
   refine LM.rd (om_ldW Try.isAgg134 Try.sizeOf134 rfl rfl) ?_
   refine LM.sp 21 rfl rfl rfl <| LM.val (ovf 3 rfl rfl rfl rfl) <| LM.sp 21 rfl rfl rfl ?_
   refine LM.rd (oml rfl rfl rfl) ?_
   refine LM.sp 21 rfl rfl rfl ?_
   refine cE Try.func89 rfl (fun w hm hc hg => has_spec _ _ _ w) ?_
   refine LM.val (ov_pickT rfl rfl) <| LM.as rfl <| nA [(2, _)] <| wpM.ret ?_
   refine qL Try.results78 rfl fun w' hm' hc' hg' => ?_
   refine ⟨?_, hc'⟩; have hk := nmT_empty o.k; simp only [resV, rightB, ← hk]; simp only [h1, h2, decide_true, decide_false, Bool.true_and, Bool.false_and, Bool.and_true, Bool.and_false, Bool.not_true, Bool.not_false, Bool.true_or, Bool.false_or, Bool.or_true, Bool.or_false, ne_eq, not_true_eq_false, not_false_eq_true, Bool.and_self]
  refine LM.dr 21 rfl rfl rfl <| LM.dr 21 rfl rfl rfl <| LM.dr 21 rfl rfl rfl <| LM.dr 21 rfl rfl rfl <| LM.val (ov_pickF rfl rfl) <| LM.as rfl <| nA [(2, _)] <| wpM.ret ?_
  refine qL Try.results78 rfl fun w' hm' hc' hg' => ?_
  refine ⟨?_, hc'⟩; have hk := nmT_empty o.k; simp only [resV, rightB, ← hk]; simp only [h1, h2, decide_true, decide_false, Bool.true_and, Bool.false_and, Bool.and_true, Bool.and_false, Bool.not_true, Bool.not_false, Bool.true_or, Bool.false_or, Bool.or_true, Bool.or_false, ne_eq, not_true_eq_false, not_false_eq_true, Bool.and_self]
 refine LM.dr 15 rfl rfl rfl <| LM.dr 15 rfl rfl rfl <| LM.dr 15 rfl rfl rfl <| LM.dr 15 rfl rfl rfl <| LM.val (ov_pickF rfl rfl) <| LM.mv rfl <| LM.dr 21 rfl rfl rfl <| LM.dr 21 rfl rfl rfl <| LM.dr 21 rfl rfl rfl <| LM.dr 21 rfl rfl rfl <| LM.val (ov_pickF rfl rfl) <| LM.as rfl <| nA [(2, _)] <| wpM.ret ?_
 refine qL Try.results78 rfl fun w' hm' hc' hg' => ?_
 refine ⟨?_, hc'⟩; have hk := nmT_empty o.k; simp only [resV, rightB, ← hk]; simp only [h1, decide_true, decide_false, Bool.true_and, Bool.false_and, Bool.and_true, Bool.and_false, Bool.not_true, Bool.not_false, Bool.true_or, Bool.false_or, Bool.or_true, Bool.or_false, ne_eq, not_true_eq_false, not_false_eq_true, Bool.and_self]
theorem may1_spec (o : COp) (w : World) : Ret Try.prog 77 #[.agg (fO o).toArray] w (fun v w' => v = .bool (!rightB o) ∧ Ext w w') := by
 refine Ret.enterM Try.func77 rfl Try.ntmps77 rfl ([]) (no) (Mem.nil w) ?_
 refine wR ?_
 refine LM.box rfl rfl (fun b1 hb1 => ?_)
 refine LM.as rfl <| nB [(1, _)] ?_
 refine LM.rd (om_ldW Try.isAgg102 Try.sizeOf102 rfl rfl) ?_
 refine cE Try.func78 rfl (fun w hm hc hg => right_spec o w) ?_
 refine LM.val (ov_not rfl) ?_
 refine LM.as rfl <| nA [(2, _)] <| wpM.ret ?_
 refine qL Try.results77 rfl fun w' hm' hc' hg' => ?_
 exact ⟨rfl, hc'⟩
theorem ixf_may {xs : List COp} {ad : Option Addr} {n cap : Nat} (w : World) (hn : n = xs.length) (hl : Sr fO 3 xs (.slice ad n cap) w) (hx : xs.length ≤ 1000000) : Ret Try.prog 82 #[.slice ad n cap, .func (.func 77) #[] #[]] w (fun v w' => v = .int .i64 (fixI (fun o => !rightB o) xs) ∧ Ext w w') := by
 refine Ret.enterM Try.func82 rfl Try.ntmps82 rfl ([]) (no) (Mem.nil w) ?_
 refine wR <| LM.as rfl <| nA [(0, _), (1, _)] <| wpM.seq <| wR <| LM.mv rfl <| LM.val (ov_len Try.underlying43 rfl) <| LM.mv rfl <| nA [(0, _), (1, _), (7, _), (8, _)] <| wpM.block ?_
 refine wpM.loopK0 (α := Nat) (fun i => [(8, .int .i64 (i : Nat))]) [(0, _), (1, _), (7, _)] (fun i => []) (fun i => i ≤ xs.length ∧ (xs.take i).any (fun o => !rightB o) = false) (fun i => xs.length - i) (0) ⟨au2, rfl, rfl, rfl, trivial⟩ au1 ⟨Nat.zero_le _, rfl⟩ ?_
 rintro i ⟨hi, ha⟩
 change wpM _ _ _ _ _ _ _ ([]) _ _ _
 refine wR <| LM.val (ov_lss rfl rfl) <| nA [(0, _), (1, _), (7, _), (8, _), (9, _)] <| wpM.seq ?_
 refine wpM.condD rfl (fun h1 => ?_) (fun h1 => ?_)
 ·
  refine wpM.skip <| QM.then <| wpM.seq <| wpM.block <| wR <| LM.mv rfl <| LM.as rfl <| nB [(0, _), (1, _), (5, _), (7, _), (8, _)] <| LM.mv rfl <| LM.mv rfl <| LM.mv rfl ?_
  refine LM.val (ov_idxSN au6 Try.underlying43 Try.sizeOf102 rfl rfl om) ?_
  refine LM.rdC (om_srEA asm ir Try.isAgg102 Try.sizeOf102 rfl au3 id) ?_
  refine LM.callE (oc_callV rfl (enters_fn Try.func77 kr rfl) rfl) (fun w hm hc hg => may1_spec _ w) ?_
  refine nA [(0, _), (1, _), (5, _), (7, _), (8, _), (16, _)] ?_
  refine wpM.condB rfl (fun h2 => ?_) (fun h2 => ?_)
  ·
   refine wR <| LM.mv rfl <| LM.as rfl <| nA [(4, _)] <| wpM.ret <| QM.block_ret <| QM.then_ret <| QM.then_ret <| QM.block_ret <| QM.then_ret ?_
   refine qL Try.results82 rfl fun w' hm' hc' hg' => ?_
   exact ⟨by show Value.int .i64 _ = _; rw [fix_hit default ha om (by simpa using h2)], hc'⟩
  refine wpM.skip <| QM.block_normal ?_
  refine QM.then (wpM.region ?_)
  refine LM.val (ov_add64 rfl rfl om) ?_
  refine LM.mv rfl <| nC [(0, _), (1, _), (7, _), (8, _)] ?_
  refine QM.againK (i + 1) ⟨au2, rfl, rfl, rfl, trivial⟩ au1 (fun _ h => h) ?_ ?_
  · exact ⟨by omega, by rw [any_snoc default om, ha, Bool.false_or]; simpa using h2⟩
  · omega
 refine wpM.exit <| QM.then_exit <| QM.then_exit <| QM.block_hit <| tR <| LM.as rfl <| nA [(4, _)] <| wpM.ret ?_
 refine qL Try.results82 rfl fun w' hm' hc' hg' => ?_
 have hil : i = xs.length := om; subst hil; rw [List.take_length] at ha; exact ⟨by show Value.int .i64 _ = _; rw [fix_miss ha], hc'⟩
theorem cof_may {xs : List COp} {ad : Option Addr} {n cap : Nat} (w : World) (hn : n = xs.length) (hl : Sr fO 3 xs (.slice ad n cap) w) (hx : xs.length ≤ 1000000) : Ret Try.prog 68 #[.slice ad n cap, .func (.func 77) #[] #[]] w (fun v w' => v = .bool (xs.any (fun o => !rightB o)) ∧ Ext w w') := by
 refine Ret.enterM Try.func68 rfl Try.ntmps68 rfl ([]) (no) (Mem.nil w) ?_
 refine wR <| LM.as rfl <| nB [(0, _), (1, _)] <| LM.mv rfl <| LM.mv rfl ?_
 refine cE Try.func82 rfl (fun w hm hc hg => ixf_may w hn (hl.ext hc) hx) ?_
 refine LM.val (ov_geq rfl rfl) <| LM.as rfl <| nA [(4, _)] <| wpM.ret ?_
 refine qL Try.results68 rfl fun w' hm' hc' hg' => ?_
 exact ⟨by show Value.bool _ = _; rw [← fix_pos], hc'⟩
theorem pmay_spec {xs : List COp} {fv : Bool} {ad : Option Addr} {n cap : Nat} (w : World) (hn : n = xs.length) (hl : Sr fO 3 xs (.slice ad n cap) w) : Ret Try.prog 65 #[pV fv ad n cap] w (fun v w' => v = .bool (mayB xs) ∧ Ext w w') := by
 refine Ret.enterM Try.func65 rfl Try.ntmps65 rfl ([]) (no) (Mem.nil w) ?_
 refine wR ?_
 refine LM.box rfl rfl (fun b1 hb1 => ?_)
 refine LM.as rfl <| nB [(1, _)] <| LM.val (ovf 43 rfl rfl rfl rfl) ?_
 refine LM.rd (oml rfl rfl rfl) ?_
 refine LM.val (ov_len Try.underlying43 rfl) <| LM.val (ov_gtr rfl rfl) <| LM.mv rfl ?_
 refine LM.splitD (t := 7) rfl (fun h1 => ?_) (fun h1 => ?_)
 ·
  refine LM.sp 7 rfl rfl rfl <| LM.val (ovf 43 rfl rfl rfl rfl) <| LM.sp 7 rfl rfl rfl ?_
  refine LM.rd (oml rfl rfl rfl) ?_
  refine LM.sp 7 rfl rfl rfl <| LM.val (ov_len Try.underlying43 rfl) <| LM.sp 7 rfl rfl rfl <| LM.val (ov_leq rfl rfl) <| LM.val (ov_pickT rfl rfl) <| LM.mv rfl ?_
  refine LM.splitD (t := 13) rfl (fun h2 => ?_) (fun h2 => ?_)
  ·
   refine LM.sp 13 rfl rfl rfl <| LM.val (ovf 43 rfl rfl rfl rfl) <| LM.sp 13 rfl rfl rfl ?_
   refine LM.rd (oml rfl rfl rfl) ?_
   refine LM.sp 13 rfl rfl rfl ?_
   refine cE Try.func68 rfl (fun w hm hc hg => cof_may w hn (hl.ext hc) om) ?_
   refine LM.sp 13 rfl rfl rfl ?_
   refine LM.val (ov_not rfl) ?_
   refine LM.val (ov_pickT rfl rfl) <| LM.as rfl <| nA [(2, _)] <| wpM.ret ?_
   refine qL Try.results65 rfl fun w' hm' hc' hg' => ?_
   refine ⟨?_, hc'⟩; simp only [resV, mayB]; congr 1; first | (rw [decide_eq_false (show ¬ 0 < xs.length by omega)]; rfl) | (rw [decide_eq_false (show ¬ xs.length ≤ 12 by omega)]; simp; done) | (rw [decide_eq_true (show 0 < xs.length by omega), decide_eq_true (show xs.length ≤ 12 by omega), all_any]; rfl)
  refine LM.dr 13 rfl rfl rfl <| LM.dr 13 rfl rfl rfl <| LM.dr 13 rfl rfl rfl <| LM.dr 13 rfl rfl rfl <| LM.val (ov_pickF rfl rfl) <| LM.as rfl <| nA [(2, _)] <| wpM.ret ?_
  refine qL Try.results65 rfl fun w' hm' hc' hg' => ?_
  refine ⟨?_, hc'⟩; simp only [resV, mayB]; congr 1; first | (rw [decide_eq_false (show ¬ 0 < xs.length by omega)]; rfl) | (rw [decide_eq_false (show ¬ xs.length ≤ 12 by omega)]; simp; done) | (rw [decide_eq_true (show 0 < xs.length by omega), decide_eq_true (show xs.length ≤ 12 by omega), all_any]; rfl)
 refine LM.dr 7 rfl rfl rfl <| LM.dr 7 rfl rfl rfl <| LM.dr 7 rfl rfl rfl <| LM.dr 7 rfl rfl rfl <| LM.val (ov_pickF rfl rfl) <| LM.mv rfl <| LM.dr 13 rfl rfl rfl <| LM.dr 13 rfl rfl rfl <| LM.dr 13 rfl rfl rfl <| LM.dr 13 rfl rfl rfl <| LM.val (ov_pickF rfl rfl) <| LM.as rfl <| nA [(2, _)] <| wpM.ret ?_
 refine qL Try.results65 rfl fun w' hm' hc' hg' => ?_
 refine ⟨?_, hc'⟩; simp only [resV, mayB]; congr 1; first | (rw [decide_eq_false (show ¬ 0 < xs.length by omega)]; rfl) | (rw [decide_eq_false (show ¬ xs.length ≤ 12 by omega)]; simp; done) | (rw [decide_eq_true (show 0 < xs.length by omega), decide_eq_true (show xs.length ≤ 12 by omega), all_any]; rfl)
theorem limits_spec (k : Int) (w : World) : Ret Try.prog 46 #[.int .i64 k] w (fun v w' => v = .tuple #[.int .i64 (loA k), .int .i64 (hiA k)] ∧ Ext w w') := by
 refine Ret.enterM Try.func46 rfl Try.ntmps46 rfl ([]) (no) (Mem.nil w) ?_
 refine wR <| LM.as rfl <| LM.as rfl <| nA [(0, _)] <| wpM.seq <| wR <| LM.mv rfl <| LM.val (ov_eql rfl rfl) <| nA [(0, _), (5, _)] ?_
 refine wpM.condD rfl (fun h1 => ?_) (fun h1 => ?_)
 ·
  refine wR <| LM.as rfl <| LM.as rfl <| nA [(2, _), (3, _)] <| wpM.ret <| QM.then_ret ?_
  refine QM.leave (.inl rfl) [.tmp 2, .tmp 3] Try.results46 rfl ?_
  intro w' hm' hc' hg'
  refine ⟨?_, hc'⟩; simp only [resV, loA, hiA]; try ((repeat' split) <;> first | rfl | omega)
 refine wpM.skip <| QM.then <| wpM.seq <| wR <| LM.mv rfl <| LM.val (ov_geq rfl rfl) <| LM.mv rfl ?_
 refine LM.splitD (t := 8) rfl (fun h2 => ?_) (fun h2 => ?_)
 ·
  refine LM.sp 8 rfl rfl rfl <| LM.mv rfl <| LM.sp 8 rfl rfl rfl <| LM.val (ov_leq rfl rfl) <| LM.val (ov_pickT rfl rfl) <| LM.mv rfl ?_
  refine LM.splitD (t := 12) rfl (fun h3 => ?_) (fun h3 => ?_)
  ·
   refine LM.dr 12 rfl rfl rfl <| LM.dr 12 rfl rfl rfl <| LM.val (ov_pickT rfl rfl) <| nA [(0, _), (15, _)] ?_
   refine wpM.condT rfl ?_
   refine wR <| LM.as rfl <| LM.as rfl <| nA [(2, _), (3, _)] <| wpM.ret <| QM.then_ret ?_
   refine QM.leave (.inl rfl) [.tmp 2, .tmp 3] Try.results46 rfl ?_
   intro w' hm' hc' hg'
   refine ⟨?_, hc'⟩; simp only [resV, loA, hiA]; try ((repeat' split) <;> first | rfl | omega)
  refine LM.sp 12 rfl rfl rfl <| LM.mv rfl <| LM.sp 12 rfl rfl rfl <| LM.val (ov_eql rfl rfl) <| LM.val (ov_pickF rfl rfl) <| nA [(0, _), (15, _)] ?_
  refine wpM.condD rfl (fun h4 => ?_) (fun h4 => ?_)
  ·
   refine wR <| LM.as rfl <| LM.as rfl <| nA [(2, _), (3, _)] <| wpM.ret <| QM.then_ret ?_
   refine QM.leave (.inl rfl) [.tmp 2, .tmp 3] Try.results46 rfl ?_
   intro w' hm' hc' hg'
   refine ⟨?_, hc'⟩; simp only [resV, loA, hiA]; try ((repeat' split) <;> first | rfl | omega)
  refine wpM.skip <| QM.then <| wpM.seq <| wR <| LM.mv rfl <| LM.val (ov_eql rfl rfl) <| nA [(0, _), (17, _)] ?_
  refine wpM.condD rfl (fun h5 => ?_) (fun h5 => ?_)
  ·
   refine wR <| LM.as rfl <| LM.as rfl <| nA [(2, _), (3, _)] <| wpM.ret <| QM.then_ret ?_
   refine QM.leave (.inl rfl) [.tmp 2, .tmp 3] Try.results46 rfl ?_
   intro w' hm' hc' hg'
   refine ⟨?_, hc'⟩; simp only [resV, loA, hiA]; try ((repeat' split) <;> first | rfl | omega)
  refine wpM.skip <| QM.then <| wpM.seq <| wR <| LM.mv rfl <| LM.val (ov_eql rfl rfl) <| nA [(19, _)] ?_
  refine wpM.condD rfl (fun h6 => ?_) (fun h6 => ?_)
  ·
   refine wR <| LM.as rfl <| LM.as rfl <| nA [(2, _), (3, _)] <| wpM.ret <| QM.then_ret ?_
   refine QM.leave (.inl rfl) [.tmp 2, .tmp 3] Try.results46 rfl ?_
   intro w' hm' hc' hg'
   refine ⟨?_, hc'⟩; simp only [resV, loA, hiA]; try ((repeat' split) <;> first | rfl | omega)
  refine wpM.skip <| tR <| LM.as rfl <| LM.as rfl <| nA [(2, _), (3, _)] <| wpM.ret ?_
  refine QM.leave (.inl rfl) [.tmp 2, .tmp 3] Try.results46 rfl ?_
  intro w' hm' hc' hg'
  refine ⟨?_, hc'⟩; simp only [resV, loA, hiA]; try ((repeat' split) <;> first | rfl | omega)
 refine LM.dr 8 rfl rfl rfl <| LM.dr 8 rfl rfl rfl <| LM.val (ov_pickF rfl rfl) <| LM.mv rfl <| LM.sp 12 rfl rfl rfl <| LM.mv rfl <| LM.sp 12 rfl rfl rfl <| LM.val (ov_eql rfl rfl) <| LM.val (ov_pickF rfl rfl) <| nA [(0, _), (15, _)] ?_
 refine wpM.condD rfl (fun h7 => ?_) (fun h7 => ?_)
 ·
  refine wR <| LM.as rfl <| LM.as rfl <| nA [(2, _), (3, _)] <| wpM.ret <| QM.then_ret ?_
  refine QM.leave (.inl rfl) [.tmp 2, .tmp 3] Try.results46 rfl ?_
  intro w' hm' hc' hg'
  refine ⟨?_, hc'⟩; simp only [resV, loA, hiA]; try ((repeat' split) <;> first | rfl | omega)
 refine wpM.skip <| QM.then <| wpM.seq <| wR <| LM.mv rfl <| LM.val (ov_eql rfl rfl) <| nA [(0, _), (17, _)] ?_
 refine wpM.condD rfl (fun h8 => ?_) (fun h8 => ?_)
 ·
  refine wR <| LM.as rfl <| LM.as rfl <| nA [(2, _), (3, _)] <| wpM.ret <| QM.then_ret ?_
  refine QM.leave (.inl rfl) [.tmp 2, .tmp 3] Try.results46 rfl ?_
  intro w' hm' hc' hg'
  refine ⟨?_, hc'⟩; simp only [resV, loA, hiA]; try ((repeat' split) <;> first | rfl | omega)
 refine wpM.skip <| QM.then <| wpM.seq <| wR <| LM.mv rfl <| LM.val (ov_eql rfl rfl) <| nA [(19, _)] ?_
 refine wpM.condD rfl (fun h9 => ?_) (fun h9 => ?_)
 ·
  refine wR <| LM.as rfl <| LM.as rfl <| nA [(2, _), (3, _)] <| wpM.ret <| QM.then_ret ?_
  refine QM.leave (.inl rfl) [.tmp 2, .tmp 3] Try.results46 rfl ?_
  intro w' hm' hc' hg'
  refine ⟨?_, hc'⟩; simp only [resV, loA, hiA]; try ((repeat' split) <;> first | rfl | omega)
 refine wpM.skip <| tR <| LM.as rfl <| LM.as rfl <| nA [(2, _), (3, _)] <| wpM.ret ?_
 refine QM.leave (.inl rfl) [.tmp 2, .tmp 3] Try.results46 rfl ?_
 intro w' hm' hc' hg'
 refine ⟨?_, hc'⟩; simp only [resV, loA, hiA]; try ((repeat' split) <;> first | rfl | omega)
theorem one_spec (o : COp) (w : World) : Ret Try.prog 64 #[.agg (fO o).toArray] w (fun v w' => v = .bool (rightB o) ∧ Ext w w') := by
 refine Ret.enterM Try.func64 rfl Try.ntmps64 rfl ([]) (no) (Mem.nil w) ?_
 refine wR ?_
 refine LM.box rfl rfl (fun b1 hb1 => ?_)
 refine LM.as rfl <| nA [(1, _)] <| wpM.seq <| wR <| LM.val (ovf 3 rfl rfl rfl rfl) ?_
 refine LM.rd (oml rfl rfl rfl) ?_
 refine cE Try.func45 rfl (fun w hm hc hg => rname_spec o.k w) ?_
 refine LM.val (ov_seqlL rfl rfl) ?_
 refine nA [(1, _), (10, _)] ?_
 refine wpM.condD rfl (fun h1 => ?_) (fun h1 => ?_)
 ·
  refine wR <| LM.as rfl <| nA [(2, _)] <| wpM.ret <| QM.then_ret ?_
  refine qL Try.results64 rfl fun w' hm' hc' hg' => ?_
  refine ⟨?_, hc'⟩; have hk : kindB o.k = false := (by rw [← nmT_empty, h1]; rfl); simp only [resV, rightB, hk, Bool.false_and]
 refine wpM.skip <| tR <| LM.val (ovf 3 rfl rfl rfl rfl) ?_
 refine LM.rd (oml rfl rfl rfl) ?_
 refine cE Try.func46 rfl (fun w hm hc hg => limits_spec o.k w) ?_
 refine LM.mv rfl <| LM.val (ov_extract rfl rfl) <| LM.val (ov_extract rfl rfl) <| LM.as rfl <| LM.as rfl <| nB [(1, _), (3, _), (4, _)] <| LM.val (ovf 3 rfl rfl rfl rfl) ?_
 refine LM.rd (oml rfl rfl rfl) ?_
 refine LM.val (ov_eql rfl rfl) <| LM.as rfl <| nA [(1, _), (3, _), (4, _), (5, _)] <| wpM.seq <| wR <| LM.mv rfl <| LM.val (ov_geq rfl rfl) <| nA [(1, _), (3, _), (4, _), (5, _), (21, _)] ?_
 refine wpM.joinK (α := Bool) (fun b => [(5, .bool b)]) [(1, _)] (fun b => (b1, .cells (fO o).toArray 102 (0, 0)) :: []) (fun b => b = hasB (loA o.k) (hiA o.k) o.a) ⟨rfl, trivial⟩ ?_ ?_
 ·
  refine wpM.condD rfl (fun h2 => ?_) (fun h2 => ?_)
  ·
   refine wpM.region ?_
   refine LM.val (ovf 3 rfl rfl rfl rfl) ?_
   refine LM.rd (oml rfl rfl rfl) ?_
   refine LM.mv rfl <| LM.val (ov_geq rfl rfl) <| LM.mv rfl ?_
   refine LM.splitD (t := 26) rfl (fun h3 => ?_) (fun h3 => ?_)
   ·
    refine LM.sp 26 rfl rfl rfl <| LM.val (ovf 3 rfl rfl rfl rfl) <| LM.sp 26 rfl rfl rfl ?_
    refine LM.rd (oml rfl rfl rfl) ?_
    refine LM.sp 26 rfl rfl rfl <| LM.mv rfl <| LM.sp 26 rfl rfl rfl <| LM.val (ov_leq rfl rfl) <| LM.val (ov_pickT rfl rfl) <| LM.as rfl <| nC [(1, _), (5, _)] ?_
    have hlc := loA_cases o.k
    refine QM.meetK (_) ⟨au2, rfl, trivial⟩ au1 ?_
    · (rw [hasB, if_neg om, decide_eq_true (show loA o.k ≤ o.a by omega)]; rfl)
   refine LM.dr 26 rfl rfl rfl <| LM.dr 26 rfl rfl rfl <| LM.dr 26 rfl rfl rfl <| LM.dr 26 rfl rfl rfl <| LM.val (ov_pickF rfl rfl) <| LM.as rfl <| nC [(1, _), (5, _)] ?_
   have hlc := loA_cases o.k
   refine QM.meetK (_) ⟨au2, rfl, trivial⟩ au1 ?_
   · (rw [hasB, if_neg om, decide_eq_false (show ¬ loA o.k ≤ o.a by omega)]; rfl)
  refine wpM.skip ?_
  have hlc := loA_cases o.k
  refine QM.meetK (_) ⟨au2, rfl, trivial⟩ au1 ?_
  · (rw [hasB, if_pos om]; done)
 rintro b hb1
 change QM _ _ _ _ _ ((b1, .cells (fO o).toArray 102 (0, 0)) :: []) _ _ _
 refine tR <| LM.val (ovf 3 rfl rfl rfl rfl) ?_
 refine LM.rd (oml rfl rfl rfl) ?_
 refine LM.val (ov_eql rfl rfl) <| LM.as rfl <| nA [(1, _), (5, _), (6, _)] <| wpM.seq <| wR <| LM.val (ovf 3 rfl rfl rfl rfl) ?_
 refine LM.rd (oml rfl rfl rfl) ?_
 refine LM.val (ov_eql rfl rfl) <| nA [(1, _), (5, _), (6, _), (37, _)] ?_
 refine wpM.joinK (α := Bool) (fun b' => [(6, .bool b')]) [(5, _)] (fun b' => (b1, .cells (fO o).toArray 102 (0, 0)) :: []) (fun b' => b' = hasB (loB o.k) (hiB o.k) o.b) ⟨rfl, trivial⟩ ?_ ?_
 ·
  refine wpM.condD rfl (fun h4 => ?_) (fun h4 => ?_)
  ·
   refine wpM.region ?_
   refine LM.val (ovf 3 rfl rfl rfl rfl) ?_
   refine LM.rd (oml rfl rfl rfl) ?_
   refine LM.val (ov_geq rfl rfl) <| LM.mv rfl ?_
   refine LM.splitD (t := 41) rfl (fun h5 => ?_) (fun h5 => ?_)
   ·
    refine LM.sp 41 rfl rfl rfl <| LM.val (ovf 3 rfl rfl rfl rfl) <| LM.sp 41 rfl rfl rfl ?_
    refine LM.rd (oml rfl rfl rfl) ?_
    refine LM.sp 41 rfl rfl rfl <| LM.val (ov_leq rfl rfl) <| LM.val (ov_pickT rfl rfl) <| LM.as rfl <| nC [(5, _), (6, _)] ?_
    refine QM.meetK (_) ⟨au2, rfl, trivial⟩ au1 ?_
    · (rw [hasB5 asm, decide_eq_true (show 1 ≤ o.b by omega)]; rfl)
   refine LM.dr 41 rfl rfl rfl <| LM.dr 41 rfl rfl rfl <| LM.dr 41 rfl rfl rfl <| LM.val (ov_pickF rfl rfl) <| LM.as rfl <| nC [(5, _), (6, _)] ?_
   refine QM.meetK (_) ⟨au2, rfl, trivial⟩ au1 ?_
   · (rw [hasB5 asm, decide_eq_false (show ¬ 1 ≤ o.b by omega)]; rfl)
  refine wpM.skip ?_
  refine QM.meetK (_) ⟨au2, rfl, trivial⟩ au1 ?_
  · (rw [hasBn asm]; done)
 rintro b' hb2
 change QM _ _ _ _ _ ((b1, .cells (fO o).toArray 102 (0, 0)) :: []) _ _ _
 refine tR <| LM.mv rfl <| LM.mv rfl ?_
 refine LM.splitB (t := 47) rfl (fun h6 => ?_) (fun h6 => ?_)
 ·
  refine LM.sp 47 rfl rfl rfl <| LM.mv rfl <| LM.val (ov_pickT rfl rfl) <| LM.as rfl <| nA [(2, _)] <| wpM.ret ?_
  refine qL Try.results64 rfl fun w' hm' hc' hg' => ?_
  refine ⟨?_, hc'⟩; have hk : kindB o.k = true := (by rw [← nmT_empty]; exact decide_eq_true h1); simp only [resV, rightB, hk, Bool.true_and, ← hb1, ← hb2]; simp only [h1, h6, decide_true, decide_false, Bool.true_and, Bool.false_and, Bool.and_true, Bool.and_false, Bool.not_true, Bool.not_false, Bool.true_or, Bool.false_or, Bool.or_true, Bool.or_false, ne_eq, not_true_eq_false, not_false_eq_true, Bool.and_self]
 refine LM.dr 47 rfl rfl rfl <| LM.val (ov_pickF rfl rfl) <| LM.as rfl <| nA [(2, _)] <| wpM.ret ?_
 refine qL Try.results64 rfl fun w' hm' hc' hg' => ?_
 refine ⟨?_, hc'⟩; have hk : kindB o.k = true := (by rw [← nmT_empty]; exact decide_eq_true h1); simp only [resV, rightB, hk, Bool.true_and, ← hb1, ← hb2]; simp only [h1, h6, decide_true, decide_false, Bool.true_and, Bool.false_and, Bool.and_true, Bool.and_false, Bool.not_true, Bool.not_false, Bool.true_or, Bool.false_or, Bool.or_true, Bool.or_false, ne_eq, not_true_eq_false, not_false_eq_true, Bool.and_self]
theorem rmay_spec {xs : List COp} {fv : Bool} {ad : Option Addr} {n cap : Nat} (w : World) (hn : n = xs.length) (hl : Sr fO 3 xs (.slice ad n cap) w) : Ret Try.prog 47 #[pV fv ad n cap] w (fun v w' => v = .bool (mayB xs) ∧ Ext w w') := by
 refine Ret.enterM Try.func47 rfl Try.ntmps47 rfl ([]) (no) (Mem.nil w) ?_
 refine wR ?_
 refine LM.box rfl rfl (fun b1 hb1 => ?_)
 refine LM.as rfl <| nA [(1, _)] <| wpM.seq <| wR <| LM.as rfl <| nA [(1, _), (3, _)] <| wpM.block ?_
 refine wpM.loopK0 (α := Nat) (fun i => [(3, .int .i64 (i : Nat))]) [(1, _)] (fun i => pB b1 fv ad n cap :: []) (fun i => i ≤ xs.length ∧ i ≤ 12 ∧ (xs.take i).all rightB = true) (fun i => xs.length - i) (0) ⟨au2, rfl, trivial⟩ au1 ⟨Nat.zero_le _, Nat.zero_le _, rfl⟩ ?_
 rintro i ⟨hi, hi2, ha⟩
 change wpM _ _ _ _ _ _ _ (pB b1 fv ad n cap :: []) _ _ _
 refine wpM.seq <| wR <| LM.mv rfl <| LM.val (ovf 43 rfl rfl rfl rfl) ?_
 refine LM.rd (oml rfl rfl rfl) ?_
 refine LM.val (ov_len Try.underlying43 rfl) <| LM.val (ov_lss rfl rfl) <| nA [(1, _), (3, _), (8, _)] ?_
 refine wpM.condD rfl (fun h1 => ?_) (fun h1 => ?_)
 ·
  refine wpM.skip <| QM.then <| wpM.seq <| wpM.block <| wR <| LM.mv rfl <| LM.val (ov_gtr rfl rfl) <| LM.mv rfl ?_
  refine LM.splitD (t := 13) rfl (fun h2 => ?_) (fun h2 => ?_)
  ·
   refine LM.dr 13 rfl rfl rfl <| LM.dr 13 rfl rfl rfl <| LM.dr 13 rfl rfl rfl <| LM.dr 13 rfl rfl rfl <| LM.dr 13 rfl rfl rfl <| LM.dr 13 rfl rfl rfl <| LM.dr 13 rfl rfl rfl <| LM.val (ov_pickT rfl rfl) <| nA [(1, _), (3, _), (21, _)] ?_
   refine wpM.condT rfl ?_
   refine wR <| LM.as rfl <| nA [(2, _)] <| wpM.ret <| QM.block_ret <| QM.then_ret <| QM.then_ret <| QM.block_ret <| QM.then_ret ?_
   refine qL Try.results47 rfl fun w' hm' hc' hg' => ?_
   refine ⟨?_, hc'⟩; simp only [resV]; have hm : mayB xs = false := (by unfold mayB; rw [decide_eq_false (show ¬ xs.length ≤ 12 by omega)]; simp); rw [hm]
  refine LM.sp 13 rfl rfl rfl <| LM.val (ovf 43 rfl rfl rfl rfl) <| LM.sp 13 rfl rfl rfl ?_
  refine LM.rd (oml rfl rfl rfl) ?_
  refine LM.sp 13 rfl rfl rfl <| LM.mv rfl <| LM.sp 13 rfl rfl rfl ?_
  refine LM.val (ov_idxSN au6 Try.underlying43 Try.sizeOf102 rfl rfl om) ?_
  refine LM.sp 13 rfl rfl rfl ?_
  refine LM.rdC (om_srEA asm ir Try.isAgg102 Try.sizeOf102 rfl au3 id) ?_
  refine LM.sp 13 rfl rfl rfl ?_
  refine cE Try.func64 rfl (fun w hm hc hg => one_spec _ w) ?_
  refine LM.sp 13 rfl rfl rfl ?_
  refine LM.val (ov_not rfl) ?_
  refine LM.val (ov_pickF rfl rfl) <| nA [(1, _), (3, _), (21, _)] ?_
  refine wpM.condB rfl (fun h3 => ?_) (fun h3 => ?_)
  ·
   refine wR <| LM.as rfl <| nA [(2, _)] <| wpM.ret <| QM.block_ret <| QM.then_ret <| QM.then_ret <| QM.block_ret <| QM.then_ret ?_
   refine qL Try.results47 rfl fun w' hm' hc' hg' => ?_
   refine ⟨?_, hc'⟩; simp only [resV]; rw [may_not (i := i) om (by simpa using h3)]
  refine wpM.skip <| QM.block_normal ?_
  refine QM.then (wpM.region ?_)
  refine LM.mv rfl ?_
  refine LM.val (ov_add64 rfl rfl om) ?_
  refine LM.as rfl <| nC [(1, _), (3, _)] ?_
  refine QM.againK (i + 1) ⟨au2, rfl, trivial⟩ au1 (fun _ h => h) ?_ ?_
  · exact ⟨by omega, by omega, by rw [all_snoc default om, ha, Bool.true_and]; simpa using h3⟩
  · omega
 refine wpM.exit <| QM.then_exit <| QM.then_exit <| QM.block_hit <| tR <| LM.val (ovf 43 rfl rfl rfl rfl) ?_
 refine LM.rd (oml rfl rfl rfl) ?_
 refine LM.val (ov_len Try.underlying43 rfl) <| LM.val (ov_gtr rfl rfl) <| LM.as rfl <| nA [(2, _)] <| wpM.ret ?_
 refine qL Try.results47 rfl fun w' hm' hc' hg' => ?_
 have hil : i = xs.length := om; subst hil; rw [List.take_length] at ha; refine ⟨?_, hc'⟩; simp only [resV, mayB]; congr 1; rw [ha, decide_eq_true (show xs.length ≤ 12 by omega), Bool.and_true, Bool.and_true]; exact decide_eq_decide.2 om
theorem Sr.kp {α : Type} {f : α → List Value} {s : Nat} {xs : List α} {ad : Option Addr} {n cap b : Nat} {w w' : World} (h : Sr f s xs (.slice ad n cap) w) (k : Chg (fun x => x = b) w w') (hab : 0 < xs.length → adB ad ≠ b) : Sr f s xs (.slice ad n cap) w' := by
  by_cases h0 : 0 < xs.length
  · exact h.keep k (fun b' off n' c' e => by simp only [Value.slice.injEq] at e; obtain ⟨rfl, _, _⟩ := e; exact hab h0)
  · obtain ⟨ad', cap', h1, h2, h3⟩ := h
    exact ⟨ad', cap', h1, h2, fun q => absurd q h0⟩
def isE (ws : List Wrd) (i : Nat) (e k : Int) (t : List UInt8) : Bool := decide (e = 0) && decide (i < ws.length) && decide ((ws.getD i default).k = k) && decide ((ws.getD i default).t = t)
theorem isE_eq {ws : List Wrd} {i : Nat} {e k : Int} {t : List UInt8} : isE ws i e k t = (decide (e = 0) && isR ws i k t) := by unfold isE isR; rw [Bool.and_assoc, Bool.and_assoc, Bool.and_assoc]
theorem isE_lt {ws : List Wrd} {i : Nat} {e k : Int} {t : List UInt8} (h : isE ws i e k t = true) : i < ws.length ∧ e = 0 := by
  unfold isE at h; simp only [Bool.and_eq_true, decide_eq_true_eq] at h; exact ⟨h.1.1.2, h.1.1.1⟩
def needE (ws : List Wrd) (i : Nat) (e k : Int) (t : List UInt8) : Nat × Int := if isE ws i e k t then (i + 1, e) else if e = 0 then (i, 5) else (i, e)
def numE (ws : List Wrd) (i : Nat) (e lo hi : Int) : Nat × Int × Int := if e ≠ 0 then (i, e, 0) else numR ws i lo hi
theorem num_b {ws : List Wrd} {i : Nat} {e lo hi : Int} (h : e ≠ 0) : numE ws i e lo hi = (i, e, 0) := by unfold numE; rw [if_pos h]
theorem num_c {ws : List Wrd} {i : Nat} {lo hi : Int} (h : ¬ lo = -1) (h2 : ws.length ≤ i ∨ (ws.getD i default).k ≠ 2) : numE ws i 0 lo hi = (i, 5, 0) := by
  unfold numE numR; rw [if_neg (by simp), if_neg h, if_pos (by simp only [Bool.or_eq_true, decide_eq_true_eq]; exact h2)]
theorem num_d {ws : List Wrd} {i : Nat} {lo hi : Int} (h : ¬ lo = -1) (h2 : i < ws.length) (h3 : (ws.getD i default).k = 2) (h4 : hasB lo hi (ws.getD i default).n = false) : numE ws i 0 lo hi = (i, 1, 0) := by
  unfold numE numR; rw [if_neg (by simp), if_neg h, if_neg (by simp only [Bool.or_eq_true, decide_eq_true_eq, not_or]; exact ⟨by omega, fun q => q h3⟩), if_neg (by rw [h4]; simp)]
theorem num_e {ws : List Wrd} {i : Nat} {lo hi : Int} (h : ¬ lo = -1) (h2 : i < ws.length) (h3 : (ws.getD i default).k = 2) (h4 : hasB lo hi (ws.getD i default).n = true) : numE ws i 0 lo hi = (i + 1, 0, (ws.getD i default).n) := by
  unfold numE numR; rw [if_neg (by simp), if_neg h, if_neg (by simp only [Bool.or_eq_true, decide_eq_true_eq, not_or]; exact ⟨by omega, fun q => q h3⟩), if_pos h4]
theorem op_need {ws : List Wrd} {i ahead : Nat} (h1 : kindR ws i ≠ 0) (h2 : ahead < 12) : opR ws i ahead = ((needE ws (opB ws i).1 (opB ws i).2.1 3 [59]).1, (needE ws (opB ws i).1 (opB ws i).2.1 3 [59]).2, ⟨kindR ws i, (opA ws i).2.2, (opB ws i).2.2⟩) := by
  unfold opR needE; rw [if_neg h1, if_neg om, isE_eq]
  by_cases h : (opB ws i).2.1 = 0
  · rw [if_neg (by simp [h]), decide_eq_true h, Bool.true_and]
    split
    · rw [h]
    · rfl
  · rw [if_pos h, decide_eq_false h, Bool.false_and, if_neg (by simp), if_neg h]
theorem op_a {ws : List Wrd} {i ahead : Nat} (h1 : kindR ws i = 0) : opR ws i ahead = (i, 5, ⟨0, 0, 0⟩) := by unfold opR; rw [if_pos h1]
theorem op_b {ws : List Wrd} {i ahead : Nat} (h1 : kindR ws i ≠ 0) (h2 : 12 ≤ ahead) : opR ws i ahead = (i, 6, ⟨0, 0, 0⟩) := by unfold opR; rw [if_neg h1, if_pos h2]
theorem Sr.adlt {α : Type} {f : α → List Value} {s : Nat} {xs : List α} {ad : Option Addr} {n cap : Nat} {w : World} (h : Sr f s xs (.slice ad n cap) w) (h0 : 0 < xs.length) : adB ad < w.heap.size := by
  obtain ⟨rfl, _, h3⟩ := h.open
  obtain ⟨b, off, cs, E, fz, rfl, hb, _⟩ := h3 h0
  exact (Array.getElem?_eq_some_iff.1 hb).1
def ParT (r : Bool × List COp × Int × Int) (n0 : Nat) (v : Value) (m : Mem0) : Prop := ∃ ad n cap, v = .tuple #[.agg #[.bool r.1, .slice ad n cap], .int .i64 r.2.2.1, .int .i64 r.2.2.2] ∧ n = r.2.1.length ∧ Sl fO 102 3 n0 r.2.1 (.slice ad n cap) m
theorem ParT.mono {r : Bool × List COp × Int × Int} : ∀ (k k' : Nat) u m, k' ≤ k → ParT r k u m → ParT r k' u m := fun k k' u m h ⟨ad, n, cap, h1, h2, h3⟩ => ⟨ad, n, cap, h1, h2, h3.mono h⟩
def StI (ws : List Wrd) (R : List COp × Int × Int) (i : Nat) (e : Int) (ops : List COp) : Prop := (e = 0 → loopR ws i ops = R) ∧ (e ≠ 0 → R = ([], (i : Int), e)) ∧ i ≤ ws.length
theorem isE_bad {ws : List Wrd} {i : Nat} {e k : Int} {t : List UInt8} (h : e ≠ 0) : isE ws i e k t = false := by rw [isE_eq, decide_eq_false h]; rfl
theorem opR_pos {ws : List Wrd} {i k : Nat} (hi : i ≤ ws.length) : (opR ws i k).1 ≤ ws.length := by
  by_cases h1 : kindR ws i = 0
  · rw [op_a h1]; exact hi
  · by_cases h2 : 12 ≤ k
    · rw [op_b h1 h2]; exact hi
    · rw [op_need h1 om]
      have h3 := opB_le h1
      unfold needE; split
      · rename_i q; have := (isE_lt q).1; simp only; omega
      · split <;> simp only <;> omega
theorem StI.next {ws : List Wrd} {R : List COp × Int × Int} {i : Nat} {ops : List COp} (h : StI ws R i 0 ops) (hn : isR ws i 3 [125] = false) : StI ws R (opR ws i ops.length).1 (opR ws i ops.length).2.1 (ops ++ [(opR ws i ops.length).2.2]) := by
  obtain ⟨h1, _, h3⟩ := h
  have h1 := h1 rfl
  refine ⟨fun q => ?_, fun q => ?_, opR_pos h3⟩
  · rw [← loopR_next hn q]; exact h1
  · rw [← h1, loopR_bad hn q]
theorem parse_nat {ws : List Wrd} {i : Nat} (hi : i ≤ ws.length) : parseO ws (i : Int) = (decide ((bodyR ws i).2.2 = 0) && (headR ws i).1, bodyR ws i) := by
  unfold parseO; rw [if_neg om, Int.toNat_natCast]
theorem fin_bad {ws : List Wrd} {i0 : Nat} {i e : Int} {n0 : Nat} (hi : i0 ≤ ws.length) (h : bodyR ws i0 = ([], i, e)) (he : e ≠ 0) : ParT (parseO ws (i0 : Int)) n0 (.tuple #[.agg #[.bool false, .slice none 0 0], .int .i64 i, .int .i64 e]) [] := by
  rw [parse_nat hi, h, decide_eq_false he]; exact ⟨none, 0, 0, rfl, rfl, .nil _ _ _ _⟩
end Go.Eng
