/- The calculus, twelfth part: regions that draw, in which only a part of the memory is read early or late; all else stands alone. No condition. -/
import Derived.Test.YtfpkahcfkkhmcaaDoorM1
import Derived.Lib.Strings
import Derived.Laws.IdiomStrings
import Derived.Lib.OthersKept
import Derived.Lib.FrozenHead
import Derived.Lib.UnsafeStr
import Derived.Lib.AppendStr
import Derived.Lib.AppendIntMem
import Derived.Lib.ConvBytes
import Derived.Lib.AtoiErrMem
import Derived.Lib.AppendZeros
import Derived.Lib.SliceRun
import Derived.Test.YtfpkahcfkkhmcaaDoorChecked
import Derived.Shelf.Lays
import Derived.Shelf.LaysM
import Derived.Shelf.Strings.SlTrimAscii
import Derived.Shelf.Strconv.Itoa4
import Derived.Shelf.Strings.Search3
import Derived.Shelf.Strings.BuilderK
import Derived.Shelf.Strings.Prefix
import Derived.Shelf.Small.Strs
import Derived.Shelf.Strconv.Atoi
import Derived.Shelf.Strings.SplitShaped
import Derived.Shelf.Strings.Builder2
import Derived.Lib.ItoaNum
import Derived.Lib.SlTrimSet
import Derived.Lib.Bytealg
import Derived.Test.YtfpkahcfkkhmcaaDoorRows
import Derived.Lib.SplitLaws
set_option linter.unusedVariables false
set_option linter.unusedSimpArgs false
namespace Go.Eng
open Go Go.RowKit
inductive OT where
  | nil : OT
  | one : Nat → Nat → OT → OT
  | fork : Nat → OT → Nat → OT → OT
  | last : Nat → OT
def OT.size : OT → Nat
  | .nil => 0
  | .one _ _ t => t.size + 1
  | .fork _ t _ _ => t.size + 1
  | .last _ => 1
section
variable {P : Program} {r : Option Nat} {ops : Array Oper}
def LDK (P : Program) (r : Option Nat) (ops : Array Oper) (Q : Exit → Act → World → Prop) (D : World → Prop) : (World → Prop) → OT → Act → Prop
  | C, .nil, a => ∀ w, C w → Q .normal a w
  | C, .last i, a => ∀ w, C w → wpOpIn (Wd r) 0 P ops (Qn Q) i (Q .normal) a w
  | C, .fork i t j s, a => (∀ w, C w → wpOpIn (Wd r) 0 P ops (Qn Q) i (fun a' w' => ∃ C' : World → Prop, (∀ w, C' w → D w) ∧ C' w' ∧ LDK P r ops Q D C' t a') a w) ∧
      ∀ w, C w → wpOpIn (Wd r) 0 P ops (Qn Q) j (fun a' w' => ∃ C' : World → Prop, (∀ w, C' w → D w) ∧ C' w' ∧ LDK P r ops Q D C' s a') a w
  | C, .one i k l, a =>
    match ops[i]? with
    | none => False
    | some o =>
      match k with
      | 0 => ∃ v, YA P ops (fun _ => True) o v a ∧ LDK P r ops Q D C l (a.put o.dst v)
      | 1 => ∃ v, YA P ops D o v a ∧ LDK P r ops Q D C l (a.put o.dst v)
      | _ => ∀ w, C w → wpOpIn (Wd r) 0 P ops (Qn Q) i (fun a' w' => ∃ C' : World → Prop, (∀ w, C' w → D w) ∧ C' w' ∧ LDK P r ops Q D C' l a') a w
def chkK (ops : Array Oper) (z : Nat) : OT → Array Bool → Bool
  | .nil, listed => Region.ready .any ops listed == []
  | .last i, listed => Region.ready .any ops listed == [i] && (i == z) && decide (i < listed.size) && Region.ready .any ops (listed.setIfInBounds i true) == []
  | .fork i t j s, listed => Region.ready .any ops listed == [i, j] && t.size == s.size && (i != z) && (j != z) && chkK ops z t (listed.setIfInBounds i true) && chkK ops z s (listed.setIfInBounds j true)
  | .one i k l, listed =>
    (match k with
      | 0 => Region.free .any ops listed i && (Region.ready .any ops listed).contains i
      | 1 => Region.free .any ops listed i && (Region.ready .any ops listed).contains i && (decide (ops.size ≤ z) || depOf ops 40 z i)
      | _ => Region.ready .any ops listed == [i]) && (i != z) &&
    chkK ops z l (listed.setIfInBounds i true)
def isZ (z : Nat) : Nat → Bool := fun q => q == z
theorem ws_of_ldk {Q : Exit → Act → World → Prop} {D : World → Prop} {z : Nat} (hsel : Region.noSelect ops = true) (hnd : noDefer ops = true) :
    ∀ (l : OT) (C : World → Prop) (listed : Array Bool) (a : Act) (w : World), chkK ops z l listed = true → Closed ops listed → listed.getD z false = false → (∀ w, C w → D w) → C w → LDK P r ops Q D C l a → WS P r ops Q D (isZ z) l.size listed a w
  | .nil, C, listed, a, w, hc, _, _, hCD, hC, h => by
    simp only [chkK, beq_iff_eq] at hc
    exact ⟨fun _ => hCD w hC, hc, h w hC⟩
  | .last i, C, listed, a, w, hc, hcl, hz, hCD, hC, h => by
    simp only [chkK, Bool.and_eq_true, beq_iff_eq, decide_eq_true_eq] at hc
    obtain ⟨⟨⟨hr, rfl⟩, hlt⟩, hr2⟩ := hc
    simp only [LDK] at h
    refine ⟨fun _ => hCD w hC, fun h0 => (by rw [hr] at h0; cases h0), fun q hq => ?_⟩
    rw [hr] at hq
    obtain rfl : q = i := by simpa using hq
    exact wpOpIn_mono (fun a' w' hq' => ⟨fun ht => absurd (ht q (by simp [isZ])) (by simp [hlt]), hr2, hq'⟩) (h w hC)
  | .fork i t j s, C, listed, a, w, hc, hcl, hz, hCD, hC, h => by
    simp only [chkK, Bool.and_eq_true, beq_iff_eq, bne_iff_ne] at hc
    obtain ⟨⟨⟨⟨⟨hr, hsz⟩, hiz⟩, hjz⟩, hct⟩, hcs⟩ := hc
    simp only [LDK] at h
    refine ⟨fun _ => hCD w hC, fun h0 => (by rw [hr] at h0; cases h0), fun q hq => ?_⟩
    have hq' := hq
    rw [hr] at hq'
    simp only [List.mem_cons, List.not_mem_nil, or_false] at hq'
    rcases hq' with rfl | rfl
    · exact wpOpIn_mono (fun a' w' ⟨C', hsubC, hC', hl⟩ => ws_of_ldk hsel hnd t C' _ a' w' hct (hcl.set hq) (unlisted_set (Ne.symm hiz) hz) hsubC hC' hl) (h.1 w hC)
    · exact wpOpIn_mono (fun a' w' ⟨C', hsubC, hC', hl⟩ => by have := ws_of_ldk hsel hnd s C' _ a' w' hcs (hcl.set hq) (unlisted_set (Ne.symm hjz) hz) hsubC hC' hl; rw [← hsz] at this; exact this) (h.2 w hC)
  | .one i k l, C, listed, a, w, hc, hcl, hz, hCD, hC, h => by
    simp only [LDK] at h
    cases ho : ops[i]? with
    | none => rw [ho] at h; exact h.elim
    | some o =>
      rw [ho] at h
      simp only at h
      have hnd' : ∀ (j : Nat) (o : Oper), ops[j]? = some o → nd o.op = true := fun j o hj => (Array.all_eq_true_iff_forall_mem.1 hnd) o (Array.mem_of_getElem? hj)
      have hun : ∀ q, isZ z q = true → listed.getD q false = false := fun q hq => by unfold isZ at hq; rw [beq_iff_eq] at hq; subst hq; exact hz
      have hti : i ≠ z → isZ z i = false := fun h => beq_eq_false_iff_ne.2 h
      match k, h, hc with
      | 0, ⟨v, hy, hl⟩, hc =>
        simp only [chkK, Bool.and_eq_true, bne_iff_ne] at hc
        obtain ⟨⟨⟨hf, hr⟩, hiz⟩, hc⟩ := hc
        exact WS.first (tl := isZ z) ho (hti hiz) (Region.noSelect_spec hsel) hnd' (D := fun _ => True) (.inl fun _ => trivial) l.size listed a w hcl (hCD w hC) hun (Region.free_spec ho hf) (by simpa using hr) hy
          (ws_of_ldk hsel hnd l C _ _ w hc (hcl.set (by simpa using hr)) (unlisted_set (Ne.symm hiz) hz) hCD hC hl)
      | 1, ⟨v, hy, hl⟩, hc =>
        simp only [chkK, Bool.and_eq_true, bne_iff_ne, Bool.or_eq_true, decide_eq_true_eq] at hc
        obtain ⟨⟨⟨⟨hf, hr⟩, hdep⟩, hiz⟩, hc⟩ := hc
        exact WS.first (tl := isZ z) ho (hti hiz) (Region.noSelect_spec hsel) hnd' (D := D) (.inr ⟨fun _ h => h, fun j oj hj htj => by
            unfold isZ at htj; rw [beq_iff_eq] at htj; subst htj
            rcases hdep with hd | hd
            · have := (Array.getElem?_eq_some_iff.1 hj).1; omega
            · exact .inr hd⟩) l.size listed a w hcl (hCD w hC) hun (Region.free_spec ho hf) (by simpa using hr) hy
          (ws_of_ldk hsel hnd l C _ _ w hc (hcl.set (by simpa using hr)) (unlisted_set (Ne.symm hiz) hz) hCD hC hl)
      | k + 2, h, hc =>
        simp only [chkK, Bool.and_eq_true, beq_iff_eq, bne_iff_ne] at hc
        obtain ⟨⟨hr, hiz⟩, hc⟩ := hc
        refine ⟨fun _ => hCD w hC, fun h0 => (by rw [hr] at h0; cases h0), fun j hj => ?_⟩
        rw [hr] at hj
        obtain rfl : j = i := by simpa using hj
        exact wpOpIn_mono (fun a' w' ⟨C', hsubC, hC', hl⟩ => ws_of_ldk hsel hnd l C' _ a' w' hc (hcl.set (by rw [hr]; simp)) (unlisted_set (Ne.symm hiz) hz) hsubC hC' hl) (h w hC)
end
def OT.z (n : Nat) : OT → Nat
  | .nil => n
  | .one _ _ t => t.z n
  | .fork _ t _ _ => t.z n
  | .last i => i
def chkKAll (ops : Array Oper) (ord : OT) : Bool :=
  Region.noSelect ops && noDefer ops && (ord.size == ops.size) && chkK ops (ord.z ops.size) ord (Array.replicate ops.size false)
section
variable {P : Program} {r : Option Nat} {N : Nat} {Q : Exit → Act → World → Prop} {e : Env} {ds : List Nat} {M : Mem0} {S : Nat → Prop} {w0 : World} {G : World → Prop}
def KD (P : Program) (r : Option Nat) (N : Nat) (ops : Array Oper) (Q : Exit → Act → World → Prop) (MD : Mem0) (GD : World → Prop) (ord : OT) (e : Env) (ds : List Nat) (M : Mem0) (S : Nat → Prop) (w0 : World) (G : World → Prop) : Prop :=
  ∀ a, Fr N e a → Dm ds a → LDK P r ops Q (Cls MD S w0 GD) (Cls M S w0 G) ord a
theorem wpM.keep [GS G] {id : Nat} {ops : Array Oper} (MD : Mem0) (GD : World → Prop) (ord : OT) (hm : P.follows .mixedOrders = true) (hc : chkKAll ops ord = true) (hM : SubM M MD) (hG : ∀ w, G w → GD w) (h : KD P r N ops Q MD GD ord e ds M S w0 G) : wpM P r N (.region id ops true) Q e ds M S w0 G := fun w hw hcg hg a hf hd => by
  simp only [chkKAll, Bool.and_eq_true, beq_iff_eq] at hc
  obtain ⟨⟨⟨h1, h2⟩, h3⟩, h6⟩ := hc
  refine wpIn_mono (wpIn_region_any (Q := Qn Q) hm ?_) (fun x a w hq => ?_)
  · rw [← h3]
    exact WS.any _ _ a _ (ws_of_ldk h1 h2 ord _ _ a _ (h3 ▸ h6) (fun q o hq _ => by rw [Array.getD_eq_getD_getElem?, Array.getElem?_replicate] at hq; split at hq <;> cases hq) (by rw [Array.getD_eq_getD_getElem?, Array.getElem?_replicate]; split <;> rfl) (fun w hw => ⟨hM.mem w hw.1, hw.2.1, hG w hw.2.2⟩)
      ⟨hw.ext (Chg.drew no w), hcg.trans (Chg.drew S w), GS.ext w _ hg (Chg.drew no w)⟩ (h a hf hd))
  · cases x <;> first | exact hq | exact hq.elim
variable {ops : Array Oper} {l : OT} {op : Op} {ty : TypeId} {pos : String} {after : Array Edge} {d : Nat} {v : Value} {i : Nat} {MD : Mem0} {GD : World → Prop}
theorem KD.nil (h : QM N Q .normal e ds M S w0 G) : KD P r N ops Q MD GD .nil e ds M S w0 G := fun a hf hd w hw => h w hw.1 hw.2.1 hw.2.2 a hf hd
theorem KD.val {g : Option (Nat × Bool)} (hi : ops[i]? = some ⟨some d, op, ty, pos, after, g⟩) (hg : Wtd ops e g true) (hv : OpP P op ty e v) (h : KD P r N ops Q MD GD l ((d, v) :: e) ds M S w0 G) (hnd : nd op = true := by rfl) (hd : Nat.blt d N = true := by rfl) :
    KD P r N ops Q MD GD (.one i 0 l) e ds M S w0 G := fun a hf hdm => by
  simp only [LDK, hi]
  exact ⟨v, .inl ⟨hg.wanted hf, hnd, fun w _ => hv w a.eval (fun x u hx => hf.eval hx) _ _ _ _⟩, h _ (hf.put hd v) hdm⟩
theorem KD.rd {g : Option (Nat × Bool)} (hi : ops[i]? = some ⟨some d, op, ty, pos, after, g⟩) (hg : Wtd ops e g true) (hv : ∀ w, Mem w MD → OpV P op ty e w v w) (h : KD P r N ops Q MD GD l ((d, v) :: e) ds M S w0 G) (hnd : nd op = true := by rfl) (hd : Nat.blt d N = true := by rfl) :
    KD P r N ops Q MD GD (.one i 1 l) e ds M S w0 G := fun a hf hdm => by
  simp only [LDK, hi]
  exact ⟨v, .inl ⟨hg.wanted hf, hnd, fun w hw => hv w hw.1 a.eval (fun x u hx => hf.eval hx) _ _ _ _⟩, h _ (hf.put hd v) hdm⟩
theorem KD.rdC {g : Option (Nat × Bool)} (hi : ops[i]? = some ⟨some d, op, ty, pos, after, g⟩) (hg : Wtd ops e g true) (hv : ∀ w, Mem w MD → Chg S w0 w → GD w → OpV P op ty e w v w) (h : KD P r N ops Q MD GD l ((d, v) :: e) ds M S w0 G) (hnd : nd op = true := by rfl) (hd : Nat.blt d N = true := by rfl) :
    KD P r N ops Q MD GD (.one i 1 l) e ds M S w0 G := fun a hf hdm => by
  simp only [LDK, hi]
  exact ⟨v, .inl ⟨hg.wanted hf, hnd, fun w hw => hv w hw.1 hw.2.1 hw.2.2 a.eval (fun x u hx => hf.eval hx) _ _ _ _⟩, h _ (hf.put hd v) hdm⟩
theorem KD.dropU {g : Option (Nat × Bool)} {k : Nat} (hk : Nat.blt k 2 = true) (hi : ops[i]? = some ⟨some d, op, ty, pos, after, g⟩) (hg : Wtd ops e g false) (h : KD P r N ops Q MD GD l ((d, undef) :: e) ds M S w0 G) (hd : Nat.blt d N = true := by rfl) :
    KD P r N ops Q MD GD (.one i k l) e ds M S w0 G := fun a hf hdm => by
  have hY : ∀ D, YA P ops D ⟨some d, op, ty, pos, after, g⟩ undef a := fun D => .inr ⟨hg.wanted (o := ⟨some d, op, ty, pos, after, g⟩) hf, rfl⟩
  match k, hk with
  | 0, _ => simp only [LDK, hi]; exact ⟨undef, hY _, h _ (hf.put hd undef) hdm⟩
  | 1, _ => simp only [LDK, hi]; exact ⟨undef, hY _, h _ (hf.put hd undef) hdm⟩
theorem KD.drop {g : Option (Nat × Bool)} {k : Nat} (hk : Nat.blt k 2 = true) (hi : ops[i]? = some ⟨some d, op, ty, pos, after, g⟩) (hg : Wtd ops e g false) (h : KD P r N ops Q MD GD l e ds M S w0 G) (hd : Nat.blt d N = true := by rfl) (hfresh : look e d = none := by rfl) :
    KD P r N ops Q MD GD (.one i k l) e ds M S w0 G := .dropU hk hi hg (fun a hf hdm => h a ⟨hf.1, fun t u hu => hf.2 t u (by
      rw [look_cons]
      by_cases hdt : d = t
      · subst hdt; rw [hfresh] at hu; cases hu
      · rw [if_neg hdt]; exact hu)⟩ hdm) hd
theorem KD.splitD {t : Nat} {p : Prop} [Decidable p] (ht : look e t = some (.bool (decide p))) (h1 : p → KD P r N ops Q MD GD l ((t, .bool true) :: e) ds M S w0 G) (h2 : ¬ p → KD P r N ops Q MD GD l ((t, .bool false) :: e) ds M S w0 G) :
    KD P r N ops Q MD GD l e ds M S w0 G := fun a hf hdm => by
  by_cases hp : p
  · exact h1 hp a (hf.know ht (decide_eq_true hp)) hdm
  · exact h2 hp a (hf.know ht (decide_eq_false hp)) hdm
theorem KD.splitB {t : Nat} {b : Bool} (ht : look e t = some (.bool b)) (h1 : b = true → KD P r N ops Q MD GD l ((t, .bool true) :: e) ds M S w0 G) (h2 : b = false → KD P r N ops Q MD GD l ((t, .bool false) :: e) ds M S w0 G) :
    KD P r N ops Q MD GD l e ds M S w0 G := fun a hf hdm => by
  cases hb : b with
  | true => exact h1 hb a (hf.know ht hb) hdm
  | false => exact h2 hb a (hf.know ht hb) hdm
theorem wpIn_mono2 {F : Fence} {n : Nat} {o : Oper} {a : Act} {w : World} {K K' : Act → World → Prop} {Q Q' : Exit → Act → World → Prop} (h : ∀ a w, K a w → K' a w) (hQ : ∀ c a w, Q (.panic c) a w → Q' (.panic c) a w) (hL : LetsOut Q → LetsOut Q')
    (hh : o.wpIn F n P a w K Q) : o.wpIn F n P a w K' Q' := by
  unfold Oper.wpIn at *
  refine ⟨hh.1, ?_⟩
  have hh := hh.2
  generalize (o.semAt F.round a.eval).run P w = r at *
  cases r with
  | ok x w' =>
    cases x <;> simp only [Oper.uponIn] at hh ⊢ <;>
      first
        | exact h _ _ hh
        | exact ⟨hh.1, CallsIn.mono hh.2 (fun e w'' he => by cases e <;> first | exact h _ _ he | exact hQ _ _ _ he | exact hL he)⟩
        | exact ⟨hh.1, RowsIn.mono hh.2 (fun _ _ he => h _ _ he)⟩
        | exact ⟨hh.1, RoundIn.mono hh.2 (fun e w'' he => by cases e <;> first | exact h _ _ he | exact hQ _ _ _ he | exact hL he)⟩
  | halt x w' => cases x <;> simp only [Oper.uponIn] at hh ⊢ <;> first | exact hQ _ _ _ hh | exact hh
def KQ (P : Program) (r : Option Nat) (N : Nat) (ops : Array Oper) (Q : Exit → Act → World → Prop) (D : World → Prop) (l : OT) : Exit → Act → World → Prop := fun x a w => x = .normal ∧ ∃ C' : World → Prop, (∀ w, C' w → D w) ∧ C' w ∧ LDK P r ops Q D C' l a
theorem KD.one {o : Oper} {k : Nat} (ho : ops[i]? = some o) (h : LM P r N ops (KQ P r N ops Q (Cls MD S w0 GD) l) [o] e ds M S w0 G) : KD P r N ops Q MD GD (.one i (k + 2) l) e ds M S w0 G := fun a hf hdm => by
  simp only [LDK, ho]
  intro w hw
  have h3 := h w hw.1 hw.2.1 hw.2.2 a hf hdm
  unfold wpOpIn
  rw [ho]
  unfold wpListIn at h3
  simp only
  split
  · rename_i hq; rw [if_pos hq] at h3
    exact wpIn_mono2 (fun a w h => h.2) (fun c a w h => by cases h.1) (fun ⟨a, w, h⟩ => by cases h.1) h3
  · rename_i hq; rw [if_neg hq] at h3
    exact ⟨fun _ _ => trivial, h3.2.2⟩
theorem KD.last {o : Oper} (ho : ops[i]? = some o) (h : LM P r N ops (Qn Q) [o] e ds M S w0 G) : KD P r N ops Q MD GD (.last i) e ds M S w0 G := fun a hf hdm => by
  simp only [LDK]
  intro w hw
  have h3 := h w hw.1 hw.2.1 hw.2.2 a hf hdm
  unfold wpOpIn
  rw [ho]
  unfold wpListIn at h3
  simp only
  split
  · rename_i hq; rw [if_pos hq] at h3; exact Oper.wpIn_mono (fun a w h => h) h3
  · rename_i hq; rw [if_neg hq] at h3; exact h3
theorem KD.fork {o o2 : Oper} {j : Nat} {s : OT} (ho : ops[i]? = some o) (ho2 : ops[j]? = some o2) (h : LM P r N ops (KQ P r N ops Q (Cls MD S w0 GD) l) [o] e ds M S w0 G) (h2 : LM P r N ops (KQ P r N ops Q (Cls MD S w0 GD) s) [o2] e ds M S w0 G) : KD P r N ops Q MD GD (.fork i l j s) e ds M S w0 G := fun a hf hdm => by
  have k1 := KD.one (k := 0) ho h a hf hdm
  have k2 := KD.one (k := 0) ho2 h2 a hf hdm
  simp only [LDK, ho] at k1
  simp only [LDK, ho2] at k2
  simp only [LDK]
  exact ⟨k1, k2⟩
theorem QM.one (hM : SubM M MD) (hG : ∀ w, G w → GD w) (h : KD P r N ops Q MD GD l e ds M S w0 G) : QM N (KQ P r N ops Q (Cls MD S w0 GD) l) .normal e ds M S w0 G := fun w hm hc hg a hf hd =>
  ⟨rfl, Cls M S w0 G, fun w hw => ⟨hM.mem w hw.1, hw.2.1, hG w hw.2.2⟩, ⟨hm, hc, hg⟩, h a hf hd⟩
end
end Go.Eng
namespace Go.Eng
open Go Go.RowKit
abbrev bs (l : List UInt8) : ByteArray := ⟨l.toArray⟩
abbrev vS (l : List UInt8) : Value := .string (bs l)
theorem bs_size (l : List UInt8) : (bs l).size = l.length := by rw [Lib.size_eq]
theorem bs_list (l : List UInt8) : (bs l).toList = l := by rw [Lib.toList_data]
section
variable {P : Program} {ty : TypeId} {e : Env} {t u : TypeId} {x y lo hi : Operand} {l a b : List UInt8}
theorem ov_slenL (ht : P.underlying t = some .string) (hx : ev e x = some (vS l)) : OpP P (.call { callee := .builtin .len, args := #[x], argTypes := #[t] }) ty e (.int .i64 l.length) := by
  have := ov_slen (P := P) (ty := ty) ht hx; rwa [bs_size] at this
theorem beq_dec (a b : List UInt8) : (a == b) = decide (a = b) := by rw [Bool.eq_iff_iff]; simp
theorem ov_seqlL (hx : ev e x = some (vS a)) (hy : ev e y = some (vS b)) : OpP P (.binOp .eql t x y u) ty e (.bool (decide (a = b))) := by
  have := ov_seql (P := P) (ty := ty) (t := t) (u := u) hx hy; rwa [bs_list, bs_list, beq_dec] at this
theorem ov_sneqL (hx : ev e x = some (vS a)) (hy : ev e y = some (vS b)) : OpP P (.binOp .neq t x y u) ty e (.bool (decide (a ≠ b))) := by
  have := ov_sneq (P := P) (ty := ty) (t := t) (u := u) hx hy; rw [bs_list, bs_list, beq_dec] at this
  rwa [show (!decide (a = b)) = decide (a ≠ b) by rw [decide_not]] at this
theorem ov_sidxL {k : IntKind} {i : Int} (ht : P.underlying t = some .string) (hx : ev e x = some (vS l)) (hy : ev e y = some (.int k i)) (h : 0 ≤ i ∧ i < l.length) : OpP P (.index t x y) ty e (.int .u8 ((l.getD i.toNat 0).toNat : Nat)) := fun w ρ hρ _ _ _ _ => by
  have h2 : (bs l)[i.toNat]? = some (l.getD i.toNat 0) := by
    have hlt : i.toNat < l.length := by omega
    rw [getElem?_pos (bs l) i.toNat (by rw [bs_size]; exact hlt), List.getD_eq_getElem?_getD, List.getElem?_eq_getElem hlt]
    rfl
  simp only [execOp, Instr.index, asIntOf, hρ x _ hx, hρ y _ hy, Sem.run_bind, Sem.run_pure, Result.andThen, run_underlying ht, if_pos h.1, h2, Sem.run_map]
theorem ov_sidxN {k : IntKind} {i : Nat} (ht : P.underlying t = some .string) (hx : ev e x = some (vS l)) (hy : ev e y = some (.int k (i : Nat))) (h : i < l.length) : OpP P (.index t x y) ty e (.int .u8 ((l.getD i 0).toNat : Nat)) := by
  have := ov_sidxL (P := P) (ty := ty) ht hx hy (by omega); simpa using this
theorem ov_sslcL {k k' : IntKind} {i j : Int} (ht : P.underlying t = some .string) (hx : ev e x = some (vS l)) (hl : ev e lo = some (.int k i)) (hh : ev e hi = some (.int k' j)) (h1 : 0 ≤ i) (h2 : i ≤ j) (h3 : j ≤ l.length) :
    OpP P (.slice t x (some lo) (some hi) none) ty e (vS ((l.drop i.toNat).take (j.toNat - i.toNat))) := fun w ρ hρ _ _ _ _ => by
  have a1 : 0 ≤ j ∧ j ≤ ((bs l).size : Int) := by rw [bs_size]; omega
  have a2 : 0 ≤ i ∧ i ≤ ((j.toNat : Nat) : Int) := by omega
  have h4 : (bs l).extract i.toNat j.toNat = bs ((l.drop i.toNat).take (j.toNat - i.toNat)) := Lib.extract_eq _ _ _
  simp only [execOp, Instr.sliceAt, Instr.slice, Instr.sliceBounds, Instr.sliceBound, asIntOf, hρ x _ hx, hρ lo _ hl, hρ hi _ hh, Sem.run_bind, Sem.run_pure, Result.andThen, run_underlying ht, Option.map_some, Option.map_none, if_pos a1, if_pos a2, h4, Option.isSome_none, Bool.false_eq_true, if_false, Sem.run_map]
theorem ov_saddL (hx : ev e x = some (vS a)) (hy : ev e y = some (vS b)) (h : a.length + b.length ≤ 9223372036854775807) : OpP P (.binOp .add t x y u) ty e (vS (a ++ b)) := fun w ρ hρ _ _ _ _ => by
  have h2 : (bs a) ++ (bs b) = bs (a ++ b) := by
    apply ByteArray.ext; simp
  simp [execOp, hρ x _ hx, hρ y _ hy, guard_str, binOp, Op.stringOp, Result.andThen, h2]
  rw [if_neg (by rw [bs_size, bs_size]; omega)]
end
end Go.Eng
namespace Go.Eng
open Go Go.RowKit
def Bld (T e n0 b : Nat) (l : List UInt8) (m : Mem0) : Prop :=
  n0 ≤ b ∧ ∃ p v, (p = Value.pointer none ∨ p = Value.pointer (some ⟨b, 0, none⟩)) ∧
    ((v = Value.slice none 0 0 ∧ l = [] ∧ m = [(b, .cells #[p, v] T (0, 0))]) ∨
     ∃ g cap cur fz, v = Value.slice (some ⟨g, 0, none⟩) l.length cap ∧ n0 ≤ g ∧ g ≠ b ∧ m = [(b, .cells #[p, v] T (0, 0)), (g, .cells cur e fz)] ∧ fz.2 ≤ l.length ∧ l.length ≤ cap ∧ cap ≤ maxLen ∧ cur.size = cap ∧ cur.toList.take l.length = Lib.byteCells l)
theorem Bld.is {T e n0 b : Nat} {l : List UInt8} {m : Mem0} {w : World} (h : Bld T e n0 b l m) (hm : Mem w m) : Lib.IsBuilderF T e n0 b (Lib.byteCells l) w := by
  obtain ⟨hb, p, v, hp, h⟩ := h
  have key : Lib.BuilderAtF T e n0 b p (Lib.byteCells l) w := by
    rcases h with ⟨rfl, rfl, rfl⟩ | ⟨g, cap, cur, fz, rfl, hg, hgb, rfl, h1, h2, h3, h4, h5⟩
    · exact ⟨hb, _, hm.get (i := 0) rfl, ⟨rfl, .inl ⟨rfl, rfl⟩⟩, by simp [Value.ownBlock]⟩
    · refine ⟨hb, _, hm.get (i := 0) rfl, ⟨by simp [Lib.byteCells_length], .inr ⟨g, cap, cur, fz, by rw [Lib.byteCells_length], hg, hm.get (i := 1) rfl, ?_⟩⟩, by simp [Value.ownBlock]; exact hgb⟩
      rw [Lib.byteCells_length, Nat.mul_one, Nat.mul_one]; exact ⟨h1, h2, h3, h4, h5⟩
  rcases hp with rfl | rfl
  · exact .inl key
  · exact .inr key
theorem Bld.of {T e n0 b : Nat} {l : List UInt8} {w : World} (h : Lib.IsBuilderF T e n0 b (Lib.byteCells l) w) : ∃ m, Bld T e n0 b l m ∧ Mem w m ∧ ∀ p ∈ m, p.1 = b ∨ ∃ cur fz, p.2 = .cells cur e fz := by
  obtain ⟨p, hp, h⟩ : ∃ p, (p = Value.pointer none ∨ p = Value.pointer (some ⟨b, 0, none⟩)) ∧ Lib.BuilderAtF T e n0 b p (Lib.byteCells l) w := by
    rcases h with h | h
    · exact ⟨_, .inl rfl, h⟩
    · exact ⟨_, .inr rfl, h⟩
  obtain ⟨hb, v, h1, ⟨_, h2⟩, h3⟩ := h
  rw [Lib.byteCells_length, Nat.mul_one] at h2
  rcases h2 with ⟨rfl, h0⟩ | ⟨g, cap, cur, fz, rfl, hg, h4, h5, h6, h7, h8, h9⟩
  · have : l = [] := List.eq_nil_of_length_eq_zero h0
    subst this
    refine ⟨_, ⟨hb, p, _, hp, .inl ⟨rfl, rfl, rfl⟩⟩, ⟨by simp, fun q hq => ?_⟩, fun q hq => ?_⟩
    · rw [List.mem_singleton] at hq; subst hq; exact h1
    · rw [List.mem_singleton] at hq; subst hq; exact .inl rfl
  · have hgb : g ≠ b := fun q => h3 (by simp [Value.ownBlock, q])
    refine ⟨_, ⟨hb, p, _, hp, .inr ⟨g, cap, cur, fz, rfl, hg, hgb, rfl, h5, h6, h7, by omega, h9⟩⟩, ⟨by simp; exact fun q => hgb q.symm, fun q hq => ?_⟩, fun q hq => ?_⟩
    · simp only [List.mem_cons, List.not_mem_nil, or_false] at hq
      rcases hq with rfl | rfl
      · exact h1
      · exact h4
    · simp only [List.mem_cons, List.not_mem_nil, or_false] at hq
      rcases hq with rfl | rfl
      · exact .inl rfl
      · exact .inr ⟨_, _, rfl⟩
def NoRow (e : Nat) (M : Mem0) : Prop := ∀ p ∈ M, ∀ c fz, p.2 ≠ .cells c e fz
theorem nr_nil {e : Nat} : NoRow e [] := fun p h => by cases h
theorem nr_cons {e b : Nat} {o : Obj} {M : Mem0} (h : ∀ c fz, o ≠ .cells c e fz) (k : NoRow e M) : NoRow e ((b, o) :: M) := fun p hp => by
  rcases List.mem_cons.1 hp with rfl | hp
  · exact h
  · exact k p hp
section
variable {P : Program} {r : Option Nat} {N : Nat} {Q : Exit → Act → World → Prop} {e : Env} {ds : List Nat} {M : Mem0} {S : Nat → Prop} {w0 : World} {G : World → Prop}
variable {ops : Array Oper} {l : List Oper} {op : Op} {ty : TypeId} {pos : String} {after : Array Edge} {d : Nat}
theorem LM.cB {T u b : Nat} {s s' : List UInt8} {m M2 : Mem0} {f : FuncId} {args : Array Value} {v : Value} (hB : Bld T u w0.heap.size b s m) [hM : Spl M m M2] (hG : ∀ w, G w) (hr : NoRow u M2) (hc : ∀ w, OpC P op ty e w f args)
    (h : ∀ w, Lib.IsBuilderF T u w0.heap.size b (Lib.byteCells s) w → w0.heap.size ≤ w.heap.size → Calls P f args w (fun en w' => en = .returned v ∧ (Lib.IsBuilderF T u w0.heap.size b (Lib.byteCells s') w' ∧ Below w0.heap.size w w' ∧ Lib.OthersKept u (some b) w w')))
    (hk : ∀ m', Bld T u w0.heap.size b s' m' → LM P r N ops Q l ((d, v) :: e) ds (m' ++ M2) S w0 G) (hnd : nd op = true := by rfl) (hd : Nat.blt d N = true := by rfl) :
    LM P r N ops Q (⟨some d, op, ty, pos, after, none⟩ :: l) e ds M S w0 G :=
  .call (R := fun w v' w' => v' = v ∧ (Lib.IsBuilderF T u w0.heap.size b (Lib.byteCells s') w' ∧ Below w0.heap.size w w' ∧ Lib.OthersKept u (some b) w w')) hc
    (fun w hm hcg hg => (h w (hB.is (hM.mem hm)) hcg.size).mono (fun en w' ⟨h1, h2⟩ => ⟨v, h1, rfl, h2⟩))
    (fun w v' w' hm hcg hg ⟨hv, hi, hbl, hok⟩ => by
      subst hv
      obtain ⟨m', hB', hm', hrow⟩ := Bld.of hi
      have hmm := hm.perm hM.perm
      have hbm : ∃ q ∈ m, q.1 = b := by
        obtain ⟨_, p, v, _, h3⟩ := hB
        rcases h3 with ⟨_, _, rfl⟩ | ⟨g, cap, cur, fz, _, _, _, rfl, _⟩
        · exact ⟨_, List.mem_singleton.2 rfl, rfl⟩
        · exact ⟨_, List.mem_cons_self .., rfl⟩
      have hnb : ∀ q ∈ M2, q.1 ≠ b := fun q hq hqb => by
        obtain ⟨p, hp, hpb⟩ := hbm
        have hnd := hmm.1
        rw [List.map_append, List.nodup_append] at hnd
        exact hnd.2.2 _ (List.mem_map_of_mem hp) _ (List.mem_map_of_mem hq) (hpb.trans hqb.symm)
      have h2 : ∀ q ∈ M2, w'.heap[q.1]? = some q.2 := fun q hq => hok q.1 q.2 (hmm.2 q (List.mem_append_right _ hq)) (fun he => hnb q hq (Option.some.inj he)) (hr q hq)
      have hnd2 := hmm.1
      rw [List.map_append, List.nodup_append] at hnd2
      have hfin : Mem w' (m' ++ M2) := by
        refine ⟨?_, fun q hq => ?_⟩
        · rw [List.map_append, List.nodup_append]
          refine ⟨hm'.1, hnd2.2.1, ?_⟩
          intro x hx y hy hxy
          obtain ⟨p, hp, rfl⟩ := List.mem_map.1 hx
          obtain ⟨q, hq, rfl⟩ := List.mem_map.1 hy
          rcases hrow p hp with h3 | ⟨cur, fz, h3⟩
          · exact hnb q hq (by rw [← hxy, h3])
          · have h4 := hm'.2 p hp
            rw [hxy, h2 q hq, h3] at h4
            exact hr q hq _ _ (Option.some.inj h4)
        · rcases List.mem_append.1 hq with hq | hq
          · exact hm'.2 q hq
          · exact h2 q hq
      exact hk m' hB' w' hfin ⟨hbl.os.trans hcg.os, hbl.tape.trans hcg.tape, hbl.output.trans hcg.output, Nat.le_trans hcg.size hbl.size, fun k hk1 hk2 => (hbl.block k hk1).trans (hcg.block k hk1 hk2)⟩ (hG w')) hnd hd
end
end Go.Eng
namespace Go.Eng
open Go Go.RowKit
section
variable {P : Program} {r : Option Nat} {N : Nat} {Q : Exit → Act → World → Prop} {e : Env} {ds : List Nat} {M : Mem0} {S : Nat → Prop} {w0 : World} {G : World → Prop}
variable {ops : Array Oper} {l : List Oper} {ty : TypeId} {pos : String} {after : Array Edge} {d : Nat} {x y : Operand} {t : TypeId}
end
end Go.Eng
namespace Go.Eng
open Go Go.RowKit
def fC (c : UInt8) : List Value := [.int .u8 (c.toNat : Nat)]
def Sz (E n0 : Nat) (xs : List UInt8) (v : Value) (m : Mem0) : Prop :=
  ∃ b cap junk fz, n0 ≤ b ∧ v = .slice (some ⟨b, 0, none⟩) xs.length cap ∧ m = [(b, .cells (arr fC xs junk) E fz)] ∧ xs.length ≤ cap ∧ cap ≤ maxLen ∧ xs.length + junk.length = cap ∧ (fz = (0, 0) ∨ cap ≤ fz.1)
theorem Sz.ge {E n0 : Nat} {xs : List UInt8} {v : Value} {m : Mem0} (h : Sz E n0 xs v m) : ∀ p ∈ m, n0 ≤ p.1 := by
  obtain ⟨b, cap, junk, fz, h1, _, rfl, _⟩ := h
  intro p hp; rw [List.mem_singleton] at hp; subst hp; exact h1
section
variable {P : Program} {r : Option Nat} {N : Nat} {Q : Exit → Act → World → Prop} {e : Env} {ds : List Nat} {M : Mem0} {S : Nat → Prop} {w0 : World} {G : World → Prop}
variable {ops : Array Oper} {l : List Oper} {ty : TypeId} {pos : String} {after : Array Edge} {d : Nat} {x y : Operand} {t : TypeId}
end
section
variable {P : Program} {ty : TypeId} {e : Env} {M : Mem0} {x : Operand}
end
end Go.Eng
namespace Go.Eng
open Go Go.RowKit
section
variable {P : Program} {r : Option Nat} {N : Nat} {Q : Exit → Act → World → Prop} {e : Env} {ds : List Nat} {M : Mem0} {S : Nat → Prop} {w0 : World} {G : World → Prop}
variable {ops : Array Oper} {l : List Oper} {op : Op} {ty : TypeId} {pos : String} {after : Array Edge} {d : Nat}
end
end Go.Eng
namespace Go.Eng
open Go Go.RowKit Go.Lib Go.Sort
section
variable {P : Program} {r : Option Nat} {N : Nat} {Q : Exit → Go.Act → World → Prop} {e : Env} {ds : List Nat} {M : Mem0} {S : Nat → Prop} {w0 : World} {G : World → Prop}
variable {ops : Array Oper} {l : List Oper} {ty : TypeId} {pos : String} {after : Array Edge} {d : Nat} {x y : Operand} {t : TypeId}
end
section
variable {P : Program} {r : Option Nat} {N : Nat} {Q : Exit → Go.Act → World → Prop} {e : Env} {ds : List Nat} {M : Mem0} {S : Nat → Prop} {w0 : World} {G : World → Prop}
variable {ops : Array Oper} {l : List Oper} {ty : TypeId} {pos : String} {after : Array Edge} {d : Nat} {t : TypeId}
end
section
variable {P : Program} {r : Option Nat} {N : Nat} {Q : Exit → Go.Act → World → Prop} {e : Env} {ds : List Nat} {M : Mem0} {S : Nat → Prop} {w0 : World} {G : World → Prop}
variable {ops : Array Oper} {l : List (Nat × Nat)} {op : Op} {ty : TypeId} {pos : String} {after : Array Edge} {d i : Nat}
theorem LD.callT [GS G] {gd : Option (Nat × Bool)} {g : FuncId} {args : Array Value} {T : Nat → Value → Mem0 → Prop} (hi : ops[i]? = some ⟨some d, op, ty, pos, after, gd⟩) (hgd : Wtd ops e gd true) (hc : ∀ w, OpC P op ty e w g args) (hmono : ∀ n n' u m, n' ≤ n → T n u m → T n' u m)
    (h : ∀ w, Mem w M → Chg S w0 w → G w → Ret P g args w (fun u w' => Ext w w' ∧ ∃ m, T w.heap.size u m ∧ Mem w' m ∧ ∀ p ∈ m, w.heap.size ≤ p.1))
    (hk : ∀ u m, T w0.heap.size u m → (∀ p ∈ m, w0.heap.size ≤ p.1) → LD P r N ops Q l ((d, u) :: e) ds (M ++ m) S w0 G) (hnd : nd op = true := by rfl) (hd : Nat.blt d N = true := by rfl) :
    LD P r N ops Q ((i, 2) :: l) e ds M S w0 G :=
  .callG hi hgd hc (fun w hm hcg hg => h w hm hcg hg) (fun w u w' hm hcg hg ⟨he, m, hT, hm', hge⟩ => by
    refine ⟨M ++ m, fun w h => h.sub (List.sublist_append_left _ _), ⟨Mem.perm (M := m ++ M) ⟨?_, fun p hp => ?_⟩ List.perm_append_comm, hcg.step he (fun _ _ q => q.elim), GS.ext w w' hg he⟩, hk u m (hmono _ _ u m hcg.size hT) (fun p hp => Nat.le_trans hcg.size (hge p hp))⟩
    · rw [List.map_append]
      refine List.nodup_append.2 ⟨hm'.1, hm.1, ?_⟩
      intro x hx y hy hxy
      obtain ⟨p, hp, rfl⟩ := List.mem_map.1 hx
      obtain ⟨q, hq, rfl⟩ := List.mem_map.1 hy
      have := hge p hp
      have := hm.lt hq
      omega
    · rcases List.mem_append.1 hp with hp | hp
      · exact hm'.2 p hp
      · exact he.get (hm.2 p hp)) hnd hd
end
end Go.Eng
set_option maxRecDepth 100000
namespace Go.Eng
open Go Go.Proofs Go.Shelf
def rn : Ren := ⟨fun | 119 => 185 | 120 => 176 | 129 => 149 | 137 => 29 | 138 => 125 | 143 => 126 | 146 => 61 | 151 => 158 | 152 => 175 | 160 => 94 | 165 => 90 | 166 => 32 | 169 => 33 | 171 => 56 | 172 => 95 | 195 => 153 | 197 => 154 | 205 => 179 | 217 => 60 | 218 => 155 | 219 => 156 | 221 => 93 | 224 => 173 | 225 => 172 | 227 => 129 | 228 => 157 | 231 => 127 | 232 => 128 | 233 => 130 | 234 => 131 | 235 => 132 | 236 => 133 | 240 => 69 | 241 => 119 | 243 => 89 | 244 => 134 | 245 => 135 | 246 => 118 | 247 => 160 | 260 => 171 | 266 => 92 | 267 => 174 | 268 => 124 | 271 => 159 | 276 => 96 | 277 => 147 | 279 => 161 | 280 => 162 | 281 => 163 | 282 => 164 | 283 => 120 | 284 => 121 | 285 => 122 | 286 => 123 | 287 => 177 | 314 => 184 | 316 => 178 | 317 => 148 | 318 => 150 | 319 => 151 | 320 => 152 | 321 => 186 | 322 => 187 | 337 => 170 | 338 => 86 | n => n, fun | 0 => 0 | 2 => 2 | 3 => 3 | 4 => 4 | 5 => 5 | 9 => 9 | 20 => 20 | 21 => 21 | 31 => 119 | 37 => 27 | 46 => 177 | 51 => 204 | 53 => 37 | 70 => 67 | 72 => 69 | 75 => 71 | 76 => 72 | 80 => 74 | 85 => 211 | 105 => 207 | 116 => 187 | 117 => 188 | 119 => 232 | 124 => 191 | 127 => 125 | 138 => 234 | 139 => 235 | 143 => 241 | 145 => 243 | 146 => 236 | 164 => 147 | 167 => 210 | 168 => 213 | 171 => 179 | 173 => 181 | 175 => 223 | 210 => 227 | 212 => 203 | 213 => 205 | 232 => 231 | 233 => 176 | n => n, fun | 1 => 1 | 3 => 6 | 4 => 7 | 15 => 3 | 16 => 4 | 17 => 2 | 18 => 5 | 19 => 0 | n => n⟩
theorem l160 : Lays.n160 Tryd.prog rn where
  mixed := by kernel_rfl
  f119 := Tryd.func185.trans (by kernel_rfl)
  f120 := Tryd.func176.trans (by kernel_rfl)
  f137 := Tryd.func29.trans (by kernel_rfl)
  f151 := Tryd.func158.trans (by kernel_rfl)
  f152 := Tryd.func175.trans (by kernel_rfl)
  f160 := Tryd.func94.trans (by kernel_rfl)
  f197 := Tryd.func154.trans (by kernel_rfl)
  f217 := Tryd.func60.trans (by kernel_rfl)
  f224 := Tryd.func173.trans (by kernel_rfl)
  f225 := Tryd.func172.trans (by kernel_rfl)
  f227 := Tryd.func129.trans (by kernel_rfl)
  f228 := Tryd.func157.trans (by kernel_rfl)
  f231 := Tryd.func127.trans (by kernel_rfl)
  f232 := Tryd.func128.trans (by kernel_rfl)
  f233 := Tryd.func130.trans (by kernel_rfl)
  f234 := Tryd.func131.trans (by kernel_rfl)
  f235 := Tryd.func132.trans (by kernel_rfl)
  f236 := Tryd.func133.trans (by kernel_rfl)
  f260 := Tryd.func171.trans (by kernel_rfl)
  f266 := Tryd.func92.trans (by kernel_rfl)
  f271 := Tryd.func159.trans (by kernel_rfl)
  t0 := Tryd.underlying0
  a0 := Tryd.isAgg0
  z0 := Tryd.sizeOf0
  v0 := Tryd.zeroValue0
  t3 := Tryd.underlying3
  a3 := Tryd.isAgg3
  z3 := Tryd.sizeOf3
  v3 := Tryd.zeroValue3
  t4 := Tryd.underlying4
  a4 := Tryd.isAgg4
  z4 := Tryd.sizeOf4
  v4 := Tryd.zeroValue4
  t5 := Tryd.underlying5
  a5 := Tryd.isAgg5
  z5 := Tryd.sizeOf5
  v5 := Tryd.zeroValue5
  t9 := Tryd.underlying9
  a9 := Tryd.isAgg9
  z9 := Tryd.sizeOf9
  v9 := Tryd.zeroValue9
  t21 := Tryd.underlying21
  a21 := Tryd.isAgg21
  z21 := Tryd.sizeOf21
  v21 := Tryd.zeroValue21
  t46 := Tryd.underlying177
  a46 := Tryd.isAgg177
  z46 := Tryd.sizeOf177
  v46 := Tryd.zeroValue177
  t105 := Tryd.underlying207
  a105 := Tryd.isAgg207
  z105 := Tryd.sizeOf207
  v105 := Tryd.zeroValue207
  t116 := Tryd.underlying187
  a116 := Tryd.isAgg187
  z116 := Tryd.sizeOf187
  t117 := Tryd.underlying188
  a117 := Tryd.isAgg188
  z117 := Tryd.sizeOf188
  v117 := Tryd.zeroValue188
  t119 := Tryd.underlying232
  a119 := Tryd.isAgg232
  z119 := Tryd.sizeOf232
  t124 := Tryd.underlying191
  a124 := Tryd.isAgg191
  z124 := Tryd.sizeOf191
  v124 := Tryd.zeroValue191
  t138 := Tryd.underlying234
  a138 := Tryd.isAgg234
  z138 := Tryd.sizeOf234
  v138 := Tryd.zeroValue234
  t139 := Tryd.underlying235
  a139 := Tryd.isAgg235
  z139 := Tryd.sizeOf235
  v139 := Tryd.zeroValue235
  g3 := by kernel_rfl
  g4 := by kernel_rfl
theorem lm171 : LaysM.n171 Tryd.prog rn where
  mixed := by kernel_rfl
  f129 := Tryd.func149.trans (by kernel_rfl)
  f171 := Tryd.func56.trans (by kernel_rfl)
  f243 := Tryd.func89.trans (by kernel_rfl)
  f246 := Tryd.func118.trans (by kernel_rfl)
  f283 := Tryd.func120.trans (by kernel_rfl)
  f284 := Tryd.func121.trans (by kernel_rfl)
  f285 := Tryd.func122.trans (by kernel_rfl)
  f286 := Tryd.func123.trans (by kernel_rfl)
  f317 := Tryd.func148.trans (by kernel_rfl)
  f318 := Tryd.func150.trans (by kernel_rfl)
  f319 := Tryd.func151.trans (by kernel_rfl)
  f320 := Tryd.func152.trans (by kernel_rfl)
  f337 := Tryd.func170.trans (by kernel_rfl)
  f338 := Tryd.func86.trans (by kernel_rfl)
  t0 := Tryd.underlying0
  a0 := Tryd.isAgg0
  z0 := Tryd.sizeOf0
  v0 := Tryd.zeroValue0
  t2 := Tryd.underlying2
  a2 := Tryd.isAgg2
  z2 := Tryd.sizeOf2
  v2 := Tryd.zeroValue2
  t3 := Tryd.underlying3
  a3 := Tryd.isAgg3
  z3 := Tryd.sizeOf3
  v3 := Tryd.zeroValue3
  t4 := Tryd.underlying4
  a4 := Tryd.isAgg4
  z4 := Tryd.sizeOf4
  v4 := Tryd.zeroValue4
  t5 := Tryd.underlying5
  a5 := Tryd.isAgg5
  z5 := Tryd.sizeOf5
  v5 := Tryd.zeroValue5
  t9 := Tryd.underlying9
  a9 := Tryd.isAgg9
  z9 := Tryd.sizeOf9
  v9 := Tryd.zeroValue9
  t20 := Tryd.underlying20
  a20 := Tryd.isAgg20
  z20 := Tryd.sizeOf20
  v20 := Tryd.zeroValue20
  t37 := Tryd.underlying27
  a37 := Tryd.isAgg27
  z37 := Tryd.sizeOf27
  v37 := Tryd.zeroValue27
  t46 := Tryd.underlying177
  a46 := Tryd.isAgg177
  z46 := Tryd.sizeOf177
  v46 := Tryd.zeroValue177
  t51 := Tryd.underlying204
  a51 := Tryd.isAgg204
  z51 := Tryd.sizeOf204
  v51 := Tryd.zeroValue204
  t53 := Tryd.underlying37
  a53 := Tryd.isAgg37
  z53 := Tryd.sizeOf37
  v53 := Tryd.zeroValue37
  t171 := Tryd.underlying179
  a171 := Tryd.isAgg179
  z171 := Tryd.sizeOf179
  v171 := Tryd.zeroValue179
  t173 := Tryd.underlying181
  a173 := Tryd.isAgg181
  z173 := Tryd.sizeOf181
  v173 := Tryd.zeroValue181
  t212 := Tryd.underlying203
  a212 := Tryd.isAgg203
  z212 := Tryd.sizeOf203
  v212 := Tryd.zeroValue203
  t213 := Tryd.underlying205
  a213 := Tryd.isAgg205
  z213 := Tryd.sizeOf205
  t232 := Tryd.underlying231
  a232 := Tryd.isAgg231
  z232 := Tryd.sizeOf231
  v232 := Tryd.zeroValue231
  t233 := Tryd.underlying176
  a233 := Tryd.isAgg176
  z233 := Tryd.sizeOf176
  v233 := Tryd.zeroValue176
  g17 := by kernel_rfl
  g18 := by kernel_rfl
  g19 := by kernel_rfl
  i0 := by kernel_rfl
  i2 := by kernel_rfl
  i3 := by kernel_rfl
  i4 := by kernel_rfl
  i5 := by kernel_rfl
  i9 := by kernel_rfl
  i20 := by kernel_rfl
  i37 := by kernel_rfl
  i46 := by kernel_rfl
  i51 := by kernel_rfl
  i53 := by kernel_rfl
  i171 := by kernel_rfl
  i173 := by kernel_rfl
  i212 := by kernel_rfl
  i232 := by kernel_rfl
  i233 := by kernel_rfl
  m17 := by kernel_rfl
  m18 := by kernel_rfl
  m19 := by kernel_rfl
theorem l166 : Lays.n166 Tryd.prog rn where
  mixed := by kernel_rfl
  f166 := Tryd.func32.trans (by kernel_rfl)
  f240 := Tryd.func69.trans (by kernel_rfl)
  f276 := Tryd.func96.trans (by kernel_rfl)
  t0 := Tryd.underlying0
  a0 := Tryd.isAgg0
  z0 := Tryd.sizeOf0
  v0 := Tryd.zeroValue0
  t3 := Tryd.underlying3
  a3 := Tryd.isAgg3
  z3 := Tryd.sizeOf3
  v3 := Tryd.zeroValue3
  t4 := Tryd.underlying4
  a4 := Tryd.isAgg4
  z4 := Tryd.sizeOf4
  v4 := Tryd.zeroValue4
  t9 := Tryd.underlying9
  a9 := Tryd.isAgg9
  z9 := Tryd.sizeOf9
  v9 := Tryd.zeroValue9
  t20 := Tryd.underlying20
  a20 := Tryd.isAgg20
  z20 := Tryd.sizeOf20
  v20 := Tryd.zeroValue20
  t37 := Tryd.underlying27
  a37 := Tryd.isAgg27
  z37 := Tryd.sizeOf27
  v37 := Tryd.zeroValue27
  t70 := Tryd.underlying67
  a70 := Tryd.isAgg67
  z70 := Tryd.sizeOf67
  v70 := Tryd.zeroValue67
  t72 := Tryd.underlying69
  a72 := Tryd.isAgg69
  z72 := Tryd.sizeOf69
  v72 := Tryd.zeroValue69
  t75 := Tryd.underlying71
  a75 := Tryd.isAgg71
  z75 := Tryd.sizeOf71
  v75 := Tryd.zeroValue71
  t164 := Tryd.underlying147
  a164 := Tryd.isAgg147
  z164 := Tryd.sizeOf147
  v164 := Tryd.zeroValue147
theorem l169 : Lays.n169 Tryd.prog rn where
  mixed := by kernel_rfl
  f169 := Tryd.func33.trans (by kernel_rfl)
  t0 := Tryd.underlying0
  a0 := Tryd.isAgg0
  z0 := Tryd.sizeOf0
  v0 := Tryd.zeroValue0
  t3 := Tryd.underlying3
  a3 := Tryd.isAgg3
  z3 := Tryd.sizeOf3
  v3 := Tryd.zeroValue3
  t9 := Tryd.underlying9
  a9 := Tryd.isAgg9
  z9 := Tryd.sizeOf9
  v9 := Tryd.zeroValue9
  t37 := Tryd.underlying27
  a37 := Tryd.isAgg27
  z37 := Tryd.sizeOf27
  v37 := Tryd.zeroValue27
  t70 := Tryd.underlying67
  a70 := Tryd.isAgg67
  z70 := Tryd.sizeOf67
  v70 := Tryd.zeroValue67
  t72 := Tryd.underlying69
  a72 := Tryd.isAgg69
  z72 := Tryd.sizeOf69
  v72 := Tryd.zeroValue69
  t127 := Tryd.underlying125
  a127 := Tryd.isAgg125
  z127 := Tryd.sizeOf125
  v127 := Tryd.zeroValue125
theorem l137 : Lays.n137 Tryd.prog rn where
  mixed := by kernel_rfl
  f137 := Tryd.func29.trans (by kernel_rfl)
  f217 := Tryd.func60.trans (by kernel_rfl)
  f266 := Tryd.func92.trans (by kernel_rfl)
  t3 := Tryd.underlying3
  a3 := Tryd.isAgg3
  z3 := Tryd.sizeOf3
  v3 := Tryd.zeroValue3
  t5 := Tryd.underlying5
  a5 := Tryd.isAgg5
  z5 := Tryd.sizeOf5
  v5 := Tryd.zeroValue5
  t9 := Tryd.underlying9
  a9 := Tryd.isAgg9
  z9 := Tryd.sizeOf9
  v9 := Tryd.zeroValue9
theorem l172 : Lays.n172 Tryd.prog rn where
  mixed := by kernel_rfl
  f129 := Tryd.func149.trans (by kernel_rfl)
  f171 := Tryd.func56.trans (by kernel_rfl)
  f172 := Tryd.func95.trans (by kernel_rfl)
  f205 := Tryd.func179.trans (by kernel_rfl)
  f243 := Tryd.func89.trans (by kernel_rfl)
  f244 := Tryd.func134.trans (by kernel_rfl)
  f245 := Tryd.func135.trans (by kernel_rfl)
  f246 := Tryd.func118.trans (by kernel_rfl)
  f247 := Tryd.func160.trans (by kernel_rfl)
  f279 := Tryd.func161.trans (by kernel_rfl)
  f280 := Tryd.func162.trans (by kernel_rfl)
  f281 := Tryd.func163.trans (by kernel_rfl)
  f282 := Tryd.func164.trans (by kernel_rfl)
  f283 := Tryd.func120.trans (by kernel_rfl)
  f284 := Tryd.func121.trans (by kernel_rfl)
  f285 := Tryd.func122.trans (by kernel_rfl)
  f286 := Tryd.func123.trans (by kernel_rfl)
  f287 := Tryd.func177.trans (by kernel_rfl)
  f316 := Tryd.func178.trans (by kernel_rfl)
  f317 := Tryd.func148.trans (by kernel_rfl)
  f318 := Tryd.func150.trans (by kernel_rfl)
  f319 := Tryd.func151.trans (by kernel_rfl)
  f320 := Tryd.func152.trans (by kernel_rfl)
  f321 := Tryd.func186.trans (by kernel_rfl)
  f322 := Tryd.func187.trans (by kernel_rfl)
  f337 := Tryd.func170.trans (by kernel_rfl)
  f338 := Tryd.func86.trans (by kernel_rfl)
  t0 := Tryd.underlying0
  a0 := Tryd.isAgg0
  z0 := Tryd.sizeOf0
  v0 := Tryd.zeroValue0
  t2 := Tryd.underlying2
  a2 := Tryd.isAgg2
  z2 := Tryd.sizeOf2
  v2 := Tryd.zeroValue2
  t3 := Tryd.underlying3
  a3 := Tryd.isAgg3
  z3 := Tryd.sizeOf3
  v3 := Tryd.zeroValue3
  t4 := Tryd.underlying4
  a4 := Tryd.isAgg4
  z4 := Tryd.sizeOf4
  v4 := Tryd.zeroValue4
  t5 := Tryd.underlying5
  a5 := Tryd.isAgg5
  z5 := Tryd.sizeOf5
  v5 := Tryd.zeroValue5
  t9 := Tryd.underlying9
  a9 := Tryd.isAgg9
  z9 := Tryd.sizeOf9
  v9 := Tryd.zeroValue9
  t20 := Tryd.underlying20
  a20 := Tryd.isAgg20
  z20 := Tryd.sizeOf20
  v20 := Tryd.zeroValue20
  t21 := Tryd.underlying21
  a21 := Tryd.isAgg21
  z21 := Tryd.sizeOf21
  v21 := Tryd.zeroValue21
  t37 := Tryd.underlying27
  a37 := Tryd.isAgg27
  z37 := Tryd.sizeOf27
  v37 := Tryd.zeroValue27
  t46 := Tryd.underlying177
  a46 := Tryd.isAgg177
  z46 := Tryd.sizeOf177
  v46 := Tryd.zeroValue177
  t51 := Tryd.underlying204
  a51 := Tryd.isAgg204
  z51 := Tryd.sizeOf204
  v51 := Tryd.zeroValue204
  t53 := Tryd.underlying37
  a53 := Tryd.isAgg37
  z53 := Tryd.sizeOf37
  v53 := Tryd.zeroValue37
  t75 := Tryd.underlying71
  a75 := Tryd.isAgg71
  z75 := Tryd.sizeOf71
  v75 := Tryd.zeroValue71
  t76 := Tryd.underlying72
  a76 := Tryd.isAgg72
  z76 := Tryd.sizeOf72
  v76 := Tryd.zeroValue72
  t85 := Tryd.underlying211
  a85 := Tryd.isAgg211
  z85 := Tryd.sizeOf211
  v85 := Tryd.zeroValue211
  t127 := Tryd.underlying125
  a127 := Tryd.isAgg125
  z127 := Tryd.sizeOf125
  v127 := Tryd.zeroValue125
  t143 := Tryd.underlying241
  a143 := Tryd.isAgg241
  z143 := Tryd.sizeOf241
  v143 := Tryd.zeroValue241
  t145 := Tryd.underlying243
  a145 := Tryd.isAgg243
  z145 := Tryd.sizeOf243
  v145 := Tryd.zeroValue243
  t167 := Tryd.underlying210
  a167 := Tryd.isAgg210
  z167 := Tryd.sizeOf210
  v167 := Tryd.zeroValue210
  t168 := Tryd.underlying213
  a168 := Tryd.isAgg213
  z168 := Tryd.sizeOf213
  v168 := Tryd.zeroValue213
  t171 := Tryd.underlying179
  a171 := Tryd.isAgg179
  z171 := Tryd.sizeOf179
  v171 := Tryd.zeroValue179
  t173 := Tryd.underlying181
  a173 := Tryd.isAgg181
  z173 := Tryd.sizeOf181
  v173 := Tryd.zeroValue181
  t175 := Tryd.underlying223
  a175 := Tryd.isAgg223
  z175 := Tryd.sizeOf223
  v175 := Tryd.zeroValue223
  t210 := Tryd.underlying227
  a210 := Tryd.isAgg227
  z210 := Tryd.sizeOf227
  v210 := Tryd.zeroValue227
  t212 := Tryd.underlying203
  a212 := Tryd.isAgg203
  z212 := Tryd.sizeOf203
  v212 := Tryd.zeroValue203
  t213 := Tryd.underlying205
  a213 := Tryd.isAgg205
  z213 := Tryd.sizeOf205
  t232 := Tryd.underlying231
  a232 := Tryd.isAgg231
  z232 := Tryd.sizeOf231
  v232 := Tryd.zeroValue231
  t233 := Tryd.underlying176
  a233 := Tryd.isAgg176
  z233 := Tryd.sizeOf176
  v233 := Tryd.zeroValue176
  g15 := by kernel_rfl
  g16 := by kernel_rfl
  g17 := by kernel_rfl
  g18 := by kernel_rfl
  g19 := by kernel_rfl
theorem l146 : Lays.n146 Tryd.prog rn where
  mixed := by kernel_rfl
  f138 := Tryd.func125.trans (by kernel_rfl)
  f143 := Tryd.func126.trans (by kernel_rfl)
  f146 := Tryd.func61.trans (by kernel_rfl)
  f195 := Tryd.func153.trans (by kernel_rfl)
  f197 := Tryd.func154.trans (by kernel_rfl)
  f217 := Tryd.func60.trans (by kernel_rfl)
  f218 := Tryd.func155.trans (by kernel_rfl)
  f219 := Tryd.func156.trans (by kernel_rfl)
  f221 := Tryd.func93.trans (by kernel_rfl)
  f224 := Tryd.func173.trans (by kernel_rfl)
  f225 := Tryd.func172.trans (by kernel_rfl)
  f260 := Tryd.func171.trans (by kernel_rfl)
  f266 := Tryd.func92.trans (by kernel_rfl)
  f267 := Tryd.func174.trans (by kernel_rfl)
  f268 := Tryd.func124.trans (by kernel_rfl)
  f314 := Tryd.func184.trans (by kernel_rfl)
  t0 := Tryd.underlying0
  a0 := Tryd.isAgg0
  z0 := Tryd.sizeOf0
  v0 := Tryd.zeroValue0
  t3 := Tryd.underlying3
  a3 := Tryd.isAgg3
  z3 := Tryd.sizeOf3
  v3 := Tryd.zeroValue3
  t4 := Tryd.underlying4
  a4 := Tryd.isAgg4
  z4 := Tryd.sizeOf4
  v4 := Tryd.zeroValue4
  t5 := Tryd.underlying5
  a5 := Tryd.isAgg5
  z5 := Tryd.sizeOf5
  v5 := Tryd.zeroValue5
  t9 := Tryd.underlying9
  a9 := Tryd.isAgg9
  z9 := Tryd.sizeOf9
  v9 := Tryd.zeroValue9
  t21 := Tryd.underlying21
  a21 := Tryd.isAgg21
  z21 := Tryd.sizeOf21
  v21 := Tryd.zeroValue21
  t31 := Tryd.underlying119
  a31 := Tryd.isAgg119
  z31 := Tryd.sizeOf119
  v31 := Tryd.zeroValue119
  t46 := Tryd.underlying177
  a46 := Tryd.isAgg177
  z46 := Tryd.sizeOf177
  v46 := Tryd.zeroValue177
  t51 := Tryd.underlying204
  a51 := Tryd.isAgg204
  z51 := Tryd.sizeOf204
  v51 := Tryd.zeroValue204
  t105 := Tryd.underlying207
  a105 := Tryd.isAgg207
  z105 := Tryd.sizeOf207
  v105 := Tryd.zeroValue207
  t119 := Tryd.underlying232
  a119 := Tryd.isAgg232
  z119 := Tryd.sizeOf232
  t138 := Tryd.underlying234
  a138 := Tryd.isAgg234
  z138 := Tryd.sizeOf234
  v138 := Tryd.zeroValue234
  t139 := Tryd.underlying235
  a139 := Tryd.isAgg235
  z139 := Tryd.sizeOf235
  v139 := Tryd.zeroValue235
  t146 := Tryd.underlying236
  a146 := Tryd.isAgg236
  z146 := Tryd.sizeOf236
  v146 := Tryd.zeroValue236
  g1 := by kernel_rfl
  g3 := by kernel_rfl
  g4 := by kernel_rfl
theorem l165 : Lays.n165 Tryd.prog rn where
  mixed := by kernel_rfl
  f165 := Tryd.func90.trans (by kernel_rfl)
  f240 := Tryd.func69.trans (by kernel_rfl)
  f241 := Tryd.func119.trans (by kernel_rfl)
  f276 := Tryd.func96.trans (by kernel_rfl)
  f277 := Tryd.func147.trans (by kernel_rfl)
  t0 := Tryd.underlying0
  a0 := Tryd.isAgg0
  z0 := Tryd.sizeOf0
  v0 := Tryd.zeroValue0
  t3 := Tryd.underlying3
  a3 := Tryd.isAgg3
  z3 := Tryd.sizeOf3
  v3 := Tryd.zeroValue3
  t4 := Tryd.underlying4
  a4 := Tryd.isAgg4
  z4 := Tryd.sizeOf4
  v4 := Tryd.zeroValue4
  t9 := Tryd.underlying9
  a9 := Tryd.isAgg9
  z9 := Tryd.sizeOf9
  v9 := Tryd.zeroValue9
  t20 := Tryd.underlying20
  a20 := Tryd.isAgg20
  z20 := Tryd.sizeOf20
  v20 := Tryd.zeroValue20
  t37 := Tryd.underlying27
  a37 := Tryd.isAgg27
  z37 := Tryd.sizeOf27
  v37 := Tryd.zeroValue27
  t70 := Tryd.underlying67
  a70 := Tryd.isAgg67
  z70 := Tryd.sizeOf67
  v70 := Tryd.zeroValue67
  t72 := Tryd.underlying69
  a72 := Tryd.isAgg69
  z72 := Tryd.sizeOf69
  v72 := Tryd.zeroValue69
  t164 := Tryd.underlying147
  a164 := Tryd.isAgg147
  z164 := Tryd.sizeOf147
  v164 := Tryd.zeroValue147
theorem bx : Builder.Extra Tryd.prog rn where
  sizeBuilder := by kernel_rfl
  liesBuilder := by kernel_rfl
  t5 := Tryd.underlying5
  a5 := Tryd.isAgg5
  z5 := Tryd.sizeOf5
  v5 := Tryd.zeroValue5
  infoByte := by kernel_rfl
  cellsByte := by kernel_rfl
  sizeByte := by kernel_rfl
  neB5 := by decide
theorem l160set : (Tryd.prog.info? (rn.t 116)).map (fun i => (i.zero, i.size)) = some (some (.agg (Array.replicate 256 (.bool false))), 256) := by kernel_rfl
end Go.Eng
namespace Go.Eng
open Go Go.RowKit
structure Wrd where
  k : Int
  t : List UInt8
  n : Int
  p : Int
deriving DecidableEq
instance : Inhabited Wrd := ⟨⟨0, [], 0, 0⟩⟩
def fW (w : Wrd) : List Value := [.int .i64 w.k, .string (bs w.t), .int .i64 w.n, .int .i64 w.p]
def digN (n : Int) : Bool := decide (48 ≤ n) && decide (n ≤ 57)
def digB (c : UInt8) : Bool := digN (c.toNat : Nat)
def runL (p : UInt8 → Bool) (s : List UInt8) (i : Nat) : Nat := ((s.drop i).takeWhile p).length
def numF : Nat → List UInt8 → Int → Int
  | 0, _, n => n
  | _ + 1, [], n => n
  | k + 1, c :: l, n => if digB c then numF k l (n * 10 + ((c.toNat : Nat) : Int) - 48) else n
end Go.Eng
namespace Go.Eng
open Go Go.RowKit
structure COp where
  k : Int
  a : Int
  b : Int
structure CLk where
  sh : Bool
  sl : Int
  cr : Int
  rd : Int
  wr : Int
instance : Inhabited COp := ⟨⟨0, 0, 0⟩⟩
instance : Inhabited CLk := ⟨⟨false, 0, 0, 0, 0⟩⟩
def fO (o : COp) : List Value := [.int .i64 o.k, .int .i64 o.a, .int .i64 o.b]
def fL (x : CLk) : List Value := [.bool x.sh, .int .i64 x.sl, .int .i64 x.cr, .int .i64 x.rd, .int .i64 x.wr]
/-! the first that is such -/
def fixI {α : Type} (p : α → Bool) (xs : List α) : Int := if xs.any p then (xs.findIdx p : Nat) else -1
theorem any_snoc {α : Type} {p : α → Bool} {xs : List α} {i : Nat} (d : α) (h : i < xs.length) : (xs.take (i + 1)).any p = ((xs.take i).any p || p (xs.getD i d)) := by
  rw [take_snoc d h, List.any_append]; simp
theorem fix_hit {α : Type} {p : α → Bool} {xs : List α} {i : Nat} (d : α) (h0 : (xs.take i).any p = false) (h : i < xs.length) (hp : p (xs.getD i d) = true) : fixI p xs = (i : Nat) := by
  have e := getq d h
  have h1 : xs.any p = true := List.any_eq_true.2 ⟨_, List.mem_of_getElem? e, hp⟩
  have h2 : xs.findIdx p = i := by
    rw [List.findIdx_eq h]
    refine ⟨by rw [List.getElem?_eq_getElem h] at e; rw [Option.some.inj e]; exact hp, fun j hj => ?_⟩
    have h3 := List.any_eq_false.1 h0 xs[j] (by rw [List.mem_take_iff_getElem]; exact ⟨j, by omega, rfl⟩)
    simpa using h3
  unfold fixI; rw [if_pos h1, h2]
theorem fix_miss {α : Type} {p : α → Bool} {xs : List α} (h : xs.any p = false) : fixI p xs = -1 := by
  unfold fixI; rw [h]; rfl
/-! ops -/
def takesB (k : Int) : Bool := decide (2 ≤ k) && decide (k ≤ 5)
def passB (k : Int) : Bool := decide (k = 1) || decide (k = 7) || decide (k = 8) || decide (k = 11)
def loA (k : Int) : Int := if k = 1 then 1 else if k = 2 ∨ k = 3 ∨ k = 4 ∨ k = 6 ∨ k = 9 then 0 else if k = 5 then 0 else if k = 7 then 1 else if k = 10 then 1 else -1
def hiA (k : Int) : Int := if k = 1 then 16 else if k = 2 ∨ k = 3 ∨ k = 4 ∨ k = 6 ∨ k = 9 then 7 else if k = 5 then 7 else if k = 7 then 64 else if k = 10 then 16 else -1
def loB (k : Int) : Int := if k = 5 then 1 else -1
def hiB (k : Int) : Int := if k = 5 then 64 else -1
def hasB (lo hi n : Int) : Bool := if lo = -1 then decide (n = 0) else decide (lo ≤ n) && decide (n ≤ hi)
def kindB (k : Int) : Bool := decide (1 ≤ k) && decide (k ≤ 11)
def rightB (o : COp) : Bool := kindB o.k && hasB (loA o.k) (hiA o.k) o.a && hasB (loB o.k) (hiB o.k) o.b
/-! names -/
/-! sections: the steps to the end, and the ticks -/
def stopB (lock : Int) (o : COp) : Bool := decide (o.k = 11) || (decide (o.k = 6) && decide (o.a = lock))
def secT (lock : Int) : List COp → Nat × Int
  | [] => (0, 0)
  | o :: l => if stopB lock o then (0, 0) else ((secT lock l).1 + 1, (if o.k = 1 then o.a else 0) + (secT lock l).2)
theorem sec_step {lock : Int} {xs : List COp} {i : Nat} (h : i < xs.length) (hs : stopB lock (xs.getD i default) = false) :
    secT lock (xs.drop i) = ((secT lock (xs.drop (i + 1))).1 + 1, (if (xs.getD i default).k = 1 then (xs.getD i default).a else 0) + (secT lock (xs.drop (i + 1))).2) := by
  have e := getq (default : COp) h
  rw [List.getElem?_eq_getElem h] at e
  rw [List.drop_eq_getElem_cons h, Option.some.inj e]
  rw [secT, if_neg (by rw [hs]; simp)]
def smallO (xs : List COp) : Prop := xs.length ≤ 20 ∧ ∀ o ∈ xs, -1125899906842624 ≤ o.a ∧ o.a ≤ 1125899906842624
theorem smallO.at {xs : List COp} (h : smallO xs) (i : Nat) : -1125899906842624 ≤ (xs.getD i default).a ∧ (xs.getD i default).a ≤ 1125899906842624 := by
  by_cases hi : i < xs.length
  · exact h.2 _ (List.mem_of_getElem? (getq default hi))
  · rw [List.getD_eq_getElem?_getD, List.getElem?_eq_none (by omega)]; decide
/-! which ops fit -/
def secO (xs : List COp) (i : Nat) : Nat × Int := secT (xs.getD i default).a (xs.drop (i + 1))
def fitsO (fv : Bool) (xs : List COp) (ls : List CLk) (progs : Int) (i : Nat) : Int :=
  if (takesB (xs.getD i default).k || decide ((xs.getD i default).k = 6)) && decide ((xs.getD i default).a ≥ ls.length) || decide ((xs.getD i default).k = 9) && decide ((xs.getD i default).a ≥ progs) then 4
  else if decide ((xs.getD i default).k = 3) && !(ls.getD (xs.getD i default).a.toNat default).sh then 1
  else if !takesB (xs.getD i default).k then 0
  else if decide ((secO xs i).2 < 1) || decide ((secO xs i).2 > (ls.getD (xs.getD i default).a.toNat default).cr) || fv && decide (((i + 1 + (secO xs i).1 : Nat) : Int) = xs.length) then 13 else 0
def mayB (xs : List COp) : Bool := decide (0 < xs.length) && decide (xs.length ≤ 12) && xs.all rightB
def ckO (fv : Bool) (xs : List COp) (ls : List CLk) (progs : Int) : Int × Int :=
  if mayB xs then
    match (List.range xs.length).find? (fun j => decide (fitsO fv xs ls progs j ≠ 0)) with
    | some j => ((j : Int), fitsO fv xs ls progs j)
    | none => if fv && !xs.any (fun o => passB o.k) then (0, 1) else (0, 0)
  else (0, 1)
/-! more ticks, more locks, more programs -/
def mx0 (c : Int) : Int := if 0 > c then 0 else c
/-! ### What is gone over -/
def filP (T : Nat → Bool) (n : Nat) : List Nat := (List.range n).filter T
def filN (T : Nat → Bool) (i : Nat) : Nat := ((List.range i).filter T).length
theorem filP_mem {T : Nat → Bool} {n i : Nat} : i ∈ filP T n ↔ i < n ∧ T i = true := by simp [filP]
theorem filP_sorted (T : Nat → Bool) (n : Nat) : (filP T n).Pairwise (· < ·) := List.Pairwise.filter _ List.pairwise_lt_range
theorem filP_take (T : Nat → Bool) (n i : Nat) (h : i ≤ n) : (filP T n).take (filN T i) = filP T i := by
  have : filP T n = filP T i ++ ((List.range' i (n - i)).filter T) := by
    unfold filP
    rw [← List.filter_append]
    congr 1
    rw [List.range_eq_range', List.range_eq_range', show n = i + (n - i) by omega]
    have := List.range'_append (s := 0) (m := i) (n := n - i) (step := 1)
    simp at this ⊢
    rw [← this]
  rw [this]; exact List.take_left
theorem filP_succ (T : Nat → Bool) (i : Nat) : filP T (i + 1) = filP T i ++ (if T i = true then [i] else []) := by
  unfold filP; rw [List.range_succ, List.filter_append]; congr 1; simp only [List.filter_cons, List.filter_nil]
theorem filN_succ (T : Nat → Bool) (i : Nat) : filN T (i + 1) = filN T i + (if T i = true then 1 else 0) := by
  have := congrArg List.length (filP_succ T i)
  rw [List.length_append] at this
  exact this.trans (by congr 1; split <;> rfl)
theorem filN_len (T : Nat → Bool) (n : Nat) : filN T n = (filP T n).length := rfl
theorem fil_get {T : Nat → Bool} {n i : Nat} (h : i < n) (ho : T i = true) : (filP T n)[filN T i]? = some i := by
  have h1 := filP_take T n (i + 1) (by omega)
  have h3 : ((filP T n).take (filN T (i + 1)))[filN T i]? = some i := by
    rw [h1, filP_succ, if_pos ho, filN_len, List.getElem?_append_right (Nat.le_refl _)]; simp
  rw [List.getElem?_take] at h3
  split at h3
  · exact h3
  · cases h3
theorem fil_inv {T : Nat → Bool} {n k p : Nat} (h : (filP T n)[k]? = some p) : p < n ∧ T p = true ∧ filN T p = k := by
  obtain ⟨h1, h2⟩ := filP_mem.1 (List.mem_of_getElem? h)
  refine ⟨h1, h2, ?_⟩
  have h3 := fil_get h1 h2
  obtain ⟨a1, a2⟩ := List.getElem?_eq_some_iff.1 h
  obtain ⟨b1, b2⟩ := List.getElem?_eq_some_iff.1 h3
  rcases Nat.lt_trichotomy (filN T p) k with hlt | heq | hgt
  · have := List.pairwise_iff_getElem.1 (filP_sorted T n) _ _ b1 a1 hlt; omega
  · exact heq
  · have := List.pairwise_iff_getElem.1 (filP_sorted T n) _ _ a1 b1 hgt; omega
end Go.Eng
namespace Go.Eng
open Go Go.RowKit
def fB (l : List UInt8) : List Value := [.string (bs l)]
def nmW : List (List UInt8) := [[], [99, 111, 109, 112, 117, 116, 101], [108, 111, 99, 107], [114, 101, 97, 100], [116, 114, 121], [116, 105, 109, 101, 100], [117, 110, 108, 111, 99, 107], [115, 108, 101, 101, 112], [121, 105, 101, 108, 100], [115, 112, 97, 119, 110], [119, 101, 105, 103, 104, 116], [101, 120, 105, 116]]
abbrev wProg : List UInt8 := [112, 114, 111, 103]
abbrev wForever : List UInt8 := [102, 111, 114, 101, 118, 101, 114]
def isR (ws : List Wrd) (i : Nat) (k : Int) (t : List UInt8) : Bool := decide (i < ws.length) && decide ((ws.getD i default).k = k) && decide ((ws.getD i default).t = t)
def kindT (t : List UInt8) : Int := mx0 (fixI (fun y => decide (t = y)) nmW)
def kindR (ws : List Wrd) (i : Nat) : Int := if (decide (i < ws.length) && decide ((ws.getD i default).k = 1)) then kindT (ws.getD i default).t else 0
theorem kindR_lt {ws : List Wrd} {i : Nat} (h : kindR ws i ≠ 0) : i < ws.length := by
  unfold kindR at h; split at h
  · rename_i q; simp only [Bool.and_eq_true, decide_eq_true_eq] at q; exact q.1
  · exact absurd rfl h
def numR (ws : List Wrd) (i : Nat) (lo hi : Int) : Nat × Int × Int :=
  if lo = -1 then (i, 0, 0)
  else if (decide (ws.length ≤ i) || decide ((ws.getD i default).k ≠ 2)) then (i, 5, 0)
  else if hasB lo hi (ws.getD i default).n then (i + 1, 0, (ws.getD i default).n) else (i, 1, 0)
theorem numR_le {ws : List Wrd} {i : Nat} {lo hi : Int} (h : i ≤ ws.length) : i ≤ (numR ws i lo hi).1 ∧ (numR ws i lo hi).1 ≤ ws.length := by
  unfold numR; split
  · exact ⟨Nat.le_refl _, h⟩
  split
  · exact ⟨Nat.le_refl _, h⟩
  rename_i q
  simp only [Bool.or_eq_true, decide_eq_true_eq, not_or] at q
  split
  · simp only; omega
  · exact ⟨Nat.le_refl _, h⟩
def num2 (ws : List Wrd) (a : Nat × Int × Int) (lo hi : Int) : Nat × Int × Int := if a.2.1 ≠ 0 then (a.1, a.2.1, 0) else numR ws a.1 lo hi
def opA (ws : List Wrd) (i : Nat) : Nat × Int × Int := numR ws (i + 1) (loA (kindR ws i)) (hiA (kindR ws i))
def opB (ws : List Wrd) (i : Nat) : Nat × Int × Int := num2 ws (opA ws i) (loB (kindR ws i)) (hiB (kindR ws i))
def opR (ws : List Wrd) (i ahead : Nat) : Nat × Int × COp :=
  if kindR ws i = 0 then (i, 5, ⟨0, 0, 0⟩)
  else if 12 ≤ ahead then (i, 6, ⟨0, 0, 0⟩)
  else if (opB ws i).2.1 ≠ 0 then ((opB ws i).1, (opB ws i).2.1, ⟨kindR ws i, (opA ws i).2.2, (opB ws i).2.2⟩)
  else if isR ws (opB ws i).1 3 [59] then ((opB ws i).1 + 1, 0, ⟨kindR ws i, (opA ws i).2.2, (opB ws i).2.2⟩)
  else ((opB ws i).1, 5, ⟨kindR ws i, (opA ws i).2.2, (opB ws i).2.2⟩)
theorem opB_le {ws : List Wrd} {i : Nat} (h : kindR ws i ≠ 0) : i < (opB ws i).1 ∧ (opB ws i).1 ≤ ws.length := by
  have h1 := kindR_lt h
  have h2 := numR_le (ws := ws) (i := i + 1) (lo := loA (kindR ws i)) (hi := hiA (kindR ws i)) h1
  unfold opB num2
  split
  · unfold opA; simp only; omega
  · have h3 := numR_le (ws := ws) (i := (opA ws i).1) (lo := loB (kindR ws i)) (hi := hiB (kindR ws i)) h2.2
    unfold opA at h3 ⊢; omega
theorem isR_lt {ws : List Wrd} {i : Nat} {k : Int} {t : List UInt8} (h : isR ws i k t = true) : i < ws.length := by
  unfold isR at h; simp only [Bool.and_eq_true, decide_eq_true_eq] at h; exact h.1.1
theorem opR_lt {ws : List Wrd} {i ahead : Nat} (h : (opR ws i ahead).2.1 = 0) : i < (opR ws i ahead).1 ∧ (opR ws i ahead).1 ≤ ws.length := by
  unfold opR at h ⊢
  split at h
  · cases h
  rename_i h1
  rw [if_neg h1]
  split at h
  · cases h
  rename_i h2
  rw [if_neg h2]
  split at h
  · rename_i h3; exact absurd h h3
  rename_i h3
  rw [if_neg h3]
  split at h
  · rename_i h4
    rw [if_pos h4]
    have := opB_le h1; have := isR_lt h4
    simp only; omega
  · cases h
def loopP : Nat → List Wrd → Nat → List COp → List COp × Int × Int
  | 0, _, i, _ => ([], (i : Nat), 5)
  | f + 1, ws, i, ops =>
    if isR ws i 3 [125] then (if ops.length = 0 then ([], (i : Nat), 4) else (ops, ((i + 1 : Nat) : Int), 0))
    else if (opR ws i ops.length).2.1 ≠ 0 then ([], ((opR ws i ops.length).1 : Nat), (opR ws i ops.length).2.1)
    else loopP f ws (opR ws i ops.length).1 (ops ++ [(opR ws i ops.length).2.2])
theorem loopP_fuel (ws : List Wrd) : ∀ (f g i : Nat) (ops : List COp), ws.length - i + 1 ≤ f → ws.length - i + 1 ≤ g → loopP f ws i ops = loopP g ws i ops
  | 0, _, i, _, h, _ => absurd h (by omega)
  | _ + 1, 0, i, _, _, h => absurd h (by omega)
  | f + 1, g + 1, i, ops, h1, h2 => by
    simp only [loopP]
    split
    · rfl
    split
    · rfl
    · rename_i h3 h4
      have := opR_lt (Classical.not_not.1 h4)
      exact loopP_fuel ws f g _ _ (by omega) (by omega)
def loopR (ws : List Wrd) (i : Nat) (ops : List COp) : List COp × Int × Int := loopP (ws.length - i + 1) ws i ops
theorem loopR_bad {ws : List Wrd} {i : Nat} {ops : List COp} (h : isR ws i 3 [125] = false) (h2 : (opR ws i ops.length).2.1 ≠ 0) : loopR ws i ops = ([], ((opR ws i ops.length).1 : Int), (opR ws i ops.length).2.1) := by
  unfold loopR; rw [loopP, if_neg (by rw [h]; simp), if_pos h2]
theorem loopR_next {ws : List Wrd} {i : Nat} {ops : List COp} (h : isR ws i 3 [125] = false) (h2 : (opR ws i ops.length).2.1 = 0) : loopR ws i ops = loopR ws (opR ws i ops.length).1 (ops ++ [(opR ws i ops.length).2.2]) := by
  have h3 := opR_lt h2
  unfold loopR; rw [loopP, if_neg (by rw [h]; simp), if_neg (by rw [h2]; simp)]
  exact loopP_fuel ws _ _ _ _ (by omega) (by omega)
def headR (ws : List Wrd) (i : Nat) : Bool × Nat := (isR ws (i + 1) 1 wForever, if isR ws (i + 1) 1 wForever then i + 2 else i + 1)
def bodyR (ws : List Wrd) (i : Nat) : List COp × Int × Int :=
  if isR ws i 1 wProg then (if isR ws (headR ws i).2 3 [123] then loopR ws ((headR ws i).2 + 1) [] else ([], ((headR ws i).2 : Int), 5)) else ([], (i : Int), 5)
def parseO (ws : List Wrd) (p : Int) : Bool × List COp × Int × Int :=
  if p < 0 ∨ (ws.length : Int) < p then (false, [], 0, 5)
  else (decide ((bodyR ws p.toNat).2.2 = 0) && (headR ws p.toNat).1, bodyR ws p.toNat)
/-! what is parsed may be -/
end Go.Eng
namespace Go.Eng
open Go Go.RowKit
def digF : Nat → Nat → List UInt8
  | 0, _ => []
  | f + 1, u => if u < 10 then [UInt8.ofNat (48 + u)] else digF f (u / 10) ++ [UInt8.ofNat (48 + u % 10)]
theorem digF_eq : ∀ (f u : Nat), u < 10 ^ (f + 1) → digF (f + 1) u = Lib.decDigits u
  | 0, u, h => by
    rw [digF, Lib.decDigits, if_pos (by simpa using h), dif_pos (by simpa using h)]
  | f + 1, u, h => by
    rw [digF, Lib.decDigits]
    split
    · rfl
    · rw [digF_eq f (u / 10) (by rw [Nat.pow_succ] at h; omega)]
theorem digF_len (f u : Nat) : (digF f u).length ≤ f := by
  induction f generalizing u with
  | zero => simp [digF]
  | succ f ih => unfold digF; split; simp; have := ih (u / 10); simp; omega
theorem itoa_digF {n : Int} (h0 : 0 ≤ n) (h1 : n ≤ 999999999) : Lib.itoa n = digF 10 n.toNat := by
  unfold Lib.itoa; rw [if_neg (by omega), digF_eq 9 n.toNat (by omega)]
theorem all256 (p q : UInt8 → Bool) (h : (List.range 256).all (fun n => p (UInt8.ofNat n) == q (UInt8.ofNat n)) = true) (c : UInt8) : p c = q c := by
  have h1 := List.all_eq_true.1 h c.toNat (List.mem_range.2 (by have := c.toNat_lt; omega))
  simpa using h1
theorem dropWhile_nil {p : UInt8 → Bool} : ∀ {l : List UInt8}, l.dropWhile p = [] ↔ l.all p = true
  | [] => by simp
  | c :: l => by
    rw [List.dropWhile_cons, List.all_cons]
    cases h : p c with
    | true => rw [if_pos rfl, Bool.true_and]; exact dropWhile_nil
    | false => simp
theorem all_tw (p : UInt8 → Bool) : ∀ (l : List UInt8), (l.takeWhile p).all p = true
  | [] => rfl
  | c :: l => by
    rw [List.takeWhile_cons]
    cases h : p c with
    | true => rw [if_pos rfl, List.all_cons, h, Bool.true_and]; exact all_tw p l
    | false => rfl
end Go.Eng
namespace Go.Eng
open Go Go.Proofs Go.RowKit
theorem dig_rng {c : UInt8} (h : digB c = true) : 48 ≤ ((c.toNat : Nat) : Int) ∧ ((c.toNat : Nat) : Int) ≤ 57 := by
  unfold digB digN at h; simp only [Bool.and_eq_true, decide_eq_true_eq] at h; exact h
end Go.Eng
namespace Go.Eng
open Go Go.Proofs Go.RowKit
def ScT (r : List Wrd × Int × Int) (n0 : Nat) (v : Value) (m : Mem0) : Prop := ∃ ad n cap, v = .tuple #[.slice ad n cap, .int .i64 r.2.1, .int .i64 r.2.2] ∧ n = r.1.length ∧ Sl fW 150 4 n0 r.1 (.slice ad n cap) m
theorem ScT.mono {r : List Wrd × Int × Int} : ∀ (k k' : Nat) u m, k' ≤ k → ScT r k u m → ScT r k' u m := fun k k' u m h ⟨ad, n, cap, h1, h2, h3⟩ => ⟨ad, n, cap, h1, h2, h3.mono h⟩
end Go.Eng
namespace Go.Eng
open Go Go.Proofs Go.RowKit
def Tb (w : World) : Prop := Lib.TabIs Tryd.prog w "internal/strconv.uint64pow10" .u64 Lib.pow10Tab
theorem Tb.ext {w w' : World} (h : Tb w) (k : Ext w w') : Tb w' := by
  unfold Tb Lib.TabIs World.var? at h ⊢
  cases hg : Tryd.prog.globalNamed "internal/strconv.uint64pow10" with
  | none => rw [hg] at h; cases h
  | some g =>
    rw [hg] at h
    simp only [Option.bind_some] at h ⊢
    cases ho : w.heap[g]? with
    | none => rw [ho] at h; cases h
    | some o => rw [ho] at h; rw [k.get ho]; exact h
theorem itoa_ret {n : Int} (h0 : 0 ≤ n) (h1 : n ≤ 999999999) (w : World) (hT : Tb w) : Ret Tryd.prog 56 #[.int .i64 n] w (fun v w' => v = vS (digF 10 n.toNat) ∧ Ext w w') :=
  (Any.strconv_Itoa lm171 n (by omega) (by omega) w hT).mono (fun e w' ⟨he, k, os, hw⟩ => ⟨_, he, by rw [itoa_digF h0 h1], by rw [hw]; exact Ext.of_below (Lib.below_grow _ w (Nat.le_refl _) k os)⟩)
abbrev BldI (n0 b : Nat) (s : List UInt8) (w : World) : Prop := Lib.IsBuilderF 69 5 n0 b (Lib.byteCells s) w
theorem bc_app (s t : List UInt8) : Lib.byteCells (s ++ t) = Lib.byteCells s ++ Lib.strCells (bs t) := by simp [Lib.byteCells, Lib.strCells]
theorem bstr_ret {n0 b : Nat} {s : List UInt8} (t : List UInt8) {w : World} (h : BldI n0 b s w) (hsz : n0 ≤ w.heap.size) (hl : s.length + t.length ≤ 100000000000) : Calls Tryd.prog 32 #[.pointer (some ⟨b, 0, none⟩), vS t] w (fun en w' => en = .returned (.tuple #[.int .i64 (t.length : Nat), .nilIface]) ∧ (BldI n0 b (s ++ t) w' ∧ Below n0 w w' ∧ Lib.OthersKept 5 (some b) w w')) :=
  (Any.Builder_WriteString_k l166 bx n0 b (Lib.byteCells s) (bs t) w h (by rw [Lib.byteCells_length, bs_size]; omega) hsz).mono (fun e w' ⟨he, h1, h2, h3⟩ => ⟨by rw [he, bs_size], .inr (bc_app s t ▸ h1), h2, h3⟩)
theorem bget_ret {n0 b : Nat} {s : List UInt8} {w : World} (h : BldI n0 b s w) (hsz : n0 ≤ w.heap.size) : Calls Tryd.prog 33 #[.pointer (some ⟨b, 0, none⟩)] w (fun en w' => en = .returned (vS s) ∧ (BldI n0 b s w' ∧ Below n0 w w' ∧ Lib.OthersKept 5 (some b) w w')) :=
  (Any.Builder_String_any_k l169 bx n0 b s w h hsz).mono (fun e w' ⟨he, h1, h2, h3⟩ => ⟨he, h1, h2, h3⟩)
end Go.Eng
namespace Go.Eng
open Go Go.Proofs Go.RowKit
end Go.Eng
namespace Go.Eng
open Go Go.Proofs Go.RowKit
end Go.Eng
namespace Go.Eng
open Go Go.Proofs Go.RowKit
section
variable {P : Program} {ty : TypeId} {e : Env} {x lo hi : Operand} {t : TypeId} {l : List UInt8}
theorem ov_sslcLo {k : IntKind} {i : Int} (ht : P.underlying t = some .string) (hx : ev e x = some (vS l)) (hl : ev e lo = some (.int k i)) (h1 : 0 ≤ i) (h2 : i ≤ l.length) :
    OpP P (.slice t x (some lo) none none) ty e (vS (l.drop i.toNat)) := fun w ρ hρ _ _ _ _ => by
  have a1 : 0 ≤ ((bs l).size : Int) ∧ ((bs l).size : Int) ≤ ((bs l).size : Int) := by omega
  have a2 : 0 ≤ i ∧ i ≤ (((bs l).size : Nat) : Int) := by rw [bs_size]; omega
  have h4 : (bs l).extract i.toNat (bs l).size = bs (l.drop i.toNat) := by
    rw [bs_size]
    have := Lib.extract_eq (bs l) i.toNat l.length
    refine this.trans ?_
    show bs ((l.drop i.toNat).take (l.length - i.toNat)) = _
    rw [List.take_of_length_le (by rw [List.length_drop]; omega)]
  simp [execOp, Instr.sliceAt, Instr.slice, Instr.sliceBounds, Instr.sliceBound, asIntOf, hρ x _ hx, hρ lo _ hl, Result.andThen, run_underlying ht, a2, h4]
end
abbrev digitL : List UInt8 := [48, 49, 50, 51, 52, 53, 54, 55, 56, 57]
theorem digits_dig (c : UInt8) : digitL.contains c = digB c := all256 (fun c => digitL.contains c) digB (by decide +kernel) c
/-! blanks and remarks -/
/-! numbers -/
theorem dec_num : ∀ (l : List UInt8) (k acc : Nat), l.length ≤ k → l.all digB = true → ∃ m : Nat, Lib.decFrom acc l = some m ∧ (m : Int) = numF k l acc
  | [], k, acc, _, _ => ⟨acc, rfl, by cases k <;> rfl⟩
  | c :: l, 0, acc, h, _ => absurd h (by simp)
  | c :: l, k + 1, acc, h, ha => by
    rw [List.all_cons, Bool.and_eq_true] at ha
    have hr := dig_rng ha.1
    obtain ⟨m, h1, h2⟩ := dec_num l k (acc * 10 + (c.toNat - 48)) (by simpa using h) ha.2
    refine ⟨m, ?_, ?_⟩
    · rw [Lib.decFrom, Lib.digitVal, if_pos (by omega)]; exact h1
    · rw [numF, if_pos ha.1, h2]; congr 1; omega
theorem atoi_num {t : List UInt8} (h0 : t ≠ []) (h : t.length ≤ 9) (ha : t.all digB = true) : Lib.atoi t = some (numF 9 t 0) := by
  match t, h0 with
  | c :: l, _ =>
    have hc : digB c = true := by rw [List.all_cons, Bool.and_eq_true] at ha; exact ha.1
    have hr := dig_rng hc
    have n1 : (c == 45) = false := by rw [beq_eq_false_iff_ne]; intro q; subst q; simp at hr
    have n2 : (c == 43) = false := by rw [beq_eq_false_iff_ne]; intro q; subst q; simp at hr
    obtain ⟨m, h1, h2⟩ := dec_num (c :: l) 9 0 h ha
    have e : Lib.atoi (c :: l) = if (c == 45) = true then (Lib.decNat l).map fun (m : Nat) => -(m : Int) else if (c == 43) = true then (Lib.decNat l).map fun (m : Nat) => (m : Int) else (Lib.decNat (c :: l)).map fun (m : Nat) => (m : Int) := rfl
    have e2 : Lib.decNat (c :: l) = Lib.decFrom 0 (c :: l) := rfl
    rw [e, n1, n2, if_neg (by simp), if_neg (by simp), e2, h1, Option.map_some, h2]; rfl
theorem atoi_ret {t : List UInt8} (h0 : t ≠ []) (h : t.length ≤ 9) (ha : t.all digB = true) (w : World) : Ret Tryd.prog 95 #[vS t] w (fun v w' => v = .tuple #[.int .i64 (numF 9 t 0), .nilIface] ∧ Ext w w') :=
  (Any.strconv_Atoi l172 (bs t) (numF 9 t 0) (by rw [bs_size]; omega) (atoi_num h0 h ha) w).mono (fun e w' ⟨he, k, hw⟩ => ⟨_, he, rfl, by rw [hw]; exact Ext.of_below (Lib.bytesWorld_below w _ _)⟩)
theorem idx_ret (t : List UInt8) (c : Int) (w : World) : Ret Tryd.prog 29 #[vS t, .int .u8 c] w (fun v w' => v = .int .i64 (Lib.indexByte t c.toNat.toUInt8) ∧ Ext w w') :=
  (Any.strings_IndexByte l137 (bs t) c w).mono (fun e w' ⟨he, hw⟩ => ⟨_, he, rfl, by rw [hw]; exact Chg.refl _ _⟩)
end Go.Eng
namespace Go.Eng
open Go Go.Proofs Go.RowKit
end Go.Eng
namespace Go.Eng
open Go Go.Proofs Go.RowKit
end Go.Eng
namespace Go.Eng
open Go Go.Proofs Go.RowKit
end Go.Eng
namespace Go.Eng
open Go Go.Proofs Go.RowKit
def valD (acc : Int) : List UInt8 → Int
  | [] => acc
  | c :: l => valD (acc * 10 + ((c.toNat : Nat) : Int) - 48) l
theorem numF_app : ∀ (l rest : List UInt8) (k : Nat) (acc : Int), l.all digB = true → l.length ≤ k → numF k (l ++ rest) acc = numF (k - l.length) rest (valD acc l)
  | [], rest, k, acc, _, _ => rfl
  | c :: l, rest, 0, acc, _, h => absurd h (by simp)
  | c :: l, rest, k + 1, acc, ha, h => by
    rw [List.all_cons, Bool.and_eq_true] at ha
    rw [List.cons_append, numF, if_pos ha.1, numF_app l rest k _ ha.2 (by simpa using h), valD, List.length_cons, Nat.add_sub_add_right]
def offB (p : UInt8 → Bool) : List UInt8 → Prop
  | [] => True
  | c :: _ => p c = false
theorem numF_off {rest : List UInt8} (h : offB digB rest) (k : Nat) (acc : Int) : numF k rest acc = acc := by
  cases k with
  | zero => rfl
  | succ k =>
    cases rest with
    | nil => rfl
    | cons c l => rw [numF, if_neg (by rw [show digB c = false from h]; simp)]
/-! one word, from its text on -/
end Go.Eng
namespace Go.Eng
open Go Go.RowKit
structure Evt where
  tm : BitVec 64
  k : Int
  t : Int
  l : Int
  n : Int
deriving DecidableEq
instance : Inhabited Evt := ⟨⟨0#64, 0, 0, 0, 0⟩⟩
def fE (e : Evt) : List Value := [U e.tm, .int .i64 e.k, .int .i64 e.t, .int .i64 e.l, .int .i64 e.n]
def evW : List (List UInt8) := [[], [115, 112, 97, 119, 110], [100, 105, 115, 112, 97, 116, 99, 104], [112, 114, 101, 101, 109, 112, 116], [97, 99, 113, 117, 105, 114, 101], [114, 101, 108, 101, 97, 115, 101], [98, 108, 111, 99, 107], [119, 97, 107, 101], [101, 114, 114, 111, 114], [115, 108, 101, 101, 112], [121, 105, 101, 108, 100], [101, 120, 105, 116], [100, 105, 101, 100], [109, 105, 103, 114, 97, 116, 101], [119, 101, 105, 103, 104, 116]]
def evT (k : Int) : List UInt8 := if 0 ≤ k ∧ k < 15 then evW.getD k.toNat [] else []
def evOk (k : Int) : Bool := decide (1 ≤ k) && decide (k ≤ 14)
theorem ev_cases {k : Int} (h : 1 ≤ k ∧ k ≤ 14) : k = 1 ∨ k = 2 ∨ k = 3 ∨ k = 4 ∨ k = 5 ∨ k = 6 ∨ k = 7 ∨ k = 8 ∨ k = 9 ∨ k = 10 ∨ k = 11 ∨ k = 12 ∨ k = 13 ∨ k = 14 := by omega
theorem evT_empty (k : Int) : decide (evT k ≠ []) = evOk k := by
  unfold evOk
  by_cases h : 1 ≤ k ∧ k ≤ 14
  · rcases ev_cases h with rfl | rfl | rfl | rfl | rfl | rfl | rfl | rfl | rfl | rfl | rfl | rfl | rfl | rfl <;> decide +kernel
  · have h2 : evT k = [] := by
      unfold evT
      by_cases h0 : 0 ≤ k ∧ k < 15
      · obtain rfl : k = 0 := by omega
        rfl
      · rw [if_neg h0]
    rw [h2]
    by_cases h2 : 1 ≤ k
    · rw [show decide (k ≤ 14) = false from decide_eq_false (by omega)]; simp
    · rw [show decide (1 ≤ k) = false from decide_eq_false h2]; simp
def inB (n lo hi : Int) : Bool := decide (lo ≤ n) && decide (n ≤ hi)
def mayEv (e : Evt) : Bool := decide (e.tm.toNat ≤ 1048576) && evOk e.k && inB e.t 0 63 && inB e.l (-1) 7 && inB e.n 0 999
theorem mayEv_inv {e : Evt} (h : mayEv e = true) : e.tm.toNat ≤ 1048576 ∧ (1 ≤ e.k ∧ e.k ≤ 14) ∧ (0 ≤ e.t ∧ e.t ≤ 63) ∧ (-1 ≤ e.l ∧ e.l ≤ 7) ∧ (0 ≤ e.n ∧ e.n ≤ 999) := by
  unfold mayEv evOk inB at h; simp only [Bool.and_eq_true, decide_eq_true_eq] at h
  obtain ⟨⟨⟨⟨a, b⟩, c⟩, d⟩, f⟩ := h; exact ⟨a, b, c, d, f⟩
def lockT (l : Int) : List UInt8 := if 0 ≤ l then digF 10 l.toNat else [45]
def lineB (e : Evt) : List UInt8 := digF 10 e.tm.toNat ++ [32] ++ evT e.k ++ [32] ++ digF 10 e.t.toNat ++ [32] ++ lockT e.l ++ [32] ++ digF 10 e.n.toNat
def lineEv (e : Evt) : List UInt8 := lineB e ++ [10]
def lineO (e : Evt) : List UInt8 × Int := if mayEv e then (lineEv e, 0) else ([], 1)
/-! how a line is read -/
def splW : List UInt8 → List (List UInt8)
  | [] => [[]]
  | c :: l => if c = 32 then [] :: splW l else (match splW l with | [] => [[c]] | w :: r => (c :: w) :: r)
def numO (s : List UInt8) : Int := if decide (s = []) || decide (7 < s.length) || (decide (1 < s.length) && decide (s.getD 0 0 = 48)) || !s.all digB then -1 else valD 0 s
def kindEv (t : List UInt8) : Int := fixI (fun y => decide (t = y)) evW
def lockN (t : List UInt8) : Int := if t = [45] then -1 else numO t
def evOf (w : List (List UInt8)) : Evt := ⟨BitVec.ofInt 64 (numO (w.getD 0 [])), kindEv (w.getD 1 []), numO (w.getD 2 []), lockN (w.getD 3 []), numO (w.getD 4 [])⟩
def isEv (s : List UInt8) : Bool := decide ((splW s).length = 5) && decide ((splW s).getD 1 [] ≠ []) && (decide ((splW s).getD 3 [] = [45]) || decide (0 ≤ numO ((splW s).getD 3 []))) && decide (0 ≤ numO ((splW s).getD 0 [])) && mayEv (evOf (splW s))
def notNlB (c : UInt8) : Bool := decide (c ≠ 10)
def endL (s : List UInt8) (i : Nat) : Nat := runL notNlB s i
def parF : Nat → List UInt8 → Nat → List Evt → List Evt × Int × Int
  | 0, _, _, out => (out, 0, 0)
  | f + 1, s, i, out =>
    if s.length ≤ i then (out, 0, 0)
    else if s.length ≤ i + endL s i then ([], (i : Int), 5)
    else if isEv ((s.drop i).take (endL s i)) then parF f s (i + endL s i + 1) (out ++ [evOf (splW ((s.drop i).take (endL s i)))])
    else ([], (i : Int), 5)
theorem parF_fuel (s : List UInt8) : ∀ (f g i : Nat) (out : List Evt), s.length - i ≤ f → s.length - i ≤ g → parF f s i out = parF g s i out
  | 0, 0, _, _, _, _ => rfl
  | 0, g + 1, i, out, h1, h2 => by rw [parF, parF, if_pos (by omega)]
  | f + 1, 0, i, out, h1, h2 => by rw [parF, parF, if_pos (by omega)]
  | f + 1, g + 1, i, out, h1, h2 => by
    simp only [parF]
    split
    · rfl
    split
    · rfl
    split
    · exact parF_fuel s f g _ _ (by omega) (by omega)
    · rfl
def parL (s : List UInt8) (i : Nat) (out : List Evt) : List Evt × Int × Int := parF (s.length - i) s i out
def parO (s : List UInt8) : List Evt × Int × Int := if 1000000 < s.length then ([], 1000000, 6) else parL s 0 []
theorem parL_end {s : List UInt8} {i : Nat} {out : List Evt} (h : s.length ≤ i) : parL s i out = (out, 0, 0) := by
  unfold parL; rw [show s.length - i = 0 by omega]; rfl
theorem parL_step {s : List UInt8} {i : Nat} {out : List Evt} (h : i < s.length) : parL s i out =
    if s.length ≤ i + endL s i then ([], (i : Int), 5)
    else if isEv ((s.drop i).take (endL s i)) then parL s (i + endL s i + 1) (out ++ [evOf (splW ((s.drop i).take (endL s i)))])
    else ([], (i : Int), 5) := by
  unfold parL
  obtain ⟨f, hf⟩ : ∃ f, s.length - i = f + 1 := ⟨s.length - i - 1, by omega⟩
  rw [hf, parF, if_neg (by omega)]
  split
  · rfl
  split
  · exact parF_fuel s _ _ _ _ (by omega) (by omega)
  · rfl
theorem parL_noend {s : List UInt8} {i : Nat} {out : List Evt} (h : i < s.length) (h2 : s.length ≤ i + endL s i) : parL s i out = ([], (i : Int), 5) := by rw [parL_step h, if_pos h2]
theorem parL_bad {s : List UInt8} {i : Nat} {out : List Evt} (h : i < s.length) (h2 : isEv ((s.drop i).take (endL s i)) = false) : parL s i out = ([], (i : Int), 5) := by
  rw [parL_step h]; split
  · rfl
  · rw [if_neg (by rw [h2]; simp)]
theorem parL_next {s : List UInt8} {i : Nat} {out : List Evt} (h : i < s.length) (h1 : i + endL s i < s.length) (h2 : isEv ((s.drop i).take (endL s i)) = true) : parL s i out = parL s (i + endL s i + 1) (out ++ [evOf (splW ((s.drop i).take (endL s i)))]) := by
  rw [parL_step h, if_neg (by omega), if_pos h2]
/-! splitting -/
theorem splW_ne (l : List UInt8) : splW l ≠ [] := by
  cases l with
  | nil => simp [splW]
  | cons c l => unfold splW; split; simp; split <;> simp
/-! numbers and their digits -/
end Go.Eng
namespace Go.Eng
open Go Go.Proofs Go.RowKit
theorem loA_cases (k : Int) : loA k = -1 ∨ 0 ≤ loA k := by unfold loA; (repeat' split) <;> omega
abbrev pB (b : Nat) (fv : Bool) (ad : Option Addr) (n cap : Nat) : Nat × Obj := (b, .cells #[.bool fv, .slice ad n cap] 54 (0, 0))
set_option maxRecDepth 100000 in
theorem index_str {xs : List (List UInt8)} {ad : Option Addr} {n cap : Nat} (x : List UInt8) (w : World) (hn : n = xs.length) (hl : Sr fB 1 xs (.slice ad n cap) w) (hx : xs.length ≤ 1000) : Ret Tryd.prog 63 #[.slice ad n cap, vS x] w (fun v w' => v = .int .i64 (fixI (fun y => decide (x = y)) xs) ∧ Ext w w') := by
 refine Ret.enterM (l := [.slice ad n cap, vS x]) Tryd.func63 rfl Tryd.ntmps63 rfl ([]) (no) (Mem.nil w) ?_
 refine wpM.seq (wpM.region ?_)
 refine LM.as rfl ?_
 refine LM.nil (QM.sub (e' := [(0, _), (1, _)]) au9 (QM.then ?_))
 refine wpM.seq ?_
 refine wpM.seq (wpM.region ?_)
 refine LM.mv rfl ?_
 refine LM.val (ov_len Tryd.underlying119 rfl) ?_
 refine LM.mv rfl ?_
 refine LM.nil (QM.sub (e' := [(0, _), (1, _), (7, _), (8, _)]) au9 (QM.then ?_))
 refine wpM.block ?_
 refine wpM.loopK0 (α := Nat) (fun i => [(8, .int .i64 (i : Nat))]) [(0, _), (1, _), (7, _)] (fun i => []) (fun i => i ≤ xs.length ∧ (xs.take i).any (fun y => decide (x = y)) = false) (fun i => xs.length - i) (0) ⟨au2, rfl, rfl, rfl, trivial⟩ au1 ⟨Nat.zero_le _, rfl⟩ ?_
 rintro i ⟨hi, ha⟩
 change wpM _ _ _ _ _ _ _ ([]) _ _ _
 refine wpM.seq (wpM.region ?_)
 refine LM.val (ov_lss rfl rfl) ?_
 refine LM.nil (QM.sub (e' := [(0, _), (1, _), (7, _), (8, _), (9, _)]) au9 (QM.then ?_))
 refine wpM.seq ?_
 refine wpM.condD rfl (fun h1 => ?_) (fun h1 => ?_)
 ·
  refine wpM.skip ?_
  refine QM.then ?_
  refine wpM.seq ?_
  refine wpM.block ?_
  refine wpM.seq (wpM.region ?_)
  refine LM.mv rfl (LM.as rfl ?_)
  refine LM.nil (QM.sub (e' := [(0, _), (1, _), (5, _), (7, _), (8, _)]) au9 (QM.then (wpM.seq (wpM.region ?_))))
  refine LM.mv rfl (LM.mv rfl (LM.mv rfl ?_))
  refine LM.val (ov_idxSN au6 Tryd.underlying119 Tryd.sizeOf9 rfl rfl (by omega)) ?_
  first | refine LM.rd (om_sl1 (by assumption) (by intro _; rfl) Tryd.isAgg9 rfl rfl au3 (by rfl)) ?_ | refine LM.rdC (om_sr1 (by assumption) Tryd.isAgg9 rfl rfl au3 (by rfl) id) ?_ | refine LM.rd (om_ld Tryd.isAgg9 rfl rfl) ?_
  refine LM.val (ov_seqlL rfl rfl) ?_
  refine LM.nil (QM.sub (e' := [(0, _), (1, _), (5, _), (7, _), (8, _), (16, _)]) au9 (QM.then ?_))
  refine wpM.condD rfl (fun h2 => ?_) (fun h2 => ?_)
  ·
   refine wpM.seq (wpM.region ?_)
   refine LM.mv rfl (LM.as rfl ?_)
   refine LM.nil (QM.sub (e' := [(4, _)]) ⟨rfl, trivial⟩ (QM.then ?_))
   refine wpM.ret ?_
   refine QM.block_ret ?_
   refine QM.then_ret ?_
   refine QM.then_ret ?_
   refine QM.block_ret ?_
   refine QM.then_ret ?_
   refine QM.leave (.inl rfl) [.tmp 4] Tryd.results63 rfl ?_
   intro w' hm' hc' hg'
   exact ⟨by show Value.int .i64 _ = _; rw [fix_hit [] ha (by omega) (decide_eq_true h2)], hc'⟩
  refine wpM.skip ?_
  refine QM.block_normal ?_
  refine QM.then (wpM.region ?_)
  refine LM.val (ov_add64 rfl rfl (by omega)) ?_
  refine LM.mv rfl ?_
  refine LM.nil (QM.sub (e' := [(0, _), (1, _), (7, _), (8, _)]) au9 ?_)
  refine QM.againK (i + 1) ⟨au2, rfl, rfl, rfl, trivial⟩ au1 (fun _ h => h) ?_ ?_
  · exact ⟨by omega, by rw [any_snoc [] (by omega), ha, Bool.false_or]; exact decide_eq_false h2⟩
  · omega
 refine wpM.exit ?_
 refine QM.then_exit ?_
 refine QM.then_exit ?_
 refine QM.block_hit ?_
 refine QM.then (wpM.seq (wpM.region ?_))
 refine LM.as rfl ?_
 refine LM.nil (QM.sub (e' := [(4, _)]) ⟨rfl, trivial⟩ (QM.then ?_))
 refine wpM.ret ?_
 refine QM.leave (.inl rfl) [.tmp 4] Tryd.results63 rfl ?_
 intro w' hm' hc' hg'
 have hil : i = xs.length := (by omega); subst hil; rw [List.take_length] at ha; exact ⟨by show Value.int .i64 _ = _; rw [fix_miss ha], hc'⟩
end Go.Eng
namespace Go.Eng
open Go Go.Proofs Go.RowKit
def isE (ws : List Wrd) (i : Nat) (e k : Int) (t : List UInt8) : Bool := decide (e = 0) && decide (i < ws.length) && decide ((ws.getD i default).k = k) && decide ((ws.getD i default).t = t)
theorem isE_eq {ws : List Wrd} {i : Nat} {e k : Int} {t : List UInt8} : isE ws i e k t = (decide (e = 0) && isR ws i k t) := by unfold isE isR; rw [Bool.and_assoc, Bool.and_assoc, Bool.and_assoc]
theorem isE_lt {ws : List Wrd} {i : Nat} {e k : Int} {t : List UInt8} (h : isE ws i e k t = true) : i < ws.length ∧ e = 0 := by
  unfold isE at h; simp only [Bool.and_eq_true, decide_eq_true_eq] at h; exact ⟨h.1.1.2, h.1.1.1⟩
def needE (ws : List Wrd) (i : Nat) (e k : Int) (t : List UInt8) : Nat × Int := if isE ws i e k t then (i + 1, e) else if e = 0 then (i, 5) else (i, e)
def numE (ws : List Wrd) (i : Nat) (e lo hi : Int) : Nat × Int × Int := if e ≠ 0 then (i, e, 0) else numR ws i lo hi
end Go.Eng
namespace Go.Eng
open Go Go.Proofs Go.RowKit
theorem op_need {ws : List Wrd} {i ahead : Nat} (h1 : kindR ws i ≠ 0) (h2 : ahead < 12) : opR ws i ahead = ((needE ws (opB ws i).1 (opB ws i).2.1 3 [59]).1, (needE ws (opB ws i).1 (opB ws i).2.1 3 [59]).2, ⟨kindR ws i, (opA ws i).2.2, (opB ws i).2.2⟩) := by
  unfold opR needE; rw [if_neg h1, if_neg (by omega), isE_eq]
  by_cases h : (opB ws i).2.1 = 0
  · rw [if_neg (by simp [h]), decide_eq_true h, Bool.true_and]
    split
    · rw [h]
    · rfl
  · rw [if_pos h, decide_eq_false h, Bool.false_and, if_neg (by simp), if_neg h]
theorem op_a {ws : List Wrd} {i ahead : Nat} (h1 : kindR ws i = 0) : opR ws i ahead = (i, 5, ⟨0, 0, 0⟩) := by unfold opR; rw [if_pos h1]
theorem op_b {ws : List Wrd} {i ahead : Nat} (h1 : kindR ws i ≠ 0) (h2 : 12 ≤ ahead) : opR ws i ahead = (i, 6, ⟨0, 0, 0⟩) := by unfold opR; rw [if_neg h1, if_pos h2]
end Go.Eng
namespace Go.Eng
open Go Go.Proofs Go.RowKit
def ParT (r : Bool × List COp × Int × Int) (n0 : Nat) (v : Value) (m : Mem0) : Prop := ∃ ad n cap, v = .tuple #[.agg #[.bool r.1, .slice ad n cap], .int .i64 r.2.2.1, .int .i64 r.2.2.2] ∧ n = r.2.1.length ∧ Sl fO 100 3 n0 r.2.1 (.slice ad n cap) m
theorem ParT.mono {r : Bool × List COp × Int × Int} : ∀ (k k' : Nat) u m, k' ≤ k → ParT r k u m → ParT r k' u m := fun k k' u m h ⟨ad, n, cap, h1, h2, h3⟩ => ⟨ad, n, cap, h1, h2, h3.mono h⟩
def StI (ws : List Wrd) (R : List COp × Int × Int) (i : Nat) (e : Int) (ops : List COp) : Prop := (e = 0 → loopR ws i ops = R) ∧ (e ≠ 0 → R = ([], (i : Int), e)) ∧ i ≤ ws.length
theorem opR_pos {ws : List Wrd} {i k : Nat} (hi : i ≤ ws.length) : (opR ws i k).1 ≤ ws.length := by
  by_cases h1 : kindR ws i = 0
  · rw [op_a h1]; exact hi
  · by_cases h2 : 12 ≤ k
    · rw [op_b h1 h2]; exact hi
    · rw [op_need h1 (by omega)]
      have h3 := opB_le h1
      unfold needE; split
      · rename_i q; have := (isE_lt q).1; simp only; omega
      · split <;> simp only <;> omega
theorem StI.next {ws : List Wrd} {R : List COp × Int × Int} {i : Nat} {ops : List COp} (h : StI ws R i 0 ops) (hn : isR ws i 3 [125] = false) : StI ws R (opR ws i ops.length).1 (opR ws i ops.length).2.1 (ops ++ [(opR ws i ops.length).2.2]) := by
  obtain ⟨h1, _, h3⟩ := h
  have h1 := h1 rfl
  refine ⟨fun q => ?_, fun q => ?_, opR_pos h3⟩
  · rw [← loopR_next hn q]; exact h1
  · rw [← h1, loopR_bad hn q]
end Go.Eng
namespace Go.Eng
open Go Go.Proofs Go.RowKit
theorem nR1 {ws : List Wrd} {i : Nat} {lo hi : Int} (h : lo = -1) : numR ws i lo hi = (i, 0, 0) := by unfold numR; rw [if_pos h]
theorem opB_of {ws : List Wrd} {i j : Nat} {a : Int} (h : opA ws i = (j, 0, a)) : opB ws i = numR ws j (loB (kindR ws i)) (hiB (kindR ws i)) := by unfold opB num2; rw [h, if_neg (by simp)]
def NumI (ws : List Wrd) (i k j : Nat) (lo hi a b : Int) : Prop :=
  k ≤ 2 ∧ j ≤ ws.length ∧ (k = 0 → j = i + 1 ∧ lo = loA (kindR ws i) ∧ hi = hiA (kindR ws i) ∧ a = 0 ∧ b = 0) ∧ (k = 1 → opA ws i = (j, 0, a) ∧ b = 0) ∧ (k = 2 → (opA ws i).2.2 = a ∧ opB ws i = (j, 0, b))
theorem NumI.skip {ws : List Wrd} {i k j : Nat} {lo hi a b : Int} (h : NumI ws i k j lo hi a b) (hq : (k = 0 ∧ lo < 0) ∨ (k = 1 ∧ kindR ws i ≠ 5)) : NumI ws i (k + 1) j lo hi a b := by
  obtain ⟨h1, h2, h3, h4, h5⟩ := h
  rcases hq with ⟨rfl, hq⟩ | ⟨rfl, hq⟩
  · obtain ⟨e1, e2, e3, e4, e5⟩ := h3 rfl
    subst e1; subst e4; subst e5; subst e2; subst e3
    have := loA_cases (kindR ws i)
    exact ⟨by omega, h2, fun q => by omega, fun _ => ⟨nR1 (by omega), rfl⟩, fun q => by omega⟩
  · obtain ⟨e1, e2⟩ := h4 rfl
    subst e2
    exact ⟨by omega, h2, fun q => by omega, fun q => by omega, fun _ => ⟨by rw [e1], by rw [opB_of e1, nR1 (by unfold loB; rw [if_neg hq])]⟩⟩
end Go.Eng
namespace Go.Eng
open Go Go.Proofs Go.RowKit
deriving instance DecidableEq for COp
def WoT (r : List Wrd × Int) (n0 : Nat) (v : Value) (m : Mem0) : Prop := ∃ ad n cap, v = .tuple #[.slice ad n cap, .int .i64 r.2] ∧ n = r.1.length ∧ Sl fW 150 4 n0 r.1 (.slice ad n cap) m
theorem WoT.mono {r : List Wrd × Int} : ∀ (k k' : Nat) u m, k' ≤ k → WoT r k u m → WoT r k' u m := fun k k' u m h ⟨ad, n, cap, h1, h2, h3⟩ => ⟨ad, n, cap, h1, h2, h3.mono h⟩
end Go.Eng
namespace Go.Eng
open Go Go.Proofs Go.RowKit
/-! a program's text -/
end Go.Eng
namespace Go.Eng
open Go Go.RowKit
deriving instance DecidableEq for CLk
structure PgC where
  fv : Bool
  xs : List COp
deriving DecidableEq
instance : Inhabited PgC := ⟨⟨false, []⟩⟩
structure StC where
  cr : Int
  gr : Int
  gs : List Int
  ls : List CLk
  ps : List PgC
deriving DecidableEq
instance : Inhabited StC := ⟨⟨0, 0, [], [], []⟩⟩
abbrev wCores : List UInt8 := [99, 111, 114, 101, 115]
abbrev wGrain : List UInt8 := [103, 114, 97, 105, 110]
abbrev wGroup : List UInt8 := [103, 114, 111, 117, 112]
abbrev wLock : List UInt8 := [108, 111, 99, 107]
abbrev wShared : List UInt8 := [115, 104, 97, 114, 101, 100]
abbrev wSlice : List UInt8 := [115, 108, 105, 99, 101]
abbrev wCrit : List UInt8 := [99, 114, 105, 116]
abbrev wRead : List UInt8 := [114, 101, 97, 100]
abbrev wWrite : List UInt8 := [119, 114, 105, 116, 101]
def fldE (ws : List Wrd) (i : Nat) (e : Int) (nm : List UInt8) (most : Int) : Nat × Int × Int := numE ws (needE ws i e 1 nm).1 (needE ws i e 1 nm).2 1 most
def linE (ws : List Wrd) (i : Nat) (e : Int) (nm : List UInt8) (most : Int) : Nat × Int × Int := ((needE ws (fldE ws i e nm most).1 (fldE ws i e nm most).2.1 3 [59]).1, (needE ws (fldE ws i e nm most).1 (fldE ws i e nm most).2.1 3 [59]).2, (fldE ws i e nm most).2.2)
def lkA (ws : List Wrd) (i : Nat) (e : Int) : Nat × Int × Int := fldE ws i e wSlice 16
def lkB (ws : List Wrd) (i : Nat) (e : Int) : Nat × Int × Int := fldE ws (lkA ws i e).1 (lkA ws i e).2.1 wCrit 32
def lkC (ws : List Wrd) (sh : Bool) (i : Nat) (e : Int) : Nat × Int × Int := if sh then fldE ws (lkB ws i e).1 (lkB ws i e).2.1 wRead 16 else ((lkB ws i e).1, (lkB ws i e).2.1, 0)
def lkD (ws : List Wrd) (sh : Bool) (i : Nat) (e : Int) : Nat × Int × Int := if sh then fldE ws (lkC ws sh i e).1 (lkC ws sh i e).2.1 wWrite 16 else ((lkC ws sh i e).1, (lkC ws sh i e).2.1, 0)
def lckE (ws : List Wrd) (sh : Bool) (i : Nat) (e : Int) : Nat × Int × CLk :=
  ((needE ws (lkD ws sh i e).1 (lkD ws sh i e).2.1 3 [59]).1, (needE ws (lkD ws sh i e).1 (lkD ws sh i e).2.1 3 [59]).2, ⟨sh, (lkA ws i e).2.2, (lkB ws i e).2.2, (lkC ws sh i e).2.2, (lkD ws sh i e).2.2⟩)
def gpF (ws : List Wrd) : Nat → Nat → Int → List Int → List Int × Nat × Int
  | 0, i, e, gs => if isE ws i e 1 wGroup then (gs, i, 6) else (gs, i, e)
  | f + 1, i, e, gs => if isE ws i e 1 wGroup then gpF ws f (linE ws i e wGroup 16).1 (linE ws i e wGroup 16).2.1 (gs ++ [(linE ws i e wGroup 16).2.2]) else (gs, i, e)
def gpL (ws : List Wrd) (i : Nat) (e : Int) (gs : List Int) : List Int × Nat × Int := gpF ws (4 - gs.length) i e gs
def gpO (ws : List Wrd) (i : Nat) (e : Int) : List Int × Nat × Int := gpL ws (linE ws i e wGroup 16).1 (linE ws i e wGroup 16).2.1 [(linE ws i e wGroup 16).2.2]
def isL (ws : List Wrd) (i : Nat) (e : Int) : Bool := isE ws i e 1 wLock || isE ws i e 1 wShared
def lkF (ws : List Wrd) : Nat → Nat → Int → List CLk → List CLk × Nat × Int
  | 0, i, e, ls => if isL ws i e then (ls, i, 6) else (ls, i, e)
  | f + 1, i, e, ls => if isL ws i e then lkF ws f (lckE ws (isE ws i e 1 wShared) (i + 1) e).1 (lckE ws (isE ws i e 1 wShared) (i + 1) e).2.1 (ls ++ [(lckE ws (isE ws i e 1 wShared) (i + 1) e).2.2]) else (ls, i, e)
def lkL (ws : List Wrd) (i : Nat) (e : Int) (ls : List CLk) : List CLk × Nat × Int := lkF ws (8 - ls.length) i e ls
def isP (ws : List Wrd) (i : Nat) (e : Int) (ps : List PgC) : Bool := decide (e = 0) && (decide (ps.length = 0) || isE ws i e 1 wProg)
def prC (r : Bool × List COp × Int × Int) : PgC := ⟨r.1, r.2.1⟩
def pgF (ws : List Wrd) : Nat → Nat → Int → List PgC → List Int → List PgC × List Int × Nat × Int
  | 0, i, e, ps, pl => if isP ws i e ps then (ps, pl, i, 6) else (ps, pl, i, e)
  | f + 1, i, e, ps, pl => if isP ws i e ps then pgF ws f (parseO ws (i : Int)).2.2.1.toNat (parseO ws (i : Int)).2.2.2 (ps ++ [prC (parseO ws (i : Int))]) (pl ++ [(i : Int)]) else (ps, pl, i, e)
def pgL (ws : List Wrd) (i : Nat) (e : Int) (ps : List PgC) (pl : List Int) : List PgC × List Int × Nat × Int := pgF ws (8 - ps.length) i e ps pl
def misB (ls : List CLk) (n : Nat) (p : PgC) : Bool := decide ((ckO p.fv p.xs ls (n : Int)).2 ≠ 0)
def misI (ls : List CLk) (ps : List PgC) : Int := fixI (misB ls ps.length) ps
def misE (ls : List CLk) (ps : List PgC) (j : Int) : Int := if j < 0 then 0 else (ckO (ps.getD j.toNat default).fv (ps.getD j.toNat default).xs ls (ps.length : Int)).2
def sA (ws : List Wrd) (i : Nat) : Nat × Int × Int := linE ws i 0 wCores 4
def sB2 (ws : List Wrd) (i : Nat) : Nat × Int × Int := linE ws (sA ws i).1 (sA ws i).2.1 wGrain 8
def sG (ws : List Wrd) (i : Nat) : List Int × Nat × Int := gpO ws (sB2 ws i).1 (sB2 ws i).2.1
def sL (ws : List Wrd) (i : Nat) : List CLk × Nat × Int := lkL ws (sG ws i).2.1 (sG ws i).2.2 []
def sP (ws : List Wrd) (i : Nat) : List PgC × List Int × Nat × Int := pgL ws (sL ws i).2.1 (sL ws i).2.2 [] []
def stpR (ws : List Wrd) (i : Nat) : StC × Int × Int :=
  if (sP ws i).2.2.2 ≠ 0 then (default, ((sP ws i).2.2.1 : Int), (sP ws i).2.2.2)
  else if 0 ≤ misI (sL ws i).1 (sP ws i).1 then (default, (sP ws i).2.1.getD (misI (sL ws i).1 (sP ws i).1).toNat 0, misE (sL ws i).1 (sP ws i).1 (misI (sL ws i).1 (sP ws i).1))
  else (⟨(sA ws i).2.2, (sB2 ws i).2.2, (sG ws i).1, (sL ws i).1, (sP ws i).1⟩, ((sP ws i).2.2.1 : Int), 0)
/-! where they stand -/
/-! a state with an error stays -/
/-! steps of the loops -/
/-! which may be -/
/-! its words -/
end Go.Eng
namespace Go.Eng
open Go Go.RowKit
/-! what is parsed may be -/
theorem isL_lt {ws : List Wrd} {i : Nat} {e : Int} (h : isL ws i e = true) : i < ws.length ∧ e = 0 := by
  unfold isL at h; rw [Bool.or_eq_true] at h
  rcases h with h | h <;> exact isE_lt h
theorem lkF_zero {ws : List Wrd} : ∀ (f i : Nat) (e : Int) (ls : List CLk), (lkF ws f i e ls).2.2 = 0 → e = 0
  | 0, i, e, ls, h => by
    unfold lkF at h; split at h
    · rename_i q; exact (isL_lt q).2
    · exact h
  | f + 1, i, e, ls, h => by
    unfold lkF at h; split at h
    · rename_i q; exact (isL_lt q).2
    · exact h
theorem isP_zero {ws : List Wrd} {i : Nat} {e : Int} {ps : List PgC} (h : isP ws i e ps = true) : e = 0 := by
  unfold isP at h; simp only [Bool.and_eq_true, decide_eq_true_eq] at h; exact h.1
theorem pgF_zero {ws : List Wrd} : ∀ (f i : Nat) (e : Int) (ps : List PgC) (pl : List Int), (pgF ws f i e ps pl).2.2.2 = 0 → e = 0
  | 0, i, e, ps, pl, h => by
    unfold pgF at h; split at h
    · rename_i q; exact isP_zero q
    · exact h
  | f + 1, i, e, ps, pl, h => by
    unfold pgF at h; split at h
    · rename_i q; exact isP_zero q
    · exact h
/-! words are parsed again -/
/-! how many words -/
end Go.Eng
namespace Go.Eng
open Go Go.RowKit
/-! words without blanks -/
theorem lineB_eq (e : Evt) : lineB e = digF 10 e.tm.toNat ++ 32 :: (evT e.k ++ 32 :: (digF 10 e.t.toNat ++ 32 :: (lockT e.l ++ 32 :: digF 10 e.n.toNat))) := by
  unfold lineB; simp
theorem line_len {e : Evt} (h : mayEv e = true) : (lineEv e).length ≤ 60 := by
  obtain ⟨h1, hk, ht, hl, hn⟩ := mayEv_inv h
  have a := digF_len 10 e.tm.toNat
  have b := digF_len 10 e.t.toNat
  have c := digF_len 10 e.n.toNat
  have d : (lockT e.l).length ≤ 10 := by
    unfold lockT; split
    · exact digF_len _ _
    · simp
  have f : (evT e.k).length ≤ 10 := by
    have key : ∀ t ∈ evW, t.length ≤ 10 := by decide +kernel
    refine key (evT e.k) ?_
    unfold evT; rw [if_pos (by omega)]
    exact List.mem_of_getElem? (getq [] (by show e.k.toNat < 15; omega))
  unfold lineEv; rw [lineB_eq]; simp only [List.length_append, List.length_cons, List.length_nil]; omega
end Go.Eng
namespace Go.Eng
open Go Go.Proofs Go.RowKit
end Go.Eng
namespace Go.Eng
open Go Go.Proofs Go.RowKit
theorem smallO.drop {xs : List COp} (h : smallO xs) (k : Nat) : smallO (xs.drop k) := ⟨by rw [List.length_drop]; have := h.1; omega, fun o ho => h.2 o (List.mem_of_mem_drop ho)⟩
def SecI (lock : Int) (ys : List COp) (j : Nat) (acc : Int) : Prop :=
  j ≤ ys.length ∧ (secT lock ys).1 = j + (secT lock (ys.drop j)).1 ∧ (secT lock ys).2 = acc + (secT lock (ys.drop j)).2 ∧ -((j : Int) * 1125899906842624) ≤ acc ∧ acc ≤ (j : Int) * 1125899906842624
theorem SecI.zero (lock : Int) (ys : List COp) : SecI lock ys 0 0 := ⟨Nat.zero_le _, by simp, by simp, by simp, by simp⟩
theorem SecI.step {lock : Int} {ys : List COp} {j : Nat} {acc acc' : Int} (h : SecI lock ys j acc) (hs : smallO ys) (hj : j < ys.length) (hn : stopB lock (ys.getD j default) = false) (ha : acc' = acc + if (ys.getD j default).k = 1 then (ys.getD j default).a else 0) : SecI lock ys (j + 1) acc' := by
  obtain ⟨h1, h2, h3, h4, h5⟩ := h
  have e := sec_step hj hn
  have hb := hs.at j
  rw [e] at h2 h3
  dsimp only at h2 h3
  have : ((j + 1 : Nat) : Int) * 1125899906842624 = (j : Int) * 1125899906842624 + 1125899906842624 := by push_cast; omega
  refine ⟨by omega, by omega, by rw [ha]; omega, ?_, ?_⟩ <;> rw [this, ha] <;> split <;> omega
end Go.Eng
namespace Go.Eng
open Go Go.Proofs Go.RowKit
def EachTc (fv : Bool) (ad : Option Addr) (n cap : Nat) (n0 : Nat) (v : Value) (m : Mem0) : Prop := ∃ b1, v = .func (.func 182) #[] #[.pointer (some ⟨b1, 0, none⟩)] ∧ m = [pB b1 fv ad n cap] ∧ n0 ≤ b1
theorem EachTc.mono {fv : Bool} {ad : Option Addr} {n cap : Nat} : ∀ (k k' : Nat) u m, k' ≤ k → EachTc fv ad n cap k u m → EachTc fv ad n cap k' u m := fun k k' u m h ⟨b1, h1, h2, h3⟩ => ⟨b1, h1, h2, by omega⟩
def SecsT (fv : Bool) (ad : Option Addr) (n cap : Nat) (n0 : Nat) (v : Value) (m : Mem0) : Prop := ∃ b1, v = .func (.func 82) #[] #[.pointer (some ⟨b1, 0, none⟩)] ∧ m = [pB b1 fv ad n cap] ∧ n0 ≤ b1
theorem SecsT.mono {fv : Bool} {ad : Option Addr} {n cap : Nat} : ∀ (k k' : Nat) u m, k' ≤ k → SecsT fv ad n cap k u m → SecsT fv ad n cap k' u m := fun k k' u m h ⟨b1, h1, h2, h3⟩ => ⟨b1, h1, h2, by omega⟩
end Go.Eng
namespace Go.Eng
open Go Go.Proofs Go.RowKit
end Go.Eng
namespace Go.Eng
open Go Go.Proofs Go.RowKit
structure PgV where
  c : PgC
  ad : Option Addr
  n : Nat
  cap : Nat
instance : Inhabited PgV := ⟨⟨default, none, 0, 0⟩⟩
def fPg (p : PgV) : List Value := [.bool p.c.fv, .slice p.ad p.n p.cap]
def PgV.In (p : PgV) (w : World) : Prop := p.n = p.c.xs.length ∧ Sr fO 3 p.c.xs (.slice p.ad p.n p.cap) w
theorem PgV.In.ext {p : PgV} {w w' : World} (h : p.In w) (k : Ext w w') : p.In w' := ⟨h.1, h.2.ext k⟩
def PgsIn (ps : List PgV) (w : World) : Prop := ∀ p ∈ ps, p.In w
theorem PgsIn.ext {ps : List PgV} {w w' : World} (h : PgsIn ps w) (k : Ext w w') : PgsIn ps w' := fun p hp => (h p hp).ext k
structure StV where
  cr : Int
  gr : Int
  gs : List Int
  ga : Option Addr
  gn : Nat
  gc : Nat
  ls : List CLk
  la : Option Addr
  ln : Nat
  lc : Nat
  ps : List PgV
  pa : Option Addr
  pn : Nat
  pc : Nat
instance : Inhabited StV := ⟨⟨0, 0, [], none, 0, 0, [], none, 0, 0, [], none, 0, 0⟩⟩
abbrev StV.val (s : StV) : Value := .agg #[.int .i64 s.cr, .int .i64 s.gr, .slice s.ga s.gn s.gc, .slice s.la s.ln s.lc, .slice s.pa s.pn s.pc]
def StV.C (s : StV) : StC := ⟨s.cr, s.gr, s.gs, s.ls, s.ps.map PgV.c⟩
structure StV.In (s : StV) (w : World) : Prop where
  hgn : s.gn = s.gs.length
  hg : Sr fI 1 s.gs (.slice s.ga s.gn s.gc) w
  hln : s.ln = s.ls.length
  hl : Sr fL 5 s.ls (.slice s.la s.ln s.lc) w
  hpn : s.pn = s.ps.length
  hp : Sr fPg 2 s.ps (.slice s.pa s.pn s.pc) w
  ops : PgsIn s.ps w
theorem StV.In.ext {s : StV} {w w' : World} (h : s.In w) (k : Ext w w') : s.In w' := ⟨h.hgn, h.hg.ext k, h.hln, h.hl.ext k, h.hpn, h.hp.ext k, h.ops.ext k⟩
end Go.Eng
namespace Go.Eng
open Go Go.Proofs Go.RowKit
structure SetI (ws : List Wrd) (i0 : Nat) (gs : List Int) (i1 : Nat) (e1 : Int) (ls : List CLk) (i2 : Nat) (e2 : Int) (ps : List PgC) (pl : List Int) (i3 : Nat) (e3 : Int) : Prop where
  g : (sG ws i0).2 = (i1, e1) ∧ (e1 = 0 → (sG ws i0).1 = gs)
  l : lkL ws i1 e1 [] = (ls, i2, e2)
  p : pgL ws i2 e2 [] [] = (ps, pl, i3, e3)
theorem SetI.two {ws : List Wrd} {i0 : Nat} {gs : List Int} {i1 : Nat} {e1 : Int} {ls : List CLk} {i2 : Nat} {e2 : Int} {ps : List PgC} {pl : List Int} {i3 : Nat} {e3 : Int} (h : SetI ws i0 gs i1 e1 ls i2 e2 ps pl i3 e3) : sL ws i0 = (ls, i2, e2) ∧ sP ws i0 = (ps, pl, i3, e3) := by
  have a : sL ws i0 = (ls, i2, e2) := by unfold Go.Eng.sL; rw [h.g.1]; exact h.l
  exact ⟨a, by unfold sP; rw [a]; exact h.p⟩
theorem SetI.ok {ws : List Wrd} {i0 : Nat} {gs : List Int} {i1 : Nat} {e1 : Int} {ls : List CLk} {i2 : Nat} {e2 : Int} {ps : List PgC} {pl : List Int} {i3 : Nat} {e3 : Int} (h : SetI ws i0 gs i1 e1 ls i2 e2 ps pl i3 e3) (he : e3 = 0) (h0 : ps.any (misB ls ps.length) = false) : stpR ws i0 = (⟨(sA ws i0).2.2, (sB2 ws i0).2.2, gs, ls, ps⟩, (i3 : Int), 0) := by
  have z2 : e2 = 0 := by
    have := pgF_zero (ws := ws) _ i2 e2 [] [] (by have := h.p; unfold pgL at this; rw [this]; exact he)
    exact this
  have z1 : e1 = 0 := by
    have := lkF_zero (ws := ws) _ i1 e1 [] (by have := h.l; unfold lkL at this; rw [this]; exact z2)
    exact this
  have e' : misI ls ps = -1 := fix_miss h0
  unfold stpR; rw [h.two.2, h.two.1]; simp only; rw [if_neg (by simp [he]), e', if_neg (by decide), h.g.2 z1]
def StT (r : StC × Int × Int) (n0 : Nat) (v : Value) (m : Mem0) : Prop := ∃ sv : StV, v = .tuple #[sv.val, .int .i64 r.2.1, .int .i64 r.2.2] ∧ sv.C = r.1 ∧ ∀ w, Mem w m → sv.In w
theorem StT.mono {r : StC × Int × Int} : ∀ (k k' : Nat) u m, k' ≤ k → StT r k u m → StT r k' u m := fun k k' u m h q => q
abbrev sO (c g : Int) (ga : Option Addr) (gn gc : Nat) (la : Option Addr) (ln lc : Nat) (pa : Option Addr) (pn pc : Nat) : Obj := .cells #[.int .i64 c, .int .i64 g, .slice ga gn gc, .slice la ln lc, .slice pa pn pc] 45 (0, 0)
abbrev z0 : Obj := sO 0 0 none 0 0 none 0 0 none 0 0
end Go.Eng
namespace Go.Eng
open Go Go.Proofs Go.RowKit
end Go.Eng
namespace Go.Eng
open Go Go.RowKit
structure Act where
  k : Int
  a : Int
  b : Int
  c : Int
  d : Int
deriving DecidableEq
instance : Inhabited Act := ⟨⟨0, 0, 0, 0, 0⟩⟩
def fA (o : Act) : List Value := [.int .i64 o.k, .int .i64 o.a, .int .i64 o.b, .int .i64 o.c, .int .i64 o.d]
/-! what is parsed may be -/
end Go.Eng
namespace Go.Eng
open Go Go.Proofs Go.RowKit
end Go.Eng
namespace Go.Eng
open Go Go.Proofs Go.RowKit
end Go.Eng
namespace Go.Eng
open Go Go.Proofs Go.RowKit
def EachT (fv : Bool) (ad : Option Addr) (n cap : Nat) (n0 : Nat) (v : Value) (m : Mem0) : Prop := ∃ b1, v = .func (.func 182) #[] #[.pointer (some ⟨b1, 0, none⟩)] ∧ m = [pB b1 fv ad n cap] ∧ n0 ≤ b1
theorem EachT.mono {fv : Bool} {ad : Option Addr} {n cap : Nat} : ∀ (k k' : Nat) u m, k' ≤ k → EachT fv ad n cap k u m → EachT fv ad n cap k' u m := fun k k' u m h ⟨b1, h1, h2, h3⟩ => ⟨b1, h1, h2, by omega⟩
end Go.Eng
namespace Go.Eng
open Go Go.Proofs Go.RowKit
end Go.Eng
namespace Go.Eng
open Go Go.Proofs Go.RowKit
def AcT (r : List Act × Int × Int) (n0 : Nat) (v : Value) (m : Mem0) : Prop := ∃ ad n cap, v = .tuple #[.slice ad n cap, .int .i64 r.2.1, .int .i64 r.2.2] ∧ n = r.1.length ∧ Sl fA 163 5 n0 r.1 (.slice ad n cap) m
theorem AcT.mono {r : List Act × Int × Int} : ∀ (k k' : Nat) u m, k' ≤ k → AcT r k u m → AcT r k' u m := fun k k' u m h ⟨ad, n, cap, h1, h2, h3⟩ => ⟨ad, n, cap, h1, h2, h3.mono h⟩
end Go.Eng
namespace Go.Eng
open Go Go.Proofs Go.RowKit
end Go.Eng
namespace Go.Eng
open Go Go.Proofs Go.RowKit
structure ScV where
  sv : StV
  xs : List Act
  ad : Option Addr
  n : Nat
  cap : Nat
abbrev ScV.val (x : ScV) : Value := .agg #[.int .i64 x.sv.cr, .int .i64 x.sv.gr, .slice x.sv.ga x.sv.gn x.sv.gc, .slice x.sv.la x.sv.ln x.sv.lc, .slice x.sv.pa x.sv.pn x.sv.pc, .slice x.ad x.n x.cap]
structure ScV.In (x : ScV) (w : World) : Prop where
  st : x.sv.In w
  hn : x.n = x.xs.length
  hx : Sr fA 5 x.xs (.slice x.ad x.n x.cap) w
theorem ScV.In.ext {x : ScV} {w w' : World} (h : x.In w) (k : Ext w w') : x.In w' := ⟨h.st.ext k, h.hn, h.hx.ext k⟩
def SpT (r : StC × List Act × Int × Int) (n0 : Nat) (v : Value) (m : Mem0) : Prop := ∃ x : ScV, v = .tuple #[x.val, .int .i64 r.2.2.1, .int .i64 r.2.2.2] ∧ x.sv.C = r.1 ∧ x.xs = r.2.1 ∧ ∀ w, Mem w m → x.In w
theorem SpT.mono {r : StC × List Act × Int × Int} : ∀ (k k' : Nat) u m, k' ≤ k → SpT r k u m → SpT r k' u m := fun k k' u m h q => q
end Go.Eng
namespace Go.Eng
open Go Go.Proofs Go.RowKit
theorem mayEv_eq (e : Evt) : mayEv e = (decide (e.tm.toNat ≤ (1048576#64).toNat) && decide (evT e.k ≠ []) && inB e.t 0 63 && inB e.l (-1) 7 && inB e.n 0 999) := by unfold mayEv; rw [evT_empty]; rfl
set_option maxRecDepth 100000 in
theorem enames_spec (w : World) : Ret Tryd.prog 64 #[] w (New fB 9 1 evW w) := by
 refine Ret.enterM (l := []) Tryd.func64 rfl Tryd.ntmps64 rfl ([]) (no) (Mem.nil w) ?_
 refine wpM.seq (wpM.region ?_)
 refine LM.as rfl ?_
 refine LM.nil (QM.sub (e' := []) trivial (QM.then (wpM.seq (wpM.region ?_))))
 refine LM.row (vs := [_, _, _, _, _, _, _, _, _, _, _, _, _, _, _]) Tryd.underlying119 Tryd.sizeOf9 Tryd.zeroValue9 rfl rfl rfl rfl rfl rfl (fun b1 hb1 => ?_)
 refine LM.as rfl ?_
 refine LM.nil (QM.sub (e' := [(0, _)]) ⟨rfl, trivial⟩ (QM.then ?_))
 refine wpM.ret ?_
 refine QM.leave (.inl rfl) [.tmp 0] Tryd.results64 rfl ?_
 intro w' hm' hc' hg'
 exact ⟨hc', [(b1, .cells (arr fB evW []) 9 (0, 0))], .inr ⟨b1, 15, [], hb1, rfl, rfl, by decide, by unfold maxLen; decide, rfl⟩, hm'⟩
set_option maxRecDepth 100000 in
theorem ename_spec (k : Int) (w : World) : Ret Tryd.prog 59 #[.int .i64 k] w (fun v w' => v = vS (evT k) ∧ Ext w w') := by
 refine Ret.enterM (l := [.int .i64 k]) Tryd.func59 rfl Tryd.ntmps59 rfl ([]) (no) (Mem.nil w) ?_
 refine wpM.seq (wpM.region ?_)
 refine LM.as rfl ?_
 refine LM.nil (QM.sub (e' := [(0, _)]) ⟨rfl, trivial⟩ (QM.then ?_))
 refine wpM.seq ?_
 refine wpM.seq (wpM.region ?_)
 refine LM.mv rfl ?_
 refine LM.val (ov_lss rfl rfl) ?_
 refine LM.mv rfl ?_
 refine LM.splitD (t := 5) rfl (fun h1 => ?_) (fun h1 => ?_)
 ·
  refine LM.dr 5 rfl rfl rfl (LM.dr 5 rfl rfl rfl (LM.dr 5 rfl rfl rfl (LM.dr 5 rfl rfl rfl ?_)))
  refine LM.val (ov_pickT rfl rfl) ?_
  refine LM.nil (QM.sub (e' := [(0, _), (10, _)]) au9 (QM.then ?_))
  refine wpM.condT rfl ?_
  refine wpM.seq (wpM.region ?_)
  refine LM.as rfl ?_
  refine LM.nil (QM.sub (e' := [(2, _)]) ⟨rfl, trivial⟩ (QM.then ?_))
  refine wpM.ret ?_
  refine QM.then_ret ?_
  refine QM.leave (.inl rfl) [.tmp 2] Tryd.results59 rfl ?_
  intro w' hm' hc' hg'
  have hl13 : evW.length = 15 := rfl; refine ⟨?_, hc'⟩; show vS _ = _; congr 1; first | (rw [evT, if_neg (by omega)]; done) | (rw [evT, if_pos (by omega)]; rfl)
 refine LM.sp 5 rfl rfl rfl (LM.mv rfl (LM.sp 5 rfl rfl rfl ?_))
 refine LM.cS (oc_call (enters_fn Tryd.func64 (by kernel_rfl) rfl) rfl) (fun w hm hc hg => enames_spec w) (fun ad7 n7 cap7 m7 hn7 hs7 => ?_)
 refine LM.sp 5 rfl rfl rfl ?_
 refine LM.val (ov_len Tryd.underlying119 rfl) ?_
 refine LM.sp 5 rfl rfl rfl ?_
 have hl12 : n7 = 15 := hn7
 refine LM.val (ov_geq rfl rfl) ?_
 refine LM.val (ov_pickF rfl rfl) ?_
 refine LM.nil (QM.sub (e' := [(0, _), (10, _)]) au9 (QM.then ?_))
 refine wpM.condD rfl (fun h2 => ?_) (fun h2 => ?_)
 ·
  refine wpM.seq (wpM.region ?_)
  refine LM.as rfl ?_
  refine LM.nil (QM.sub (e' := [(2, _)]) ⟨rfl, trivial⟩ (QM.then ?_))
  refine wpM.ret ?_
  refine QM.then_ret ?_
  refine QM.leave (.inl rfl) [.tmp 2] Tryd.results59 rfl ?_
  intro w' hm' hc' hg'
  have hl13 : evW.length = 15 := rfl; refine ⟨?_, hc'⟩; show vS _ = _; congr 1; first | (rw [evT, if_neg (by omega)]; done) | (rw [evT, if_pos (by omega)]; rfl)
 refine wpM.skip ?_
 refine QM.then (wpM.seq (wpM.region ?_))
 refine LM.cS (oc_call (enters_fn Tryd.func64 (by kernel_rfl) rfl) rfl) (fun w hm hc hg => enames_spec w) (fun ad11 n11 cap11 m11 hn11 hs11 => ?_)
 have hl12 : n11 = 15 := hn11
 refine LM.mv rfl ?_
 first | refine LM.val (ov_idxSN au6 Tryd.underlying119 Tryd.sizeOf9 rfl rfl (by omega)) ?_ | refine LM.val (ov_idxS au6 Tryd.underlying119 Tryd.sizeOf9 rfl rfl (by omega)) ?_ | refine LM.val (ov_idx1 Tryd.underlying119 Tryd.sizeOf9 rfl rfl (by omega)) ?_
 refine LM.rd (om_sl1 (by assumption) (by intro _; rfl) Tryd.isAgg9 rfl rfl au3 (by rfl)) ?_
 refine LM.as rfl ?_
 refine LM.nil (QM.sub (e' := [(2, _)]) ⟨rfl, trivial⟩ (QM.then ?_))
 refine wpM.ret ?_
 refine QM.leave (.inl rfl) [.tmp 2] Tryd.results59 rfl ?_
 intro w' hm' hc' hg'
 have hl13 : evW.length = 15 := rfl; refine ⟨?_, hc'⟩; show vS _ = _; congr 1; first | (rw [evT, if_neg (by omega)]; done) | (rw [evT, if_pos (by omega)]; rfl)
set_option maxRecDepth 100000 in
theorem within_spec (n lo hi : Int) (w : World) : Ret Tryd.prog 88 #[.int .i64 n, .int .i64 lo, .int .i64 hi] w (fun v w' => v = .bool (inB n lo hi) ∧ Ext w w') := by
 refine Ret.enterM (l := [.int .i64 n, .int .i64 lo, .int .i64 hi]) Tryd.func88 rfl Tryd.ntmps88 rfl ([]) (no) (Mem.nil w) ?_
 refine wpM.seq (wpM.region ?_)
 refine LM.as rfl ?_
 refine LM.nil (QM.sub (e' := [(0, _), (1, _), (2, _)]) au9 (QM.then (wpM.seq (wpM.region ?_))))
 refine LM.mv rfl (LM.mv rfl ?_)
 refine LM.val (ov_geq rfl rfl) ?_
 refine LM.mv rfl ?_
 refine LM.splitD (t := 10) rfl (fun h1 => ?_) (fun h1 => ?_)
 ·
  refine LM.sp 10 rfl rfl rfl (LM.mv rfl (LM.sp 10 rfl rfl rfl (LM.mv rfl (LM.sp 10 rfl rfl rfl ?_))))
  refine LM.val (ov_leq rfl rfl) ?_
  refine LM.val (ov_pickT rfl rfl) ?_
  refine LM.as rfl ?_
  refine LM.nil (QM.sub (e' := [(6, _)]) ⟨rfl, trivial⟩ (QM.then ?_))
  refine wpM.ret ?_
  refine QM.leave (.inl rfl) [.tmp 6] Tryd.results88 rfl ?_
  intro w' hm' hc' hg'
  refine ⟨?_, hc'⟩; simp only [resV, inB]; simp only [h1, decide_true, decide_false, Bool.true_and, Bool.false_and, Bool.and_true, Bool.and_false, Bool.not_true, Bool.not_false, Bool.true_or, Bool.false_or, Bool.or_true, Bool.or_false, ne_eq, not_true_eq_false, not_false_eq_true, Bool.and_self]
 refine LM.dr 10 rfl rfl rfl (LM.dr 10 rfl rfl rfl (LM.dr 10 rfl rfl rfl ?_))
 refine LM.val (ov_pickF rfl rfl) ?_
 refine LM.as rfl ?_
 refine LM.nil (QM.sub (e' := [(6, _)]) ⟨rfl, trivial⟩ (QM.then ?_))
 refine wpM.ret ?_
 refine QM.leave (.inl rfl) [.tmp 6] Tryd.results88 rfl ?_
 intro w' hm' hc' hg'
 refine ⟨?_, hc'⟩; simp only [resV, inB]; simp only [h1, decide_true, decide_false, Bool.true_and, Bool.false_and, Bool.and_true, Bool.and_false, Bool.not_true, Bool.not_false, Bool.true_or, Bool.false_or, Bool.or_true, Bool.or_false, ne_eq, not_true_eq_false, not_false_eq_true, Bool.and_self]
set_option maxRecDepth 100000 in
theorem emay_spec (e : Evt) (w : World) : Ret Tryd.prog 55 #[.agg (fE e).toArray] w (fun v w' => v = .bool (mayEv e) ∧ Ext w w') := by
 refine Ret.enterM (l := [.agg (fE e).toArray]) Tryd.func55 rfl Tryd.ntmps55 rfl ([]) (no) (Mem.nil w) ?_
 refine wpM.seq (wpM.region ?_)
 refine LM.box rfl rfl (fun b1 hb1 => ?_)
 refine LM.as rfl ?_
 refine LM.nil (QM.sub (e' := [(1, _)]) ⟨rfl, trivial⟩ (QM.then (wpM.seq (wpM.region ?_))))
 refine LM.as rfl ?_
 refine LM.nil (QM.sub (e' := [(1, _), (3, _)]) au9 (QM.then (wpM.seq (wpM.region ?_))))
 refine LM.val (ov_field Tryd.underlying39 rfl Tryd.sizeOf37 rfl (k := 0) rfl rfl) ?_
 refine LM.rd (om_ld Tryd.isAgg37 rfl rfl) ?_
 refine LM.val (ov_uleq (b := 1048576#64) rfl rfl) ?_
 refine LM.mv rfl ?_
 refine LM.splitD (t := 7) rfl (fun h1 => ?_) (fun h1 => ?_)
 ·
  refine LM.sp 7 rfl rfl rfl (LM.val (ov_field Tryd.underlying39 rfl Tryd.sizeOf3 rfl (k := 1) rfl rfl) (LM.sp 7 rfl rfl rfl ?_))
  refine LM.rd (om_ld Tryd.isAgg3 rfl rfl) ?_
  refine LM.sp 7 rfl rfl rfl ?_
  refine LM.callE (oc_call (enters_fn Tryd.func59 (by kernel_rfl) rfl) rfl) (fun w hm hc hg => ename_spec e.k w) ?_
  refine LM.sp 7 rfl rfl rfl ?_
  refine LM.val (ov_sneqL rfl rfl) ?_
  refine LM.val (ov_pickT rfl rfl) ?_
  refine LM.mv rfl ?_
  refine LM.splitD (t := 13) rfl (fun h2 => ?_) (fun h2 => ?_)
  ·
   refine LM.sp 13 rfl rfl rfl (LM.mv rfl (LM.sp 13 rfl rfl rfl (LM.val (ov_field Tryd.underlying39 rfl Tryd.sizeOf3 rfl (k := 2) rfl rfl) (LM.sp 13 rfl rfl rfl ?_))))
   refine LM.rd (om_ld Tryd.isAgg3 rfl rfl) ?_
   refine LM.sp 13 rfl rfl rfl ?_
   refine LM.callE (oc_callV rfl (enters_fn Tryd.func88 (by kernel_rfl) rfl) rfl) (fun w hm hc hg => within_spec _ _ _ w) ?_
   refine LM.val (ov_pickT rfl rfl) ?_
   refine LM.mv rfl ?_
   first | refine LM.splitD (t := 19) rfl (fun h3 => ?_) (fun h3 => ?_) | refine LM.splitB (t := 19) rfl (fun h3 => ?_) (fun h3 => ?_)
   ·
    refine LM.sp 19 rfl rfl rfl (LM.mv rfl (LM.sp 19 rfl rfl rfl (LM.val (ov_field Tryd.underlying39 rfl Tryd.sizeOf3 rfl (k := 3) rfl rfl) (LM.sp 19 rfl rfl rfl ?_))))
    refine LM.rd (om_ld Tryd.isAgg3 rfl rfl) ?_
    refine LM.sp 19 rfl rfl rfl ?_
    refine LM.callE (oc_callV rfl (enters_fn Tryd.func88 (by kernel_rfl) rfl) rfl) (fun w hm hc hg => within_spec _ _ _ w) ?_
    refine LM.val (ov_pickT rfl rfl) ?_
    refine LM.mv rfl ?_
    first | refine LM.splitD (t := 25) rfl (fun h4 => ?_) (fun h4 => ?_) | refine LM.splitB (t := 25) rfl (fun h4 => ?_) (fun h4 => ?_)
    ·
     refine LM.sp 25 rfl rfl rfl (LM.mv rfl (LM.sp 25 rfl rfl rfl (LM.val (ov_field Tryd.underlying39 rfl Tryd.sizeOf3 rfl (k := 4) rfl rfl) (LM.sp 25 rfl rfl rfl ?_))))
     refine LM.rd (om_ld Tryd.isAgg3 rfl rfl) ?_
     refine LM.sp 25 rfl rfl rfl ?_
     refine LM.callE (oc_callV rfl (enters_fn Tryd.func88 (by kernel_rfl) rfl) rfl) (fun w hm hc hg => within_spec _ _ _ w) ?_
     refine LM.val (ov_pickT rfl rfl) ?_
     refine LM.as rfl ?_
     refine LM.nil (QM.sub (e' := [(2, _)]) ⟨rfl, trivial⟩ (QM.then ?_))
     refine wpM.ret ?_
     refine QM.leave (.inl rfl) [.tmp 2] Tryd.results55 rfl ?_
     intro w' hm' hc' hg'
     refine ⟨?_, hc'⟩; rw [mayEv_eq]; simp only [resV]; simp only [h1, h2, h3, h4, decide_true, decide_false, Bool.true_and, Bool.false_and, Bool.and_true, Bool.and_false, Bool.not_true, Bool.not_false, Bool.true_or, Bool.false_or, Bool.or_true, Bool.or_false, ne_eq, not_true_eq_false, not_false_eq_true, Bool.and_self]
    refine LM.dr 25 rfl rfl rfl (LM.dr 25 rfl rfl rfl (LM.dr 25 rfl rfl rfl (LM.dr 25 rfl rfl rfl ?_)))
    refine LM.val (ov_pickF rfl rfl) ?_
    refine LM.as rfl ?_
    refine LM.nil (QM.sub (e' := [(2, _)]) ⟨rfl, trivial⟩ (QM.then ?_))
    refine wpM.ret ?_
    refine QM.leave (.inl rfl) [.tmp 2] Tryd.results55 rfl ?_
    intro w' hm' hc' hg'
    refine ⟨?_, hc'⟩; rw [mayEv_eq]; simp only [resV]; simp only [h1, h2, h3, h4, decide_true, decide_false, Bool.true_and, Bool.false_and, Bool.and_true, Bool.and_false, Bool.not_true, Bool.not_false, Bool.true_or, Bool.false_or, Bool.or_true, Bool.or_false, ne_eq, not_true_eq_false, not_false_eq_true, Bool.and_self]
   refine LM.dr 19 rfl rfl rfl (LM.dr 19 rfl rfl rfl (LM.dr 19 rfl rfl rfl (LM.dr 19 rfl rfl rfl ?_)))
   refine LM.val (ov_pickF rfl rfl) ?_
   refine LM.mv rfl (LM.dr 25 rfl rfl rfl (LM.dr 25 rfl rfl rfl (LM.dr 25 rfl rfl rfl (LM.dr 25 rfl rfl rfl ?_))))
   refine LM.val (ov_pickF rfl rfl) ?_
   refine LM.as rfl ?_
   refine LM.nil (QM.sub (e' := [(2, _)]) ⟨rfl, trivial⟩ (QM.then ?_))
   refine wpM.ret ?_
   refine QM.leave (.inl rfl) [.tmp 2] Tryd.results55 rfl ?_
   intro w' hm' hc' hg'
   refine ⟨?_, hc'⟩; rw [mayEv_eq]; simp only [resV]; simp only [h1, h2, h3, decide_true, decide_false, Bool.true_and, Bool.false_and, Bool.and_true, Bool.and_false, Bool.not_true, Bool.not_false, Bool.true_or, Bool.false_or, Bool.or_true, Bool.or_false, ne_eq, not_true_eq_false, not_false_eq_true, Bool.and_self]
  refine LM.dr 13 rfl rfl rfl (LM.dr 13 rfl rfl rfl (LM.dr 13 rfl rfl rfl (LM.dr 13 rfl rfl rfl ?_)))
  refine LM.val (ov_pickF rfl rfl) ?_
  refine LM.mv rfl (LM.dr 19 rfl rfl rfl (LM.dr 19 rfl rfl rfl (LM.dr 19 rfl rfl rfl (LM.dr 19 rfl rfl rfl ?_))))
  refine LM.val (ov_pickF rfl rfl) ?_
  refine LM.mv rfl (LM.dr 25 rfl rfl rfl (LM.dr 25 rfl rfl rfl (LM.dr 25 rfl rfl rfl (LM.dr 25 rfl rfl rfl ?_))))
  refine LM.val (ov_pickF rfl rfl) ?_
  refine LM.as rfl ?_
  refine LM.nil (QM.sub (e' := [(2, _)]) ⟨rfl, trivial⟩ (QM.then ?_))
  refine wpM.ret ?_
  refine QM.leave (.inl rfl) [.tmp 2] Tryd.results55 rfl ?_
  intro w' hm' hc' hg'
  refine ⟨?_, hc'⟩; rw [mayEv_eq]; simp only [resV]; simp only [h1, h2, decide_true, decide_false, Bool.true_and, Bool.false_and, Bool.and_true, Bool.and_false, Bool.not_true, Bool.not_false, Bool.true_or, Bool.false_or, Bool.or_true, Bool.or_false, ne_eq, not_true_eq_false, not_false_eq_true, Bool.and_self]
 refine LM.dr 7 rfl rfl rfl (LM.dr 7 rfl rfl rfl (LM.dr 7 rfl rfl rfl (LM.dr 7 rfl rfl rfl ?_)))
 refine LM.val (ov_pickF rfl rfl) ?_
 refine LM.mv rfl (LM.dr 13 rfl rfl rfl (LM.dr 13 rfl rfl rfl (LM.dr 13 rfl rfl rfl (LM.dr 13 rfl rfl rfl ?_))))
 refine LM.val (ov_pickF rfl rfl) ?_
 refine LM.mv rfl (LM.dr 19 rfl rfl rfl (LM.dr 19 rfl rfl rfl (LM.dr 19 rfl rfl rfl (LM.dr 19 rfl rfl rfl ?_))))
 refine LM.val (ov_pickF rfl rfl) ?_
 refine LM.mv rfl (LM.dr 25 rfl rfl rfl (LM.dr 25 rfl rfl rfl (LM.dr 25 rfl rfl rfl (LM.dr 25 rfl rfl rfl ?_))))
 refine LM.val (ov_pickF rfl rfl) ?_
 refine LM.as rfl ?_
 refine LM.nil (QM.sub (e' := [(2, _)]) ⟨rfl, trivial⟩ (QM.then ?_))
 refine wpM.ret ?_
 refine QM.leave (.inl rfl) [.tmp 2] Tryd.results55 rfl ?_
 intro w' hm' hc' hg'
 refine ⟨?_, hc'⟩; rw [mayEv_eq]; simp only [resV]; simp only [h1, decide_true, decide_false, Bool.true_and, Bool.false_and, Bool.and_true, Bool.and_false, Bool.not_true, Bool.not_false, Bool.true_or, Bool.false_or, Bool.or_true, Bool.or_false, ne_eq, not_true_eq_false, not_false_eq_true, Bool.and_self]
end Go.Eng
namespace Go.Eng
open Go Go.Proofs Go.RowKit
section
variable {P : Program} {e : Env} {x : Operand} {t ty : TypeId} {M : Mem0}
theorem ov_arrHi {hi : Operand} {k' : IntKind} {h : Int} {b n s : Nat} {E : TypeId} (hU : P.underlying t = some (.array n E)) (hS : ∀ w, (sizeOf E).run P w = .ok s w) (ha : ev e x = some (.pointer (some ⟨b, 0, none⟩))) (hh : ev e hi = some (.int k' h))
    (h1 : 0 ≤ h) (h3 : h ≤ n) : OpP P (.slice t x none (some hi) none) ty e (.slice (some ⟨b, 0, none⟩) h.toNat n) := fun w ρ hρ _ _ _ _ => by
  have hal : P.arrayLen t = n := by simp [Program.arrayLen, hU]
  have hel : P.elem t = E := by simp [Program.elem, hU]
  have hr := run_sliceAt_array_h w t ⟨b, 0, none⟩ (by rw [hal, hel]; exact hU) k' h h1 (by rw [hal]; exact h3)
  rw [hel, hal] at hr
  simp only [execOp, hρ x _ ha, Option.map_some, Option.map_none, hρ hi _ hh]
  simp [hr, hS, Result.andThen, slicedAt, Addr.add]
theorem om_bytes {src dst F : TypeId} {b n cap : Nat} {cs : Array Value} {T : TypeId} {fz : Nat × Nat} {l : List UInt8} {M2 : Mem0} (hs : P.underlying src = some (.slice F)) (he : P.underlying F = some (.int .u8)) (hd : P.underlying dst = some .string)
    (hx : ev e x = some (.slice (some ⟨b, 0, none⟩) n cap)) [h : Fnd M b (.cells cs T fz) M2] (hn : n = l.length) (hc : ∀ j (hj : j < l.length), cs[j]? = some (.int .u8 (l[j].toNat : Int))) : ∀ w, Mem w M → OpV P (.convert src dst x) ty e w (vS l) w := fun w hm ρ hρ _ _ _ _ => by
  subst hn
  have hb := (hm.perm h.perm).get (i := 0) rfl
  have hr := run_convert_bytes_back (P := P) w src dst F ⟨b, 0, none⟩ cap l hs he hd (fun j hj => by
    rw [add_off, Nat.zero_add]
    simp [World.cell?, hb, hc j hj])
  simp [execOp, hρ x _ hx, hr, Result.andThen]
end
def DigT (u b T : Nat) (v : Value) (m : Mem0) : Prop := v = .tuple #[] ∧ ∃ cs, m = [(b, .cells cs T (0, 0))] ∧ ∀ j (hj : j < (Lib.decDigits u).length), cs[j]? = some (.int .u8 ((Lib.decDigits u)[j].toNat : Int))
theorem small_ret {u : Nat} {n : Int} (hn : n = (u : Int)) (hu : u < 100) (w : World) : Ret Tryd.prog 120 #[.int .i64 n] w (fun v w' => v = vS (Lib.decDigits u) ∧ Ext w w') := hn ▸
  (Any.internal_strconv_small { lm171 with } u hu w).mono (fun e w' ⟨he, hw⟩ => ⟨_, he, rfl, by rw [hw]; exact Chg.refl _ _⟩)
theorem nd_ret {u : Nat} (h1 : 1 ≤ u) (hu : u < 18446744073709551616) (w : World) (hT : Tb w) : Ret Tryd.prog 121 #[.int .u64 (u : Nat)] w (fun v w' => v = .int .i64 (Lib.nDigits u : Nat) ∧ Ext w w') :=
  (Any.internal_strconv_numDigits { lm171 with } u h1 hu w hT).mono (fun e w' ⟨he, hw⟩ => ⟨_, he, rfl, by rw [hw]; exact Chg.refl _ _⟩)
theorem fb10_ret {u b T : Nat} (hu : u < 18446744073709551616) (hn : Lib.nDigits u ≤ 24) (w : World) (hM : Mem w [(b, .cells Lib.zeros24 T (0, 0))]) :
    Ret Tryd.prog 122 #[.slice (some ⟨b, 0, none⟩) (Lib.nDigits u) 24, .int .u64 (u : Nat)] w (Upd [(b, .cells Lib.zeros24 T (0, 0))] (DigT u b T) w) := by
  have hb := hM.get (i := 0) rfl
  have hH : Sort.Holds (fun (b : UInt8) => Value.int .u8 (b.toNat : Int)) w b 0 (Array.replicate (Lib.nDigits u) 0) := fun j hj => by
    have hj' : j < Lib.nDigits u := by simpa using hj
    refine ⟨?_, ?_⟩
    · rw [getElem!_pos _ j hj]; simp [World.cell?, hb, Lib.zeros24_at j (by omega)]
    · simp [World.frozen?, hb]
  have h := Any.internal_strconv_formatBase10 (P := Tryd.prog) { lm171 with } b 0 24 u (Array.replicate (Lib.nDigits u) 0) w hH (by rw [Array.size_replicate]; exact Lib.lt_pow_nDigits u) hu (by rw [Array.size_replicate]; omega)
  rw [Array.size_replicate] at h
  obtain ⟨hlt, hk⟩ := Array.getElem?_eq_some_iff.1 hb
  refine h.mono (fun e w' ⟨he, k, v', dk, hw, hF⟩ => ⟨_, he, ?_, ?_⟩)
  · subst hw
    refine ⟨rfl, rfl, rfl, by simp [Sort.putRow, Sort.mapBlock], fun x hx hn => ?_⟩
    have hne : b ≠ x := fun q => hn ⟨_, List.mem_cons_self .., q⟩
    simp [Sort.putRow, Sort.mapBlock, Array.getElem?_modify, hne]
  · subst hw
    refine ⟨[(b, .cells (Sort.putCells (fun (b : UInt8) => Value.int .u8 (b.toNat : Int)) 0 dk Lib.zeros24) T (0, 0))], ⟨rfl, _, rfl, fun j hj => ?_⟩, ⟨by simp, fun p hp => ?_⟩, fun p hp => .inr ⟨_, List.mem_cons_self .., by rw [List.mem_singleton] at hp; rw [hp]⟩⟩
    · have hj' : j < Lib.nDigits u := by rwa [Lib.decDigits_length] at hj
      rw [Lib.row_is_numeral hF j hj]
      unfold Sort.putCells
      rw [Array.getElem?_mapIdx, Lib.zeros24_at j (by omega), Option.map_some, if_pos ⟨Nat.zero_le _, by rw [hF.size]; omega⟩, Nat.sub_zero]
    · rw [List.mem_singleton] at hp
      subst hp
      simp [Sort.putRow, Sort.mapBlock, Array.getElem?_modify, hb, Sort.onCells]
set_option maxRecDepth 100000 in
theorem ifmtU_spec (u : BitVec 64) (w : World) (hu : u.toNat ≤ 1048576) (hT : Tb w) : Ret Tryd.prog 91 #[U u, .int .i64 10] w (fun v w' => v = vS (digF 10 u.toNat) ∧ Ext w w') := by
 have hti : u.toInt = ((u.toNat : Nat) : Int) := BitVec.toInt_eq_toNat_of_lt (by omega); have hg : Lib.decDigits u.toNat = digF 10 u.toNat := (digF_eq 9 u.toNat (by omega)).symm; have hd7 : Lib.nDigits u.toNat ≤ 10 := (by rw [← Lib.decDigits_length, hg]; exact digF_len 10 _)
 refine Ret.enterM (l := [U u, .int .i64 10]) Tryd.func91 rfl Tryd.ntmps91 rfl ([]) (no) (Mem.nil w) ?_
 refine wpM.seq (wpM.region ?_)
 refine LM.as rfl ?_
 refine LM.nil (QM.sub (e' := [(0, _), (1, _)]) au9 (QM.then ?_))
 refine wpM.seq ?_
 refine wpM.seq (wpM.region ?_)
 refine LM.mv rfl ?_
 refine LM.val (ov_eql rfl rfl) ?_
 refine LM.nil (QM.sub (e' := [(0, _), (1, _), (10, _)]) au9 (QM.then ?_))
 refine wpM.condD rfl (fun h1 => ?_) (fun h1 => ?_)
 ·
  refine wpM.seq ?_
  refine wpM.seq (wpM.region ?_)
  refine LM.mv rfl ?_
  refine LM.val (ov_ulss (b := 100#64) rfl rfl) ?_
  refine LM.nil (QM.sub (e' := [(0, _), (12, _)]) au9 (QM.then ?_))
  refine wpM.condD rfl (fun h2 => ?_) (fun h2 => ?_)
  ·
   have h2p : u.toNat < 100 := (by simpa using h2)
   refine wpM.seq (wpM.region ?_)
   refine LM.mv rfl ?_
   refine LM.val (ov_ofU Tryd.underlying37 Tryd.underlying3 rfl) ?_
   refine LM.callE (oc_call (enters_fn Tryd.func120 (by kernel_rfl) rfl) rfl) (fun w hm hc hg => small_ret (u := u.toNat) hti (by omega) w) ?_
   refine LM.as rfl ?_
   refine LM.nil (QM.sub (e' := [(4, _)]) ⟨rfl, trivial⟩ (QM.then ?_))
   refine wpM.ret ?_
   refine QM.then_ret ?_
   refine QM.then_ret ?_
   refine QM.leave (.inl rfl) [.tmp 4] Tryd.results91 rfl ?_
   intro w' hm' hc' hg'
   refine ⟨?_, hc'⟩; show vS _ = _; rw [hg]
  have h2n : ¬ u.toNat < 100 := (by simpa using h2)
  refine wpM.skip ?_
  refine QM.then (wpM.seq (wpM.region ?_))
  refine LM.alloc Tryd.zeroValue179 rfl (fun b5 hb5 => ?_)
  refine LM.nil (QM.sub (e' := [(0, _), (5, _)]) au9 (QM.then (wpM.seq (wpM.region ?_))))
  change LM _ _ _ _ _ _ _ _ ((b5, Obj.cells Lib.zeros24 179 (0, 0)) :: _) _ _ _
  refine LM.mv rfl ?_
  refine LM.callE (oc_call (enters_fn Tryd.func121 (by kernel_rfl) rfl) rfl) (fun w hm hc hg => nd_ret (u := u.toNat) (by omega) (by omega) w (hT.ext hc)) ?_
  refine LM.as rfl ?_
  refine LM.nil (QM.sub (e' := [(0, _), (5, _), (6, _)]) au9 (QM.then (wpM.seq (wpM.region ?_))))
  refine LM.mv rfl ?_
  refine LM.val (ov_arrHi Tryd.underlying179 Tryd.sizeOf5 rfl rfl (by omega) (by omega)) ?_
  refine LM.mv rfl ?_
  refine LM.cU (oc_call (enters_fn Tryd.func122 (by kernel_rfl) rfl) rfl) (fun w hm hc hg => fb10_ret (u := u.toNat) (b := b5) (T := 179) (by omega) (by omega) w (hm.pick _)) (by intro p hp; rw [List.mem_singleton] at hp; subst hp; rfl) (fun p hp hlt => by rw [List.mem_singleton] at hp; subst hp; exact absurd hlt (by omega)) ?_
  rintro u21 m21 ⟨rfl, cs21, rfl, hcs21⟩ hin21
  refine LM.nil (QM.sub (e' := [(5, _), (6, _)]) au9 (QM.then (wpM.seq (wpM.region ?_))))
  refine LM.mv rfl ?_
  refine LM.val (ov_arrHi Tryd.underlying179 Tryd.sizeOf5 rfl rfl (by omega) (by omega)) ?_
  refine LM.rd (om_bytes (l := Lib.decDigits u.toNat) Tryd.underlying27 Tryd.underlying5 Tryd.underlying9 rfl (by rw [Lib.decDigits_length]; rfl) hcs21) ?_
  refine LM.as rfl ?_
  refine LM.nil (QM.sub (e' := [(4, _)]) ⟨rfl, trivial⟩ (QM.then ?_))
  refine wpM.ret ?_
  refine QM.then_ret ?_
  refine QM.leave (.inl rfl) [.tmp 4] Tryd.results91 rfl ?_
  intro w' hm' hc' hg'
  refine ⟨?_, hc'⟩; show vS _ = _; rw [hg]
 exfalso; exact h1 rfl
set_option maxRecDepth 100000 in
theorem fmtU_spec (u : BitVec 64) (w : World) (hu : u.toNat ≤ 1048576) (hT : Tb w) : Ret Tryd.prog 58 #[U u, .int .i64 10] w (fun v w' => v = vS (digF 10 u.toNat) ∧ Ext w w') := by
 refine Ret.enterM (l := [U u, .int .i64 10]) Tryd.func58 rfl Tryd.ntmps58 rfl ([]) (no) (Mem.nil w) ?_
 refine wpM.seq (wpM.region ?_)
 refine LM.as rfl ?_
 refine LM.nil (QM.sub (e' := [(0, _), (1, _)]) au9 (QM.then (wpM.seq (wpM.region ?_))))
 refine LM.mv rfl (LM.mv rfl ?_)
 refine LM.callE (oc_call (enters_fn Tryd.func91 (by kernel_rfl) rfl) rfl) (fun w hm hc hg => ifmtU_spec u w hu (hT.ext hc)) ?_
 refine LM.as rfl ?_
 refine LM.nil (QM.sub (e' := [(4, _)]) ⟨rfl, trivial⟩ (QM.then ?_))
 refine wpM.ret ?_
 refine QM.leave (.inl rfl) [.tmp 4] Tryd.results58 rfl ?_
 intro w' hm' hc' hg'
 exact ⟨rfl, hc'⟩
end Go.Eng
namespace Go.Eng
open Go Go.Proofs Go.RowKit
theorem evT_len (k : Int) : (evT k).length ≤ 8 := by
  unfold evT; split
  · rename_i h
    by_cases q : k = 0
    · subst q; decide
    · rcases ev_cases (k := k) (by omega) with rfl | rfl | rfl | rfl | rfl | rfl | rfl | rfl | rfl | rfl | rfl | rfl | rfl | rfl <;> decide
  · exact Nat.zero_le _
def badN (s : List UInt8) : Bool := decide (s = []) || decide ((7 : Int) < (s.length : Int)) || (decide ((1 : Int) < (s.length : Int)) && decide ((((s.getD (Int.toNat 0) 0).toNat : Nat) : Int) = 48))
theorem numO_eq (s : List UInt8) : numO s = if badN s || !s.all digB then -1 else valD 0 s := by
  unfold numO badN
  have h1 : decide (7 < s.length) = decide ((7 : Int) < (s.length : Int)) := by congr 1; rw [eq_iff_iff]; omega
  have h2 : decide (1 < s.length) = decide ((1 : Int) < (s.length : Int)) := by congr 1; rw [eq_iff_iff]; omega
  have h3 : decide (s.getD 0 0 = 48) = decide ((((s.getD (Int.toNat 0) 0).toNat : Nat) : Int) = 48) := by
    show decide (s.getD 0 0 = 48) = decide ((((s.getD 0 0).toNat : Nat) : Int) = 48)
    congr 1; rw [eq_iff_iff]
    constructor
    · intro h; rw [h]; rfl
    · intro h; apply UInt8.toNat_inj.1; show (s.getD 0 0).toNat = 48; omega
  rw [h1, h2, h3]
theorem badN_len {s : List UInt8} (h : badN s = false) : s.length ≤ 7 := by
  unfold badN at h; simp only [Bool.or_eq_false_iff, decide_eq_false_iff_not] at h; omega
end Go.Eng
namespace Go.Eng
open Go Go.Proofs Go.RowKit
section
variable {P : Program} {r : Option Nat} {N : Nat} {Q : Exit → Go.Act → World → Prop} {e : Env} {ds : List Nat} {M : Mem0} {S : Nat → Prop} {w0 : World} {G : World → Prop}
variable {ops : Array Oper} {l : List Oper} {op : Op} {ty : TypeId} {pos : String} {after : Array Edge} {d : Nat}
theorem LM.cF {f : FuncId} {args : Array Value} {T : Value → Mem0 → Prop} (hG : ∀ w, G w) (hc : ∀ w, OpC P op ty e w f args)
    (h : ∀ w, Mem w M → w0.heap.size ≤ w.heap.size → Ret P f args w (fun u w' => Below w0.heap.size w w' ∧ ∃ m', T u m' ∧ Mem w' m'))
    (hk : ∀ u m', T u m' → LM P r N ops Q l ((d, u) :: e) ds m' S w0 G) (hnd : nd op = true := by rfl) (hd : Nat.blt d N = true := by rfl) :
    LM P r N ops Q (⟨some d, op, ty, pos, after, none⟩ :: l) e ds M S w0 G :=
  .call (R := fun w u w' => Below w0.heap.size w w' ∧ ∃ m', T u m' ∧ Mem w' m') hc (fun w hm hcg hg => h w hm hcg.size)
    (fun w u w' hm hcg hg ⟨hb, m', hT, hm'⟩ => hk u m' hT w' hm' ⟨hb.os.trans hcg.os, hb.tape.trans hcg.tape, hb.output.trans hcg.output, Nat.le_trans hcg.size hb.size, fun x hx hn => (hb.block x hx).trans (hcg.block x hx hn)⟩ (hG w')) hnd hd
end
def GrT (n0 b : Nat) (u : Value) (m : Mem0) : Prop := u = .tuple #[] ∧ Bld 69 5 n0 b [] m
theorem bgrow_ret {n0 b n : Nat} {k : Int} (hk : k = (n : Int)) (hb : n0 ≤ b) {w : World} (hM : Mem w [(b, .cells #[.pointer none, .slice none 0 0] 69 (0, 0))]) (hsz : n0 ≤ w.heap.size) (hn : n ≤ 281474976710656) :
    Ret Tryd.prog 90 #[.pointer (some ⟨b, 0, none⟩), .int .i64 k] w (fun u w' => Below n0 w w' ∧ ∃ m', GrT n0 b u m' ∧ Mem w' m') := hk ▸
  (Any.Builder_Grow_fresh l165 bx n0 b n w hb (hM.get (i := 0) rfl) hsz hn).mono (fun e w' ⟨he, h1, h2⟩ => by
    obtain ⟨m', hB, hm, _⟩ := Bld.of (l := []) (.inr (Lib.BuilderAtF.of h1))
    exact ⟨_, he, h2, m', ⟨rfl, hB⟩, hm⟩)
theorem memD {xs : List (List UInt8)} {i : Nat} (h : i < xs.length) : xs.getD i default ∈ xs := List.mem_of_getElem? (getq default h)
theorem lockT_len (l : Int) : (lockT l).length ≤ 10 := by
  unfold lockT; split
  · exact digF_len 10 _
  · decide
def joS (xs : List (List UInt8)) : List UInt8 := xs.getD 0 [] ++ (xs.drop 1).flatMap (fun x => 32 :: x)
theorem joS_snoc {xs : List (List UInt8)} {k : Nat} (h : k < (xs.drop 1).length) : ((xs.drop 1).take (k + 1)).flatMap (fun x => 32 :: x) = ((xs.drop 1).take k).flatMap (fun x => 32 :: x) ++ [32] ++ (xs.drop 1).getD k default := by
  rw [take_snoc default h, List.flatMap_append]; simp
set_option maxRecDepth 100000 in
set_option maxHeartbeats 2000000 in
theorem joinS_spec {xs : List (List UInt8)} {ad : Option Addr} {n cap : Nat} (w : World) (hn : n = xs.length) (hl : Sr fB 1 xs (.slice ad n cap) w) (h2 : 2 ≤ xs.length) (hx : xs.length ≤ 1000) (ht : ∀ x ∈ xs, x.length ≤ 1000000) : Ret Tryd.prog 57 #[.slice ad n cap, vS [32]] w (fun v w' => v = vS (joS xs) ∧ Ext w w') := by
 have hlD := hl.drop (l := 1) (by omega); have hspD := hlD.spt; have hs1 : ([32] : List UInt8).length = 1 := rfl; have hm1 : ((([32] : List UInt8).length : Nat) : Int) * ((n : Int) - 1) = (n : Int) - 1 := (by simp); have hq1 : (1000000 : Int) ≤ 9223372036854775807 / ((n : Int) - 1) := Int.le_ediv_of_mul_le (by omega) (by omega); have hdl : (xs.drop 1).length = xs.length - 1 := List.length_drop ..
 refine Ret.enterM (l := [.slice ad n cap, vS [32]]) Tryd.func57 rfl Tryd.ntmps57 rfl ([]) (no) (Mem.nil w) ?_
 refine wpM.seq (wpM.region ?_)
 refine LM.as rfl ?_
 refine LM.nil (QM.sub (e' := [(0, _), (1, _)]) au9 (QM.then ?_))
 refine wpM.seq ?_
 refine wpM.seq (wpM.region ?_)
 refine LM.mv rfl ?_
 refine LM.val (ov_len Tryd.underlying119 rfl) ?_
 refine LM.nil (QM.sub (e' := [(0, _), (1, _), (12, _)]) au9 (QM.then ?_))
 refine wpM.block ?_
 refine wpM.seq (wpM.region ?_)
 refine LM.val (ov_eql rfl rfl) ?_
 refine LM.as rfl ?_
 refine LM.nil (QM.sub (e' := [(0, _), (1, _), (12, _), (13, _)]) au9 (QM.then ?_))
 refine wpM.condD rfl (fun h1 => ?_) (fun h1 => ?_)
 ·
  exfalso; omega
 refine wpM.seq (wpM.region ?_)
 refine LM.val (ov_eql rfl rfl) ?_
 refine LM.as rfl ?_
 refine LM.nil (QM.sub (e' := [(0, _), (1, _), (15, _)]) au9 (QM.then ?_))
 refine wpM.condD rfl (fun h2 => ?_) (fun h2 => ?_)
 ·
  exfalso; omega
 refine wpM.skip ?_
 refine QM.block_normal ?_
 refine QM.then (wpM.seq (wpM.region ?_))
 refine LM.as rfl ?_
 refine LM.nil (QM.sub (e' := [(0, _), (1, _), (5, _)]) au9 (QM.then ?_))
 refine wpM.seq ?_
 refine wpM.seq (wpM.region ?_)
 refine LM.mv rfl ?_
 refine LM.val (ov_slenL Tryd.underlying9 rfl) ?_
 refine LM.val (ov_gtr rfl rfl) ?_
 refine LM.nil (QM.sub (e' := [(0, _), (1, _), (5, _), (22, _)]) au9 (QM.then ?_))
 refine wpM.condD rfl (fun h3 => ?_) (fun h3 => ?_)
 ·
  refine wpM.seq ?_
  refine wpM.seq (wpM.region ?_)
  refine LM.mv rfl ?_
  refine LM.val (ov_slenL Tryd.underlying9 rfl) ?_
  refine LM.mv rfl ?_
  refine LM.val (ov_len Tryd.underlying119 rfl) ?_
  refine LM.val (ov_sub64 rfl rfl (by omega)) ?_
  refine LM.val (ov_quo64 rfl rfl (by omega) (by omega) (by omega)) ?_
  refine LM.val (ov_geq rfl rfl) ?_
  refine LM.nil (QM.sub (e' := [(0, _), (1, _), (5, _), (29, _)]) au9 (QM.then ?_))
  refine wpM.condD rfl (fun h4 => ?_) (fun h4 => ?_)
  ·
   exfalso; omega
  refine wpM.skip ?_
  refine QM.then (wpM.region ?_)
  refine LM.mv rfl (LM.mv rfl ?_)
  refine LM.val (ov_slenL Tryd.underlying9 rfl) ?_
  refine LM.mv rfl ?_
  refine LM.val (ov_len Tryd.underlying119 rfl) ?_
  refine LM.val (ov_sub64 rfl rfl (by omega)) ?_
  refine LM.val (ov_mul64 rfl rfl (by omega)) ?_
  refine LM.val (ov_add64 rfl rfl (by omega)) ?_
  refine LM.as rfl ?_
  refine LM.nil (QM.sub (e' := [(0, _), (1, _), (5, _)]) au9 (QM.then ?_))
  refine wpM.seq ?_
  refine wpM.seq (wpM.region ?_)
  refine LM.mv rfl ?_
  refine LM.val (ov_len Tryd.underlying119 rfl) ?_
  refine LM.mv rfl ?_
  refine LM.nil (QM.sub (e' := [(0, _), (1, _), (5, _), (39, _), (40, _), (41, _)]) au9 (QM.then ?_))
  refine wpM.block ?_
  refine wpM.loopK0 (α := Nat × Int) (fun ⟨i, N⟩ => [(5, .int .i64 N), (41, .int .i64 (i : Nat))]) [(0, _), (1, _), (39, _), (40, _)] (fun ⟨i, N⟩ => []) (fun ⟨i, N⟩ => i ≤ xs.length ∧ 0 ≤ N ∧ N ≤ 1000 + 1000000 * (i : Int)) (fun ⟨i, N⟩ => xs.length - i) ((0, (xs.length : Int) - 1)) ⟨au2, au2, rfl, rfl, rfl, rfl, trivial⟩ au1 ⟨Nat.zero_le _, by omega, by omega⟩ ?_
  rintro ⟨i, N⟩ ⟨hi, hN0, hN⟩
  change wpM _ _ _ _ _ _ _ ([]) _ _ _
  refine wpM.seq (wpM.region ?_)
  refine LM.val (ov_lss rfl rfl) ?_
  refine LM.nil (QM.sub (e' := [(0, _), (1, _), (5, _), (39, _), (40, _), (41, _), (42, _)]) au9 (QM.then ?_))
  refine wpM.seq ?_
  refine wpM.condD rfl (fun h5 => ?_) (fun h5 => ?_)
  ·
   refine wpM.skip ?_
   refine QM.then ?_
   refine wpM.seq ?_
   refine wpM.block ?_
   refine wpM.seq (wpM.region ?_)
   refine LM.val (ov_idxSN au6 Tryd.underlying119 Tryd.sizeOf9 rfl rfl (by omega)) ?_
   first | refine LM.rd (om_sl1 (by assumption) (by intro _; rfl) Tryd.isAgg9 rfl rfl au3 (by rfl)) ?_ | refine LM.rdC (om_sr1 (by assumption) Tryd.isAgg9 rfl rfl au3 (by rfl) id) ?_ | refine LM.rd (om_ld Tryd.isAgg9 rfl rfl) ?_
   refine LM.as rfl ?_
   refine LM.nil (QM.sub (e' := [(0, _), (1, _), (5, _), (7, _), (39, _), (40, _), (41, _)]) au9 (QM.then ?_))
   refine wpM.seq ?_
   refine wpM.seq (wpM.region ?_)
   have hxi := ht _ (memD (xs := xs) (i := i) (by omega))
   refine LM.mv rfl ?_
   refine LM.val (ov_slenL Tryd.underlying9 rfl) ?_
   refine LM.mv rfl ?_
   refine LM.val (ov_sub64 rfl rfl (by omega)) ?_
   refine LM.val (ov_gtr rfl rfl) ?_
   refine LM.nil (QM.sub (e' := [(0, _), (1, _), (5, _), (7, _), (39, _), (40, _), (41, _), (49, _)]) au9 (QM.then ?_))
   refine wpM.condD rfl (fun h6 => ?_) (fun h6 => ?_)
   ·
    exfalso; omega
   refine wpM.skip ?_
   refine QM.then (wpM.region ?_)
   refine LM.mv rfl (LM.mv rfl ?_)
   refine LM.val (ov_slenL Tryd.underlying9 rfl) ?_
   refine LM.val (ov_add64 rfl rfl (by omega)) ?_
   refine LM.as rfl ?_
   refine LM.nil (QM.sub (e' := [(0, _), (1, _), (5, _), (39, _), (40, _), (41, _)]) au9 ?_)
   refine QM.block_normal ?_
   refine QM.then (wpM.region ?_)
   refine LM.val (ov_add64 rfl rfl (by omega)) ?_
   refine LM.mv rfl ?_
   refine LM.nil (QM.sub (e' := [(0, _), (1, _), (5, _), (39, _), (40, _), (41, _)]) au9 ?_)
   refine QM.againK ((i + 1, N + ((xs.getD i default).length : Int))) ⟨au2, au2, rfl, rfl, rfl, rfl, trivial⟩ au1 (fun _ h => h) ?_ ?_
   · exact ⟨by omega, by omega, by omega⟩
   · first | omega | (dsimp only; omega)
  refine wpM.exit ?_
  refine QM.then_exit ?_
  refine QM.then_exit ?_
  refine QM.block_hit ?_
  refine QM.then (wpM.seq (wpM.region ?_))
  refine LM.alloc Tryd.zeroValue69 rfl (fun b8 hb8 => ?_)
  refine LM.nil (QM.sub (e' := [(0, _), (1, _), (5, _), (8, _)]) au9 (QM.then (wpM.seq (wpM.region ?_))))
  refine LM.mv rfl ?_
  refine LM.cF (fun _ => trivial) (oc_call (enters_fn Tryd.func90 (by kernel_rfl) rfl) rfl) (fun w hm hsz => bgrow_ret (n0 := _) (b := b8) (n := N.toNat) (by omega) hb8 hm hsz (by omega)) (fun u57 m57 hT57 => ?_)
  refine LM.nil (QM.sub (e' := [(0, _), (1, _), (8, _)]) au9 (QM.then (wpM.seq (wpM.region ?_))))
  obtain ⟨rfl, hB57⟩ := hT57; have hx0 := ht _ (memD (xs := xs) (i := 0) (by omega))
  refine LM.mv rfl ?_
  refine LM.val (ov_idxSN (i := 0) au6 Tryd.underlying119 Tryd.sizeOf9 rfl rfl (by omega)) ?_
  first | refine LM.rd (om_sl1 (by assumption) (by intro _; rfl) Tryd.isAgg9 rfl rfl au3 (by rfl)) ?_ | refine LM.rdC (om_sr1 (by assumption) Tryd.isAgg9 rfl rfl au3 (by rfl) id) ?_ | refine LM.rd (om_ld Tryd.isAgg9 rfl rfl) ?_
  refine LM.cB (s' := [] ++ xs.getD 0 default) hB57 (fun _ => trivial) (by repeat (first | exact nr_nil | refine nr_cons (by intro c fz h; cases h) ?_)) (oc_call (enters_fn Tryd.func32 (by kernel_rfl) rfl) rfl) (fun w hi hsz => bstr_ret _ hi hsz (by simp only [List.length_nil]; omega)) (fun m61 hB61 => ?_)
  refine LM.nil (QM.sub (e' := [(0, _), (1, _), (8, _)]) au9 (QM.then ?_))
  refine wpM.seq ?_
  refine wpM.seq (wpM.region ?_)
  refine LM.mv rfl ?_
  refine LM.val (ov_subLo 1 Tryd.underlying119 Tryd.sizeOf9 rfl rfl (by omega) (by omega)) ?_
  refine LM.val (ov_len Tryd.underlying119 rfl) ?_
  refine LM.mv rfl ?_
  refine LM.nil (QM.sub (e' := [(1, _), (8, _), (63, _), (64, _), (65, _)]) au9 (QM.then ?_))
  refine wpM.block ?_
  refine wpM.loopK0 (α := Nat × List UInt8 × Mem0) (fun ⟨k, out, mb⟩ => [(65, .int .i64 (k : Nat))]) [(1, _), (8, _), (63, _), (64, _)] (fun ⟨k, out, mb⟩ => mb ++ []) (fun ⟨k, out, mb⟩ => k ≤ (xs.drop 1).length ∧ Bld 69 5 w.heap.size b8 out mb ∧ out = xs.getD 0 default ++ ((xs.drop 1).take k).flatMap (fun x => 32 :: x) ∧ out.length ≤ 1000000 + 1000001 * k) (fun ⟨k, out, mb⟩ => (xs.drop 1).length - k) ((0, [] ++ xs.getD 0 default, m61)) ⟨au2, rfl, rfl, rfl, rfl, trivial⟩ au1 ⟨Nat.zero_le _, hB61, by simp, by simp only [List.nil_append]; omega⟩ ?_
  rintro ⟨k, out, mb⟩ ⟨hk, hB, ho, hol⟩
  change wpM _ _ _ _ _ _ _ (mb ++ []) _ _ _
  refine wpM.seq (wpM.region ?_)
  refine LM.val (ov_lss rfl rfl) ?_
  refine LM.nil (QM.sub (e' := [(1, _), (8, _), (63, _), (64, _), (65, _), (66, _)]) au9 (QM.then ?_))
  refine wpM.seq ?_
  refine wpM.condD rfl (fun h7 => ?_) (fun h7 => ?_)
  ·
   refine wpM.skip ?_
   refine QM.then ?_
   refine wpM.seq ?_
   refine wpM.block ?_
   refine wpM.seq (wpM.region ?_)
   refine LM.val (ov_idxSN (i := k) hspD Tryd.underlying119 Tryd.sizeOf9 rfl rfl (by omega)) ?_
   refine LM.rdC (fun w hm hc hg => ow_srE (j := 0) (i := k) (hlD.ext hc) Tryd.isAgg9 rfl rfl (getq default (by omega)) rfl rfl) ?_
   refine LM.as rfl ?_
   refine LM.nil (QM.sub (e' := [(1, _), (8, _), (10, _), (63, _), (64, _), (65, _)]) au9 (QM.then (wpM.seq (wpM.region ?_))))
   have hxk := ht _ (List.mem_of_mem_drop (memD (xs := xs.drop 1) (i := k) (by omega)))
   refine LM.mv rfl ?_
   refine LM.cB (s' := out ++ [32]) hB (fun _ => trivial) (by repeat (first | exact nr_nil | refine nr_cons (by intro c fz h; cases h) ?_)) (oc_call (enters_fn Tryd.func32 (by kernel_rfl) rfl) rfl) (fun w hi hsz => bstr_ret [32] hi hsz (by simp only [List.length_cons, List.length_nil]; omega)) (fun m70 hB70 => ?_)
   refine LM.nil (QM.sub (e' := [(1, _), (8, _), (10, _), (63, _), (64, _), (65, _)]) au9 (QM.then (wpM.region ?_)))
   refine LM.mv rfl ?_
   refine LM.cB (s' := out ++ [32] ++ (xs.drop 1).getD k default) hB70 (fun _ => trivial) (by repeat (first | exact nr_nil | refine nr_cons (by intro c fz h; cases h) ?_)) (oc_call (enters_fn Tryd.func32 (by kernel_rfl) rfl) rfl) (fun w hi hsz => bstr_ret _ hi hsz (by simp only [List.length_append, List.length_cons, List.length_nil]; omega)) (fun m72 hB72 => ?_)
   refine LM.nil (QM.sub (e' := [(1, _), (8, _), (63, _), (64, _), (65, _)]) au9 ?_)
   refine QM.block_normal ?_
   refine QM.then (wpM.region ?_)
   refine LM.val (ov_add64 rfl rfl (by omega)) ?_
   refine LM.mv rfl ?_
   refine LM.nil (QM.sub (e' := [(1, _), (8, _), (63, _), (64, _), (65, _)]) au9 ?_)
   refine QM.againK ((k + 1, out ++ [32] ++ (xs.drop 1).getD k default, m72)) ⟨au2, rfl, rfl, rfl, rfl, trivial⟩ au1 (fun _ h => h) ?_ ?_
   · exact ⟨by omega, hB72, by rw [ho, joS_snoc (by omega)]; simp, by simp only [List.length_append, List.length_cons, List.length_nil]; omega⟩
   · first | omega | (dsimp only; omega)
  refine wpM.exit ?_
  refine QM.then_exit ?_
  refine QM.then_exit ?_
  refine QM.block_hit ?_
  refine QM.then (wpM.seq (wpM.region ?_))
  refine LM.cB (s' := out) hB (fun _ => trivial) (by repeat (first | exact nr_nil | refine nr_cons (by intro c fz h; cases h) ?_)) (oc_call (enters_fn Tryd.func33 (by kernel_rfl) rfl) rfl) (fun w hi hsz => bget_ret hi hsz) (fun m74 hB74 => ?_)
  refine LM.as rfl ?_
  refine LM.nil (QM.sub (e' := [(4, _)]) ⟨rfl, trivial⟩ (QM.then ?_))
  refine wpM.ret ?_
  refine QM.leave (.inl rfl) [.tmp 4] Tryd.results57 rfl ?_
  intro w' hm' hc' hg'
  have he : k = (xs.drop 1).length := (by omega); refine ⟨?_, hc'⟩; show vS out = _; rw [ho, he, List.take_length]; rfl
 exfalso; omega
set_option maxRecDepth 100000 in
set_option maxHeartbeats 2000000 in
theorem eline_spec (e : Evt) (w : World) (hT : Tb w) : Ret Tryd.prog 28 #[.agg (fE e).toArray] w (fun v w' => v = .tuple #[vS (lineO e).1, .int .i64 (lineO e).2] ∧ Ext w w') := by
 refine Ret.enterM (l := [.agg (fE e).toArray]) Tryd.func28 rfl Tryd.ntmps28 rfl ([]) (no) (Mem.nil w) ?_
 refine wpM.seq (wpM.region ?_)
 refine LM.box rfl rfl (fun b1 hb1 => ?_)
 refine LM.as rfl (LM.as rfl ?_)
 refine LM.nil (QM.sub (e' := [(1, _)]) ⟨rfl, trivial⟩ (QM.then ?_))
 refine wpM.seq ?_
 refine wpM.seq (wpM.region ?_)
 refine LM.rd (om_ldW Tryd.isAgg39 Tryd.sizeOf39 rfl rfl) ?_
 refine LM.callE (oc_call (enters_fn Tryd.func55 (by kernel_rfl) rfl) rfl) (fun w hm hc hg => emay_spec e w) ?_
 first | refine LM.val (ov_notD rfl) ?_ | refine LM.val (ov_not rfl) ?_
 refine LM.nil (QM.sub (e' := [(1, _), (7, _)]) au9 (QM.then ?_))
 first | refine wpM.condD rfl (fun h1 => ?_) (fun h1 => ?_) | refine wpM.condB rfl (fun h1 => ?_) (fun h1 => ?_)
 ·
  refine wpM.seq (wpM.region ?_)
  refine LM.as rfl (LM.as rfl ?_)
  refine LM.nil (QM.sub (e' := [(2, _), (3, _)]) au9 (QM.then ?_))
  refine wpM.ret ?_
  refine QM.then_ret ?_
  refine QM.leave (.inl rfl) [.tmp 2, .tmp 3] Tryd.results28 rfl ?_
  intro w' hm' hc' hg'
  refine ⟨?_, hc'⟩; unfold lineO; rw [if_neg (by simpa using h1)]; rfl
 have hmE : mayEv e = true := (by simpa using h1); obtain ⟨he1, he2, he3, he4, he5⟩ := mayEv_inv hmE; have hd1 := digF_len 10 e.tm.toNat; have hd2 := digF_len 10 e.t.toNat; have hd4 := digF_len 10 e.n.toNat; have hd5 := evT_len e.k
 refine wpM.skip ?_
 refine QM.then (wpM.seq (wpM.region ?_))
 refine LM.as rfl ?_
 refine LM.nil (QM.sub (e' := [(1, _), (4, _)]) au9 (QM.then ?_))
 refine wpM.seq ?_
 refine wpM.seq (wpM.region ?_)
 refine LM.val (ov_field Tryd.underlying39 rfl Tryd.sizeOf3 rfl (k := 3) rfl rfl) ?_
 refine LM.rd (om_ld Tryd.isAgg3 rfl rfl) ?_
 refine LM.val (ov_geq rfl rfl) ?_
 refine LM.nil (QM.sub (e' := [(1, _), (4, _), (10, _)]) au9 (QM.then ?_))
 refine wpM.joinK (α := List UInt8) (fun lk => [(4, vS lk)]) [(1, _)] (fun lk => (b1, .cells (fE e).toArray 39 (0, 0)) :: []) (fun lk => lk = lockT e.l) ⟨rfl, trivial⟩ ?_ ?_
 ·
  refine wpM.condD rfl (fun h2 => ?_) (fun h2 => ?_)
  ·
   refine wpM.region ?_
   refine LM.val (ov_field Tryd.underlying39 rfl Tryd.sizeOf3 rfl (k := 3) rfl rfl) ?_
   refine LM.rd (om_ld Tryd.isAgg3 rfl rfl) ?_
   refine LM.callE (oc_call (enters_fn Tryd.func56 (by kernel_rfl) rfl) rfl) (fun w hm hc hg => itoa_ret (by omega) (by omega) w (hT.ext hc)) ?_
   refine LM.as rfl ?_
   refine LM.nil (QM.sub (e' := [(1, _), (4, _)]) au9 ?_)
   refine QM.meetK (_) ⟨au2, rfl, trivial⟩ au1 ?_
   · unfold lockT; rw [if_pos (by omega)]
  refine wpM.skip ?_
  refine QM.meetK (_) ⟨au2, rfl, trivial⟩ au1 ?_
  · unfold lockT; rw [if_neg (by omega)]
 rintro lk hlk
 change QM _ _ _ _ _ ((b1, .cells (fE e).toArray 39 (0, 0)) :: []) _ _ _
 refine QM.then ?_
 refine wpM.seq ?_
 refine wpM.keep ((b1, _) :: []) (fun _ => True) (.one 0 0 (.one 1 1 (.one 3 0 (.one 4 1 (.one 6 0 (.one 7 1 (.one 9 0 (.one 10 0 (.one 11 1 (.one 2 2 (.one 5 2 (.one 8 2 (.one 12 2 (.one 13 2 (.one 14 2 (.one 15 0 (.one 16 0 (.one 17 0 .nil)))))))))))))))))) (by kernel_rfl) (by kernel_rfl) au1 (fun _ _ => trivial) ?_
 refine KD.val rfl rfl (ov_field Tryd.underlying39 rfl Tryd.sizeOf37 rfl (k := 0) rfl rfl) ?_
 refine KD.rd rfl rfl (om_ld Tryd.isAgg37 rfl rfl) ?_
 refine KD.val rfl rfl (ov_field Tryd.underlying39 rfl Tryd.sizeOf3 rfl (k := 1) rfl rfl) ?_
 refine KD.rd rfl rfl (om_ld Tryd.isAgg3 rfl rfl) ?_
 refine KD.val rfl rfl (ov_field Tryd.underlying39 rfl Tryd.sizeOf3 rfl (k := 2) rfl rfl) ?_
 refine KD.rd rfl rfl (om_ld Tryd.isAgg3 rfl rfl) ?_
 refine KD.val rfl rfl (ov_move rfl) ?_
 refine KD.val rfl rfl (ov_field Tryd.underlying39 rfl Tryd.sizeOf3 rfl (k := 4) rfl rfl) ?_
 refine KD.rd rfl rfl (om_ld Tryd.isAgg3 rfl rfl) ?_
 refine KD.one rfl ?_
 refine LM.callE (oc_call (enters_fn Tryd.func58 (by kernel_rfl) rfl) rfl) (fun w hm hc hg => fmtU_spec e.tm w he1 (hT.ext hc)) ?_
 refine LM.nil ?_
 refine QM.one au1 (fun _ _ => trivial) ?_
 refine KD.one rfl ?_
 refine LM.callE (oc_call (enters_fn Tryd.func59 (by kernel_rfl) rfl) rfl) (fun w hm hc hg => ename_spec e.k w) ?_
 refine LM.nil ?_
 refine QM.one au1 (fun _ _ => trivial) ?_
 refine KD.one rfl ?_
 refine LM.callE (oc_call (enters_fn Tryd.func56 (by kernel_rfl) rfl) rfl) (fun w hm hc hg => itoa_ret (by omega) (by omega) w (hT.ext hc)) ?_
 refine LM.nil ?_
 refine QM.one au1 (fun _ _ => trivial) ?_
 refine KD.one rfl ?_
 refine LM.callE (oc_call (enters_fn Tryd.func56 (by kernel_rfl) rfl) rfl) (fun w hm hc hg => itoa_ret (by omega) (by omega) w (hT.ext hc)) ?_
 refine LM.nil ?_
 refine QM.one au1 (fun _ _ => trivial) ?_
 refine KD.one rfl ?_
 refine LM.row (vs := [_, _, _, _, _]) Tryd.underlying119 Tryd.sizeOf9 Tryd.zeroValue9 rfl rfl rfl rfl rfl rfl (fun b27 hb27 => ?_)
 refine LM.nil ?_
 refine QM.one au1 (fun _ _ => trivial) ?_
 refine KD.one rfl ?_
 have hd3 : lk.length ≤ 10 := (by rw [hlk]; exact lockT_len _); have hjo : joS [digF 10 e.tm.toNat, evT e.k, digF 10 e.t.toNat, lk, digF 10 e.n.toNat] = lineB e := (by simp [joS, lineB, hlk]); have hd6 : (lineB e).length ≤ 60 := (by have := line_len hmE; unfold lineEv at this; rw [List.length_append] at this; omega); have hs27 : Sl fB 9 1 w.heap.size [digF 10 e.tm.toNat, evT e.k, digF 10 e.t.toNat, lk, digF 10 e.n.toNat] (.slice (some ⟨b27, 0, none⟩) 5 5) [(b27, .cells (arr fB [digF 10 e.tm.toNat, evT e.k, digF 10 e.t.toNat, lk, digF 10 e.n.toNat] []) 9 (0, 0))] := .inr ⟨b27, 5, [], hb27, rfl, rfl, Nat.le_refl 5, by unfold maxLen; decide, rfl⟩
 refine LM.callE (oc_call (enters_fn Tryd.func57 (by kernel_rfl) rfl) rfl) (fun w hm hc hg => hjo ▸ joinS_spec (xs := [digF 10 e.tm.toNat, evT e.k, digF 10 e.t.toNat, lk, digF 10 e.n.toNat]) w rfl (by have hm2 : Mem w ((b27, .cells (arr fB [digF 10 e.tm.toNat, evT e.k, digF 10 e.t.toNat, lk, digF 10 e.n.toNat] []) 9 (0, 0)) :: _) := hm; exact hs27.srM (by intro _; rfl) hm2) (by show 2 ≤ 5; decide) (by show 5 ≤ 1000; decide) (by intro x hx; simp only [List.mem_cons, List.not_mem_nil, or_false] at hx; rcases hx with rfl | rfl | rfl | rfl | rfl <;> omega)) ?_
 refine LM.nil ?_
 refine QM.one au1 (fun _ _ => trivial) ?_
 refine KD.val rfl rfl (ov_saddL rfl rfl (by first | omega | (simp only [List.length_append, List.length_cons, List.length_nil]; omega))) ?_
 refine KD.val rfl rfl (ov_assign rfl) ?_
 refine KD.val rfl rfl (ov_assign rfl) ?_
 refine KD.nil ?_
 refine QM.sub (e' := [(2, _), (3, _)]) au9 (QM.then ?_)
 refine wpM.ret ?_
 refine QM.leave (.inl rfl) [.tmp 2, .tmp 3] Tryd.results28 rfl ?_
 intro w' hm' hc' hg'
 refine ⟨?_, hc'⟩; unfold lineO; rw [if_pos hmE]; rfl
end Go.Eng
namespace Go.Eng
open Go Go.Proofs Go.RowKit
def EvT (r : List Evt × Int × Int) (n0 : Nat) (v : Value) (m : Mem0) : Prop := ∃ ad n cap, v = .tuple #[.slice ad n cap, .int .i64 r.2.1, .int .i64 r.2.2] ∧ n = r.1.length ∧ Sl fE 39 5 n0 r.1 (.slice ad n cap) m
theorem EvT.mono {r : List Evt × Int × Int} : ∀ (k k' : Nat) u m, k' ≤ k → EvT r k u m → EvT r k' u m := fun k k' u m h ⟨ad, n, cap, h1, h2, h3⟩ => ⟨ad, n, cap, h1, h2, h3.mono h⟩
/-! splitting, step by step -/
end Go.Eng
namespace Go.Eng
open Go Go.Proofs Go.RowKit
end Go.Eng
namespace Go.Eng
open Go Go.Proofs Go.RowKit
theorem isEv_len {s : List UInt8} (h : (splW s).length ≠ 5) : isEv s = false := by unfold isEv; rw [decide_eq_false h]; simp
theorem isEv_lock {s : List UInt8} (h : (splW s).getD 3 [] ≠ [45]) (h2 : numO ((splW s).getD 3 []) < 0) : isEv s = false := by
  unfold isEv; rw [decide_eq_false h, decide_eq_false (show ¬ 0 ≤ numO ((splW s).getD 3 []) by omega)]; simp
theorem isEv_num {s : List UInt8} (h : numO ((splW s).getD 0 []) < 0 ∨ numO ((splW s).getD 2 []) < 0 ∨ numO ((splW s).getD 4 []) < 0) : isEv s = false := by
  rcases h with h | h | h
  · unfold isEv; rw [decide_eq_false (show ¬ 0 ≤ numO ((splW s).getD 0 []) by omega)]; simp
  · have : mayEv (evOf (splW s)) = false := by
      unfold mayEv evOf inB; simp only [decide_eq_false (show ¬ 0 ≤ numO ((splW s).getD 2 []) by omega)]; simp
    unfold isEv; rw [this]; simp
  · have : mayEv (evOf (splW s)) = false := by
      unfold mayEv evOf inB; simp only [decide_eq_false (show ¬ 0 ≤ numO ((splW s).getD 4 []) by omega)]; simp
    unfold isEv; rw [this]; simp
theorem splW_len : ∀ (s : List UInt8), ∀ x ∈ splW s, x.length ≤ s.length
  | [], x, h => by simp [splW] at h; subst h; exact Nat.le_refl _
  | c :: l, x, h => by
    have ih := splW_len l
    unfold splW at h
    split at h
    · rcases List.mem_cons.1 h with rfl | h
      · exact Nat.zero_le _
      · exact Nat.le_succ_of_le (ih x h)
    · split at h
      · rename_i q; exact absurd q (splW_ne l)
      · rename_i w r q
        rcases List.mem_cons.1 h with rfl | h
        · have := ih w (by rw [q]; exact List.mem_cons_self ..); simp; omega
        · exact Nat.le_succ_of_le (ih x (by rw [q]; exact List.mem_cons_of_mem _ h))
theorem spl_len (s : List UInt8) (i : Nat) : ((splW s).getD i []).length ≤ s.length := by
  by_cases h : i < (splW s).length
  · exact splW_len s _ (List.mem_of_getElem? (getq [] h))
  · rw [List.getD_eq_getElem?_getD, List.getElem?_eq_none (by omega)]; exact Nat.zero_le _
def OneT (s : List UInt8) (n0 : Nat) (v : Value) (m : Mem0) : Prop := (∃ e, v = .tuple #[.agg (fE e).toArray, .bool (isEv s)] ∧ (isEv s = true → e = evOf (splW s))) ∧ m = []
theorem OneT.mono {s : List UInt8} : ∀ (k k' : Nat) u m, k' ≤ k → OneT s k u m → OneT s k' u m := fun k k' u m h q => q
theorem OneT.no {s : List UInt8} {n0 : Nat} (h : isEv s = false) : OneT s n0 (.tuple #[.agg #[U 0#64, .int .i64 0, .int .i64 0, .int .i64 0, .int .i64 0], .bool false]) [] :=
  ⟨⟨default, by rw [h]; rfl, fun q => by rw [h] at q; cases q⟩, rfl⟩
theorem parO_big {s : List UInt8} (h : (1000000 : Int) < (s.length : Int)) : parO s = ([], 1000000, 6) := by unfold parO; rw [if_pos (by omega)]
theorem parO_small {s : List UInt8} (h : ¬ (1000000 : Int) < (s.length : Int)) : parO s = parL s 0 [] := by unfold parO; rw [if_neg (by omega)]
theorem EvT.no {r : List Evt × Int × Int} {n0 : Nat} {p e : Int} (h : r = ([], p, e)) : EvT r n0 (.tuple #[.slice none 0 0, .int .i64 p, .int .i64 e]) [] := by
  subst h; exact ⟨none, 0, 0, rfl, rfl, .nil _ _ _ _⟩
end Go.Eng
namespace Go.Eng
open Go Go.Proofs Go.RowKit
theorem trim_digits (t : List UInt8) : decide (Lib.trimS t digitL = []) = t.all digB := by
  have hp : (fun c => digitL.contains c) = digB := funext digits_dig
  unfold Lib.trimS Lib.trimLeftS Lib.trimRightS
  rw [hp]
  have key : (List.dropWhile digB (List.dropWhile digB t.reverse).reverse = []) ↔ t.all digB = true := by
    rw [dropWhile_nil]
    have h1 : t.reverse = t.reverse.takeWhile digB ++ t.reverse.dropWhile digB := (List.takeWhile_append_dropWhile ..).symm
    have h2 : (t.reverse.takeWhile digB).all digB = true := all_tw _ _
    have h3 : t.reverse.all digB = (t.reverse.dropWhile digB).all digB := by
      conv => lhs; rw [h1]
      rw [List.all_append, h2, Bool.true_and]
    rw [List.all_reverse, ← h3, List.all_reverse]
  rw [Bool.eq_iff_iff, decide_eq_true_eq]; exact key
theorem trim_ne (t : List UInt8) : decide (Lib.trimS t digitL ≠ []) = !t.all digB := by
  rw [← trim_digits]; exact decide_not
theorem numF_all {s : List UInt8} (ha : s.all digB = true) (hl : s.length ≤ 9) : numF 9 s 0 = valD 0 s := by
  have := numF_app s [] 9 0 ha hl
  rw [List.append_nil] at this
  rw [this, numF_off (rest := []) (show offB digB [] from trivial)]
theorem badN_ne {s : List UInt8} (h : badN s = false) : s ≠ [] := by
  unfold badN at h; simp only [Bool.or_eq_false_iff, decide_eq_false_iff_not] at h; exact h.1.1
theorem trimd_ret (t : List UInt8) (hx : t.length ≤ 9223372036854775807) (w : World) : Ret Tryd.prog 94 #[vS t, vS digitL] w (fun v w' => v = vS (Lib.trimS t digitL) ∧ Ext w w') :=
  (Any.strings_Trim_laid l160 l160set (bs t) (bs digitL) w (by rw [bs_size]; exact hx) (by decide) (ascii_of_all (by decide))).mono (fun e w' ⟨he, hb⟩ => ⟨_, he, rfl, Ext.of_below hb⟩)
set_option maxRecDepth 100000 in
theorem enum_spec (s : List UInt8) (w : World) (hs : s.length ≤ 1000000000) : Ret Tryd.prog 62 #[vS s] w (fun v w' => v = .int .i64 (numO s) ∧ Ext w w') := by
 refine Ret.enterM (l := [vS s]) Tryd.func62 rfl Tryd.ntmps62 rfl ([]) (no) (Mem.nil w) ?_
 refine wpM.seq (wpM.region ?_)
 refine LM.as rfl ?_
 refine LM.nil (QM.sub (e' := [(0, _)]) ⟨rfl, trivial⟩ (QM.then ?_))
 refine wpM.seq ?_
 refine wpM.seq ?_
 refine wpM.joinK (α := Bool) (fun qb => [(26, .bool qb)]) [(0, _)] (fun qb => []) (fun qb => qb = (badN s || !s.all digB)) ⟨rfl, trivial⟩ ?_ ?_
 ·
  refine wpM.region ?_
  refine LM.mv rfl ?_
  refine LM.val (ov_seqlL rfl rfl) ?_
  refine LM.mv rfl ?_
  refine LM.splitD (t := 7) rfl (fun h1 => ?_) (fun h1 => ?_)
  ·
   refine LM.dr 7 rfl rfl rfl (LM.dr 7 rfl rfl rfl (LM.dr 7 rfl rfl rfl ?_))
   refine LM.val (ov_pickT rfl rfl) ?_
   refine LM.mv rfl (LM.dr 12 rfl rfl rfl (LM.dr 12 rfl rfl rfl (LM.dr 12 rfl rfl rfl ?_)))
   refine LM.dropU (t := 12) rfl rfl rfl ?_
   refine LM.dropX (t := 16) rfl rfl ?_
   refine LM.dropX (t := 16) rfl rfl ?_
   refine LM.dropX (t := 16) rfl rfl ?_
   refine LM.dr 12 rfl rfl rfl ?_
   refine LM.val (ov_pickT rfl rfl) ?_
   refine LM.mv rfl (LM.dr 22 rfl rfl rfl (LM.dr 22 rfl rfl rfl (LM.dr 22 rfl rfl rfl ?_)))
   refine LM.val (ov_pickT rfl rfl) ?_
   refine LM.nil (QM.sub (e' := [(0, _), (26, _)]) au9 ?_)
   refine QM.meetK (_) ⟨au2, rfl, trivial⟩ au1 ?_
   · (try rw [trim_ne]); simp only [badN, h1, decide_true, decide_false, Bool.true_and, Bool.false_and, Bool.and_true, Bool.and_false, Bool.not_true, Bool.not_false, Bool.true_or, Bool.false_or, Bool.or_true, Bool.or_false, ne_eq, not_true_eq_false, not_false_eq_true, Bool.and_self]
  refine LM.sp 7 rfl rfl rfl (LM.mv rfl (LM.sp 7 rfl rfl rfl ?_))
  refine LM.val (ov_slenL Tryd.underlying9 rfl) ?_
  refine LM.sp 7 rfl rfl rfl ?_
  refine LM.val (ov_gtr rfl rfl) ?_
  refine LM.val (ov_pickF rfl rfl) ?_
  refine LM.mv rfl ?_
  refine LM.splitD (t := 12) rfl (fun h2 => ?_) (fun h2 => ?_)
  ·
   refine LM.dr 12 rfl rfl rfl (LM.dr 12 rfl rfl rfl (LM.dr 12 rfl rfl rfl ?_))
   refine LM.dropU (t := 12) rfl rfl rfl ?_
   refine LM.dropX (t := 16) rfl rfl ?_
   refine LM.dropX (t := 16) rfl rfl ?_
   refine LM.dropX (t := 16) rfl rfl ?_
   refine LM.dr 12 rfl rfl rfl ?_
   refine LM.val (ov_pickT rfl rfl) ?_
   refine LM.mv rfl (LM.dr 22 rfl rfl rfl (LM.dr 22 rfl rfl rfl (LM.dr 22 rfl rfl rfl ?_)))
   refine LM.val (ov_pickT rfl rfl) ?_
   refine LM.nil (QM.sub (e' := [(0, _), (26, _)]) au9 ?_)
   refine QM.meetK (_) ⟨au2, rfl, trivial⟩ au1 ?_
   · (try rw [trim_ne]); simp only [badN, h1, h2, decide_true, decide_false, Bool.true_and, Bool.false_and, Bool.and_true, Bool.and_false, Bool.not_true, Bool.not_false, Bool.true_or, Bool.false_or, Bool.or_true, Bool.or_false, ne_eq, not_true_eq_false, not_false_eq_true, Bool.and_self]
  refine LM.sp 12 rfl rfl rfl (LM.mv rfl (LM.sp 12 rfl rfl rfl ?_))
  refine LM.val (ov_slenL Tryd.underlying9 rfl) ?_
  refine LM.sp 12 rfl rfl rfl ?_
  refine LM.val (ov_gtr rfl rfl) ?_
  refine LM.sp 12 rfl rfl rfl (LM.mv rfl ?_)
  refine LM.splitD (t := 16) rfl (fun h3 => ?_) (fun h3 => ?_)
  ·
   refine LM.sp 16 rfl rfl rfl (LM.mv rfl (LM.sp 16 rfl rfl rfl ?_))
   first | refine LM.val (ov_sidxN Tryd.underlying9 rfl rfl (by omega)) ?_ | refine LM.val (ov_sidxL Tryd.underlying9 rfl rfl (by omega)) ?_
   refine LM.sp 16 rfl rfl rfl ?_
   refine LM.val (ov_eql rfl rfl) ?_
   refine LM.sp 12 rfl rfl rfl ?_
   refine LM.val (ov_pickT rfl rfl) ?_
   refine LM.val (ov_pickF rfl rfl) ?_
   refine LM.mv rfl ?_
   refine LM.splitD (t := 22) rfl (fun h4 => ?_) (fun h4 => ?_)
   ·
    refine LM.dr 22 rfl rfl rfl (LM.dr 22 rfl rfl rfl (LM.dr 22 rfl rfl rfl ?_))
    refine LM.val (ov_pickT rfl rfl) ?_
    refine LM.nil (QM.sub (e' := [(0, _), (26, _)]) au9 ?_)
    refine QM.meetK (_) ⟨au2, rfl, trivial⟩ au1 ?_
    · (try rw [trim_ne]); simp only [badN, h1, h2, h3, h4, decide_true, decide_false, Bool.true_and, Bool.false_and, Bool.and_true, Bool.and_false, Bool.not_true, Bool.not_false, Bool.true_or, Bool.false_or, Bool.or_true, Bool.or_false, ne_eq, not_true_eq_false, not_false_eq_true, Bool.and_self]
   refine LM.sp 22 rfl rfl rfl (LM.mv rfl (LM.sp 22 rfl rfl rfl ?_))
   refine LM.callE (oc_call (enters_fn Tryd.func94 (by kernel_rfl) rfl) rfl) (fun w hm hc hg => trimd_ret s (by omega) w) ?_
   refine LM.sp 22 rfl rfl rfl ?_
   refine LM.val (ov_sneqL rfl rfl) ?_
   refine LM.val (ov_pickF rfl rfl) ?_
   refine LM.nil (QM.sub (e' := [(0, _), (26, _)]) au9 ?_)
   refine QM.meetK (_) ⟨au2, rfl, trivial⟩ au1 ?_
   · (try rw [trim_ne]); simp only [badN, h1, h2, h3, h4, decide_true, decide_false, Bool.true_and, Bool.false_and, Bool.and_true, Bool.and_false, Bool.not_true, Bool.not_false, Bool.true_or, Bool.false_or, Bool.or_true, Bool.or_false, ne_eq, not_true_eq_false, not_false_eq_true, Bool.and_self]
  refine LM.dr 16 rfl rfl rfl (LM.dr 16 rfl rfl rfl (LM.dr 16 rfl rfl rfl (LM.sp 12 rfl rfl rfl ?_)))
  refine LM.val (ov_pickF rfl rfl) ?_
  refine LM.val (ov_pickF rfl rfl) ?_
  refine LM.mv rfl (LM.sp 22 rfl rfl rfl (LM.mv rfl (LM.sp 22 rfl rfl rfl ?_)))
  refine LM.callE (oc_call (enters_fn Tryd.func94 (by kernel_rfl) rfl) rfl) (fun w hm hc hg => trimd_ret s (by omega) w) ?_
  refine LM.sp 22 rfl rfl rfl ?_
  refine LM.val (ov_sneqL rfl rfl) ?_
  refine LM.val (ov_pickF rfl rfl) ?_
  refine LM.nil (QM.sub (e' := [(0, _), (26, _)]) au9 ?_)
  refine QM.meetK (_) ⟨au2, rfl, trivial⟩ au1 ?_
  · (try rw [trim_ne]); simp only [badN, h1, h2, h3, decide_true, decide_false, Bool.true_and, Bool.false_and, Bool.and_true, Bool.and_false, Bool.not_true, Bool.not_false, Bool.true_or, Bool.false_or, Bool.or_true, Bool.or_false, ne_eq, not_true_eq_false, not_false_eq_true, Bool.and_self]
 rintro qb hqb
 change QM _ _ _ _ _ ([]) _ _ _
 refine QM.then ?_
 first | refine wpM.condD rfl (fun h5 => ?_) (fun h5 => ?_) | refine wpM.condB rfl (fun h5 => ?_) (fun h5 => ?_)
 ·
  refine wpM.seq (wpM.region ?_)
  refine LM.as rfl ?_
  refine LM.nil (QM.sub (e' := [(2, _)]) ⟨rfl, trivial⟩ (QM.then ?_))
  refine wpM.ret ?_
  refine QM.then_ret ?_
  refine QM.leave (.inl rfl) [.tmp 2] Tryd.results62 rfl ?_
  intro w' hm' hc' hg'
  refine ⟨?_, hc'⟩; rw [numO_eq, ← hqb, h5]; rfl
 have hz : badN s = false ∧ s.all digB = true := (by rw [h5] at hqb; have := hqb.symm; simpa using this)
 refine wpM.skip ?_
 refine QM.then (wpM.seq (wpM.region ?_))
 refine LM.mv rfl ?_
 refine LM.callE (oc_call (enters_fn Tryd.func95 (by kernel_rfl) rfl) rfl) (fun w hm hc hg => atoi_ret (badN_ne hz.1) (by have := badN_len hz.1; omega) hz.2 w) ?_
 refine LM.mv rfl ?_
 refine LM.val (ov_extract rfl rfl) ?_
 refine LM.val (ov_extract rfl rfl) ?_
 refine LM.as rfl (LM.as rfl ?_)
 refine LM.nil (QM.sub (e' := [(3, _)]) ⟨rfl, trivial⟩ (QM.then (wpM.seq (wpM.region ?_))))
 refine LM.mv rfl (LM.as rfl ?_)
 refine LM.nil (QM.sub (e' := [(2, _)]) ⟨rfl, trivial⟩ (QM.then ?_))
 refine wpM.ret ?_
 refine QM.leave (.inl rfl) [.tmp 2] Tryd.results62 rfl ?_
 intro w' hm' hc' hg'
 refine ⟨?_, hc'⟩; rw [numO_eq, ← hqb, h5]; show Value.int .i64 (numF 9 s 0) = _; rw [numF_all hz.2 (by have := badN_len hz.1; omega)]; rfl
end Go.Eng
namespace Go.Eng
open Go Go.Proofs Go.RowKit
theorem splK_sp : ∀ (s : List UInt8), Lib.splitK [32] 0 (Lib.count s [32]) s = splW s
  | [] => by rw [Lib.count_one]; rfl
  | c :: l => by
    have ih := splK_sp l
    by_cases hc : c = 32
    · subst hc
      have hi : Lib.index (32 :: l) [32] = 0 := by rw [Lib.index]; simp [List.isPrefixOf]
      rw [Lib.count_cons_eq, Nat.add_comm, Lib.splitK, hi, if_neg (by decide), splW, if_pos rfl, ← ih]
      simp
    · rw [Lib.count_cons_ne c 32 l hc, splW, if_neg hc]
      have hp : ([32] : List UInt8).isPrefixOf (c :: l) = false := by simp [List.isPrefixOf, Ne.symm hc]
      have hix : Lib.index (c :: l) [32] = if Lib.index l [32] == -1 then -1 else Lib.index l [32] + 1 := by rw [Lib.index, hp]; simp
      cases hk : Lib.count l [32] with
      | zero =>
        rw [hk] at ih
        rw [← ih]; rfl
      | succ k =>
        rw [hk] at ih
        have hm : Lib.index l [32] ≠ -1 := fun q => by rw [Lib.count_miss q] at hk; cases hk
        have hge := Lib.index_ge l [32]
        obtain ⟨j, hj⟩ : ∃ j : Nat, Lib.index l [32] = j := ⟨(Lib.index l [32]).toNat, by omega⟩
        have hix' : Lib.index (c :: l) [32] = ((j + 1 : Nat) : Int) := by rw [hix, if_neg (fun e => hm (beq_iff_eq.1 e)), hj]; omega
        rw [Lib.splitK, hj, if_neg (by simp <;> omega)] at ih
        rw [Lib.splitK, hix', if_neg (by simp <;> omega), ← ih]
        simp
def MaxI (w : World) : Prop := ∃ m, w.cell? ⟨rn.g 1, 0, none⟩ = some (.int .i64 m)
theorem MaxI.ext {w w' : World} (h : MaxI w) (k : Ext w w') : MaxI w' := by
  obtain ⟨m, hm⟩ := h
  refine ⟨m, ?_⟩
  unfold World.cell? at hm ⊢
  cases ho : w.heap[(⟨rn.g 1, 0, none⟩ : Addr).block]? with
  | none => rw [ho] at hm; simp at hm
  | some o => rw [ho] at hm; rw [k.get ho]; exact hm
theorem split_ret (s : List UInt8) (hs : s.length < 4294967281) (w : World) (hX : MaxI w) : Ret Tryd.prog 61 #[vS s, vS [32]] w (New fB 9 1 (splW s) w) := by
  obtain ⟨m, hm⟩ := hX
  have hd := Lib.splitB_data (bs [32]) 0 (Lib.countB (bs s) (bs [32])) (bs s)
  have hk : Lib.splitK (bs [32]).data.toList 0 (Lib.countB (bs s) (bs [32])) (bs s).data.toList = splW s := splK_sp s
  rw [hk] at hd
  have hl : (splW s).length = Lib.countB (bs s) (bs [32]) + 1 := by
    rw [← hd, List.length_map]; exact Lib.splitB_all (bs [32]) (by decide) 0 _ _ rfl
  have hc : ((Lib.splitB (bs [32]) 0 (Lib.countB (bs s) (bs [32])) (bs s)).map Value.string).toArray = arr fB (splW s) [] := by
    rw [← hd]
    generalize Lib.splitB (bs [32]) 0 (Lib.countB (bs s) (bs [32])) (bs s) = L
    unfold arr
    rw [List.append_nil]
    congr 1
    induction L with
    | nil => rfl
    | cons a L ih => rw [List.map_cons, List.map_cons, List.flatMap_cons, ih]; rfl
  have hsz : Lib.countB (bs s) (bs [32]) ≤ s.length := by
    have := Lib.countB_le (bs [32]) (by decide) s.length (bs s) (by rw [bs_size]; exact Nat.le_refl _); rwa [bs_size] at this
  refine (Any.strings_Split l146 (by kernel_rfl) (bs s) (bs [32]) m w (by rw [bs_size]; exact hs) hm (by decide)).mono (fun e w' ⟨he, hw⟩ => ⟨_, he, ?_, ?_⟩)
  · subst hw; exact chg_alloc w _
  · subst hw
    rw [hc]
    refine ⟨[(w.heap.size, .cells (arr fB (splW s) []) 9 (0, 0))], .inr ⟨w.heap.size, _, [], Nat.le_refl _, by rw [← hl], rfl, Nat.le_of_eq hl, by unfold maxLen; omega, by rw [hl]; rfl⟩, ?_⟩
    exact (Mem.nil w).alloc _
theorem isEv_empty {s : List UInt8} (h : (splW s).getD 1 [] = []) : isEv s = false := by unfold isEv; rw [decide_eq_false (show ¬ (splW s).getD 1 [] ≠ [] from fun q => q h)]; simp
theorem isEv_may {s : List UInt8} (h : (splW s).length = 5) (h1 : (splW s).getD 1 [] ≠ []) (h3 : (splW s).getD 3 [] = [45] ∨ 0 ≤ numO ((splW s).getD 3 [])) (h0 : 0 ≤ numO ((splW s).getD 0 [])) : isEv s = mayEv (evOf (splW s)) := by
  unfold isEv
  rw [decide_eq_true h, decide_eq_true h1, decide_eq_true h0]
  rcases h3 with h3 | h3
  · rw [decide_eq_true h3]; simp
  · rw [decide_eq_true h3]; simp
theorem OneT.may {s : List UInt8} {n0 : Nat} (h : isEv s = mayEv (evOf (splW s))) : OneT s n0 (.tuple #[.agg (fE (evOf (splW s))).toArray, .bool (mayEv (evOf (splW s)))]) [] :=
  ⟨⟨_, by rw [h], fun q => rfl⟩, rfl⟩
set_option maxRecDepth 100000 in
set_option maxHeartbeats 2000000 in
theorem eone_spec (s : List UInt8) (w : World) (hs : s.length ≤ 1000000000) (hX : MaxI w) : Ret Tryd.prog 30 #[vS s] w (fun v w' => Ext w w' ∧ ∃ m, OneT s w.heap.size v m ∧ Mem w' m ∧ ∀ p ∈ m, w.heap.size ≤ p.1) := by
 refine Ret.enterM (l := [vS s]) Tryd.func30 rfl Tryd.ntmps30 rfl ([]) (no) (Mem.nil w) ?_
 refine wpM.seq (wpM.region ?_)
 refine LM.alloc Tryd.zeroValue39 rfl (fun b2 hb2 => ?_)
 refine LM.as rfl ?_
 refine LM.nil (QM.sub (e' := [(0, _), (2, _)]) au9 (QM.then (wpM.seq (wpM.region ?_))))
 refine LM.mv rfl ?_
 refine LM.cS (oc_call (enters_fn Tryd.func61 (by kernel_rfl) rfl) rfl) (fun w hm hc hg => split_ret s (by omega) w (hX.ext hc)) (fun ad9 n9 cap9 m9 hn9 hs9 => ?_)
 refine LM.as rfl ?_
 refine LM.nil (QM.sub (e' := [(2, _), (4, _)]) au9 (QM.then ?_))
 refine wpM.seq ?_
 refine wpM.seq (wpM.region ?_)
 refine LM.mv rfl ?_
 refine LM.val (ov_len Tryd.underlying119 rfl) ?_
 refine LM.val (ov_neq rfl rfl) ?_
 refine LM.mv rfl ?_
 refine LM.splitD (t := 13) rfl (fun h1 => ?_) (fun h1 => ?_)
 ·
  refine LM.dr 13 rfl rfl rfl (LM.dr 13 rfl rfl rfl (LM.dr 13 rfl rfl rfl (LM.dr 13 rfl rfl rfl ?_)))
  refine LM.val (ov_pickT rfl rfl) ?_
  refine LM.nil (QM.sub (e' := [(2, _), (4, _), (18, _)]) au9 (QM.then ?_))
  refine wpM.condT rfl ?_
  refine wpM.seq (wpM.region ?_)
  refine LM.val (ov_build (cs := #[_, _, _, _, _]) rfl (by first | rfl | kernel_rfl)) ?_
  refine LM.stW Tryd.sizeOf39 rfl rfl rfl rfl au7 au8 ?_
  refine LM.as rfl ?_
  refine LM.nil (QM.sub (e' := [(2, _), (3, _)]) au9 (QM.then ?_))
  refine wpM.ret ?_
  refine QM.then_ret ?_
  refine QM.leaveCs (ds := ([])) (.inl rfl) [.cell 2 39, .tmp 3] Tryd.results30 hd_nil (rc_w rfl Tryd.isAgg39 Tryd.sizeOf39 rfl (rc_tmp rfl rc_nil)) ?_
  intro w' hm' hc'
  exact ⟨hc', [], OneT.no (isEv_len (by omega)), Mem.nil _, fun p hp => by cases hp⟩
 have hln5 : (splW s).length = 5 := (by omega); have hw0 : ((splW s).getD 0 default).length ≤ s.length := spl_len s 0; have hw1 : ((splW s).getD 1 default).length ≤ s.length := spl_len s 1; have hw2 : ((splW s).getD 2 default).length ≤ s.length := spl_len s 2; have hw3 : ((splW s).getD 3 default).length ≤ s.length := spl_len s 3; have hw4 : ((splW s).getD 4 default).length ≤ s.length := spl_len s 4
 refine LM.sp 13 rfl rfl rfl (LM.mv rfl (LM.sp 13 rfl rfl rfl ?_))
 refine LM.val (ov_idxSN (i := 1) au6 Tryd.underlying119 Tryd.sizeOf9 rfl rfl (by omega)) ?_
 refine LM.sp 13 rfl rfl rfl ?_
 refine LM.rd (om_sl1 (by assumption) (by intro _; rfl) Tryd.isAgg9 rfl rfl au3 (by rfl)) ?_
 refine LM.sp 13 rfl rfl rfl ?_
 refine LM.val (ov_seqlL rfl rfl) ?_
 refine LM.val (ov_pickF rfl rfl) ?_
 refine LM.nil (QM.sub (e' := [(2, _), (4, _), (18, _)]) au9 (QM.then ?_))
 refine wpM.condD rfl (fun h2 => ?_) (fun h2 => ?_)
 ·
  refine wpM.seq (wpM.region ?_)
  refine LM.val (ov_build (cs := #[_, _, _, _, _]) rfl (by first | rfl | kernel_rfl)) ?_
  refine LM.stW Tryd.sizeOf39 rfl rfl rfl rfl au7 au8 ?_
  refine LM.as rfl ?_
  refine LM.nil (QM.sub (e' := [(2, _), (3, _)]) au9 (QM.then ?_))
  refine wpM.ret ?_
  refine QM.then_ret ?_
  refine QM.leaveCs (ds := ([])) (.inl rfl) [.cell 2 39, .tmp 3] Tryd.results30 hd_nil (rc_w rfl Tryd.isAgg39 Tryd.sizeOf39 rfl (rc_tmp rfl rc_nil)) ?_
  intro w' hm' hc'
  exact ⟨hc', [], OneT.no (isEv_empty h2), Mem.nil _, fun p hp => by cases hp⟩
 refine wpM.skip ?_
 refine QM.then ?_
 refine wpM.seq ?_
 refine wpM.draw [(0, 0), (1, 0), (2, 1), (4, 0), (5, 0), (6, 1), (3, 2), (7, 2), (8, 0), (9, 0)] (by kernel_rfl) (by kernel_rfl) ?_
 refine LD.val rfl rfl (ov_move rfl) ?_
 refine LD.val rfl rfl (ov_idxSN (i := 0) au6 Tryd.underlying119 Tryd.sizeOf9 rfl rfl (by omega)) ?_
 refine LD.rd rfl rfl (om_sl1 (by assumption) (by intro _; rfl) Tryd.isAgg9 rfl rfl au3 (by rfl)) ?_
 refine LD.val rfl rfl (ov_move rfl) ?_
 refine LD.val rfl rfl (ov_idxSN (i := 3) au6 Tryd.underlying119 Tryd.sizeOf9 rfl rfl (by omega)) ?_
 refine LD.rd rfl rfl (om_sl1 (by assumption) (by intro _; rfl) Tryd.isAgg9 rfl rfl au3 (by rfl)) ?_
 refine LD.callE rfl rfl (oc_call (enters_fn Tryd.func62 (by kernel_rfl) rfl) rfl) (fun w hm hc hg => enum_spec _ w (by omega)) ?_
 refine LD.callE rfl rfl (oc_call (enters_fn Tryd.func62 (by kernel_rfl) rfl) rfl) (fun w hm hc hg => enum_spec _ w (by omega)) ?_
 refine LD.val rfl rfl (ov_assign rfl) ?_
 refine LD.val rfl rfl (ov_assign rfl) ?_
 refine LD.nil ?_
 refine QM.sub (e' := [(2, _), (4, _), (5, _), (6, _)]) au9 (QM.then ?_)
 refine wpM.seq ?_
 refine wpM.joinK (α := Int) (fun lk => [(6, .int .i64 lk)]) [(2, _), (4, _), (5, _)] (fun lk => (b2, .cells #[U 0#64, .int .i64 0, .int .i64 0, .int .i64 0, .int .i64 0] 39 (0, 0)) :: (m9 ++ [])) (fun lk => lk = lockN ((splW s).getD 3 default) ∧ (((splW s).getD 3 default) = [45] ∨ 0 ≤ numO ((splW s).getD 3 default))) ⟨rfl, rfl, rfl, trivial⟩ ?_ ?_
 ·
  refine wpM.block ?_
  refine wpM.seq (wpM.region ?_)
  refine LM.mv rfl ?_
  refine LM.val (ov_idxSN (i := 3) au6 Tryd.underlying119 Tryd.sizeOf9 rfl rfl (by omega)) ?_
  refine LM.rd (om_sl1 (by assumption) (by intro _; rfl) Tryd.isAgg9 rfl rfl au3 (by rfl)) ?_
  refine LM.val (ov_seqlL rfl rfl) ?_
  refine LM.as rfl ?_
  refine LM.nil (QM.sub (e' := [(2, _), (4, _), (5, _), (6, _), (28, _)]) au9 (QM.then ?_))
  refine wpM.condD rfl (fun h3 => ?_) (fun h3 => ?_)
  ·
   refine wpM.region ?_
   refine LM.as rfl ?_
   refine LM.nil (QM.sub (e' := [(2, _), (4, _), (5, _), (6, _)]) au9 ?_)
   refine QM.block_normal ?_
   refine QM.meetK (_) ⟨au2, rfl, rfl, rfl, trivial⟩ au1 ?_
   · exact ⟨by unfold lockN; rw [if_pos h3], .inl h3⟩
  refine wpM.seq (wpM.region ?_)
  refine LM.mv rfl ?_
  refine LM.val (ov_lss rfl rfl) ?_
  refine LM.as rfl ?_
  refine LM.nil (QM.sub (e' := [(2, _), (4, _), (5, _), (6, _), (33, _)]) au9 (QM.then ?_))
  refine wpM.condD rfl (fun h4 => ?_) (fun h4 => ?_)
  ·
   refine wpM.seq (wpM.region ?_)
   refine LM.val (ov_build (cs := #[_, _, _, _, _]) rfl (by first | rfl | kernel_rfl)) ?_
   refine LM.stW Tryd.sizeOf39 rfl rfl rfl rfl au7 au8 ?_
   refine LM.as rfl ?_
   refine LM.nil (QM.sub (e' := [(2, _), (3, _)]) au9 (QM.then ?_))
   refine wpM.ret ?_
   refine QM.block_ret ?_
   refine QM.join_ret ?_
   refine QM.then_ret ?_
   refine QM.leaveCs (ds := ([])) (.inl rfl) [.cell 2 39, .tmp 3] Tryd.results30 hd_nil (rc_w rfl Tryd.isAgg39 Tryd.sizeOf39 rfl (rc_tmp rfl rc_nil)) ?_
   intro w' hm' hc'
   exact ⟨hc', [], OneT.no (isEv_lock h3 h4), Mem.nil _, fun p hp => by cases hp⟩
  refine wpM.skip ?_
  refine QM.block_normal ?_
  refine QM.meetK (_) ⟨au2, rfl, rfl, rfl, trivial⟩ au1 ?_
  · exact ⟨by unfold lockN; rw [if_neg h3], .inr (by omega)⟩
 rintro lk ⟨hlk, hl3⟩
 change QM _ _ _ _ _ ((b2, .cells #[U 0#64, .int .i64 0, .int .i64 0, .int .i64 0, .int .i64 0] 39 (0, 0)) :: (m9 ++ [])) _ _ _
 refine QM.then ?_
 refine wpM.seq ?_
 refine wpM.seq (wpM.region ?_)
 refine LM.mv rfl ?_
 refine LM.val (ov_lss rfl rfl) ?_
 refine LM.nil (QM.sub (e' := [(2, _), (4, _), (5, _), (6, _), (38, _)]) au9 (QM.then ?_))
 refine wpM.condD rfl (fun h5 => ?_) (fun h5 => ?_)
 ·
  refine wpM.seq (wpM.region ?_)
  refine LM.val (ov_build (cs := #[_, _, _, _, _]) rfl (by first | rfl | kernel_rfl)) ?_
  refine LM.stW Tryd.sizeOf39 rfl rfl rfl rfl au7 au8 ?_
  refine LM.as rfl ?_
  refine LM.nil (QM.sub (e' := [(2, _), (3, _)]) au9 (QM.then ?_))
  refine wpM.ret ?_
  refine QM.then_ret ?_
  refine QM.leaveCs (ds := ([])) (.inl rfl) [.cell 2 39, .tmp 3] Tryd.results30 hd_nil (rc_w rfl Tryd.isAgg39 Tryd.sizeOf39 rfl (rc_tmp rfl rc_nil)) ?_
  intro w' hm' hc'
  exact ⟨hc', [], OneT.no (isEv_num (.inl h5)), Mem.nil _, fun p hp => by cases hp⟩
 refine wpM.skip ?_
 refine QM.then ?_
 refine wpM.seq ?_
 refine wpM.keep (m9 ++ []) (fun _ => True) (.one 0 0 (.one 1 0 (.one 3 0 (.one 4 0 (.one 5 1 (.one 7 0 (.one 8 0 (.one 9 1 (.one 11 0 (.one 12 0 (.one 13 0 (.one 14 1 (.fork 2 (.fork 6 (.fork 10 (.fork 15 (.one 16 0 (.one 17 2 (.one 18 2 .nil))) 17 (.one 15 2 (.one 16 0 (.one 18 2 .nil)))) 17 (.one 10 2 (.one 15 2 (.one 16 0 (.one 18 2 .nil))))) 17 (.one 6 2 (.one 10 2 (.one 15 2 (.one 16 0 (.one 18 2 .nil)))))) 17 (.one 2 2 (.one 6 2 (.one 10 2 (.one 15 2 (.one 16 0 (.one 18 2 .nil))))))))))))))))))) (by kernel_rfl) (by kernel_rfl) au1 (fun _ _ => trivial) ?_
 refine KD.val rfl rfl (ov_move rfl) ?_
 refine KD.val rfl rfl (ov_toU Tryd.underlying3 Tryd.underlying37 rfl) ?_
 refine KD.val rfl rfl (ov_move rfl) ?_
 refine KD.val rfl rfl (ov_idxSN (i := 1) au6 Tryd.underlying119 Tryd.sizeOf9 rfl rfl (by omega)) ?_
 refine KD.rd rfl rfl (om_sl1 (by assumption) (by intro _; rfl) Tryd.isAgg9 rfl rfl au3 (by rfl)) ?_
 refine KD.val rfl rfl (ov_move rfl) ?_
 refine KD.val rfl rfl (ov_idxSN (i := 2) au6 Tryd.underlying119 Tryd.sizeOf9 rfl rfl (by omega)) ?_
 refine KD.rd rfl rfl (om_sl1 (by assumption) (by intro _; rfl) Tryd.isAgg9 rfl rfl au3 (by rfl)) ?_
 refine KD.val rfl rfl (ov_move rfl) ?_
 refine KD.val rfl rfl (ov_move rfl) ?_
 refine KD.val rfl rfl (ov_idxSN (i := 4) au6 Tryd.underlying119 Tryd.sizeOf9 rfl rfl (by omega)) ?_
 refine KD.rd rfl rfl (om_sl1 (by assumption) (by intro _; rfl) Tryd.isAgg9 rfl rfl au3 (by rfl)) ?_
 refine KD.fork rfl rfl ?_ ?_
 ·
  refine LM.cS (oc_call (enters_fn Tryd.func64 (by kernel_rfl) rfl) rfl) (fun w hm hc hg => enames_spec w) (fun ad42 n42 cap42 m42 hn42 hs42 => ?_)
  refine LM.nil ?_
  refine QM.one au1 (fun _ _ => trivial) ?_
  refine KD.fork rfl rfl ?_ ?_
  ·
   refine LM.callE (oc_call (enters_fn Tryd.func63 (by kernel_rfl) rfl) rfl) (fun w hm hc hg => index_str ((splW s).getD 1 default) w hn42 (hs42.srM (by intro _; rfl) hm) (by decide)) ?_
   refine LM.nil ?_
   refine QM.one au1 (fun _ _ => trivial) ?_
   refine KD.fork rfl rfl ?_ ?_
   ·
    refine LM.callE (oc_call (enters_fn Tryd.func62 (by kernel_rfl) rfl) rfl) (fun w hm hc hg => enum_spec _ w (by omega)) ?_
    refine LM.nil ?_
    refine QM.one au1 (fun _ _ => trivial) ?_
    refine KD.fork rfl rfl ?_ ?_
    ·
     refine LM.callE (oc_call (enters_fn Tryd.func62 (by kernel_rfl) rfl) rfl) (fun w hm hc hg => enum_spec _ w (by omega)) ?_
     refine LM.nil ?_
     refine QM.one au1 (fun _ _ => trivial) ?_
     refine KD.val rfl rfl (ov_build (cs := #[U (BitVec.ofInt 64 (numO ((splW s).getD 0 default))), .int .i64 (kindEv ((splW s).getD 1 default)), .int .i64 (numO ((splW s).getD 2 default)), .int .i64 lk, .int .i64 (numO ((splW s).getD 4 default))]) rfl (by kernel_rfl)) ?_
     refine KD.one rfl ?_
     refine LM.alloc Tryd.zeroValue39 rfl (fun b7 hb7 => ?_)
     refine LM.nil ?_
     refine QM.one au1 (fun _ _ => trivial) ?_
     refine KD.one rfl ?_
     refine LM.stW Tryd.sizeOf39 rfl rfl rfl rfl au7 au8 ?_
     refine LM.nil ?_
     refine QM.one au1 (fun _ _ => trivial) ?_
     refine KD.nil ?_
     refine QM.sub (e' := [(2, _), (7, _)]) au9 (QM.then ?_)
     refine wpM.seq ?_
     refine wpM.keep ((b7, _) :: []) (fun _ => True) (.one 0 1 (.one 1 1 (.one 2 2 (.one 3 2 (.one 4 0 .nil))))) (by kernel_rfl) (by kernel_rfl) au1 (fun _ _ => trivial) ?_
     refine KD.rd rfl rfl (om_ldW Tryd.isAgg39 Tryd.sizeOf39 rfl rfl) ?_
     refine KD.rd rfl rfl (om_ldW Tryd.isAgg39 Tryd.sizeOf39 rfl rfl) ?_
     refine KD.one rfl ?_
     refine LM.callE (oc_call (enters_fn Tryd.func55 (by kernel_rfl) rfl) rfl) (fun w hm hc hg => emay_spec (⟨BitVec.ofInt 64 (numO ((splW s).getD 0 default)), kindEv ((splW s).getD 1 default), numO ((splW s).getD 2 default), lk, numO ((splW s).getD 4 default)⟩ : Evt) w) ?_
     refine LM.nil ?_
     refine QM.one au1 (fun _ _ => trivial) ?_
     refine KD.one rfl ?_
     refine LM.stW Tryd.sizeOf39 rfl rfl rfl rfl au7 au8 ?_
     refine LM.nil ?_
     refine QM.one au1 (fun _ _ => trivial) ?_
     refine KD.val rfl rfl (ov_assign rfl) ?_
     refine KD.nil ?_
     refine QM.sub (e' := [(2, _), (3, _)]) au9 (QM.then ?_)
     refine wpM.ret ?_
     refine QM.leaveCs (ds := ([])) (.inl rfl) [.cell 2 39, .tmp 3] Tryd.results30 hd_nil (rc_w rfl Tryd.isAgg39 Tryd.sizeOf39 rfl (rc_tmp rfl rc_nil)) ?_
     intro w' hm' hc'
     have he : evOf (splW s) = (⟨BitVec.ofInt 64 (numO ((splW s).getD 0 default)), kindEv ((splW s).getD 1 default), numO ((splW s).getD 2 default), lk, numO ((splW s).getD 4 default)⟩ : Evt) := (by unfold evOf; rw [hlk]; rfl); have hO := OneT.may (n0 := w.heap.size) (s := s) (isEv_may hln5 h2 hl3 (Int.not_lt.1 h5)); rw [he] at hO; exact ⟨hc', [], hO, Mem.nil _, fun p hp => by cases hp⟩
    refine LM.alloc Tryd.zeroValue39 rfl (fun b7 hb7 => ?_)
    refine LM.nil ?_
    refine QM.one au1 (fun _ _ => trivial) ?_
    refine KD.one rfl ?_
    refine LM.callE (oc_call (enters_fn Tryd.func62 (by kernel_rfl) rfl) rfl) (fun w hm hc hg => enum_spec _ w (by omega)) ?_
    refine LM.nil ?_
    refine QM.one au1 (fun _ _ => trivial) ?_
    refine KD.val rfl rfl (ov_build (cs := #[U (BitVec.ofInt 64 (numO ((splW s).getD 0 default))), .int .i64 (kindEv ((splW s).getD 1 default)), .int .i64 (numO ((splW s).getD 2 default)), .int .i64 lk, .int .i64 (numO ((splW s).getD 4 default))]) rfl (by kernel_rfl)) ?_
    refine KD.one rfl ?_
    refine LM.stW Tryd.sizeOf39 rfl rfl rfl rfl au7 au8 ?_
    refine LM.nil ?_
    refine QM.one au1 (fun _ _ => trivial) ?_
    refine KD.nil ?_
    refine QM.sub (e' := [(2, _), (7, _)]) au9 (QM.then ?_)
    refine wpM.seq ?_
    refine wpM.keep ((b7, _) :: []) (fun _ => True) (.one 0 1 (.one 1 1 (.one 2 2 (.one 3 2 (.one 4 0 .nil))))) (by kernel_rfl) (by kernel_rfl) au1 (fun _ _ => trivial) ?_
    refine KD.rd rfl rfl (om_ldW Tryd.isAgg39 Tryd.sizeOf39 rfl rfl) ?_
    refine KD.rd rfl rfl (om_ldW Tryd.isAgg39 Tryd.sizeOf39 rfl rfl) ?_
    refine KD.one rfl ?_
    refine LM.callE (oc_call (enters_fn Tryd.func55 (by kernel_rfl) rfl) rfl) (fun w hm hc hg => emay_spec (⟨BitVec.ofInt 64 (numO ((splW s).getD 0 default)), kindEv ((splW s).getD 1 default), numO ((splW s).getD 2 default), lk, numO ((splW s).getD 4 default)⟩ : Evt) w) ?_
    refine LM.nil ?_
    refine QM.one au1 (fun _ _ => trivial) ?_
    refine KD.one rfl ?_
    refine LM.stW Tryd.sizeOf39 rfl rfl rfl rfl au7 au8 ?_
    refine LM.nil ?_
    refine QM.one au1 (fun _ _ => trivial) ?_
    refine KD.val rfl rfl (ov_assign rfl) ?_
    refine KD.nil ?_
    refine QM.sub (e' := [(2, _), (3, _)]) au9 (QM.then ?_)
    refine wpM.ret ?_
    refine QM.leaveCs (ds := ([])) (.inl rfl) [.cell 2 39, .tmp 3] Tryd.results30 hd_nil (rc_w rfl Tryd.isAgg39 Tryd.sizeOf39 rfl (rc_tmp rfl rc_nil)) ?_
    intro w' hm' hc'
    have he : evOf (splW s) = (⟨BitVec.ofInt 64 (numO ((splW s).getD 0 default)), kindEv ((splW s).getD 1 default), numO ((splW s).getD 2 default), lk, numO ((splW s).getD 4 default)⟩ : Evt) := (by unfold evOf; rw [hlk]; rfl); have hO := OneT.may (n0 := w.heap.size) (s := s) (isEv_may hln5 h2 hl3 (Int.not_lt.1 h5)); rw [he] at hO; exact ⟨hc', [], hO, Mem.nil _, fun p hp => by cases hp⟩
   refine LM.alloc Tryd.zeroValue39 rfl (fun b7 hb7 => ?_)
   refine LM.nil ?_
   refine QM.one au1 (fun _ _ => trivial) ?_
   refine KD.one rfl ?_
   refine LM.callE (oc_call (enters_fn Tryd.func62 (by kernel_rfl) rfl) rfl) (fun w hm hc hg => enum_spec _ w (by omega)) ?_
   refine LM.nil ?_
   refine QM.one au1 (fun _ _ => trivial) ?_
   refine KD.one rfl ?_
   refine LM.callE (oc_call (enters_fn Tryd.func62 (by kernel_rfl) rfl) rfl) (fun w hm hc hg => enum_spec _ w (by omega)) ?_
   refine LM.nil ?_
   refine QM.one au1 (fun _ _ => trivial) ?_
   refine KD.val rfl rfl (ov_build (cs := #[U (BitVec.ofInt 64 (numO ((splW s).getD 0 default))), .int .i64 (kindEv ((splW s).getD 1 default)), .int .i64 (numO ((splW s).getD 2 default)), .int .i64 lk, .int .i64 (numO ((splW s).getD 4 default))]) rfl (by kernel_rfl)) ?_
   refine KD.one rfl ?_
   refine LM.stW Tryd.sizeOf39 rfl rfl rfl rfl au7 au8 ?_
   refine LM.nil ?_
   refine QM.one au1 (fun _ _ => trivial) ?_
   refine KD.nil ?_
   refine QM.sub (e' := [(2, _), (7, _)]) au9 (QM.then ?_)
   refine wpM.seq ?_
   refine wpM.keep ((b7, _) :: []) (fun _ => True) (.one 0 1 (.one 1 1 (.one 2 2 (.one 3 2 (.one 4 0 .nil))))) (by kernel_rfl) (by kernel_rfl) au1 (fun _ _ => trivial) ?_
   refine KD.rd rfl rfl (om_ldW Tryd.isAgg39 Tryd.sizeOf39 rfl rfl) ?_
   refine KD.rd rfl rfl (om_ldW Tryd.isAgg39 Tryd.sizeOf39 rfl rfl) ?_
   refine KD.one rfl ?_
   refine LM.callE (oc_call (enters_fn Tryd.func55 (by kernel_rfl) rfl) rfl) (fun w hm hc hg => emay_spec (⟨BitVec.ofInt 64 (numO ((splW s).getD 0 default)), kindEv ((splW s).getD 1 default), numO ((splW s).getD 2 default), lk, numO ((splW s).getD 4 default)⟩ : Evt) w) ?_
   refine LM.nil ?_
   refine QM.one au1 (fun _ _ => trivial) ?_
   refine KD.one rfl ?_
   refine LM.stW Tryd.sizeOf39 rfl rfl rfl rfl au7 au8 ?_
   refine LM.nil ?_
   refine QM.one au1 (fun _ _ => trivial) ?_
   refine KD.val rfl rfl (ov_assign rfl) ?_
   refine KD.nil ?_
   refine QM.sub (e' := [(2, _), (3, _)]) au9 (QM.then ?_)
   refine wpM.ret ?_
   refine QM.leaveCs (ds := ([])) (.inl rfl) [.cell 2 39, .tmp 3] Tryd.results30 hd_nil (rc_w rfl Tryd.isAgg39 Tryd.sizeOf39 rfl (rc_tmp rfl rc_nil)) ?_
   intro w' hm' hc'
   have he : evOf (splW s) = (⟨BitVec.ofInt 64 (numO ((splW s).getD 0 default)), kindEv ((splW s).getD 1 default), numO ((splW s).getD 2 default), lk, numO ((splW s).getD 4 default)⟩ : Evt) := (by unfold evOf; rw [hlk]; rfl); have hO := OneT.may (n0 := w.heap.size) (s := s) (isEv_may hln5 h2 hl3 (Int.not_lt.1 h5)); rw [he] at hO; exact ⟨hc', [], hO, Mem.nil _, fun p hp => by cases hp⟩
  refine LM.alloc Tryd.zeroValue39 rfl (fun b7 hb7 => ?_)
  refine LM.nil ?_
  refine QM.one au1 (fun _ _ => trivial) ?_
  refine KD.one rfl ?_
  refine LM.callE (oc_call (enters_fn Tryd.func63 (by kernel_rfl) rfl) rfl) (fun w hm hc hg => index_str ((splW s).getD 1 default) w hn42 (hs42.srM (by intro _; rfl) hm) (by decide)) ?_
  refine LM.nil ?_
  refine QM.one au1 (fun _ _ => trivial) ?_
  refine KD.one rfl ?_
  refine LM.callE (oc_call (enters_fn Tryd.func62 (by kernel_rfl) rfl) rfl) (fun w hm hc hg => enum_spec _ w (by omega)) ?_
  refine LM.nil ?_
  refine QM.one au1 (fun _ _ => trivial) ?_
  refine KD.one rfl ?_
  refine LM.callE (oc_call (enters_fn Tryd.func62 (by kernel_rfl) rfl) rfl) (fun w hm hc hg => enum_spec _ w (by omega)) ?_
  refine LM.nil ?_
  refine QM.one au1 (fun _ _ => trivial) ?_
  refine KD.val rfl rfl (ov_build (cs := #[U (BitVec.ofInt 64 (numO ((splW s).getD 0 default))), .int .i64 (kindEv ((splW s).getD 1 default)), .int .i64 (numO ((splW s).getD 2 default)), .int .i64 lk, .int .i64 (numO ((splW s).getD 4 default))]) rfl (by kernel_rfl)) ?_
  refine KD.one rfl ?_
  refine LM.stW Tryd.sizeOf39 rfl rfl rfl rfl au7 au8 ?_
  refine LM.nil ?_
  refine QM.one au1 (fun _ _ => trivial) ?_
  refine KD.nil ?_
  refine QM.sub (e' := [(2, _), (7, _)]) au9 (QM.then ?_)
  refine wpM.seq ?_
  refine wpM.keep ((b7, _) :: []) (fun _ => True) (.one 0 1 (.one 1 1 (.one 2 2 (.one 3 2 (.one 4 0 .nil))))) (by kernel_rfl) (by kernel_rfl) au1 (fun _ _ => trivial) ?_
  refine KD.rd rfl rfl (om_ldW Tryd.isAgg39 Tryd.sizeOf39 rfl rfl) ?_
  refine KD.rd rfl rfl (om_ldW Tryd.isAgg39 Tryd.sizeOf39 rfl rfl) ?_
  refine KD.one rfl ?_
  refine LM.callE (oc_call (enters_fn Tryd.func55 (by kernel_rfl) rfl) rfl) (fun w hm hc hg => emay_spec (⟨BitVec.ofInt 64 (numO ((splW s).getD 0 default)), kindEv ((splW s).getD 1 default), numO ((splW s).getD 2 default), lk, numO ((splW s).getD 4 default)⟩ : Evt) w) ?_
  refine LM.nil ?_
  refine QM.one au1 (fun _ _ => trivial) ?_
  refine KD.one rfl ?_
  refine LM.stW Tryd.sizeOf39 rfl rfl rfl rfl au7 au8 ?_
  refine LM.nil ?_
  refine QM.one au1 (fun _ _ => trivial) ?_
  refine KD.val rfl rfl (ov_assign rfl) ?_
  refine KD.nil ?_
  refine QM.sub (e' := [(2, _), (3, _)]) au9 (QM.then ?_)
  refine wpM.ret ?_
  refine QM.leaveCs (ds := ([])) (.inl rfl) [.cell 2 39, .tmp 3] Tryd.results30 hd_nil (rc_w rfl Tryd.isAgg39 Tryd.sizeOf39 rfl (rc_tmp rfl rc_nil)) ?_
  intro w' hm' hc'
  have he : evOf (splW s) = (⟨BitVec.ofInt 64 (numO ((splW s).getD 0 default)), kindEv ((splW s).getD 1 default), numO ((splW s).getD 2 default), lk, numO ((splW s).getD 4 default)⟩ : Evt) := (by unfold evOf; rw [hlk]; rfl); have hO := OneT.may (n0 := w.heap.size) (s := s) (isEv_may hln5 h2 hl3 (Int.not_lt.1 h5)); rw [he] at hO; exact ⟨hc', [], hO, Mem.nil _, fun p hp => by cases hp⟩
 refine LM.alloc Tryd.zeroValue39 rfl (fun b7 hb7 => ?_)
 refine LM.nil ?_
 refine QM.one au1 (fun _ _ => trivial) ?_
 refine KD.one rfl ?_
 refine LM.cS (oc_call (enters_fn Tryd.func64 (by kernel_rfl) rfl) rfl) (fun w hm hc hg => enames_spec w) (fun ad42 n42 cap42 m42 hn42 hs42 => ?_)
 refine LM.nil ?_
 refine QM.one au1 (fun _ _ => trivial) ?_
 refine KD.one rfl ?_
 refine LM.callE (oc_call (enters_fn Tryd.func63 (by kernel_rfl) rfl) rfl) (fun w hm hc hg => index_str ((splW s).getD 1 default) w hn42 (hs42.srM (by intro _; rfl) hm) (by decide)) ?_
 refine LM.nil ?_
 refine QM.one au1 (fun _ _ => trivial) ?_
 refine KD.one rfl ?_
 refine LM.callE (oc_call (enters_fn Tryd.func62 (by kernel_rfl) rfl) rfl) (fun w hm hc hg => enum_spec _ w (by omega)) ?_
 refine LM.nil ?_
 refine QM.one au1 (fun _ _ => trivial) ?_
 refine KD.one rfl ?_
 refine LM.callE (oc_call (enters_fn Tryd.func62 (by kernel_rfl) rfl) rfl) (fun w hm hc hg => enum_spec _ w (by omega)) ?_
 refine LM.nil ?_
 refine QM.one au1 (fun _ _ => trivial) ?_
 refine KD.val rfl rfl (ov_build (cs := #[U (BitVec.ofInt 64 (numO ((splW s).getD 0 default))), .int .i64 (kindEv ((splW s).getD 1 default)), .int .i64 (numO ((splW s).getD 2 default)), .int .i64 lk, .int .i64 (numO ((splW s).getD 4 default))]) rfl (by kernel_rfl)) ?_
 refine KD.one rfl ?_
 refine LM.stW Tryd.sizeOf39 rfl rfl rfl rfl au7 au8 ?_
 refine LM.nil ?_
 refine QM.one au1 (fun _ _ => trivial) ?_
 refine KD.nil ?_
 refine QM.sub (e' := [(2, _), (7, _)]) au9 (QM.then ?_)
 refine wpM.seq ?_
 refine wpM.keep ((b7, _) :: []) (fun _ => True) (.one 0 1 (.one 1 1 (.one 2 2 (.one 3 2 (.one 4 0 .nil))))) (by kernel_rfl) (by kernel_rfl) au1 (fun _ _ => trivial) ?_
 refine KD.rd rfl rfl (om_ldW Tryd.isAgg39 Tryd.sizeOf39 rfl rfl) ?_
 refine KD.rd rfl rfl (om_ldW Tryd.isAgg39 Tryd.sizeOf39 rfl rfl) ?_
 refine KD.one rfl ?_
 refine LM.callE (oc_call (enters_fn Tryd.func55 (by kernel_rfl) rfl) rfl) (fun w hm hc hg => emay_spec (⟨BitVec.ofInt 64 (numO ((splW s).getD 0 default)), kindEv ((splW s).getD 1 default), numO ((splW s).getD 2 default), lk, numO ((splW s).getD 4 default)⟩ : Evt) w) ?_
 refine LM.nil ?_
 refine QM.one au1 (fun _ _ => trivial) ?_
 refine KD.one rfl ?_
 refine LM.stW Tryd.sizeOf39 rfl rfl rfl rfl au7 au8 ?_
 refine LM.nil ?_
 refine QM.one au1 (fun _ _ => trivial) ?_
 refine KD.val rfl rfl (ov_assign rfl) ?_
 refine KD.nil ?_
 refine QM.sub (e' := [(2, _), (3, _)]) au9 (QM.then ?_)
 refine wpM.ret ?_
 refine QM.leaveCs (ds := ([])) (.inl rfl) [.cell 2 39, .tmp 3] Tryd.results30 hd_nil (rc_w rfl Tryd.isAgg39 Tryd.sizeOf39 rfl (rc_tmp rfl rc_nil)) ?_
 intro w' hm' hc'
 have he : evOf (splW s) = (⟨BitVec.ofInt 64 (numO ((splW s).getD 0 default)), kindEv ((splW s).getD 1 default), numO ((splW s).getD 2 default), lk, numO ((splW s).getD 4 default)⟩ : Evt) := (by unfold evOf; rw [hlk]; rfl); have hO := OneT.may (n0 := w.heap.size) (s := s) (isEv_may hln5 h2 hl3 (Int.not_lt.1 h5)); rw [he] at hO; exact ⟨hc', [], hO, Mem.nil _, fun p hp => by cases hp⟩
theorem idx_nlE : ∀ (l : List UInt8), Lib.indexByte l 10 = if (l.takeWhile notNlB).length < l.length then (((l.takeWhile notNlB).length : Nat) : Int) else -1
  | [] => rfl
  | c :: l => by
    have ih := idx_nlE l
    by_cases hc : c = 10
    · subst hc
      have h1 : ((10 : UInt8) :: l).takeWhile notNlB = [] := by rw [List.takeWhile_cons, if_neg (by decide)]
      rw [Lib.indexByte, h1]; simp
    · have h1 : (c :: l).takeWhile notNlB = c :: l.takeWhile notNlB := by rw [List.takeWhile_cons, if_pos (by unfold notNlB; simpa using hc)]
      rw [Lib.indexByte, if_neg (by simpa using hc), h1, ih, List.length_cons, List.length_cons]
      by_cases hq : (l.takeWhile notNlB).length < l.length
      · rw [if_pos hq, if_neg (show ¬ ((((l.takeWhile notNlB).length : Nat) : Int) == -1) = true by rw [beq_iff_eq]; omega), if_pos (by omega)]; omega
      · rw [if_neg hq, if_pos (by rfl), if_neg (by omega)]
theorem idx_end {s : List UInt8} {i : Nat} (hi : i ≤ s.length) : (Lib.indexByte (s.drop i) 10 < 0 → s.length ≤ i + endL s i) ∧ (¬ Lib.indexByte (s.drop i) 10 < 0 → Lib.indexByte (s.drop i) 10 = ((endL s i : Nat) : Int) ∧ i + endL s i < s.length) := by
  have h := idx_nlE (s.drop i)
  rw [List.length_drop] at h
  have he : endL s i = ((s.drop i).takeWhile notNlB).length := rfl
  rw [← he] at h
  rw [h]
  split <;> constructor <;> intro q <;> omega
set_option maxRecDepth 100000 in
set_option maxHeartbeats 2000000 in
theorem eparse_spec (s : List UInt8) (w : World) (hX : MaxI w) : Ret Tryd.prog 8 #[vS s] w (fun v w' => Ext w w' ∧ ∃ m, EvT (parO s) w.heap.size v m ∧ Mem w' m ∧ ∀ p ∈ m, w.heap.size ≤ p.1) := by
 refine Ret.enterM (l := [vS s]) Tryd.func8 rfl Tryd.ntmps8 rfl ([]) (no) (Mem.nil w) ?_
 refine wpM.seq (wpM.region ?_)
 refine LM.as rfl (LM.as rfl (LM.as rfl ?_))
 refine LM.nil (QM.sub (e' := [(0, _)]) ⟨rfl, trivial⟩ (QM.then ?_))
 refine wpM.seq ?_
 refine wpM.seq (wpM.region ?_)
 refine LM.mv rfl ?_
 refine LM.val (ov_slenL Tryd.underlying9 rfl) ?_
 refine LM.val (ov_gtr rfl rfl) ?_
 refine LM.nil (QM.sub (e' := [(0, _), (12, _)]) au9 (QM.then ?_))
 refine wpM.condD rfl (fun h1 => ?_) (fun h1 => ?_)
 ·
  refine wpM.seq (wpM.region ?_)
  refine LM.as rfl (LM.as rfl (LM.as rfl ?_))
  refine LM.nil (QM.sub (e' := [(2, _), (3, _), (4, _)]) au9 (QM.then ?_))
  refine wpM.ret ?_
  refine QM.then_ret ?_
  refine QM.leave (.inl rfl) [.tmp 2, .tmp 3, .tmp 4] Tryd.results8 rfl ?_
  intro w' hm' hc' hg'
  exact ⟨hc', [], EvT.no (parO_big h1), Mem.nil _, fun p hp => by cases hp⟩
 refine wpM.skip ?_
 refine QM.then (wpM.seq (wpM.region ?_))
 refine LM.as rfl ?_
 refine LM.nil (QM.sub (e' := [(0, _), (5, _)]) au9 (QM.then ?_))
 refine wpM.seq ?_
 refine wpM.seq (wpM.region ?_)
 refine LM.as rfl ?_
 refine LM.nil (QM.sub (e' := [(0, _), (5, _), (6, _)]) au9 (QM.then ?_))
 refine wpM.block ?_
 refine wpM.loopK0 (α := Nat × List Evt × Option Addr × Nat × Nat × Mem0) (fun ⟨i, out, ad5, n5, cap5, m5⟩ => [(5, .slice ad5 n5 cap5), (6, .int .i64 (i : Nat))]) [(0, _)] (fun ⟨i, out, ad5, n5, cap5, m5⟩ => m5 ++ []) (fun ⟨i, out, ad5, n5, cap5, m5⟩ => i ≤ s.length ∧ parL s 0 [] = parL s i out ∧ out.length ≤ i ∧ n5 = out.length ∧ Sl fE 39 5 w.heap.size out (.slice ad5 n5 cap5) m5) (fun ⟨i, out, ad5, n5, cap5, m5⟩ => s.length - i) ((0, [], none, 0, 0, [])) ⟨au2, au2, rfl, trivial⟩ au1 ⟨Nat.zero_le _, rfl, Nat.le_refl _, rfl, .nil _ _ _ _⟩ ?_
 rintro ⟨i, out, ad5, n5, cap5, m5⟩ ⟨hi, hp, hlo, hn5, hs5⟩
 change wpM _ _ _ _ _ _ _ (m5 ++ []) _ _ _
 refine wpM.seq ?_
 refine wpM.seq (wpM.region ?_)
 refine LM.mv rfl (LM.mv rfl ?_)
 refine LM.val (ov_slenL Tryd.underlying9 rfl) ?_
 refine LM.val (ov_lss rfl rfl) ?_
 refine LM.nil (QM.sub (e' := [(0, _), (5, _), (6, _), (16, _)]) au9 (QM.then ?_))
 refine wpM.condD rfl (fun h2 => ?_) (fun h2 => ?_)
 ·
  refine wpM.skip ?_
  refine QM.then ?_
  refine wpM.block ?_
  refine wpM.seq (wpM.region ?_)
  refine LM.mv rfl (LM.mv rfl ?_)
  refine LM.val (ov_sslcLo Tryd.underlying9 rfl rfl (by omega) (by omega)) ?_
  refine LM.callE (oc_call (enters_fn Tryd.func29 (by kernel_rfl) rfl) rfl) (fun w hm hc hg => idx_ret (s.drop i) 10 w) ?_
  refine LM.as rfl ?_
  refine LM.nil (QM.sub (e' := [(0, _), (5, _), (6, _), (7, _)]) au9 (QM.then ?_))
  refine wpM.seq ?_
  refine wpM.seq (wpM.region ?_)
  have hidx := idx_end (s := s) (i := i) (by omega); change (Lib.indexByte (s.drop i) (Int.toNat 10).toUInt8 < 0 → _) ∧ (¬ Lib.indexByte (s.drop i) (Int.toNat 10).toUInt8 < 0 → Lib.indexByte (s.drop i) (Int.toNat 10).toUInt8 = _ ∧ _) at hidx; generalize Lib.indexByte (s.drop i) (Int.toNat 10).toUInt8 = q at hidx ⊢
  refine LM.mv rfl ?_
  refine LM.val (ov_lss rfl rfl) ?_
  refine LM.nil (QM.sub (e' := [(0, _), (5, _), (6, _), (7, _), (22, _)]) au9 (QM.then ?_))
  refine wpM.condD rfl (fun h3 => ?_) (fun h3 => ?_)
  ·
   refine wpM.seq (wpM.region ?_)
   refine LM.mv rfl (LM.as rfl (LM.as rfl (LM.as rfl ?_)))
   refine LM.nil (QM.sub (e' := [(2, _), (3, _), (4, _)]) au9 (QM.then ?_))
   refine wpM.ret ?_
   refine QM.then_ret ?_
   refine QM.block_ret ?_
   refine QM.then_ret ?_
   refine QM.block_ret ?_
   refine QM.then_ret ?_
   refine QM.leave (.inl rfl) [.tmp 2, .tmp 3, .tmp 4] Tryd.results8 rfl ?_
   intro w' hm' hc' hg'
   exact ⟨hc', [], EvT.no (by rw [parO_small h1, hp, parL_noend (by omega) (hidx.1 h3)]), Mem.nil _, fun p hp => by cases hp⟩
  obtain ⟨rfl, hlt⟩ := hidx.2 h3
  refine wpM.skip ?_
  refine QM.then (wpM.seq (wpM.region ?_))
  refine LM.mv rfl (LM.mv rfl (LM.mv rfl (LM.mv rfl ?_)))
  refine LM.val (ov_add64 rfl rfl (by omega)) ?_
  refine LM.val (ov_sslcL Tryd.underlying9 rfl rfl rfl (by omega) (by omega) (by omega)) ?_
  refine LM.callT (oc_call (enters_fn Tryd.func30 (by kernel_rfl) rfl) rfl) OneT.mono (fun w hm hc hg => eone_spec ((s.drop i).take (((i : Int) + ((endL s i : Nat) : Int)).toNat - ((i : Nat) : Int).toNat)) w (by rw [List.length_take]; omega) (hX.ext hc)) ?_
  rintro u31 m31 ⟨⟨e, rfl, he⟩, rfl⟩ -; have hpc : (s.drop i).take (((i : Int) + ((endL s i : Nat) : Int)).toNat - ((i : Nat) : Int).toNat) = (s.drop i).take (endL s i) := (by congr 1; omega)
  refine LM.mv rfl ?_
  refine LM.val (ov_extract rfl rfl) ?_
  refine LM.val (ov_extract rfl rfl) ?_
  refine LM.alloc Tryd.zeroValue39 rfl (fun b8 hb8 => ?_)
  refine LM.stW Tryd.sizeOf39 rfl rfl rfl rfl au7 au8 ?_
  refine LM.as rfl ?_
  refine LM.nil (QM.sub (e' := [(0, _), (5, _), (6, _), (7, _), (8, _), (9, _)]) au9 (QM.then ?_))
  refine wpM.seq ?_
  refine wpM.seq (wpM.region ?_)
  refine LM.mv rfl ?_
  first | refine LM.val (ov_notD rfl) ?_ | refine LM.val (ov_not rfl) ?_
  refine LM.nil (QM.sub (e' := [(0, _), (5, _), (6, _), (7, _), (8, _), (35, _)]) au9 (QM.then ?_))
  first | refine wpM.condD rfl (fun h4 => ?_) (fun h4 => ?_) | refine wpM.condB rfl (fun h4 => ?_) (fun h4 => ?_)
  ·
   refine wpM.seq (wpM.region ?_)
   refine LM.mv rfl (LM.as rfl (LM.as rfl (LM.as rfl ?_)))
   refine LM.nil (QM.sub (e' := [(2, _), (3, _), (4, _)]) au9 (QM.then ?_))
   refine wpM.ret ?_
   refine QM.then_ret ?_
   refine QM.block_ret ?_
   refine QM.then_ret ?_
   refine QM.block_ret ?_
   refine QM.then_ret ?_
   refine QM.leave (.inl rfl) [.tmp 2, .tmp 3, .tmp 4] Tryd.results8 rfl ?_
   intro w' hm' hc' hg'
   exact ⟨hc', [], EvT.no (by rw [parO_small h1, hp, parL_bad (by omega) (by rw [← hpc]; simpa using h4)]), Mem.nil _, fun p hp => by cases hp⟩
  refine wpM.skip ?_
  refine QM.then (wpM.seq (wpM.region ?_))
  refine LM.mv rfl ?_
  refine LM.rd (om_ldW Tryd.isAgg39 Tryd.sizeOf39 rfl rfl) ?_
  refine LM.single Tryd.underlying23 Tryd.sizeOf39 Tryd.zeroValue39 rfl rfl rfl rfl rfl (fun b39 hb39 => ?_)
  refine LM.app (a := e) Tryd.underlying23 Tryd.typeInfo39 rfl rfl rfl rfl rfl rfl rfl (by assumption) (by rfl) (by intro _; rfl) (by intro _ u hu; simp [fE] at hu; (repeat (first | (rcases hu with rfl | hu) | subst hu | rfl))) (by first | exact Nat.le_refl _ | omega) au10 (by first | omega | (unfold maxLen; omega)) (by simp only [Tryd.t39]; omega) (fun ad40 n40 cap40 m40 hn40 hs40 hin40 => ?_)
  refine LM.as rfl ?_
  refine LM.nil (QM.sub (e' := [(0, _), (5, _), (6, _), (7, _)]) au9 (QM.then (wpM.region ?_)))
  refine LM.mv rfl (LM.mv rfl ?_)
  refine LM.val (ov_add64 rfl rfl (by omega)) ?_
  refine LM.val (ov_add64 rfl rfl (by omega)) ?_
  refine LM.as rfl ?_
  refine LM.nil (QM.sub (e' := [(0, _), (5, _), (6, _)]) au9 ?_)
  refine QM.block_normal ?_
  refine QM.againK ((i + endL s i + 1, out ++ [e], ad40, n40, cap40, m40)) ⟨au2, au2, rfl, trivial⟩ au1 (fun _ h => h) ?_ ?_
  · exact ⟨by omega, by rw [hp, parL_next (by omega) (by omega) (by rw [← hpc]; simpa using h4), ← hpc, ← he (by simpa using h4)], by rw [List.length_append, List.length_singleton]; omega, by rw [List.length_append, List.length_singleton]; exact hn40, hs40⟩
  · first | omega | (dsimp only; omega)
 refine wpM.exit ?_
 refine QM.then_exit ?_
 refine QM.then_exit ?_
 refine QM.block_hit ?_
 refine QM.then (wpM.seq (wpM.region ?_))
 refine LM.mv rfl (LM.as rfl (LM.as rfl (LM.as rfl ?_)))
 refine LM.nil (QM.sub (e' := [(2, _), (3, _), (4, _)]) au9 (QM.then ?_))
 refine wpM.ret ?_
 refine QM.leave (.inl rfl) [.tmp 2, .tmp 3, .tmp 4] Tryd.results8 rfl ?_
 intro w' hm' hc' hg'
 refine ⟨hc', m5, ?_, hm'.pick _, Sl.ge hs5⟩; rw [parO_small h1, hp, parL_end (by omega)]; exact ⟨ad5, n5, cap5, rfl, hn5, hs5⟩
end Go.Eng
namespace Go.Eng
open Go Go.Proofs Go.RowKit
def aw24E : Evt := ⟨5#64, 4, 3, 0, 1⟩
def aw24L : List UInt8 := [53, 32, 97, 99, 113, 117, 105, 114, 101, 32, 51, 32, 48, 32, 49, 10]
def aw24M : List UInt8 := [55, 32, 119, 97, 107, 101, 32, 48, 32, 45, 32, 50, 10]
theorem aw24_line : lineO aw24E = (aw24L, 0) := by decide +kernel
theorem aw24_par : parO aw24M = ([⟨7#64, 7, 0, -1, 2⟩], 0, 0) := by decide +kernel
set_option maxRecDepth 100000 in
set_option maxHeartbeats 2000000 in
theorem awake24_spec (w : World) (hT : Tb w) (hX : MaxI w) : Ret Tryd.prog 7 #[] w (fun v w' => v = .bool true ∧ Ext w w') := by
 refine Ret.enterM (l := []) Tryd.func7 rfl Tryd.ntmps7 rfl ([]) (no) (Mem.nil w) ?_
 refine wpM.seq (wpM.region ?_)
 refine LM.as rfl ?_
 refine LM.nil (QM.sub (e' := []) trivial (QM.then (wpM.seq (wpM.region ?_))))
 refine LM.val (ov_build (cs := #[_, _, _, _, _]) rfl (by first | rfl | kernel_rfl)) ?_
 refine LM.alloc Tryd.zeroValue39 rfl (fun b1 hb1 => ?_)
 refine LM.stW Tryd.sizeOf39 rfl rfl rfl rfl au7 au8 ?_
 refine LM.nil (QM.sub (e' := [(1, _)]) ⟨rfl, trivial⟩ (QM.then (wpM.seq (wpM.region ?_))))
 refine LM.rd (om_ldW Tryd.isAgg39 Tryd.sizeOf39 rfl rfl) ?_
 refine LM.callE (oc_call (enters_fn Tryd.func28 (by kernel_rfl) rfl) rfl) (fun w hm hc hg => aw24_line ▸ eline_spec aw24E w (hT.ext hc)) ?_
 refine LM.mv rfl ?_
 refine LM.val (ov_extract rfl rfl) ?_
 refine LM.val (ov_extract rfl rfl) ?_
 refine LM.as rfl (LM.as rfl ?_)
 refine LM.nil (QM.sub (e' := [(2, _), (3, _)]) au9 (QM.then (wpM.seq (wpM.region ?_))))
 refine LM.callT (oc_call (enters_fn Tryd.func8 (by kernel_rfl) rfl) rfl) EvT.mono (fun w hm hc hg => eparse_spec aw24M w (hX.ext hc)) ?_
 rw [aw24_par]; rintro u14 m14 ⟨ad14, n14, cap14, rfl, hn14, hs14⟩ -; have hn14' : n14 = 1 := hn14
 refine LM.mv rfl ?_
 refine LM.val (ov_extract rfl rfl) ?_
 refine LM.val (ov_extract rfl rfl) ?_
 refine LM.val (ov_extract rfl rfl) ?_
 refine LM.as rfl (LM.as rfl (LM.as rfl ?_))
 refine LM.nil (QM.sub (e' := [(2, _), (3, _), (4, _), (5, _), (6, _)]) au9 (QM.then (wpM.seq (wpM.region ?_))))
 refine LM.mv rfl ?_
 refine LM.val (ov_seqlL rfl rfl) ?_
 refine LM.mv rfl ?_
 refine LM.splitD (t := 20) rfl (fun h1 => ?_) (fun h1 => ?_)
 ·
  refine LM.sp 20 rfl rfl rfl (LM.mv rfl (LM.sp 20 rfl rfl rfl ?_))
  refine LM.val (ov_eql rfl rfl) ?_
  refine LM.val (ov_pickT rfl rfl) ?_
  refine LM.mv rfl ?_
  refine LM.splitD (t := 24) rfl (fun h2 => ?_) (fun h2 => ?_)
  ·
   refine LM.sp 24 rfl rfl rfl (LM.mv rfl (LM.sp 24 rfl rfl rfl ?_))
   refine LM.val (ov_len Tryd.underlying23 rfl) ?_
   refine LM.sp 24 rfl rfl rfl ?_
   refine LM.val (ov_eql rfl rfl) ?_
   refine LM.val (ov_pickT rfl rfl) ?_
   refine LM.mv rfl ?_
   refine LM.splitD (t := 29) rfl (fun h3 => ?_) (fun h3 => ?_)
   ·
    refine LM.sp 29 rfl rfl rfl (LM.mv rfl (LM.sp 29 rfl rfl rfl ?_))
    refine LM.val (ov_eql rfl rfl) ?_
    refine LM.val (ov_pickT rfl rfl) ?_
    refine LM.mv rfl ?_
    refine LM.splitD (t := 33) rfl (fun h4 => ?_) (fun h4 => ?_)
    ·
     refine LM.sp 33 rfl rfl rfl (LM.mv rfl (LM.sp 33 rfl rfl rfl ?_))
     refine LM.val (ov_eql rfl rfl) ?_
     refine LM.val (ov_pickT rfl rfl) ?_
     refine LM.mv rfl ?_
     refine LM.splitD (t := 37) rfl (fun h5 => ?_) (fun h5 => ?_)
     ·
      refine LM.sp 37 rfl rfl rfl (LM.mv rfl (LM.sp 37 rfl rfl rfl ?_))
      refine LM.val (ov_idxSN (i := 0) au6 Tryd.underlying23 Tryd.sizeOf39 rfl rfl (by omega)) ?_
      refine LM.sp 37 rfl rfl rfl ?_
      refine LM.rd (om_slA (by assumption) (by intro _; rfl) Tryd.isAgg39 Tryd.sizeOf39 rfl au3) ?_
      refine LM.sp 37 rfl rfl rfl ?_
      refine LM.val (ov_build (cs := #[_, _, _, _, _]) rfl (by first | rfl | kernel_rfl)) ?_
      refine LM.sp 37 rfl rfl rfl ?_
      refine LM.val (ov_aeql Tryd.underlying39 (by kernel_rfl) (by kernel_rfl) (by decide) rfl rfl (by rfl) ⟨(by first | rfl | trivial), (by first | rfl | trivial), (by first | rfl | trivial), (by first | rfl | trivial), (by first | rfl | trivial), trivial⟩) ?_
      refine LM.val (ov_pickT rfl rfl) ?_
      refine LM.as rfl ?_
      refine LM.nil (QM.sub (e' := [(0, _)]) ⟨rfl, trivial⟩ (QM.then ?_))
      refine wpM.ret ?_
      refine QM.leave (.inl rfl) [.tmp 0] Tryd.results7 rfl ?_
      intro w' hm' hc' hg'
      exact ⟨rfl, hc'⟩
     refine LM.dr 37 rfl rfl rfl (LM.dr 37 rfl rfl rfl (LM.dr 37 rfl rfl rfl (LM.dr 37 rfl rfl rfl (LM.dr 37 rfl rfl rfl ?_))))
     refine LM.val (ov_pickF rfl rfl) ?_
     refine LM.as rfl ?_
     refine LM.nil (QM.sub (e' := [(0, _)]) ⟨rfl, trivial⟩ (QM.then ?_))
     refine wpM.ret ?_
     refine QM.leave (.inl rfl) [.tmp 0] Tryd.results7 rfl ?_
     intro w' hm' hc' hg'
     first | exact ⟨rfl, hc'⟩ | (exfalso; first | omega | (simp at *; done) | (simp_all; done))
    refine LM.dr 33 rfl rfl rfl (LM.dr 33 rfl rfl rfl ?_)
    refine LM.val (ov_pickF rfl rfl) ?_
    refine LM.mv rfl (LM.dr 37 rfl rfl rfl (LM.dr 37 rfl rfl rfl (LM.dr 37 rfl rfl rfl (LM.dr 37 rfl rfl rfl (LM.dr 37 rfl rfl rfl ?_)))))
    refine LM.val (ov_pickF rfl rfl) ?_
    refine LM.as rfl ?_
    refine LM.nil (QM.sub (e' := [(0, _)]) ⟨rfl, trivial⟩ (QM.then ?_))
    refine wpM.ret ?_
    refine QM.leave (.inl rfl) [.tmp 0] Tryd.results7 rfl ?_
    intro w' hm' hc' hg'
    first | exact ⟨rfl, hc'⟩ | (exfalso; first | omega | (simp at *; done) | (simp_all; done))
   refine LM.dr 29 rfl rfl rfl (LM.dr 29 rfl rfl rfl ?_)
   refine LM.val (ov_pickF rfl rfl) ?_
   refine LM.mv rfl (LM.dr 33 rfl rfl rfl (LM.dr 33 rfl rfl rfl ?_))
   refine LM.val (ov_pickF rfl rfl) ?_
   refine LM.mv rfl (LM.dr 37 rfl rfl rfl (LM.dr 37 rfl rfl rfl (LM.dr 37 rfl rfl rfl (LM.dr 37 rfl rfl rfl (LM.dr 37 rfl rfl rfl ?_)))))
   refine LM.val (ov_pickF rfl rfl) ?_
   refine LM.as rfl ?_
   refine LM.nil (QM.sub (e' := [(0, _)]) ⟨rfl, trivial⟩ (QM.then ?_))
   refine wpM.ret ?_
   refine QM.leave (.inl rfl) [.tmp 0] Tryd.results7 rfl ?_
   intro w' hm' hc' hg'
   first | exact ⟨rfl, hc'⟩ | (exfalso; first | omega | (simp at *; done) | (simp_all; done))
  refine LM.dr 24 rfl rfl rfl (LM.dr 24 rfl rfl rfl (LM.dr 24 rfl rfl rfl ?_))
  refine LM.val (ov_pickF rfl rfl) ?_
  refine LM.mv rfl (LM.dr 29 rfl rfl rfl (LM.dr 29 rfl rfl rfl ?_))
  refine LM.val (ov_pickF rfl rfl) ?_
  refine LM.mv rfl (LM.dr 33 rfl rfl rfl (LM.dr 33 rfl rfl rfl ?_))
  refine LM.val (ov_pickF rfl rfl) ?_
  refine LM.mv rfl (LM.dr 37 rfl rfl rfl (LM.dr 37 rfl rfl rfl (LM.dr 37 rfl rfl rfl (LM.dr 37 rfl rfl rfl (LM.dr 37 rfl rfl rfl ?_)))))
  refine LM.val (ov_pickF rfl rfl) ?_
  refine LM.as rfl ?_
  refine LM.nil (QM.sub (e' := [(0, _)]) ⟨rfl, trivial⟩ (QM.then ?_))
  refine wpM.ret ?_
  refine QM.leave (.inl rfl) [.tmp 0] Tryd.results7 rfl ?_
  intro w' hm' hc' hg'
  first | exact ⟨rfl, hc'⟩ | (exfalso; first | omega | (simp at *; done) | (simp_all; done))
 refine LM.dr 20 rfl rfl rfl (LM.dr 20 rfl rfl rfl ?_)
 refine LM.val (ov_pickF rfl rfl) ?_
 refine LM.mv rfl (LM.dr 24 rfl rfl rfl (LM.dr 24 rfl rfl rfl (LM.dr 24 rfl rfl rfl ?_)))
 refine LM.val (ov_pickF rfl rfl) ?_
 refine LM.mv rfl (LM.dr 29 rfl rfl rfl (LM.dr 29 rfl rfl rfl ?_))
 refine LM.val (ov_pickF rfl rfl) ?_
 refine LM.mv rfl (LM.dr 33 rfl rfl rfl (LM.dr 33 rfl rfl rfl ?_))
 refine LM.val (ov_pickF rfl rfl) ?_
 refine LM.mv rfl (LM.dr 37 rfl rfl rfl (LM.dr 37 rfl rfl rfl (LM.dr 37 rfl rfl rfl (LM.dr 37 rfl rfl rfl (LM.dr 37 rfl rfl rfl ?_)))))
 refine LM.val (ov_pickF rfl rfl) ?_
 refine LM.as rfl ?_
 refine LM.nil (QM.sub (e' := [(0, _)]) ⟨rfl, trivial⟩ (QM.then ?_))
 refine wpM.ret ?_
 refine QM.leave (.inl rfl) [.tmp 0] Tryd.results7 rfl ?_
 intro w' hm' hc' hg'
 exact absurd rfl h1
end Go.Eng
namespace Go.Eng
open Go Go.Proofs Go.RowKit
end Go.Eng
namespace Go.Eng
open Go Go.Proofs Go.RowKit
end Go.Eng
